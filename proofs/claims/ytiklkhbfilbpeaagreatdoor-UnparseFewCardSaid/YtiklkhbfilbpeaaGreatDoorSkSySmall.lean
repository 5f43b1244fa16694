/-
  Syntax: a simple command has no more words and redirections than there are tokens, plainly. Conditions: none.
-/
import Derived.Test.YtiklkhbfilbpeaaGreatDoorSkGSyA
set_option linter.unusedVariables false
set_option linter.unusedSimpArgs false
set_option maxRecDepth 100000
namespace Go.Proofs.YtiklkhbfilbpeaaGreatDoor.Sy
open Base Lx
structure SI (s : S) : Prop where
  few : s.2.length ≤ 10000
  small : ∀ n ∈ s.1, n.k = 1 → n.ws.length + n.rs.length ≤ 100000
def Hd {α : Type} (C : α → Prop) (x : P α) : Prop := ∀ y, x = .ok y → SI y.2 ∧ C y.1
abbrev CT {α : Type} : α → Prop := fun _ => True
abbrev CN : Nd → Prop := fun n => n.k ≠ 1
theorem hd_er {α : Type} {C : α → Prop} {e : Int} {s : S} : Hd C (er e s) := fun y h => by cases h
theorem hd_ok {α : Type} {C : α → Prop} {a : α} {s : S} (h : SI s) (hc : C a) : Hd C (.ok (a, s)) := fun y e => by injection e with e; subst e; exact ⟨h, hc⟩
theorem hd_bd {α β : Type} {C : α → Prop} {C' : β → Prop} {x : P α} {f : α → S → P β} (h : Hd C x) (hf : ∀ a t, SI t → C a → Hd C' (f a t)) : Hd C' (bd x f) := fun y hy => by
  obtain ⟨a, t, h1, h2⟩ := bd_inv hy
  exact hf a t (h _ h1).1 (h _ h1).2 y h2
theorem si_of {s t : S} (h : SI s) (h1 : t.1 = s.1) (h2 : t.2.length ≤ s.2.length) : SI t := ⟨by have := h.few; omega, by rw [h1]; exact h.small⟩
theorem hd_idle {α : Type} {s : S} {x : P α} (h : SI s) (h1 : Idle s x) (h2 : Weak s x) : Hd CT x := fun y hy => ⟨si_of h (h1 y hy) (h2 y hy), trivial⟩
theorem si_tk {s : S} (h : SI s) : SI (tk s) := si_of h (tk_ns s) (by unfold tk; split; exact Nat.le_refl _; simp)
theorem si_lns {s : S} (h : SI s) : SI (lns s) := si_of h (lns_ns s) (lns_le s)
theorem hd_put {n : Nd} {s : S} (h : SI s) (hn : n.k = 1 → n.ws.length + n.rs.length ≤ 100000) : Hd CT (putM n s) := hd_ok ⟨h.few, fun m hm => by
  rcases List.mem_append.1 hm with hm | hm
  · exact h.small m hm
  · obtain rfl := List.mem_singleton.1 hm; exact hn⟩ trivial
theorem hd_need {k : Nat} {ts : List Nm} {s : S} (h : SI s) : Hd CT (needM k ts s) := hd_idle h need_idle need_weak
theorem hd_raw {s : S} (h : SI s) : Hd CT (rawM s) := hd_idle h raw_idle raw_weak
theorem hd_redirs {s : S} (h : SI s) : Hd CT (redirsM s) := hd_idle h (redirs_idle s) (redirs_weak s)
theorem hd_loop {α : Type} {cond : S → Bool} {step : α → S → P α} (h : ∀ a s, SI s → Hd CT (step a s)) : ∀ (f : Nat) (a : α) (s : S), SI s → Hd CT (loopP cond step f a s)
  | 0, a, s, hs => hd_ok hs trivial
  | f + 1, a, s, hs => by
    unfold loopP
    split
    · exact hd_bd (h a s hs) fun a t ht _ => hd_loop h f a t ht
    · exact hd_ok hs trivial
theorem simple_hd {s : S} (h : SI s) : Hd CT (simpleM s) := by
  intro y e
  unfold simpleM at e
  obtain ⟨n, t, e1, e2⟩ := bd_inv e
  have hI : (t.1 = s.1 ∧ n.ws.length + n.rs.length + t.2.length ≤ s.2.length) := by
    unfold whileM at e1
    refine loop_inv (I := fun (a : Nd) (u : S) => u.1 = s.1 ∧ a.ws.length + a.rs.length + u.2.length ≤ s.2.length) (fun a u y hi hc e => ?_) _ _ _ (n, t) ⟨rfl, by simp⟩ e1
    split at e
    · rename_i hr
      obtain ⟨x, v, h1, h2⟩ := bd_inv e
      injection h2 with h2
      subst h2
      have h3 := redir_lt hr h1
      have h4 := redir_idle _ _ h1
      simp only [List.length_append, List.length_singleton] at h3 h4 ⊢
      exact ⟨h4.trans hi.1, by omega⟩
    · obtain ⟨x, v, h1, h2⟩ := bd_inv e
      injection h2 with h2
      subst h2
      have h3 := raw_lt h1
      have h4 := raw_idle _ h1
      unfold addW
      simp only [List.length_append, List.length_singleton] at h3 h4 ⊢
      exact ⟨h4.trans hi.1, by omega⟩
  have hf := h.few
  exact hd_put (si_of h hI.1 (by omega)) (fun _ => by omega) y e2
def NestH (nest : S → P Nat) : Prop := ∀ s, SI s → Hd CT (nest s)
section
variable {nest : S → P Nat} (hn : NestH nest)
include hn
theorem cmd_hd {s : S} (h : SI s) : Hd CT (cmdM nest s) := by
  unfold cmdM
  split
  · exact hd_er
  · split
    · exact simple_hd h
    · exact hn s h
theorem pipe_hd {s : S} (h : SI s) : Hd CT (pipeM nest s) := by
  unfold pipeM
  simp only
  have h0 : SI (if isM 1 [[33]] s = true then tk s else s) := by
    split
    · exact si_tk h
    · exact h
  refine hd_bd (cmd_hd hn h0) fun k t ht _ => hd_bd (hd_loop (fun l u hu => hd_bd (cmd_hd hn (si_lns (si_tk hu))) fun k v hv _ => hd_ok hv trivial) _ _ _ ht) fun ks u hu _ => ?_
  split
  · exact hd_ok hu trivial
  · exact hd_put hu (fun h => by cases h)
theorem andor_hd {s : S} (h : SI s) : Hd CT (andorM nest s) := by
  unfold andorM
  refine hd_bd (pipe_hd hn h) fun k t ht _ => hd_loop (fun l u hu => hd_bd (pipe_hd hn (si_lns (si_tk hu))) fun k v hv _ => hd_put hv ?_) _ _ _ ht
  intro hk
  simp only at hk
  split at hk <;> cases hk
theorem listF_hd : ∀ (f : Nat) (ks : List Nat) (s : S), SI s → Hd CT (listF nest f ks s)
  | 0, ks, s, h => hd_ok h trivial
  | f + 1, ks, s, h => by
    unfold listF
    split
    · refine hd_bd (andor_hd hn h) fun k t ht _ => ?_
      split
      · exact hd_ok ht trivial
      · exact listF_hd f _ _ (si_lns (si_tk ht))
    · exact hd_ok h trivial
theorem list_hd (em : Bool) {s : S} (h : SI s) : Hd CT (listM nest em s) := by
  unfold listM
  refine hd_bd (listF_hd hn _ _ _ (si_lns h)) fun ks t ht _ => ?_
  split
  · exact hd_er
  · exact hd_put ht (fun h => by cases h)
theorem body_hd {s : S} (h : SI s) : Hd CT (bodyM nest s) := by
  unfold bodyM
  exact hd_bd (hd_need h) fun _ t ht _ => hd_bd (list_hd hn false ht) fun k u hu _ => hd_bd (hd_need hu) fun _ v hv _ => hd_ok hv trivial
theorem group_hd (ln : Nat) {s : S} (h : SI s) : Hd CN (groupM nest ln s) := by
  unfold groupM
  exact hd_bd (list_hd hn false (si_tk h)) fun k u hu _ => hd_bd (hd_need hu) fun _ v hv _ => hd_ok hv (by intro h; cases h)
theorem sub_hd (ln : Nat) {s : S} (h : SI s) : Hd CN (subM nest ln s) := by
  unfold subM
  exact hd_bd (list_hd hn false (si_tk h)) fun k u hu _ => hd_bd (hd_need hu) fun _ v hv _ => hd_ok hv (by intro h; cases h)
theorem asks_hd : ∀ (f ln : Nat) (s : S), SI s → Hd CN (asksF nest f ln s)
  | 0, ln, s, _ => hd_er
  | f + 1, ln, s, h => by
    unfold asksF
    refine hd_bd (list_hd hn false (si_tk h)) fun c t ht _ => hd_bd (hd_need ht) fun _ u hu _ => hd_bd (list_hd hn false hu) fun b v hv _ => ?_
    split
    · exact hd_bd (asks_hd f _ v hv) fun n w hw hc => hd_bd (hd_put hw (fun h => absurd h hc)) fun k x hx _ => hd_ok hx (by intro h; cases h)
    · split
      · exact hd_bd (list_hd hn false (si_tk hv)) fun k w hw _ => hd_bd (hd_need hw) fun _ x hx _ => hd_ok hx (by intro h; cases h)
      · exact hd_bd (hd_need hv) fun _ x hx _ => hd_ok hx (by intro h; cases h)
theorem whil_hd (ln : Nat) {s : S} (h : SI s) : Hd CN (whilM nest ln s) := by
  unfold whilM
  exact hd_bd (list_hd hn false (si_tk h)) fun c t ht _ => hd_bd (body_hd hn ht) fun b u hu _ => hd_ok hu (by intro h; cases h)
theorem each_hd (ln : Nat) {s : S} (h : SI s) : Hd CN (eachM nest ln s) := by
  unfold eachM
  simp only
  split
  · exact hd_er
  · refine hd_bd (hd_raw (si_tk h)) fun t u hu _ => ?_
    split
    · exact hd_bd (body_hd hn (si_lns (si_tk hu))) fun b v hv _ => hd_ok hv (by intro h; cases h)
    · split
      · refine hd_bd (hd_loop (fun l u hu => hd_bd (hd_raw hu) fun w v hv _ => hd_ok hv trivial) _ _ _ (si_tk (si_lns hu))) fun ws v hv _ => ?_
        split
        · exact hd_er
        · exact hd_bd (body_hd hn (si_lns (si_tk hv))) fun b w hw _ => hd_ok hw (by intro h; cases h)
      · exact hd_bd (body_hd hn (si_lns hu)) fun b v hv _ => hd_ok hv (by intro h; cases h)
theorem item_hd {s : S} (h : SI s) : Hd CT (itemM nest s) := by
  unfold itemM
  have h0 : SI (if isM 2 [[40]] s = true then tk s else s) := by
    split
    · exact si_tk h
    · exact h
  exact hd_bd (hd_raw h0) fun w t ht _ => hd_bd (hd_loop (fun l u hu => hd_bd (hd_raw (si_tk hu)) fun w v hv _ => hd_ok hv trivial) _ _ _ ht) fun ws u hu _ => hd_bd (hd_need hu) fun _ v hv _ => hd_bd (list_hd hn true hv) fun k w hw _ => hd_put hw (fun h => by cases h)
theorem items_hd : ∀ (f : Nat) (ks : List Nat) (s : S), SI s → Hd CT (itemsF nest f ks s)
  | 0, ks, s, h => hd_ok h trivial
  | f + 1, ks, s, h => by
    unfold itemsF
    split
    · exact hd_ok h trivial
    · refine hd_bd (item_hd hn h) fun k t ht _ => ?_
      split
      · exact items_hd f _ _ (si_lns (si_tk ht))
      · exact hd_ok ht trivial
theorem cases_hd (ln : Nat) {s : S} (h : SI s) : Hd CN (casesM nest ln s) := by
  unfold casesM
  exact hd_bd (hd_raw (si_tk h)) fun t u hu _ => hd_bd (hd_need (si_lns hu)) fun _ v hv _ => hd_bd (items_hd hn _ _ _ (si_lns hv)) fun ks w hw _ => hd_bd (hd_need hw) fun _ x hx _ => hd_ok hx (by intro h; cases h)
theorem comp_hd (ln : Nat) {s : S} (h : SI s) : Hd CN (compM nest ln s) := by
  unfold compM
  split
  · exact sub_hd hn ln h
  · split
    · exact group_hd hn ln h
    · split
      · exact asks_hd hn _ ln s h
      · split
        · exact each_hd hn ln h
        · split
          · exact cases_hd hn ln h
          · exact whil_hd hn ln h
theorem func_hd (ln : Nat) {s : S} (h : SI s) : Hd CN (funcM nest ln s) := by
  unfold funcM
  refine hd_bd (hd_raw h) fun t u hu _ => hd_bd (hd_need hu) fun _ v hv _ => hd_bd (hd_need hv) fun _ w hw _ => ?_
  simp only
  split
  · exact hd_er
  · exact hd_bd (hn _ (si_lns hw)) fun k x hx _ => hd_ok hx (by intro h; cases h)
end
theorem nest_hd : ∀ n : Nat, NestH (nestD n)
  | 0 => fun s _ => hd_er
  | n + 1 => fun s h => by
    unfold nestD
    split
    · exact hd_bd (comp_hd (nest_hd n) _ h) fun x t ht hc => hd_bd (hd_redirs ht) fun rs u hu _ => hd_put hu (fun h => absurd h hc)
    · exact hd_bd (func_hd (nest_hd n) _ h) fun x t ht hc => hd_put ht (fun h => absurd h hc)
end Go.Proofs.YtiklkhbfilbpeaaGreatDoor.Sy
