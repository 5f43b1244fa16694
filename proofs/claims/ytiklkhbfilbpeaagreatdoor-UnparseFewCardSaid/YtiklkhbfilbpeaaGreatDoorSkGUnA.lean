/-
  Syntax: where a tree's words come from: its tokens, plainly. Conditions: none.
  Lexer: how long tokens are in all; what stands behind a number of a redirection, as plain laws. No program stands here. Conditions: as each law says.
  Unparse: a bound on what is shown, as a plain law. No program stands here. Conditions: as each law says.
-/
import Derived.Test.YtiklkhbfilbpeaaGreatDoorSkGSyA
import Derived.Test.YtiklkhbfilbpeaaGreatDoorSkLxPlain
import Derived.Test.YtiklkhbfilbpeaaGreatDoorSkUnFew
set_option linter.unusedVariables false
set_option linter.unusedSimpArgs false
set_option maxRecDepth 100000
namespace Go.Proofs.YtiklkhbfilbpeaaGreatDoor.Sy
open Lx
abbrev sg4 : List Nm := [[60], [62], [60, 60], [62, 62]]
/-- What is known of rows of tokens, and of each token. -/
structure Pv (M : Nat) (Q : List Tok → Prop) (T : Tok → Prop) : Prop where
  head : ∀ {t l}, Q (t :: l) → T t
  tail : ∀ {t l}, Q (t :: l) → Q l
  io : ∀ {t u l}, Q (t :: u :: l) → t.k = 5 → u.t ∈ sg4
  last : ∀ {t}, Q [t] → t.k ≠ 5
def WP (T : Tok → Prop) (w : Nm) : Prop := ∃ t, T t ∧ t.k = 1 ∧ t.t = w
def RP (T : Tok → Prop) (r : Rdr) : Prop := r.fd ≤ 99 ∧ r.o ∈ sg4 ∧ ∃ t, T t ∧ t.k = 1 ∧ r.w = t.t ∧ r.b = t.b
structure NP (M : Nat) (T : Tok → Prop) (n : Nd) : Prop where
  wl : n.ws.length ≤ M
  ws : ∀ w ∈ n.ws, WP T w
  rl : n.rs.length ≤ M
  rs : ∀ r ∈ n.rs, RP T r
  t : n.t = [] ∨ WP T n.t
structure SP (M : Nat) (Q : List Tok → Prop) (T : Tok → Prop) (s : S) : Prop where
  few : s.2.length ≤ M
  q : Q s.2
  nodes : ∀ n ∈ s.1, NP M T n
def Hp {α : Type} (M : Nat) (Q : List Tok → Prop) (T : Tok → Prop) (C : α → Prop) (x : P α) : Prop := ∀ y, x = .ok y → SP M Q T y.2 ∧ C y.1
section
variable {M : Nat} {Q : List Tok → Prop} {T : Tok → Prop} (hv : Pv M Q T)
theorem hp_er {α : Type} {C : α → Prop} {e : Int} {s : S} : Hp M Q T C (er e s) := fun y h => by cases h
theorem hp_ok {α : Type} {C : α → Prop} {a : α} {s : S} (h : SP M Q T s) (hc : C a) : Hp M Q T C (.ok (a, s)) := fun y e => by injection e with e; subst e; exact ⟨h, hc⟩
theorem hp_bd {α β : Type} {C : α → Prop} {C' : β → Prop} {x : P α} {f : α → S → P β} (h : Hp M Q T C x) (hf : ∀ a t, SP M Q T t → C a → Hp M Q T C' (f a t)) : Hp M Q T C' (bd x f) := fun y hy => by
  obtain ⟨a, t, h1, h2⟩ := bd_inv hy
  exact hf a t (h _ h1).1 (h _ h1).2 y h2
theorem hp_put {n : Nd} {s : S} (h : SP M Q T s) (hn : NP M T n) : Hp M Q T (fun _ => True) (putM n s) := hp_ok ⟨h.few, h.q, fun m hm => by
  rcases List.mem_append.1 hm with hm | hm
  · exact h.nodes m hm
  · obtain rfl := List.mem_singleton.1 hm; exact hn⟩ trivial
include hv
theorem sp_tk {s : S} (h : SP M Q T s) : SP M Q T (tk s) := by
  unfold tk
  split
  · exact h
  · refine ⟨by have := h.few; simp; omega, ?_, h.nodes⟩
    show Q s.2.tail
    have hq := h.q
    cases hs : s.2 with
    | nil => rw [hs] at hq; exact hq
    | cons t l => rw [hs] at hq; exact hv.tail hq
theorem q_drop : ∀ {l : List Tok}, Q l → Q (dropL l)
  | [], h => h
  | t :: l, h => by
    unfold dropL
    split
    · exact q_drop (hv.tail h)
    · exact h
theorem sp_lns {s : S} (h : SP M Q T s) : SP M Q T (lns s) := ⟨Nat.le_trans (lns_le s) h.few, q_drop hv h.q, h.nodes⟩
theorem sp_nx {s : S} (h : SP M Q T s) (h4 : (nx s).k ≠ 4) : T (nx s) := by
  have hq := h.q
  unfold nx at h4 ⊢
  cases hs : s.2 with
  | nil => rw [hs] at h4; exact absurd rfl h4
  | cons t l => rw [hs] at hq; exact hv.head hq
theorem hp_need {k : Nat} {ts : List Nm} {s : S} (h : SP M Q T s) : Hp M Q T (fun _ => True) (needM k ts s) := by
  unfold needM
  split
  · exact hp_ok (sp_tk hv h) trivial
  · exact hp_er
theorem hp_raw {s : S} (h : SP M Q T s) : Hp M Q T (WP T) (rawM s) := by
  unfold rawM
  split
  · rename_i hk
    exact hp_ok (sp_tk hv h) ⟨nx s, sp_nx hv h (by rw [hk]; decide), hk, rfl⟩
  · exact hp_er
theorem hp_redir {s : S} (h : SP M Q T s) (hr : redirects s = true) : Hp M Q T (RP T) (redirM s) := by
  unfold redirM
  simp only
  have key : ∀ (t : S) (fd : Nat) (op : Nm), SP M Q T t → fd ≤ 99 → op ∈ sg4 → Hp M Q T (RP T) (bd (rawM t) fun w s3 => .ok ((⟨fd, op, w, (nx t).b⟩ : Rdr), s3)) := fun t fd op ht hf ho y hy => by
    obtain ⟨w, u, h1, h2⟩ := bd_inv hy
    injection h2 with h2
    subst h2
    have h3 := hp_raw hv ht _ h1
    refine ⟨h3.1, hf, ho, nx t, ?_⟩
    unfold rawM at h1
    split at h1
    · rename_i hk
      injection h1 with h1
      injection h1 with h1 _
      exact ⟨sp_nx hv ht (by rw [hk]; decide), hk, h1.symm, rfl⟩
    · cases h1
  by_cases hk : (nx s).k = 5
  · simp only [hk, decide_true, if_true]
    have h1 := sp_tk hv h
    refine key _ _ _ (sp_tk hv h1) (Nat.min_le_right _ _) ?_
    have hq := h.q
    have h4 : (nx s).k ≠ 4 := by rw [hk]; decide
    unfold tk
    rw [if_neg h4]
    unfold nx at hk ⊢
    cases hs : s.2 with
    | nil => rw [hs] at hk; cases hk
    | cons t l =>
      rw [hs] at hq hk
      cases l with
      | nil => exact absurd hk (hv.last hq)
      | cons u l => exact hv.io hq hk
  · simp only [hk, decide_false, if_false, Bool.false_eq_true]
    refine key _ _ _ (sp_tk hv h) (by split <;> omega) ?_
    unfold redirects at hr
    simp only [hk, decide_false, Bool.false_or] at hr
    unfold isM at hr
    rw [Bool.and_eq_true] at hr
    exact List.contains_iff_mem.1 hr.2
omit hv in
theorem hp_loop {α : Type} {C : α → Prop} {cond : S → Bool} {step : α → S → P α} (h : ∀ a s, SP M Q T s → cond s = true → C a → Hp M Q T C (step a s)) (a : α) (s : S) (hs : SP M Q T s) (ha : C a) : Hp M Q T C (whileM cond step a s) := fun y e =>
  loop_inv (I := fun a s => SP M Q T s ∧ C a) (fun a s y hi hc e => h a s hi.1 hc hi.2 y e) _ _ _ _ ⟨hs, ha⟩ e
omit hv in
/-- A loop that counts what it takes. -/
theorem hp_count {α : Type} {C : α → Prop} {m : α → Nat} {cond : S → Bool} {step : α → S → P α} (h : ∀ a s, SP M Q T s → cond s = true → C a → Hp M Q T C (step a s)) (hm : ∀ a s y, cond s = true → step a s = .ok y → m y.1 + y.2.2.length ≤ m a + s.2.length) (N : Nat) (a : α) (s : S) (hs : SP M Q T s) (ha : C a) (hN : m a + s.2.length ≤ N) : Hp M Q T (fun a => C a ∧ m a ≤ N) (whileM cond step a s) := fun y e => by
  have := loop_inv (I := fun a s => SP M Q T s ∧ C a ∧ m a + s.2.length ≤ N) (fun a s y hi hc e => ⟨(h a s hi.1 hc hi.2.1 y e).1, (h a s hi.1 hc hi.2.1 y e).2, by have := hm a s y hc e; omega⟩) _ _ _ _ ⟨hs, ha, hN⟩ e
  exact ⟨this.1, this.2.1, by omega⟩
theorem hp_redirs {s : S} (h : SP M Q T s) : Hp M Q T (fun rs : List Rdr => (∀ r ∈ rs, RP T r) ∧ rs.length ≤ M) (redirsM s) := by
  refine hp_count (C := fun rs : List Rdr => ∀ r ∈ rs, RP T r) (m := List.length) (fun a s hs hc ha => hp_bd (hp_redir hv hs hc) fun x t ht hx => hp_ok ht fun r hr => ?_) (fun a s y hc e => ?_) M [] s h (fun r hr => absurd hr List.not_mem_nil) (by simpa using h.few)
  · rcases List.mem_append.1 hr with hr | hr
    · exact ha r hr
    · rw [List.mem_singleton.1 hr]; exact hx
  · obtain ⟨x, v, h1, h2⟩ := bd_inv e
    injection h2 with h2
    subst h2
    have := redir_lt hc h1
    simp at this ⊢; omega
theorem hp_words {s : S} (h : SP M Q T s) : Hp M Q T (fun ws : List Nm => (∀ w ∈ ws, WP T w) ∧ ws.length ≤ M) (whileM wrdB wrdT [] s) := by
  refine hp_count (C := fun ws : List Nm => ∀ w ∈ ws, WP T w) (m := List.length) (fun a s hs hc ha => hp_bd (hp_raw hv hs) fun x t ht hx => hp_ok ht fun r hr => ?_) (fun a s y hc e => ?_) M [] s h (fun r hr => absurd hr List.not_mem_nil) (by simpa using h.few)
  · rcases List.mem_append.1 hr with hr | hr
    · exact ha r hr
    · rw [List.mem_singleton.1 hr]; exact hx
  · obtain ⟨x, v, h1, h2⟩ := bd_inv e
    injection h2 with h2
    subst h2
    have := raw_lt h1
    simp at this ⊢; omega
theorem hp_alts {s : S} {w : Nm} (hw : WP T w) (h : SP M Q T s) (hl : 1 + s.2.length ≤ M) : Hp M Q T (fun ws : List Nm => (∀ w ∈ ws, WP T w) ∧ ws.length ≤ M) (whileM (isM 2 [[124]]) altT [w] s) := by
  refine hp_count (C := fun ws : List Nm => ∀ w ∈ ws, WP T w) (m := List.length) (fun a s hs hc ha => hp_bd (hp_raw hv (sp_tk hv hs)) fun x t ht hx => hp_ok ht fun r hr => ?_) (fun a s y hc e => ?_) M [w] s h (fun r hr => by rw [List.mem_singleton.1 hr]; exact hw) (by simpa [Nat.add_comm] using hl)
  · rcases List.mem_append.1 hr with hr | hr
    · exact ha r hr
    · rw [List.mem_singleton.1 hr]; exact hx
  · obtain ⟨x, v, h1, h2⟩ := bd_inv e
    injection h2 with h2
    subst h2
    have h3 := raw_lt h1
    have h4 := tk_le s
    simp at h3 h4 ⊢; omega
omit hv in
theorem np_kids {n : Nd} (h1 : n.ws = []) (h2 : n.rs = []) (h3 : n.t = []) : NP M T n := ⟨by simp [h1], fun w hw => (by rw [h1] at hw; cases hw), by simp [h2], fun r hr => (by rw [h2] at hr; cases hr), .inl h3⟩
theorem simple_hp {s : S} (h : SP M Q T s) : Hp M Q T (fun _ => True) (simpleM s) := by
  unfold simpleM
  have hl := hp_count (C := fun n : Nd => (∀ w ∈ n.ws, WP T w) ∧ (∀ r ∈ n.rs, RP T r) ∧ n.t = []) (m := fun n : Nd => n.ws.length + n.rs.length) (cond := simB) (step := simT) (fun a s hs hc ha => ?_) (fun a s y hc e => ?_) M ({ k := 1, ln := (nx s).ln } : Nd) s h ⟨fun w hw => absurd hw List.not_mem_nil, fun r hr => absurd hr List.not_mem_nil, rfl⟩ (by simpa using h.few)
  · exact hp_bd hl fun n t ht hn => hp_put ht ⟨by have := hn.2; omega, hn.1.1, by have := hn.2; omega, hn.1.2.1, .inl hn.1.2.2⟩
  · unfold simT
    split
    · rename_i hr
      refine hp_bd (hp_redir hv hs hr) fun x t ht hx => hp_ok ht ⟨ha.1, fun r hr => ?_, ha.2.2⟩
      rcases List.mem_append.1 hr with hr | hr
      · exact ha.2.1 r hr
      · rw [List.mem_singleton.1 hr]; exact hx
    · refine hp_bd (hp_raw hv hs) fun x t ht hx => hp_ok ht ⟨fun w hw => ?_, ha.2.1, ha.2.2⟩
      rcases List.mem_append.1 hw with hw | hw
      · exact ha.1 w hw
      · rw [List.mem_singleton.1 hw]; exact hx
  · unfold simT at e
    split at e
    · rename_i hr
      obtain ⟨x, v, h1, h2⟩ := bd_inv e
      injection h2 with h2
      subst h2
      have := redir_lt hr h1
      simp at this ⊢; omega
    · obtain ⟨x, v, h1, h2⟩ := bd_inv e
      injection h2 with h2
      subst h2
      have := raw_lt h1
      unfold addW
      simp at this ⊢; omega
section
variable {nest : S → P Nat} (hn : ∀ s, SP M Q T s → Hp M Q T (fun _ => True) (nest s))
include hn
theorem cmd_hp {s : S} (h : SP M Q T s) : Hp M Q T (fun _ => True) (cmdM nest s) := by
  unfold cmdM
  split
  · exact hp_er
  · split
    · exact simple_hp hv h
    · exact hn s h
theorem pipe_hp {s : S} (h : SP M Q T s) : Hp M Q T (fun _ => True) (pipeM nest s) := by
  unfold pipeM
  simp only
  have h0 : SP M Q T (if isM 1 [[33]] s = true then tk s else s) := by
    split
    · exact sp_tk hv h
    · exact h
  refine hp_bd (cmd_hp hv hn h0) fun k t ht _ => hp_bd (hp_loop (C := (fun _ => True)) (fun l u hu _ _ => hp_bd (cmd_hp hv hn (sp_lns hv (sp_tk hv hu))) fun k v hw _ => hp_ok hw trivial) _ _ ht trivial) fun ks u hu _ => ?_
  split
  · exact hp_ok hu trivial
  · exact hp_put hu (np_kids rfl rfl rfl)
theorem andor_hp {s : S} (h : SP M Q T s) : Hp M Q T (fun _ => True) (andorM nest s) := by
  unfold andorM
  exact hp_bd (pipe_hp hv hn h) fun k t ht _ => hp_loop (C := (fun _ => True)) (fun l u hu _ _ => hp_bd (pipe_hp hv hn (sp_lns hv (sp_tk hv hu))) fun k v hw _ => hp_put hw (np_kids rfl rfl rfl)) _ _ ht trivial
theorem listF_hp : ∀ (f : Nat) (ks : List Nat) (s : S), SP M Q T s → Hp M Q T (fun _ => True) (listF nest f ks s)
  | 0, ks, s, h => hp_ok h trivial
  | f + 1, ks, s, h => by
    unfold listF
    split
    · refine hp_bd (andor_hp hv hn h) fun k t ht _ => ?_
      split
      · exact hp_ok ht trivial
      · exact listF_hp f _ _ (sp_lns hv (sp_tk hv ht))
    · exact hp_ok h trivial
theorem list_hp (em : Bool) {s : S} (h : SP M Q T s) : Hp M Q T (fun _ => True) (listM nest em s) := by
  unfold listM
  refine hp_bd (listF_hp hv hn _ _ _ (sp_lns hv h)) fun ks t ht _ => ?_
  split
  · exact hp_er
  · exact hp_put ht (np_kids rfl rfl rfl)
theorem body_hp {s : S} (h : SP M Q T s) : Hp M Q T (fun _ => True) (bodyM nest s) := by
  unfold bodyM
  exact hp_bd (hp_need hv h) fun _ t ht _ => hp_bd (list_hp hv hn false ht) fun k u hu _ => hp_bd (hp_need hv hu) fun _ v hw _ => hp_ok hw trivial
/-- A compound's own row of redirections is empty as yet. -/
abbrev CP (M : Nat) (T : Tok → Prop) : Nd → Prop := fun n => NP M T n
theorem group_hp (ln : Nat) {s : S} (h : SP M Q T s) : Hp M Q T (CP M T) (groupM nest ln s) := by
  unfold groupM
  exact hp_bd (list_hp hv hn false (sp_tk hv h)) fun k u hu _ => hp_bd (hp_need hv hu) fun _ v hw _ => hp_ok hw (np_kids rfl rfl rfl)
theorem sub_hp (ln : Nat) {s : S} (h : SP M Q T s) : Hp M Q T (CP M T) (subM nest ln s) := by
  unfold subM
  exact hp_bd (list_hp hv hn false (sp_tk hv h)) fun k u hu _ => hp_bd (hp_need hv hu) fun _ v hw _ => hp_ok hw (np_kids rfl rfl rfl)
theorem asks_hp : ∀ (f ln : Nat) (s : S), SP M Q T s → Hp M Q T (CP M T) (asksF nest f ln s)
  | 0, ln, s, _ => hp_er
  | f + 1, ln, s, h => by
    unfold asksF
    refine hp_bd (list_hp hv hn false (sp_tk hv h)) fun c t ht _ => hp_bd (hp_need hv ht) fun _ u hu _ => hp_bd (list_hp hv hn false hu) fun b v hw _ => ?_
    split
    · exact hp_bd (asks_hp f _ v hw) fun n w hx hc => hp_bd (hp_put hx hc) fun k x hy _ => hp_ok hy (np_kids rfl rfl rfl)
    · split
      · exact hp_bd (list_hp hv hn false (sp_tk hv hw)) fun k w hx _ => hp_bd (hp_need hv hx) fun _ x hy _ => hp_ok hy (np_kids rfl rfl rfl)
      · exact hp_bd (hp_need hv hw) fun _ x hy _ => hp_ok hy (np_kids rfl rfl rfl)
theorem whil_hp (ln : Nat) {s : S} (h : SP M Q T s) : Hp M Q T (CP M T) (whilM nest ln s) := by
  unfold whilM
  exact hp_bd (list_hp hv hn false (sp_tk hv h)) fun c t ht _ => hp_bd (body_hp hv hn ht) fun b u hu _ => hp_ok hu (np_kids rfl rfl rfl)
theorem each_hp (ln : Nat) {s : S} (h : SP M Q T s) : Hp M Q T (CP M T) (eachM nest ln s) := by
  unfold eachM
  simp only
  split
  · exact hp_er
  · refine hp_bd (hp_raw hv (sp_tk hv h)) fun t u hu ht => ?_
    have np : ∀ (ws : List Nm) (fl : Bool) (ks : List Nat), (∀ w ∈ ws, WP T w) → ws.length ≤ M → NP M T { k := 8, t := t, fl := fl, ws := ws, ks := ks, ln := ln } := fun ws fl ks h1 h2 => ⟨h2, h1, Nat.zero_le _, fun r hr => absurd hr List.not_mem_nil, .inr ht⟩
    split
    · exact hp_bd (body_hp hv hn (sp_lns hv (sp_tk hv hu))) fun b v hw _ => hp_ok hw (np [] true [b] (fun w hw => absurd hw List.not_mem_nil) (Nat.zero_le _))
    · split
      · refine hp_bd (hp_words hv (sp_tk hv (sp_lns hv hu))) fun ws v hw hws => ?_
        split
        · exact hp_er
        · exact hp_bd (body_hp hv hn (sp_lns hv (sp_tk hv hw))) fun b w hx _ => hp_ok hx (np ws false [b] hws.1 hws.2)
      · exact hp_bd (body_hp hv hn (sp_lns hv hu)) fun b v hw _ => hp_ok hw (np [] true [b] (fun w hw => absurd hw List.not_mem_nil) (Nat.zero_le _))
theorem item_hp {s : S} (h : SP M Q T s) : Hp M Q T (fun _ => True) (itemM nest s) := by
  unfold itemM
  have h0 : SP M Q T (if isM 2 [[40]] s = true then tk s else s) := by
    split
    · exact sp_tk hv h
    · exact h
  intro y hy
  obtain ⟨w, t, h1, h2⟩ := bd_inv hy
  have h3 := hp_raw hv h0 _ h1
  have h4 := raw_lt h1
  have h5 := h0.few
  exact hp_bd (hp_alts hv h3.2 h3.1 (by simp only at h4 ⊢; omega)) (fun ws u hu hws => hp_bd (hp_need hv hu) fun _ v hw _ => hp_bd (list_hp hv hn true hw) fun k x hx _ => hp_put hx ⟨hws.2, hws.1, Nat.zero_le _, fun r hr => absurd hr List.not_mem_nil, .inl rfl⟩) y h2
theorem items_hp : ∀ (f : Nat) (ks : List Nat) (s : S), SP M Q T s → Hp M Q T (fun _ => True) (itemsF nest f ks s)
  | 0, ks, s, h => hp_ok h trivial
  | f + 1, ks, s, h => by
    unfold itemsF
    split
    · exact hp_ok h trivial
    · refine hp_bd (item_hp hv hn h) fun k t ht _ => ?_
      split
      · exact items_hp f _ _ (sp_lns hv (sp_tk hv ht))
      · exact hp_ok ht trivial
theorem cases_hp (ln : Nat) {s : S} (h : SP M Q T s) : Hp M Q T (CP M T) (casesM nest ln s) := by
  unfold casesM
  exact hp_bd (hp_raw hv (sp_tk hv h)) fun t u hu htt => hp_bd (hp_need hv (sp_lns hv hu)) fun _ v hw _ => hp_bd (items_hp hv hn _ _ _ (sp_lns hv hw)) fun ks w hx _ => hp_bd (hp_need hv hx) fun _ x hy _ => hp_ok hy ⟨Nat.zero_le _, fun w hw => absurd hw List.not_mem_nil, Nat.zero_le _, fun r hr => absurd hr List.not_mem_nil, .inr htt⟩
theorem comp_hp (ln : Nat) {s : S} (h : SP M Q T s) : Hp M Q T (CP M T) (compM nest ln s) := by
  unfold compM
  split
  · exact sub_hp hv hn ln h
  · split
    · exact group_hp hv hn ln h
    · split
      · exact asks_hp hv hn _ ln s h
      · split
        · exact each_hp hv hn ln h
        · split
          · exact cases_hp hv hn ln h
          · exact whil_hp hv hn ln h
theorem func_hp (ln : Nat) {s : S} (h : SP M Q T s) : Hp M Q T (CP M T) (funcM nest ln s) := by
  unfold funcM
  refine hp_bd (hp_raw hv h) fun t u hu htt => hp_bd (hp_need hv hu) fun _ v hw _ => hp_bd (hp_need hv hw) fun _ w hx _ => ?_
  simp only
  split
  · exact hp_er
  · exact hp_bd (hn _ (sp_lns hv hx)) fun k x hy _ => hp_ok hy ⟨Nat.zero_le _, fun w hw => absurd hw List.not_mem_nil, Nat.zero_le _, fun r hr => absurd hr List.not_mem_nil, .inr htt⟩
end
theorem nest_hp : ∀ (n : Nat) (s : S), SP M Q T s → Hp M Q T (fun _ => True) (nestD n s)
  | 0, s, _ => hp_er
  | n + 1, s, h => by
    unfold nestD
    split
    · exact hp_bd (comp_hp hv (nest_hp n) _ h) fun x t ht hc => hp_bd (hp_redirs hv ht) fun rs u hu hrs => hp_put hu ⟨hc.wl, hc.ws, hrs.2, hrs.1, hc.t⟩
    · exact hp_bd (func_hp hv (nest_hp n) _ h) fun x t ht hc => hp_put ht hc
/-- Where a tree's words come from. -/
theorem parse_prov {s : Nm} {L : List Tok} {l : List Nd} (hL : allM s = .ok L) (hq : Q L) (hM : L.length ≤ M) (h : parseM s = .ok l) : ∀ n ∈ l, NP M T n := by
  unfold parseM at h
  rw [hL] at h
  simp only at h
  cases hr : listM (nestD 40) true ([], L) with
  | error x => rw [hr] at h; cases h
  | ok x =>
    rw [hr] at h
    simp only at h
    split at h
    · cases h
    · injection h with h
      subst h
      exact (list_hp hv (nest_hp hv 40) true ⟨hM, hq, fun n hn => absurd hn List.not_mem_nil⟩ x hr).1.nodes
end
end Go.Proofs.YtiklkhbfilbpeaaGreatDoor.Sy
set_option linter.unusedVariables false
set_option linter.unusedSimpArgs false
namespace Go.Proofs.YtiklkhbfilbpeaaGreatDoor.Lx
def tokLen (l : List Tok) : Nat := (l.map fun t => t.t.length + t.b.length).sum
theorem tokLen_add (l : List Tok) (t : Tok) : tokLen (l ++ [t]) = tokLen l + (t.t.length + t.b.length) := by unfold tokLen; rw [List.map_append, List.sum_append]; simp
theorem tokLen_mod (x : Nm) : ∀ (l : List Tok) (i : Nat), tokLen (l.modify i (addB x)) ≤ tokLen l + x.length
  | [], i => by cases i <;> exact Nat.zero_le _
  | t :: l, 0 => by
    show tokLen (addB x t :: l) ≤ _
    unfold tokLen addB
    simp only [List.map_cons, List.sum_cons, List.length_append]
    omega
  | t :: l, i + 1 => by
    have := tokLen_mod x l i
    show tokLen (t :: l.modify i (addB x)) ≤ _
    unfold tokLen at this ⊢
    simp only [List.map_cons, List.sum_cons]
    omega
theorem tokLen_mem {l : List Tok} {t : Tok} (h : t ∈ l) : t.t.length + t.b.length ≤ tokLen l := by
  induction l with
  | nil => cases h
  | cons u l ih =>
    unfold tokLen at ih ⊢
    simp only [List.map_cons, List.sum_cons]
    rcases List.mem_cons.1 h with rfl | h
    · omega
    · have := ih h; omega
theorem cutLn_out (s : Nm) : (cutLn s).1.length + (cutLn s).2.length ≤ s.length ∧ (s ≠ [] → (cutLn s).2 ≠ [] → (cutLn s).1.length + 1 + (cutLn s).2.length ≤ s.length) := by
  unfold cutLn
  cases h : cutAt 10 s with
  | none => exact ⟨by simp, fun _ hn => absurd rfl hn⟩
  | some x =>
    have := congrArg List.length (cut_len h)
    simp at this
    exact ⟨by simp only; omega, fun _ _ => by simp only; omega⟩
theorem hereF_out (e : Nm) : ∀ f s x, hereF e f s = .ok x → x.1.length + x.2.length ≤ s.length
  | 0, s, x, h => by cases h
  | f + 1, s, x, h => by
    unfold hereF at h
    split at h
    · cases h
    · rename_i hs
      have h1 := cutLn_out s
      split at h
      · injection h with h
        subst h
        have := h1.1
        simp; omega
      · obtain ⟨p, h2, h3⟩ := pre_ok_inv h
        have h4 := hereF_out e f _ (p, x.2) h2
        have hn : (cutLn s).2 ≠ [] := fun e0 => by
          rw [e0] at h2
          cases f with
          | zero => cases h2
          | succ f => unfold hereF at h2; rw [if_pos rfl] at h2; cases h2
        have := h1.2 hs hn
        rw [h3]
        simp only [List.length_append, List.length_cons, List.length_nil] at h4 ⊢
        omega
theorem word_out {s : Nm} {x : Nm × Nm} (h : wordM s = .ok x) : x.1.length + x.2.length ≤ s.length := loopF_out (part_out 0) _ _ _ h
theorem bodies_out : ∀ (hh : List Nat) (l : List Tok) (s : Nm) (x : List Tok × Nm), bodiesM hh l s = .ok x → tokLen x.1 + x.2.length ≤ tokLen l + s.length
  | [], l, s, x, e => by injection e with e; subst e; exact Nat.le_refl _
  | i :: is, l, s, x, e => by
    obtain ⟨y, h1, h2⟩ := bnd_ok_inv (x := hereM (bareAt l i) s) e
    have h3 := bodies_out is _ _ x h2
    have h4 := hereF_out _ _ _ _ h1
    have h5 := tokLen_mod y.1 l i
    omega
/-- Behind a number stands a sign. -/
abbrev sgn4 : List Nm := [[60], [62], [60, 60], [62, 62]]
def IoO : List Tok → Prop
  | [] => True
  | [_] => True
  | t :: u :: l => (t.k = 5 → u.t ∈ sgn4) ∧ IoO (u :: l)
theorem ioO_add : ∀ {l : List Tok} {u : Tok}, IoO l → (∀ l0 t, l = l0 ++ [t] → t.k = 5 → u.t ∈ sgn4) → IoO (l ++ [u])
  | [], u, _, _ => trivial
  | [t], u, _, h => ⟨fun hk => h [] t rfl hk, trivial⟩
  | t :: v :: l, u, hl, h => ⟨hl.1, ioO_add hl.2 fun l0 x e hk => h (t :: l0) x (by rw [e]; rfl) hk⟩
theorem ioO_mod (x : Nm) : ∀ (l : List Tok) (i : Nat), IoO l → IoO (l.modify i (addB x))
  | [], i, _ => by cases i <;> trivial
  | [t], 0, _ => trivial
  | [t], 1, _ => trivial
  | [t], i + 2, _ => trivial
  | t :: u :: l, 0, h => h
  | t :: u :: l, 1, h => ⟨h.1, ioO_mod x (u :: l) 0 h.2⟩
  | t :: u :: l, i + 2, h => by
    have h2 := ioO_mod x (u :: l) (i + 1) h.2
    exact ⟨h.1, h2⟩
theorem bodies_ioO : ∀ (hh : List Nat) (l : List Tok) (s : Nm) (x : List Tok × Nm), bodiesM hh l s = .ok x → IoO l → IoO x.1 ∧ x.1.map Tok.k = l.map Tok.k
  | [], l, s, x, e, h => by injection e with e; subst e; exact ⟨h, rfl⟩
  | i :: is, l, s, x, e, h => by
    obtain ⟨y, h1, h2⟩ := bnd_ok_inv (x := hereM (bareAt l i) s) e
    have h3 := bodies_ioO is _ _ x h2 (ioO_mod _ l i h)
    refine ⟨h3.1, h3.2.trans ?_⟩
    have key : ∀ (l : List Tok) (i : Nat), (l.modify i (addB y.1)).map Tok.k = l.map Tok.k := fun l => by
      induction l with
      | nil => intro i; cases i <;> rfl
      | cons t l ih =>
        intro i
        cases i with
        | zero => rfl
        | succ i => show t.k :: (l.modify i (addB y.1)).map Tok.k = t.k :: l.map Tok.k; rw [ih i]
    exact key l i
structure LnI (N : Nat) (l : List Tok) (q : Nm) : Prop where
  len : tokLen l + q.length ≤ N
  io : IoO l
  last : ∀ l0 t, l = l0 ++ [t] → t.k = 5 → has [60] q = true ∨ has [62] q = true
theorem last_eq {l l0 : List Tok} {t u : Tok} (h : l ++ [u] = l0 ++ [t]) : u = t := by
  have := (List.append_inj' h rfl).2
  injection this
theorem one_lnI {N g : Nat} {l : List Tok} {hh : List Nat} {c : UInt8} {r : Nm} {x : St} (e : oneM g l hh (c :: r) = .ok x) (h : LnI N l (c :: r)) : LnI N x.1 x.2.2 := by
  have hlast : ∀ l0 t, l = l0 ++ [t] → t.k = 5 → c = 60 ∨ c = 62 := fun l0 t e hk => by
    rcases h.last l0 t e hk with h1 | h1
    · rw [has_single] at h1; exact .inl (of_decide_eq_true h1).symm
    · rw [has_single] at h1; exact .inr (of_decide_eq_true h1).symm
  have hlen := h.len
  unfold oneM at e
  simp only at e
  split at e
  · rename_i h10
    obtain ⟨y, h1, h2⟩ := bnd_ok_inv e
    injection h2 with h2; subst h2
    have hno : ∀ l0 t, l = l0 ++ [t] → t.k = 5 → False := fun l0 t e hk => by
      rcases hlast l0 t e hk with h | h <;> (subst h10; cases h)
    have h3 := bodies_ioO _ _ _ _ h1 (ioO_add h.io fun l0 t e hk => (hno l0 t e hk).elim)
    have h4 := bodies_out _ _ _ _ h1
    rw [tokLen_add] at h4
    refine ⟨?_, h3.1, fun l0 t e hk => ?_⟩
    · simp at hlen h4 ⊢; omega
    · exfalso
      have h5 := h3.2
      rw [e, List.map_append, List.map_append] at h5
      have := (List.append_inj' h5 rfl).2
      injection this with this
      rw [hk] at this
      cases this
  · rename_i h10
    have keep : ∀ (q : Nm), (∀ l0 t, l = l0 ++ [t] → t.k = 5 → False) → q.length ≤ (c :: r).length → LnI N l q := fun q hno hq => ⟨by omega, h.io, fun l0 t e hk => (hno l0 t e hk).elim⟩
    have hno : c ≠ 60 → c ≠ 62 → ∀ l0 t, l = l0 ++ [t] → t.k = 5 → False := fun h1 h2 l0 t e hk => (hlast l0 t e hk).elim h1 h2
    split at e
    · rename_i h35
      injection e with e; subst e
      exact keep _ (hno (by rw [h35]; decide) (by rw [h35]; decide)) (by rw [List.length_drop]; omega)
    · split at e
      · rename_i hj
        injection e with e; subst e
        have h92 : c = 92 := by
          cases r with
          | nil => simp [has, List.isPrefixOf] at hj
          | cons d r => simp only [has, List.isPrefixOf, Bool.and_true, Bool.and_eq_true, beq_iff_eq] at hj; exact hj.1.symm
        exact keep _ (hno (by rw [h92]; decide) (by rw [h92]; decide)) (by simp; omega)
      · split at e
        · rename_i hb
          injection e with e; subst e
          refine keep _ (hno ?_ ?_) (by simp)
          · rintro rfl; rcases hb with h | h <;> cases h
          · rintro rfl; rcases hb with h | h <;> cases h
        · rename_i hb
          split at e
          · rename_i o ho
            injection e with e; subst e
            have hs := sign_has ho
            have hl := has_len hs.1
            have hp := sign_pos hs.2
            refine ⟨?_, ioO_add h.io fun l0 t e hk => ?_, fun l0 t e hk => ?_⟩
            · rw [tokLen_add, List.length_drop]
              simp only [List.length_nil]
              omega
            · have hc := hlast l0 t e hk
              have h2 := hs.1
              have h3 := hs.2
              show o ∈ sgn4
              clear hl hp hs ho
              simp [signL] at h3
              rcases h3 with rfl | rfl | rfl | rfl | rfl | rfl | rfl | rfl | rfl | rfl | rfl <;> first | decide | (exfalso; simp only [has, List.isPrefixOf, Bool.and_eq_true, beq_iff_eq] at h2; rcases hc with rfl | rfl <;> (have := h2.1; cases this))
            · have := last_eq e
              subst this
              cases hk
          · rename_i hn
            split at e
            · cases e
            · rename_i h38
              have hsn := sign_none hn
              have hno2 := hno hsn.2.2.2.2.1 hsn.2.2.2.2.2
              obtain ⟨y, h1, h2⟩ := bnd_ok_inv e
              have h3 := word_out h1
              split at h2
              · rename_i hio
                injection h2 with h2; subst h2
                refine ⟨?_, ioO_add h.io fun l0 t e hk => (hno2 l0 t e hk).elim, fun l0 t e hk => ?_⟩
                · rw [tokLen_add]; simp only [List.length_nil]; omega
                · unfold isIo at hio
                  simp only [Bool.and_eq_true, Bool.or_eq_true] at hio
                  exact hio.2
              · injection h2 with h2; subst h2
                refine ⟨?_, ioO_add h.io fun l0 t e hk => (hno2 l0 t e hk).elim, fun l0 t e hk => ?_⟩
                · rw [tokLen_add]; simp only [List.length_nil]; omega
                · have := last_eq e
                  subst this
                  cases hk
theorem all_lnI (K N : Nat) : ∀ (n : Nat) (l : List Tok) (hh : List Nat) (q : Nm) (L : List Tok), q.length ≤ n → LnI N l q → allS K (l, hh, q) = .ok L → ∃ l0, L = l0 ++ [⟨4, [], [], K⟩] ∧ LnI N l0 []
  | n, l, hh, [], L, _, h, e => by
    rw [allS_end] at e
    split at e
    · injection e with e; exact ⟨l, e.symm, h⟩
    · cases e
  | 0, l, hh, c :: r, L, hl, _, _ => absurd hl (by simp)
  | n + 1, l, hh, c :: r, L, hl, h, e => by
    rw [allS_step K l hh (by simp)] at e
    cases ho : oneM (K - nl (c :: r)) l hh (c :: r) with
    | error z => rw [ho] at e; cases e
    | ok x =>
      rw [ho] at e
      have := one_len (by simp) ho
      exact all_lnI K N n x.1 x.2.1 x.2.2 L (by simp at hl this; omega) (one_lnI ho h) e
/-- Tokens are no longer than the script; behind a number stands a sign. -/
theorem all_len {s : Nm} {L : List Tok} (h : allM s = .ok L) : tokLen L ≤ s.length ∧ IoO L ∧ ∃ l0 t, L = l0 ++ [t] ∧ t.k = 4 ∧ ∀ l1 u, l0 = l1 ++ [u] → u.k ≠ 5 := by
  obtain ⟨l0, rfl, h1⟩ := all_lnI _ s.length _ [] [] s L (Nat.le_refl _) ⟨by unfold tokLen; simp, trivial, fun l0 t e => by simp at e⟩ h
  have hno : ∀ l1 u, l0 = l1 ++ [u] → u.k ≠ 5 := fun l1 u e hk => by
    rcases h1.last l1 u e hk with h | h <;> cases h
  refine ⟨?_, ioO_add h1.io fun l1 u e hk => absurd hk (hno l1 u e), l0, _, rfl, rfl, hno⟩
  rw [tokLen_add]
  have := h1.len
  simpa using this
end Go.Proofs.YtiklkhbfilbpeaaGreatDoor.Lx
set_option linter.unusedVariables false
set_option linter.unusedSimpArgs false
set_option maxRecDepth 100000
namespace Go.Proofs.YtiklkhbfilbpeaaGreatDoor.Un
open Lx Sy
theorem inter_len (sep : Nm) (N : Nat) : ∀ ws : List Nm, (∀ w ∈ ws, w.length ≤ N) → (Lib.join ws sep).length ≤ ws.length * (N + sep.length)
  | [], _ => by simp [Lib.join]
  | [w], h => by
    have := h w List.mem_cons_self
    simp [Lib.join]; omega
  | w :: v :: ws, h => by
    have h1 := h w List.mem_cons_self
    have h2 := inter_len sep N (v :: ws) fun x hx => h x (List.mem_cons_of_mem _ hx)
    have e : Lib.join (w :: v :: ws) sep = w ++ sep ++ Lib.join (v :: ws) sep := by simp [Lib.join, List.intercalate_cons_cons]
    rw [e, List.length_append, List.length_append, List.length_cons, Nat.succ_mul]
    omega
theorem itoa_len : ∀ n : Nat, n ≤ 99 → (Lib.itoa (n : Int)).length ≤ 2 := by
  have h : ∀ n : Fin 100, (Lib.itoa ((n.val : Nat) : Int)).length ≤ 2 := by decide +kernel
  exact fun n hn => h ⟨n, by omega⟩
theorem sum_bound {α : Type} (F : α → Nat) (c : Nat) : ∀ l : List α, (∀ x ∈ l, F x ≤ c) → (l.map F).sum ≤ l.length * c
  | [], _ => by simp
  | x :: l, h => by
    rw [List.map_cons, List.sum_cons, List.length_cons, Nat.succ_mul]
    have h1 := h x List.mem_cons_self
    have h2 := sum_bound F c l fun y hy => h y (List.mem_cons_of_mem _ hy)
    omega
theorem un_nodup_le : ∀ (n : Nat) (l : List Nat), l.Nodup → (∀ y ∈ l, y < n) → l.length ≤ n
  | 0, [], _, _ => Nat.le_refl _
  | 0, y :: l, _, h => absurd (h y List.mem_cons_self) (Nat.not_lt_zero _)
  | n + 1, l, hn, h => by
    by_cases hm : n ∈ l
    · have h1 := un_nodup_le n (l.erase n) (hn.erase n) fun y hy => by
        have h2 := (hn.mem_erase_iff).1 hy
        have := h y h2.2
        have := h2.1
        omega
      rw [List.length_erase_of_mem hm] at h1
      omega
    · have := un_nodup_le n l hn fun y hy => by
        have h2 := h y hy
        have : y ≠ n := fun e => hm (by rw [← e]; exact hy)
        omega
      omega
theorem kids_few {l : List Nd} (ht : Tr l) {n : Nd} (hn : n ∈ l) : n.ks.length ≤ l.length := by
  obtain ⟨i, hi, rfl⟩ := List.mem_iff_getElem.1 hn
  refine un_nodup_le _ _ ?_ fun y hy => by have := ht.kids i hi y hy; omega
  rw [List.nodup_iff_count]
  intro q
  by_cases hq : q < l.length
  · have h1 := ht.one q hq
    have h2 : l[i].ks.count q ≤ (l.flatMap (·.ks)).count q := by
      have h3 : l[i].ks.Sublist (l.flatMap (·.ks)) := by
        have : l = l.take i ++ l[i] :: l.drop (i + 1) := by rw [List.getElem_cons_drop, List.take_append_drop]
        conv => rhs; rw [this]
        rw [List.flatMap_append, List.flatMap_cons]
        exact (List.sublist_append_left _ _).trans (List.sublist_append_right _ _)
      exact h3.count_le q
    split at h1 <;> omega
  · rw [List.count_eq_zero.2 (fun h => by have := ht.kids i hi q h; omega)]
    omega
section
variable {M N : Nat} {T : Tok → Prop} (hT : ∀ t, T t → t.t.length + t.b.length ≤ N) (hM : M ≤ 5001) (hN : N ≤ 4096)
include hT hM hN
omit hM in
theorem ws_bound {n : Nd} (h : NP M T n) : ∀ w ∈ n.ws, w.length ≤ 4096 := fun w hw => by
  obtain ⟨t, h1, _, rfl⟩ := h.ws w hw
  have := hT t h1
  omega
omit hM in
theorem t_bound {n : Nd} (h : NP M T n) : n.t.length ≤ 4096 := by
  rcases h.t with h | ⟨t, h1, _, h2⟩
  · rw [h]; simp
  · have := hT t h1
    rw [← h2]; omega
omit hM in
theorem rd_bound {n : Nd} (h : NP M T n) : ∀ r ∈ n.rs, rdLen r ≤ 12295 ∧ r.fd ≤ 99 ∧ r.o.length ≤ 2 ∧ r.w.length ≤ 4096 ∧ r.b.length ≤ 4096 := fun r hr => by
  obtain ⟨h1, h2, t, h3, _, h4, h5⟩ := h.rs r hr
  have h6 := hT t h3
  have h7 := itoa_len r.fd h1
  have h8 : r.o.length ≤ 2 := by
    simp [sg4] at h2
    rcases h2 with h | h | h | h <;> rw [h] <;> decide
  unfold rdLen
  rw [h4, h5]
  exact ⟨by omega, h1, h8, by omega, by omega⟩
theorem tail_bound {n : Nd} (h : NP M T n) : accL.tailC n.rs ≤ 5001 * 12296 := by
  unfold Acc.tailC
  have h1 := sum_bound (fun x => accL.p [32] + accL.rc x) 12296 n.rs fun r hr => by
    have := (rd_bound hT hN h r hr).1
    show 1 + rdLen r ≤ _
    omega
  have h2 := h.rl
  have h3 : n.rs.length * 12296 ≤ 5001 * 12296 := Nat.mul_le_mul_right _ (by omega)
  omega
theorem reds_bound {n : Nd} (h : NP M T n) : accL.redsC n.rs ≤ 5001 * 12296 := by
  have h1 := tail_bound hT hM hN h
  cases hr : n.rs with
  | nil => simp [Acc.redsC]
  | cons x rs =>
    rw [hr] at h1
    unfold Acc.tailC at h1
    rw [List.map_cons, List.sum_cons] at h1
    show accL.rc x + (rs.map fun x => accL.p [32] + accL.rc x).sum ≤ _
    omega
theorem join_bound {n : Nd} (h : NP M T n) (c : UInt8) : (Lib.join n.ws [c]).length ≤ 5001 * 4097 := by
  have h1 := inter_len [c] 4096 n.ws (ws_bound hT hN h)
  have e : 4096 + [c].length = 4097 := rfl
  rw [e] at h1
  have h2 : n.ws.length * 4097 ≤ 5001 * 4097 := Nat.mul_le_mul_right _ (by have := h.wl; omega)
  omega
theorem join_bound2 {n : Nd} (h : NP M T n) : (Lib.join ([32, 105, 110] :: n.ws) [32]).length ≤ 20493194 := by
  have h3 := h.wl
  have hb := ws_bound hT hN h
  generalize n.ws = ws at *
  have h1 := inter_len [32] 4096 ([32, 105, 110] :: ws) (fun w hw => (List.mem_cons.1 hw).elim (fun e => e ▸ (by simp : ([32, 105, 110] : Nm).length ≤ 4096)) (hb w))
  simp only [List.length_cons, List.length_nil] at h1
  omega
omit hT hM hN in
theorem ite_le {c : Prop} [Decidable c] {a b m : Nat} (h1 : a ≤ m) (h2 : b ≤ m) : (if c then a else b) ≤ m := by split; exact h1; exact h2
theorem nodeC_bound {l : List Nd} (ht : Tr l) (hl : l.length ≤ 50000) {n : Nd} (hn : n ∈ l) (h : NP M T n) : accL.nodeC l n ≤ 160000000 := by
  have hk := kids_few ht hn
  have h1 := tail_bound hT hM hN h
  have h2 := reds_bound hT hM hN h
  have h3 := join_bound hT hM hN h 32
  have h4 := join_bound hT hM hN h 124
  have h5 := join_bound2 hT hM hN h
  have h6 := t_bound hT hN h
  have h7 : ((if n.fl then [117, 110, 116, 105, 108] else [119, 104, 105, 108, 101] : Nm)).length ≤ 5 := by split <;> simp
  unfold Acc.nodeC
  have hb : accL.bodyC (kdOf l) n ≤ 28000000 + 5001 * 12296 := by
    unfold Acc.bodyC Acc.simC
    simp only [show ∀ t, accL.p t = t.length from fun _ => rfl, List.length_append, List.length_cons, List.length_nil]
    generalize ((if n.fl then [117, 110, 116, 105, 108] else [119, 104, 105, 108, 101] : Nm)).length = W at *
    generalize accL.redsC n.rs = R at *
    generalize (Lib.join n.ws [32]).length = J at *
    generalize (Lib.join n.ws [124]).length = J2 at *
    generalize (Lib.join ([32, 105, 110] :: n.ws) [32]).length = J3 at *
    generalize n.ks.length = K at *
    generalize n.t.length = L at *
    refine ite_le ?_ (ite_le ?_ (ite_le ?_ (ite_le ?_ (ite_le ?_ (ite_le ?_ (ite_le ?_ (ite_le ?_ (ite_le ?_ (ite_le ?_ (ite_le ?_ (ite_le ?_ ?_)))))))))))
    all_goals (repeat' split)
    all_goals omega
  split <;> omega
/-- The whole text is short. -/
theorem whole_bound {l : List Nd} (ht : Tr l) (hl : l.length ≤ 50000) (hp : ∀ n ∈ l, NP M T n) : (l.map (accL.nodeC l)).sum ≤ 8000000000000 := by
  have h1 := sum_bound (accL.nodeC l) 160000000 l fun n hn => nodeC_bound hT hM hN ht hl hn (hp n hn)
  have h2 : l.length * 160000000 ≤ 50000 * 160000000 := Nat.mul_le_mul_right _ hl
  omega
end
/-- What is known of tokens. -/
def QT (N : Nat) (l : List Tok) : Prop := (∀ t ∈ l, t.t.length + t.b.length ≤ N) ∧ IoO l ∧ ∀ l0 t, l = l0 ++ [t] → t.k ≠ 5
def TT (N : Nat) (t : Tok) : Prop := t.t.length + t.b.length ≤ N
theorem qt_pv (M N : Nat) : Pv M (QT N) (TT N) where
  head h := h.1 _ List.mem_cons_self
  tail {t l} h := ⟨fun u hu => h.1 u (List.mem_cons_of_mem _ hu), by
    have h2 := h.2.1
    cases l with
    | nil => trivial
    | cons u l => exact h2.2, fun l0 u e => h.2.2 (t :: l0) u (by rw [e]; rfl)⟩
  io h hk := h.2.1.1 hk
  last h := h.2.2 [] _ rfl
theorem qt_of {s : Nm} {L : List Tok} (h : allM s = .ok L) : QT s.length L := by
  obtain ⟨h1, h2, l0, t, rfl, h4, h5⟩ := all_len h
  refine ⟨fun u hu => Nat.le_trans (tokLen_mem hu) h1, h2, fun l1 u e => ?_⟩
  have := (List.append_inj' e rfl).2
  injection this with this
  rw [← this, h4]; decide
/-- What is known of each node of a script's tree. -/
theorem parse_np {s : Nm} {L : List Tok} {l : List Nd} (hL : allM s = .ok L) (h : parseM s = .ok l) : ∀ n ∈ l, NP L.length (TT s.length) n := parse_prov (qt_pv _ _) hL (qt_of hL) (Nat.le_refl _) h
end Go.Proofs.YtiklkhbfilbpeaaGreatDoor.Un
