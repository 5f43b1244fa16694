/-
 Syntax: what stands behind what is read plays no part, but for the next token. No program stands here. Conditions: as each law says.
 Syntax: the tree of two scripts, one behind the other, as a plain law. No program stands here. Conditions: as each law says.
 Syntax: errors are no OK. No program stands here. Conditions: as each law says.
-/
import Derived.Test.YtknncfoaegmphaaGreatDoorSkGSyA
import Derived.Test.YtknncfoaegmphaaGreatDoorSkGSyH
import Derived.Test.YtknncfoaegmphaaGreatDoorSkLxExt
set_option linter.unusedVariables false
set_option linter.unusedSimpArgs false
namespace Go.Proofs.YtknncfoaegmphaaGreatDoor.Sy
open Lx
/-- What is left may be other tokens, if the first one is the same. -/
def Agree (q r : List Tok) : Prop := 2 ≤ r.length ∧ 2 ≤ q.length ∧ q.head? = r.head?
def PreP {α : Type} (D : S → Prop) (f : S → P α) : Prop := ∀ ns l, D (ns, l) → ∀ a ns' r, f (ns, l) = .ok (a, (ns', r)) → ∃ y, l = y ++ r ∧ ∀ q, Agree q r → f (ns, y ++ q) = .ok (a, (ns', q))
abbrev AnyS : S → Prop := fun _ => True
abbrev Pre {α : Type} (f : S → P α) : Prop := PreP AnyS f
theorem pre_less {α : Type} {D D' : S → Prop} {f : S → P α} (h : PreP D f) (hd : ∀ s, D' s → D s) : PreP D' f := fun ns l hl => h ns l (hd _ hl)
theorem head_nx {ns ns' : List Nd} {l l' : List Tok} (h : l.head? = l'.head?) : nx (ns, l) = nx (ns', l') := by
 unfold nx
 rw [List.headD_eq_head?_getD, List.headD_eq_head?_getD, h]
theorem agree_head {y q r : List Tok} (h : Agree q r) : (y ++ q).head? = (y ++ r).head? := by
 cases y with
 | nil => exact h.2.2
 | cons t y => rfl
theorem agree_nx {ns ns' : List Nd} {y q r : List Tok} (h : Agree q r) : nx (ns, y ++ q) = nx (ns', y ++ r) := head_nx (agree_head h)
theorem agree_app {y q r : List Tok} (h : Agree q r) : Agree (y ++ q) (y ++ r) := ⟨by have := h.1; simp; omega, by have := h.2.1; simp; omega, agree_head h⟩
theorem pre_bd {α β : Type} {D : S → Prop} {D' : S → Prop} {f : S → P α} {g : α → S → P β} (hf : PreP D f) (hg : ∀ a, PreP D' (g a)) (hd : ∀ s a t, D s → f s = .ok (a, t) → D' t) : PreP D (fun s => bd (f s) g) := by
 intro ns l hl b ns2 r2 e
 obtain ⟨a, t, h1, h2⟩ := bd_ok_inv e
 obtain ⟨n1, r1⟩ := t
 obtain ⟨y1, rfl, k1⟩ := hf ns l hl a n1 r1 h1
 obtain ⟨y2, rfl, k2⟩ := hg a n1 r1 (hd _ _ _ hl h1) b ns2 r2 h2
 refine ⟨y1 ++ y2, by rw [List.append_assoc], fun q hq => ?_⟩
 rw [List.append_assoc]
 show bd (f (ns, y1 ++ (y2 ++ q))) g = _
 rw [k1 _ (agree_app hq)]
 exact k2 q hq
theorem pre_bd' {α β : Type} {D : S → Prop} {f : S → P α} {g : α → S → P β} (hf : PreP D f) (hg : ∀ a, Pre (g a)) : PreP D (fun s => bd (f s) g) := pre_bd hf hg fun _ _ _ _ _ => trivial
theorem pre_nx {α : Type} {D : S → Prop} {G : Tok → S → P α} (h : ∀ t, PreP D (G t)) : PreP D (fun s => G (nx s) s) := by
 intro ns l hl a ns' r e
 obtain ⟨y, rfl, k⟩ := h (nx (ns, l)) ns l hl a ns' r e
 refine ⟨y, rfl, fun q hq => ?_⟩
 show G (nx (ns, y ++ q)) (ns, y ++ q) = _
 rw [agree_nx (ns' := ns) hq]
 exact k q hq
theorem pre_er {α : Type} {D : S → Prop} {e : Int} : PreP D (fun s => er (α := α) e s) := fun ns l _ a ns' r h => by cases h
theorem pre_ok {α : Type} {D : S → Prop} {a : α} : PreP D (fun s => .ok (a, s)) := fun ns l _ b ns' r h => by
 injection h with h
 injection h with h1 h2
 injection h2 with h2 h3
 subst h1 h2 h3
 exact ⟨[], rfl, fun q _ => rfl⟩
theorem pre_put {D : S → Prop} {n : Nd} : PreP D (putM n) := fun ns l _ b ns' r h => by
 injection h with h
 injection h with h1 h2
 injection h2 with h2 h3
 subst h1 h2 h3
 exact ⟨[], rfl, fun q _ => rfl⟩
/-- A test of the next token alone. -/
def Cong (c : S → Prop) : Prop := ∀ s s', nx s = nx s' → (c s ↔ c s')
theorem pre_ite {α : Type} {D : S → Prop} {c : S → Prop} [DecidablePred c] {A B : S → P α} (hc : Cong c) (hA : PreP (fun s => D s ∧ c s) A) (hB : PreP (fun s => D s ∧ ¬ c s) B) : PreP D (fun s => if c s then A s else B s) := by
 intro ns l hl a ns' r e
 by_cases h : c (ns, l)
 ·
  have e' : A (ns, l) = .ok (a, (ns', r)) := by simpa only [if_pos h] using e
  obtain ⟨y, rfl, k⟩ := hA ns l ⟨hl, h⟩ a ns' r e'
  refine ⟨y, rfl, fun q hq => ?_⟩
  have h2 : c (ns, y ++ q) := (hc _ _ (agree_nx (ns' := ns) hq)).2 h
  simp only [if_pos h2]
  exact k q hq
 ·
  have e' : B (ns, l) = .ok (a, (ns', r)) := by simpa only [if_neg h] using e
  obtain ⟨y, rfl, k⟩ := hB ns l ⟨hl, h⟩ a ns' r e'
  refine ⟨y, rfl, fun q hq => ?_⟩
  have h2 : ¬ c (ns, y ++ q) := fun h2 => h ((hc _ _ (agree_nx (ns' := ns) hq)).1 h2)
  simp only [if_neg h2]
  exact k q hq
theorem pre_if {α : Type} {D : S → Prop} {c : S → Prop} [DecidablePred c] {A B : S → P α} (hc : Cong c) (hA : Pre A) (hB : Pre B) : PreP D (fun s => if c s then A s else B s) := pre_ite hc (pre_less hA fun _ _ => trivial) (pre_less hB fun _ _ => trivial)
def tkM (s : S) : P Unit := .ok ((), tk s)
def lnM (s : S) : P Unit := .ok ((), lns s)
theorem pre_tkM {D : S → Prop} : PreP D tkM := fun ns l _ b ns' r h => by
 unfold tkM tk at h
 split at h
 ·
  injection h with h
  injection h with h1 h2
  injection h2 with h2 h3
  subst h2 h3
  rename_i hk
  refine ⟨[], rfl, fun q hq => ?_⟩
  unfold tkM tk
  rw [if_pos (by rw [List.nil_append]; rw [show nx (ns, q) = nx (ns, l) from head_nx hq.2.2]; exact hk)]
  rfl
 ·
  rename_i hk
  injection h with h
  injection h with h1 h2
  injection h2 with h2 h3
  cases l with
  | nil => exact absurd rfl hk
  | cons t l =>
   have h2 : ns = ns' := h2
   have h3 : l = r := h3
   subst h2 h3
   refine ⟨[t], rfl, fun q hq => ?_⟩
   unfold tkM tk
   rw [if_neg (show ¬ (nx (ns, [t] ++ q)).k = 4 from hk)]
   rfl
theorem dropL_split : ∀ l : List Tok, ∃ y, l = y ++ dropL l ∧ ∀ q, (∀ t, q.head? = some t → t.k ≠ 3) → q ≠ [] → dropL (y ++ q) = q
 | [] => ⟨[], rfl, fun q h hn => by
  cases q with
  | nil => exact absurd rfl hn
  | cons t q => rw [List.nil_append, dropL, if_neg (h t rfl)]⟩
 | t :: l => by
  by_cases hk : t.k = 3
  ·
   obtain ⟨y, h1, h2⟩ := dropL_split l
   refine ⟨t :: y, by rw [dropL, if_pos hk, List.cons_append, ← h1], fun q h hn => ?_⟩
   rw [List.cons_append, dropL, if_pos hk]
   exact h2 q h hn
  ·
   refine ⟨[], by rw [dropL, if_neg hk]; rfl, fun q h hn => ?_⟩
   cases q with
   | nil => exact absurd rfl hn
   | cons t q => rw [List.nil_append, dropL, if_neg (h t rfl)]
theorem dropL_head : ∀ (l : List Tok) (t : Tok), (dropL l).head? = some t → t.k ≠ 3
 | [], t, h => by cases h
 | u :: l, t, h => by
  unfold dropL at h
  split at h
  · exact dropL_head l t h
  ·
   rename_i hk
   injection h with h
   subst h
   exact hk
theorem pre_lnM {D : S → Prop} : PreP D lnM := fun ns l _ b ns' r h => by
 injection h with h
 injection h with h1 h2
 injection h2 with h2 h3
 subst h2
 have h3 : dropL l = r := h3
 subst h3
 obtain ⟨y, h4, h5⟩ := dropL_split l
 refine ⟨y, h4, fun q hq => ?_⟩
 unfold lnM lns
 show Except.ok ((), ns, dropL (y ++ q)) = _
 rw [h5 q (fun t ht => dropL_head l t (by rw [← hq.2.2]; exact ht)) (fun e => by have := hq.2.1; rw [e] at this; simp at this)]
theorem pre_tk {α : Type} {D : S → Prop} {f : S → P α} (h : Pre f) : PreP D (fun s => f (tk s)) := pre_bd' (f := tkM) (g := fun _ => f) pre_tkM fun _ => h
theorem pre_lns {α : Type} {D : S → Prop} {f : S → P α} (h : Pre f) : PreP D (fun s => f (lns s)) := pre_bd' (f := lnM) (g := fun _ => f) pre_lnM fun _ => h
theorem pre_over {α : Type} {D : S → Prop} {f : S → P α} (h : Pre f) : PreP D (fun s => f (lns (tk s))) := pre_tk (f := fun s => f (lns s)) (pre_lns h)
theorem cong_isM (k : Nat) (ts : List Nm) : Cong (fun s => isM k ts s = true) := fun s s' h => by unfold isM; simp only [h]
theorem cong_isM2 (k : Nat) (ts : List Nm) : Cong (fun s => isM k ts s = false ∧ (nx s).k ≠ 3) := fun s s' h => by unfold isM; simp only [h]
theorem cong_begins : Cong (fun s => begins s = true) := fun s s' h => by unfold begins; simp only [h]
theorem cong_comp : Cong (fun s => isComp s = true) := fun s s' h => by unfold isComp isM; simp only [h]
theorem cong_red : Cong (fun s => redirects s = true) := fun s s' h => by unfold redirects isM; simp only [h]
theorem need_pre {k : Nat} {ts : List Nm} : Pre (needM k ts) := pre_if (c := fun s => isM k ts s = true) (A := fun s => .ok ((), tk s)) (B := er 20) (cong_isM k ts) pre_tkM pre_er
theorem raw_pre : Pre rawM := pre_nx (G := fun t s => if t.k = 1 then .ok (t.t, tk s) else er 20 s) fun t => by
 by_cases h : t.k = 1
 · simp only [if_pos h]; exact pre_bd' (f := tkM) (g := fun _ s => .ok (t.t, s)) pre_tkM fun _ => pre_ok
 · simp only [if_neg h]; exact pre_er
theorem redir_pre : Pre redirM := by
 have key : ∀ fd op, Pre (fun s : S => bd (rawM s) fun w s3 => .ok ((⟨fd, op, w, (nx s).b⟩ : Rdr), s3)) := fun fd op =>
  pre_nx (G := fun t s => bd (rawM s) fun w s3 => .ok ((⟨fd, op, w, t.b⟩ : Rdr), s3)) fun t => pre_bd' raw_pre fun w => pre_ok
 refine pre_nx (G := fun t s =>
  let s1 := if decide (t.k = 5) then tk s else s
  let op := (nx s1).t
  let fd := if decide (t.k = 5) then min (num t.t) 99 else if op.head? = some 60 then 0 else 1
  let s2 := tk s1
  bd (rawM s2) fun w s3 => .ok ((⟨fd, op, w, (nx s2).b⟩ : Rdr), s3)) fun t => ?_
 by_cases h : t.k = 5
 ·
  simp only [h, decide_true, if_true]
  exact pre_tk (f := fun s1 => bd (rawM (tk s1)) fun w s3 => .ok ((⟨min (num t.t) 99, (nx s1).t, w, (nx (tk s1)).b⟩ : Rdr), s3)) (pre_nx (G := fun u s1 => bd (rawM (tk s1)) fun w s3 => .ok ((⟨min (num t.t) 99, u.t, w, (nx (tk s1)).b⟩ : Rdr), s3)) fun u => pre_tk (key _ _))
 ·
  simp only [h, decide_false, if_false, Bool.false_eq_true]
  exact pre_nx (G := fun u s1 => bd (rawM (tk s1)) fun w s3 => .ok ((⟨if u.t.head? = some 60 then 0 else 1, u.t, w, (nx (tk s1)).b⟩ : Rdr), s3)) fun u => pre_tk (key _ _)
theorem while_pre {α : Type} {cond : S → Bool} {step : α → S → P α} (hT : Takes cond step) (h0 : ∀ s, cond s = true → s.2 ≠ []) (hc : Cong (fun s => cond s = true)) (hs : ∀ a, Pre (step a)) (a : α) : Pre (whileM cond step a) := by
 have key : ∀ (n : Nat) (a : α), PreP (fun s => s.2.length ≤ n) (whileM cond step a) := by
  intro n
  induction n with
  | zero =>
   intro a
   rw [show whileM cond step a = fun s => if cond s = true then bd (step a s) (whileM cond step) else .ok (a, s) from funext (while_eq hT h0 a)]
   refine pre_ite hc (fun ns l hl => ?_) pre_ok
   have := h0 _ hl.2
   exact absurd (List.length_eq_zero_iff.1 (Nat.le_zero.1 hl.1)) this
  | succ n ih =>
   intro a
   rw [show whileM cond step a = fun s => if cond s = true then bd (step a s) (whileM cond step) else .ok (a, s) from funext (while_eq hT h0 a)]
   refine pre_ite hc (pre_bd (D' := fun s => s.2.length ≤ n) (pre_less (hs a) fun _ _ => trivial) ih fun s b t hd e => ?_) pre_ok
   have := hT a s (b, t) hd.2 e
   have := hd.1
   simp only at *
   omega
 exact fun ns l _ => key l.length a ns l (Nat.le_refl _)
theorem redirs_pre : Pre redirsM := while_pre redirs_takes redirs_ne cong_red (fun a => pre_bd' redir_pre fun x => pre_ok) []
theorem simple_pre : Pre simpleM := by
 refine pre_nx (G := fun t s => bd (whileM simB simT ({ k := 1, ln := t.ln } : Nd) s) putM) fun t => pre_bd' (while_pre sim_takes sim_ne ?_ (fun a => ?_) _) fun n => pre_put
 · intro s s' h; unfold simB redirects isM; simp only [h]
 · exact pre_if cong_red (pre_bd' redir_pre fun x => pre_ok) (pre_bd' raw_pre fun w => pre_ok)
/-- Nodes do not go. -/
theorem eq_rel : TokRel (fun l l' : List Tok => l' = l) where
 head h := by subst h; exact ⟨rfl, rfl, rfl⟩
 nil h := by subst h; exact Iff.rfl
 tail h _ := by injection h
 lns h := by rw [h]
 over h := by injection h with h1 h2; rw [h2]
 io h _ := by injection h with h1 h2; injection h2
theorem cmd_grow (n : Nat) (ns : List Nd) (l : List Tok) (k : Nat) (ns' : List Nd) (r : List Tok) (e : cmdM (nestD n) (ns, l) = .ok (k, (ns', r))) : ∃ m, ns' = ns ++ m := by
 have h := cmd_sim (R := fun l l' => l' = l) (ns0 := ns) eq_rel (nest_sim eq_rel n) (s := ([], l)) (s' := (ns, l)) ⟨⟨[], by simp, rfl⟩, rfl⟩
 rw [e] at h
 cases h2 : cmdM (nestD n) ([], l) with
 | error x => rw [h2] at h; exact h.elim
 | ok y =>
  rw [h2] at h
  obtain ⟨m, h3, _⟩ := h.2.ns
  exact ⟨m, h3⟩
theorem cmd_eats (n : Nat) (ns : List Nd) (l : List Tok) (k : Nat) (ns' : List Nd) (r : List Tok) (e : cmdM (nestD n) (ns, l) = .ok (k, (ns', r))) : r.length < l.length := by
 obtain ⟨m, rfl⟩ := cmd_grow n ns l k ns' r e
 have := cmd_cost (nest_cost n) (ns, l) _ e
 unfold ph at this
 simp at this
 omega
theorem names_pre {ns ns' : List Nd} {y q r : List Tok} (hy : y ≠ []) (hq : Agree q r) : names (ns, y ++ q) = names (ns', y ++ r) := by
 unfold names
 rw [agree_nx (ns' := ns') hq]
 congr 1
 congr 1
 obtain ⟨h1, h2, h3⟩ := hq
 match y, q, r with
 | [], _, _ => exact absurd rfl hy
 | [t], u :: v :: q, u' :: v' :: r =>
  injection h3 with h3
  subst h3
  rfl
 | [t, u], v :: q, v' :: r => rfl
 | t :: u :: v :: y, q, r => rfl
 | [t], [], _ => simp at h2
 | [t], [_], _ => simp at h2
 | [t], _ :: _ :: _, [] => simp at h1
 | [t], _ :: _ :: _, [_] => simp at h1
 | [t, u], [], _ => simp at h2
 | [t, u], _ :: _, [] => simp at h1
section
variable {n : Nat} (hn : Pre (nestD n))
include hn
theorem cmd_pre : Pre (cmdM (nestD n)) := by
 intro ns l _ k ns' r e
 have he := cmd_eats n ns l k ns' r e
 unfold cmdM at e
 by_cases hb : begins (ns, l) = false ∨ isM 1 [[33]] (ns, l) = true
 · rw [if_pos hb] at e; cases e
 ·
  rw [if_neg hb] at e
  have hb2 : ∀ (y q : List Tok), l = y ++ r → Agree q r → ¬ (begins (ns, y ++ q) = false ∨ isM 1 [[33]] (ns, y ++ q) = true) := fun y q hl hq h => by
   have h4 := agree_nx (ns := ns) (ns' := ns) (y := y) hq
   rw [← hl] at h4
   apply hb
   unfold begins isM at h ⊢
   rw [h4] at h
   exact h
  have hc2 : ∀ (y q : List Tok), l = y ++ r → Agree q r → isComp (ns, y ++ q) = isComp (ns, l) := fun y q hl hq => by
   have h4 := agree_nx (ns := ns) (ns' := ns) (y := y) hq
   rw [← hl] at h4
   unfold isComp isM
   rw [h4]
  have hn2 : ∀ (y q : List Tok), l = y ++ r → Agree q r → names (ns, y ++ q) = names (ns, l) := fun y q hl hq => by
   rw [hl]
   refine names_pre (fun e => ?_) hq
   rw [hl, e] at he
   simp at he
  by_cases hc : isComp (ns, l) = false ∧ names (ns, l) = false
  ·
   rw [if_pos hc] at e
   obtain ⟨y, hl, k1⟩ := simple_pre ns l trivial k ns' r e
   refine ⟨y, hl, fun q hq => ?_⟩
   unfold cmdM
   rw [if_neg (hb2 y q hl hq), hc2 y q hl hq, hn2 y q hl hq, if_pos hc]
   exact k1 q hq
  ·
   rw [if_neg hc] at e
   obtain ⟨y, hl, k1⟩ := hn ns l trivial k ns' r e
   refine ⟨y, hl, fun q hq => ?_⟩
   unfold cmdM
   rw [if_neg (hb2 y q hl hq), hc2 y q hl hq, hn2 y q hl hq, if_neg hc]
   exact k1 q hq
theorem pipe_pre : Pre (pipeM (nestD n)) := by
 have hw := nest_weak n
 have rest : ∀ (fl : Bool) (ln : Nat), Pre (fun s1 => bd (cmdM (nestD n) s1) fun k s2 => bd (whileM (isM 2 [[124]]) (pipT (nestD n)) [k] s2) fun ks s3 =>
   if fl = false ∧ ks.length = 1 then .ok (k, s3) else putM { k := 2, fl := fl, ks := ks, ln := ln } s3) := fun fl ln =>
  pre_bd' (cmd_pre hn) fun k => pre_bd' (while_pre (pip_takes hw) alt_ne (cong_isM _ _) (fun a => pre_bd' (pre_over (cmd_pre hn)) fun k => pre_ok) _) fun ks => by
   by_cases h : fl = false ∧ ks.length = 1
   · simp only [if_pos h]; exact pre_ok
   · simp only [if_neg h]; exact pre_put
 refine pre_nx (G := fun t s =>
  let fl := decide (t.k = 1) && [[33]].contains t.t
  let s1 := if fl then tk s else s
  bd (cmdM (nestD n) s1) fun k s2 => bd (whileM (isM 2 [[124]]) (pipT (nestD n)) [k] s2) fun ks s3 =>
   if fl = false ∧ ks.length = 1 then .ok (k, s3) else putM { k := 2, fl := fl, ks := ks, ln := t.ln } s3) fun t => ?_
 cases hf : (decide (t.k = 1) && [[33]].contains t.t) with
 | false =>
  have h := rest false t.ln
  simp only [if_neg (show ¬ false = true by decide)] at h ⊢
  simpa using h
 | true =>
  simp only [if_true]
  exact pre_tk (rest true t.ln)
theorem andor_pre : Pre (andorM (nestD n)) := by
 have hw := nest_weak n
 refine pre_nx (G := fun t s => bd (pipeM (nestD n) s) fun k s1 => whileM (isM 2 [[38, 38], [124, 124]]) (aoT (nestD n) t.ln) k s1) fun t => pre_bd' (pipe_pre hn) fun k => while_pre (ao_takes hw t.ln) (fun s h => isM_ne h (by decide)) (cong_isM _ _) (fun a => ?_) k
 exact pre_nx (G := fun u s2 => bd (pipeM (nestD n) (lns (tk s2))) fun k2 s3 => putM { k := if u.t = [124, 124] then 4 else 3, ks := [a, k2], ln := t.ln } s3) fun u => pre_bd' (pre_over (pipe_pre hn)) fun k2 => pre_put
theorem run_pre (ks : List Nat) : Pre (runM (nestD n) ks) := by
 have hw := nest_weak n
 have key : ∀ (m : Nat) (ks : List Nat), PreP (fun s => s.2.length ≤ m) (runM (nestD n) ks) := by
  intro m
  induction m with
  | zero =>
   intro ks
   rw [show runM (nestD n) ks = fun s => if begins s = true then bd (andorM (nestD n) s) fun k s1 =>
    if isM 2 [[59]] s1 = false ∧ (nx s1).k ≠ 3 then .ok (ks ++ [k], s1) else runM (nestD n) (ks ++ [k]) (lns (tk s1)) else .ok (ks, s) from funext (run_eq hw ks)]
   refine pre_ite cong_begins (fun ns l hl => ?_) pre_ok
   have := tk_lt (begins_ne hl.2)
   have := hl.1
   simp only at *
   omega
  | succ m ih =>
   intro ks
   rw [show runM (nestD n) ks = fun s => if begins s = true then bd (andorM (nestD n) s) fun k s1 =>
    if isM 2 [[59]] s1 = false ∧ (nx s1).k ≠ 3 then .ok (ks ++ [k], s1) else runM (nestD n) (ks ++ [k]) (lns (tk s1)) else .ok (ks, s) from funext (run_eq hw ks)]
   refine pre_ite cong_begins (pre_bd (D' := fun s => s.2.length ≤ m + 1) (pre_less (andor_pre hn) fun _ _ => trivial) (fun k => pre_ite (cong_isM2 _ _) pre_ok ?_) fun s a t hd e => ?_) pre_ok
   ·
    refine pre_bd (D := fun s => s.2.length ≤ m + 1 ∧ ¬ (isM 2 [[59]] s = false ∧ (nx s).k ≠ 3)) (D' := fun s => s.2.length ≤ m) (f := fun s => lnM (tk s)) (g := fun _ => runM (nestD n) (ks ++ [k])) (pre_tk pre_lnM) (fun _ => ih _) fun s a t hd e => ?_
    injection e with e
    injection e with e1 e2
    subst e2
    have h4 : (nx s).k ≠ 4 := fun e => hd.2 ⟨by
     cases hi : isM 2 [[59]] s with
     | false => rfl
     | true => have := isM_k hi; omega, by omega⟩
    have := tk_lt h4
    have := lns_le (tk s)
    have := hd.1
    omega
   ·
    have := andor_weak hw s _ e
    have := hd.1
    simp only at *
    omega
 exact fun ns l _ => key l.length ks ns l (Nat.le_refl _)
theorem list_pre (em : Bool) : Pre (listM (nestD n) em) := by
 have hw := nest_weak n
 have he : listM (nestD n) em = fun s => bd (runM (nestD n) [] (lns s)) fun ks s1 => if ks = [] ∧ em = false then er 20 s1 else putM { k := 5, ks := ks, ln := (nx (lns s)).ln } s1 := funext fun s => by
  unfold listM runM
  rw [listF_eq hw s.2.length (lns s).2.length [] (lns s) (lns_le s) (Nat.le_refl _)]
 rw [he]
 refine pre_lns (f := fun s => bd (runM (nestD n) [] s) fun ks s1 => if ks = [] ∧ em = false then er 20 s1 else putM { k := 5, ks := ks, ln := (nx s).ln } s1) (pre_nx (G := fun t s => bd (runM (nestD n) [] s) fun ks s1 => if ks = [] ∧ em = false then er 20 s1 else putM { k := 5, ks := ks, ln := t.ln } s1) fun t => pre_bd' (run_pre hn []) fun ks => ?_)
 by_cases h : ks = [] ∧ em = false
 · simp only [if_pos h]; exact pre_er
 · simp only [if_neg h]; exact pre_put
theorem body_pre : Pre (bodyM (nestD n)) := pre_bd' need_pre fun _ => pre_bd' (list_pre hn false) fun k => pre_bd' need_pre fun _ => pre_ok
theorem group_pre (ln : Nat) : Pre (groupM (nestD n) ln) := pre_bd' (pre_tk (list_pre hn false)) fun k => pre_bd' need_pre fun _ => pre_ok
theorem sub_pre (ln : Nat) : Pre (subM (nestD n) ln) := pre_bd' (pre_tk (list_pre hn false)) fun k => pre_bd' need_pre fun _ => pre_ok
theorem asks_pre (ln : Nat) : PreP (fun s => (nx s).k ≠ 4) (asksM (nestD n) ln) := by
 have hw := nest_weak n
 have key : ∀ (m : Nat) (ln : Nat), PreP (fun s => (nx s).k ≠ 4 ∧ s.2.length ≤ m) (asksM (nestD n) ln) := by
  intro m
  induction m with
  | zero =>
   intro ln ns l hl
   have := tk_lt hl.1
   have := hl.2
   simp only at *
   omega
  | succ m ih =>
   intro ln ns l hl a ns' r e
   have hB : PreP (fun s => (nx s).k ≠ 4 ∧ s.2.length ≤ m + 1) (fun s => bd (listM (nestD n) false (tk s)) fun c s => bd (needM 1 [[116, 104, 101, 110]] s) fun _ s => bd (listM (nestD n) false s) fun b s =>
     if isM 1 [[101, 108, 105, 102]] s = true then bd (asksM (nestD n) (nx s).ln s) fun n s => bd (putM n s) fun k s => .ok (({ k := 6, ks := [c, b, k], ln := ln } : Nd), s)
     else if isM 1 [[101, 108, 115, 101]] s = true then bd (listM (nestD n) false (tk s)) fun k s => bd (needM 1 [[102, 105]] s) fun _ s => .ok ({ k := 6, ks := [c, b, k], ln := ln }, s)
     else bd (needM 1 [[102, 105]] s) fun _ s => .ok ({ k := 6, ks := [c, b], ln := ln }, s)) := by
    refine pre_bd (D' := fun s => s.2.length ≤ m) (pre_tk (list_pre hn false)) (fun c => pre_bd (D' := fun s => s.2.length ≤ m) (pre_less need_pre fun _ _ => trivial) (fun _ => pre_bd (D' := fun s => s.2.length ≤ m) (pre_less (list_pre hn false) fun _ _ => trivial) (fun b => ?_) fun s a t hd e => ?_) fun s a t hd e => ?_) fun s a t hd e => ?_
    · refine pre_ite (cong_isM _ _) (pre_nx (G := fun t s => bd (asksM (nestD n) t.ln s) fun n s => bd (putM n s) fun k s => .ok (({ k := 6, ks := [c, b, k], ln := ln } : Nd), s)) fun t => pre_bd' (pre_less (ih t.ln) fun s hs => ⟨by rw [isM_k hs.2]; decide, hs.1⟩) fun x => pre_bd' pre_put fun k => pre_ok) (pre_if (cong_isM _ _) (pre_bd' (pre_tk (list_pre hn false)) fun k => pre_bd' need_pre fun _ => pre_ok) (pre_bd' need_pre fun _ => pre_ok))
    · exact Nat.le_trans (list_weak hw false _ _ e) hd
    · exact Nat.le_trans (need_weak _ e) hd
    ·
     have h1 := list_weak hw false _ _ e
     have h2 := tk_lt hd.1
     have := hd.2
     simp only at *
     omega
   rw [asksM_eq hw ln (ns, l) hl.1] at e
   obtain ⟨y, h1, h2⟩ := hB ns l hl a ns' r e
   refine ⟨y, h1, fun q hq => ?_⟩
   have h4 : (nx (ns, y ++ q)).k ≠ 4 := by rw [agree_nx (ns' := ns) hq, ← h1]; exact hl.1
   rw [asksM_eq hw ln (ns, y ++ q) h4]
   exact h2 q hq
 exact fun ns l hl => key l.length ln ns l ⟨hl, Nat.le_refl _⟩
theorem whil_pre (ln : Nat) : Pre (whilM (nestD n) ln) := pre_nx (G := fun t s => bd (listM (nestD n) false (tk s)) fun c s1 => bd (bodyM (nestD n) s1) fun b s2 => .ok (({ k := 7, fl := decide (t.t = [117, 110, 116, 105, 108]), ks := [c, b], ln := ln } : Nd), s2)) fun t => pre_bd' (pre_tk (list_pre hn false)) fun c => pre_bd' (body_pre hn) fun b => pre_ok
theorem each_pre (ln : Nat) : Pre (eachM (nestD n) ln) := by
 have hB : Pre (fun s => if nameB (nx s).t = false then er 20 s else bd (rawM s) fun t s =>
  if isM 2 [[59]] s = true then bd (bodyM (nestD n) (lns (tk s))) fun b s => .ok (({ k := 8, t := t, fl := true, ks := [b], ln := ln } : Nd), s)
  else
   if isM 1 [[105, 110]] (lns s) = true then bd (whileM wrdB wrdT [] (tk (lns s))) fun ws s =>
    if isM 2 [[59]] s = false ∧ (nx s).k ≠ 3 then er 20 s else bd (bodyM (nestD n) (lns (tk s))) fun b s => .ok ({ k := 8, t := t, ws := ws, ks := [b], ln := ln }, s)
   else bd (bodyM (nestD n) (lns s)) fun b s => .ok ({ k := 8, t := t, fl := true, ks := [b], ln := ln }, s)) := by
  refine pre_if (fun s s' h => by simp only [h]) pre_er (pre_bd' raw_pre fun t => pre_if (cong_isM _ _) (pre_bd' (pre_over (body_pre hn)) fun b => pre_ok) ?_)
  refine pre_lns (f := fun s => if isM 1 [[105, 110]] s = true then bd (whileM wrdB wrdT [] (tk s)) fun ws s =>
    if isM 2 [[59]] s = false ∧ (nx s).k ≠ 3 then er 20 s else bd (bodyM (nestD n) (lns (tk s))) fun b s => .ok (({ k := 8, t := t, ws := ws, ks := [b], ln := ln } : Nd), s)
   else bd (bodyM (nestD n) s) fun b s => .ok ({ k := 8, t := t, fl := true, ks := [b], ln := ln }, s)) (pre_if (cong_isM _ _) (pre_bd' (pre_tk (while_pre wrd_takes wrd_ne (fun s s' h => by unfold wrdB; simp only [h]) (fun a => pre_bd' raw_pre fun x => pre_ok) [])) fun ws => pre_if (cong_isM2 _ _) pre_er (pre_bd' (pre_over (body_pre hn)) fun b => pre_ok)) (pre_bd' (body_pre hn) fun b => pre_ok))
 exact pre_tk hB
theorem item_pre : Pre (itemM (nestD n)) := by
 have rest : ∀ ln : Nat, Pre (fun s => bd (rawM s) fun w s1 => bd (whileM (isM 2 [[124]]) altT [w] s1) fun ws s2 =>
  bd (needM 2 [[41]] s2) fun _ s3 => bd (listM (nestD n) true s3) fun k s4 => putM { k := 10, ws := ws, ks := [k], ln := ln } s4) := fun ln =>
  pre_bd' raw_pre fun w => pre_bd' (while_pre alt_takes alt_ne (cong_isM _ _) (fun a => pre_bd' (pre_tk raw_pre) fun x => pre_ok) [w]) fun ws => pre_bd' need_pre fun _ => pre_bd' (list_pre hn true) fun k => pre_put
 refine pre_nx (G := fun t s => bd (rawM (if (decide (t.k = 2) && [[40]].contains t.t) = true then tk s else s)) fun w s1 => bd (whileM (isM 2 [[124]]) altT [w] s1) fun ws s2 =>
  bd (needM 2 [[41]] s2) fun _ s3 => bd (listM (nestD n) true s3) fun k s4 => putM { k := 10, ws := ws, ks := [k], ln := t.ln } s4) fun t => ?_
 cases hf : (decide (t.k = 2) && [[40]].contains t.t) with
 | false =>
  simp only [if_neg (show ¬ false = true by decide)]
  exact rest t.ln
 | true =>
  simp only [if_true]
  exact pre_tk (rest t.ln)
theorem items_pre (ks : List Nat) : Pre (itemsM (nestD n) ks) := by
 have hw := nest_weak n
 have key : ∀ (m : Nat) (ks : List Nat), PreP (fun s => s.2.length ≤ m) (itemsM (nestD n) ks) := by
  intro m
  induction m with
  | zero =>
   intro ks
   rw [show itemsM (nestD n) ks = fun s => if isM 1 [[101, 115, 97, 99]] s = true then .ok (ks, s) else bd (itemM (nestD n) s) fun k s => if isM 2 [[59, 59]] s = true then itemsM (nestD n) (ks ++ [k]) (lns (tk s)) else .ok (ks ++ [k], s) from funext (itemsM_eq hw ks)]
   refine pre_ite (cong_isM _ _) pre_ok (pre_bd (D' := fun s => s.2.length ≤ 0) (pre_less (item_pre hn) fun _ _ => trivial) (fun k => pre_ite (cong_isM _ _) (fun ns l hl => ?_) pre_ok) fun s a t hd e => Nat.le_trans (item_weak hw _ _ e) hd.1)
   have := isM_lt hl.2 (by decide)
   have := hl.1
   simp only at *
   omega
  | succ m ih =>
   intro ks
   rw [show itemsM (nestD n) ks = fun s => if isM 1 [[101, 115, 97, 99]] s = true then .ok (ks, s) else bd (itemM (nestD n) s) fun k s => if isM 2 [[59, 59]] s = true then itemsM (nestD n) (ks ++ [k]) (lns (tk s)) else .ok (ks ++ [k], s) from funext (itemsM_eq hw ks)]
   refine pre_ite (cong_isM _ _) pre_ok (pre_bd (D' := fun s => s.2.length ≤ m + 1) (pre_less (item_pre hn) fun _ _ => trivial) (fun k => pre_ite (cong_isM _ _) ?_ pre_ok) fun s a t hd e => Nat.le_trans (item_weak hw _ _ e) hd.1)
   refine pre_bd (D := fun s => s.2.length ≤ m + 1 ∧ isM 2 [[59, 59]] s = true) (D' := fun s => s.2.length ≤ m) (f := fun s => lnM (tk s)) (g := fun _ => itemsM (nestD n) (ks ++ [k])) (pre_tk pre_lnM) (fun _ => ih _) fun s a t hd e => ?_
   injection e with e
   injection e with e1 e2
   subst e2
   have := isM_lt hd.2 (by decide)
   have := lns_le (tk s)
   have := hd.1
   omega
 exact fun ns l _ => key l.length ks ns l (Nat.le_refl _)
theorem cases_pre (ln : Nat) : Pre (casesM (nestD n) ln) := pre_bd' (pre_tk raw_pre) fun t => pre_bd' (pre_lns need_pre) fun _ => pre_bd' (pre_lns (items_pre hn [])) fun ks => pre_bd' need_pre fun _ => pre_ok
theorem func_pre (ln : Nat) : Pre (funcM (nestD n) ln) := pre_bd' raw_pre fun t => pre_bd' need_pre fun _ => pre_bd' need_pre fun _ => pre_lns (f := fun s => if isComp s = false then er 20 s else bd (nestD n s) fun k s => .ok (({ k := 13, t := t, ks := [k], ln := ln } : Nd), s)) (pre_if (fun s s' h => by unfold isComp isM; simp only [h]) pre_er (pre_bd' hn fun k => pre_ok))
theorem comp_pre (ln : Nat) : PreP (fun s => (nx s).k ≠ 4) (compM (nestD n) ln) := by
 refine pre_ite (c := fun s => isM 2 [[40]] s = true) (cong_isM _ _) (pre_less (sub_pre hn ln) fun _ _ => trivial) (pre_ite (c := fun s => (nx s).t = [123]) (fun s s' h => by simp only [h]) (pre_less (group_pre hn ln) fun _ _ => trivial) (pre_ite (c := fun s => (nx s).t = [105, 102]) (fun s s' h => by simp only [h]) (pre_less (asks_pre hn ln) fun s hs => hs.1.1.1) (pre_if (c := fun s => (nx s).t = [102, 111, 114]) (fun s s' h => by simp only [h]) (each_pre hn ln) (pre_if (c := fun s => (nx s).t = [99, 97, 115, 101]) (fun s s' h => by simp only [h]) (cases_pre hn ln) (whil_pre hn ln)))))
end
theorem nest_pre : ∀ n : Nat, Pre (nestD n)
 | 0 => pre_er
 | n + 1 => by
  refine pre_nx (G := fun t s => if isComp s = true then bd (compM (nestD n) t.ln s) fun x s => bd (redirsM s) fun rs s => putM { x with rs := rs } s else bd (funcM (nestD n) t.ln s) putM) fun t => ?_
  exact pre_ite cong_comp (pre_bd' (pre_less (comp_pre (nest_pre n) t.ln) fun s hs => comp_k hs.2) fun x => pre_bd' redirs_pre fun rs => pre_put) (pre_bd' (pre_less (func_pre (nest_pre n) t.ln) fun _ _ => trivial) fun x => pre_put)
end Go.Proofs.YtknncfoaegmphaaGreatDoor.Sy
set_option linter.unusedVariables false
set_option linter.unusedSimpArgs false
namespace Go.Proofs.YtknncfoaegmphaaGreatDoor.Sy
open Lx
/-- It ends with a Line and an End. -/
def Tl (l : List Tok) : Prop := ∃ z t e, l <:+ z ++ [t, e] ∧ t.k = 3 ∧ e.k = 4
theorem tl_suf {l r : List Tok} (h : Tl l) (hr : r <:+ l) : Tl r := by
 obtain ⟨z, t, e, h1, h2, h3⟩ := h
 exact ⟨z, t, e, hr.trans h1, h2, h3⟩
theorem tl_two {t : Tok} {r : List Tok} (h : Tl (t :: r)) (h3 : t.k ≠ 3) (h4 : t.k ≠ 4) : 2 ≤ r.length := by
 obtain ⟨z, a, e, ⟨p, hp⟩, ha, he⟩ := h
 match r with
 | [] =>
  have : p ++ [t] = (z ++ [a]) ++ [e] := by rw [hp]; simp
  have := (List.append_inj' this rfl).2
  injection this with this
  rw [this] at h4
  exact absurd he h4
 | [x] =>
  have := (List.append_inj' hp rfl).2
  injection this with this
  rw [this] at h3
  exact absurd ha h3
 | x :: y :: r => simp
def FirmP {α : Type} (D : S → Prop) (f : S → P α) : Prop := ∀ ns l, D (ns, l) → Tl l → ∀ a ns' r, f (ns, l) = .ok (a, (ns', r)) → 2 ≤ r.length
abbrev Firm {α : Type} (f : S → P α) : Prop := FirmP AnyS f
abbrev Hold {α : Type} (f : S → P α) : Prop := FirmP (fun s => 2 ≤ s.2.length) f
theorem firm_less {α : Type} {D D' : S → Prop} {f : S → P α} (h : FirmP D f) (hd : ∀ s, D' s → D s) : FirmP D' f := fun ns l hl => h ns l (hd _ hl)
theorem firm_any {α : Type} {D : S → Prop} {f : S → P α} (h : Firm f) : FirmP D f := firm_less h fun _ _ => trivial
theorem pre_suf {α : Type} {D : S → Prop} {f : S → P α} (h : PreP D f) {ns ns' : List Nd} {l r : List Tok} {a : α} (hd : D (ns, l)) (e : f (ns, l) = .ok (a, (ns', r))) : r <:+ l := by
 obtain ⟨y, rfl, _⟩ := h ns l hd a ns' r e
 exact List.suffix_append y r
theorem firm_er {α : Type} {D : S → Prop} {e : Int} : FirmP D (fun s => er (α := α) e s) := fun ns l _ _ a ns' r h => by cases h
theorem hold_ok {α : Type} {a : α} : Hold (fun s => .ok (a, s)) := fun ns l h _ b ns' r e => by
 injection e with e
 injection e with e1 e2
 injection e2 with e2 e3
 subst e3
 exact h
theorem hold_put {n : Nd} : Hold (putM n) := fun ns l h _ b ns' r e => by
 injection e with e
 injection e with e1 e2
 injection e2 with e2 e3
 subst e3
 exact h
/-- What comes last is firm. -/
theorem firm_bd {α β : Type} {D D' : S → Prop} {f : S → P α} {g : α → S → P β} (hp : PreP D f) (hg : ∀ a, FirmP D' (g a)) (hd : ∀ s a t, D s → f s = .ok (a, t) → D' t) : FirmP D (fun s => bd (f s) g) := by
 intro ns l hl ht b ns2 r2 e
 obtain ⟨a, t, h1, h2⟩ := bd_ok_inv e
 obtain ⟨n1, r1⟩ := t
 exact hg a n1 r1 (hd _ _ _ hl h1) (tl_suf ht (pre_suf hp hl h1)) b ns2 r2 h2
theorem firm_bd' {α β : Type} {D : S → Prop} {f : S → P α} {g : α → S → P β} (hp : PreP D f) (hg : ∀ a, Firm (g a)) : FirmP D (fun s => bd (f s) g) := firm_bd hp hg fun _ _ _ _ _ => trivial
/-- What comes first is firm, and what comes behind holds it. -/
theorem firm_then {α β : Type} {D : S → Prop} {f : S → P α} {g : α → S → P β} (hp : PreP D f) (hf : FirmP D f) (hg : ∀ a, Hold (g a)) : FirmP D (fun s => bd (f s) g) := by
 intro ns l hl ht b ns2 r2 e
 obtain ⟨a, t, h1, h2⟩ := bd_ok_inv e
 obtain ⟨n1, r1⟩ := t
 exact hg a n1 r1 (hf ns l hl ht a n1 r1 h1) (tl_suf ht (pre_suf hp hl h1)) b ns2 r2 h2
theorem firm_nx {α : Type} {D : S → Prop} {G : Tok → S → P α} (h : ∀ t, FirmP D (G t)) : FirmP D (fun s => G (nx s) s) := fun ns l hl ht a ns' r e => h _ ns l hl ht a ns' r e
theorem firm_ite {α : Type} {D : S → Prop} {c : S → Prop} [DecidablePred c] {A B : S → P α} (hA : FirmP (fun s => D s ∧ c s) A) (hB : FirmP (fun s => D s ∧ ¬ c s) B) : FirmP D (fun s => if c s then A s else B s) := by
 intro ns l hl ht a ns' r e
 by_cases h : c (ns, l)
 ·
  simp only [if_pos h] at e
  exact hA ns l ⟨hl, h⟩ ht a ns' r e
 ·
  simp only [if_neg h] at e
  exact hB ns l ⟨hl, h⟩ ht a ns' r e
theorem firm_if {α : Type} {D : S → Prop} {c : S → Prop} [DecidablePred c] {A B : S → P α} (hA : Firm A) (hB : Firm B) : FirmP D (fun s => if c s then A s else B s) := firm_ite (firm_any hA) (firm_any hB)
theorem firm_tk {α : Type} {D : S → Prop} {f : S → P α} (h : Firm f) : FirmP D (fun s => f (tk s)) := firm_bd' (f := tkM) (g := fun _ => f) pre_tkM fun _ => h
theorem firm_lns {α : Type} {D : S → Prop} {f : S → P α} (h : Firm f) : FirmP D (fun s => f (lns s)) := firm_bd' (f := lnM) (g := fun _ => f) pre_lnM fun _ => h
theorem firm_over {α : Type} {D : S → Prop} {f : S → P α} (h : Firm f) : FirmP D (fun s => f (lns (tk s))) := firm_tk (f := fun s => f (lns s)) (firm_lns h)
theorem tl_nx {ns : List Nd} {l : List Tok} (h : Tl l) (h3 : (nx (ns, l)).k ≠ 3) (h4 : (nx (ns, l)).k ≠ 4) : 2 ≤ (tk (ns, l)).2.length ∧ 2 ≤ l.length := by
 cases l with
 | nil => exact absurd rfl h4
 | cons t r =>
  have := tl_two h h3 h4
  unfold tk
  rw [if_neg h4]
  exact ⟨this, by simp; omega⟩
theorem need_firm {k : Nat} {ts : List Nm} (h3 : k ≠ 3) (h4 : k ≠ 4) : Firm (needM k ts) := fun ns l _ ht a ns' r e => by
 unfold needM at e
 split at e
 ·
  rename_i hi
  have hk := isM_k hi
  have := tl_nx (ns := ns) ht (by rw [hk]; exact h3) (by rw [hk]; exact h4)
  injection e with e
  injection e with e1 e2
  rw [e2] at this
  exact this.1
 · cases e
theorem raw_firm : Firm rawM := fun ns l _ ht a ns' r e => by
 unfold rawM at e
 split at e
 ·
  rename_i hk
  have := tl_nx (ns := ns) ht (by rw [hk]; decide) (by rw [hk]; decide)
  injection e with e
  injection e with e1 e2
  rw [e2] at this
  exact this.1
 · cases e
theorem redir_firm : Firm redirM := fun ns l _ ht a ns' r e => by
 unfold redirM at e
 simp only at e
 obtain ⟨w, t, h1, h2⟩ := bd_ok_inv e
 injection h2 with h2
 injection h2 with h2 h3
 subst h3
 have hs : ∀ s : S, (tk s).2 <:+ s.2 := fun s => by
  unfold tk
  split
  · exact List.suffix_rfl
  · exact List.tail_suffix _
 have key : ∀ s : S, Tl s.2 → rawM s = .ok (w, (ns', r)) → 2 ≤ r.length := fun s hs e => raw_firm s.1 s.2 trivial hs w ns' r e
 refine key _ (tl_suf ht ?_) h1
 split
 · exact (hs _).trans (hs (ns, l))
 · exact hs (ns, l)
theorem while_hold {α : Type} {cond : S → Bool} {step : α → S → P α} (hp : ∀ a, PreP (fun s => cond s = true) (step a)) (hs : ∀ a, FirmP (fun s => 2 ≤ s.2.length ∧ cond s = true) (step a)) (a : α) : Hold (whileM cond step a) := fun ns l h ht b ns' r e => by
 have := loop_inv (cond := cond) (step := step) (I := fun _ s => Tl s.2 ∧ 2 ≤ s.2.length) (fun a s y hI hc hy => ?_) l.length a (ns, l) (b, (ns', r)) ⟨ht, h⟩ e
 · exact this.2
 ·
  obtain ⟨x, n1, r1⟩ := y
  exact ⟨tl_suf hI.1 (pre_suf (hp a) (ns := s.1) (l := s.2) hc hy), hs a s.1 s.2 ⟨hI.2, hc⟩ hI.1 x n1 r1 hy⟩
theorem redirs_hold : Hold redirsM := while_hold (cond := redirects) (step := redS) (fun a => pre_bd' (pre_less redir_pre fun _ _ => trivial) fun x => pre_ok) (fun a => firm_then (pre_less redir_pre fun _ _ => trivial) (firm_any redir_firm) fun x => hold_ok) []
theorem simple_hold : Hold simpleM := by
 refine firm_nx (G := fun t s => bd (whileM simB simT ({ k := 1, ln := t.ln } : Nd) s) putM) fun t => firm_then (pre_less (while_pre sim_takes sim_ne (fun s s' h => by unfold simB redirects isM; simp only [h]) (fun a => ?_) _) fun _ _ => trivial) (while_hold (fun a => ?_) (fun a => ?_) _) fun n => hold_put
 · exact pre_if cong_red (pre_bd' redir_pre fun x => pre_ok) (pre_bd' raw_pre fun w => pre_ok)
 · exact pre_if cong_red (pre_bd' redir_pre fun x => pre_ok) (pre_bd' raw_pre fun w => pre_ok)
 · exact firm_if (firm_then redir_pre redir_firm fun x => hold_ok) (firm_then raw_pre raw_firm fun w => hold_ok)
theorem begins_k {s : S} (h : begins s = true) : (nx s).k ≠ 3 ∧ (nx s).k ≠ 4 := by
 unfold begins at h
 constructor
 ·
  intro e
  rw [if_neg (by omega), if_neg (by omega)] at h
  simp [e] at h
 ·
  intro e
  rw [if_neg (by omega), if_neg (by omega)] at h
  simp [e] at h
section
variable {n : Nat} (hn : Firm (nestD n))
include hn
theorem cmd_firm : Firm (cmdM (nestD n)) := fun ns l _ ht a ns' r e => by
 unfold cmdM at e
 split at e
 · cases e
 ·
  rename_i hb
  split at e
  ·
   have hb2 : begins (ns, l) = true := by
    cases h : begins (ns, l) with
    | true => rfl
    | false => exact absurd (.inl h) hb
   have hk := begins_k hb2
   exact simple_hold ns l (tl_nx ht hk.1 hk.2).2 ht a ns' r e
  · exact hn ns l trivial ht a ns' r e
theorem pipe_firm : Firm (pipeM (nestD n)) := by
 have hw := nest_weak n
 have hpn := nest_pre n
 have rest : ∀ (fl : Bool) (ln : Nat), Firm (fun s1 => bd (cmdM (nestD n) s1) fun k s2 => bd (whileM (isM 2 [[124]]) (pipT (nestD n)) [k] s2) fun ks s3 =>
   if fl = false ∧ ks.length = 1 then .ok (k, s3) else putM { k := 2, fl := fl, ks := ks, ln := ln } s3) := fun fl ln =>
  firm_then (cmd_pre hpn) (cmd_firm hn) fun k => firm_then (pre_less (while_pre (pip_takes hw) alt_ne (cong_isM _ _) (fun a => pre_bd' (pre_over (cmd_pre hpn)) fun k => pre_ok) _) fun _ _ => trivial) (while_hold (fun a => pre_bd' (pre_over (cmd_pre hpn)) fun k => pre_ok) (fun a => firm_then (pre_over (cmd_pre hpn)) (firm_over (cmd_firm hn)) fun k => hold_ok) _) fun ks => by
   by_cases h : fl = false ∧ ks.length = 1
   · simp only [if_pos h]; exact hold_ok
   · simp only [if_neg h]; exact hold_put
 refine firm_nx (G := fun t s =>
  let fl := decide (t.k = 1) && [[33]].contains t.t
  let s1 := if fl then tk s else s
  bd (cmdM (nestD n) s1) fun k s2 => bd (whileM (isM 2 [[124]]) (pipT (nestD n)) [k] s2) fun ks s3 =>
   if fl = false ∧ ks.length = 1 then .ok (k, s3) else putM { k := 2, fl := fl, ks := ks, ln := t.ln } s3) fun t => ?_
 cases hf : (decide (t.k = 1) && [[33]].contains t.t) with
 | false =>
  have h := rest false t.ln
  simp only [if_neg (show ¬ false = true by decide)] at h ⊢
  simpa using h
 | true =>
  simp only [if_true]
  exact firm_tk (rest true t.ln)
theorem andor_firm : Firm (andorM (nestD n)) := by
 have hw := nest_weak n
 have hpn := nest_pre n
 refine firm_nx (G := fun t s => bd (pipeM (nestD n) s) fun k s1 => whileM (isM 2 [[38, 38], [124, 124]]) (aoT (nestD n) t.ln) k s1) fun t => firm_then (pipe_pre hpn) (pipe_firm hn) fun k => while_hold (fun a => ?_) (fun a => ?_) k
 · exact pre_nx (G := fun u s2 => bd (pipeM (nestD n) (lns (tk s2))) fun k2 s3 => putM { k := if u.t = [124, 124] then 4 else 3, ks := [a, k2], ln := t.ln } s3) fun u => pre_bd' (pre_over (pipe_pre hpn)) fun k2 => pre_put
 · exact firm_nx (G := fun u s2 => bd (pipeM (nestD n) (lns (tk s2))) fun k2 s3 => putM { k := if u.t = [124, 124] then 4 else 3, ks := [a, k2], ln := t.ln } s3) fun u => firm_then (pre_over (pipe_pre hpn)) (firm_over (pipe_firm hn)) fun k2 => hold_put
omit hn in
theorem body_firm : Firm (bodyM (nestD n)) := firm_bd' need_pre fun _ => firm_bd' (list_pre (nest_pre n) false) fun k => firm_then need_pre (need_firm (by decide) (by decide)) fun _ => hold_ok
omit hn in
theorem group_firm (ln : Nat) : Firm (groupM (nestD n) ln) := firm_bd' (pre_tk (list_pre (nest_pre n) false)) fun k => firm_then need_pre (need_firm (by decide) (by decide)) fun _ => hold_ok
omit hn in
theorem sub_firm (ln : Nat) : Firm (subM (nestD n) ln) := firm_bd' (pre_tk (list_pre (nest_pre n) false)) fun k => firm_then need_pre (need_firm (by decide) (by decide)) fun _ => hold_ok
omit hn in
theorem asks_firm (ln : Nat) : FirmP (fun s => (nx s).k ≠ 4) (asksM (nestD n) ln) := by
 have hw := nest_weak n
 have hpn := nest_pre n
 have key : ∀ (m : Nat) (ln : Nat), FirmP (fun s => (nx s).k ≠ 4 ∧ s.2.length ≤ m) (asksM (nestD n) ln) := by
  intro m
  induction m with
  | zero =>
   intro ln ns l hl
   have := tk_lt hl.1
   have := hl.2
   simp only at *
   omega
  | succ m ih =>
   intro ln ns l hl ht a ns' r e
   have hB : FirmP (fun s => (nx s).k ≠ 4 ∧ s.2.length ≤ m + 1) (fun s => bd (listM (nestD n) false (tk s)) fun c s => bd (needM 1 [[116, 104, 101, 110]] s) fun _ s => bd (listM (nestD n) false s) fun b s =>
     if isM 1 [[101, 108, 105, 102]] s = true then bd (asksM (nestD n) (nx s).ln s) fun n s => bd (putM n s) fun k s => .ok (({ k := 6, ks := [c, b, k], ln := ln } : Nd), s)
     else if isM 1 [[101, 108, 115, 101]] s = true then bd (listM (nestD n) false (tk s)) fun k s => bd (needM 1 [[102, 105]] s) fun _ s => .ok ({ k := 6, ks := [c, b, k], ln := ln }, s)
     else bd (needM 1 [[102, 105]] s) fun _ s => .ok ({ k := 6, ks := [c, b], ln := ln }, s)) := by
    refine firm_bd (D' := fun s => s.2.length ≤ m) (pre_tk (list_pre hpn false)) (fun c => firm_bd (D' := fun s => s.2.length ≤ m) (pre_less need_pre fun _ _ => trivial) (fun _ => firm_bd (D' := fun s => s.2.length ≤ m) (pre_less (list_pre hpn false) fun _ _ => trivial) (fun b => ?_) fun s a t hd e => ?_) fun s a t hd e => ?_) fun s a t hd e => ?_
    · refine firm_ite (firm_nx (G := fun t s => bd (asksM (nestD n) t.ln s) fun n s => bd (putM n s) fun k s => .ok (({ k := 6, ks := [c, b, k], ln := ln } : Nd), s)) fun t => firm_then (pre_less (asks_pre hpn t.ln) fun s hs => by rw [isM_k hs.2]; decide) (firm_less (ih t.ln) fun s hs => ⟨by rw [isM_k hs.2]; decide, hs.1⟩) fun x => firm_then (pre_less pre_put fun _ _ => trivial) hold_put fun k => hold_ok) (firm_if (firm_bd' (pre_tk (list_pre hpn false)) fun k => firm_then need_pre (need_firm (by decide) (by decide)) fun _ => hold_ok) (firm_then need_pre (need_firm (by decide) (by decide)) fun _ => hold_ok))
    · exact Nat.le_trans (list_weak hw false _ _ e) hd
    · exact Nat.le_trans (need_weak _ e) hd
    ·
     have h1 := list_weak hw false _ _ e
     have h2 := tk_lt hd.1
     have := hd.2
     simp only at *
     omega
   rw [asksM_eq hw ln (ns, l) hl.1] at e
   exact hB ns l hl ht a ns' r e
 exact fun ns l hl => key l.length ln ns l ⟨hl, Nat.le_refl _⟩
omit hn in
theorem whil_firm (ln : Nat) : Firm (whilM (nestD n) ln) := firm_nx (G := fun t s => bd (listM (nestD n) false (tk s)) fun c s1 => bd (bodyM (nestD n) s1) fun b s2 => .ok (({ k := 7, fl := decide (t.t = [117, 110, 116, 105, 108]), ks := [c, b], ln := ln } : Nd), s2)) fun t => firm_bd' (pre_tk (list_pre (nest_pre n) false)) fun c => firm_then (body_pre (nest_pre n)) body_firm fun b => hold_ok
omit hn in
theorem each_firm (ln : Nat) : Firm (eachM (nestD n) ln) := by
 have hpn := nest_pre n
 have hB : Firm (fun s => if nameB (nx s).t = false then er 20 s else bd (rawM s) fun t s =>
  if isM 2 [[59]] s = true then bd (bodyM (nestD n) (lns (tk s))) fun b s => .ok (({ k := 8, t := t, fl := true, ks := [b], ln := ln } : Nd), s)
  else
   if isM 1 [[105, 110]] (lns s) = true then bd (whileM wrdB wrdT [] (tk (lns s))) fun ws s =>
    if isM 2 [[59]] s = false ∧ (nx s).k ≠ 3 then er 20 s else bd (bodyM (nestD n) (lns (tk s))) fun b s => .ok ({ k := 8, t := t, ws := ws, ks := [b], ln := ln }, s)
   else bd (bodyM (nestD n) (lns s)) fun b s => .ok ({ k := 8, t := t, fl := true, ks := [b], ln := ln }, s)) := by
  refine firm_if firm_er (firm_bd' raw_pre fun t => firm_if (firm_then (pre_over (body_pre hpn)) (firm_over body_firm) fun b => hold_ok) ?_)
  refine firm_lns (f := fun s => if isM 1 [[105, 110]] s = true then bd (whileM wrdB wrdT [] (tk s)) fun ws s =>
    if isM 2 [[59]] s = false ∧ (nx s).k ≠ 3 then er 20 s else bd (bodyM (nestD n) (lns (tk s))) fun b s => .ok (({ k := 8, t := t, ws := ws, ks := [b], ln := ln } : Nd), s)
   else bd (bodyM (nestD n) s) fun b s => .ok ({ k := 8, t := t, fl := true, ks := [b], ln := ln }, s)) (firm_if (firm_bd' (pre_tk (while_pre wrd_takes wrd_ne (fun s s' h => by unfold wrdB; simp only [h]) (fun a => pre_bd' raw_pre fun x => pre_ok) [])) fun ws => firm_if firm_er (firm_then (pre_over (body_pre hpn)) (firm_over body_firm) fun b => hold_ok)) (firm_then (body_pre hpn) body_firm fun b => hold_ok))
 exact firm_tk hB
omit hn in
theorem cases_firm (ln : Nat) : Firm (casesM (nestD n) ln) := firm_bd' (pre_tk raw_pre) fun t => firm_bd' (pre_lns need_pre) fun _ => firm_bd' (pre_lns (items_pre (nest_pre n) [])) fun ks => firm_then need_pre (need_firm (by decide) (by decide)) fun _ => hold_ok
theorem func_firm (ln : Nat) : Firm (funcM (nestD n) ln) := firm_bd' raw_pre fun t => firm_bd' need_pre fun _ => firm_bd' need_pre fun _ => firm_lns (f := fun s => if isComp s = false then er 20 s else bd (nestD n s) fun k s => .ok (({ k := 13, t := t, ks := [k], ln := ln } : Nd), s)) (firm_if firm_er (firm_then (nest_pre n) hn fun k => hold_ok))
omit hn in
theorem comp_firm (ln : Nat) : FirmP (fun s => (nx s).k ≠ 4) (compM (nestD n) ln) := by
 refine firm_ite (c := fun s => isM 2 [[40]] s = true) (firm_any (sub_firm ln)) (firm_ite (c := fun s => (nx s).t = [123]) (firm_any (group_firm ln)) (firm_ite (c := fun s => (nx s).t = [105, 102]) (firm_less (asks_firm ln) fun s hs => hs.1.1.1) (firm_if (c := fun s => (nx s).t = [102, 111, 114]) (each_firm ln) (firm_if (c := fun s => (nx s).t = [99, 97, 115, 101]) (cases_firm ln) (whil_firm ln)))))
end
theorem nest_firm : ∀ n : Nat, Firm (nestD n)
 | 0 => firm_er
 | n + 1 => by
  have hpn := nest_pre n
  refine firm_nx (G := fun t s => if isComp s = true then bd (compM (nestD n) t.ln s) fun x s => bd (redirsM s) fun rs s => putM { x with rs := rs } s else bd (funcM (nestD n) t.ln s) putM) fun t => ?_
  exact firm_ite (firm_then (pre_less (comp_pre hpn t.ln) fun s hs => comp_k hs.2) (firm_less (comp_firm t.ln) fun s hs => comp_k hs.2) fun x => firm_then (pre_less redirs_pre fun _ _ => trivial) redirs_hold fun rs => hold_put) (firm_then (pre_less (func_pre hpn t.ln) fun _ _ => trivial) (firm_any (func_firm (nest_firm n) t.ln)) fun x => hold_put)
theorem drop_app (t e : Tok) (v : List Tok) (h3 : t.k = 3) (h4 : e.k = 4) : ∀ z : List Tok, (dropL (z ++ [t, e]) = [e] ∧ dropL (z ++ t :: v) = dropL v) ∨ ∃ z3, z3 ≠ [] ∧ (∀ u, z3.head? = some u → u.k ≠ 3) ∧ z3 <:+ z ∧ dropL (z ++ [t, e]) = z3 ++ [t, e] ∧ dropL (z ++ t :: v) = z3 ++ t :: v
 | [] => by
  refine .inl ⟨?_, ?_⟩
  ·
   show dropL [t, e] = [e]
   rw [dropL, if_pos h3, dropL, if_neg (by omega)]
  ·
   show dropL (t :: v) = dropL v
   rw [dropL, if_pos h3]
 | u :: z => by
  by_cases hu : u.k = 3
  ·
   rw [List.cons_append, List.cons_append, dropL, if_pos hu, dropL, if_pos hu]
   rcases drop_app t e v h3 h4 z with h | ⟨z3, a, b, c, d⟩
   · exact .inl h
   · exact .inr ⟨z3, a, b, c.trans (List.suffix_cons u z), d⟩
  ·
   rw [List.cons_append, List.cons_append, dropL, if_neg hu, dropL, if_neg hu]
   exact .inr ⟨u :: z, by simp, fun x hx => by injection hx with hx; rw [← hx]; exact hu, List.suffix_rfl, rfl, rfl⟩
theorem run_end {n : Nat} {ks : List Nat} {ns : List Nd} {e : Tok} (h4 : e.k = 4) : runM (nestD n) ks (ns, [e]) = .ok (ks, (ns, [e])) := by
 rw [run_eq (nest_weak n)]
 have : begins (ns, [e]) = false := by
  cases h : begins (ns, [e]) with
  | false => rfl
  | true => exact absurd h4 (begins_k h).2
 rw [this]
 rfl
theorem run_two (n : Nat) (t e : Tok) (v : List Tok) (h3 : t.k = 3) (h4 : e.k = 4) (hv : v ≠ []) : ∀ (m : Nat) (z : List Tok) (ks : List Nat) (ns : List Nd) (ks' : List Nat) (ns' : List Nd) (r : List Tok), z.length ≤ m → z ≠ [] → (∀ u ∈ z, u.k ≠ 4) →
  runM (nestD n) ks (ns, z ++ [t, e]) = .ok (ks', (ns', r)) → (nx (ns', r)).k = 4 → runM (nestD n) ks (ns, z ++ t :: v) = runM (nestD n) ks' (ns', dropL v) := by
 intro m
 induction m with
 | zero => intro z ks ns ks' ns' r hl hz; exact absurd (List.length_eq_zero_iff.1 (Nat.le_zero.1 hl)) hz
 | succ m ih =>
  intro z ks ns ks' ns' r hl hz hz4 he hr
  have hw := nest_weak n
  have hlv : 1 ≤ v.length := List.length_pos_iff.2 hv
  rw [run_eq hw] at he ⊢
  have hnx : nx (ns, z ++ t :: v) = nx (ns, z ++ [t, e]) := by
   cases z with
   | nil => exact absurd rfl hz
   | cons u z => rfl
  have hbe : begins (ns, z ++ t :: v) = begins (ns, z ++ [t, e]) := by unfold begins; rw [hnx]
  rw [hbe]
  cases hb : begins (ns, z ++ [t, e]) with
  | false =>
   rw [hb] at he
   injection he with he
   injection he with e1 e2
   injection e2 with e2 e3
   subst e3
   cases z with
   | nil => exact absurd rfl hz
   | cons u z => exact absurd hr (hz4 u List.mem_cons_self)
  | true =>
   rw [hb, if_pos rfl] at he
   rw [if_pos rfl]
   obtain ⟨k, s1, h5, h6⟩ := bd_ok_inv he
   obtain ⟨n1, r1⟩ := s1
   have hT : Tl (z ++ [t, e]) := ⟨z, t, e, List.suffix_rfl, h3, h4⟩
   have h7 := andor_firm (nest_firm n) ns _ trivial hT k n1 r1 h5
   obtain ⟨y, h8, h9⟩ := andor_pre (nest_pre n) ns _ trivial k n1 r1 h5
   have hyl : y.length ≤ z.length := by
    have := congrArg List.length h8
    simp at this
    omega
   obtain ⟨z1, hz1⟩ : ∃ z1, z = y ++ z1 := by
    have h10 : y <+: z ++ [t, e] := ⟨r1, h8.symm⟩
    have h11 : y <+: z := List.prefix_of_prefix_length_le h10 (List.prefix_append z [t, e]) hyl
    obtain ⟨z1, h12⟩ := h11
    exact ⟨z1, h12.symm⟩
   subst hz1
   have hr1 : r1 = z1 ++ [t, e] := by
    rw [List.append_assoc] at h8
    exact (List.append_cancel_left h8).symm
   subst hr1
   have hag : Agree (z1 ++ t :: v) (z1 ++ [t, e]) := ⟨h7, by simp; omega, by cases z1 <;> rfl⟩
   have h10 := h9 _ hag
   rw [← List.append_assoc] at h10
   rw [h10, bd_ok]
   have hnx1 : nx (n1, z1 ++ t :: v) = nx (n1, z1 ++ [t, e]) := head_nx hag.2.2
   have his : isM 2 [[59]] (n1, z1 ++ t :: v) = isM 2 [[59]] (n1, z1 ++ [t, e]) := by unfold isM; rw [hnx1]
   rw [his, hnx1]
   have hnk : (nx (n1, z1 ++ [t, e])).k ≠ 4 := by
    cases z1 with
    | nil => show t.k ≠ 4; omega
    | cons u z2 => exact hz4 u (List.mem_append_right _ List.mem_cons_self)
   by_cases hc : isM 2 [[59]] (n1, z1 ++ [t, e]) = false ∧ (nx (n1, z1 ++ [t, e])).k ≠ 3
   ·
    rw [if_pos hc] at h6
    injection h6 with h6
    injection h6 with e1 e2
    injection e2 with e2 e3
    subst e2 e3
    exact absurd hr hnk
   ·
    rw [if_neg hc] at h6 ⊢
    have t1 : tk (n1, z1 ++ [t, e]) = (n1, (z1 ++ [t, e]).tail) := by unfold tk; rw [if_neg hnk]
    have t2 : tk (n1, z1 ++ t :: v) = (n1, (z1 ++ t :: v).tail) := by unfold tk; rw [if_neg (by rw [hnx1]; exact hnk)]
    rw [t1] at h6
    rw [t2]
    have stop : ∀ X, runM (nestD n) (ks ++ [k]) (n1, [e]) = .ok (ks', (ns', r)) → runM (nestD n) (ks ++ [k]) (n1, X) = runM (nestD n) ks' (ns', X) := fun X h => by
     rw [run_end h4] at h
     injection h with h
     injection h with e1 e2
     injection e2 with e2 e3
     rw [e1, e2]
    cases z1 with
    | nil =>
     have h6' : runM (nestD n) (ks ++ [k]) (n1, dropL [e]) = .ok (ks', (ns', r)) := h6
     rw [show dropL [e] = [e] by rw [dropL, if_neg (by omega)]] at h6'
     exact stop (dropL v) h6'
    | cons u z2 =>
     have h6' : runM (nestD n) (ks ++ [k]) (n1, dropL (z2 ++ [t, e])) = .ok (ks', (ns', r)) := h6
     show runM (nestD n) (ks ++ [k]) (n1, dropL (z2 ++ t :: v)) = _
     rcases drop_app t e v h3 h4 z2 with ⟨q1, q2⟩ | ⟨z3, q0, q1, q2, q3, q4⟩
     ·
      rw [q1] at h6'
      rw [q2]
      exact stop (dropL v) h6'
     ·
      rw [q3] at h6'
      rw [q4]
      have := q2.length_le
      exact ih z3 _ _ _ _ _ (by simp at hl; omega) q0 (fun x hx => hz4 x (List.mem_append_right _ (List.mem_cons_of_mem _ (q2.subset hx)))) h6' hr
theorem run_ahead (n : Nat) (k0 : List Nat) : ∀ (m : Nat) (ks : List Nat) (s : S), s.2.length ≤ m → runM (nestD n) (k0 ++ ks) s = bd (runM (nestD n) ks s) fun r s => .ok (k0 ++ r, s) := by
 have hw := nest_weak n
 intro m
 induction m with
 | zero =>
  intro ks s hl
  rw [run_eq hw, run_eq hw]
  have : begins s = false := by
   cases h : begins s with
   | false => rfl
   | true => have := tk_lt (begins_ne h); omega
  rw [this]
  rfl
 | succ m ih =>
  intro ks s hl
  rw [run_eq hw, run_eq hw]
  cases hb : begins s with
  | false => rfl
  | true =>
   rw [if_pos rfl, if_pos rfl]
   cases he : andorM (nestD n) s with
   | error e => rfl
   | ok x =>
    have h1 := andor_weak hw s x he
    obtain ⟨k, s1⟩ := x
    simp only [bd_ok]
    simp only at h1
    by_cases hc : isM 2 [[59]] s1 = false ∧ (nx s1).k ≠ 3
    · rw [if_pos hc, if_pos hc, bd_ok, List.append_assoc]
    ·
     rw [if_neg hc, if_neg hc, List.append_assoc]
     have h4 : (nx s1).k ≠ 4 := fun e => hc ⟨by
      cases hi : isM 2 [[59]] s1 with
      | false => rfl
      | true => have := isM_k hi; omega, by omega⟩
     have h2 := tk_lt h4
     have h3 := lns_le (tk s1)
     exact ih _ _ (by omega)
theorem list_true (n : Nat) (s : S) : listM (nestD n) true s = bd (runM (nestD n) [] (lns s)) fun ks s1 => putM { k := 5, ks := ks, ln := (nx (lns s)).ln } s1 := by
 unfold listM runM
 rw [listF_eq (nest_weak n) s.2.length (lns s).2.length [] (lns s) (lns_le s) (Nat.le_refl _)]
 cases listF (nestD n) (lns s).2.length [] (lns s) with
 | error e => rfl
 | ok x =>
  obtain ⟨ks, s1⟩ := x
  simp only [bd_ok]
  rw [if_neg (by simp)]
theorem map_drop (d : Nat) : ∀ l : List Tok, dropL (l.map (Lx.sh d)) = (dropL l).map (Lx.sh d)
 | [] => rfl
 | t :: l => by
  rw [List.map_cons]
  unfold dropL
  by_cases h : t.k = 3
  · rw [if_pos h, if_pos (show (Lx.sh d t).k = 3 from h), map_drop d l]
  · rw [if_neg h, if_neg (show ¬ (Lx.sh d t).k = 3 from h)]; rfl
theorem sh_rel (d : Nat) : TokRel (fun l l' : List Tok => l' = l.map (Lx.sh d)) where
 head h := by subst h; rename_i l; cases l <;> exact ⟨rfl, rfl, rfl⟩
 nil h := by subst h; simp
 tail h _ := by injection h
 lns h := by subst h; exact map_drop d _
 over h := by injection h with h1 h2; rw [h2]; exact map_drop d _
 io h _ := by injection h with h1 h2; injection h2
theorem parse_list {s : Nm} {T : List Nd} (h : parseM s = .ok T) : ∃ l N ks r, allM s = .ok l ∧ runM (nestD 40) [] ([], dropL l) = .ok (ks, (N, r)) ∧ (nx (N, r)).k = 4 ∧ T = N ++ [{ k := 5, ks := ks, ln := (nx (([] : List Nd), dropL l)).ln }] := by
 unfold parseM at h
 cases hl : allM s with
 | error x => rw [hl] at h; cases h
 | ok l =>
  rw [hl] at h
  simp only [list_true] at h
  have e1 : Sy.lns (([] : List Nd), l) = ([], dropL l) := rfl
  rw [e1] at h
  cases hr : runM (nestD 40) [] ([], dropL l) with
  | error x => rw [hr] at h; cases h
  | ok x =>
   obtain ⟨ks, N, r⟩ := x
   rw [hr] at h
   simp only [bd_ok, putM] at h
   split at h
   · cases h
   ·
    rename_i hk
    injection h with h
    have hk2 : (nx (N, r)).k = 4 := by
     have : nx (N ++ [({ k := 5, ks := ks, ln := (nx (([] : List Nd), dropL l)).ln } : Nd)], r) = nx (N, r) := rfl
     rw [this] at hk
     simpa using hk
    exact ⟨l, N, ks, r, rfl, hr, hk2, h.symm⟩
theorem list_parse {s : Nm} {l : List Tok} {N : List Nd} {ks : List Nat} {r : List Tok} (h1 : allM s = .ok l) (h2 : runM (nestD 40) [] ([], dropL l) = .ok (ks, (N, r))) (h3 : (nx (N, r)).k = 4) : parseM s = .ok (N ++ [{ k := 5, ks := ks, ln := (nx (([] : List Nd), dropL l)).ln }]) := by
 unfold parseM
 rw [h1]
 simp only [list_true]
 have e1 : Sy.lns (([] : List Nd), l) = ([], dropL l) := rfl
 rw [e1, h2]
 simp only [bd_ok, putM]
 rw [if_neg (by
  show ¬ (nx (N, r)).k ≠ 4
  simp [h3])]
/-- The tree of two scripts. -/
theorem two_parse {a b : Nm} (ha : a.getLast? ≠ some 92) {T U : List Nd} (h1 : parseM (a ++ [10]) = .ok T) (h2 : parseM b = .ok U) :
  ∃ (N M B : List Nd) (k1 k2 : List Nat) (g1 g2 g3 : Nat), T = N ++ [{ k := 5, ks := k1, ln := g1 }] ∧ U = B ++ [{ k := 5, ks := k2, ln := g2 }] ∧ M.map bare = B.map (sh N.length) ∧
   parseM (a ++ 10 :: b) = .ok (N ++ M ++ [{ k := 5, ks := k1 ++ k2.map (· + N.length), ln := g3 }]) := by
 obtain ⟨l, N, k1, r, e1, e2, e3, e4⟩ := parse_list h1
 obtain ⟨mb, B, k2, rb, f1, f2, f3, f4⟩ := parse_list h2
 obtain ⟨z, t, e, d, hm, h3, h4, h5⟩ := all_two ha e1 f1
 subst hm
 have hz4 : ∀ u ∈ z, u.k ≠ 4 := fun u hu => by
  have h6 := all_lines (a ++ [10])
  rw [e1] at h6
  obtain ⟨l', h7, _, h8, _⟩ := h6
  rw [show z ++ [t, e] = (z ++ [t]) ++ [e] by simp] at h7
  have h9 := (List.append_inj' h7 rfl).1
  have h10 := (h8 u (by rw [← h9]; exact List.mem_append_left _ hu)).1
  omega
 have hmb : mb ≠ [] := fun h => by
  have h6 := all_lines b
  rw [f1] at h6
  obtain ⟨l', h7, _⟩ := h6
  rw [h] at h7
  simp at h7
 have hv : mb.map (Lx.sh d) ≠ [] := by simp [hmb]
 have key : runM (nestD 40) [] ([], dropL (z ++ t :: mb.map (Lx.sh d))) = runM (nestD 40) k1 (N, dropL (mb.map (Lx.sh d))) := by
  rcases drop_app t e (mb.map (Lx.sh d)) h3 h4 z with ⟨q1, q2⟩ | ⟨z3, q0, q1, q2, q3, q4⟩
  ·
   rw [q1, run_end h4] at e2
   injection e2 with e2
   injection e2 with c1 c2
   injection c2 with c2 c3
   subst c1 c2
   rw [q2]
  ·
   rw [q3] at e2
   rw [q4]
   exact run_two 40 t e _ h3 h4 hv _ z3 _ _ _ _ _ (Nat.le_refl _) q0 (fun x hx => hz4 x (q2.subset hx)) e2 e3
 have hsim := listF_sim (sh_rel d) (nest_weak 40) (nest_sim (ns0 := N) (sh_rel d) 40) _ _ [] [] ([], dropL mb) (N, dropL (mb.map (Lx.sh d))) (Nat.le_refl _) (Nat.le_refl _) rfl ⟨⟨[], by simp, rfl⟩, map_drop d mb⟩
 have f2' : listF (nestD 40) (dropL mb).length [] ([], dropL mb) = .ok (k2, (B, rb)) := f2
 rw [f2'] at hsim
 cases hx : listF (nestD 40) (dropL (mb.map (Lx.sh d))).length [] (N, dropL (mb.map (Lx.sh d))) with
 | error x => rw [hx] at hsim; exact hsim.elim
 | ok y =>
  rw [hx] at hsim
  obtain ⟨k3, N3, r3⟩ := y
  obtain ⟨hk, hsr⟩ := hsim
  obtain ⟨M, q1, q2⟩ := hsr.ns
  have q1 : N3 = N ++ M := q1
  subst q1
  have hx2 : runM (nestD 40) [] (N, dropL (mb.map (Lx.sh d))) = .ok (k3, (N ++ M, r3)) := hx
  have hk : k3 = k2.map (· + N.length) := hk
  subst hk
  have h6 := run_ahead 40 k1 _ [] (N, dropL (mb.map (Lx.sh d))) (Nat.le_refl _)
  rw [List.append_nil, hx2, bd_ok] at h6
  rw [h6] at key
  have h7 : (nx (N ++ M, r3)).k = 4 := by rw [hsr.k (sh_rel d)]; exact f3
  exact ⟨N, M, B, k1, k2, _, _, _, e4, f4, q2, list_parse h5 key h7⟩
end Go.Proofs.YtknncfoaegmphaaGreatDoor.Sy
set_option linter.unusedVariables false
set_option linter.unusedSimpArgs false
namespace Go.Proofs.YtknncfoaegmphaaGreatDoor.Sy
open Lx
def Ne0 {α : Type} (x : P α) : Prop := ∀ e, x = .error e → e.1 ≠ 0
theorem ne_bd {α β : Type} {x : P α} {f : α → S → P β} (h : Ne0 x) (hf : ∀ a t, Ne0 (f a t)) : Ne0 (bd x f) := by
 cases x with
 | error e => exact fun y hy => by injection hy with hy; subst hy; exact h e rfl
 | ok y => exact hf y.1 y.2
theorem ne20 {α : Type} {s : S} : Ne0 (α := α) (er 20 s) := fun e h => by injection h with h; subst h; simp
theorem ne21 {α : Type} {s : S} : Ne0 (α := α) (er 21 s) := fun e h => by injection h with h; subst h; simp
theorem ne_ok {α : Type} {a : α} {s : S} : Ne0 (.ok (a, s)) := fun e h => by cases h
theorem need_ne {k : Nat} {ts : List Nm} {s : S} : Ne0 (needM k ts s) := by
 unfold needM
 split
 · exact ne_ok
 · exact ne20
theorem raw_ne {s : S} : Ne0 (rawM s) := by
 unfold rawM
 split
 · exact ne_ok
 · exact ne20
theorem put_ne {n : Nd} {s : S} : Ne0 (putM n s) := ne_ok
theorem loop_ne {α : Type} {cond : S → Bool} {step : α → S → P α} (h : ∀ a s, Ne0 (step a s)) : ∀ (f : Nat) (a : α) (s : S), Ne0 (loopP cond step f a s)
 | 0, a, s => ne_ok
 | f + 1, a, s => by
  unfold loopP
  split
  · exact ne_bd (h a s) fun a t => loop_ne h f a t
  · exact ne_ok
theorem while_ne {α : Type} {cond : S → Bool} {step : α → S → P α} (h : ∀ a s, Ne0 (step a s)) (a : α) (s : S) : Ne0 (whileM cond step a s) := loop_ne h _ a s
theorem redir_ne (s : S) : Ne0 (redirM s) := by
 unfold redirM
 exact ne_bd raw_ne fun w t => ne_ok
theorem redirs_ne0 (s : S) : Ne0 (redirsM s) := while_ne (fun l s => ne_bd (redir_ne s) fun x t => ne_ok) _ s
theorem simple_ne (s : S) : Ne0 (simpleM s) := by
 unfold simpleM
 refine ne_bd (while_ne (fun n s => ?_) _ s) fun n t => put_ne
 split
 · exact ne_bd (redir_ne s) fun x t => ne_ok
 · exact ne_bd raw_ne fun x t => ne_ok
section
variable {nest : S → P Nat} (hn : ∀ s, Ne0 (nest s))
include hn
theorem cmd_ne (s : S) : Ne0 (cmdM nest s) := by
 unfold cmdM
 split
 · exact ne20
 ·
  split
  · exact simple_ne s
  · exact hn s
theorem pipe_ne (s : S) : Ne0 (pipeM nest s) := by
 unfold pipeM
 refine ne_bd (cmd_ne hn _) fun k t => ne_bd (while_ne (fun l u => ne_bd (cmd_ne hn _) fun k v => ne_ok) _ _) fun ks u => ?_
 split
 · exact ne_ok
 · exact put_ne
theorem andor_ne (s : S) : Ne0 (andorM nest s) := by
 unfold andorM
 exact ne_bd (pipe_ne hn s) fun k t => while_ne (fun l u => ne_bd (pipe_ne hn _) fun k v => put_ne) _ _
theorem listF_ne : ∀ (f : Nat) (ks : List Nat) (s : S), Ne0 (listF nest f ks s)
 | 0, ks, s => ne_ok
 | f + 1, ks, s => by
  unfold listF
  split
  ·
   refine ne_bd (andor_ne hn s) fun k t => ?_
   split
   · exact ne_ok
   · exact listF_ne f _ _
  · exact ne_ok
theorem list_ne (em : Bool) (s : S) : Ne0 (listM nest em s) := by
 unfold listM
 refine ne_bd (listF_ne hn _ _ _) fun ks t => ?_
 split
 · exact ne20
 · exact put_ne
theorem body_ne (s : S) : Ne0 (bodyM nest s) := ne_bd need_ne fun _ t => ne_bd (list_ne hn false t) fun k u => ne_bd need_ne fun _ v => ne_ok
theorem group_ne (ln : Nat) (s : S) : Ne0 (groupM nest ln s) := ne_bd (list_ne hn false _) fun k u => ne_bd need_ne fun _ v => ne_ok
theorem sub_ne (ln : Nat) (s : S) : Ne0 (subM nest ln s) := ne_bd (list_ne hn false _) fun k u => ne_bd need_ne fun _ v => ne_ok
theorem asks_ne : ∀ (f ln : Nat) (s : S), Ne0 (asksF nest f ln s)
 | 0, ln, s => ne20
 | f + 1, ln, s => by
  unfold asksF
  refine ne_bd (list_ne hn false _) fun c t => ne_bd need_ne fun _ u => ne_bd (list_ne hn false _) fun b v => ?_
  split
  · exact ne_bd (asks_ne f _ v) fun n w => ne_bd put_ne fun k x => ne_ok
  ·
   split
   · exact ne_bd (list_ne hn false _) fun k w => ne_bd need_ne fun _ x => ne_ok
   · exact ne_bd need_ne fun _ x => ne_ok
theorem whil_ne (ln : Nat) (s : S) : Ne0 (whilM nest ln s) := ne_bd (list_ne hn false _) fun c t => ne_bd (body_ne hn t) fun b u => ne_ok
theorem each_ne (ln : Nat) (s : S) : Ne0 (eachM nest ln s) := by
 unfold eachM
 simp only
 split
 · exact ne20
 ·
  refine ne_bd raw_ne fun t u => ?_
  split
  · exact ne_bd (body_ne hn _) fun b v => ne_ok
  ·
   split
   ·
    refine ne_bd (while_ne (fun l u => ne_bd raw_ne fun w v => ne_ok) _ _) fun ws v => ?_
    split
    · exact ne20
    · exact ne_bd (body_ne hn _) fun b v => ne_ok
   · exact ne_bd (body_ne hn _) fun b v => ne_ok
theorem item_ne (s : S) : Ne0 (itemM nest s) := ne_bd raw_ne fun w t => ne_bd (while_ne (fun l u => ne_bd raw_ne fun w v => ne_ok) _ _) fun ws u => ne_bd need_ne fun _ v => ne_bd (list_ne hn true v) fun k w => put_ne
theorem items_ne : ∀ (f : Nat) (ks : List Nat) (s : S), Ne0 (itemsF nest f ks s)
 | 0, ks, s => ne_ok
 | f + 1, ks, s => by
  unfold itemsF
  split
  · exact ne_ok
  ·
   refine ne_bd (item_ne hn s) fun k t => ?_
   split
   · exact items_ne f _ _
   · exact ne_ok
theorem cases_ne (ln : Nat) (s : S) : Ne0 (casesM nest ln s) := ne_bd raw_ne fun t u => ne_bd need_ne fun _ v => ne_bd (items_ne hn _ _ _) fun ks w => ne_bd need_ne fun _ x => ne_ok
theorem func_ne (ln : Nat) (s : S) : Ne0 (funcM nest ln s) := by
 unfold funcM
 refine ne_bd raw_ne fun t u => ne_bd need_ne fun _ v => ne_bd need_ne fun _ w => ?_
 simp only
 split
 · exact ne20
 · exact ne_bd (hn _) fun k x => ne_ok
theorem comp_ne (ln : Nat) (s : S) : Ne0 (compM nest ln s) := by
 unfold compM
 split
 · exact sub_ne hn ln s
 ·
  split
  · exact group_ne hn ln s
  ·
   split
   · exact asks_ne hn _ ln s
   ·
    split
    · exact each_ne hn ln s
    ·
     split
     · exact cases_ne hn ln s
     · exact whil_ne hn ln s
end
theorem nest_ne : ∀ (n : Nat) (s : S), Ne0 (nestD n s)
 | 0, s => ne21
 | n + 1, s => by
  unfold nestD
  split
  · exact ne_bd (comp_ne (nest_ne n) _ s) fun x t => ne_bd (redirs_ne0 t) fun rs u => put_ne
  · exact ne_bd (func_ne (nest_ne n) _ s) fun x t => put_ne
theorem parse_ne {s : Nm} {y : Int × Nat} (h0 : ∀ y, allM s = .error y → y.1 ≠ 0) (h : parseM s = .error y) : y.1 ≠ 0 := by
 unfold parseM at h
 cases hl : allM s with
 | error x => rw [hl] at h; injection h with h; subst h; exact h0 x hl
 | ok l =>
  rw [hl] at h
  simp only at h
  cases hr : listM (nestD 40) true ([], l) with
  | error x => rw [hr] at h; injection h with h; subst h; exact list_ne (nest_ne 40) true _ x hr
  | ok x =>
   rw [hr] at h
   simp only at h
   split at h
   · injection h with h; subst h; exact by simp
   · cases h
end Go.Proofs.YtknncfoaegmphaaGreatDoor.Sy
