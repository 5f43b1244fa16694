/-
  State: what is packed and unpacked, as plain law: records of an encoding and its reading, put together. No program stands here.
-/
import Derived.Test.YtmhofdoifgfjfaaGVar
set_option linter.unusedVariables false
namespace Go.Proofs.Ytmhofdoifgfjfaa
open Go.RowKit Base

abbrev Nm := List UInt8
/-- A thing's bytes, and how it is read: the thing, what is left, the error. -/
structure Cd (α : Type) where
  enc : α → Nm
  dec : Nm → Int → α × Nm × Int
structure Cd.Ok {α : Type} (c : Cd α) (P : α → Prop) : Prop where
  back : ∀ a t, P a → c.dec (c.enc a ++ t) 0 = (a, t, 0)
  own : ∀ l a t, c.dec l 0 = (a, t, 0) → l = c.enc a ++ t ∧ P a
  stop : ∀ l e, e ≠ 0 → (c.dec l e).2 = (l, e)
  err : ∀ l, (c.dec l 0).2.2 = 0 ∨ (c.dec l 0).2.2 = 10 ∨ (c.dec l 0).2.2 = 11
  cut : ∀ a, P a → ∀ r l e, Cutt (c.enc a ++ r) l e → Cutt r (c.dec l e).2.1 (c.dec l e).2.2
def I64 (z : Int) : Prop := -9223372036854775808 ≤ z ∧ z ≤ 9223372036854775807
theorem zig_lt {z : Int} (h : I64 z) : Lt64 (VarPlain.zig z) := by
  unfold VarPlain.zig Lt64
  obtain ⟨h1, h2⟩ := h
  split <;> omega
theorem zag_in {y : Nat} (h : Lt64 y) : I64 (VarPlain.zag y) := by
  unfold VarPlain.zag I64
  unfold Lt64 at h
  split <;> omega
def intB (z : Int) : Nm := VarPlain.num (VarPlain.zig z)
def numC : Cd Int where
  enc := intB
  dec := fun l e => if e ≠ 0 then (0, l, e) else (VarPlain.zag (VarPlain.next l e).1, (VarPlain.next l e).2)
theorem next_own {l t : Nm} {x : Nat} (h : VarPlain.next l 0 = (x, t, 0)) : l = VarPlain.num x ++ t ∧ Lt64 x := by
  unfold VarPlain.next at h
  rw [if_neg (by decide)] at h
  injection h with h1 h
  injection h with h2 h3
  have h4 := (take_ok h3).1
  refine ⟨?_, by rw [← h1]; exact VarPlain.take_lt l⟩
  rw [← h1, h4, ← h2, List.take_append_drop]
theorem take_err (l : Nm) : (VarPlain.take l).2.2 = 0 ∨ (VarPlain.take l).2.2 = 10 ∨ (VarPlain.take l).2.2 = 11 := by
  unfold VarPlain.take
  simp only
  repeat' split
  all_goals simp
theorem next_err (l : Nm) : (VarPlain.next l 0).2.2 = 0 ∨ (VarPlain.next l 0).2.2 = 10 ∨ (VarPlain.next l 0).2.2 = 11 := by
  unfold VarPlain.next
  rw [if_neg (by decide)]
  exact take_err l
theorem next_stop (l : Nm) {e : Int} (h : e ≠ 0) : VarPlain.next l e = (0, l, e) := by
  unfold VarPlain.next
  rw [if_pos h]
theorem tri {α : Type} {x : α × Nm × Int} (h : x.2.2 = 0) : x = (x.1, x.2.1, 0) := by
  obtain ⟨a, b, c⟩ := x
  have hc : c = 0 := h
  rw [hc]
theorem numC_dec0 (l : Nm) : numC.dec l 0 = (VarPlain.zag (VarPlain.next l 0).1, (VarPlain.next l 0).2) := rfl
theorem numC_ok : numC.Ok I64 where
  back := fun a t h => by
    rw [numC_dec0]
    show (VarPlain.zag (VarPlain.next (VarPlain.num (VarPlain.zig a) ++ t) 0).1, (VarPlain.next (VarPlain.num (VarPlain.zig a) ++ t) 0).2) = _
    rw [next_num _ (zig_lt h), VarPlain.zag_zig]
  own := fun l a t h => by
    have h' : (if (0 : Int) ≠ 0 then ((0 : Int), l, (0 : Int)) else (VarPlain.zag (VarPlain.next l 0).1, (VarPlain.next l 0).2)) = (a, t, 0) := h
    rw [if_neg (by decide)] at h'
    injection h' with h1 h2
    obtain ⟨h3, h4⟩ := next_own (show VarPlain.next l 0 = ((VarPlain.next l 0).1, t, 0) by rw [← h2])
    refine ⟨?_, by rw [← h1]; exact zag_in h4⟩
    show l = VarPlain.num (VarPlain.zig a) ++ t
    rw [← h1, VarPlain.zig_zag]
    exact h3
  stop := fun l e h => by
    show (if e ≠ 0 then ((0 : Int), l, e) else _).2 = _
    rw [if_pos h]
  err := fun l => by
    show (if (0 : Int) ≠ 0 then ((0 : Int), l, (0 : Int)) else (VarPlain.zag (VarPlain.next l 0).1, (VarPlain.next l 0).2)).2.2 = 0 ∨ _
    rw [if_neg (by decide)]
    exact next_err l
  cut := fun a h r l e hc => by
    have h1 := cutt_num (zig_lt h) hc
    by_cases he : e ≠ 0
    · show Cutt r (if e ≠ 0 then ((0 : Int), l, e) else _).2.1 (if e ≠ 0 then ((0 : Int), l, e) else _).2.2
      rw [if_pos he]
      rw [next_stop l he] at h1
      exact h1
    · show Cutt r (if e ≠ 0 then ((0 : Int), l, e) else (VarPlain.zag (VarPlain.next l e).1, (VarPlain.next l e).2)).2.1 (if e ≠ 0 then ((0 : Int), l, e) else (VarPlain.zag (VarPlain.next l e).1, (VarPlain.next l e).2)).2.2
      rw [if_neg he]
      exact h1
def txtB (s : Nm) : Nm := VarPlain.num s.length ++ s
def txtC : Cd Nm where
  enc := txtB
  dec := fun l e => if e ≠ 0 then ([], l, e) else VarPlain.word l e
theorem word_own {l s t : Nm} (h : VarPlain.word l 0 = (s, t, 0)) : l = txtB s ++ t ∧ Lt64 s.length := by
  unfold VarPlain.word at h
  split at h
  · rename_i hn
    injection h with _ h
    injection h with _ h
    exact absurd h hn
  · rename_i hn
    have hn0 : (VarPlain.next l 0).2.2 = 0 := by simpa using hn
    split at h
    · injection h with _ h
      injection h with _ h
      exact absurd h (by decide)
    · rename_i hle
      injection h with h1 h
      injection h with h2 _
      obtain ⟨h3, h4⟩ := next_own (tri hn0)
      have hl : s.length = (VarPlain.next l 0).1 := by rw [← h1, List.length_take]; omega
      refine ⟨?_, by rw [hl]; exact h4⟩
      unfold txtB
      rw [hl, List.append_assoc, ← h1, ← h2, List.take_append_drop]
      exact h3
theorem word_err (l : Nm) : (VarPlain.word l 0).2.2 = 0 ∨ (VarPlain.word l 0).2.2 = 10 ∨ (VarPlain.word l 0).2.2 = 11 := by
  unfold VarPlain.word
  split
  · exact next_err l
  · split
    · right; left; rfl
    · left; rfl
theorem word_stop (l : Nm) {e : Int} (h : e ≠ 0) : VarPlain.word l e = ([], l, e) := by
  unfold VarPlain.word
  rw [next_stop l h]
  rw [if_pos h]
theorem txtC_dec0 (l : Nm) : txtC.dec l 0 = VarPlain.word l 0 := rfl
theorem txtC_ok : txtC.Ok fun s => Lt64 s.length where
  back := fun a t h => by
    rw [txtC_dec0]
    exact word_text a h t
  own := fun l a t h => by
    have h' : (if (0 : Int) ≠ 0 then (([] : Nm), l, (0 : Int)) else VarPlain.word l 0) = (a, t, 0) := h
    rw [if_neg (by decide)] at h'
    exact word_own h'
  stop := fun l e h => by
    show (if e ≠ 0 then (([] : Nm), l, e) else _).2 = _
    rw [if_pos h]
  err := fun l => by
    show (if (0 : Int) ≠ 0 then (([] : Nm), l, (0 : Int)) else VarPlain.word l 0).2.2 = 0 ∨ _
    rw [if_neg (by decide)]
    exact word_err l
  cut := fun a h r l e hc => by
    have h1 := cutt_text h (r := r) hc
    by_cases he : e ≠ 0
    · show Cutt r (if e ≠ 0 then (([] : Nm), l, e) else _).2.1 (if e ≠ 0 then (([] : Nm), l, e) else _).2.2
      rw [if_pos he]
      rw [word_stop l he] at h1
      exact h1
    · show Cutt r (if e ≠ 0 then (([] : Nm), l, e) else VarPlain.word l e).2.1 (if e ≠ 0 then (([] : Nm), l, e) else VarPlain.word l e).2.2
      rw [if_neg he]
      exact h1
section
variable {α β : Type}
/-- What must be. -/
def mustE (is : Bool) (e d : Int) : Int := if is = false ∧ e = 0 then d else e
/-- One behind the other. -/
def pairC (c : Cd α) (d : Cd β) : Cd (α × β) where
  enc := fun p => c.enc p.1 ++ d.enc p.2
  dec := fun l e => (((c.dec l e).1, (d.dec (c.dec l e).2.1 (c.dec l e).2.2).1), (d.dec (c.dec l e).2.1 (c.dec l e).2.2).2)
theorem pairC_dec {c : Cd α} {d : Cd β} {l l1 : Nm} {e e1 : Int} {a : α} (h : c.dec l e = (a, l1, e1)) : (pairC c d).dec l e = ((a, (d.dec l1 e1).1), (d.dec l1 e1).2) := by
  show (((c.dec l e).1, (d.dec (c.dec l e).2.1 (c.dec l e).2.2).1), (d.dec (c.dec l e).2.1 (c.dec l e).2.2).2) = _
  rw [h]
theorem pairC_ok {c : Cd α} {d : Cd β} {P : α → Prop} {Q : β → Prop} (hc : c.Ok P) (hd : d.Ok Q) : (pairC c d).Ok fun p => P p.1 ∧ Q p.2 where
  back := fun a t h => by
    have e : (pairC c d).enc a ++ t = c.enc a.1 ++ (d.enc a.2 ++ t) := List.append_assoc ..
    rw [e, pairC_dec (hc.back a.1 _ h.1), hd.back _ _ h.2]
  own := fun l a t h => by
    have h' : (((c.dec l 0).1, (d.dec (c.dec l 0).2.1 (c.dec l 0).2.2).1), (d.dec (c.dec l 0).2.1 (c.dec l 0).2.2).2) = (a, t, 0) := h
    injection h' with h1 h2
    by_cases he : (c.dec l 0).2.2 = 0
    · rw [he] at h1 h2
      obtain ⟨h3, h4⟩ := hc.own l (c.dec l 0).1 (c.dec l 0).2.1 (tri he)
      obtain ⟨h5, h6⟩ := hd.own (c.dec l 0).2.1 (d.dec (c.dec l 0).2.1 0).1 t (by rw [← h2])
      subst h1
      refine ⟨?_, h4, h6⟩
      show l = (c.enc _ ++ d.enc _) ++ t
      rw [List.append_assoc, ← h5]
      exact h3
    · rw [hd.stop _ _ he] at h2
      injection h2 with _ h2
      exact absurd h2 he
  stop := fun l e h => by
    show (d.dec (c.dec l e).2.1 (c.dec l e).2.2).2 = _
    rw [hc.stop l e h]
    exact hd.stop l e h
  err := fun l => by
    show (d.dec (c.dec l 0).2.1 (c.dec l 0).2.2).2.2 = 0 ∨ _
    by_cases he : (c.dec l 0).2.2 = 0
    · show (d.dec (c.dec l 0).2.1 (c.dec l 0).2.2).2.2 = 0 ∨ (d.dec (c.dec l 0).2.1 (c.dec l 0).2.2).2.2 = 10 ∨ (d.dec (c.dec l 0).2.1 (c.dec l 0).2.2).2.2 = 11
      rw [he]
      exact hd.err _
    · show (d.dec (c.dec l 0).2.1 (c.dec l 0).2.2).2.2 = 0 ∨ (d.dec (c.dec l 0).2.1 (c.dec l 0).2.2).2.2 = 10 ∨ (d.dec (c.dec l 0).2.1 (c.dec l 0).2.2).2.2 = 11
      rw [hd.stop _ _ he]
      exact hc.err l
  cut := fun a h r l e hq => by
    have h1 := hc.cut a.1 h.1 (d.enc a.2 ++ r) l e (by
      have e2 : (pairC c d).enc a ++ r = c.enc a.1 ++ (d.enc a.2 ++ r) := List.append_assoc ..
      rw [← e2]
      exact hq)
    exact hd.cut a.2 h.2 r _ _ h1
/-- A truth: a number that is 0 or 1. -/
def bitC : Cd Bool where
  enc := fun b => intB (if b then 1 else 0)
  dec := fun l e => (decide ((numC.dec l e).1 = 1), (numC.dec l e).2.1, mustE (decide ((numC.dec l e).1 = 0) || decide ((numC.dec l e).1 = 1)) (numC.dec l e).2.2 11)
theorem bit_i64 (b : Bool) : I64 (if b then 1 else 0) := by cases b <;> exact ⟨by decide, by decide⟩
theorem mustE_stop {is : Bool} {e d : Int} (h : e ≠ 0) : mustE is e d = e := by unfold mustE; rw [if_neg (fun h2 => h h2.2)]
theorem mustE_yes {e d : Int} : mustE true e d = e := by unfold mustE; rw [if_neg (fun h2 => by cases h2.1)]
theorem mustE_no {d : Int} : mustE false 0 d = d := by unfold mustE; rw [if_pos ⟨rfl, rfl⟩]
theorem bitC_ok : bitC.Ok fun _ => True where
  back := fun a t _ => by
    have h1 := numC_ok.back (if a then 1 else 0) t (bit_i64 a)
    show (decide ((numC.dec (numC.enc (if a then 1 else 0) ++ t) 0).1 = 1), (numC.dec (numC.enc (if a then 1 else 0) ++ t) 0).2.1, mustE (decide ((numC.dec (numC.enc (if a then 1 else 0) ++ t) 0).1 = 0) || decide ((numC.dec (numC.enc (if a then 1 else 0) ++ t) 0).1 = 1)) (numC.dec (numC.enc (if a then 1 else 0) ++ t) 0).2.2 11) = _
    rw [h1]
    cases a <;> rfl
  own := fun l a t h => by
    have h' : (decide ((numC.dec l 0).1 = 1), (numC.dec l 0).2.1, mustE (decide ((numC.dec l 0).1 = 0) || decide ((numC.dec l 0).1 = 1)) (numC.dec l 0).2.2 11) = (a, t, 0) := h
    injection h' with h1 h2
    injection h2 with h2 h3
    have he : (numC.dec l 0).2.2 = 0 := by
      by_cases hn : (numC.dec l 0).2.2 = 0
      · exact hn
      · rw [mustE_stop hn] at h3; exact absurd h3 hn
    rw [he] at h3
    have hb : (decide ((numC.dec l 0).1 = 0) || decide ((numC.dec l 0).1 = 1)) = true := by
      rcases hq : (decide ((numC.dec l 0).1 = 0) || decide ((numC.dec l 0).1 = 1)) with _ | _
      · rw [hq, mustE_no] at h3; exact absurd h3 (by decide)
      · rfl
    obtain ⟨h4, _⟩ := numC_ok.own l (numC.dec l 0).1 (numC.dec l 0).2.1 (tri he)
    refine ⟨?_, trivial⟩
    show l = intB (if a then 1 else 0) ++ t
    rw [← h2]
    have hv : (if a then 1 else 0 : Int) = (numC.dec l 0).1 := by
      rw [← h1]
      rw [Bool.or_eq_true, decide_eq_true_eq, decide_eq_true_eq] at hb
      rcases hb with hb | hb
      · rw [hb]; rfl
      · rw [hb]; rfl
    rw [hv]
    exact h4
  stop := fun l e h => by
    show ((numC.dec l e).2.1, mustE _ (numC.dec l e).2.2 11) = _
    rw [numC_ok.stop l e h, mustE_stop h]
  err := fun l => by
    show mustE (decide ((numC.dec l 0).1 = 0) || decide ((numC.dec l 0).1 = 1)) (numC.dec l 0).2.2 11 = 0 ∨ mustE (decide ((numC.dec l 0).1 = 0) || decide ((numC.dec l 0).1 = 1)) (numC.dec l 0).2.2 11 = 10 ∨ mustE (decide ((numC.dec l 0).1 = 0) || decide ((numC.dec l 0).1 = 1)) (numC.dec l 0).2.2 11 = 11
    by_cases he : (numC.dec l 0).2.2 = 0
    · rw [he]
      rcases hq : (decide ((numC.dec l 0).1 = 0) || decide ((numC.dec l 0).1 = 1)) with _ | _
      · right; right; exact mustE_no
      · left; exact mustE_yes
    · rw [mustE_stop he]
      exact numC_ok.err l
  cut := fun a _ r l e hq => by
    have h1 := numC_ok.cut (if a then 1 else 0) (bit_i64 a) r l e hq
    show Cutt r (numC.dec l e).2.1 (mustE (decide ((numC.dec l e).1 = 0) || decide ((numC.dec l e).1 = 1)) (numC.dec l e).2.2 11)
    rcases h1 with h1 | ⟨h1, m, hm, h2⟩
    · left; rw [h1]; exact mustE_stop (by decide)
    · have he : e = 0 := by
        by_cases hn : e = 0
        · exact hn
        · have := numC_ok.stop l e hn
          rw [this] at h1
          exact absurd h1 hn
      have hv : (numC.dec l e).1 = if a then 1 else 0 := by
        rcases hq with hq | ⟨_, m', hm', hl⟩
        · rw [he] at hq; exact absurd hq (by decide)
        · obtain ⟨h4, h5⟩ := numC_ok.own l (numC.dec l 0).1 (numC.dec l 0).2.1 (tri (by rw [he] at h1; exact h1))
          rw [he]
          have hp : (numC.enc (numC.dec l 0).1) <+: (numC.enc (if a then 1 else 0) ++ r) := by
            refine List.IsPrefix.trans (l₂ := l) ⟨_, h4.symm⟩ ?_
            rw [hl]
            exact List.take_prefix _ _
          obtain ⟨q, hp⟩ := hp
          have e1 := numC_ok.back (numC.dec l 0).1 q h5
          have e2 := numC_ok.back (if a then 1 else 0) r (bit_i64 a)
          rw [hp, e2] at e1
          exact (congrArg Prod.fst e1).symm
      right
      rw [hv, h1]
      refine ⟨by cases a <;> rfl, m, hm, h2⟩
/-- So many, one behind the other, as long as nothing is wrong. -/
def rowsN (c : Cd α) : Nat → Nm → Int → List α × Nm × Int
  | 0, l, e => ([], l, e)
  | n + 1, l, e => if e ≠ 0 then ([], l, e) else ((c.dec l e).1 :: (rowsN c n (c.dec l e).2.1 (c.dec l e).2.2).1, (rowsN c n (c.dec l e).2.1 (c.dec l e).2.2).2)
def encs (c : Cd α) (l : List α) : Nm := l.flatMap c.enc
theorem encs_cons (c : Cd α) (x : α) (l : List α) : encs c (x :: l) = c.enc x ++ encs c l := rfl
theorem rowsN_stop (c : Cd α) (n : Nat) (l : Nm) {e : Int} (h : e ≠ 0) : rowsN c n l e = ([], l, e) := by
  cases n with
  | zero => rfl
  | succ n => show (if e ≠ 0 then _ else _) = _; rw [if_pos h]
theorem rowsN_succ (c : Cd α) (n : Nat) (l : Nm) : rowsN c (n + 1) l 0 = ((c.dec l 0).1 :: (rowsN c n (c.dec l 0).2.1 (c.dec l 0).2.2).1, (rowsN c n (c.dec l 0).2.1 (c.dec l 0).2.2).2) := by
  show (if (0 : Int) ≠ 0 then ([], l, (0 : Int)) else _) = _
  rw [if_neg (by decide)]
theorem rowsN_back {c : Cd α} {P : α → Prop} (hc : c.Ok P) : ∀ (x : List α) (t : Nm), (∀ a ∈ x, P a) → rowsN c x.length (encs c x ++ t) 0 = (x, t, 0)
  | [], t, _ => rfl
  | a :: r, t, h => by
    rw [encs_cons, List.append_assoc, List.length_cons, rowsN_succ, hc.back a _ (h a (by simp))]
    show (a :: (rowsN c r.length (encs c r ++ t) 0).1, (rowsN c r.length (encs c r ++ t) 0).2) = _
    rw [rowsN_back hc r t fun b hb => h b (by simp [hb])]
theorem rowsN_own {c : Cd α} {P : α → Prop} (hc : c.Ok P) : ∀ (n : Nat) (l : Nm) (x : List α) (t : Nm), rowsN c n l 0 = (x, t, 0) → l = encs c x ++ t ∧ x.length = n ∧ ∀ a ∈ x, P a
  | 0, l, x, t, h => by
    injection h with h1 h2
    injection h2 with h2 _
    subst h1 h2
    exact ⟨rfl, rfl, fun a h => by cases h⟩
  | n + 1, l, x, t, h => by
    rw [rowsN_succ] at h
    injection h with h1 h2
    by_cases he : (c.dec l 0).2.2 = 0
    · rw [he] at h1 h2
      obtain ⟨h3, h4⟩ := hc.own l (c.dec l 0).1 (c.dec l 0).2.1 (tri he)
      obtain ⟨h5, h6, h7⟩ := rowsN_own hc n (c.dec l 0).2.1 (rowsN c n (c.dec l 0).2.1 0).1 t (by rw [← h2])
      subst h1
      refine ⟨?_, by rw [List.length_cons, h6], ?_⟩
      · rw [encs_cons, List.append_assoc, ← h5]
        exact h3
      · intro a ha
        rcases List.mem_cons.1 ha with rfl | ha
        · exact h4
        · exact h7 a ha
    · rw [rowsN_stop _ _ _ he] at h2
      injection h2 with _ h2
      exact absurd h2 he
theorem rowsN_err {c : Cd α} {P : α → Prop} (hc : c.Ok P) : ∀ (n : Nat) (l : Nm), (rowsN c n l 0).2.2 = 0 ∨ (rowsN c n l 0).2.2 = 10 ∨ (rowsN c n l 0).2.2 = 11
  | 0, l => .inl rfl
  | n + 1, l => by
    rw [rowsN_succ]
    show (rowsN c n (c.dec l 0).2.1 (c.dec l 0).2.2).2.2 = 0 ∨ (rowsN c n (c.dec l 0).2.1 (c.dec l 0).2.2).2.2 = 10 ∨ (rowsN c n (c.dec l 0).2.1 (c.dec l 0).2.2).2.2 = 11
    by_cases he : (c.dec l 0).2.2 = 0
    · rw [he]; exact rowsN_err hc n _
    · rw [rowsN_stop _ _ _ he]; exact hc.err l
theorem rowsN_cut {c : Cd α} {P : α → Prop} (hc : c.Ok P) : ∀ (x : List α) (r l : Nm) (e : Int), (∀ a ∈ x, P a) → Cutt (encs c x ++ r) l e → Cutt r (rowsN c x.length l e).2.1 (rowsN c x.length l e).2.2
  | [], r, l, e, _, h => h
  | a :: q, r, l, e, h, hq => by
    have h1 := hc.cut a (h a (by simp)) (encs c q ++ r) l e (by rw [← List.append_assoc]; exact hq)
    by_cases he : e ≠ 0
    · rw [rowsN_stop _ _ _ he]
      rcases hq with hq | ⟨hq, _⟩
      · exact .inl hq
      · exact absurd hq he
    · have e0 : e = 0 := by simpa using he
      subst e0
      rw [List.length_cons, rowsN_succ]
      exact rowsN_cut hc q r _ _ (fun b hb => h b (by simp [hb])) h1
def mostN (n : Int) : Bool := decide (0 ≤ n) && decide (n ≤ 100000)
/-- A row: how many, and each. -/
def rowC (c : Cd α) : Cd (List α) where
  enc := fun x => intB (x.length : Int) ++ encs c x
  dec := fun l e => rowsN c (numC.dec l e).1.toNat (numC.dec l e).2.1 (mustE (mostN (numC.dec l e).1) (numC.dec l e).2.2 11)
theorem most_len {x : List α} (h : x.length ≤ 100000) : mostN (x.length : Int) = true := by
  unfold mostN
  rw [decide_eq_true (by omega), decide_eq_true (by omega)]
  rfl
theorem len_i64 {x : List α} (h : x.length ≤ 100000) : I64 (x.length : Int) := ⟨by omega, by omega⟩
theorem rowC_ok {c : Cd α} {P : α → Prop} (hc : c.Ok P) : (rowC c).Ok fun x => x.length ≤ 100000 ∧ ∀ a ∈ x, P a where
  back := fun a t h => by
    have e : (rowC c).enc a ++ t = numC.enc (a.length : Int) ++ (encs c a ++ t) := List.append_assoc ..
    have h1 := numC_ok.back (a.length : Int) (encs c a ++ t) (len_i64 h.1)
    rw [e]
    show rowsN c (numC.dec _ 0).1.toNat (numC.dec _ 0).2.1 (mustE (mostN (numC.dec _ 0).1) (numC.dec _ 0).2.2 11) = _
    rw [h1]
    show rowsN c (a.length : Int).toNat (encs c a ++ t) (mustE (mostN (a.length : Int)) 0 11) = _
    rw [most_len h.1, mustE_yes, Int.toNat_natCast, rowsN_back hc a t h.2]
  own := fun l a t h => by
    have h' : rowsN c (numC.dec l 0).1.toNat (numC.dec l 0).2.1 (mustE (mostN (numC.dec l 0).1) (numC.dec l 0).2.2 11) = (a, t, 0) := h
    by_cases he : (numC.dec l 0).2.2 = 0
    · rw [he] at h'
      rcases hm : mostN (numC.dec l 0).1 with _ | _
      · rw [hm, mustE_no, rowsN_stop _ _ _ (by decide)] at h'
        injection h' with _ h'
        injection h' with _ h'
        exact absurd h' (by decide)
      · rw [hm, mustE_yes] at h'
        obtain ⟨h1, h2⟩ := numC_ok.own l (numC.dec l 0).1 (numC.dec l 0).2.1 (tri he)
        obtain ⟨h3, h4, h5⟩ := rowsN_own hc _ _ _ _ h'
        unfold mostN at hm
        rw [Bool.and_eq_true, decide_eq_true_eq, decide_eq_true_eq] at hm
        refine ⟨?_, by omega, h5⟩
        show l = (intB (a.length : Int) ++ encs c a) ++ t
        have hv : (a.length : Int) = (numC.dec l 0).1 := by omega
        rw [hv, List.append_assoc, ← h3]
        exact h1
    · rw [mustE_stop he, rowsN_stop _ _ _ he] at h'
      injection h' with _ h'
      injection h' with _ h'
      exact absurd h' he
  stop := fun l e h => by
    show (rowsN c (numC.dec l e).1.toNat (numC.dec l e).2.1 (mustE _ (numC.dec l e).2.2 11)).2 = _
    rw [numC_ok.stop l e h]
    show (rowsN c (numC.dec l e).1.toNat l (mustE _ e 11)).2 = _
    rw [mustE_stop h, rowsN_stop _ _ _ h]
  err := fun l => by
    show (rowsN c (numC.dec l 0).1.toNat (numC.dec l 0).2.1 (mustE (mostN (numC.dec l 0).1) (numC.dec l 0).2.2 11)).2.2 = 0 ∨ (rowsN c (numC.dec l 0).1.toNat (numC.dec l 0).2.1 (mustE (mostN (numC.dec l 0).1) (numC.dec l 0).2.2 11)).2.2 = 10 ∨ (rowsN c (numC.dec l 0).1.toNat (numC.dec l 0).2.1 (mustE (mostN (numC.dec l 0).1) (numC.dec l 0).2.2 11)).2.2 = 11
    by_cases he : (numC.dec l 0).2.2 = 0
    · rw [he]
      rcases hm : mostN (numC.dec l 0).1 with _ | _
      · rw [mustE_no, rowsN_stop _ _ _ (by decide)]; right; right; rfl
      · rw [mustE_yes]; exact rowsN_err hc _ _
    · rw [mustE_stop he, rowsN_stop _ _ _ he]
      exact numC_ok.err l
  cut := fun a h r l e hq => by
    have hq' : Cutt (numC.enc (a.length : Int) ++ (encs c a ++ r)) l e := by
      have e1 : (rowC c).enc a ++ r = numC.enc (a.length : Int) ++ (encs c a ++ r) := List.append_assoc ..
      rw [← e1]
      exact hq
    have h1 := numC_ok.cut (a.length : Int) (len_i64 h.1) (encs c a ++ r) l e hq'
    show Cutt r (rowsN c (numC.dec l e).1.toNat (numC.dec l e).2.1 (mustE (mostN (numC.dec l e).1) (numC.dec l e).2.2 11)).2.1 (rowsN c (numC.dec l e).1.toNat (numC.dec l e).2.1 (mustE (mostN (numC.dec l e).1) (numC.dec l e).2.2 11)).2.2
    rcases h1 with h1 | ⟨h1, m, hm, h2⟩
    · rw [h1, mustE_stop (by decide), rowsN_stop _ _ _ (by decide)]
      exact .inl rfl
    · have hv : (numC.dec l e).1 = (a.length : Int) := by
        have he : e = 0 := by
          by_cases hn : e = 0
          · exact hn
          · rw [numC_ok.stop l e hn] at h1
            exact absurd h1 hn
        rw [he] at h1 ⊢
        rcases hq' with hq' | ⟨_, m', hm', hl⟩
        · rw [he] at hq'; exact absurd hq' (by decide)
        · obtain ⟨h4, h5⟩ := numC_ok.own l (numC.dec l 0).1 (numC.dec l 0).2.1 (tri h1)
          have hp : (numC.enc (numC.dec l 0).1) <+: (numC.enc (a.length : Int) ++ (encs c a ++ r)) := by
            refine List.IsPrefix.trans (l₂ := l) ⟨_, h4.symm⟩ ?_
            rw [hl]
            exact List.take_prefix _ _
          obtain ⟨q, hp⟩ := hp
          have e1 := numC_ok.back (numC.dec l 0).1 q h5
          have e2 := numC_ok.back (a.length : Int) (encs c a ++ r) (len_i64 h.1)
          rw [hp, e2] at e1
          exact (congrArg Prod.fst e1).symm
      rw [hv, h1, most_len h.1, mustE_yes, Int.toNat_natCast]
      exact rowsN_cut hc a r _ _ h.2 (.inr ⟨rfl, m, hm, h2⟩)
/-- Bytes are those of one thing alone. -/
theorem Cd.Ok.inj {c : Cd α} {P : α → Prop} (hc : c.Ok P) {a b : α} (ha : P a) (hb : P b) (h : c.enc a = c.enc b) : a = b := by
  have h1 := hc.back a [] ha
  have h2 := hc.back b [] hb
  rw [h, h2] at h1
  exact (congrArg Prod.fst h1).symm
end
/-! ### The state -/
abbrev VarD := Nm × Nm
abbrev FnD := Nm × Int × Int
abbrev TrapD := Int × Nm
abbrev PairD := Int × Int
abbrev EnvD := List VarD × List Nm × Int × Nm
abbrev KeepD := EnvD × List FnD × List TrapD × List PairD
abbrev FrameD := (Int × Int × Int × Int × Int) × Bool × Int × Int × Nm × List Int × List Nm × List VarD × KeepD
abbrev ReqD := Int × Int × Int × Nm × List Nm
abbrev AnsD := (Int × Int) × Int × Int × Nm × List Nm × Int
abbrev StateD := KeepD × List Nm × List FrameD × ReqD × AnsD × List Int × (Int × Int × Int) × (Bool × Bool × Bool) × Int
def varC : Cd VarD := pairC txtC txtC
def fnC : Cd FnD := pairC txtC (pairC numC numC)
def trapC : Cd TrapD := pairC numC txtC
def prC : Cd PairD := pairC numC numC
def envC : Cd EnvD := pairC (rowC varC) (pairC (rowC txtC) (pairC numC txtC))
def keepC : Cd KeepD := pairC envC (pairC (rowC fnC) (pairC (rowC trapC) (rowC prC)))
def frameC : Cd FrameD := pairC (pairC numC (pairC numC (pairC numC (pairC numC numC)))) (pairC bitC (pairC numC (pairC numC (pairC txtC (pairC (rowC numC) (pairC (rowC txtC) (pairC (rowC varC) keepC)))))))
def reqC : Cd ReqD := pairC numC (pairC numC (pairC numC (pairC txtC (rowC txtC))))
def ansC : Cd AnsD := pairC (pairC numC numC) (pairC numC (pairC numC (pairC txtC (pairC (rowC txtC) numC))))
def stateC : Cd StateD := pairC keepC (pairC (rowC txtC) (pairC (rowC frameC) (pairC reqC (pairC ansC (pairC (rowC numC) (pairC (pairC numC (pairC numC numC)) (pairC (pairC bitC (pairC bitC bitC)) numC)))))))
abbrev TxtP (s : Nm) : Prop := Lt64 s.length
abbrev RowP {α : Type} (P : α → Prop) (x : List α) : Prop := x.length ≤ 100000 ∧ ∀ a ∈ x, P a
abbrev VarP (p : VarD) : Prop := TxtP p.1 ∧ TxtP p.2
abbrev FnP (p : FnD) : Prop := TxtP p.1 ∧ I64 p.2.1 ∧ I64 p.2.2
abbrev TrapP (p : TrapD) : Prop := I64 p.1 ∧ TxtP p.2
abbrev PairP (p : PairD) : Prop := I64 p.1 ∧ I64 p.2
abbrev EnvP (p : EnvD) : Prop := RowP VarP p.1 ∧ RowP TxtP p.2.1 ∧ I64 p.2.2.1 ∧ TxtP p.2.2.2
abbrev KeepP (p : KeepD) : Prop := EnvP p.1 ∧ RowP FnP p.2.1 ∧ RowP TrapP p.2.2.1 ∧ RowP PairP p.2.2.2
abbrev FrameP (p : FrameD) : Prop := (I64 p.1.1 ∧ I64 p.1.2.1 ∧ I64 p.1.2.2.1 ∧ I64 p.1.2.2.2.1 ∧ I64 p.1.2.2.2.2) ∧ True ∧ I64 p.2.2.1 ∧ I64 p.2.2.2.1 ∧ TxtP p.2.2.2.2.1 ∧ RowP I64 p.2.2.2.2.2.1 ∧ RowP TxtP p.2.2.2.2.2.2.1 ∧ RowP VarP p.2.2.2.2.2.2.2.1 ∧ KeepP p.2.2.2.2.2.2.2.2
abbrev ReqP (p : ReqD) : Prop := I64 p.1 ∧ I64 p.2.1 ∧ I64 p.2.2.1 ∧ TxtP p.2.2.2.1 ∧ RowP TxtP p.2.2.2.2
abbrev AnsP (p : AnsD) : Prop := (I64 p.1.1 ∧ I64 p.1.2) ∧ I64 p.2.1 ∧ I64 p.2.2.1 ∧ TxtP p.2.2.2.1 ∧ RowP TxtP p.2.2.2.2.1 ∧ I64 p.2.2.2.2.2
abbrev StateP (p : StateD) : Prop := KeepP p.1 ∧ RowP TxtP p.2.1 ∧ RowP FrameP p.2.2.1 ∧ ReqP p.2.2.2.1 ∧ AnsP p.2.2.2.2.1 ∧ RowP I64 p.2.2.2.2.2.1 ∧ (I64 p.2.2.2.2.2.2.1.1 ∧ I64 p.2.2.2.2.2.2.1.2.1 ∧ I64 p.2.2.2.2.2.2.1.2.2) ∧ (True ∧ True ∧ True) ∧ I64 p.2.2.2.2.2.2.2.2
theorem varC_ok : varC.Ok VarP := pairC_ok txtC_ok txtC_ok
theorem fnC_ok : fnC.Ok FnP := pairC_ok txtC_ok (pairC_ok numC_ok numC_ok)
theorem trapC_ok : trapC.Ok TrapP := pairC_ok numC_ok txtC_ok
theorem prC_ok : prC.Ok PairP := pairC_ok numC_ok numC_ok
theorem envC_ok : envC.Ok EnvP := pairC_ok (rowC_ok varC_ok) (pairC_ok (rowC_ok txtC_ok) (pairC_ok numC_ok txtC_ok))
theorem keepC_ok : keepC.Ok KeepP := pairC_ok envC_ok (pairC_ok (rowC_ok fnC_ok) (pairC_ok (rowC_ok trapC_ok) (rowC_ok prC_ok)))
theorem frameC_ok : frameC.Ok FrameP := pairC_ok (pairC_ok numC_ok (pairC_ok numC_ok (pairC_ok numC_ok (pairC_ok numC_ok numC_ok)))) (pairC_ok bitC_ok (pairC_ok numC_ok (pairC_ok numC_ok (pairC_ok txtC_ok (pairC_ok (rowC_ok numC_ok) (pairC_ok (rowC_ok txtC_ok) (pairC_ok (rowC_ok varC_ok) keepC_ok)))))))
theorem reqC_ok : reqC.Ok ReqP := pairC_ok numC_ok (pairC_ok numC_ok (pairC_ok numC_ok (pairC_ok txtC_ok (rowC_ok txtC_ok))))
theorem ansC_ok : ansC.Ok AnsP := pairC_ok (pairC_ok numC_ok numC_ok) (pairC_ok numC_ok (pairC_ok numC_ok (pairC_ok txtC_ok (pairC_ok (rowC_ok txtC_ok) numC_ok))))
theorem stateC_ok : stateC.Ok StateP := pairC_ok keepC_ok (pairC_ok (rowC_ok txtC_ok) (pairC_ok (rowC_ok frameC_ok) (pairC_ok reqC_ok (pairC_ok ansC_ok (pairC_ok (rowC_ok numC_ok) (pairC_ok (pairC_ok numC_ok (pairC_ok numC_ok numC_ok)) (pairC_ok (pairC_ok bitC_ok (pairC_ok bitC_ok bitC_ok)) numC_ok)))))))
end Go.Proofs.Ytmhofdoifgfjfaa
