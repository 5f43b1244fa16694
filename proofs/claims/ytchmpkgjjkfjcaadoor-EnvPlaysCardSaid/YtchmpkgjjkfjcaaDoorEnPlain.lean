/-
  Plain mathematics of chapter 14 (env): rows of variables that rise by name. No program stands here. Conditions: as each law says.
-/
import Derived.Test.YtchmpkgjjkfjcaaDoorEnSlices2
import Derived.Lib.ItoaNum
import Derived.Lib.Join
import Derived.Lib.Bytealg
set_option linter.unusedVariables false
namespace Go.Proofs.YtchmpkgjjkfjcaaDoor
open Go.RowKit Base

/-! ### The order of names -/
abbrev Nm := List UInt8
def ltB (a b : Nm) : Bool := decide (Lib.compareBytes a b < 0)
theorem cmp_self (a : Nm) : Lib.compareBytes a a = 0 := by
  induction a with
  | nil => rfl
  | cons x r ih => unfold Lib.compareBytes; rw [if_neg (UInt8.lt_irrefl x), if_neg (UInt8.lt_irrefl x), ih]
theorem cmp_neg (a b : Nm) : Lib.compareBytes b a = - Lib.compareBytes a b := by
  induction a generalizing b with
  | nil => cases b <;> rfl
  | cons x r ih =>
    cases b with
    | nil => rfl
    | cons y s =>
      unfold Lib.compareBytes
      by_cases h1 : x < y
      · rw [if_neg (UInt8.lt_asymm h1), if_pos h1, if_pos h1]; rfl
      · by_cases h2 : y < x
        · rw [if_pos h2, if_neg h1, if_pos h2]
        · rw [if_neg h2, if_neg h1, if_neg h1, if_neg h2, ih]
theorem cmp_zero {a b : Nm} (h : Lib.compareBytes a b = 0) : a = b := by
  induction a generalizing b with
  | nil =>
    cases b with
    | nil => rfl
    | cons y s => cases h
  | cons x r ih =>
    cases b with
    | nil => cases h
    | cons y s =>
      unfold Lib.compareBytes at h
      by_cases h1 : x < y
      · rw [if_pos h1] at h; cases h
      · by_cases h2 : y < x
        · rw [if_neg h1, if_pos h2] at h; cases h
        · rw [if_neg h1, if_neg h2] at h
          have hxy : x = y := UInt8.le_antisymm (UInt8.not_lt.1 h2) (UInt8.not_lt.1 h1)
          rw [hxy, ih h]
theorem cmp_range (a b : Nm) : Lib.compareBytes a b = -1 ∨ Lib.compareBytes a b = 0 ∨ Lib.compareBytes a b = 1 := by
  induction a generalizing b with
  | nil =>
    cases b with
    | nil => exact .inr (.inl rfl)
    | cons y s => exact .inl rfl
  | cons x r ih =>
    cases b with
    | nil => exact .inr (.inr rfl)
    | cons y s =>
      unfold Lib.compareBytes
      by_cases h1 : x < y
      · rw [if_pos h1]; exact .inl rfl
      · by_cases h2 : y < x
        · rw [if_neg h1, if_pos h2]; exact .inr (.inr rfl)
        · rw [if_neg h1, if_neg h2]; exact ih s
theorem cmp_trans {a b c : Nm} (h1 : Lib.compareBytes a b < 0) (h2 : Lib.compareBytes b c < 0) : Lib.compareBytes a c < 0 := by
  induction a generalizing b c with
  | nil =>
    cases c with
    | nil =>
      cases b with
      | nil => exact h1
      | cons y s => exact absurd h2 (by show ¬ ((1 : Int) < 0); decide)
    | cons z t => show (-1 : Int) < 0; decide
  | cons x r ih =>
    cases b with
    | nil => exact absurd h1 (by show ¬ ((1 : Int) < 0); decide)
    | cons y s =>
      cases c with
      | nil => exact absurd h2 (by show ¬ ((1 : Int) < 0); decide)
      | cons z t =>
        unfold Lib.compareBytes at h1 h2 ⊢
        by_cases a1 : x < y
        · by_cases b1 : y < z
          · rw [if_pos (UInt8.lt_trans a1 b1)]; decide
          · by_cases b2 : z < y
            · rw [if_neg b1, if_pos b2] at h2; exact absurd h2 (by decide)
            · have e : y = z := UInt8.le_antisymm (UInt8.not_lt.1 b2) (UInt8.not_lt.1 b1)
              rw [← e, if_pos a1]; decide
        · by_cases a2 : y < x
          · rw [if_neg a1, if_pos a2] at h1; exact absurd h1 (by decide)
          · have e : x = y := UInt8.le_antisymm (UInt8.not_lt.1 a2) (UInt8.not_lt.1 a1)
            rw [if_neg a1, if_neg a2] at h1
            rw [e]
            by_cases b1 : y < z
            · rw [if_pos b1]; decide
            · by_cases b2 : z < y
              · rw [if_neg b1, if_pos b2] at h2; exact absurd h2 (by decide)
              · rw [if_neg b1, if_neg b2] at h2 ⊢
                exact ih h1 h2
theorem lt_iff {a b : Nm} : ltB a b = true ↔ Lib.compareBytes a b < 0 := decide_eq_true_iff
theorem lt_irr (a : Nm) : ltB a a = false := by unfold ltB; rw [cmp_self]; rfl
theorem lt_tr {a b c : Nm} (h1 : ltB a b = true) (h2 : ltB b c = true) : ltB a c = true := lt_iff.2 (cmp_trans (lt_iff.1 h1) (lt_iff.1 h2))
theorem lt_asym {a b : Nm} (h : ltB a b = true) : ltB b a = false := by
  rcases hb : ltB b a with _ | _
  · rfl
  · have := lt_tr h hb; rw [lt_irr] at this; cases this
theorem lt_tri {a b : Nm} (h1 : ltB a b = false) (h2 : ltB b a = false) : a = b := by
  have g1 : ¬ Lib.compareBytes a b < 0 := fun h => by rw [lt_iff.2 h] at h1; cases h1
  have g2 : ¬ Lib.compareBytes b a < 0 := fun h => by rw [lt_iff.2 h] at h2; cases h2
  rw [cmp_neg] at g2
  exact cmp_zero (by omega)
theorem lt_ne {a b : Nm} (h : ltB a b = true) : a ≠ b := fun e => by rw [e, lt_irr] at h; cases h
/-- The program's own '<' on texts. -/
theorem less_eq (a b : Nm) : Op.bytesLess a b = ltB a b := by
  induction a generalizing b with
  | nil => cases b <;> rfl
  | cons x r ih =>
    cases b with
    | nil => rfl
    | cons y s =>
      unfold Op.bytesLess ltB Lib.compareBytes
      rw [ih]
      unfold ltB
      by_cases h1 : x < y
      · rw [if_pos h1, decide_eq_true h1]; rfl
      · by_cases h2 : y < x
        · have hne : (x == y) = false := by
            rw [beq_eq_false_iff_ne]
            exact fun e => by rw [e] at h2; exact UInt8.lt_irrefl y h2
          rw [if_neg h1, if_pos h2, decide_eq_false h1, hne]; rfl
        · have e : x = y := UInt8.le_antisymm (UInt8.not_lt.1 h2) (UInt8.not_lt.1 h1)
          rw [if_neg h1, if_neg h2, decide_eq_false h1, e, beq_self_eq_true]; rfl
/-! ### Rows that rise -/
def Rises (l : List Vr) : Prop := l.Pairwise fun a b => ltB a.1 b.1 = true
def Parts (l : List Vr) (s : Nm) (i : Nat) : Prop := i ≤ l.length ∧ ∀ j (h : j < l.length), (j < i ↔ ltB l[j].1 s = true)
def lowB (l : List Vr) (s : Nm) : Nat := (l.takeWhile fun p => ltB p.1 s).length
theorem rises_get {l : List Vr} (h : Rises l) {i j : Nat} (hij : i < j) (hj : j < l.length) : ltB l[i].1 l[j].1 = true := List.pairwise_iff_getElem.1 h i j (by omega) hj hij
theorem parts_low {l : List Vr} (h : Rises l) (s : Nm) : Parts l s (lowB l s) := by
  refine ⟨by unfold lowB; exact (List.takeWhile_sublist _).length_le, ?_⟩
  unfold lowB
  induction l with
  | nil => intro j hj; exact absurd hj (Nat.not_lt_zero _)
  | cons p r ih =>
    have hr : Rises r := (List.pairwise_cons.1 h).2
    have hp := (List.pairwise_cons.1 h).1
    intro j hj
    by_cases hlt : ltB p.1 s = true
    · rw [List.takeWhile_cons_of_pos (p := fun p : Vr => ltB p.1 s) hlt, List.length_cons]
      cases j with
      | zero => simpa using hlt
      | succ j =>
        have := ih hr j (by simpa using hj)
        simpa using this
    · rw [List.takeWhile_cons_of_neg (p := fun p : Vr => ltB p.1 s) hlt]
      refine ⟨fun h0 => absurd h0 (Nat.not_lt_zero _), fun h0 => ?_⟩
      cases j with
      | zero => exact absurd (by simpa using h0) hlt
      | succ j =>
        have hj' : j < r.length := by simpa using hj
        have h1 : ltB p.1 r[j].1 = true := hp _ (List.getElem_mem hj')
        have h2 : ltB r[j].1 s = true := by simpa using h0
        exact absurd (lt_tr h1 h2) hlt
theorem parts_unique {l : List Vr} {s : Nm} {i k : Nat} (hi : Parts l s i) (hk : Parts l s k) : i = k := by
  rcases Nat.lt_trichotomy i k with h | h | h
  · have hl : i < l.length := by have := hk.1; omega
    have := (hi.2 i hl).2 ((hk.2 i hl).1 h)
    omega
  · exact h
  · have hl : k < l.length := by have := hi.1; omega
    have := (hk.2 k hl).2 ((hi.2 k hl).1 h)
    omega
def hasB (l : List Vr) (s : Nm) : Bool := l.any fun p => decide (p.1 = s)
theorem has_at {l : List Vr} {s : Nm} {i : Nat} (hr : Rises l) (hi : Parts l s i) : hasB l s = true ↔ ∃ h : i < l.length, l[i].1 = s := by
  unfold hasB
  rw [List.any_eq_true]
  constructor
  · rintro ⟨p, hp, he⟩
    obtain ⟨j, hj, rfl⟩ := List.getElem_of_mem hp
    have he : l[j].1 = s := by simpa using he
    have h1 : ¬ j < i := fun h => by have := (hi.2 j hj).1 h; rw [he, lt_irr] at this; cases this
    refine ⟨by omega, ?_⟩
    by_cases hij : i = j
    · subst hij; exact he
    · have h2 := rises_get hr (show i < j by omega) hj
      have h3 : ¬ ltB l[i].1 s = true := fun h => by have := (hi.2 i (by omega)).2 h; omega
      rw [he] at h2
      exact absurd h2 h3
  · rintro ⟨h, he⟩
    exact ⟨l[i], List.getElem_mem h, by simpa using he⟩
def withoutB (l : List Vr) (s : Nm) : List Vr := l.filter fun p => decide (p.1 ≠ s)
theorem without_cons (p : Vr) (r : List Vr) (s : Nm) : withoutB (p :: r) s = if p.1 = s then withoutB r s else p :: withoutB r s := by
  unfold withoutB
  by_cases h : p.1 = s
  · rw [List.filter_cons_of_neg (by simpa using h), if_pos h]
  · rw [List.filter_cons_of_pos (by simpa using h), if_neg h]
theorem without_none {l : List Vr} {s : Nm} (h : hasB l s = false) : withoutB l s = l := by
  unfold withoutB
  refine List.filter_eq_self.2 fun q hq => ?_
  unfold hasB at h
  rw [List.any_eq_false] at h
  simpa using h q hq
theorem erase_eq {l : List Vr} {s : Nm} {i : Nat} (hr : Rises l) (hi : i < l.length) (he : l[i].1 = s) : l.eraseIdx i = withoutB l s := by
  induction l generalizing i with
  | nil => exact absurd hi (Nat.not_lt_zero _)
  | cons p r ih =>
    have hp := (List.pairwise_cons.1 hr).1
    have hr' : Rises r := (List.pairwise_cons.1 hr).2
    rw [without_cons]
    cases i with
    | zero =>
      have he : p.1 = s := he
      rw [List.eraseIdx_cons_zero, if_pos he]
      unfold withoutB
      refine (List.filter_eq_self.2 fun q hq => ?_).symm
      have := lt_ne (hp q hq)
      rw [he] at this
      simpa using fun e => this e.symm
    | succ i =>
      have hi' : i < r.length := by simpa using hi
      have he : r[i].1 = s := by simpa using he
      have h1 := lt_ne (hp _ (List.getElem_mem hi'))
      rw [he] at h1
      rw [List.eraseIdx_cons_succ, if_neg h1, ih hr' hi' he]
theorem rises_without {l : List Vr} (s : Nm) (h : Rises l) : Rises (withoutB l s) := List.Pairwise.filter _ h
theorem has_without (l : List Vr) (s : Nm) : hasB (withoutB l s) s = false := by
  unfold hasB withoutB
  rw [List.any_eq_false]
  intro q hq
  rw [List.mem_filter] at hq
  simpa using hq.2
theorem without_len (s : Nm) (l : List Vr) : (withoutB l s).length ≤ l.length := List.length_filter_le ..
/-- As the document puts it: those ahead of the name, the name, those behind. -/
def withB (s v : Nm) (l : List Vr) : List Vr := ((withoutB l s).takeWhile fun p => ltB p.1 s) ++ (s, v) :: (withoutB l s).dropWhile fun p => ltB p.1 s
theorem insert_low (s v : Nm) (m : List Vr) : m.insertIdx (lowB m s) (s, v) = (m.takeWhile fun p => ltB p.1 s) ++ (s, v) :: m.dropWhile fun p => ltB p.1 s := by
  have hle : lowB m s ≤ m.length := (List.takeWhile_sublist _).length_le
  rw [insert_split m _ _ hle]
  have h1 : m.take (lowB m s) = m.takeWhile fun p => ltB p.1 s := by
    unfold lowB
    conv => lhs; arg 2; rw [← List.takeWhile_append_dropWhile (p := fun p => ltB p.1 s) (l := m)]
    rw [List.take_append_of_le_length (Nat.le_refl _), List.take_of_length_le (Nat.le_refl _)]
  have h2 : m.drop (lowB m s) = m.dropWhile fun p => ltB p.1 s := by
    unfold lowB
    conv => lhs; arg 2; rw [← List.takeWhile_append_dropWhile (p := fun p => ltB p.1 s) (l := m)]
    rw [List.drop_append_of_le_length (Nat.le_refl _), List.drop_of_length_le (Nat.le_refl _), List.nil_append]
  rw [h1, h2]
theorem insert_eq (s v : Nm) {l : List Vr} {i : Nat} (hr : Rises (withoutB l s)) (hi : Parts (withoutB l s) s i) : (withoutB l s).insertIdx i (s, v) = withB s v l := by
  rw [parts_unique hi (parts_low hr s), insert_low]
  rfl
theorem with_mem (s v : Nm) (l : List Vr) : ∀ q ∈ withB s v l, q = (s, v) ∨ (q ∈ l ∧ q.1 ≠ s) := by
  intro q hq
  unfold withB at hq
  have hm : ∀ q ∈ withoutB l s, q ∈ l ∧ q.1 ≠ s := fun q hq => ⟨(List.mem_filter.1 hq).1, by simpa using (List.mem_filter.1 hq).2⟩
  rcases List.mem_append.1 hq with h | h
  · exact .inr (hm q ((List.takeWhile_sublist _).subset h))
  · rcases List.mem_cons.1 h with h | h
    · exact .inl h
    · exact .inr (hm q ((List.dropWhile_sublist _).subset h))
theorem mem_takeWhile {α : Type} {p : α → Bool} {l : List α} {x : α} (h : x ∈ l.takeWhile p) : p x = true := by
  induction l with
  | nil => cases h
  | cons y r ih =>
    rw [List.takeWhile_cons] at h
    split at h
    · rename_i hy
      rcases List.mem_cons.1 h with h | h
      · rw [h]; exact hy
      · exact ih h
    · cases h
theorem drop_ge {l : List Vr} {s : Nm} (hr : Rises l) : ∀ q ∈ l.dropWhile (fun p => ltB p.1 s), ltB q.1 s = false := by
  induction l with
  | nil => intro q hq; cases hq
  | cons p r ih =>
    intro q hq
    rw [List.dropWhile_cons] at hq
    split at hq
    · exact ih (List.pairwise_cons.1 hr).2 q hq
    · rename_i hp
      rcases List.mem_cons.1 hq with h | h
      · rw [h]; simpa using hp
      · have h1 := (List.pairwise_cons.1 hr).1 q h
        rcases hb : ltB q.1 s with _ | _
        · rfl
        · exact absurd (lt_tr h1 hb) hp
theorem rises_with (s v : Nm) {l : List Vr} (h : Rises l) : Rises (withB s v l) := by
  have hw := rises_without s h
  unfold withB
  refine List.pairwise_append.2 ⟨hw.sublist (List.takeWhile_sublist _), List.pairwise_cons.2 ⟨fun q hq => ?_, hw.sublist (List.dropWhile_sublist _)⟩, fun a ha b hb => ?_⟩
  · have h1 := drop_ge hw q hq
    have h2 : q.1 ≠ s := by simpa using (List.mem_filter.1 ((List.dropWhile_sublist _).subset hq)).2
    rcases hb : ltB s q.1 with _ | _
    · exact absurd (lt_tri h1 hb) h2
    · rfl
  · have h1 : ltB a.1 s = true := mem_takeWhile (p := fun p : Vr => ltB p.1 s) ha
    rcases List.mem_cons.1 hb with h2 | h2
    · rw [h2]; exact h1
    · have h3 := drop_ge hw b h2
      have h4 : b.1 ≠ s := by simpa using (List.mem_filter.1 ((List.dropWhile_sublist _).subset h2)).2
      rcases hb2 : ltB s b.1 with _ | _
      · exact absurd (lt_tri h3 hb2) h4
      · exact lt_tr h1 hb2
theorem with_len (s v : Nm) (l : List Vr) : (withB s v l).length = (withoutB l s).length + 1 := by
  unfold withB
  rw [List.length_append, List.length_cons]
  have h : ((withoutB l s).takeWhile fun p => ltB p.1 s).length + ((withoutB l s).dropWhile fun p => ltB p.1 s).length = (withoutB l s).length := by
    rw [← List.length_append, List.takeWhile_append_dropWhile]
  rw [← h, Nat.add_assoc]
def getB (l : List Vr) (s : Nm) : Option Nm := (l.find? fun p => decide (p.1 = s)).map (·.2)
theorem getB_cons (p : Vr) (r : List Vr) (s : Nm) : getB (p :: r) s = if p.1 = s then some p.2 else getB r s := by
  unfold getB
  by_cases h : p.1 = s
  · rw [List.find?_cons_of_pos (by simpa using h), if_pos h]; rfl
  · rw [List.find?_cons_of_neg (by simpa using h), if_neg h]
theorem get_at {l : List Vr} {s : Nm} {i : Nat} (hr : Rises l) (hi : i < l.length) (he : l[i].1 = s) : getB l s = some l[i].2 := by
  induction l generalizing i with
  | nil => exact absurd hi (Nat.not_lt_zero _)
  | cons p r ih =>
    have hp := (List.pairwise_cons.1 hr).1
    rw [getB_cons]
    cases i with
    | zero => exact if_pos he
    | succ i =>
      have hi' : i < r.length := by simpa using hi
      have he' : r[i].1 = s := by simpa using he
      have h1 := lt_ne (hp _ (List.getElem_mem hi'))
      rw [he'] at h1
      rw [if_neg h1]
      exact ih (List.pairwise_cons.1 hr).2 hi' he'
theorem get_isSome (l : List Vr) (s : Nm) : (getB l s).isSome = hasB l s := by
  unfold getB hasB
  rw [Option.isSome_map, Bool.eq_iff_iff, List.find?_isSome, List.any_eq_true]
theorem get_none {l : List Vr} {s : Nm} (h : hasB l s = false) : getB l s = none := by
  rw [← get_isSome] at h
  simpa using h
theorem get_append (a b : List Vr) (s : Nm) : getB (a ++ b) s = (getB a s).or (getB b s) := by
  induction a with
  | nil => rfl
  | cons p r ih =>
    rw [List.cons_append, getB_cons, getB_cons]
    split
    · rfl
    · exact ih
theorem get_without (l : List Vr) {s o : Nm} (h : o ≠ s) : getB (withoutB l s) o = getB l o := by
  induction l with
  | nil => rfl
  | cons p r ih =>
    rw [without_cons, getB_cons]
    split
    · rename_i hp
      rw [if_neg (fun e => h (e.symm.trans hp)), ih]
    · rw [getB_cons, ih]
theorem get_with_same (s v : Nm) (l : List Vr) : getB (withB s v l) s = some v := by
  have hn : getB ((withoutB l s).takeWhile fun p => ltB p.1 s) s = none := by
    unfold getB
    rw [List.find?_eq_none.2 (fun q hq => by
      have h1 : ltB q.1 s = true := mem_takeWhile (p := fun p : Vr => ltB p.1 s) hq
      have := lt_ne h1
      simpa using this)]
    rfl
  unfold withB
  rw [get_append, hn, Option.none_or, getB_cons, if_pos rfl]
theorem get_with_other (v : Nm) (l : List Vr) {s o : Nm} (h : o ≠ s) : getB (withB s v l) o = getB l o := by
  unfold withB
  rw [get_append, getB_cons, if_neg (fun e => h e.symm), ← get_append, List.takeWhile_append_dropWhile, get_without l h]
theorem without_with (s v : Nm) (l : List Vr) : withoutB (withB s v l) s = withoutB l s := by
  have h2 : withoutB (withoutB l s) s = withoutB l s := without_none (has_without l s)
  have h3 : ∀ a b : List Vr, withoutB (a ++ b) s = withoutB a s ++ withoutB b s := fun a b => List.filter_append ..
  unfold withB
  rw [h3, without_cons, if_pos rfl, ← h3, List.takeWhile_append_dropWhile, h2]
end Go.Proofs.YtchmpkgjjkfjcaaDoor
