/-
  Plain mathematics of chapter 13 (split): the fields of a row of bytes and letters. No program stands here. Conditions: as each law says.
-/
import Derived.Test.YtiemlgfcmldnoaaBase
set_option linter.unusedVariables false
namespace Go.Proofs.Ytiemlgfcmldnoaa
open Go.RowKit Base

theorem snoc_ind {α : Type} {P : List α → Prop} (h0 : P []) (hs : ∀ l x, P l → P (l ++ [x])) (l : List α) : P l := by
  have h : ∀ m : List α, P m.reverse := by
    intro m
    induction m with
    | nil => exact h0
    | cons x m ih => rw [List.reverse_cons]; exact hs _ _ ih
  have := h l.reverse
  rwa [List.reverse_reverse] at this
/-- Bytes with their letters. -/
abbrev SRow := List (UInt8 × UInt8)
def textS (r : SRow) : List UInt8 := r.map (·.1)
def maskS (r : SRow) : List UInt8 := r.map (·.2)
structure SpSt where
  l : List SRow
  now : SRow
  begun : Bool
  blank : Bool
def whiteB (c : UInt8) : Bool := c == 32 || (c == 9 || c == 10)
def endS (st : SpSt) (b : Bool) : SpSt := ⟨if st.begun = true then st.l ++ [st.now] else st.l, [], false, b⟩
def sepS (st : SpSt) (b : Bool) : SpSt :=
  if b = true then (if st.begun = true then endS st true else st)
  else if st.begun = true then endS st false else if st.blank = true then endS st false else endS ⟨st.l, st.now, true, st.blank⟩ false
def stepS (ifs : List UInt8) (st : SpSt) (x : UInt8 × UInt8) : SpSt :=
  if x.2 = 115 ∧ x.1 ∈ ifs then sepS st (whiteB x.1)
  else if x.2 = 98 then endS st false
  else ⟨st.l, if x.2 = 101 then st.now else st.now ++ [x], true, false⟩
def foldS (ifs : List UInt8) (r : SRow) : SpSt := r.foldl (stepS ifs) ⟨[], [], false, false⟩
def splitB (ifs : List UInt8) (r : SRow) : List SRow := (endS (foldS ifs r) false).l
theorem foldS_nil (ifs : List UInt8) : foldS ifs [] = ⟨[], [], false, false⟩ := rfl
theorem foldS_snoc (ifs : List UInt8) (r : SRow) (x : UInt8 × UInt8) : foldS ifs (r ++ [x]) = stepS ifs (foldS ifs r) x := by unfold foldS; rw [List.foldl_append]; rfl
theorem foldS_take (ifs : List UInt8) (r : SRow) (k : Nat) (h : k < r.length) : foldS ifs (r.take (k + 1)) = stepS ifs (foldS ifs (r.take k)) r[k] := by
  rw [List.take_succ_eq_append_getElem h, foldS_snoc]
/-- A field that is not begun has no bytes. -/
theorem foldS_now (ifs : List UInt8) (r : SRow) : (foldS ifs r).begun = false → (foldS ifs r).now = [] := by
  refine snoc_ind (P := fun r => (foldS ifs r).begun = false → (foldS ifs r).now = []) (fun _ => rfl) ?_ r
  intro r x ih
  rw [foldS_snoc]
  unfold stepS sepS
  intro h
  by_cases h1 : x.2 = 115 ∧ x.1 ∈ ifs
  · rw [if_pos h1] at h ⊢
    by_cases h2 : whiteB x.1 = true
    · rw [if_pos h2] at h ⊢
      by_cases h3 : (foldS ifs r).begun = true
      · rw [if_pos h3]; rfl
      · rw [if_neg h3] at h ⊢; exact ih h
    · rw [if_neg h2]
      by_cases h3 : (foldS ifs r).begun = true
      · rw [if_pos h3]; rfl
      · rw [if_neg h3]
        by_cases h4 : (foldS ifs r).blank = true
        · rw [if_pos h4]; rfl
        · rw [if_neg h4]; rfl
  · rw [if_neg h1] at h ⊢
    by_cases h2 : x.2 = 98
    · rw [if_pos h2]; rfl
    · rw [if_neg h2] at h
      exact absurd h (by simp)
/-- All bytes that are in fields so far. -/
def wholeS (st : SpSt) : SRow := st.l.flatten ++ st.now
def plainX (ifs : List UInt8) (x : UInt8 × UInt8) : Bool := decide (x.2 ≠ 98) && (decide (x.2 ≠ 101) && !decide (x.2 = 115 ∧ x.1 ∈ ifs))
theorem whole_end (st : SpSt) (b : Bool) (h : st.begun = false → st.now = []) : wholeS (endS st b) = wholeS st := by
  unfold wholeS endS
  by_cases hb : st.begun = true
  · simp [hb]
  · have : st.begun = false := by simpa using hb
    simp [this, h this]
theorem whole_sep (st : SpSt) (b : Bool) (h : st.begun = false → st.now = []) : wholeS (sepS st b) = wholeS st := by
  unfold sepS
  split
  · split
    · exact whole_end _ _ h
    · rfl
  · split
    · exact whole_end _ _ h
    · split
      · exact whole_end _ _ h
      · rename_i h1 _
        have h2 := h (by simpa using h1)
        unfold wholeS endS
        simp [h2]
theorem whole_fold (ifs : List UInt8) (r : SRow) : wholeS (foldS ifs r) = r.filter (plainX ifs) := by
  refine snoc_ind (P := fun r => wholeS (foldS ifs r) = r.filter (plainX ifs)) rfl ?_ r
  · intro r x ih
    rw [foldS_snoc, List.filter_append, ← ih]
    have hn := foldS_now ifs r
    have hf : ∀ b : Bool, plainX ifs x = b → [x].filter (plainX ifs) = if b = true then [x] else [] := fun b hb => by
      rw [List.filter_cons, hb]
      cases b <;> rfl
    unfold stepS
    by_cases h1 : x.2 = 115 ∧ x.1 ∈ ifs
    · rw [if_pos h1, whole_sep _ _ hn, hf false (by unfold plainX; rw [decide_eq_true h1]; simp)]
      simp
    · rw [if_neg h1]
      by_cases h2 : x.2 = 98
      · rw [if_pos h2, whole_end _ _ hn, hf false (by unfold plainX; rw [decide_eq_false (not_not_intro h2)]; rfl)]
        simp
      · rw [if_neg h2]
        unfold wholeS
        by_cases h3 : x.2 = 101
        · rw [hf false (by unfold plainX; rw [decide_eq_true h2, decide_eq_false (not_not_intro h3)]; rfl)]
          simp [h3]
        · rw [hf true (by unfold plainX; rw [decide_eq_true h2, decide_eq_true h3, decide_eq_false h1]; rfl)]
          simp [h3]
theorem split_keeps (ifs : List UInt8) (r : SRow) : (splitB ifs r).flatten = r.filter (plainX ifs) := by
  rw [← whole_fold]
  have := whole_end (foldS ifs r) false (foldS_now ifs r)
  rw [← this]
  unfold splitB wholeS endS
  simp
/-- How many parts there are between borders. -/
def partS (st : Nat × Bool) (x : UInt8 × UInt8) : Nat × Bool := if x.2 = 98 then (st.1, false) else (if st.2 = true then st.1 else st.1 + 1, true)
def partsS (r : SRow) : Nat × Bool := r.foldl partS (0, false)
theorem parts_snoc (r : SRow) (x : UInt8 × UInt8) : partsS (r ++ [x]) = partS (partsS r) x := by unfold partsS; rw [List.foldl_append]; rfl
theorem split_parts (r : SRow) : (foldS [] r).begun = (partsS r).2 ∧ (foldS [] r).l.length + (if (foldS [] r).begun = true then 1 else 0) = (partsS r).1 := by
  refine snoc_ind (P := fun r => (foldS [] r).begun = (partsS r).2 ∧ (foldS [] r).l.length + (if (foldS [] r).begun = true then 1 else 0) = (partsS r).1) ⟨rfl, rfl⟩ ?_ r
  · intro r x ih
    rw [foldS_snoc, parts_snoc]
    obtain ⟨h1, h2⟩ := ih
    unfold stepS partS
    rw [if_neg (by simp)]
    by_cases hx : x.2 = 98
    · rw [if_pos hx, if_pos hx]
      refine ⟨rfl, ?_⟩
      rw [← h2]
      unfold endS
      by_cases hb : (foldS [] r).begun = true
      · simp [hb]
      · simp [hb]
    · rw [if_neg hx, if_neg hx]
      refine ⟨rfl, ?_⟩
      simp only [← h1, ← h2, if_true]
      by_cases hb : (foldS [] r).begun = true
      · simp [hb]
      · simp [hb]
theorem split_nil_len (r : SRow) : (splitB [] r).length = (partsS r).1 := by
  rw [← (split_parts r).2]
  unfold splitB endS
  by_cases hb : (foldS [] r).begun = true
  · simp [hb]
  · simp [hb]
theorem zip_text (t m : List UInt8) : textS (t.zip m) = t.take (min t.length m.length) := by
  unfold textS
  induction t generalizing m with
  | nil => simp
  | cons a t ih =>
    cases m with
    | nil => simp
    | cons b m =>
      rw [List.zip_cons_cons, List.map_cons, ih, List.length_cons, List.length_cons, Nat.succ_min_succ, List.take_succ_cons]
theorem zip_mask (t m : List UInt8) : maskS (t.zip m) = m.take (min t.length m.length) := by
  unfold maskS
  induction t generalizing m with
  | nil => simp
  | cons a t ih =>
    cases m with
    | nil => simp
    | cons b m =>
      rw [List.zip_cons_cons, List.map_cons, ih, List.length_cons, List.length_cons, Nat.succ_min_succ, List.take_succ_cons]
end Go.Proofs.Ytiemlgfcmldnoaa
