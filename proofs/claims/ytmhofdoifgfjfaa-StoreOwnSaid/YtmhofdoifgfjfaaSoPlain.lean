/-
  Store: what its places are, as plain lists. Conditions: as each law says.
-/
import Derived.Test.YtmhofdoifgfjfaaBase
set_option linter.unusedVariables false
namespace Go.Proofs.Ytmhofdoifgfjfaa

/-- How far apart the neighbours of the place of number i are. -/
def gapL (q : List Int) (i : Nat) : Int := if i + 1 = q.length then q.getD i 0 - q.getD (i - 1) 0 else q.getD (i + 1) 0 - q.getD (i - 1) 0
/-- The first of the numbers 1 .. k + 1 with the least gap. -/
def bestTo (q : List Int) : Nat → Nat
  | 0 => 1
  | k + 1 => if gapL q (k + 2) < gapL q (bestTo q k) then k + 2 else bestTo q k
def lowsN (pl : List Int) (p : Int) : Nat := pl.countP (fun x => decide (x < p))
def ins (pl : List Int) (p : Int) : List Int := pl.filter (fun x => decide (x < p)) ++ p :: pl.filter (fun x => decide (p < x))
/-- The last of the numbers that may go. -/
def lastOf (mo : Int) (q : List Int) : Nat := if mo = 1 then q.length - 1 else q.length - 2
def trim (mo : Int) (q : List Int) : List Int := if (q.length : Int) ≤ mo then q else q.eraseIdx (bestTo q (lastOf mo q - 1))
def away (ev p : Int) : Prop := p < 0 ∨ p % ev ≠ 0
instance (ev p : Int) : Decidable (away ev p) := by unfold away; infer_instance
def keepB (ev mo : Int) (pl : List Int) (p : Int) : List Int := if away ev p ∨ p ∈ pl then pl else trim mo (ins pl p)
def Up (l : List Int) : Prop := l.Pairwise (· < ·)

theorem bestTo_ge (q : List Int) : ∀ k, 1 ≤ bestTo q k ∧ bestTo q k ≤ k + 1
  | 0 => ⟨Nat.le_refl _, Nat.le_refl _⟩
  | k + 1 => by
    have := bestTo_ge q k
    unfold bestTo
    split <;> omega
theorem lows_split {pl : List Int} (h : Up pl) (p : Int) : pl.take (lowsN pl p) = pl.filter (fun x => decide (x < p)) ∧ pl.drop (lowsN pl p) = pl.filter (fun x => decide (p ≤ x)) := by
  induction pl with
  | nil => exact ⟨rfl, rfl⟩
  | cons y r ih =>
    obtain ⟨h1, h2⟩ := List.pairwise_cons.1 h
    obtain ⟨i1, i2⟩ := ih h2
    unfold lowsN at i1 i2 ⊢
    by_cases hy : y < p
    · rw [List.countP_cons_of_pos (by simpa using hy), List.take_succ_cons, List.drop_succ_cons, i1, i2, List.filter_cons_of_pos (by simpa using hy), List.filter_cons_of_neg (by simp; omega)]
      exact ⟨rfl, rfl⟩
    · have h0 : r.countP (fun x => decide (x < p)) = 0 := by
        rw [List.countP_eq_zero]
        intro x hx
        have := h1 x hx
        simp; omega
      rw [h0, List.take_zero] at i1
      rw [h0, List.drop_zero] at i2
      rw [List.countP_cons_of_neg (by simpa using hy), h0, List.take_zero, List.drop_zero, List.filter_cons_of_neg (by simpa using hy), List.filter_cons_of_pos (by simp; omega), ← i1, ← i2]
      exact ⟨rfl, rfl⟩
theorem insertIdx_split {α : Type} (l : List α) (i : Nat) (x : α) (hi : i ≤ l.length) : l.insertIdx i x = l.take i ++ x :: l.drop i := by
  induction l generalizing i with
  | nil => simp at hi; subst hi; simp
  | cons y r ih =>
    cases i with
    | zero => simp
    | succ i => simp at hi; simp [ih i hi]
theorem lowsN_le (pl : List Int) (p : Int) : lowsN pl p ≤ pl.length := List.countP_le_length
theorem ins_eq {pl : List Int} (h : Up pl) {p : Int} (hp : p ∉ pl) : pl.insertIdx (lowsN pl p) p = ins pl p := by
  rw [insertIdx_split _ _ _ (lowsN_le _ _), (lows_split h p).1, (lows_split h p).2]
  unfold ins
  have e : pl.filter (fun x => decide (p ≤ x)) = pl.filter (fun x => decide (p < x)) := List.filter_congr (fun x hx => by
    have : x ≠ p := fun e => hp (e ▸ hx)
    by_cases h2 : p < x
    · rw [decide_eq_true h2, decide_eq_true (by omega)]
    · rw [decide_eq_false h2, decide_eq_false (by omega)])
  rw [e]
theorem ins_len {pl : List Int} (h : Up pl) {p : Int} (hp : p ∉ pl) : (ins pl p).length = pl.length + 1 := by
  rw [← ins_eq h hp, List.length_insertIdx_of_le_length (lowsN_le _ _)]
theorem ins_up {pl : List Int} (h : Up pl) (p : Int) : Up (ins pl p) := by
  unfold ins Up
  refine List.pairwise_append.2 ⟨h.filter _, List.pairwise_cons.2 ⟨fun x hx => ?_, h.filter _⟩, fun x hx y hy => ?_⟩
  · simpa using (List.mem_filter.1 hx).2
  · have h1 : x < p := by simpa using (List.mem_filter.1 hx).2
    rcases List.mem_cons.1 hy with rfl | hy
    · exact h1
    · have h2 : p < y := by simpa using (List.mem_filter.1 hy).2
      omega
theorem ins_mem {pl : List Int} {p x : Int} (h : x ∈ ins pl p) : x ∈ pl ∨ x = p := by
  unfold ins at h
  rcases List.mem_append.1 h with h | h
  · exact .inl (List.mem_filter.1 h).1
  · rcases List.mem_cons.1 h with h | h
    · exact .inr h
    · exact .inl (List.mem_filter.1 h).1
theorem erase_sub {α : Type} (l : List α) (i : Nat) : (l.eraseIdx i).Sublist l := List.eraseIdx_sublist l i
theorem trim_sub (mo : Int) (q : List Int) : (trim mo q).Sublist q := by
  unfold trim
  split
  · exact List.Sublist.refl _
  · exact erase_sub _ _
theorem keepB_up {ev mo : Int} {pl : List Int} (h : Up pl) (p : Int) : Up (keepB ev mo pl p) := by
  unfold keepB
  split
  · exact h
  · exact (ins_up h p).sublist (trim_sub _ _)
theorem keepB_mem {ev mo : Int} {pl : List Int} {p x : Int} (h : x ∈ keepB ev mo pl p) : x ∈ pl ∨ (x = p ∧ ¬ away ev p) := by
  unfold keepB at h
  split at h
  · exact .inl h
  · rename_i hn
    rcases ins_mem ((trim_sub _ _).mem h) with h | h
    · exact .inl h
    · exact .inr ⟨h, fun h2 => hn (.inl h2)⟩
theorem keepB_len {ev mo : Int} (hm : 1 ≤ mo) {pl : List Int} (h : Up pl) (hl : (pl.length : Int) ≤ mo) (p : Int) : ((keepB ev mo pl p).length : Int) ≤ mo ∧ (keepB ev mo pl p).length ≤ pl.length + 1 := by
  unfold keepB
  split
  · exact ⟨hl, by omega⟩
  · rename_i hn
    have hq := ins_len h (fun h2 => hn (.inr h2))
    unfold trim
    split
    · exact ⟨by assumption, by omega⟩
    · rename_i hb
      have h1 := bestTo_ge (ins pl p) (lastOf mo (ins pl p) - 1)
      have h2 : bestTo (ins pl p) (lastOf mo (ins pl p) - 1) < (ins pl p).length := by
        unfold lastOf at h1 ⊢
        split at h1 <;> rename_i hm1
        · rw [if_pos hm1] at *; omega
        · rw [if_neg hm1] at *; omega
      rw [List.length_eraseIdx, if_pos h2]
      omega
/-- How many places are not behind. -/
def uptoN (pl : List Int) (p : Int) : Nat := pl.countP (fun x => decide (x ≤ p))
def nearB (pl : List Int) (p : Int) : Int := if uptoN pl p = 0 then -1 else pl.getD (uptoN pl p - 1) 0
theorem upto_lows {pl : List Int} (h : Up pl) (p : Int) : uptoN pl p = lowsN pl p + (if p ∈ pl then 1 else 0) := by
  induction pl with
  | nil => rfl
  | cons y r ih =>
    obtain ⟨h1, h2⟩ := List.pairwise_cons.1 h
    have ih := ih h2
    unfold uptoN lowsN at ih ⊢
    by_cases hy : y < p
    · rw [List.countP_cons_of_pos (by simp; omega), List.countP_cons_of_pos (by simpa using hy), ih]
      have : (p ∈ y :: r) ↔ p ∈ r := ⟨fun h => (List.mem_cons.1 h).resolve_left (by omega), List.mem_cons_of_mem _⟩
      simp only [this]; omega
    · have h0 : r.countP (fun x => decide (x < p)) = 0 := by
        rw [List.countP_eq_zero]; intro x hx; have := h1 x hx; simp; omega
      have h00 : r.countP (fun x => decide (x ≤ p)) = 0 := by
        rw [List.countP_eq_zero]; intro x hx; have := h1 x hx; simp; omega
      rw [List.countP_cons_of_neg (p := fun x => decide (x < p)) (by simpa using hy), h0]
      by_cases he : y = p
      · subst he
        rw [List.countP_cons_of_pos (by simp), h00, if_pos List.mem_cons_self]
      · rw [List.countP_cons_of_neg (by simp; omega), h00, if_neg]
        intro hm
        rcases List.mem_cons.1 hm with hm | hm
        · exact he hm.symm
        · have := h1 p hm; omega
theorem upto_take {pl : List Int} (h : Up pl) (p : Int) : pl.take (uptoN pl p) = pl.filter (fun x => decide (x ≤ p)) := by
  induction pl with
  | nil => rfl
  | cons y r ih =>
    obtain ⟨h1, h2⟩ := List.pairwise_cons.1 h
    have ih := ih h2
    unfold uptoN at ih ⊢
    by_cases hy : y ≤ p
    · rw [List.countP_cons_of_pos (by simpa using hy), List.take_succ_cons, ih, List.filter_cons_of_pos (by simpa using hy)]
    · have h0 : r.countP (fun x => decide (x ≤ p)) = 0 := by
        rw [List.countP_eq_zero]; intro x hx; have := h1 x hx; simp; omega
      rw [h0] at ih
      rw [List.countP_cons_of_neg (by simpa using hy), h0, List.take_zero, List.filter_cons_of_neg (by simpa using hy), ← ih, List.take_zero]
theorem near_at {pl : List Int} (h : Up pl) {p : Int} (hn : uptoN pl p ≠ 0) : uptoN pl p - 1 < pl.length ∧ nearB pl p ∈ pl ∧ nearB pl p ≤ p := by
  have hl : uptoN pl p ≤ pl.length := List.countP_le_length
  have hlt : uptoN pl p - 1 < pl.length := by omega
  unfold nearB
  rw [if_neg hn, List.getD_eq_getElem?_getD, List.getElem?_eq_getElem hlt, Option.getD_some]
  refine ⟨hlt, List.getElem_mem _, ?_⟩
  have h2 : pl[uptoN pl p - 1] ∈ pl.take (uptoN pl p) := by
    rw [List.mem_take_iff_getElem]
    exact ⟨uptoN pl p - 1, by omega, rfl⟩
  rw [upto_take h] at h2
  simpa using (List.mem_filter.1 h2).2
end Go.Proofs.Ytmhofdoifgfjfaa
