/-
  Plain mathematics of chapter 5 (tape): what rows are a tape of; what is written is read. No program stands here. Conditions: as each law says.
-/
import Derived.Test.YtgbnfipbedlmhaaGPlain
import Derived.Test.YtgbnfipbedlmhaaGEv3
set_option linter.unusedVariables false
set_option maxRecDepth 100000
namespace Go.Proofs.Ytgbnfipbedlmhaa
open Go.RowKit Base

/-- The head's first bytes. -/
def magicB : List UInt8 := [107, 105, 110, 101, 116, 111, 115, 99, 111, 112, 101, 32, 49, 10]
def headB (s : List UInt8) : List UInt8 := magicB ++ s
theorem headB_len (s : List UInt8) : (headB s).length = 14 + s.length := by unfold headB magicB; simp; omega
theorem headB_take (s : List UInt8) : (headB s).take 14 = magicB := by unfold headB; exact List.take_left' (by rfl)
theorem headB_drop (s : List UInt8) : (headB s).drop 14 = s := by unfold headB; exact List.drop_left' (by rfl)
/-- A tape that was read: the script, the answers, how many bytes are whole, what is wrong. -/
structure TOut where
  script : List UInt8
  qs : List Ans
  n : Nat
  e : Int
/-- How many rows at the beginning are answers. -/
def goodT (rs : List (List UInt8)) : Nat := (rs.takeWhile (fun r => decide (toldE r = 0))).length
def isHead (r : List UInt8) : Bool := decide (r.take 14 = magicB) && decide (r.length ≤ 4110)
def readR (rows : List (List UInt8)) (n : Nat) (e : Int) : TOut :=
  match rows with
  | [] => ⟨[], [], 0, if e = 0 then 10 else e⟩
  | first :: rest =>
    if isHead first = false then ⟨[], [], 0, 11⟩
    else if goodT rest = rest.length then ⟨first.drop 14, rest.map toldA, n, e⟩
    else ⟨first.drop 14, (rest.take (goodT rest)).map toldA, (framesB (first :: rest.take (goodT rest))).length, toldE (rest.getD (goodT rest) [])⟩
theorem goodT_le (rs : List (List UInt8)) : goodT rs ≤ rs.length := by
  unfold goodT
  exact (List.takeWhile_sublist _).length_le
theorem goodT_lt {rs : List (List UInt8)} {j : Nat} (h : j < goodT rs) (hj : j < rs.length) : toldE rs[j] = 0 := by
  induction rs generalizing j with
  | nil => simp at hj
  | cons r rs ih =>
    unfold goodT at h
    rw [List.takeWhile_cons] at h
    split at h
    · rename_i hr
      cases j with
      | zero => simpa using hr
      | succ j => exact ih (by unfold goodT; simpa using h) (by simpa using hj)
    · simp at h
theorem goodT_at {rs : List (List UInt8)} (h : goodT rs < rs.length) : toldE rs[goodT rs] ≠ 0 := by
  induction rs with
  | nil => simp at h
  | cons r rs ih =>
    by_cases hr : toldE r = 0
    · have e : goodT (r :: rs) = goodT rs + 1 := by unfold goodT; rw [List.takeWhile_cons, if_pos (by simpa using hr)]; rfl
      simp only [e] at h ⊢
      simpa using ih (by simpa using h)
    · have e : goodT (r :: rs) = 0 := by unfold goodT; rw [List.takeWhile_cons, if_neg (by simpa using hr)]; rfl
      simp only [e]
      simpa using hr
theorem goodT_eq {rs : List (List UInt8)} {j : Nat} (h : ∀ i (hi : i < rs.length), i < j → toldE rs[i] = 0) (hj : j ≤ rs.length) (h2 : ∀ hj : j < rs.length, toldE rs[j] ≠ 0) : goodT rs = j := by
  rcases Nat.lt_trichotomy (goodT rs) j with h3 | h3 | h3
  · exact absurd (h _ (by omega) h3) (goodT_at (by omega))
  · exact h3
  · have hl : j < rs.length := Nat.lt_of_lt_of_le h3 (goodT_le rs)
    exact absurd (goodT_lt h3 hl) (h2 hl)
/-- Whatever answers: their bytes are answers. -/
theorem goodT_tells (qs : List Ans) (h : ∀ a ∈ qs, a.Fine ∧ fitsB a.kind a = true) : goodT (qs.map tellB) = (qs.map tellB).length ∧ (qs.map tellB).map toldA = qs := by
  have hb : ∀ a ∈ qs, toldE (tellB a) = 0 ∧ toldA (tellB a) = a := fun a ha => told_back a (h a ha).1 (h a ha).2
  constructor
  · refine goodT_eq (fun i hi _ => ?_) (Nat.le_refl _) (fun hj => absurd hj (Nat.lt_irrefl _))
    rw [List.getElem_map]
    exact (hb _ (List.getElem_mem _)).1
  · rw [List.map_map]
    conv => rhs; rw [← List.map_id qs]
    exact List.map_congr_left fun a ha => (hb a ha).2
theorem isHead_of (s : List UInt8) (h : s.length ≤ 4096) : isHead (headB s) = true := by
  unfold isHead
  rw [headB_take, headB_len]
  simp
  omega
/-- What is written is read. -/
theorem readR_written (s : List UInt8) (hs : s.length ≤ 4096) (qs : List Ans) (h : ∀ a ∈ qs, a.Fine ∧ fitsB a.kind a = true) (n : Nat) (e : Int) : readR (headB s :: qs.map tellB) n e = ⟨s, qs, n, e⟩ := by
  obtain ⟨h1, h2⟩ := goodT_tells qs h
  unfold readR
  simp only []
  rw [isHead_of s hs, h1, if_neg (by simp), if_pos rfl, headB_drop, h2]

end Go.Proofs.Ytgbnfipbedlmhaa
