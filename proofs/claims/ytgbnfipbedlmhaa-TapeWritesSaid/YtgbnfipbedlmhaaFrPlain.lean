/-
  Plain mathematics of chapter 3 (frame): a row's frame, the row that bytes begin with, the rows of bytes; what is put is scanned, cut it is short, turned its sum is none. No program stands here. Conditions: rows are of 65536 bytes at most.
-/
import Derived.Test.YtgbnfipbedlmhaaVarPlain2
import Derived.Test.YtgbnfipbedlmhaaCrcPlain
set_option linter.unusedVariables false
namespace Go.Proofs.Ytgbnfipbedlmhaa
open Go.RowKit Base

/-- A row with its size ahead; its sum as four bytes; its frame. -/
def headed (l : List UInt8) : List UInt8 := VarPlain.num l.length ++ l
def oneF (l : List UInt8) : List UInt8 := headed l ++ CrcPlain.tail (CrcPlain.of (headed l))
theorem tail_len (x : BitVec 32) : (CrcPlain.tail x).length = 4 := rfl
theorem headed_len (l : List UInt8) : (headed l).length = (VarPlain.num l.length).length + l.length := by unfold headed; rw [List.length_append]
theorem oneF_len (l : List UInt8) : (oneF l).length = (VarPlain.num l.length).length + l.length + 4 := by unfold oneF; rw [List.length_append, headed_len, tail_len]

/-- The row that bytes begin with, how many bytes it has with its frame, the error. -/
def takeF (b : List UInt8) : List UInt8 × Nat × Int :=
  if (VarPlain.take b).2.2 ≠ 0 then ([], 0, (VarPlain.take b).2.2)
  else if 65536 < (VarPlain.take b).1 then ([], 0, 13)
  else if b.length - (VarPlain.take b).2.1 < (VarPlain.take b).1 + 4 then ([], 0, 10)
  else if oneF ((b.drop (VarPlain.take b).2.1).take (VarPlain.take b).1) ≠ b.take ((VarPlain.take b).2.1 + (VarPlain.take b).1 + 4) then ([], 0, 12)
  else ((b.drop (VarPlain.take b).2.1).take (VarPlain.take b).1, (VarPlain.take b).2.1 + (VarPlain.take b).1 + 4, 0)

theorem takeF_ok {b : List UInt8} (h : (takeF b).2.2 = 0) : (takeF b).2.1 ≤ b.length ∧ 5 ≤ (takeF b).2.1 ∧ (takeF b).1.length ≤ 65536 := by
  unfold takeF at h ⊢
  split at h
  · rename_i h1; exact absurd h h1
  · rename_i h1
    rw [if_neg h1]
    split at h
    · simp at h
    · rename_i h2
      rw [if_neg h2]
      split at h
      · simp at h
      · rename_i h3
        rw [if_neg h3]
        split at h
        · simp at h
        · rename_i h4
          rw [if_neg h4]
          have h5 := take_ok (b := b) (by simpa using h1)
          simp only [List.length_take, List.length_drop]
          omega
theorem takeF_bad {b : List UInt8} (h : (takeF b).2.2 ≠ 0) : (takeF b).1 = [] ∧ (takeF b).2.1 = 0 := by
  unfold takeF at h ⊢
  split
  · exact ⟨rfl, rfl⟩
  · rename_i h1
    rw [if_neg h1] at h
    split
    · exact ⟨rfl, rfl⟩
    · rename_i h2
      rw [if_neg h2] at h
      split
      · exact ⟨rfl, rfl⟩
      · rename_i h3
        rw [if_neg h3] at h
        split
        · exact ⟨rfl, rfl⟩
        · rename_i h4
          rw [if_neg h4] at h
          exact absurd rfl h
theorem takeF_row {b : List UInt8} (hl : ∀ x, VarPlain.take b = x → x.2.2 = 0) (h1 : (VarPlain.take b).1 ≤ 65536) (h2 : (VarPlain.take b).2.1 + (VarPlain.take b).1 + 4 ≤ b.length) (p t r : List UInt8)
    (hb : b = p ++ t ++ r) (hp : p = VarPlain.num (VarPlain.take b).1) (hp2 : p.length = (VarPlain.take b).2.1) (ht : t.length = (VarPlain.take b).1 + 4) :
    takeF b = if oneF (t.take (VarPlain.take b).1) ≠ p ++ t then ([], 0, 12) else (t.take (VarPlain.take b).1, (p ++ t).length, 0) := by
  have h0 := hl _ rfl
  generalize hk : VarPlain.take b = k at *
  obtain ⟨x, n, e⟩ := k
  simp only [] at *
  subst h0
  have e1 : (b.drop n).take x = t.take x := by
    rw [hb, ← hp2, List.append_assoc, List.drop_left, List.take_append_of_le_length (by omega)]
  have e2 : b.take (n + x + 4) = p ++ t := by
    have : n + x + 4 = (p ++ t).length := by rw [List.length_append]; omega
    rw [hb, this, List.take_left]
  unfold takeF
  rw [hk]
  simp only []
  rw [if_neg (by simp), if_neg (by omega), if_neg (by omega), e1, e2]
  have e3 : n + x + 4 = (p ++ t).length := by rw [List.length_append]; omega
  rw [e3]

theorem lt64_row {l : List UInt8} (h : l.length ≤ 65536) : Lt64 l.length := by unfold Lt64; omega
/-- A frame is taken, whatever stands behind. -/
theorem takeF_one (l : List UInt8) (h : l.length ≤ 65536) (r : List UInt8) : takeF (oneF l ++ r) = (l, (oneF l).length, 0) := by
  have e : oneF l ++ r = VarPlain.num l.length ++ (l ++ CrcPlain.tail (CrcPlain.of (headed l))) ++ r := by unfold oneF headed; simp
  have ht : VarPlain.take (oneF l ++ r) = (l.length, (VarPlain.num l.length).length, 0) := by rw [e, List.append_assoc]; exact take_num _ (lt64_row h) _
  have hx := takeF_row (b := oneF l ++ r) (by intro x hx; rw [ht] at hx; rw [← hx]) (by rw [ht]; exact h) (by rw [ht, List.length_append, oneF_len]; simp only []; omega)
    (VarPlain.num l.length) (l ++ CrcPlain.tail (CrcPlain.of (headed l))) r e (by rw [ht]) (by rw [ht]) (by rw [ht, List.length_append, tail_len])
  rw [ht] at hx
  simp only [List.take_left] at hx
  have e2 : VarPlain.num l.length ++ (l ++ CrcPlain.tail (CrcPlain.of (headed l))) = oneF l := by unfold oneF headed; simp
  rw [e2, if_neg (by simp)] at hx
  exact hx
/-- A frame of which the row, or the sum, was turned is none. -/
theorem takeF_turned (l t r : List UInt8) (h : l.length ≤ 65536) (ht : t.length = l.length + 4) (hn : CrcPlain.tail (CrcPlain.of (VarPlain.num l.length ++ t.take l.length)) ≠ t.drop l.length) : takeF (VarPlain.num l.length ++ t ++ r) = ([], 0, 12) := by
  have hk : VarPlain.take (VarPlain.num l.length ++ t ++ r) = (l.length, (VarPlain.num l.length).length, 0) := by rw [List.append_assoc]; exact take_num _ (lt64_row h) _
  have hx := takeF_row (b := VarPlain.num l.length ++ t ++ r) (by intro x hx; rw [hk] at hx; rw [← hx]) (by rw [hk]; exact h) (by rw [hk]; simp only [List.length_append]; omega)
    (VarPlain.num l.length) t r rfl (by rw [hk]) (by rw [hk]) (by rw [hk, ht])
  rw [hk] at hx
  simp only [] at hx
  rw [hx, if_pos]
  intro he
  apply hn
  have hl : (t.take l.length).length = l.length := by rw [List.length_take]; omega
  unfold oneF headed at he
  rw [hl] at he
  have e2 : t = t.take l.length ++ t.drop l.length := (List.take_append_drop _ _).symm
  have e3 : VarPlain.num l.length ++ t = (VarPlain.num l.length ++ t.take l.length) ++ t.drop l.length := by rw [List.append_assoc, ← e2]
  rw [e3] at he
  exact List.append_cancel_left he
/-- A frame that is cut is short. -/
theorem takeF_cut (l : List UInt8) (h : l.length ≤ 65536) (k : Nat) (hk : k < (oneF l).length) : takeF ((oneF l).take k) = ([], 0, 10) := by
  by_cases h1 : k < (VarPlain.num l.length).length
  · have e : (oneF l).take k = (VarPlain.num l.length).take k := by unfold oneF headed; rw [List.append_assoc, List.take_append_of_le_length (by omega)]
    unfold takeF
    rw [e, take_cut _ (lt64_row h) _ h1]
    rw [if_pos (by decide)]
  · have e : (oneF l).take k = VarPlain.num l.length ++ (l ++ CrcPlain.tail (CrcPlain.of (headed l))).take (k - (VarPlain.num l.length).length) := by
      unfold oneF headed
      rw [List.append_assoc, List.take_append, List.take_of_length_le (by omega)]
    have hl : ((oneF l).take k).length = k := by rw [List.length_take]; omega
    have hk2 : VarPlain.take ((oneF l).take k) = (l.length, (VarPlain.num l.length).length, 0) := by rw [e]; exact take_num _ (lt64_row h) _
    rw [oneF_len] at hk
    unfold takeF
    rw [hk2, hl]
    simp only []
    rw [if_neg (by simp), if_neg (by omega), if_pos (by omega)]

/-- The rows of bytes, so many of them, and how many bytes they have. -/
def stF (b : List UInt8) : Nat → List (List UInt8) × Nat
  | 0 => ([], 0)
  | k + 1 => ((stF b k).1 ++ [(takeF (b.drop (stF b k).2)).1], (stF b k).2 + (takeF (b.drop (stF b k).2)).2.1)
def GoodF (b : List UInt8) (K : Nat) : Prop := ∀ j, j < K → (takeF (b.drop (stF b j).2)).2.2 = 0
def EndsF (b : List UInt8) (K : Nat) : Prop := GoodF b K ∧ (takeF (b.drop (stF b K).2)).2.2 ≠ 0
theorem stF_len (b : List UInt8) (k : Nat) : (stF b k).1.length = k := by
  induction k with
  | zero => rfl
  | succ k ih => simp [stF, ih]
theorem goodF_succ {b : List UInt8} {k : Nat} (h : GoodF b k) (h2 : (takeF (b.drop (stF b k).2)).2.2 = 0) : GoodF b (k + 1) := by
  intro j hj
  by_cases e : j = k
  · rw [e]; exact h2
  · exact h j (by omega)
theorem goodF_le {b : List UInt8} {k : Nat} (h : GoodF b k) : 5 * k ≤ (stF b k).2 ∧ (stF b k).2 ≤ b.length := by
  induction k with
  | zero => exact ⟨Nat.le_refl _, Nat.zero_le _⟩
  | succ k ih =>
    obtain ⟨h1, h2⟩ := ih (fun j hj => h j (by omega))
    obtain ⟨h3, h4, _⟩ := takeF_ok (h k (by omega))
    rw [List.length_drop] at h3
    constructor
    · show 5 * (k + 1) ≤ (stF b k).2 + _; omega
    · show (stF b k).2 + _ ≤ _; omega
theorem endsF_one {b : List UInt8} {j k : Nat} (h : EndsF b j) (h2 : EndsF b k) : j = k := by
  rcases Nat.lt_trichotomy j k with h3 | h3 | h3
  · exact absurd (h2.1 j h3) h.2
  · exact h3
  · exact absurd (h.1 k h3) h2.2
/-- Why it ended. -/
def endE3 (b : List UInt8) (K : Nat) : Int := if (stF b K).2 = b.length then 0 else (takeF (b.drop (stF b K).2)).2.2

def framesB (ls : List (List UInt8)) : List UInt8 := ls.flatMap oneF
theorem framesB_snoc (ls : List (List UInt8)) (l : List UInt8) : framesB (ls ++ [l]) = framesB ls ++ oneF l := by simp [framesB]
theorem framesB_take (ls : List (List UInt8)) (k : Nat) (hk : k < ls.length) : framesB (ls.take (k + 1)) = framesB (ls.take k) ++ oneF ls[k] := by
  rw [List.take_succ_eq_append_getElem hk, framesB_snoc]
theorem framesB_split (ls : List (List UInt8)) (k : Nat) : framesB ls = framesB (ls.take k) ++ framesB (ls.drop k) := by
  unfold framesB
  rw [← List.flatMap_append, List.take_append_drop]
theorem framesB_drop (ls : List (List UInt8)) (k : Nat) (hk : k < ls.length) : framesB (ls.drop k) = oneF ls[k] ++ framesB (ls.drop (k + 1)) := by
  rw [List.drop_eq_getElem_cons hk]
  unfold framesB
  rw [List.flatMap_cons]
/-- Rows that are put stand ahead of whatever: they are scanned. -/
theorem stF_frames (ls : List (List UInt8)) (hs : ∀ l ∈ ls, l.length ≤ 65536) (r : List UInt8) : ∀ k, k ≤ ls.length → stF (framesB ls ++ r) k = (ls.take k, (framesB (ls.take k)).length) ∧ GoodF (framesB ls ++ r) k := by
  intro k
  induction k with
  | zero => intro _; exact ⟨by simp [stF, framesB], fun j hj => absurd hj (by omega)⟩
  | succ k ih =>
    intro hk
    obtain ⟨h1, h2⟩ := ih (by omega)
    have e : (framesB ls ++ r).drop (framesB (ls.take k)).length = oneF ls[k] ++ (framesB (ls.drop (k + 1)) ++ r) := by
      rw [framesB_split ls k, List.append_assoc, List.drop_left, framesB_drop ls k (by omega), List.append_assoc]
    have ht : takeF ((framesB ls ++ r).drop (stF (framesB ls ++ r) k).2) = (ls[k], (oneF ls[k]).length, 0) := by
      rw [h1, e]
      exact takeF_one _ (hs _ (List.getElem_mem _)) _
    refine ⟨?_, goodF_succ h2 (by rw [ht])⟩
    rw [stF, ht, h1]
    simp only []
    rw [framesB_take ls k (by omega), List.length_append, ← List.take_succ_eq_append_getElem]
theorem endsF_frames (ls : List (List UInt8)) (hs : ∀ l ∈ ls, l.length ≤ 65536) (r : List UInt8) (hr : (takeF r).2.2 ≠ 0) : EndsF (framesB ls ++ r) ls.length ∧ stF (framesB ls ++ r) ls.length = (ls, (framesB ls).length) := by
  obtain ⟨h1, h2⟩ := stF_frames ls hs r ls.length (Nat.le_refl _)
  rw [List.take_length] at h1
  refine ⟨⟨h2, ?_⟩, h1⟩
  rw [h1]
  simp only [List.drop_left]
  exact hr
theorem takeF_nil : takeF [] = ([], 0, 10) := by
  have h : VarPlain.take [] = (0, 0, 10) := by unfold VarPlain.take VarPlain.lead; simp
  unfold takeF
  rw [h]
  rw [if_pos (by decide)]

/-- Rows that are put, cut somewhere within the next frame. -/
theorem cut_frames (ls : List (List UInt8)) (hs : ∀ l ∈ ls, l.length ≤ 65536) (k n : Nat) (hn : n ≤ ls.length) (h1 : (framesB (ls.take n)).length ≤ k) (h2 : k ≤ (framesB ls).length)
    (h3 : ∀ hn : n < ls.length, k < (framesB (ls.take n)).length + (oneF ls[n]).length) :
    EndsF ((framesB ls).take k) n ∧ stF ((framesB ls).take k) n = (ls.take n, (framesB (ls.take n)).length) ∧ endE3 ((framesB ls).take k) n = if (framesB (ls.take n)).length = k then 0 else 10 := by
  have hlen : ((framesB ls).take k).length = k := by rw [List.length_take]; omega
  have e : (framesB ls).take k = framesB (ls.take n) ++ (framesB (ls.drop n)).take (k - (framesB (ls.take n)).length) := by
    conv => lhs; rw [framesB_split ls n, List.take_append, List.take_of_length_le h1]
  have hr : takeF ((framesB (ls.drop n)).take (k - (framesB (ls.take n)).length)) = ([], 0, 10) := by
    by_cases hlt : n < ls.length
    · have := h3 hlt
      rw [framesB_drop ls n hlt, List.take_append_of_le_length (by omega)]
      exact takeF_cut _ (hs _ (List.getElem_mem _)) _ (by omega)
    · have : ls.drop n = [] := List.drop_eq_nil_of_le (by omega)
      rw [this]
      have e0 : framesB [] = [] := rfl
      rw [e0, List.take_nil, takeF_nil]
  have hln : (ls.take n).length = n := by rw [List.length_take]; omega
  obtain ⟨a1, a2⟩ := endsF_frames (ls.take n) (fun l hl => hs l (List.mem_of_mem_take hl)) _ (by rw [hr]; decide)
  rw [hln, ← e] at a1 a2
  refine ⟨a1, a2, ?_⟩
  unfold endE3
  rw [a2, hlen]
  simp only []
  split
  · rfl
  · conv => lhs; rw [e, List.drop_left, hr]
/-- Rows that are put, of one of which the row, or the sum, was turned. -/
theorem turned_frames (ls : List (List UInt8)) (hs : ∀ l ∈ ls, l.length ≤ 65536) (l t r : List UInt8) (h : l.length ≤ 65536) (ht : t.length = l.length + 4) (hn : CrcPlain.tail (CrcPlain.of (VarPlain.num l.length ++ t.take l.length)) ≠ t.drop l.length) :
    EndsF (framesB ls ++ (VarPlain.num l.length ++ t ++ r)) ls.length ∧ stF (framesB ls ++ (VarPlain.num l.length ++ t ++ r)) ls.length = (ls, (framesB ls).length) ∧ endE3 (framesB ls ++ (VarPlain.num l.length ++ t ++ r)) ls.length = 12 := by
  have hr := takeF_turned l t r h ht hn
  obtain ⟨a1, a2⟩ := endsF_frames ls hs _ (by rw [hr]; decide)
  refine ⟨a1, a2, ?_⟩
  unfold endE3
  rw [a2]
  simp only []
  rw [if_neg (by rw [List.length_append, List.length_append, List.length_append, ht]; omega), List.drop_left, hr]

/-- A bit that is turned within bytes that stand between others. -/
theorem flip_mid (p m r : List UInt8) (q : Nat) (hq : q < 8 * m.length) : CrcPlain.flip (p ++ m ++ r) (8 * p.length + q) = p ++ CrcPlain.flip m q ++ r := by
  have h1 : (8 * p.length + q) / 8 = p.length + q / 8 := by omega
  have h2 : (8 * p.length + q) % 8 = q % 8 := by omega
  have h3 : q / 8 < m.length := by omega
  unfold CrcPlain.flip
  rw [h1, h2]
  have e1 : (p ++ m ++ r).getD (p.length + q / 8) 0 = m.getD (q / 8) 0 := by
    have e0 : p.length + q / 8 - p.length = q / 8 := by omega
    rw [List.getD_eq_getElem?_getD, List.getD_eq_getElem?_getD, List.append_assoc, List.getElem?_append_right (by omega), e0, List.getElem?_append_left (by omega)]
  rw [e1, List.append_assoc, List.set_append_right _ _ (by omega), List.append_assoc, List.set_append_left _ _ (by omega)]
  congr 3
  omega
theorem turned_mid (p m r : List UInt8) (bit : Nat) (t : BitVec 32) (hb : bit + 32 ≤ 8 * m.length) : ∀ i, i ≤ 32 → CrcPlain.turned (p ++ m ++ r) (8 * p.length + bit) t i = p ++ CrcPlain.turned m bit t i ++ r := by
  intro i
  induction i with
  | zero => intro _; rfl
  | succ i ih =>
    intro hi
    rw [CrcPlain.turned, CrcPlain.turned, ih (by omega)]
    split
    · rw [Nat.add_assoc]
      exact flip_mid _ _ _ _ (by rw [CrcPlain.turned_length]; omega)
    · rfl
theorem turned_row (l : List UInt8) (bit : Nat) (t : BitVec 32) (ht : t ≠ 0#32) (hb : bit + 32 ≤ 8 * (l.length + 4)) :
    CrcPlain.tail (CrcPlain.of (VarPlain.num l.length ++ (CrcPlain.turned (l ++ CrcPlain.tail (CrcPlain.of (headed l))) bit t 32).take l.length)) ≠ (CrcPlain.turned (l ++ CrcPlain.tail (CrcPlain.of (headed l))) bit t 32).drop l.length := by
  have h := CrcPlain.turned_ne (headed l) (8 * (VarPlain.num l.length).length + bit) t ht (by rw [headed_len]; omega)
  have e := turned_mid (VarPlain.num l.length) (l ++ CrcPlain.tail (CrcPlain.of (headed l))) [] bit t (by rw [List.length_append, tail_len]; omega) 32 (Nat.le_refl _)
  have e2 : VarPlain.num l.length ++ (l ++ CrcPlain.tail (CrcPlain.of (headed l))) ++ [] = headed l ++ CrcPlain.tail (CrcPlain.of (headed l)) := by unfold headed; simp
  rw [e2, List.append_nil] at e
  rw [e, headed_len, List.take_append, List.take_of_length_le (by omega), List.drop_append, List.drop_of_length_le (by omega)] at h
  have e3 : (VarPlain.num l.length).length + l.length - (VarPlain.num l.length).length = l.length := by omega
  rw [e3, List.nil_append] at h
  exact h
/-- The same, in all bytes at once. -/
theorem turned_scan (ls : List (List UInt8)) (hs : ∀ l ∈ ls, l.length ≤ 65536) (k : Nat) (hk : k < ls.length) (bit : Nat) (t : BitVec 32) (ht : t ≠ 0#32) (hb : bit + 32 ≤ 8 * (ls[k].length + 4)) (b : List UInt8)
    (hbb : b = CrcPlain.turned (framesB ls) (8 * ((framesB (ls.take k)).length + (VarPlain.num ls[k].length).length) + bit) t 32) :
    EndsF b k ∧ stF b k = (ls.take k, (framesB (ls.take k)).length) ∧ endE3 b k = 12 := by
  have e1 : framesB ls = (framesB (ls.take k) ++ VarPlain.num ls[k].length) ++ (ls[k] ++ CrcPlain.tail (CrcPlain.of (headed ls[k]))) ++ framesB (ls.drop (k + 1)) := by
    rw [framesB_split ls k, framesB_drop ls k hk]
    unfold oneF headed
    simp
  have e2 := turned_mid (framesB (ls.take k) ++ VarPlain.num ls[k].length) (ls[k] ++ CrcPlain.tail (CrcPlain.of (headed ls[k]))) (framesB (ls.drop (k + 1))) bit t (by rw [List.length_append, tail_len]; omega) 32 (Nat.le_refl _)
  rw [← e1, List.length_append] at e2
  rw [e2, List.append_assoc, List.append_assoc, ← List.append_assoc (VarPlain.num _)] at hbb
  have hln : (ls.take k).length = k := by rw [List.length_take]; omega
  have h := turned_frames (ls.take k) (fun l hl => hs l (List.mem_of_mem_take hl)) ls[k] _ (framesB (ls.drop (k + 1))) (hs _ (List.getElem_mem _)) (by rw [CrcPlain.turned_length, List.length_append, tail_len]) (turned_row ls[k] bit t ht hb)
  rw [hln, ← hbb] at h
  exact h

end Go.Proofs.Ytgbnfipbedlmhaa
