/-
  EnvArgs: the plain laws: what is joined, and what is got of arguments. Conditions: as each law says.
-/
import Derived.Test.YtchmpkgjjkfjcaaDoorEnSets
set_option linter.unusedVariables false
set_option maxRecDepth 100000
namespace Go.Proofs.YtchmpkgjjkfjcaaDoor
open Go.RowKit Base

def wantB (A : List Nm) (k i : Nat) (s : Nm) : Nm := Lib.join ((A.drop k).take (i - k)) (s.take 1)
theorem join_snoc (l : List Nm) (x sep : Nm) : Lib.join (l ++ [x]) sep = if l = [] then x else Lib.join l sep ++ sep ++ x := by
  cases l with
  | nil => rw [if_pos rfl]; exact Lib.join_one x sep
  | cons y r =>
    rw [if_neg (by simp), List.cons_append, Lib.join_cons, Lib.join_cons]
    simp [Lib.joinTail, List.append_assoc]
theorem want_start (A : List Nm) (k : Nat) (s : Nm) : wantB A k k s = [] := by
  unfold wantB
  rw [Nat.sub_self, List.take_zero]
  rfl
theorem want_step {A : List Nm} {k i : Nat} {s : Nm} (hk : k ≤ i) (h : i < A.length) : wantB A k (i + 1) s = (if k < i then wantB A k i s ++ s.take 1 else []) ++ A[i] := by
  unfold wantB
  have e : i + 1 - k = (i - k) + 1 := by omega
  rw [e, List.take_add_one, List.getElem?_drop, show k + (i - k) = i by omega, List.getElem?_eq_getElem h, Option.toList_some, join_snoc]
  by_cases hlt : k < i
  · rw [if_neg (fun e => by have := congrArg List.length e; simp at this; omega), if_pos hlt]
  · obtain rfl : i = k := by omega
    simp
theorem want_end {A : List Nm} {k : Nat} {s : Nm} : wantB A k A.length s = Lib.join (A.drop k) (s.take 1) := by
  unfold wantB
  rw [List.take_of_length_le (by simp)]
def tot (A : List Nm) : Nat := (A.map fun s => s.length + 1).sum
theorem tot_eq (A : List Nm) : tot A = Lib.lens A + A.length := by
  unfold tot Lib.lens
  induction A with
  | nil => rfl
  | cons x r ih => simp only [List.map_cons, List.sum_cons, List.length_cons] at ih ⊢; omega
theorem join_len (l : List Nm) {sep : Nm} (hs : sep.length ≤ 1) : (Lib.join l sep).length ≤ tot l := by
  cases l with
  | nil => rw [Lib.join_nil]; exact Nat.zero_le _
  | cons x r =>
    rw [Lib.join_cons, List.length_append, Lib.joinTail_length, tot_eq]
    have h1 : sep.length * r.length ≤ 1 * r.length := Nat.mul_le_mul_right _ hs
    have h2 : Lib.lens (x :: r) = x.length + Lib.lens r := by simp [Lib.lens]
    rw [List.length_cons]
    omega
theorem tot_append (A B : List Nm) : tot (A ++ B) = tot A + tot B := by
  unfold tot
  rw [List.map_append, List.sum_append]
theorem tot_drop (A : List Nm) (k : Nat) : tot (A.drop k) ≤ tot A := by
  have h := tot_append (A.take k) (A.drop k)
  rw [List.take_append_drop] at h
  omega
theorem tot_take (A : List Nm) (k : Nat) : tot (A.take k) ≤ tot A := by
  have h := tot_append (A.take k) (A.drop k)
  rw [List.take_append_drop] at h
  omega
theorem tot_at {A : List Nm} {i : Nat} (h : i < A.length) : A[i].length + 1 ≤ tot A := by
  have h2 := tot_append (A.take i) (A.drop i)
  rw [List.take_append_drop, List.drop_eq_getElem_cons h] at h2
  have h3 : tot (A[i] :: A.drop (i + 1)) = A[i].length + 1 + tot (A.drop (i + 1)) := by unfold tot; rw [List.map_cons, List.sum_cons]
  omega
theorem take1_len (s : Nm) : (s.take 1).length ≤ 1 := by rw [List.length_take]; omega
theorem want_len (A : List Nm) (k i : Nat) (s : Nm) : (wantB A k i s).length ≤ tot A :=
  Nat.le_trans (join_len _ (take1_len s)) (Nat.le_trans (tot_take _ _) (tot_drop _ _))
theorem set_ifs (ifs : Nm) : setB [73, 70, 83] ifs [] = [(ifsN, ifs)] := by
  unfold setB
  rw [if_pos (show nameB [73, 70, 83] = true from ifs_name)]
  rfl
theorem ifs_one (ifs : Nm) : ifsB [(ifsN, ifs)] = ifs := by
  unfold ifsB
  rw [getB_cons, if_pos rfl]
  rfl
theorem rises_one (p : Vr) : Rises [p] := List.pairwise_singleton _ _
theorem got_star (ifs : Nm) (B : List Nm) : gotB [(ifsN, ifs)] B 0 [] [42] = if B = [] then none else some (Lib.join B (ifs.take 1)) := by
  unfold gotB
  rw [ifs_one]
  rfl
theorem atoi_1 : Lib.atoiAll [49] = .ok 1 := by rfl
theorem atoi_15 : Lib.atoiAll [49, 53] = .ok 15 := by rfl
theorem got_one (l : List Vr) (B : List Nm) : gotB l B 0 [] [49] = B[0]? := by
  have h : gotB l B 0 [] [49] = argP B [49] := by unfold gotB; rfl
  rw [h]
  unfold argP
  rw [if_neg (by decide), atoi_1]
  show (if numB [49] 1 B.length then B[((1 : Int) - 1).toNat]? else none) = _
  cases B with
  | nil => rw [if_neg (by unfold numB; intro h; have := h.2.2.2; simp at this)]; rfl
  | cons x r => rw [if_pos (by unfold numB; refine ⟨by decide, by decide, by decide, ?_⟩; simp only [List.length_cons]; omega)]; rfl
theorem got_15 (l : List Vr) (B : List Nm) (hB : B.length ≤ 12) : gotB l B 0 [] [49, 53] = none := by
  have h : gotB l B 0 [] [49, 53] = argP B [49, 53] := by unfold gotB; rfl
  rw [h]
  unfold argP
  rw [if_neg (by decide), atoi_15]
  show (if numB [49, 53] 15 B.length then B[((15 : Int) - 1).toNat]? else none) = _
  rw [if_neg]
  unfold numB
  intro h
  have := h.2.2.2
  omega
end Go.Proofs.YtchmpkgjjkfjcaaDoor
