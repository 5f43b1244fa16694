/-
  Syntax: what any script's tree is like, plainly; rows of numbers that are counted up. Conditions: none.
-/
import Derived.Test.YtiklkhbfilbpeaaGreatDoorSkGSyG
import Derived.Test.YtiklkhbfilbpeaaGreatDoorSkSySmall
import Derived.Laws.MakeOwn
set_option linter.unusedVariables false
set_option linter.unusedSimpArgs false
set_option maxRecDepth 100000
namespace Go.Proofs.YtiklkhbfilbpeaaGreatDoor.Sx
open Go.RowKit Base Lx Sy
theorem parse_small {s : Nm} {l : List Nd} (hs : s.length ≤ 4096) (h : parseM s = .ok l) : ∀ n ∈ l, n.k = 1 → n.ws.length + n.rs.length ≤ 100000 := by
  unfold parseM at h
  split at h
  · cases h
  · rename_i L hL
    have hlen := ((all_toks hs).1 L hL).2
    split at h
    · cases h
    · rename_i x hx
      have h1 := list_hd (nest_hd 40) true (s := ([], L)) ⟨by simp; omega, fun n hn => absurd hn List.not_mem_nil⟩ x hx
      split at h
      · cases h
      · injection h with h
        subst h
        exact h1.1.small
structure Good (l : List Nd) : Prop where
  small : ∀ n ∈ l, n.k = 1 → n.ws.length + n.rs.length ≤ 100000
  kids : ∀ (j : Nat) (h : j < l.length), ∀ k ∈ l[j].ks, k < j
  fits : ∀ n ∈ l, Fits n
  one : ∀ i, i < l.length → (l.flatMap (·.ks)).count i = if i + 1 = l.length then 0 else 1
  last : ∀ (i : Nat) (h : i < l.length), i + 1 = l.length → l[i].k = 5
theorem good_parse {s : Nm} {l : List Nd} (hs : s.length ≤ 4096) (h : parseM s = .ok l) : Good l := by
  have hsm := parse_small hs h
  obtain ⟨ns, n, rfl, hn, hi⟩ := parse_keep h
  refine ⟨hsm, hi.kids, hi.fits, fun i hl => ?_, fun i hl he => ?_⟩
  · have h1 := hi.one i
    unfold cnt at h1
    rw [if_pos hl] at h1
    rw [List.count_flatMap]
    have h2 : ((ns ++ [n]).map (List.count i ∘ fun x => x.ks)).sum = ((ns ++ [n]).map fun n => n.ks.count i).sum := rfl
    rw [h2]
    by_cases he : i = ns.length
    · subst he
      rw [if_pos (by simp)]
      rw [List.count_singleton, if_pos (by simp)] at h1
      omega
    · rw [if_neg (by simp; omega)]
      rw [List.count_singleton, if_neg (by simp; omega)] at h1
      omega
  · have : i = ns.length := by simp at he; omega
    subst this
    simp [hn]
theorem parse_len {s : Nm} {l : List Nd} (hs : s.length ≤ 4096) (h : parseM s = .ok l) : l.length ≤ 50000 := by
  unfold parseM at h
  split at h
  · cases h
  · rename_i L hL
    have hlen := ((all_toks hs).1 L hL).2
    split at h
    · cases h
    · rename_i x hx
      have h1 := list_cost (nest_cost 40) true ([], L) x hx
      split at h
      · cases h
      · injection h with h
        subst h
        unfold ph at h1
        simp only [List.length_nil] at h1
        omega
/-- Numbers that are counted up. -/
def hadA (K : List Nat) (L : Nat) : Array Value := ((List.range L).map fun q => Value.int .i64 (K.count q : Int)).toArray
theorem hadA_get (K : List Nat) {L q : Nat} (h : q < L) : (hadA K L)[q]? = some (.int .i64 (K.count q : Int)) := by
  unfold hadA
  rw [List.getElem?_toArray, List.getElem?_map, List.getElem?_range h]
  rfl
theorem hadA_set (K : List Nat) (L k : Nat) : (hadA K L).setIfInBounds k (.int .i64 ((K.count k : Int) + 1)) = hadA (K ++ [k]) L := by
  unfold hadA
  rw [List.setIfInBounds_toArray]
  congr 1
  apply List.ext_getElem?
  intro q
  rw [List.getElem?_set]
  by_cases hq : q < L
  · by_cases hk : k = q
    · subst hk
      rw [if_pos rfl, if_pos (by simpa using hq), List.getElem?_map, List.getElem?_range hq]
      simp
    · rw [if_neg hk, List.getElem?_map, List.getElem?_map, List.getElem?_range hq]
      simp [List.count_append, List.count_singleton, hk]
  · rw [List.getElem?_eq_none (l := List.map _ (List.range L)) (by simp; omega)]
    split
    · split
      · rename_i h1 h2; simp at h2; omega
      · exact (List.getElem?_eq_none (by simp; omega)).symm
    · exact (List.getElem?_eq_none (by simp; omega)).symm
structure HadAt (W : World) (H : Nat) (K : List Nat) (L : Nat) : Prop where
  box : W.heap[H]? = some (.cells (hadA K L) inT)
theorem HadAt.get {W : World} {H : Nat} {K : List Nat} {L q : Nat} (h : HadAt W H K L) (hq : q < L) : W.cell? ⟨H, q, none⟩ = some (.int .i64 (K.count q : Int)) ∧ W.frozen? ⟨H, q, none⟩ = false := by
  have := hadA_get K hq
  unfold World.cell? World.frozen?
  rw [h.box]
  exact ⟨this, by simp⟩
theorem HadAt.set {W : World} {H : Nat} {K : List Nat} {L : Nat} (h : HadAt W H K L) (k : Nat) : HadAt (W.setCell ⟨H, k, none⟩ (.int .i64 ((K.count k : Int) + 1))) H (K ++ [k]) L ∧ W.grownBy (W.setCell ⟨H, k, none⟩ (.int .i64 ((K.count k : Int) + 1))) (some H) := by
  refine ⟨⟨?_⟩, Sl.setCells_grown H [_] k W⟩
  rw [← hadA_set]
  exact heap_setCell_same W H k _ _ _ h.box
theorem HadAt.below {W W' : World} {H : Nat} {K : List Nat} {L : Nat} (h : HadAt W H K L) (hb : Below W.heap.size W W') : HadAt W' H K L := ⟨(hb.block H (Array.getElem?_eq_some_iff.1 h.box).1).trans h.box⟩
end Go.Proofs.YtiklkhbfilbpeaaGreatDoor.Sx
