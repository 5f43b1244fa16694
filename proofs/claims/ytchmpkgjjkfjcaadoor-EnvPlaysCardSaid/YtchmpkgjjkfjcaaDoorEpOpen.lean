/-
  EnvPlays: the texts that are asked for, opened, with what the form's reach says of them. Conditions: as each law says.
-/
import Derived.Test.YtchmpkgjjkfjcaaDoorEnOpen
set_option linter.unusedVariables false
set_option maxRecDepth 100000
namespace Go.Proofs.YtchmpkgjjkfjcaaDoor.EnOpen
open Go.RowKit Base Opn
open Go.ChangeShapes Go.WideShapes Go.ChangeAt
section
variable {H : Type} {enc : TypeId × Value → H} {w : World}
theorem weights_strs (e : TypeId) (l : List ByteArray) : DataW.weightsAll (H := H) Tryd.prog e (strs l) = l.map fun s => s.size := by
  induction l with
  | nil => rfl
  | cons s r ih =>
    have h1 : s.data.toList.length = s.size := by rw [Array.length_toList]; rfl
    simp only [strs, List.map_cons, DataW.weightsAll, DataW.weights, h1] at ih ⊢
    rw [ih]
    rfl
theorem asks_of {a : Option Addr} {n cap : Nat} {d : DataW H} {p : List MemPlace} (h : DataW.Trod enc Tryd.prog w 0 (fun _ => true) true 26 (.slice a n cap) d p) (hw : (d.weights Tryd.prog 26).all (· ≤ reachBytes) = true) :
    ∃ tl : List Nm, Sts w a n cap tl ∧ ∀ s ∈ tl, s.length ≤ 281474976710656 := by
  obtain ⟨fuel, hf⟩ := h
  rcases open_strings Tryd.underlying26 Tryd.underlying9 cellsStr hf with ⟨hcs, hx⟩ | ⟨x, len, c, ss, hcs, _, hl, hm, hz, hx, hcell, hws⟩
  · simp [Value.cells] at hcs
    obtain ⟨rfl, rfl, rfl⟩ := hcs
    exact ⟨[], RowOf.nil, by simp⟩
  · simp [Value.cells] at hcs
    obtain ⟨rfl, rfl, rfl⟩ := hcs
    have hz' : ss.length = cap := by simpa using hz
    have hd : d = .slice (strs (ss.take n)) (strs (ss.drop n)) := congrArg Prod.fst hx
    refine ⟨(ss.take n).map fun s => s.data.toList, ⟨by simp; omega, hl, hm, x.block, x.off, ?_, fun k hk j u hu => ?_⟩, ?_⟩
    · rcases Nat.eq_zero_or_pos n with h0 | h0
      · exact .inl h0
      · right
        have h1 := hcell 0 (by omega)
        have hsp := World.cell?_spot h1
        obtain ⟨b, o, sp⟩ := x
        have : sp = none := by simpa [Addr.add] using hsp
        subst this
        rfl
    · have hj : j = 0 := by
        have := (List.getElem?_eq_some_iff.1 hu).1
        simp [stC] at this
        exact this
      subst hj
      cases hu
      have hk' : k < n := by simp at hk; omega
      have h1 := hcell k (by omega)
      have h0 := hcell 0 (by omega)
      have hsp := World.cell?_spot h0
      obtain ⟨b, o, sp⟩ := x
      have : sp = none := by simpa [Addr.add] using hsp
      subst this
      rw [Addr.add_lit] at h1
      simp only [Nat.mul_one, Nat.add_zero]
      rw [h1]
      have hks : k < ss.length := by omega
      simp [List.getD, hks, str_of]
    · intro s hs
      obtain ⟨t, ht, rfl⟩ := List.mem_map.1 hs
      subst hd
      unfold DataW.weights at hw
      rw [Tryd.underlying26] at hw
      simp only [weights_strs, List.all_cons, List.all_append, Bool.and_eq_true, List.all_eq_true] at hw
      have h2 := hw.2.1 t.size (List.mem_map.2 ⟨t, ht, rfl⟩)
      have h3 : t.data.toList.length = t.size := by rw [Array.length_toList]; rfl
      rw [h3]
      have h4 : t.size ≤ reachBytes := by simpa using h2
      exact Nat.le_trans h4 (by decide)
end
end Go.Proofs.YtchmpkgjjkfjcaaDoor.EnOpen
