/-
  What came in, opened: whatever slice reads as a list of what its elements read as. No program stands here. Conditions: as each law says.
-/
import Derived.Test.YtiklkhbfilbpeaaGreatDoorSkBase
import Derived.OpenShut
import Derived.ChangeOld
import Derived.Below
import Derived.ChangeSame
import Derived.SliceStrings
set_option linter.unusedVariables false
namespace Go.Proofs.YtiklkhbfilbpeaaGreatDoor.Opn
open Go.ChangeShapes Go.WideShapes Go.ChangeAt Go.RowKit Base
section
variable {H : Type} {enc : TypeId × Value → H} {P : Program} {w : World}
/-- The cells that read as something, at an address whose spot is none. -/
theorem cells_at {ad : Addr} {n : Nat} {cs : List Value} (h : w.cells? 0 ad n = some cs) (hn : 0 < n) : ad.spot = none ∧ cs.length = n ∧ ∀ j (hj : j < cs.length), w.cell? ⟨ad.block, ad.off + j, none⟩ = some cs[j] := by
  obtain ⟨h1, h2, h3⟩ := World.cells?_some h
  have hl : cs.length = n := by first | exact h2 | omega
  have h0 := h3 0 (by omega)
  have hs : ad.spot = none := by
    have e : ad.add 0 = ad := by simp [Addr.add]
    rw [e] at h0
    have : ∃ v, w.cell? ad = some v := ⟨cs[0]'(by omega), by rw [h0]; simp⟩
    obtain ⟨v, hv⟩ := this
    exact World.cell?_spot hv
  refine ⟨hs, hl, fun j hj => ?_⟩
  have hj' := h3 j (by omega)
  obtain ⟨b, o, sp⟩ := ad
  simp only at hs
  subst hs
  rw [Addr.add_lit] at hj'
  rw [hj']
  simp [hj]
end
end Go.Proofs.YtiklkhbfilbpeaaGreatDoor.Opn
