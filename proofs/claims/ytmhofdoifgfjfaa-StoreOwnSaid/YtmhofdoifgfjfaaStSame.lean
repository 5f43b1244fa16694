/-
  State: Same. Conditions: as each contract says.
-/
import Derived.Test.YtmhofdoifgfjfaaStUnpack
import Derived.Test.YtmhofdoifgfjfaaFrWalks1
set_option linter.unusedVariables false
set_option maxRecDepth 100000
namespace Go.Proofs.Ytmhofdoifgfjfaa
open Go.RowKit Base

set_option maxHeartbeats 2000000 in
theorem same_calls (W : World) (vs us : List Value) (da db : StateD) (h1 : PkArg W vs da) (h2 : PkArg W us db) (ha : StateP da) (hb : StateP db) (hl : (stateC.enc da).length ≤ 100000000) (hm : (stateC.enc db).length ≤ 100000000) :
    Calls Try.prog 15 #[.agg vs.toArray, .agg us.toArray] W fun r W' => r = .returned (.bool (decide (stateC.enc da = stateC.enc db))) ∧ Below W.heap.size W W' := by
  obtain ⟨w2, hw2, hx, hy, hb2⟩ : ∃ w2, (W.alloc (.cells vs.toArray stT)).alloc (.cells us.toArray stT) = w2 ∧ Cut W.heap.size vs stT w2 ∧ Cut (W.heap.size + 1) us stT w2 ∧ Below W.heap.size W w2 := by
    refine ⟨_, rfl, ?_, ?_, ?_⟩
    · exact (Below.heap_alloc _ _ _ (by rw [World.size_alloc]; omega)).trans (heap_alloc_new W _)
    · have := heap_alloc_new (W.alloc (.cells vs.toArray stT)) (.cells us.toArray stT)
      rw [World.size_alloc] at this
      exact this
    · have h := (Below.refl W.heap.size W).alloc (Nat.le_refl _) (.cells vs.toArray stT)
      exact h.alloc h.size _
  have HX := Lib.hid hx
  have HY := Lib.hid hy
  have HB2 := Lib.hid hb2
  have HW := Lib.hid hw2
  have H1 := Lib.hid (h1.below hb2)
  have H2 := Lib.hid (h2.below hb2)
  have HA := Lib.hid ha
  have HBb := Lib.hid hb
  have HL := Lib.hid hl
  have HM := Lib.hid hm
  clear h1 h2 ha hb hl hm hx hy hb2 hw2
  go_enter Try.func15, Try.ntmps15
  go_upto_region 1 with fail
  rw [HW.out]
  refine Rg.wp_region_rgl [] [Rg.Is (.agg vs.toArray), (fun v w => ∃ a1 c1, v = .slice a1 (stateC.enc da).length c1 ∧ Bytes w a1 (stateC.enc da).length c1 (stateC.enc da)), Rg.Is (.agg us.toArray), (fun v w => ∃ a1 c1, v = .slice a1 (stateC.enc db).length c1 ∧ Bytes w a1 (stateC.enc db).length c1 (stateC.enc db)), Rg.Is (.bool (decide (stateC.enc da = stateC.enc db))), Rg.Is (.bool (decide (stateC.enc da = stateC.enc db)))] (by kernel_rfl) (by kernel_rfl) (by kernel_rfl) ⟨Rg.st_is _, fun v w w' h hb => h.elim fun a1 h => h.elim fun c1 h => ⟨a1, c1, h.1, h.2.below stable_byteAt hb⟩, Rg.st_is _, fun v w w' h hb => h.elim fun a1 h => h.elim fun c1 h => ⟨a1, c1, h.1, h.2.below stable_byteAt hb⟩, Rg.st_is _, Rg.st_is _, trivial⟩ ⟨rfl, rfl, rfl, rfl, rfl, rfl, trivial⟩ ⟨?_, ?_, ?_, ?_, ?_, ?_, trivial⟩ ?_
  · intro _ a wx hb hk
    have h2 : a.eval (.tmp 2) = .pointer (some ⟨W.heap.size, 0, none⟩) := Eq.mp (by kernel_rfl) (hk 2 (by decide))
    exact Rg.does_load _ _ h2 (load_state ((hb.block _ HX.out.lt).trans HX.out) H1.out.1) ⟨Below.refl _ _, rfl⟩
  · intro _ a wx hb hk
    have h5 : a.eval (.tmp 5) = .agg vs.toArray := Eq.mp (by kernel_rfl) (hk 5 (by decide))
    refine Rg.does_func #[.agg vs.toArray] Try.func18 (by kernel_rfl) (by kernel_rfl) (by simp [h5]) (pack_calls wx vs da (H1.out.below hb) HA.out HL.out) ?_
    rintro e w' ⟨u, rfl, hown, hb'⟩
    obtain ⟨a1, c1, rfl, hv⟩ := ownsRow_bytes hown
    exact ⟨_, rfl, hb', a1, c1, rfl, hv⟩
  · intro _ a wx hb hk
    have h3 : a.eval (.tmp 3) = .pointer (some ⟨W.heap.size + 1, 0, none⟩) := Eq.mp (by kernel_rfl) (hk 3 (by decide))
    exact Rg.does_load _ _ h3 (load_state ((hb.block _ HY.out.lt).trans HY.out) H2.out.1) ⟨Below.refl _ _, rfl⟩
  · intro _ a wx hb hk
    have h7 : a.eval (.tmp 7) = .agg us.toArray := Eq.mp (by kernel_rfl) (hk 7 (by decide))
    refine Rg.does_func #[.agg us.toArray] Try.func18 (by kernel_rfl) (by kernel_rfl) (by simp [h7]) (pack_calls wx us db (H2.out.below hb) HBb.out HM.out) ?_
    rintro e w' ⟨u, rfl, hown, hb'⟩
    obtain ⟨a1, c1, rfl, hv⟩ := ownsRow_bytes hown
    exact ⟨_, rfl, hb', a1, c1, rfl, hv⟩
  · intro _ a wx hb hk
    have h6 : (fun v w => ∃ a1 c1, v = .slice a1 (stateC.enc da).length c1 ∧ Bytes w a1 (stateC.enc da).length c1 (stateC.enc da)) (a.eval (.tmp 6)) wx := Eq.mp (by kernel_rfl) (hk 6 (by decide))
    have h8 : (fun v w => ∃ a1 c1, v = .slice a1 (stateC.enc db).length c1 ∧ Bytes w a1 (stateC.enc db).length c1 (stateC.enc db)) (a.eval (.tmp 8)) wx := Eq.mp (by kernel_rfl) (hk 8 (by decide))
    obtain ⟨a1, c1, hu1, hv1⟩ := h6
    obtain ⟨a2, c2, hu2, hv2⟩ := h8
    refine Rg.does_func #[.slice a1 (stateC.enc da).length c1, .slice a2 (stateC.enc db).length c2] Try.func22 (by kernel_rfl) (by kernel_rfl) (by simp [hu1, hu2]) (equal_bytes_calls wx a1 a2 _ _ c1 c2 _ _ hv1 hv2) ?_
    rintro e w' ⟨rfl, hb'⟩
    exact ⟨_, rfl, hb', rfl⟩
  · intro _ a wx hb hk
    have h9 : a.eval (.tmp 9) = .bool (decide (stateC.enc da = stateC.enc db)) := Eq.mp (by kernel_rfl) (hk 9 (by decide))
    exact Rg.does_assign ⟨Below.refl _ _, h9⟩
  intro vals wD hbD hL
  obtain ⟨g0, g1, g2, g3, g4, g5, _⟩ := hL
  have g5' : vals 5 = .bool (decide (stateC.enc da = stateC.enc db)) := g5
  have HBD := Lib.hid hbD
  clear g0 g1 g2 g3 g4 g5 hbD
  simp only [Rg.putAll, List.setIfInBounds_toArray, List.set_cons_succ, List.set_cons_zero, g5']
  go_wp2_with fail
  go_ret
  exact ⟨rfl, HB2.out.trans (HBD.out.mono HB2.out.size)⟩
end Go.Proofs.Ytmhofdoifgfjfaa
