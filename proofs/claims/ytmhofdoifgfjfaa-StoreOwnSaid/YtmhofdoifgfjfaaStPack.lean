/-
  State: Pack. Conditions: as each contract says.
-/
import Derived.Test.YtmhofdoifgfjfaaStConv
set_option linter.unusedVariables false
set_option maxRecDepth 100000
namespace Go.Proofs.Ytmhofdoifgfjfaa
open Go.RowKit Base

set_option maxHeartbeats 1000000 in
theorem pack_calls (W : World) (vs : List Value) (a : StateD) (h : PkArg W vs a) (ha : StateP a) (hl : (stateC.enc a).length ≤ 100000000) :
    Calls Try.prog 18 #[.agg vs.toArray] W fun r W' => ∃ u, r = .returned u ∧ W'.ownsRow W.heap.size 5 1 u (stateC.enc a).length ((stateC.enc a).map bv) ∧ Below W.heap.size W W' := by
  have hb1 := (Below.refl W.heap.size W).alloc (Nat.le_refl _) (.cells vs.toArray stT)
  have hb2 := hb1.alloc hb1.size (.cells #[.slice none 0 0, .pointer none, .int .i64 0] wireT)
  have hs1 : (W.alloc (.cells vs.toArray stT)).heap.size = W.heap.size + 1 := World.size_alloc _ _
  have hcut : Cut W.heap.size vs stT ((W.alloc (.cells vs.toArray stT)).alloc (.cells #[.slice none 0 0, .pointer none, .int .i64 0] wireT)) := by
    refine (Below.heap_alloc _ _ _ (by rw [hs1]; omega)).trans (heap_alloc_new W _)
  have hpk : PkI (W.heap.size + 1) (.slice none 0 0) [] ((W.alloc (.cells vs.toArray stT)).alloc (.cells #[.slice none 0 0, .pointer none, .int .i64 0] wireT)) := by
    have := heap_alloc_new (W.alloc (.cells vs.toArray stT)) (.cells #[.slice none 0 0, .pointer none, .int .i64 0] wireT)
    rw [hs1] at this
    exact ⟨this, World.ownsRow_nil _ _ _ _⟩
  have HR := Lib.hid (h.2 _ W.heap.size (W.heap.size + 1) hb2 (Nat.le_refl _) (Nat.lt_succ_self _) hcut)
  have HP := Lib.hid hpk
  have HA := Lib.hid ha
  have HL := Lib.hid hl
  have HB := Lib.hid hb2
  have HN := Lib.hid h.1
  clear h ha hl hpk hcut hb1 hb2 hs1
  go_enter Try.func18, Try.ntmps18
  go_wp2_with fail
  refine (all_pk _ (W.heap.size + 1) (.slice none 0 0) [] W.heap.size 0 a HP.out HA.out HR.out HL.out).mono ?_
  rintro e w1 ⟨rfl, v, hp, hu⟩
  have HB1 := Lib.hid (HB.out.trans ((hu.low HP.out.hi (Nat.le_succ _) (Nat.le_of_lt (Nat.lt_of_succ_lt HP.out.lt))).mono (Nat.le_refl _)))
  have HP1 := Lib.hid hp
  obtain ⟨⟨c0, c1, c2⟩, f0, f1, f2⟩ := three hp.k
  clear hp hu
  go_wp2_with fail
  go_ret
  exact ⟨_, rfl, own_base HP1.out.own (by omega), HB1.out⟩
end Go.Proofs.Ytmhofdoifgfjfaa
