/-
  Word: the statement on how parts stand. Conditions: the library's table lies where it was laid.
-/
import Derived.Test.YtfjkgeeaeolkhaaDoorWoTidy
set_option linter.unusedVariables false
set_option linter.unusedSimpArgs false
set_option maxRecDepth 100000
namespace Go.Proofs.YtfjkgeeaeolkhaaDoor
open Go.RowKit Base Wo

set_option maxHeartbeats 4000000 in
theorem parts_calls (W : World) (s : Nm) (hO : OpsT W) : Calls Tryd.prog 4 #[.string (str s)] W fun r W' => r = .returned (.bool true) ∧ Below W.heap.size W W' := by
  have HO := Lib.hid hO
  clear hO
  go_enter Tryd.func4, Tryd.ntmps4
  go_wp2_with fail
  refine (awake_calls W HO.out).mono ?_
  rintro r w1 ⟨rfl, hb⟩
  have HB1 := Lib.hid hb
  have HO1 := Lib.hid (HO.out.below hb)
  clear hb
  by_cases hl : s.length ≤ 500
  case neg =>
    have a3 : decide ((500 : Int) < ((str s).size : Int)) = true := by rw [str_size]; exact decide_eq_true (by omega)
    have a4 : 500 < (str s).size := by rw [str_size]; omega
    go_wp2_with fail
    go_ret
    exact ⟨rfl, HB1.out⟩
  have a3 : decide ((500 : Int) < ((str s).size : Int)) = false := by rw [str_size]; exact decide_eq_false (by omega)
  have a4 : ¬ 500 < (str s).size := by rw [str_size]; omega
  have HP := Lib.hid (parse_calls w1 s (by omega) HO1.out)
  go_wp2_with fail
  refine HP.out.mono ?_
  rintro r w2 ⟨f, x, hx, hb, hp⟩
  have HB2 := Lib.hid (HB1.out.trans (hb.mono HB1.out.size))
  clear hb a3 a4 HP
  cases x with
  | error d =>
    obtain rfl := hp
    have h2 : d = 11 ∨ d = 21 := Wo.tidy_law hx
    clear hx
    rcases h2 with rfl | rfl
    · go_wp2_with fail
      go_ret
      exact ⟨rfl, HB2.out⟩
    · go_wp2_with fail
      go_ret
      exact ⟨rfl, HB2.out⟩
  | ok l =>
    obtain ⟨u, rfl, ht⟩ := hp
    have htl : TidyF f l := Wo.tidy_law hx
    clear hx
    have hk : OkL f true l := fun i hi => ⟨(htl i hi).1.elim .inl (fun h => .inr ⟨rfl, h⟩), (htl i hi).2⟩
    have HT := Lib.hid (tidy_calls 9 _ w2 u l true f ht hk)
    clear ht hk htl
    go_wp2_with fail
    refine HT.out.mono ?_
    rintro r w3 ⟨rfl, hb⟩
    have HB3 := Lib.hid (HB2.out.trans (hb.mono HB2.out.size))
    clear hb
    go_wp2_with fail
    go_ret
    exact ⟨rfl, HB3.out⟩
end Go.Proofs.YtfjkgeeaeolkhaaDoor
