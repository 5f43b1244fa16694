/-
  Lexer: LexerWords answers true. Conditions: the table of signs lies there.
-/
import Derived.Test.YtahipkigpjohnaaGreatDoorLxAwake
import Derived.Test.YtahipkigpjohnaaGreatDoorLxWordRef
set_option linter.unusedVariables false
set_option linter.unusedSimpArgs false
set_option maxRecDepth 100000
namespace Go.Proofs.YtahipkigpjohnaaGreatDoor
open Go.RowKit Base Lx

set_option maxHeartbeats 4000000 in
theorem words_calls (W : World) (s : Nm) (hO : SigT W) : Calls Tryz.prog 3 #[.string (str s)] W fun r W' => r = .returned (.bool true) ∧ Below W.heap.size W W' := by
  have HO := Lib.hid hO
  clear hO
  have e1 : (str s).size = s.length := rfl
  go_enter Tryz.func3, Tryz.ntmps3
  go_wp2_with fail
  refine (awake_calls W HO.out).mono ?_
  rintro r w1 ⟨rfl, hb1⟩
  have HB1 := Lib.hid hb1
  clear hb1
  by_cases hl : 1000 < s.length
  · have u1 : decide ((1000 : Int) < ((str s).size : Int)) = true := decide_eq_true (by omega)
    have u2 : (1000 : Int) < ((str s).size : Int) := by omega
    go_wp2_with fail
    go_ret
    exact ⟨rfl, HB1.out⟩
  have u1 : decide ((1000 : Int) < ((str s).size : Int)) = false := decide_eq_false (by omega)
  have u2 : ¬ ((1000 : Int) < ((str s).size : Int)) := by omega
  have hs : s.length ≤ 1000 := by omega
  have HS := Lib.hid hs
  clear hl hs
  go_wp2_with fail
  refine (bare_calls w1 s (by have := HS.out; omega)).mono ?_
  rintro r w2 ⟨rfl, hb2⟩
  have HB2 := Lib.hid (HB1.out.trans (hb2.mono HB1.out.size))
  clear hb2
  obtain ⟨b, hb⟩ : ∃ b, decide (bare s ≠ s) = b := ⟨_, rfl⟩
  rw [hb]
  have Hb := Lib.hid hb
  clear hb
  go_wp2_with fail
  refine (rbare_calls w2 s (by have := HS.out; omega)).mono ?_
  rintro r w3 ⟨rfl, hw3⟩
  obtain rfl := hw3
  rw [Hb.out]
  go_wp2_with fail
  refine (sets_calls w2 s (by have := HS.out; omega)).mono ?_
  rintro r w4 ⟨rfl, hb4⟩
  have HB4 := Lib.hid (HB2.out.trans (hb4.mono HB2.out.size))
  clear hb4
  obtain ⟨q, hq⟩ : ∃ q, setsM s = q := ⟨_, rfl⟩
  obtain ⟨x, y, is⟩ := q
  have Hq := Lib.hid hq
  rw [hq]
  clear hq
  go_wp2_with fail
  refine (rsets_calls w4 s (by have := HS.out; omega)).mono ?_
  rintro r w5 ⟨rfl, hb5⟩
  have HB5 := Lib.hid (HB4.out.trans (hb5.mono HB4.out.size))
  clear hb5
  rw [Hq.out]
  have t1 : ((str (bare s)).toList == (str (bare s)).toList) = true := by simp
  have t2 : ((str x).toList == (str x).toList) = true := by simp
  have t3 : ((str y).toList == (str y).toList) = true := by simp
  have t4 : (b == b) = true := by simp
  have t5 : (is == is) = true := by simp
  go_wp2_with fail
  refine (name_calls w5 s (by have := HS.out; omega)).mono ?_
  rintro r w6 ⟨rfl, hw6⟩
  obtain rfl := hw6
  go_wp2_with fail
  refine (rname_calls w5 s (by have := HS.out; omega)).mono ?_
  rintro r w7 ⟨rfl, hw7⟩
  obtain rfl := hw7
  have t6 : (nameB s == nameB s) = true := by simp
  go_wp2_with fail
  go_ret
  exact ⟨rfl, HB5.out⟩
end Go.Proofs.YtahipkigpjohnaaGreatDoor
