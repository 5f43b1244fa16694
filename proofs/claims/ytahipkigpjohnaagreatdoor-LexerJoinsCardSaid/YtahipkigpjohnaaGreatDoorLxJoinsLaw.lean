/-
  Lexer: LexerJoins answers true. Conditions: the table of signs lies there.
-/
import Derived.Test.YtahipkigpjohnaaGreatDoorLxAwake
import Derived.Test.YtahipkigpjohnaaGreatDoorLxShort
import Derived.Test.YtahipkigpjohnaaGreatDoorLxLinesLaw
set_option linter.unusedVariables false
set_option linter.unusedSimpArgs false
set_option maxRecDepth 100000
namespace Go.Proofs.YtahipkigpjohnaaGreatDoor
open Go.RowKit Base Lx

theorem wordC_cases (c : UInt8) (h : wordC c = true) : (97 ≤ c.toNat ∧ c.toNat ≤ 122) ∨ c = 45 ∨ c = 95 := by
  unfold wordC at h
  simp only [Bool.or_eq_true, Bool.and_eq_true, decide_eq_true_eq, beq_iff_eq, UInt8.le_iff_toNat_le] at h
  rcases h with (h | h) | h
  · exact .inl h
  · exact .inr (.inl h)
  · exact .inr (.inr h)
theorem wordC_not (c : UInt8) (h : wordC c = false) : (c.toNat < 97 ∨ 122 < c.toNat) ∧ c.toNat ≠ 45 ∧ c.toNat ≠ 95 := by
  unfold wordC at h
  simp only [Bool.or_eq_false_iff, Bool.and_eq_false_iff, decide_eq_false_iff_not, beq_eq_false_iff_ne, UInt8.le_iff_toNat_le] at h
  obtain ⟨⟨h1, h2⟩, h3⟩ := h
  refine ⟨?_, fun e => h2 (UInt8.toNat_inj.1 e), fun e => h3 (UInt8.toNat_inj.1 e)⟩
  rcases h1 with h1 | h1
  · left; have h1 : ¬ 97 ≤ c.toNat := h1; omega
  · right; have h1 : ¬ c.toNat ≤ 122 := h1; omega
set_option maxHeartbeats 8000000 in
theorem joins_calls (W : World) (a b : Nm) (hO : SigT W) : Calls Tryz.prog 7 #[.string (str a), .string (str b)] W fun r W' => r = .returned (.bool true) ∧ Below W.heap.size W W' := by
  have HO := Lib.hid hO
  clear hO
  have ea : (str a).size = a.length := rfl
  have eb : (str b).size = b.length := rfl
  go_enter Tryz.func7, Tryz.ntmps7
  go_wp2_with fail
  refine (awake_calls W HO.out).mono ?_
  rintro r w1 ⟨rfl, hb1⟩
  have HB1 := Lib.hid hb1
  have HO1 := Lib.hid (HO.out.below hb1 HO.out.lt)
  clear hb1
  by_cases la : 60 < a.length
  · have u1 : decide ((60 : Int) < ((str a).size : Int)) = true := decide_eq_true (by omega)
    have u2 : (60 : Int) < ((str a).size : Int) := by omega
    go_wp2_with fail
    go_ret
    exact ⟨rfl, HB1.out⟩
  have u1 : decide ((60 : Int) < ((str a).size : Int)) = false := decide_eq_false (by omega)
  have u2 : ¬ ((60 : Int) < ((str a).size : Int)) := by omega
  by_cases lb : 60 < b.length
  · have v1 : decide ((60 : Int) < ((str b).size : Int)) = true := decide_eq_true (by omega)
    have v2 : (60 : Int) < ((str b).size : Int) := by omega
    go_wp2_with fail
    go_ret
    exact ⟨rfl, HB1.out⟩
  have v1 : decide ((60 : Int) < ((str b).size : Int)) = false := decide_eq_false (by omega)
  have v2 : ¬ ((60 : Int) < ((str b).size : Int)) := by omega
  by_cases na : a = []
  · subst na
    have t1 : ((str []).toList == []) = true := by rw [str_tl2]; rfl
    go_wp2_with fail
    go_ret
    exact ⟨rfl, HB1.out⟩
  have t1 : ((str a).toList == []) = false := by rw [str_tl2]; simpa using na
  by_cases nb : b = []
  · subst nb
    have t2 : ((str []).toList == []) = true := by rw [str_tl2]; rfl
    go_wp2_with fail
    go_ret
    exact ⟨rfl, HB1.out⟩
  have t2 : ((str b).toList == []) = false := by rw [str_tl2]; simpa using nb
  have HNa := Lib.hid na
  have HNb := Lib.hid nb
  have la : a.length ≤ 60 := by omega
  have lb : b.length ≤ 60 := by omega
  have e3 : str a ++ str b = str (a ++ b) := str_append a b
  have z3 : (str a).size + (str b).size ≤ 9223372036854775807 := by rw [ea, eb]; omega
  have eab : (str (a ++ b)).size = a.length + b.length := by rw [str_size, List.length_append]
  clear na nb
  go_wp2_with fail
  clear t1 t2 u1 u2 v1 v2
  go_loopw [6] (fun v6 wr => ∃ k : Nat, k ≤ a.length + b.length ∧ v6 = .int .i64 (k : Int) ∧ ((a ++ b).take k).all wordC = true ∧ wr = w1) (fun v6 _ => (match v6 with | .int _ z => a.length + b.length - z.toNat | _ => 0))
  case atStart => exact ⟨0, Nat.zero_le _, rfl, rfl, rfl⟩
  case round =>
    obtain ⟨k, hk, rfl, hall, hw⟩ := hrel
    have hw2 := hw.symm
    subst hw2
    clear hw
    by_cases hkl : k < a.length + b.length
    · have hkl2 : k < (a ++ b).length := by rw [List.length_append]; exact hkl
      have hix := fun w => Sw.run_at (P := Tryz.prog) (w := w) Tryz.underlying9 (a ++ b) .i64 k hkl2
      have hnx : ((a ++ b).take (k + 1)).all wordC = wordC (a ++ b)[k] := by
        rw [List.take_succ_eq_append_getElem hkl2, List.all_append, hall]; simp
      obtain ⟨c, hc⟩ : ∃ c, (a ++ b)[k] = c := ⟨_, rfl⟩
      rw [hc] at hix hnx
      have HNx := Lib.hid hnx
      have u1 : decide ((k : Int) < (a.length : Int) + (b.length : Int)) = true := decide_eq_true (by omega)
      have u2 : (k : Int) < (a.length : Int) + (b.length : Int) := by omega
      have u5 : (k : Int) < ((str (a ++ b)).size : Int) := by rw [eab]; omega
      have hc256 := c.toNat_lt
      clear hc hnx hkl2 hall
      by_cases hwc : wordC c = true
      · have HNx2 : Hid (((a ++ b).take (k + 1)).all wordC = true) := by show _ = _; rw [HNx.out]; exact hwc
        rcases wordC_cases c hwc with ⟨h1, h2⟩ | rfl | rfl
        · have x1 : decide ((c.toNat : Int) < 97) = false := decide_eq_false (by omega)
          have x2 : ¬ ((c.toNat : Int) < 97) := by omega
          have y1 : decide ((122 : Int) < (c.toNat : Int)) = false := decide_eq_false (by omega)
          have y2 : ¬ ((122 : Int) < (c.toNat : Int)) := by omega
          clear hwc
          go_wp2_with fail
          go_roundw
          case rel => exact ⟨k + 1, by omega, by go_num, HNx2.out, trivial⟩
          case measure => simp; omega
        · have hix2 : ∀ w, (Instr.index 9 (.string (str (a ++ b))) (.int .i64 (k : Int))).run Tryz.prog w = .ok (.int .u8 45) w := hix
          clear hwc hix
          go_wp2_with fail
          go_roundw
          case rel => exact ⟨k + 1, by omega, by go_num, HNx2.out, trivial⟩
          case measure => simp; omega
        · have hix2 : ∀ w, (Instr.index 9 (.string (str (a ++ b))) (.int .i64 (k : Int))).run Tryz.prog w = .ok (.int .u8 95) w := hix
          clear hwc hix
          go_wp2_with fail
          go_roundw
          case rel => exact ⟨k + 1, by omega, by go_num, HNx2.out, trivial⟩
          case measure => simp; omega
      · obtain ⟨h1, h2, h3⟩ := wordC_not c (by simpa using hwc)
        have d2 : ¬ (c.toNat : Int) = 45 := by omega
        have d3 : ¬ (c.toNat : Int) = 95 := by omega
        have d4 : ((c.toNat : Int) == 45) = false := by simpa using d2
        have d5 : ((c.toNat : Int) == 95) = false := by simpa using d3
        have d6 : ((c.toNat : Int) != 45) = true := by rw [bne, d4]; rfl
        have d7 : ((c.toNat : Int) != 95) = true := by rw [bne, d5]; rfl
        clear hwc h2 h3
        rcases h1 with h1 | h1
        · have x1 : decide ((c.toNat : Int) < 97) = true := decide_eq_true (by omega)
          have x2 : (c.toNat : Int) < 97 := by omega
          go_wp2_with fail
          go_ret
          exact ⟨rfl, HB1.out⟩
        · have x1 : decide ((c.toNat : Int) < 97) = false := decide_eq_false (by omega)
          have x2 : ¬ ((c.toNat : Int) < 97) := by omega
          have y1 : decide ((122 : Int) < (c.toNat : Int)) = true := decide_eq_true (by omega)
          have y2 : (122 : Int) < (c.toNat : Int) := by omega
          go_wp2_with fail
          go_ret
          exact ⟨rfl, HB1.out⟩
    · obtain rfl : k = a.length + b.length := by omega
      have hab : (a ++ b).all wordC = true := by rw [← hall, ← List.length_append, List.take_length]
      rw [List.all_append, Bool.and_eq_true] at hab
      have HX1 := Lib.hid (joins_one hab.1 hab.2 HNa.out HNb.out)
      have HX2 := Lib.hid (joins_two hab.1 hab.2 HNa.out HNb.out)
      have u1 : ¬ (a.length : Int) + (b.length : Int) < (a.length : Int) + (b.length : Int) := by omega
      have u2 : decide ((a.length : Int) + (b.length : Int) < (a.length : Int) + (b.length : Int)) = false := decide_eq_false u1
      have e4 : str a ++ ⟨#[92, 10]⟩ = str (a ++ [92, 10]) := str_append a [92, 10]
      have e5 : str (a ++ [92, 10]) ++ str b = str (a ++ 92 :: 10 :: b) := by rw [str_append]; simp
      have e6 : str a ++ ⟨#[32, 92, 10, 32]⟩ = str (a ++ [32, 92, 10, 32]) := str_append a [32, 92, 10, 32]
      have e7 : str (a ++ [32, 92, 10, 32]) ++ str b = str (a ++ 32 :: 92 :: 10 :: 32 :: b) := by rw [str_append]; simp
      have z4 : (str a).size + 2 ≤ 9223372036854775807 := by rw [ea]; omega
      have z5 : (str (a ++ [92, 10])).size + (str b).size ≤ 9223372036854775807 := by rw [str_size, str_size, List.length_append]; simp; omega
      have z6 : (str a).size + 4 ≤ 9223372036854775807 := by rw [ea]; omega
      have z7 : (str (a ++ [32, 92, 10, 32])).size + (str b).size ≤ 9223372036854775807 := by rw [str_size, str_size, List.length_append]; simp; omega
      clear hkl hall hab hk
      go_wp2_with fail
      refine (all_calls w1 (a ++ 92 :: 10 :: b) (by rw [List.length_append]; simp; omega) HO1.out).mono ?_
      rintro r w2 ⟨hb2, hr⟩
      rw [HX1.out] at hr
      obtain ⟨v, rfl, hown⟩ := hr
      obtain ⟨a3, q3, hv, x1, off, hcs, hix3⟩ := toks_at hown
      subst hv
      have HB2 := Lib.hid hb2
      have HO2 := Lib.hid (HO1.out.below hb2 HO1.out.lt)
      have HC := Lib.hid hcs
      have i10 : ∀ w, (Instr.indexAt 28 (.slice a3 2 q3) (.int .i64 0)).run Tryz.prog w = .ok (.pointer (some ⟨x1, off, none⟩)) w := fun w => hix3 0 w (by simp)
      have i11 : ∀ w, (Instr.indexAt 28 (.slice a3 2 q3) (.int .i64 1)).run Tryz.prog w = .ok (.pointer (some ⟨x1, off + 4, none⟩)) w := fun w => hix3 1 w (by simp)
      clear hb2 hown hcs hix3
      go_wp2_with fail
      refine (all_calls w2 (a ++ 32 :: 92 :: 10 :: 32 :: b) (by rw [List.length_append]; simp; omega) HO2.out).mono ?_
      rintro r w3 ⟨hb3, hr⟩
      rw [HX2.out] at hr
      obtain ⟨v, rfl, hown⟩ := hr
      obtain ⟨a4, q4, hv, x2, of2, hcs, hix3⟩ := toks_at hown
      subst hv
      have HB3 := Lib.hid (HB1.out.trans ((HB2.out.trans (hb3.mono HB2.out.size)).mono HB1.out.size))
      have i20 : ∀ w, (Instr.indexAt 28 (.slice a4 3 q4) (.int .i64 0)).run Tryz.prog w = .ok (.pointer (some ⟨x2, of2, none⟩)) w := fun w => hix3 0 w (by simp)
      have i21 : ∀ w, (Instr.indexAt 28 (.slice a4 3 q4) (.int .i64 1)).run Tryz.prog w = .ok (.pointer (some ⟨x2, of2 + 4, none⟩)) w := fun w => hix3 1 w (by simp)
      have c0 := tok_cells (HC.out 0 (by simp))
      have c1 := tok_cells (HC.out 1 (by simp))
      have d0 := tok_cells (hcs 0 (by simp))
      have d1 := tok_cells (hcs 1 (by simp))
      have g1 : w3.cell? ⟨x1, off + 1, none⟩ = some (.string (str (a ++ b))) := cell_below hb3 (Nat.le_refl _) c0.2.1
      have g2 : w3.cell? ⟨x1, off + 3, none⟩ = some (.int .i64 1) := cell_below hb3 (Nat.le_refl _) c0.2.2.2
      have g3 : w3.cell? ⟨x1, off + 4 + 3, none⟩ = some (.int .i64 2) := cell_below hb3 (Nat.le_refl _) c1.2.2.2
      have g4 : w3.cell? ⟨x2, of2 + 1, none⟩ = some (.string (str a)) := d0.2.1
      have g5 : w3.cell? ⟨x2, of2 + 4 + 1, none⟩ = some (.string (str b)) := d1.2.1
      have g6 : w3.cell? ⟨x2, of2 + 4 + 3, none⟩ = some (.int .i64 2) := d1.2.2.2
      have t1 : ((str (a ++ b)).toList == (str (a ++ b)).toList) = true := by simp
      have t2 : ((str a).toList == (str a).toList) = true := by simp
      have t3 : ((str b).toList == (str b).toList) = true := by simp
      clear hb3 hown hcs hix3 c0 c1 d0 d1
      go_wp2_with fail
      go_ret
      exact ⟨rfl, HB3.out⟩
end Go.Proofs.YtahipkigpjohnaaGreatDoor
