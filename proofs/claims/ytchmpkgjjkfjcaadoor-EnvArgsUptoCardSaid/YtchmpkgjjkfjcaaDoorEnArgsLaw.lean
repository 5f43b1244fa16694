/-
  EnvArgs: arguments are got by their numbers: the walk. Conditions: the library lies where it was laid; the texts are not longer than the bound.
-/
import Derived.Test.YtchmpkgjjkfjcaaDoorEnArgs
import Derived.OneCell
import Derived.Deep.DeepCutAuto
set_option linter.unusedVariables false
set_option maxRecDepth 100000
namespace Go.Proofs.YtchmpkgjjkfjcaaDoor
open Go.RowKit Base

set_option maxHeartbeats 8000000 in
theorem en_args (w : World) (sl : Option Addr) (n c : Nat) (A : List Nm) (h : Sts w sl n c A) (z : Nat) (hz : z < 256) (ifs : Nm) (hL : Lw w) (hT : tot A ≤ 1048576) :
    Calls Tryd.prog 5 #[.slice sl n c, .int .u8 (z : Int), .string (str ifs)] w fun e w' => e = .returned (.bool true) ∧ Below w.heap.size w w' := by
  obtain rfl := h.1
  have H := Lib.hid h
  have HL := Lib.hid hL
  clear h hL
  have hz2 : (str ifs).size = ifs.length := rfl
  go_enter Tryd.func5, Tryd.ntmps5
  go_wp2_with fail
  refine (awake_calls w HL.out).mono ?_
  rintro e w0 ⟨rfl, hb0⟩
  have HB0 := Lib.hid hb0
  clear hb0
  by_cases hn : A.length ≤ 12
  · by_cases ho : ifs.length ≤ 9
    · have t1 : decide ((12 : Int) < (A.length : Int)) = false := decide_eq_false (by omega)
      have t2 : decide ((9 : Int) < ((str ifs).size : Int)) = false := decide_eq_false (by omega)
      have t2' : decide ((9 : Int) < (ifs.length : Int)) = false := decide_eq_false (by omega)
      go_upto_region 6 with fail
      go_wp2_with fail
      obtain ⟨k, hk, hkz⟩ : ∃ k : Nat, k < 14 ∧ (z : Int) % 14 = (k : Int) := ⟨z % 14, by omega, by omega⟩
      rw [hkz]
      clear hkz
      have hEv0 : Ev w0 w0.heap.size none 0 [] sl c A := ⟨World.ownsRow_nil _ _ _ _, H.out.below (Ap.stable_cellsAt stC) HB0.out⟩
      refine (ev_set_calls w0 w0.heap.size none 0 [] sl c A 0 [] [73, 70, 83] ifs hEv0 (Nat.le_refl _) List.Pairwise.nil (by decide) (by decide)).mono ?_
      rintro e w1 ⟨a1, c1, rfl, h1, hb1⟩
      rw [set_ifs] at h1 ⊢
      have HB1 := Lib.hid (HB0.out.trans (hb1.mono HB0.out.size))
      have hX := Bx.alloc h1 0 []
      have hba := (Below.refl w1.heap.size w1).alloc (Nat.le_refl _) (.cells #[.slice a1 ([(ifsN, ifs)] : List Vr).length c1, .slice sl A.length c, .int .i64 0, .string (str [])] 28)
      have HB2 := Lib.hid (HB1.out.trans (hba.mono HB1.out.size))
      have HX := Lib.hid hX
      clear hX hba hb1 h1 hEv0 HB0
      rw [show ([(ifsN, ifs)] : List Vr).length = 1 from rfl] at HB2 ⊢
      go_upto_region 8 with fail
      change Hid (Bx _ _ _ _ _ _ _ _ _ _ (w1.alloc (.cells #[.slice a1 1 c1, .slice sl A.length c, .int .i64 0, .string (str [])] 28))) at HX
      generalize w1.alloc (.cells #[.slice a1 1 c1, .slice sl A.length c, .int .i64 0, .string (str [])] 28) = w2 at *
      obtain ⟨⟨x0, x1, x2, x3⟩, f0, f1, f2, f3⟩ := env4 HX.out.k
      by_cases hkn : k ≤ A.length
      · go_wp2_with fail
        refine (en_shift_calls w2 a1 1 c1 0 [] sl A.length c A k HX.out.ev.args hkn (by omega)).mono ?_
        rintro e w3 ⟨g, rfl, hg, hb3⟩
        obtain ⟨D, hD⟩ : ∃ D, A.drop k = D := ⟨_, rfl⟩
        have hDl : D.length = A.length - k := by rw [← hD, List.length_drop]
        have HD := Lib.hid hD
        have HDl := Lib.hid hDl
        rw [hD] at hg
        clear hD hDl
        obtain ⟨a3, c3, rfl, hs3⟩ := sts_of_own hg
        have hX3 := HX.out.below hb3
        have HB3 := Lib.hid (HB2.out.trans (hb3.mono HB2.out.size))
        have hF : Ev w3 w0.heap.size a1 c1 [(ifsN, ifs)] a3 c3 D := ⟨hX3.ev.own, hs3⟩
        have hF4 := Bx.alloc hF 0 []
        have hba := (Below.refl w3.heap.size w3).alloc (Nat.le_refl _) (.cells #[.slice a1 ([(ifsN, ifs)] : List Vr).length c1, .slice a3 D.length c3, .int .i64 0, .string (str [])] 28)
        have HX4 := Lib.hid (hX3.below hba)
        have HB4 := Lib.hid (HB3.out.trans (hba.mono HB3.out.size))
        have HF4 := Lib.hid hF4
        clear hF4 hba hF hX3 hs3 hg hb3 x0 x1 x2 x3 f0 f1 f2 f3 HX HB2
        rw [show ([(ifsN, ifs)] : List Vr).length = 1 from rfl] at HB4 HX4
        have u3 : decide (k ≤ A.length) = true := decide_eq_true (by omega)
        have u1 : decide ((k : Int) ≤ (A.length : Int)) = true := decide_eq_true (by omega)
        have u2 : (k : Int) ≤ (A.length : Int) := by omega
        go_upto_region 9 with fail
        change Hid (Bx _ _ _ _ _ _ _ _ _ _ (w3.alloc (.cells #[.slice a1 1 c1, .slice a3 D.length c3, .int .i64 0, .string (str [])] 28))) at HF4
        generalize w3.alloc (.cells #[.slice a1 1 c1, .slice a3 D.length c3, .int .i64 0, .string (str [])] 28) = w4 at *
        go_upto_region 13 with fail
        clear u1 u2 u3
        go_wp2_with fail
        go_loopw [12, 13] (fun v12 v13 wr => ∃ i : Nat, k ≤ i ∧ i ≤ A.length ∧ v13 = .int .i64 i ∧ v12 = .string (str (wantB A k i ifs)) ∧ wr = w4) (fun _ v13 _ => A.length - (intOf v13).toNat)
        case atStart => exact ⟨k, Nat.le_refl _, hkn, rfl, by rw [want_start]; rfl, rfl⟩
        case round =>
          obtain ⟨i, hki, hin, rfl, rfl, rfl⟩ := hrel
          by_cases hlt : i < A.length
          · obtain ⟨b, off, hcs, hix⟩ := sts_at HX4.out.ev.args
            have HStep := Lib.hid (want_step (s := ifs) hki hlt)
            have hix2 := fun W => hix 26 Tryd.underlying26 .i64 i W hlt
            have hc := hcs i hlt
            have hl1 := want_len A k i ifs
            have hl2 := tot_at hlt
            have hl3 := take1_len ifs
            have hno1 : ¬ 9223372036854775807 < (str (wantB A k i ifs)).size + (str (ifs.take 1)).size := by rw [str_size, str_size]; omega
            have hno2 : ¬ 9223372036854775807 < (str (wantB A k i ifs)).size + (str A[i]).size := by rw [str_size, str_size]; omega
            have hno3 : ¬ 9223372036854775807 < (str (wantB A k i ifs)).size + (str (ifs.take 1)).size + (str A[i]).size := by rw [str_size, str_size, str_size]; omega
            clear hcs hix hl1 hl2 hl3
            have u3 : decide (i < A.length) = true := decide_eq_true (by omega)
            have u1 : decide ((i : Int) < (A.length : Int)) = true := decide_eq_true (by omega)
            have u2 : (i : Int) < (A.length : Int) := by omega
            have E0 : Hid (k = i → wantB A k i ifs = []) := by show _ → _; rintro rfl; exact want_start _ _ _
            generalize wantB A k i ifs = X at *
            generalize A[i]'hlt = x at *
            by_cases hgt : k < i
            · have y3 : decide (k < i) = true := decide_eq_true (by omega)
              have y1 : decide ((k : Int) < (i : Int)) = true := decide_eq_true (by omega)
              have y2 : (k : Int) < (i : Int) := by omega
              by_cases hif : ifs = []
              · have z1 : (str ifs).toList.isEmpty = true := by rw [str_toList, hif]; rfl
                have z2 : ((str ifs).toList == []) = true := by rw [str_toList, hif]; rfl
                have HIf := Lib.hid hif
                clear hif
                go_wp2_with fail
                go_roundw
                case rel => exact ⟨i + 1, by omega, by omega, by go_num, by rw [HStep.out, if_pos hgt, HIf.out, List.take_nil, List.append_nil, str_append], trivial⟩
                case measure => simp [intOf]; omega
              · have z1 : (str ifs).toList.isEmpty = false := by rw [str_toList]; simpa using hif
                have z2 : ((str ifs).toList == []) = false := by rw [str_toList]; simpa using hif
                have h1 : 1 ≤ ifs.length := by
                  cases ifs with
                  | nil => exact absurd rfl hif
                  | cons _ _ => simp
                have hsl : ∀ w', (Instr.sliceAt 9 (.string (str ifs)) none (some (.int .i64 1)) none).run Tryd.prog w' = .ok (.string (str (ifs.take 1))) w' := fun w' => Sw.run_sub_h (P := Tryd.prog) (w := w') Tryd.underlying9 ifs .i64 1 h1
                have HIf := Lib.hid hif
                clear hif
                go_wp2_with fail
                go_roundw
                case rel => exact ⟨i + 1, by omega, by omega, by go_num, by rw [HStep.out, if_pos hgt, str_append, str_append], trivial⟩
                case measure => simp [intOf]; omega
            · have y3 : decide (k < i) = false := decide_eq_false (by omega)
              have y1 : decide ((k : Int) < (i : Int)) = false := decide_eq_false (by omega)
              have y2 : ¬ ((k : Int) < (i : Int)) := by omega
              have HX : Hid (X = []) := E0.out (by omega)
              go_wp2_with fail
              go_roundw
              case rel => exact ⟨i + 1, by omega, by omega, by go_num, by rw [HStep.out, if_neg hgt, HX.out, str_append], trivial⟩
              case measure => simp [intOf]; omega
          · obtain rfl : i = A.length := by omega
            rw [want_end]
            have HJ : Hid ((Lib.join (A.drop k) (ifs.take 1)).length ≤ 10000000) := by
              have h1 := join_len (A.drop k) (take1_len ifs)
              have h2 := tot_drop A k
              show _ ≤ _
              omega
            rw [HD.out] at HJ ⊢
            have u3 : decide (A.length < A.length) = false := decide_eq_false (by omega)
            have u1 : decide ((A.length : Int) < (A.length : Int)) = false := decide_eq_false (by omega)
            have u2 : ¬ ((A.length : Int) < (A.length : Int)) := by omega
            obtain ⟨⟨x0, x1, x2, x3⟩, f0, f1, f2, f3⟩ := env4 HF4.out.k
            go_upto_region 20 with fail
            go_wp2_with fail
            refine (ev_get_calls wr w0.heap.size a1 c1 [(ifsN, ifs)] a3 c3 D 0 [] [42] HF4.out.ev (rises_one _) (by simp) (by decide) (HL.out.below HB4.out) (by have := HDl.out; omega) ⟨by decide, by decide⟩ (fun _ => by rw [ifs_one]; exact HJ.out)).mono ?_
            rintro e w5 ⟨rfl, hb5⟩
            have HF5 := Lib.hid (HF4.out.below hb5)
            have HX5 := Lib.hid (HX4.out.below hb5)
            have HB5 := Lib.hid (HB4.out.trans (hb5.mono HB4.out.size))
            clear hb5 x0 x1 x2 x3 f0 f1 f2 f3 HF4 HX4 HB4
            have HAll : Hid (((gotB [(ifsN, ifs)] D 0 [] [42]).getD [] = Lib.join D (ifs.take 1)) ∧ (gotB [(ifsN, ifs)] D 0 [] [42]).isSome = !D.isEmpty) := by
              show _ ∧ _
              rw [got_star]
              cases D with
              | nil => exact ⟨rfl, rfl⟩
              | cons _ _ => exact ⟨rfl, rfl⟩
            rw [HAll.out.1, HAll.out.2]
            clear HAll HJ
            generalize Lib.join D (ifs.take 1) = J at *
            obtain ⟨⟨x0, x1, x2, x3⟩, f0, f1, f2, f3⟩ := env4 HF5.out.k
            go_upto_region 21 with fail
            go_wp2_with fail
            refine (ev_get_calls w5 w0.heap.size a1 c1 [(ifsN, ifs)] a3 c3 D 0 [] [49] HF5.out.ev (rises_one _) (by simp) (by decide) (HL.out.below HB5.out) (by have := HDl.out; omega) ⟨by decide, by decide⟩ (fun h => by simp at h)).mono ?_
            rintro e w6 ⟨rfl, hb6⟩
            rw [got_one]
            have HF6 := Lib.hid (HF5.out.below hb6)
            have HX6 := Lib.hid (HX5.out.below hb6)
            have HB6 := Lib.hid (HB5.out.trans (hb6.mono HB5.out.size))
            clear hb6 x0 x1 x2 x3 f0 f1 f2 f3 HF5 HX5 HB5
            obtain ⟨⟨x0, x1, x2, x3⟩, f0, f1, f2, f3⟩ := env4 HF6.out.k
            go_upto_region 22 with fail
            go_wp2_with fail
            refine (ev_get_calls w6 w0.heap.size a1 c1 [(ifsN, ifs)] a3 c3 D 0 [] [49, 53] HF6.out.ev (rises_one _) (by simp) (by decide) (HL.out.below HB6.out) (by have := HDl.out; omega) ⟨by decide, by decide⟩ (fun h => by simp at h)).mono ?_
            rintro e w7 ⟨rfl, hb7⟩
            rw [got_15 _ _ (by have := HDl.out; omega), Option.getD_none, Option.isSome_none]
            have HX7 := Lib.hid (HX6.out.below hb7)
            have HB7 := Lib.hid (HB6.out.trans (hb7.mono HB6.out.size))
            clear hb7 x0 x1 x2 x3 f0 f1 f2 f3 HF6 HX6 HB6
            obtain ⟨⟨x0, x1, x2, x3⟩, f0, f1, f2, f3⟩ := env4 HX7.out.k
            go_upto_region 23 with fail
            have z9 : ((str J).toList == (str J).toList) = true := by simp
            by_cases hlt2 : k < A.length
            · obtain ⟨b, off, hcs, hix⟩ := sts_at HX7.out.ev.args
              have HIx := Lib.hid fun W => hix 26 Tryd.underlying26 .i64 k W hlt2
              have HC := Lib.hid (hcs k hlt2)
              clear hcs hix
              have hd0 : D[0]? = some A[k] := by rw [← HD.out, List.getElem?_drop, Nat.add_zero, List.getElem?_eq_getElem hlt2]
              have hde : D.isEmpty = false := by cases D with
                | nil => simp at hd0
                | cons _ _ => rfl
              rw [hd0, hde, Option.getD_some, Option.isSome_some, Bool.not_false]
              clear hd0 hde
              generalize A[k]'hlt2 = x at *
              have u3 : decide (k < A.length) = true := decide_eq_true (by omega)
              have u1 : decide ((k : Int) < (A.length : Int)) = true := decide_eq_true (by omega)
              have u2 : (k : Int) < (A.length : Int) := by omega
              have hix2 := HIx.out
              have hc := HC.out
              have z8 : ((str x).toList == (str x).toList) = true := by simp
              go_wp2_with fail
              go_ret
              exact ⟨rfl, HB7.out⟩
            · have hde : D = [] := by rw [← HD.out]; exact List.drop_eq_nil_of_le (by omega)
              rw [hde, List.getElem?_nil, Option.getD_none, Option.isSome_none, List.isEmpty_nil, Bool.not_true]
              clear hde
              have u3 : decide (k < A.length) = false := decide_eq_false (by omega)
              have u1 : decide ((k : Int) < (A.length : Int)) = false := decide_eq_false (by omega)
              have u2 : ¬ ((k : Int) < (A.length : Int)) := by omega
              go_wp2_with fail
              go_ret
              exact ⟨rfl, HB7.out⟩
      · have d1 : decide ((k : Int) ≤ (A.length : Int)) = false := decide_eq_false (by omega)
        have d2 : ¬ (k : Int) ≤ (A.length : Int) := by omega
        go_wp2_with fail
        refine (en_shift_no w2 a1 1 c1 0 [] sl A.length c k (.inr (by omega))).mono ?_
        rintro e w3 ⟨rfl, hb3⟩
        have HX3 := Lib.hid (HX.out.below hb3)
        have HB3 := Lib.hid (HB2.out.trans (hb3.mono HB2.out.size))
        have HF4 := Lib.hid (Bx.alloc HX3.out.ev 0 [])
        have hba := (Below.refl w3.heap.size w3).alloc (Nat.le_refl _) (.cells #[.slice a1 ([(ifsN, ifs)] : List Vr).length c1, .slice sl A.length c, .int .i64 0, .string (str [])] 28)
        have HX4 := Lib.hid (HX3.out.below hba)
        have HB4 := Lib.hid (HB3.out.trans (hba.mono HB3.out.size))
        clear hba hb3 x0 x1 x2 x3 f0 f1 f2 f3 HX HB2
        rw [show ([(ifsN, ifs)] : List Vr).length = 1 from rfl] at HB4 HX4
        go_upto_region 9 with fail
        change Hid (Bx _ _ _ _ _ _ _ _ _ _ (w3.alloc (.cells #[.slice a1 1 c1, .slice sl A.length c, .int .i64 0, .string (str [])] 28))) at HF4
        generalize w3.alloc (.cells #[.slice a1 1 c1, .slice sl A.length c, .int .i64 0, .string (str [])] 28) = w4 at *
        obtain ⟨⟨x0, x1, x2, x3⟩, f0, f1, f2, f3⟩ := env4 HX4.out.k
        obtain ⟨⟨y0, y1, y2, y3⟩, g0, g1, g2, g3⟩ := env4 HF4.out.k
        go_wp2_with fail
        refine (en_same_calls w4 _ _ _ [(ifsN, ifs)] _ _ _ [(ifsN, ifs)] _ _ _ A _ _ _ A 0 0 [] [] HX4.out.ev.vrs HF4.out.ev.vrs HX4.out.ev.args HF4.out.ev.args (by simp) (by simp) (by omega) (by omega)).mono ?_
        rintro e w5 ⟨rfl, hb5⟩
        rw [show sameB [(ifsN, ifs)] [(ifsN, ifs)] A A 0 0 [] [] = true from by unfold sameB; simp]
        have HB5 := Lib.hid (HB4.out.trans (hb5.mono HB4.out.size))
        clear hb5 x0 x1 x2 x3 f0 f1 f2 f3 y0 y1 y2 y3 g0 g1 g2 g3
        go_wp2_with fail
        go_ret
        exact ⟨rfl, HB5.out⟩
    · have t1 : decide ((12 : Int) < (A.length : Int)) = false := decide_eq_false (by omega)
      have t2 : decide ((9 : Int) < ((str ifs).size : Int)) = true := decide_eq_true (by omega)
      go_wp2_with fail
      go_ret
      exact ⟨rfl, HB0.out⟩
  · have t1 : decide ((12 : Int) < (A.length : Int)) = true := decide_eq_true (by omega)
    go_wp2_with fail
    go_ret
    exact ⟨rfl, HB0.out⟩
end Go.Proofs.YtchmpkgjjkfjcaaDoor
