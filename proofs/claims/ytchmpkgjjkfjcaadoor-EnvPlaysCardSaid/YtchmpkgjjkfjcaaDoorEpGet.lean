/-
  The document's Env: what a parameter is. Conditions: there are two arguments at most; the rows are not too long.
-/
import Derived.Test.YtchmpkgjjkfjcaaDoorEpRefs5
import Derived.Deep.DeepCutAuto
set_option linter.unusedVariables false
set_option maxRecDepth 100000
namespace Go.Proofs.YtchmpkgjjkfjcaaDoor
open Go.RowKit Base

def dig1 (n : Nat) : UInt8 := UInt8.ofNat (48 + n)
theorem itoa_small : Lib.itoa 0 = [48] ∧ Lib.itoa 1 = [49] ∧ Lib.itoa 2 = [50] ∧ Lib.itoa 3 = [51] := by decide +kernel
set_option maxHeartbeats 2000000 in
theorem ref_digits_calls (w : World) (n : Nat) (h : n ≤ 3) : Calls Tryd.prog 37 #[.int .i64 (n : Int)] w fun e w' => e = .returned (.string (str (Lib.itoa (n : Int)))) ∧ Below w.heap.size w w' := by
  obtain ⟨i0, i1, i2, i3⟩ := itoa_small
  have hb := fun (z : Int) => (Below.refl w.heap.size w).alloc (Nat.le_refl _) (.cells #[.int .u8 z] 5)
  match n, h with
  | 0, _ =>
    have hcv2 := str_bytes (bytes_one w 48 48 rfl 5)
    go_enter Tryd.func37, Tryd.ntmps37
    go_wp2_with fail
    go_ret
    exact ⟨by rw [show ((0 : Nat) : Int) = 0 from rfl, i0]; rfl, hb _⟩
  | 1, _ =>
    have hcv2 := str_bytes (bytes_one w 49 49 rfl 5)
    go_enter Tryd.func37, Tryd.ntmps37
    go_wp2_with fail
    go_ret
    exact ⟨by rw [show ((1 : Nat) : Int) = 1 from rfl, i1]; rfl, hb _⟩
  | 2, _ =>
    have hcv2 := str_bytes (bytes_one w 50 50 rfl 5)
    go_enter Tryd.func37, Tryd.ntmps37
    go_wp2_with fail
    go_ret
    exact ⟨by rw [show ((2 : Nat) : Int) = 2 from rfl, i2]; rfl, hb _⟩
  | 3, _ =>
    have hcv2 := str_bytes (bytes_one w 51 51 rfl 5)
    go_enter Tryd.func37, Tryd.ntmps37
    go_wp2_with fail
    go_ret
    exact ⟨by rw [show ((3 : Nat) : Int) = 3 from rfl, i3]; rfl, hb _⟩
/-- What stands behind the first digit makes the number ten and more. -/
theorem parse_long {c d : UInt8} {r : Nm} {v : Int} (h : Lib.atoiAll (c :: d :: r) = .ok v) (h1 : 49 ≤ c.toNat) (h2 : c.toNat ≤ 57) : 10 ≤ v := by
  obtain ⟨u, rfl, hu⟩ := atoi_digit h h1 h2
  simp only [Lib.parseUint10] at hu
  repeat' (split at hu)
  all_goals first
    | (have := parse_ge _ _ _ hu; omega)
    | cases hu
theorem argP_two {A : List Nm} (hA : A.length ≤ 2) (s : Nm) : argP A s = if s = [48] then some shN else if s = [49] then A[0]? else if s = [50] then A[1]? else none := by
  unfold argP
  by_cases h0 : s = [48]
  · rw [if_pos h0, if_pos h0]
  rw [if_neg h0, if_neg h0]
  by_cases h1 : s = [49]
  · rw [if_pos h1, h1]
    have := got_one [] A
    rw [← this]
    unfold gotB
    rfl
  rw [if_neg h1]
  by_cases h2 : s = [50]
  · rw [if_pos h2, h2, show Lib.atoiAll [50] = .ok 2 from by rfl]
    show (if numB [50] 2 A.length then A[((2 : Int) - 1).toNat]? else none) = _
    match A, hA with
    | [], _ => rw [if_neg (by unfold numB; intro h; have := h.2.2.2; simp at this)]; rfl
    | [_], _ => rw [if_neg (by unfold numB; intro h; have := h.2.2.2; simp at this)]; rfl
    | [_, _], _ => rw [if_pos (by unfold numB; exact ⟨by decide, by decide, by decide, by simp⟩)]; rfl
  rw [if_neg h2]
  rcases hq : Lib.atoiAll s with v | _ | _
  · show (if numB s v A.length then A[(v - 1).toNat]? else none) = none
    rw [if_neg]
    rintro ⟨_, b1, b2, b3⟩
    match s, hq, b1, b2 with
    | [], hq, b1, b2 => cases hq
    | [c], hq, b1, b2 =>
      obtain ⟨u, rfl, hu⟩ := atoi_digit hq b1 b2
      simp only [Lib.parseUint10] at hu
      injection hu with hu
      have hc : c.toNat = 49 ∨ c.toNat = 50 := by
        have e : ([c] : Nm).getD 0 0 = c := rfl
        rw [e] at b1 b2
        omega
      rcases hc with hc | hc
      · exact h1 (by rw [show c = 49 from UInt8.toNat_inj.1 hc])
      · exact h2 (by rw [show c = 50 from UInt8.toNat_inj.1 hc])
    | c :: d :: r, hq, b1, b2 =>
      have := parse_long hq b1 b2
      omega
  · rfl
  · rfl
theorem itoa_two {k : Nat} (h : k < 2) : Lib.itoa ((k : Int) + 1) = if k = 0 then [49] else [50] := by
  obtain ⟨_, i1, i2, _⟩ := itoa_small
  match k, h with
  | 0, _ => exact i1
  | 1, _ => exact i2
/-- A one behind the other, until the number is that. -/
theorem argP_step {A : List Nm} (hA : A.length ≤ 2) {s : Nm} (hs : s ≠ [48]) {k : Nat} (hk : k < A.length) (he : Lib.itoa ((k : Int) + 1) = s) : argP A s = some A[k] := by
  rw [argP_two hA, if_neg hs]
  rw [itoa_two (by omega)] at he
  by_cases h0 : k = 0
  · subst h0
    rw [if_pos rfl] at he
    rw [if_pos he.symm, List.getElem?_eq_getElem hk]
  · obtain rfl : k = 1 := by omega
    rw [if_neg h0] at he
    rw [if_neg (by rw [← he]; decide), if_pos he.symm, List.getElem?_eq_getElem hk]
theorem argP_none {A : List Nm} (hA : A.length ≤ 2) {s : Nm} (hs : s ≠ [48]) (h : ∀ k, k < A.length → Lib.itoa ((k : Int) + 1) ≠ s) : argP A s = none := by
  rw [argP_two hA, if_neg hs]
  by_cases h1 : s = [49]
  · rw [if_pos h1]
    rcases Nat.eq_zero_or_pos A.length with h0 | h0
    · rw [List.getElem?_eq_none (by omega)]
    · exact absurd (by rw [itoa_two (by omega), if_pos rfl, h1]) (h 0 h0)
  · rw [if_neg h1]
    by_cases h2 : s = [50]
    · rw [if_pos h2]
      rcases Nat.lt_or_ge 1 A.length with h0 | h0
      · exact absurd (by rw [itoa_two (by omega), if_neg (by decide), h2]) (h 1 h0)
      · rw [List.getElem?_eq_none (by omega)]
    · rw [if_neg h2]
set_option maxHeartbeats 8000000 in
theorem ref_get_calls (w : World) (a : Option Addr) (n c : Nat) (l : List Vr) (fl s : Nm) (ga : Option Addr) (gn gc : Nat) (A : List Nm) (h : Vrs w a n c l) (hl : l.length ≤ 1000000) (hA : Sts w ga gn gc A) (hs : s.length ≤ 281474976710656) (hA2 : A.length ≤ 2) (hT : tot A ≤ 1000000) :
    Calls Tryd.prog 21 #[.agg #[.slice a n c, .slice ga gn gc, .int .i64 0, .string (str fl)], .string (str s)] w (GetPost w (gotB l A 0 fl s)) := by
  obtain rfl := h.1
  obtain rfl := hA.1
  have H := Lib.hid h
  have HA := Lib.hid hA
  have HA2 := Lib.hid hA2
  have HT := Lib.hid hT
  have HL := Lib.hid hl
  have hbB := (Below.refl w.heap.size w).alloc (Nat.le_refl _) (.cells #[.slice a l.length c, .slice ga A.length gc, .int .i64 0, .string (str fl)] 41)
  have hb0 := heap_alloc_new w (.cells #[.slice a l.length c, .slice ga A.length gc, .int .i64 0, .string (str fl)] 41)
  have hbs : (w.alloc (.cells #[.slice a l.length c, .slice ga A.length gc, .int .i64 0, .string (str fl)] 41)).heap.size = w.heap.size + 1 := World.size_alloc ..
  have HB := Lib.hid hbB
  have HB0 := Lib.hid hb0
  have HBs := Lib.hid hbs
  clear hbB hb0 hbs h hA hA2 hT hl
  go_enter Tryd.func21, Tryd.ntmps21
  go_upto_region 1 with fail
  generalize w.alloc (.cells #[.slice a l.length c, .slice ga A.length gc, .int .i64 0, .string (str fl)] 41) = w1 at *
  obtain ⟨⟨c0, c1, c2, c3⟩, f0, f1, f2, f3⟩ := env4 HB0.out
  go_wp2_with fail
  refine (ref_name_calls w1 s (by omega)).mono ?_
  rintro e w2 ⟨rfl, rfl⟩
  by_cases hn : nameB s = true
  · have HG : Hid (gotB l A 0 fl s = getB l s) := if_pos hn
    rw [hn]
    clear hn
    go_wp2_with fail
    refine (ref_var_calls w1 a l.length c l 0 fl s ga A.length gc (H.out.below (Ap.stable_cellsAt vrC) HB.out) HL.out).mono ?_
    rintro e w2 ⟨z, rfl, hz, hb2⟩
    have HB2 := Lib.hid (HB.out.trans (hb2.mono HB.out.size))
    have k0 := (hb2.block w.heap.size (by have := HBs.out; omega)).trans HB0.out
    clear c0 c1 c2 c3 f0 f1 f2 f3 HB0 HB hb2
    obtain ⟨⟨c0, c1, c2, c3⟩, f0, f1, f2, f3⟩ := env4 k0
    clear k0
    rcases hz with ⟨rfl, hh⟩ | ⟨i, hi, rfl, hg⟩
    · have HF := Lib.hid (get_none hh)
      clear hh
      go_wp2_with fail
      go_ret2
      unfold GetPost
      rw [HG.out, HF.out]
      exact ⟨rfl, HB2.out⟩
    · have HF := Lib.hid hg
      obtain ⟨b, off, hcs, hix⟩ := rv_at (H.out.below (Ap.stable_cellsAt vrC) HB2.out)
      have hx := fun W => hix .i64 i W hi
      obtain ⟨x0, x1⟩ := hcs i hi
      have t1 : decide ((i : Int) < 0) = false := decide_eq_false (by omega)
      have t2 : ¬ (i : Int) < 0 := by omega
      clear hg hcs hix
      generalize l[i]'hi = p at *
      generalize off + i * 2 = q at *
      go_wp2_with fail
      go_ret2
      unfold GetPost
      rw [HG.out, HF.out]
      exact ⟨rfl, HB2.out⟩
  have hn2 : nameB s = false := by simpa using hn
  have HG : Hid (gotB l A 0 fl s = if s = [] then none else if s = [63] then some (Lib.itoa 0) else if s = [35] then some (Lib.itoa (A.length : Int)) else if s = [45] then some fl else if s = [64] ∨ s = [42] then (if A = [] then none else some (Lib.join A ((ifsB l).take 1))) else argP A s) := if_neg hn
  rw [hn2]
  clear hn hn2
  by_cases s1 : s = [48]
  · have HG2 : Hid (gotB l A 0 fl s = some shN) := by
      show _ = _
      rw [HG.out, s1]
      rfl
    have z0 : ((str s).toList == [48]) = true := by rw [tl_eq, decide_eq_true s1]
    clear HG s1
    go_wp2_with fail
    go_ret2
    unfold GetPost
    rw [HG2.out]
    exact ⟨rfl, HB.out⟩
  have z0 : ((str s).toList == [48]) = false := by rw [tl_eq, decide_eq_false s1]
  have HS0 := Lib.hid s1
  clear s1
  by_cases s1 : s = [63]
  · have HG2 : Hid (gotB l A 0 fl s = some (Lib.itoa 0)) := by show _ = _; rw [HG.out, if_neg (by rw [s1]; decide), if_pos s1]
    have z3 : ((str s).toList == [63]) = true := by rw [tl_eq, decide_eq_true s1]
    clear HG s1
    go_wp2_with fail
    refine (ref_digits_calls w1 0 (by decide)).mono ?_
    rintro e w2 ⟨rfl, hb2⟩
    have HB2 := Lib.hid (HB.out.trans (hb2.mono HB.out.size))
    clear hb2
    go_wp2_with fail
    go_ret2
    unfold GetPost
    rw [HG2.out]
    exact ⟨rfl, HB2.out⟩
  have z3 : ((str s).toList == [63]) = false := by rw [tl_eq, decide_eq_false s1]
  rw [if_neg s1] at HG
  clear s1
  by_cases s1 : s = [35]
  · have HG2 : Hid (gotB l A 0 fl s = some (Lib.itoa (A.length : Int))) := by show _ = _; rw [HG.out, if_neg (by rw [s1]; decide), if_pos s1]
    have z4 : ((str s).toList == [35]) = true := by rw [tl_eq, decide_eq_true s1]
    clear HG s1
    go_wp2_with fail
    refine (ref_digits_calls w1 A.length (by have := HA2.out; omega)).mono ?_
    rintro e w2 ⟨rfl, hb2⟩
    have HB2 := Lib.hid (HB.out.trans (hb2.mono HB.out.size))
    clear hb2
    go_wp2_with fail
    go_ret2
    unfold GetPost
    rw [HG2.out]
    exact ⟨rfl, HB2.out⟩
  have z4 : ((str s).toList == [35]) = false := by rw [tl_eq, decide_eq_false s1]
  rw [if_neg s1] at HG
  clear s1
  by_cases s1 : s = [45]
  · have HG2 : Hid (gotB l A 0 fl s = some fl) := by show _ = _; rw [HG.out, if_neg (by rw [s1]; decide), if_pos s1]
    have z5 : ((str s).toList == [45]) = true := by rw [tl_eq, decide_eq_true s1]
    clear HG s1
    go_wp2_with fail
    go_ret2
    unfold GetPost
    rw [HG2.out]
    exact ⟨rfl, HB.out⟩
  have z5 : ((str s).toList == [45]) = false := by rw [tl_eq, decide_eq_false s1]
  rw [if_neg s1] at HG
  clear s1
  by_cases s1 : s = [64] ∨ s = [42]
  · have HG2 : Hid (gotB l A 0 fl s = if A = [] then none else some (Lib.join A ((ifsB l).take 1))) := by
      show _ = _
      rw [HG.out, if_neg (by rcases s1 with h | h <;> (rw [h]; decide)), if_pos s1]
    have z6 : (((str s).toList == [64]) = true) ∨ (((str s).toList == [64]) = false ∧ ((str s).toList == [42]) = true) := by
      rcases s1 with h | h
      · left; rw [tl_eq, decide_eq_true h]
      · right; exact ⟨by rw [tl_eq, h]; rfl, by rw [tl_eq, decide_eq_true h]⟩
    clear HG s1
    obtain ⟨I, hI⟩ : ∃ I, I = ifsB l := ⟨_, rfl⟩
    rw [← hI] at HG2
    have HI := Lib.hid hI
    clear hI
    rcases z6 with z6 | ⟨z6, z7⟩
    all_goals
      go_wp2_with fail
      refine (ref_ifs_calls w1 a l.length c l 0 fl ga A.length gc (H.out.below (Ap.stable_cellsAt vrC) HB.out) HL.out).mono ?_
      rintro e w2 ⟨rfl, hb2⟩
      rw [← HI.out]
      have HB2 := Lib.hid (HB.out.trans (hb2.mono HB.out.size))
      have HK0 := Lib.hid ((hb2.block w.heap.size (by have := HBs.out; omega)).trans HB0.out)
      clear c0 c1 c2 c3 f0 f1 f2 f3 HB hb2
      obtain ⟨⟨c0, c1, c2, c3⟩, f0, f1, f2, f3⟩ := env4 HK0.out
      have HJl := Lib.hid (take1_len I)
      obtain ⟨J, hJ⟩ : ∃ J, I.take 1 = J := ⟨_, rfl⟩
      have HJ := Lib.hid hJ
      rw [hJ] at HJl
      have HK : (1 < I.length ∧ ∀ w', (Instr.sliceAt 9 (.string (str I)) none (some (.int .i64 1)) none).run Tryd.prog w' = .ok (.string (str J)) w') ∨ (I.length ≤ 1 ∧ Hid (I = J)) := by
        by_cases h1 : 1 < I.length
        · left
          refine ⟨h1, fun w' => ?_⟩
          rw [← hJ]
          exact Sw.run_sub_h (P := Tryd.prog) (w := w') Tryd.underlying9 I .i64 1 (by omega)
        · right
          exact ⟨by omega, by show _ = _; rw [← hJ, List.take_of_length_le (by omega)]⟩
      clear hJ
      rcases HK with ⟨h1, hsl⟩ | ⟨h1, HIJ⟩
      · have d1 : decide ((1 : Int) < ((str I).size : Int)) = true := decide_eq_true (by rw [str_size]; omega)
        have d2 : decide ((1 : Int) < (I.length : Int)) = true := decide_eq_true (by omega)
        go_upto_region 21 with fail
        clear d1 d2 h1 hsl c0 c1 c2 c3 f0 f1 f2 f3
        have HWst : Hid (wantB A 0 0 I = []) := want_start A 0 I
        go_wp2_with fail
        go_loopw [9, 10] (fun v9 v10 wr => ∃ k : Nat, k ≤ A.length ∧ v10 = .int .i64 k ∧ v9 = .string (str (wantB A 0 k I)) ∧ w2 = wr) (fun _ v10 _ => A.length - (intOf v10).toNat)
        case atStart => exact ⟨0, Nat.zero_le _, rfl, by rw [HWst.out]; rfl, rfl⟩
        case round =>
          obtain ⟨k, hk, rfl, rfl, rfl⟩ := hrel
          obtain ⟨⟨c0, c1, c2, c3⟩, f0, f1, f2, f3⟩ := env4 HK0.out
          by_cases hlt : k < A.length
          · obtain ⟨b, off, hcs, hix⟩ := sts_at (HA.out.below (Ap.stable_cellsAt stC) HB2.out)
            have HStep := Lib.hid (want_step (s := I) (Nat.zero_le k) hlt)
            rw [HJ.out] at HStep
            have hix2 := fun W => hix 26 Tryd.underlying26 .i64 k W hlt
            have hc := hcs k hlt
            have hl1 := want_len A 0 k I
            have hl2 := tot_at hlt
            have hl3 := HJl.out
            have hT := HT.out
            have hA2 := HA2.out
            have hno1 : ¬ 9223372036854775807 < (str (wantB A 0 k I)).size + (str J).size := by rw [str_size, str_size]; omega
            have hno2 : ¬ 9223372036854775807 < (str (wantB A 0 k I)).size + (str A[k]).size := by rw [str_size, str_size]; omega
            have hno3 : ¬ 9223372036854775807 < (str (wantB A 0 k I)).size + (str J).size + (str A[k]).size := by rw [str_size, str_size, str_size]; omega
            clear hcs hix hl1 hl2 hl3 hT
            have u3 : decide (k < A.length) = true := decide_eq_true (by omega)
            have u1 : decide ((k : Int) < (A.length : Int)) = true := decide_eq_true (by omega)
            have u2 : (k : Int) < (A.length : Int) := by omega
            have E0 : Hid (k = 0 → wantB A 0 k I = []) := by show _ → _; rintro rfl; exact want_start _ _ _
            generalize wantB A 0 k I = X at *
            generalize A[k]'hlt = x at *
            by_cases hgt : 0 < k
            · have y1 : decide ((0 : Int) < (k : Int)) = true := decide_eq_true (by omega)
              have y2 : (0 : Int) < (k : Int) := by omega
              go_wp2_with fail
              go_roundw
              case rel => exact ⟨k + 1, by omega, by go_num, by rw [HStep.out, if_pos hgt, str_append, str_append], trivial⟩
              case measure => simp [intOf]; omega
            · have y1 : decide ((0 : Int) < (k : Int)) = false := decide_eq_false (by omega)
              have y2 : ¬ (0 : Int) < (k : Int) := by omega
              have HX : Hid (X = []) := E0.out (by omega)
              have HGt := Lib.hid hgt
              clear hgt
              go_wp2_with fail
              go_roundw
              case rel => exact ⟨k + 1, by omega, by go_num, by rw [HStep.out, if_neg HGt.out, HX.out, str_append], trivial⟩
              case measure => simp [intOf]; omega
          · obtain rfl : k = A.length := by omega
            have HEnd : Hid (wantB A 0 A.length I = Lib.join A J) := by
              show _ = _
              rw [want_end, List.drop_zero, HJ.out]
            have u3 : decide (A.length < A.length) = false := decide_eq_false (by omega)
            have u1 : decide ((A.length : Int) < (A.length : Int)) = false := decide_eq_false (by omega)
            have u2 : ¬ ((A.length : Int) < (A.length : Int)) := by omega
            have HC1 := Lib.hid c1
            go_upto_region 28 with fail
            generalize wantB A 0 A.length I = X at *
            refine Rg.wp_region_rgt 7 [] [Rg.Is (.string (str X)), Rg.Is (.pointer (some ⟨w.heap.size, 1, none⟩)), Rg.Is (.slice ga A.length gc), Rg.Is (.int .i64 (A.length : Int)), Rg.Is (.bool (decide (0 < (A.length : Int)))), Rg.Is (.string (str X)), Rg.Is (.bool (decide (0 < (A.length : Int))))] (by kernel_rfl) (by kernel_rfl) (of_decide_eq_true (by kernel_rfl)) (by kernel_rfl) (by kernel_rfl) ⟨Rg.st_is _, Rg.st_is _, Rg.st_is _, Rg.st_is _, Rg.st_is _, Rg.st_is _, Rg.st_is _, trivial⟩ ⟨rfl, rfl, rfl, rfl, rfl, rfl, rfl, trivial⟩ ⟨?_, ?_, ?_, ?_, ?_, ?_, ?_, trivial⟩ ?_
            · intro _ a wx hb hk
              have h9 : a.eval (.tmp 9) = .string (str X) := Eq.mp (by kernel_rfl) (hk 9 (by decide))
              exact Rg.does_move ⟨Below.refl _ _, h9⟩
            · intro _ a wx hb hk
              have h2 : a.eval (.tmp 2) = .pointer (some ⟨w.heap.size, 0, none⟩) := Eq.mp (by kernel_rfl) (hk 2 (by decide))
              exact Rs.does_field _ _ h2 (rE_f1 w.heap.size wx) ⟨Below.refl _ _, rfl⟩
            · intro _ a wx hb hk
              have h74 : a.eval (.tmp 74) = .pointer (some ⟨w.heap.size, 1, none⟩) := Eq.mp (by kernel_rfl) (hk 74 (by decide))
              exact Rg.does_load _ _ h74 (load_strs (cell_below hb (Nat.le_refl _) HC1.out)) ⟨Below.refl _ _, rfl⟩
            · intro _ a wx hb hk
              have h75 : a.eval (.tmp 75) = .slice ga A.length gc := Eq.mp (by kernel_rfl) (hk 75 (by decide))
              exact Rg.does_len _ _ _ Tryd.underlying26 h75 ⟨Below.refl _ _, rfl⟩
            · intro _ a wx hb hk
              have h76 : a.eval (.tmp 76) = .int .i64 (A.length : Int) := Eq.mp (by kernel_rfl) (hk 76 (by decide))
              exact Rg.does_bin .i64 _ _ (.bool (decide (0 < (A.length : Int)))) h76 rfl (by simp [binOp, Op.intCmp]) ⟨Below.refl _ _, rfl⟩
            · intro _ a wx hb hk
              have h73 : a.eval (.tmp 73) = .string (str X) := Eq.mp (by kernel_rfl) (hk 73 (by decide))
              exact Rg.does_assign ⟨Below.refl _ _, h73⟩
            · intro _ a wx hb hk
              have h77 : a.eval (.tmp 77) = .bool (decide (0 < (A.length : Int))) := Eq.mp (by kernel_rfl) (hk 77 (by decide))
              exact Rg.does_assign ⟨Below.refl _ _, h77⟩
            intro vals wD hbD hL
            obtain ⟨g0, g1, g2, g3, g4, g5, g6, _⟩ := hL
            have g5' : vals 5 = .string (str X) := g5
            have g6' : vals 6 = .bool (decide (0 < (A.length : Int))) := g6
            have HBD := Lib.hid (HB2.out.trans (hbD.mono HB2.out.size))
            clear g0 g1 g2 g3 g4 g5 g6 hbD c0 c1 c2 c3 f0 f1 f2 f3
            simp only [Rg.putAll, List.take_succ_cons, List.take_zero, List.drop_succ_cons, List.drop_zero, List.setIfInBounds_toArray, List.set_cons_succ, List.set_cons_zero, g5', g6']
            clear g5' g6'
            go_wp2_with fail
            go_ret2
            unfold GetPost
            rw [HG2.out]
            refine ⟨?_, HBD.out⟩
            rw [HEnd.out]
            by_cases hA0 : A = []
            · rw [if_pos hA0, hA0]
              rfl
            · have hlp : 0 < A.length := List.length_pos_iff.2 hA0
              rw [if_neg hA0, HJ.out, decide_eq_true (by omega)]
              rfl
      · have d1 : decide ((1 : Int) < ((str I).size : Int)) = false := decide_eq_false (by rw [str_size]; omega)
        have d2 : decide ((1 : Int) < (I.length : Int)) = false := decide_eq_false (by omega)
        go_upto_region 21 with fail
        clear d1 d2 h1 c0 c1 c2 c3 f0 f1 f2 f3
        rw [HIJ.out]
        have HWst : Hid (wantB A 0 0 I = []) := want_start A 0 I
        go_wp2_with fail
        go_loopw [9, 10] (fun v9 v10 wr => ∃ k : Nat, k ≤ A.length ∧ v10 = .int .i64 k ∧ v9 = .string (str (wantB A 0 k I)) ∧ w2 = wr) (fun _ v10 _ => A.length - (intOf v10).toNat)
        case atStart => exact ⟨0, Nat.zero_le _, rfl, by rw [HWst.out]; rfl, rfl⟩
        case round =>
          obtain ⟨k, hk, rfl, rfl, rfl⟩ := hrel
          obtain ⟨⟨c0, c1, c2, c3⟩, f0, f1, f2, f3⟩ := env4 HK0.out
          by_cases hlt : k < A.length
          · obtain ⟨b, off, hcs, hix⟩ := sts_at (HA.out.below (Ap.stable_cellsAt stC) HB2.out)
            have HStep := Lib.hid (want_step (s := I) (Nat.zero_le k) hlt)
            rw [HJ.out] at HStep
            have hix2 := fun W => hix 26 Tryd.underlying26 .i64 k W hlt
            have hc := hcs k hlt
            have hl1 := want_len A 0 k I
            have hl2 := tot_at hlt
            have hl3 := HJl.out
            have hT := HT.out
            have hA2 := HA2.out
            have hno1 : ¬ 9223372036854775807 < (str (wantB A 0 k I)).size + (str J).size := by rw [str_size, str_size]; omega
            have hno2 : ¬ 9223372036854775807 < (str (wantB A 0 k I)).size + (str A[k]).size := by rw [str_size, str_size]; omega
            have hno3 : ¬ 9223372036854775807 < (str (wantB A 0 k I)).size + (str J).size + (str A[k]).size := by rw [str_size, str_size, str_size]; omega
            clear hcs hix hl1 hl2 hl3 hT
            have u3 : decide (k < A.length) = true := decide_eq_true (by omega)
            have u1 : decide ((k : Int) < (A.length : Int)) = true := decide_eq_true (by omega)
            have u2 : (k : Int) < (A.length : Int) := by omega
            have E0 : Hid (k = 0 → wantB A 0 k I = []) := by show _ → _; rintro rfl; exact want_start _ _ _
            generalize wantB A 0 k I = X at *
            generalize A[k]'hlt = x at *
            by_cases hgt : 0 < k
            · have y1 : decide ((0 : Int) < (k : Int)) = true := decide_eq_true (by omega)
              have y2 : (0 : Int) < (k : Int) := by omega
              go_wp2_with fail
              go_roundw
              case rel => exact ⟨k + 1, by omega, by go_num, by rw [HStep.out, if_pos hgt, str_append, str_append], trivial⟩
              case measure => simp [intOf]; omega
            · have y1 : decide ((0 : Int) < (k : Int)) = false := decide_eq_false (by omega)
              have y2 : ¬ (0 : Int) < (k : Int) := by omega
              have HX : Hid (X = []) := E0.out (by omega)
              have HGt := Lib.hid hgt
              clear hgt
              go_wp2_with fail
              go_roundw
              case rel => exact ⟨k + 1, by omega, by go_num, by rw [HStep.out, if_neg HGt.out, HX.out, str_append], trivial⟩
              case measure => simp [intOf]; omega
          · obtain rfl : k = A.length := by omega
            have HEnd : Hid (wantB A 0 A.length I = Lib.join A J) := by
              show _ = _
              rw [want_end, List.drop_zero, HJ.out]
            have u3 : decide (A.length < A.length) = false := decide_eq_false (by omega)
            have u1 : decide ((A.length : Int) < (A.length : Int)) = false := decide_eq_false (by omega)
            have u2 : ¬ ((A.length : Int) < (A.length : Int)) := by omega
            have HC1 := Lib.hid c1
            go_upto_region 28 with fail
            generalize wantB A 0 A.length I = X at *
            refine Rg.wp_region_rgt 7 [] [Rg.Is (.string (str X)), Rg.Is (.pointer (some ⟨w.heap.size, 1, none⟩)), Rg.Is (.slice ga A.length gc), Rg.Is (.int .i64 (A.length : Int)), Rg.Is (.bool (decide (0 < (A.length : Int)))), Rg.Is (.string (str X)), Rg.Is (.bool (decide (0 < (A.length : Int))))] (by kernel_rfl) (by kernel_rfl) (of_decide_eq_true (by kernel_rfl)) (by kernel_rfl) (by kernel_rfl) ⟨Rg.st_is _, Rg.st_is _, Rg.st_is _, Rg.st_is _, Rg.st_is _, Rg.st_is _, Rg.st_is _, trivial⟩ ⟨rfl, rfl, rfl, rfl, rfl, rfl, rfl, trivial⟩ ⟨?_, ?_, ?_, ?_, ?_, ?_, ?_, trivial⟩ ?_
            · intro _ a wx hb hk
              have h9 : a.eval (.tmp 9) = .string (str X) := Eq.mp (by kernel_rfl) (hk 9 (by decide))
              exact Rg.does_move ⟨Below.refl _ _, h9⟩
            · intro _ a wx hb hk
              have h2 : a.eval (.tmp 2) = .pointer (some ⟨w.heap.size, 0, none⟩) := Eq.mp (by kernel_rfl) (hk 2 (by decide))
              exact Rs.does_field _ _ h2 (rE_f1 w.heap.size wx) ⟨Below.refl _ _, rfl⟩
            · intro _ a wx hb hk
              have h74 : a.eval (.tmp 74) = .pointer (some ⟨w.heap.size, 1, none⟩) := Eq.mp (by kernel_rfl) (hk 74 (by decide))
              exact Rg.does_load _ _ h74 (load_strs (cell_below hb (Nat.le_refl _) HC1.out)) ⟨Below.refl _ _, rfl⟩
            · intro _ a wx hb hk
              have h75 : a.eval (.tmp 75) = .slice ga A.length gc := Eq.mp (by kernel_rfl) (hk 75 (by decide))
              exact Rg.does_len _ _ _ Tryd.underlying26 h75 ⟨Below.refl _ _, rfl⟩
            · intro _ a wx hb hk
              have h76 : a.eval (.tmp 76) = .int .i64 (A.length : Int) := Eq.mp (by kernel_rfl) (hk 76 (by decide))
              exact Rg.does_bin .i64 _ _ (.bool (decide (0 < (A.length : Int)))) h76 rfl (by simp [binOp, Op.intCmp]) ⟨Below.refl _ _, rfl⟩
            · intro _ a wx hb hk
              have h73 : a.eval (.tmp 73) = .string (str X) := Eq.mp (by kernel_rfl) (hk 73 (by decide))
              exact Rg.does_assign ⟨Below.refl _ _, h73⟩
            · intro _ a wx hb hk
              have h77 : a.eval (.tmp 77) = .bool (decide (0 < (A.length : Int))) := Eq.mp (by kernel_rfl) (hk 77 (by decide))
              exact Rg.does_assign ⟨Below.refl _ _, h77⟩
            intro vals wD hbD hL
            obtain ⟨g0, g1, g2, g3, g4, g5, g6, _⟩ := hL
            have g5' : vals 5 = .string (str X) := g5
            have g6' : vals 6 = .bool (decide (0 < (A.length : Int))) := g6
            have HBD := Lib.hid (HB2.out.trans (hbD.mono HB2.out.size))
            clear g0 g1 g2 g3 g4 g5 g6 hbD c0 c1 c2 c3 f0 f1 f2 f3
            simp only [Rg.putAll, List.take_succ_cons, List.take_zero, List.drop_succ_cons, List.drop_zero, List.setIfInBounds_toArray, List.set_cons_succ, List.set_cons_zero, g5', g6']
            clear g5' g6'
            go_wp2_with fail
            go_ret2
            unfold GetPost
            rw [HG2.out]
            refine ⟨?_, HBD.out⟩
            rw [HEnd.out]
            by_cases hA0 : A = []
            · rw [if_pos hA0, hA0]
              rfl
            · have hlp : 0 < A.length := List.length_pos_iff.2 hA0
              rw [if_neg hA0, HJ.out, decide_eq_true (by omega)]
              rfl
  have z6 : ((str s).toList == [64]) = false := by rw [tl_eq, decide_eq_false (fun h => s1 (.inl h))]
  have z7 : ((str s).toList == [42]) = false := by rw [tl_eq, decide_eq_false (fun h => s1 (.inr h))]
  rw [if_neg s1] at HG
  clear s1
  have HArg : Hid (gotB l A 0 fl s = argP A s) := by
    show _ = _
    by_cases hs0 : s = []
    · rw [HG.out, if_pos hs0, argP_none HA2.out HS0.out]
      intro k hk
      rw [hs0, itoa_two (by have := HA2.out; omega)]
      split <;> decide
    · rw [HG.out, if_neg hs0]
  clear HG
  go_upto_region 29 with fail
  clear c0 c1 c2 c3 f0 f1 f2 f3 z0 z3 z4 z5 z6 z7
  go_wp2_with fail
  go_loopw [11] (fun v11 wr => ∃ k : Nat, k ≤ A.length ∧ v11 = .int .i64 k ∧ (∀ j, j < k → Lib.itoa ((j : Int) + 1) ≠ s) ∧ Below w1.heap.size w1 wr) (fun v11 _ => A.length - (intOf v11).toNat)
  case atStart => exact ⟨0, Nat.zero_le _, rfl, fun j h => absurd h (Nat.not_lt_zero _), Below.refl _ _⟩
  case round =>
    obtain ⟨k, hk, rfl, hp, hb⟩ := hrel
    have HP := Lib.hid hp
    have HBr := Lib.hid hb
    have HK := Lib.hid ((hb.block w.heap.size (by have := HBs.out; omega)).trans HB0.out)
    clear hp hb
    obtain ⟨⟨c0, c1, c2, c3⟩, f0, f1, f2, f3⟩ := env4 HK.out
    have hA2 := HA2.out
    by_cases hlt : k < A.length
    · have u3 : decide (k < A.length) = true := decide_eq_true (by omega)
      have u1 : decide ((k : Int) < (A.length : Int)) = true := decide_eq_true (by omega)
      have u2 : (k : Int) < (A.length : Int) := by omega
      go_wp2_with fail
      have hd := ref_digits_calls wr (k + 1) (by omega)
      rw [show ((k + 1 : Nat) : Int) = (k : Int) + 1 from rfl] at hd
      refine hd.mono ?_
      rintro e w3 ⟨rfl, hb3⟩
      have HB3 := Lib.hid (HBr.out.trans (hb3.mono HBr.out.size))
      have HK3 := Lib.hid ((hb3.block w.heap.size (by have := HBs.out; have := HBr.out.size; omega)).trans HK.out)
      clear hb3 hd c0 c1 c2 c3 f0 f1 f2 f3
      obtain ⟨⟨c0, c1, c2, c3⟩, f0, f1, f2, f3⟩ := env4 HK3.out
      by_cases he : Lib.itoa ((k : Int) + 1) = s
      · have HF := Lib.hid (argP_step HA2.out HS0.out hlt he)
        have d1 : ((str (Lib.itoa ((k : Int) + 1))).toList == (str s).toList) = true := by rw [he]; exact beq_self_eq_true _
        obtain ⟨b, off, hcs, hix⟩ := sts_at (HA.out.below (Ap.stable_cellsAt stC) (HB.out.trans (HB3.out.mono HB.out.size)))
        have hx := fun W => hix 26 Tryd.underlying26 .i64 k W hlt
        have x0 := hcs k hlt
        clear he hcs hix
        generalize A[k]'hlt = p at *
        generalize off + k = q at *
        generalize Lib.itoa ((k : Int) + 1) = dg at *
        go_wp2_with fail
        go_ret2
        unfold GetPost
        rw [HArg.out, HF.out]
        exact ⟨rfl, HB.out.trans (HB3.out.mono HB.out.size)⟩
      · have d1 : ((str (Lib.itoa ((k : Int) + 1))).toList == (str s).toList) = false := by rw [str_toList, str_toList]; simpa using he
        have HF : Hid (∀ j, j < k + 1 → Lib.itoa ((j : Int) + 1) ≠ s) := by
          show ∀ j, _ → _
          intro j hj
          by_cases e : j = k
          · rw [e]; exact he
          · exact HP.out j (by omega)
        clear he
        generalize Lib.itoa ((k : Int) + 1) = dg at *
        go_wp2_with fail
        go_roundw
        case rel => exact ⟨k + 1, by omega, by go_num, HF.out, HB3.out⟩
        case measure => simp [intOf]; omega
    · obtain rfl : k = A.length := by omega
      have HF := Lib.hid (argP_none HA2.out HS0.out HP.out)
      have u3 : decide (A.length < A.length) = false := decide_eq_false (by omega)
      have u1 : decide ((A.length : Int) < (A.length : Int)) = false := decide_eq_false (by omega)
      have u2 : ¬ ((A.length : Int) < (A.length : Int)) := by omega
      go_wp2_with fail
      go_ret2
      unfold GetPost
      rw [HArg.out, HF.out]
      exact ⟨rfl, HB.out.trans (HBr.out.mono HB.out.size)⟩
end Go.Proofs.YtchmpkgjjkfjcaaDoor
