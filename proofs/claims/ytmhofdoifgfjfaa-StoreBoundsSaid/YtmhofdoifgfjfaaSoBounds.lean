/-
  Store: the statement StoreBounds, walked. Conditions: as each contract says.
-/
import Derived.Test.YtmhofdoifgfjfaaSoAt
import Derived.Test.YtmhofdoifgfjfaaSoBnd
set_option linter.unusedVariables false
set_option maxRecDepth 100000
namespace Go.Proofs.Ytmhofdoifgfjfaa
open Go.RowKit Base

set_option maxHeartbeats 4000000 in
theorem so_bounds (W : World) (ev0 mo0 : Int) (he0 : I64 ev0) (hm0 : I64 mo0) (y : Nat) (hy : y ≤ 255) : Calls Try.prog 3 #[.int .i64 ev0, .int .i64 mo0, .int .u8 (y : Int)] W fun r W' => r = .returned (.bool true) ∧ Below W.heap.size W W' := by
  have HE0 := Lib.hid he0
  have HM0 := Lib.hid hm0
  clear he0 hm0
  go_enter Try.func3, Try.ntmps3
  go_wp2_with fail
  refine (awake_calls W).mono ?_
  rintro r w1 ⟨rfl, hb1⟩
  have HB1 := Lib.hid hb1
  clear hb1
  go_wp2_with fail
  refine (new_calls w1 ev0 mo0 fA).mono ?_
  obtain ⟨B, hB⟩ : ∃ B, w1.heap.size = B := ⟨_, rfl⟩
  rw [hB]
  rintro r w2 ⟨rfl, hs2, hb2⟩
  have HBe := Lib.hid hB
  have HS2 := Lib.hid hs2
  have HL2 := Lib.hid hb2
  have HZ2 : Hid (B ≤ w2.heap.size) := by have := hb2.size; show _ ≤ _; omega
  obtain ⟨ev, hev⟩ : ∃ ev, max ev0 1 = ev := ⟨_, rfl⟩
  obtain ⟨mo, hmo⟩ : ∃ mo, max mo0 1 = mo := ⟨_, rfl⟩
  rw [hev, hmo] at HS2
  have hev1 : 1 ≤ ev := by omega
  have hmo1 : 1 ≤ mo := by omega
  clear hs2 hb2 hB
  go_wp2_with fail
  go_loopw [9] (fun v9 wr => ∃ (i : Nat) (v : Value), i ≤ y + 1 ∧ v9 = .int .i64 (i : Int) ∧ StoA wr B (B + 1) B v ev mo (rB ev mo i) i ∧ Below B w1 wr ∧ B ≤ wr.heap.size) (fun v9 _ => y + 1 - (intOf v9).toNat)
  case atStart => exact ⟨0, _, Nat.zero_le _, rfl, HS2.out, HL2.out, HZ2.out⟩
  case round =>
    obtain ⟨i, v, hi, rfl, hs, hl, hz⟩ := hrel
    have HS := Lib.hid hs
    have HL := Lib.hid hl
    have HZ := Lib.hid hz
    clear hs hl hz
    by_cases hlt : i ≤ y
    · have a3 : decide (i ≤ y) = true := decide_eq_true (by omega)
      have a1 : decide ((i : Int) ≤ (y : Int)) = true := decide_eq_true (by omega)
      have a2 : (i : Int) ≤ (y : Int) := by omega
      go_wp2_with fail
      refine (at_calls wr (i : Int)).mono ?_
      rintro r w3 ⟨a, c, rfl, ho, hb⟩
      obtain ⟨h1, h2, h3⟩ := at_keep HS.out HL.out HZ.out hb
      have HK := Lib.hid (keep_at w3 B (B + 1) B v ev mo (rB ev mo i) i (i : Int) _ a c h1 ⟨by omega, by omega⟩ (by omega) (by omega) ho h3)
      have H1 := Lib.hid h1
      have H2 := Lib.hid h2
      have H3 := Lib.hid h3
      clear h1 h2 h3 ho hb
      go_wp2_with fail
      refine HK.out.mono ?_
      rintro r w4 ⟨rfl, v4, hs4, ht, _⟩
      obtain ⟨pl, hpl⟩ : ∃ pl, rB ev mo (i + 1) = pl := ⟨_, rfl⟩
      have hs4' : StoA w4 B (B + 1) B v4 ev mo pl (i + 1) := by rw [← hpl]; exact hs4
      have HPl := Lib.hid hpl
      have HBn := Lib.hid (bnd_run hev1 hmo1 i)
      rw [hpl] at HBn
      have HS4 := Lib.hid hs4'
      have HL4 := Lib.hid (keep_low H1.out H2.out H3.out ht).1
      have HZ4 := Lib.hid (keep_low H1.out H2.out H3.out ht).2
      clear hs4 hs4' ht HK H1 H2 H3 hpl
      go_wp2_with fail
      refine (places_calls w4 B (B + 1) B v4 ev mo pl fA (i + 1) HS4.out (by omega)).mono ?_
      rintro r w5 ⟨vl, rfl, hl, hb⟩
      obtain ⟨al, cl, rfl, hli⟩ := own_ints hl
      obtain ⟨h1, h2, h3⟩ := at_keep HS4.out HL4.out HZ4.out hb
      have HS5 := Lib.hid h1
      have HL5 := Lib.hid h2
      have HZ5 := Lib.hid h3
      have HLi := Lib.hid hli
      obtain ⟨hnu, hnl, hnx⟩ := bnd_near HBn.out
      have hle := HBn.out.le
      have hhd := HBn.out.hd
      obtain ⟨bb, o, hc, hix⟩ := at_ints hli
      have e0 : w5.cell? ⟨bb, o, none⟩ = some (.int .i64 0) := by
        have := hc 0 hnl
        rw [List.getElem?_eq_getElem hnl] at hhd
        rw [Option.some.inj hhd] at this
        exact this
      have x0 : ∀ (kd : IntKind) (w' : World), (Instr.indexAt 41 (.slice al pl.length cl) (.int kd 0)).run Try.prog w' = .ok (.pointer (some ⟨bb, o, none⟩)) w' := fun kd w' => hix kd 0 w' hnl
      have HIx := Lib.hid fun kd w' => hix kd (pl.length - 1) w' (by omega)
      obtain ⟨x, hx⟩ : ∃ x, nearB pl (i : Int) = x := ⟨_, rfl⟩
      have HX := Lib.hid hx
      rw [hx] at hnx
      have hxm := List.mem_of_getElem? hnx
      have hxa := HBn.out.all x hxm
      have HC9 : Hid (∀ W', Below w5.heap.size w5 W' → W'.cell? ⟨bb, o + (pl.length - 1), none⟩ = some (.int .i64 x)) := fun W' hb => by
        have := hc (pl.length - 1) (by omega)
        rw [List.getElem?_eq_getElem (by omega)] at hnx
        rw [Option.some.inj hnx] at this
        exact cell_below hb (Nat.le_refl _) this
      have HNr := Lib.hid (near_calls w5 B (B + 1) B v4 ev mo pl fA (i + 1) (i : Int) h1 ⟨by omega, by omega⟩ (by omega))
      have HNu := Lib.hid hnu
      have HNx := Lib.hid hnx
      have HXa := Lib.hid hxa
      obtain ⟨L, hL⟩ : ∃ L, pl.length = L := ⟨_, rfl⟩
      rw [hL] at HIx HC9 hle hnl x0 HNu ⊢
      have HLe := Lib.hid hL
      have hLb : L ≤ 1000 := by have := h1.ln; omega
      have u1 : decide ((L : Int) = 0) = false := decide_eq_false (by omega)
      have u2 : ¬ (L : Int) = 0 := by omega
      have u3 : ((L : Int) == 0) = false := by rw [beq_eq_false_iff_ne]; exact u2
      have u4 : decide (max mo0 1 < (L : Int)) = false := decide_eq_false (by omega)
      have u5 : ¬ max mo0 1 < (L : Int) := by omega
      clear hl hb h1 h2 h3 hli hnu hnx hhd hc hix hx hxm hxa hL
      go_upto_region 12 with fail
      clear u1 u2 u3 u4 u5 e0 x0
      go_wp2_with fail
      refine HNr.out.mono ?_
      rintro r w6 ⟨⟨us, rfl, hul, hus, _⟩, hb⟩
      rw [HNu.out, HX.out] at hus ⊢
      have hL0 : ¬ L = 0 := by omega
      rw [if_neg hL0, decide_eq_true hL0]
      have hH := hus hL0
      obtain ⟨hd, _, _⟩ := at_cells hH
      have HHd := Lib.hid hd
      have HUl := Lib.hid hul
      have HOne := Lib.hid (state_1.one hH)
      obtain ⟨g1, g2, g3⟩ := at_keep HS5.out HL5.out HZ5.out hb
      have HS6 := Lib.hid g1
      have HL6 := Lib.hid g2
      have HZ6 := Lib.hid g3
      have HB56 := Lib.hid hb
      clear hus hH hd hul hb g1 g2 g3
      obtain ⟨t6, w7, hw7, ht6, hc6, hb6⟩ := new_box w6
      have HW7 : Hid (w6.alloc (.cells #[.slice none 0 0, .slice none 0 0, .int .i64 0, .string ⟨#[]⟩, .slice none 0 0, .slice none 0 0, .slice none 0 0, .slice none 0 0, .slice none 0 0, .int .i64 0, .int .i64 0, .int .i64 0, .string ⟨#[]⟩, .slice none 0 0, .int .i64 0, .int .i64 0, .int .i64 0, .int .i64 0, .string ⟨#[]⟩, .slice none 0 0, .int .i64 0, .slice none 0 0, .int .i64 0, .int .i64 0, .int .i64 0, .bool false, .bool false, .bool false, .int .i64 0] stT) = w7) := hw7
      have HT6 := Lib.hid ht6
      have HC6 := Lib.hid hc6
      have HB67 : Hid (Below w6.heap.size w6 (w7.setCells t6 0 us)) := hb6.grown (Sl.setCells_grown t6 us 0 w7) hb6.size (fun j hj => by have := Option.some.inj hj; omega)
      clear hw7 ht6 hc6 hb6
      go_upto_region 13 with (refine wpList_store_mid rfl stT (.tmp 12) (.tmp 54) rfl w6.heap.size 0 us.toArray rfl rfl (by rw [HW7.out, HT6.out]; exact there_cut HC6.out _ (by rw [List.size_toArray, HUl.out]; exact Nat.le_refl _)) (by rw [List.size_toArray, HUl.out]; exact info_st) (all_oneCell_toArray HOne.out) ?_)
      rw [HW7.out, HT6.out]
      have hCt : Cut t6 us stT (w7.setCells t6 0 us) := set_cut HC6.out (by rw [HUl.out]; rfl)
      change Code.wp _ _ _ _ (w7.setCells t6 0 us)
      generalize w7.setCells t6 0 us = w8 at *
      have c24 : w8.cell? ⟨t6, 24, none⟩ = some (.int .i64 x) := (hCt.cell 24).trans HHd.out
      obtain ⟨g1, g2, g3⟩ := at_keep HS6.out HL6.out HZ6.out HB67.out
      have HS8 := Lib.hid g1
      have HL8 := Lib.hid g2
      have HZ8 := Lib.hid g3
      have HB58 : Hid (Below w5.heap.size w5 w8) := HB56.out.trans (HB67.out.mono HB56.out.size)
      clear hCt g1 g2 g3
      have hxa := HXa.out
      have hme : max ev0 1 = ev := hev
      have v1 : decide ((i : Int) < x) = false := decide_eq_false (by omega)
      have v2 : ¬ (i : Int) < x := by omega
      have v3 : (x != x) = false := by simp
      have v4 : (x % max ev0 1 != 0) = false := by rw [hme, hxa.2.2]; rfl
      have v5 : x.tmod (max ev0 1) = x % max ev0 1 := Int.tmod_eq_emod_of_nonneg hxa.1
      have v6 : ¬ max ev0 1 = 0 := by omega
      have v7 : (x % max ev0 1) = 0 := by rw [hme]; exact hxa.2.2
      have v8 : x.tmod (max ev0 1) = 0 := by rw [v5, v7]
      go_upto_region 15 with fail
      clear v1 v2 v3 v4 v5 v6 v7 v8 c24
      have HLst : Hid (mo ≠ 1 → x = (i : Int) - (i : Int) % ev) := fun h1 => by
        have h2 := HBn.out.lst h1
        have h3 := HNx.out
        rw [h2] at h3
        exact (Option.some.inj h3).symm
      have hmd := Int.emod_lt_of_pos (i : Int) (by omega : 0 < ev)
      have hmn := Int.emod_nonneg (i : Int) (by omega : ev ≠ 0)
      go_cut [88] (fun s88 wx => s88 = .bool false ∧ wx = w8)
      case first =>
        by_cases hlm : (L : Int) < mo
        · have hx9 := HLst.out (by omega)
          have v1 : decide ((L : Int) < max mo0 1) = true := decide_eq_true (by omega)
          have v2 : (L : Int) < max mo0 1 := by omega
          have v3 : decide (max ev0 1 ≤ (i : Int) - x) = false := decide_eq_false (by omega)
          have v5 : decide (ev ≤ (i : Int) - x) = false := decide_eq_false (by omega)
          have v6 : decide ((L : Int) < mo) = true := decide_eq_true (by omega)
          have w4 : ¬ max ev0 1 ≤ (i : Int) - x := by omega
          clear hx9
          go_wp2_with fail
          go_meet
          exact ⟨rfl, rfl⟩
        · have v1 : decide ((L : Int) < max mo0 1) = false := decide_eq_false (by omega)
          have v2 : ¬ (L : Int) < max mo0 1 := by omega
          go_wp2_with fail
          go_meet
          exact ⟨rfl, rfl⟩
      case rest =>
        obtain ⟨rfl, hw⟩ := hcut
        have hw2 := hw.symm
        subst hw2
        clear hw
        go_upto_region 17 with fail
        by_cases h1 : 1 < mo0
        · have hx9 := HLst.out (by omega)
          have v1 : decide (1 < mo0) = true := decide_eq_true h1
          have e9 := HC9.out w8 HB58.out
          have x9 : ∀ (kd : IntKind) (w' : World), (Instr.indexAt 41 (.slice al L cl) (.int kd ((L : Int) - 1))).run Try.prog w' = .ok (.pointer (some ⟨bb, o + (pl.length - 1), none⟩)) w' := fun kd w' => by
            have := HIx.out kd w'
            rw [show ((L - 1 : Nat) : Int) = (L : Int) - 1 by omega] at this
            rw [HLe.out]
            exact this
          rw [← HLe.out] at e9
          have v5 : (i : Int).tmod ev = (i : Int) % ev := Int.tmod_eq_emod_of_nonneg (by omega)
          have v6 : ¬ ev = 0 := by omega
          have v7 : (x != wrap64 ((i : Int) - (i : Int) % ev)) = false := by
            have : wrap64 ((i : Int) - (i : Int) % ev) = x := by rw [← hx9]; unfold wrap64; omega
            rw [this]; simp
          clear hx9
          go_quiet (fail)
          go_wp2_with fail
          go_roundw
          case rel => exact ⟨i + 1, v4, by omega, by go_num, by rw [HPl.out]; exact HS8.out.below (drewN_below _ _), HL8.out.trans ((drewN_below _ _).mono HZ8.out), HZ8.out⟩
          case measure => simp [intOf]; omega
        · have v1 : decide (1 < mo0) = false := decide_eq_false h1
          go_quiet (fail)
          go_wp2_with fail
          go_roundw
          case rel => exact ⟨i + 1, v4, by omega, by go_num, by rw [HPl.out]; exact HS8.out.below (drewN_below _ _), HL8.out.trans ((drewN_below _ _).mono HZ8.out), HZ8.out⟩
          case measure => simp [intOf]; omega
    · obtain rfl : i = y + 1 := by omega
      have a1 : decide (((y + 1 : Nat) : Int) ≤ (y : Int)) = false := decide_eq_false (by omega)
      have a2 : ¬ ((y + 1 : Nat) : Int) ≤ (y : Int) := by omega
      have HFin : Hid (Below W.heap.size W wr) := HB1.out.trans (HL.out.mono (by have := HB1.out.size; have := HBe.out; omega))
      go_wp2_with fail
      go_ret
      exact ⟨rfl, HFin.out⟩
end Go.Proofs.Ytmhofdoifgfjfaa
