/-
  The walk of the statement FrameTurns: bytes of which up to 32 bits on end, within one frame's row, or its sum, are others, are scanned up to that frame: true; nothing that was there turns. Conditions: the arguments can be read.
-/
import Derived.Test.YtbbnopikinlcdaaFrWords
import Derived.Test.YtbbnopikinlcdaaCrcTurnsLaw
import Derived.Test.YtbbnopikinlcdaaRegion
import Derived.Test.YtbbnopikinlcdaaRegionS
set_option linter.unusedVariables false
namespace Go.Proofs.Ytbbnopikinlcdaa
open Go.RowKit Base

set_option maxHeartbeats 4000000 in
set_option maxRecDepth 100000 in
theorem fr_turns_law (w : World) (a0 : Option Addr) (n cap : Nat) (ls : List (List UInt8)) (h0 : ByteRows w a0 n cap ls) (wh : Nat) (hwh : wh ≤ 255) (at0 : Nat) (hat : at0 ≤ 65535) (t : BitVec 32) :
    Calls Try.prog 14 #[.slice a0 n cap, .int .u8 (wh : Int), .int .u16 (at0 : Int), .int .u32 (t.toNat : Int)] w fun e w' => e = .returned (.bool true) ∧ Below w.heap.size w w' := by
  have hc0 := h0.2.2.1
  have hn0 := h0.2.1
  unfold maxLen at hc0
  have htl := t.isLt
  have Hn := Lib.hid h0.1
  have H0 := Lib.hid h0; clear h0
  have Haw := Lib.hid (fr_awake_calls w)
  cases hfew : fewF ls with
  | false =>
    have Hfew := Lib.hid hfew; clear hfew
    go_enter Try.func14, Try.ntmps14
    go_wp2_with fail
    refine Haw.out.mono ?_
    rintro e w1 ⟨rfl, hb1⟩
    go_wp2_with fail
    refine (fr_few_calls w1 a0 n cap ls (H0.out.below stable_bytesCell hb1)).mono ?_
    rintro e w2 ⟨rfl, rfl⟩
    rw [Hfew.out]
    go_wp2_with fail
    go_ret
    exact ⟨rfl, hb1⟩
  | true =>
    obtain ⟨hF1, hF2⟩ := (fewF_iff ls).1 hfew
    have Hfew := Lib.hid hfew; clear hfew
    have hL := framesB_len hF1
    have HLs : Hid (∀ l ∈ ls, l.length ≤ 65536) := fun l hl => by have := hF1 l hl; omega
    have HF1 := Lib.hid hF1
    have hn20 : n ≤ 20 := by rw [Hn.out]; exact hF2
    have hL2 : (framesB ls).length ≤ 12280 := by omega
    clear hF1 hL hF2
    by_cases hn00 : n = 0
    · subst hn00
      go_enter Try.func14, Try.ntmps14
      go_wp2_with fail
      refine Haw.out.mono ?_
      rintro e w1 ⟨rfl, hb1⟩
      go_wp2_with fail
      refine (fr_few_calls w1 a0 0 cap ls (H0.out.below stable_bytesCell hb1)).mono ?_
      rintro e w2 ⟨rfl, rfl⟩
      rw [Hfew.out]
      go_wp2_with fail
      go_ret
      exact ⟨rfl, hb1⟩
    have t1 : ((n : Int) == 0) = false := by rw [beq_eq_false_iff_ne]; omega
    have t2 : ¬ (n : Int) = 0 := by omega
    by_cases hz : t = 0#32
    · have hz' : ((t.toNat : Int) == 0) = true := by rw [hz]; rfl
      clear hz
      go_enter Try.func14, Try.ntmps14
      go_wp2_with fail
      refine Haw.out.mono ?_
      rintro e w1 ⟨rfl, hb1⟩
      go_wp2_with fail
      refine (fr_few_calls w1 a0 n cap ls (H0.out.below stable_bytesCell hb1)).mono ?_
      rintro e w2 ⟨rfl, rfl⟩
      rw [Hfew.out]
      go_wp2_with fail
      go_ret
      exact ⟨rfl, hb1⟩
    have hz' : ((t.toNat : Int) == 0) = false := by
      rw [beq_eq_false_iff_ne]
      intro hc
      apply hz
      apply BitVec.eq_of_toNat_eq
      simp
      omega
    have HZ := Lib.hid hz; clear hz
    obtain ⟨kk, hkk⟩ : ∃ kk : Nat, kk = wh % n := ⟨_, rfl⟩
    have hkn : kk < n := by rw [hkk]; exact Nat.mod_lt wh (by omega)
    have hkI : (wh : Int) % (n : Int) = (kk : Int) := by rw [hkk]; simp
    have hkT : Int.tmod (wh : Int) (n : Int) = (kk : Int) := by rw [← hkI]; exact Int.tmod_eq_emod_of_nonneg (by omega)
    clear hkk
    have hkl : kk < ls.length := by rw [← Hn.out]; exact hkn
    obtain ⟨fr, hfr⟩ : ∃ fr : Nat → Nat, ∀ i, fr i = (framesB (ls.take i)).length := ⟨fun i => (framesB (ls.take i)).length, fun _ => rfl⟩
    have HFR := Lib.hid hfr
    have F0 : Hid (fr 0 = 0) := by show _ = _; rw [hfr]; rfl
    have FSq : Hid (∀ i (hi : i < ls.length), fr (i + 1) = fr i + ((VarPlain.num ls[i].length).length + ls[i].length + 4)) := fun i hi => by rw [hfr, hfr, framesB_take ls i hi, List.length_append, oneF_len]
    have FL : Hid (∀ i, fr i ≤ 12280) := fun i => by rw [hfr]; exact Nat.le_trans (framesB_take_le ls i) hL2
    have HLE : Hid (∀ i, fr i ≤ (framesB ls).length) := fun i => by rw [hfr]; exact framesB_take_le ls i
    clear hfr
    go_enter Try.func14, Try.ntmps14
    go_wp2_with fail
    refine Haw.out.mono ?_
    rintro e w1 ⟨rfl, hb1⟩
    go_wp2_with fail
    refine (fr_few_calls w1 a0 n cap ls (H0.out.below stable_bytesCell hb1)).mono ?_
    rintro e w2 ⟨rfl, rfl⟩
    rw [Hfew.out]
    have HB1 := Lib.hid hb1
    clear hb1 Hfew Haw
    go_wp2_with fail
    go_loopw [12, 13] (fun f i wr => ∃ j : Nat, j ≤ kk ∧ i = .int .i64 j ∧ f = .int .i64 (fr j : Int) ∧ Below w1.heap.size w1 wr) (fun _ i _ => kk - (intOf i).toNat)
    case atStart => exact ⟨0, Nat.zero_le _, rfl, by rw [F0.out]; rfl, Below.refl _ _⟩
    case round =>
      obtain ⟨j, hj, rfl, rfl, hbel⟩ := hrel
      have HBr := Lib.hid (HB1.out.trans (hbel.mono HB1.out.size))
      have Hbel := Lib.hid hbel; clear hbel
      have hf1 := FL.out j
      by_cases hlt : j < kk
      · have hjl : j < ls.length := by omega
        obtain ⟨br, og, hrow, hidx⟩ := at_rows (H0.out.below stable_bytesCell HBr.out)
        obtain ⟨ar, cr, hc, _⟩ := hrow j hjl
        have HI : Hid (∀ wx, (Instr.indexAt 70 (.slice a0 n cap) (.int .i64 (j : Int))).run Try.prog wx = .ok (.pointer (some ⟨br, og + j, none⟩)) wx) := fun wx => hidx .i64 j wx (by omega)
        have HC := Lib.hid hc
        have hsl := HF1.out _ (List.getElem_mem hjl)
        have HS := Lib.hid (FSq.out j hjl)
        have H64 : Hid (Lt64 ls[j].length) := by show _ < _; omega
        have hnl := num_len ls[j].length H64.out
        have hf2 := FL.out (j + 1)
        rw [HS.out] at hf2
        clear hrow hidx hc
        generalize ls[j]'hjl = s at *
        go_wp2_with fail
        refine Rg.wp_region_rgl [] [Rg.Is (.int .i64 (fr j : Int)), Rg.Is (.slice a0 n cap), Rg.Is (.int .i64 (j : Int)), Rg.Is (.pointer (some ⟨br, og + j, none⟩)), Rg.Is (.slice ar s.length cr), Rg.Is (.int .i64 (s.length : Int)), Rg.Is (.int .u64 (s.length : Int)), Rg.Is (.string (str (VarPlain.num s.length))), Rg.Is (.int .i64 ((VarPlain.num s.length).length : Int)), Rg.Is (.slice a0 n cap), Rg.Is (.int .i64 (j : Int)), Rg.Is (.pointer (some ⟨br, og + j, none⟩)), Rg.Is (.slice ar s.length cr), Rg.Is (.int .i64 (s.length : Int)), Rg.Is (.int .i64 (((VarPlain.num s.length).length : Int) + (s.length : Int))), Rg.Is (.int .i64 (((VarPlain.num s.length).length : Int) + (s.length : Int) + 4)), Rg.Is (.int .i64 ((fr j : Int) + (((VarPlain.num s.length).length : Int) + (s.length : Int) + 4))), Rg.Is (.int .i64 ((fr j : Int) + (((VarPlain.num s.length).length : Int) + (s.length : Int) + 4)))] (by kernel_rfl) (by kernel_rfl) (by kernel_rfl) ⟨Rg.st_is _, Rg.st_is _, Rg.st_is _, Rg.st_is _, Rg.st_is _, Rg.st_is _, Rg.st_is _, Rg.st_is _, Rg.st_is _, Rg.st_is _, Rg.st_is _, Rg.st_is _, Rg.st_is _, Rg.st_is _, Rg.st_is _, Rg.st_is _, Rg.st_is _, Rg.st_is _, trivial⟩ ⟨rfl, rfl, rfl, rfl, rfl, rfl, rfl, rfl, rfl, rfl, rfl, rfl, rfl, rfl, rfl, rfl, rfl, rfl, trivial⟩ ⟨?_, ?_, ?_, ?_, ?_, ?_, ?_, ?_, ?_, ?_, ?_, ?_, ?_, ?_, ?_, ?_, ?_, ?_, trivial⟩ ?_
        · intro _ a wx hb hk
          have h12 : a.eval (.tmp 12) = .int .i64 (fr j : Int) := Eq.mp (by kernel_rfl) (hk 12 (by decide))
          exact Rg.does_move ⟨Below.refl _ _, h12⟩
        · intro _ a wx hb hk
          have h0 : a.eval (.tmp 0) = .slice a0 n cap := Eq.mp (by kernel_rfl) (hk 0 (by decide))
          exact Rg.does_move ⟨Below.refl _ _, h0⟩
        · intro _ a wx hb hk
          have h13 : a.eval (.tmp 13) = .int .i64 (j : Int) := Eq.mp (by kernel_rfl) (hk 13 (by decide))
          exact Rg.does_move ⟨Below.refl _ _, h13⟩
        · intro _ a wx hb hk
          have h51 : a.eval (.tmp 51) = .slice a0 n cap := Eq.mp (by kernel_rfl) (hk 51 (by decide))
          have h52 : a.eval (.tmp 52) = .int .i64 (j : Int) := Eq.mp (by kernel_rfl) (hk 52 (by decide))
          exact Rg.does_index _ _ _ h51 h52 (HI.out wx) ⟨Below.refl _ _, rfl⟩
        · intro _ a wx hb hk
          have h53 : a.eval (.tmp 53) = .pointer (some ⟨br, og + j, none⟩) := Eq.mp (by kernel_rfl) (hk 53 (by decide))
          exact Rg.does_load _ _ h53 (load_row (cell_below hb (Nat.le_refl _) HC.out)) ⟨Below.refl _ _, rfl⟩
        · intro _ a wx hb hk
          have h54 : a.eval (.tmp 54) = .slice ar s.length cr := Eq.mp (by kernel_rfl) (hk 54 (by decide))
          exact Rg.does_len _ _ _ Try.underlying22 h54 ⟨Below.refl _ _, rfl⟩
        · intro _ a wx hb hk
          have h55 : a.eval (.tmp 55) = .int .i64 (s.length : Int) := Eq.mp (by kernel_rfl) (hk 55 (by decide))
          exact Rg.does_convert _ _ h55 (conv_u64F _ _ (by omega)) ⟨Below.refl _ _, rfl⟩
        · intro _ a wx hb hk
          have h56 : a.eval (.tmp 56) = .int .u64 (s.length : Int) := Eq.mp (by kernel_rfl) (hk 56 (by decide))
          refine Rg.does_func #[.int .u64 (s.length : Int)] Try.func24 (by kernel_rfl) (by kernel_rfl) (by simp [h56]) (var_ref_num_calls wx s.length H64.out) ?_
          rintro e' w' ⟨rfl, hb'⟩
          exact ⟨_, rfl, hb', rfl⟩
        · intro _ a wx hb hk
          have h57 : a.eval (.tmp 57) = .string (str (VarPlain.num s.length)) := Eq.mp (by kernel_rfl) (hk 57 (by decide))
          exact Rs.does_len_string (str (VarPlain.num s.length)) Try.underlying9 h57 ⟨Below.refl _ _, rfl⟩
        · intro _ a wx hb hk
          have h0 : a.eval (.tmp 0) = .slice a0 n cap := Eq.mp (by kernel_rfl) (hk 0 (by decide))
          exact Rg.does_move ⟨Below.refl _ _, h0⟩
        · intro _ a wx hb hk
          have h13 : a.eval (.tmp 13) = .int .i64 (j : Int) := Eq.mp (by kernel_rfl) (hk 13 (by decide))
          exact Rg.does_move ⟨Below.refl _ _, h13⟩
        · intro _ a wx hb hk
          have h59 : a.eval (.tmp 59) = .slice a0 n cap := Eq.mp (by kernel_rfl) (hk 59 (by decide))
          have h60 : a.eval (.tmp 60) = .int .i64 (j : Int) := Eq.mp (by kernel_rfl) (hk 60 (by decide))
          exact Rg.does_index _ _ _ h59 h60 (HI.out wx) ⟨Below.refl _ _, rfl⟩
        · intro _ a wx hb hk
          have h61 : a.eval (.tmp 61) = .pointer (some ⟨br, og + j, none⟩) := Eq.mp (by kernel_rfl) (hk 61 (by decide))
          exact Rg.does_load _ _ h61 (load_row (cell_below hb (Nat.le_refl _) HC.out)) ⟨Below.refl _ _, rfl⟩
        · intro _ a wx hb hk
          have h62 : a.eval (.tmp 62) = .slice ar s.length cr := Eq.mp (by kernel_rfl) (hk 62 (by decide))
          exact Rg.does_len _ _ _ Try.underlying22 h62 ⟨Below.refl _ _, rfl⟩
        · intro _ a wx hb hk
          have h58 : a.eval (.tmp 58) = .int .i64 ((VarPlain.num s.length).length : Int) := Eq.mp (by kernel_rfl) (hk 58 (by decide))
          have h63 : a.eval (.tmp 63) = .int .i64 (s.length : Int) := Eq.mp (by kernel_rfl) (hk 63 (by decide))
          exact Rg.does_bin .i64 _ _ _ h58 h63 (run_plus (by omega) (by omega)) ⟨Below.refl _ _, rfl⟩
        · intro _ a wx hb hk
          have h64 : a.eval (.tmp 64) = .int .i64 (((VarPlain.num s.length).length : Int) + (s.length : Int)) := Eq.mp (by kernel_rfl) (hk 64 (by decide))
          exact Rg.does_bin .i64 _ _ _ h64 rfl (run_plus (by omega) (by omega)) ⟨Below.refl _ _, rfl⟩
        · intro _ a wx hb hk
          have h50 : a.eval (.tmp 50) = .int .i64 (fr j : Int) := Eq.mp (by kernel_rfl) (hk 50 (by decide))
          have h65 : a.eval (.tmp 65) = .int .i64 (((VarPlain.num s.length).length : Int) + (s.length : Int) + 4) := Eq.mp (by kernel_rfl) (hk 65 (by decide))
          exact Rg.does_bin .i64 _ _ _ h50 h65 (run_plus (by omega) (by omega)) ⟨Below.refl _ _, rfl⟩
        · intro _ a wx hb hk
          have h66 : a.eval (.tmp 66) = .int .i64 ((fr j : Int) + (((VarPlain.num s.length).length : Int) + (s.length : Int) + 4)) := Eq.mp (by kernel_rfl) (hk 66 (by decide))
          exact Rg.does_assign ⟨Below.refl _ _, h66⟩
        intro vals wD hbD hL
        obtain ⟨g0, g1, g2, g3, g4, g5, g6, g7, g8, g9, g10, g11, g12, g13, g14, g15, g16, g17, _⟩ := hL
        have HBD : Hid (Below w1.heap.size w1 wD) := Hbel.out.trans (hbD.mono Hbel.out.size)
        have g17' : vals 17 = .int .i64 ((fr j : Int) + (((VarPlain.num s.length).length : Int) + (s.length : Int) + 4)) := g17
        clear g0 g1 g2 g3 g4 g5 g6 g7 g8 g9 g10 g11 g12 g13 g14 g15 g16 g17 hbD HI HC HBr Hbel H64
        simp only [Rg.putAll, List.setIfInBounds_toArray, List.set_cons_succ, List.set_cons_zero, g17']
        clear g17'
        generalize (VarPlain.num s.length).length = nb at *
        generalize s.length = sl at *
        go_wp2_with fail
        go_roundw
        case rel => exact ⟨j + 1, by omega, by go_num, by rw [HS.out]; simp, HBD.out⟩
        case measure => simp [intOf]; omega
      · obtain rfl : j = kk := by omega
        clear hlt hj F0
        -- the frame that is to be turned
        obtain ⟨br, og, hrow, hidx⟩ := at_rows (H0.out.below stable_bytesCell HBr.out)
        obtain ⟨ar, cr, hc, _⟩ := hrow j hkl
        have hix : ∀ wx, (Instr.indexAt 70 (.slice a0 n cap) (.int .i64 (j : Int))).run Try.prog wx = .ok (.pointer (some ⟨br, og + j, none⟩)) wx := fun wx => hidx .i64 j wx hkn
        have HC := Lib.hid hc
        have hsl := HF1.out _ (List.getElem_mem hkl)
        have HS := Lib.hid (FSq.out j hkl)
        have H64 : Hid (Lt64 ls[j].length) := by show _ < _; omega
        have hnl := num_len ls[j].length H64.out
        have hf2 := HLE.out (j + 1)
        rw [HS.out] at hf2
        have HTS := Lib.hid (fun (bit : Nat) (hb : bit + 32 ≤ 8 * (ls[j].length + 4)) (b : List UInt8) (hbb : b = CrcPlain.turned (framesB ls) (8 * (fr j + (VarPlain.num ls[j].length).length) + bit) t 32) => turned_scan ls HLs.out j hkl bit t HZ.out hb b (by rw [← HFR.out]; exact hbb))
        rw [← HFR.out] at HTS
        have HNum := Lib.hid (var_ref_num_calls wr ls[j].length H64.out)
        clear hrow hidx H64 FSq FL HLE HZ
        generalize ls[j]'hkl = s at *
        go_wp2_with fail
        refine HNum.out.mono ?_
        rintro e w3 ⟨rfl, hb3⟩
        have HC3 := Lib.hid (cell_below hb3 (Nat.le_refl _) HC.out)
        have HB3 : Hid (Below w.heap.size w w3) := HBr.out.trans (hb3.mono HBr.out.size)
        have hns : (str (VarPlain.num s.length)).size = (VarPlain.num s.length).length := rfl
        clear hc HC hb3 HNum HBr Hbel
        generalize hnbd : (VarPlain.num s.length).length = nb at *
        generalize str (VarPlain.num s.length) = ns at *
        clear hnbd
        generalize s.length = sl at *
        go_wp2_with fail
        refine (frame_put_calls w3 a0 n cap ls (H0.out.below stable_bytesCell HB3.out) HLs.out (by omega)).mono ?_
        rintro e w4 ⟨vb, rfl, hown4, hb4⟩
        have hc4 : w4.cell? ⟨br, og + j, none⟩ = some (.slice ar sl cr) := cell_below hb4 (Nat.le_refl _) HC3.out
        have HB4 : Hid (Below w.heap.size w w4) := HB3.out.trans (hb4.mono HB3.out.size)
        have hs34 : w3.heap.size ≤ w4.heap.size := hb4.size
        have hs03 : w.heap.size ≤ w3.heap.size := HB3.out.size
        clear HC3 hb4 HB3
        generalize framesB ls = bs at *
        obtain ⟨L, hLL⟩ : ∃ L, bs.length = L := ⟨_, rfl⟩
        rw [hLL] at hown4 hf2 hL2
        obtain ⟨g, cv, rfl, hgB, hcvn, hcvm⟩ : ∃ g cv, vb = .slice (some ⟨g, 0, none⟩) L cv ∧ w3.heap.size ≤ g ∧ L ≤ cv ∧ cv ≤ maxLen := by
          rcases hown4.2 with ⟨_, h⟩ | ⟨g, cp, cur, rfl, hb, hg, hnc, hcm, _⟩
          · omega
          · exact ⟨g, cp, rfl, hb, hnc, hcm⟩
        unfold maxLen at hcvm
        have d1 : decide ((L : Int) < (fr j : Int) + (nb : Int) + (sl : Int) + 4) = false := by simp; omega
        have d2 : ¬ (L : Int) < (fr j : Int) + (nb : Int) + (sl : Int) + 4 := by omega
        obtain ⟨bit, hbit, hbl⟩ : ∃ bit : Nat, (at0 : Int) % (8 * ((sl : Int) + 4) - 31) = (bit : Int) ∧ bit + 32 ≤ 8 * (sl + 4) := by
          have h1 := Int.emod_nonneg (at0 : Int) (show (8 * ((sl : Int) + 4) - 31) ≠ 0 by omega)
          have h2 := Int.emod_lt_of_pos (at0 : Int) (show 0 < (8 * ((sl : Int) + 4) - 31) by omega)
          exact ⟨((at0 : Int) % (8 * ((sl : Int) + 4) - 31)).toNat, by omega, by omega⟩
        have hbitT : Int.tmod (at0 : Int) (8 * ((sl : Int) + 4) - 31) = (bit : Int) := by rw [← hbit]; exact Int.tmod_eq_emod_of_nonneg (by omega)
        have HTS := Lib.hid (HTS.out bit hbl)
        generalize w3.heap.size = B at *
        have hs4 : B ≤ w4.heap.size := hs34
        obtain ⟨bt, hbt⟩ : ∃ bt, bt = 8 * (fr j + nb) + bit := ⟨_, rfl⟩
        rw [← hbt] at HTS
        go_upto_region 18 with fail
        clear hbitT HFR HS hns hbit hc4 hix hLL
        generalize hF : fr j = f0 at *
        clear hF
        go_wp2_with fail
        go_loopw [3, 17] (fun y i wr => ∃ m : Nat, m ≤ 32 ∧ i = .int .i64 m ∧ y = .int .u32 ((t.toNat / 2 ^ m : Nat) : Int) ∧ wr.ownsRow B 5 1 (.slice (some ⟨g, 0, none⟩) L cv) L ((CrcPlain.turned bs bt t m).map bv) ∧ Below w.heap.size w wr ∧ B ≤ wr.heap.size) (fun _ i _ => 32 - (intOf i).toNat)
        case atStart => exact ⟨0, by omega, rfl, by simp, hown4, HB4.out, hs4⟩
        case round =>
          obtain ⟨m, hm, rfl, rfl, hown, hbel, hBs⟩ := hrel
          clear hown4 HB4 hs4
          by_cases hm32 : m < 32
          · have Hnext : Hid (t.toNat / 2 ^ (m + 1) = t.toNat / 2 ^ m / 2) := by
              show _ = _
              rw [Nat.pow_succ, Nat.div_div_eq_div_mul]
            have Hbit := Lib.hid (bit_of t m)
            have hyl : t.toNat / 2 ^ m < 2 ^ 32 := Nat.lt_of_le_of_lt (Nat.div_le_self _ _) htl
            generalize t.toNat / 2 ^ m = y at *
            by_cases hodd : y % 2 = 1
            · have hodd' : (((y : Int) % 2) == 1) = true := by rw [beq_iff_eq]; omega
              have Hb : Hid (CrcPlain.turned bs bt t (m + 1) = CrcPlain.flip (CrcPlain.turned bs bt t m) (bt + m)) := by
                show _ = _
                rw [CrcPlain.turned, Hbit.out, if_pos (by simpa using hodd)]
              clear hodd
              obtain ⟨q, hq⟩ : ∃ q, q = (bit + m) % 8 := ⟨_, rfl⟩
              obtain ⟨jq, hjq⟩ : ∃ jq, jq = (bit + m) / 8 := ⟨_, rfl⟩
              have hq8 : q < 8 := by omega
              have hjn : f0 + nb + jq < L := by omega
              have hqi : ((bit : Int) + (m : Int)) % 8 = (q : Int) := by omega
              have hji : ((bit : Int) + (m : Int)) / 8 = (jq : Int) := by omega
              have Hq : Hid ((bt + m) % 8 = q) := by show _ = _; omega
              have Hj : Hid ((bt + m) / 8 = f0 + nb + jq) := by show _ = _; omega
              have Hjq : Hid (f0 + nb + jq ≤ 20000) := by show _ ≤ _; omega
              have hjb : f0 + nb + jq ≤ 20000 := Hjq.out
              have hbm : bit + m ≤ 10000 := by omega
              clear hq hjq
              go_wp2_with fail
              go_loopw [18, 19] (fun o i wx => ∃ p : Nat, p ≤ q ∧ i = .int .i64 p ∧ o = .int .u8 ((2 ^ p : Nat) : Int) ∧ wx = wr) (fun _ i _ => q - (intOf i).toNat)
              case atStart => exact ⟨0, by omega, by first | trivial | rfl, by first | trivial | rfl, by first | trivial | rfl⟩
              case round =>
                obtain ⟨p, hp, rfl, rfl, rfl⟩ := hrel
                by_cases hpq : p < q
                · have hpl := pow_le p (by omega)
                  have Hpn : Hid (2 ^ (p + 1) = 2 ^ p * 2) := by show _ = _; rw [Nat.pow_succ]
                  generalize 2 ^ p = z at *
                  go_wp2_with fail
                  go_roundw
                  case rel => exact ⟨p + 1, by omega, by go_num, by rw [Hpn.out]; rfl, by trivial⟩
                  case measure => simp [intOf]; omega
                · obtain rfl : p = q := by omega
                  have hlen : f0 + nb + jq < ((CrcPlain.turned bs bt t m).map bv).length := by rw [hown.1]; omega
                  have hlen2 : f0 + nb + jq < (CrcPlain.turned bs bt t m).length := by simpa using hlen
                  have hcell : wr.cell? ⟨g, f0 + nb + jq, none⟩ = some (.int .u8 (((CrcPlain.turned bs bt t m)[f0 + nb + jq]'hlen2).toNat : Int)) := by
                    rw [hown.cellAt (f0 + nb + jq) (by omega), List.getElem?_eq_getElem hlen, List.getElem_map]; rfl
                  have hfro := hown.frozenAt (f0 + nb + jq)
                  have hst := hown.stored (f0 + nb + jq) (bv ((CrcPlain.turned bs bt t m)[f0 + nb + jq]'hlen2 ^^^ UInt8.ofNat (2 ^ p)))
                  have Hset : Hid ((CrcPlain.turned bs bt t m).set (f0 + nb + jq) ((CrcPlain.turned bs bt t m)[f0 + nb + jq]'hlen2 ^^^ UInt8.ofNat (2 ^ p)) = CrcPlain.turned bs bt t (m + 1)) := by
                    show _ = _
                    rw [Hb.out, CrcPlain.flip, Hj.out, Hq.out]
                    simp [List.getD, List.getElem?_eq_getElem hlen2]
                  have hidx : ∀ (kd : IntKind) (w' : World), (Instr.indexAt 22 (.slice (some ⟨g, 0, none⟩) L cv) (.int kd ((f0 : Int) + (nb : Int) + (jq : Int)))).run Try.prog w' = .ok (.pointer (some ⟨g, f0 + nb + jq, none⟩)) w' := by
                    intro kd w'
                    have := idx_own (g := g) (n := L) (c := cv) (f0 + nb + jq) hjn kd w'
                    rw [show ((f0 + nb + jq : Nat) : Int) = (f0 : Int) + (nb : Int) + (jq : Int) from by simp] at this
                    exact this
                  have hown' : (wr.setCell ⟨g, f0 + nb + jq, none⟩ (bv ((CrcPlain.turned bs bt t m)[f0 + nb + jq]'hlen2 ^^^ UInt8.ofNat (2 ^ p)))).ownsRow B 5 1 (.slice (some ⟨g, 0, none⟩) L cv) L ((CrcPlain.turned bs bt t (m + 1)).map bv) := by
                    have := hst.1
                    rw [← List.map_set, Hset.out] at this
                    exact this
                  have hbel' : Below w.heap.size w (wr.setCell ⟨g, f0 + nb + jq, none⟩ (bv ((CrcPlain.turned bs bt t m)[f0 + nb + jq]'hlen2 ^^^ UInt8.ofNat (2 ^ p)))) := hbel.setCell (p := ⟨g, f0 + nb + jq, none⟩) (by simp; omega) _
                  have hx : bits .xor .u8 (((CrcPlain.turned bs bt t m)[f0 + nb + jq]'hlen2).toNat : Int) ((2 ^ p : Nat) : Int) = (((CrcPlain.turned bs bt t m)[f0 + nb + jq]'hlen2 ^^^ UInt8.ofNat (2 ^ p)).toNat : Int) := by
                    have h1 := xor_u8 ((CrcPlain.turned bs bt t m)[f0 + nb + jq]'hlen2) (UInt8.ofNat (2 ^ p))
                    rw [pow_u8 p hq8] at h1
                    exact h1
                  clear hst Hset hown hbel
                  generalize (CrcPlain.turned bs bt t m)[f0 + nb + jq]'hlen2 = c at *
                  generalize hcp : c ^^^ UInt8.ofNat (2 ^ p) = cp at *
                  clear hcp
                  unfold bv at hown' hbel'
                  have hp64 : 2 ^ p ≤ 128 := by
                    rcases (by omega : p = 0 ∨ p = 1 ∨ p = 2 ∨ p = 3 ∨ p = 4 ∨ p = 5 ∨ p = 6 ∨ p = 7) with rfl | rfl | rfl | rfl | rfl | rfl | rfl | rfl <;> decide
                  generalize 2 ^ p = z at *
                  go_wp2_with fail
                  go_roundw
                  case rel => exact ⟨m + 1, by omega, by go_num, by rw [Hnext.out]; rfl, hown', hbel', by simp; omega⟩
                  case measure => simp [intOf]; omega
            · have hodd' : (((y : Int) % 2) == 1) = false := by rw [beq_eq_false_iff_ne]; omega
              have Hb : Hid (CrcPlain.turned bs bt t (m + 1) = CrcPlain.turned bs bt t m) := by
                show _ = _
                rw [CrcPlain.turned, Hbit.out, if_neg (by simpa using hodd)]
              clear hodd
              go_wp2_with fail
              go_roundw
              case rel => exact ⟨m + 1, by omega, by go_num, by rw [Hnext.out]; rfl, by rw [Hb.out]; exact hown, hbel, hBs⟩
              case measure => simp [intOf]; omega
          · obtain rfl : m = 32 := by omega
            have HT := Lib.hid (HTS.out _ rfl)
            generalize CrcPlain.turned bs bt t 32 = lt at *
            obtain ⟨_, _, hvd, hrowd⟩ := ownsRow_bytes hown
            cases hvd
            have Hsc := Lib.hid (frame_scan_at wr (some ⟨g, 0, none⟩) L cv _ hrowd (by omega) j HT.out.1)
            rw [HT.out.2.1, HT.out.2.2] at Hsc
            simp only [] at Hsc
            clear hown hrowd HTS HT
            go_wp2_with fail
            refine Hsc.out.mono ?_
            rintro e ws ⟨al, cl, vs, rfl, _, _, hbs⟩
            have HBs := Lib.hid (hbel.trans (hbs.mono hbel.size))
            clear hbs Hsc
            go_wp2_with fail
            go_ret
            exact ⟨rfl, HBs.out⟩

end Go.Proofs.Ytbbnopikinlcdaa
