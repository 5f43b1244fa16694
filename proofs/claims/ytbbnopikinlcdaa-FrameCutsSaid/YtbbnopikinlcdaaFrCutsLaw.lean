/-
  The walk of the statement FrameCuts: of rows that are put, cut anywhere, just those whose frames are whole are scanned: true; nothing that was there turns. Conditions: the arguments can be read.
-/
import Derived.Test.YtbbnopikinlcdaaFrWords
import Derived.Test.YtbbnopikinlcdaaRegion
import Derived.Test.YtbbnopikinlcdaaRegionS
set_option linter.unusedVariables false
namespace Go.Proofs.Ytbbnopikinlcdaa
open Go.RowKit Base

set_option maxHeartbeats 4000000 in
set_option maxRecDepth 100000 in
theorem fr_cuts_law (w : World) (a0 : Option Addr) (n cap : Nat) (ls : List (List UInt8)) (h0 : ByteRows w a0 n cap ls) (ct : Nat) (hct : ct ≤ 65535) :
    Calls Try.prog 13 #[.slice a0 n cap, .int .u16 (ct : Int)] w fun e w' => e = .returned (.bool true) ∧ Below w.heap.size w w' := by
  have hc0 := h0.2.2.1
  have hn0 := h0.2.1
  unfold maxLen at hc0
  have Hn := Lib.hid h0.1
  have H0 := Lib.hid h0; clear h0
  have Haw := Lib.hid (fr_awake_calls w)
  cases hfew : fewF ls with
  | false =>
    have Hfew := Lib.hid hfew; clear hfew
    go_enter Try.func13, Try.ntmps13
    go_wp2_with fail
    refine Haw.out.mono ?_
    rintro e w1 ⟨rfl, hb1⟩
    go_wp2_with fail
    refine (fr_few_calls w1 a0 n cap ls (H0.out.below stable_bytesCell hb1)).mono ?_
    rintro e w2 ⟨rfl, rfl⟩
    rw [Hfew.out]
    go_wp2_with fail
    go_ret
    exact ⟨rfl, hb1⟩
  | true =>
    obtain ⟨hF1, hF2⟩ := (fewF_iff ls).1 hfew
    have Hfew := Lib.hid hfew; clear hfew
    have hL := framesB_len hF1
    have HLs : Hid (∀ l ∈ ls, l.length ≤ 65536) := fun l hl => by have := hF1 l hl; omega
    have HF1 := Lib.hid hF1
    have hn20 : n ≤ 20 := by rw [Hn.out]; exact hF2
    have hL2 : (framesB ls).length ≤ 12280 := by omega
    clear hF1 hL hF2
    obtain ⟨fr, hfr⟩ : ∃ fr : Nat → Nat, ∀ i, fr i = (framesB (ls.take i)).length := ⟨fun i => (framesB (ls.take i)).length, fun _ => rfl⟩
    have HFR := Lib.hid hfr
    have F0 : Hid (fr 0 = 0) := by show _ = _; rw [hfr]; rfl
    have FSq : Hid (∀ i (hi : i < ls.length), fr (i + 1) = fr i + ((VarPlain.num ls[i].length).length + ls[i].length + 4)) := fun i hi => by rw [hfr, hfr, framesB_take ls i hi, List.length_append, oneF_len]
    have FL : Hid (∀ i, fr i ≤ 12280) := fun i => by rw [hfr]; exact Nat.le_trans (framesB_take_le ls i) hL2
    clear hfr
    go_enter Try.func13, Try.ntmps13
    go_wp2_with fail
    refine Haw.out.mono ?_
    rintro e w1 ⟨rfl, hb1⟩
    have HB1 := Lib.hid hb1
    go_wp2_with fail
    refine (fr_few_calls w1 a0 n cap ls (H0.out.below stable_bytesCell HB1.out)).mono ?_
    rintro e w' ⟨rfl, rfl⟩
    rw [Hfew.out]
    clear hb1 Hfew Haw
    go_wp2_with fail
    refine (frame_put_calls w1 a0 n cap ls (H0.out.below stable_bytesCell HB1.out) HLs.out (by omega)).mono ?_
    rintro e w2 ⟨vb, rfl, hown2, hb2⟩
    obtain ⟨ab, cb, rfl, hrow2⟩ := ownsRow_bytes hown2
    have hcb := hrow2.2.2.1
    have hnb := hrow2.2.1
    unfold maxLen at hcb
    have HB2 : Hid (Below w.heap.size w w2) := HB1.out.trans (hb2.mono HB1.out.size)
    have Hbb := Lib.hid hrow2
    clear hown2 hrow2 hb2 HB1
    obtain ⟨L, hLL⟩ : ∃ L, (framesB ls).length = L := ⟨_, rfl⟩
    have HLL := Lib.hid hLL
    rw [hLL] at hL2 hnb ⊢
    clear hLL
    obtain ⟨k, hk⟩ : ∃ k : Nat, k = ct % (L + 1) := ⟨_, rfl⟩
    have hkL : k ≤ L := by rw [hk]; have := Nat.mod_lt ct (show 0 < L + 1 by omega); omega
    have hkI : (ct : Int) % ((L : Int) + 1) = (k : Int) := by rw [hk]; simp
    have hkT : Int.tmod (ct : Int) ((L : Int) + 1) = (k : Int) := by rw [← hkI]; exact Int.tmod_eq_emod_of_nonneg (by omega)
    clear hk
    have Hbb : Hid (Bytes w2 ab L cb (framesB ls)) := by have := Hbb.out; rw [HLL.out] at this; exact this
    have HFin : Hid (∀ j, j ≤ ls.length → fr j ≤ k → (∀ h : j < ls.length, k < fr j + ((VarPlain.num ls[j].length).length + ls[j].length + 4)) → EndsF ((framesB ls).take k) j ∧ stF ((framesB ls).take k) j = (ls.take j, fr j) ∧ endE3 ((framesB ls).take k) j = if fr j = k then 0 else 10) := by
      intro j hj h1 h2
      have := cut_frames ls HLs.out k j hj (by rw [← HFR.out]; exact h1) (by rw [HLL.out]; exact hkL) (fun h => by rw [← HFR.out, oneF_len]; exact h2 h)
      rw [← HFR.out] at this
      exact this
    generalize framesB ls = bb at *
    go_wp2_with fail
    go_loopw [9, 10] (fun i e wr => ∃ j : Nat, j ≤ n ∧ i = .int .i64 j ∧ e = .int .i64 (fr j : Int) ∧ fr j ≤ k ∧ Below w2.heap.size w2 wr) (fun i _ _ => n - (intOf i).toNat)
    case atStart => exact ⟨0, Nat.zero_le _, rfl, by rw [F0.out]; rfl, by rw [F0.out]; exact Nat.zero_le _, Below.refl _ _⟩
    case round =>
      obtain ⟨j, hj, rfl, rfl, hle, hbel⟩ := hrel
      have HBr := Lib.hid (HB2.out.trans (hbel.mono HB2.out.size))
      have Hbel := Lib.hid hbel; clear hbel
      have hf1 := FL.out j
      by_cases hlt : j < n
      · have hjl : j < ls.length := by rw [← Hn.out]; exact hlt
        obtain ⟨br, og, hrow, hidx⟩ := at_rows (H0.out.below stable_bytesCell HBr.out)
        obtain ⟨ar, cr, hc, _⟩ := hrow j hjl
        have HI : Hid (∀ wx, (Instr.indexAt 70 (.slice a0 n cap) (.int .i64 (j : Int))).run Try.prog wx = .ok (.pointer (some ⟨br, og + j, none⟩)) wx) := fun wx => hidx .i64 j wx hlt
        have HC := Lib.hid hc
        have hsl := HF1.out _ (List.getElem_mem hjl)
        have HS := Lib.hid (FSq.out j hjl)
        have H64 : Hid (Lt64 ls[j].length) := by show _ < _; omega
        have hnl := num_len ls[j].length H64.out
        have hf2 := FL.out (j + 1)
        have HBrk := Lib.hid (fun (h : k < fr j + ((VarPlain.num ls[j].length).length + ls[j].length + 4)) => HFin.out j (by omega) hle (fun _ => h))
        rw [HS.out] at hf2
        clear hrow hidx hc
        generalize ls[j]'hjl = s at *
        go_wp2_with fail
        refine Rg.wp_region_rgl [] [Rg.Is (.slice a0 n cap), Rg.Is (.int .i64 (j : Int)), Rg.Is (.pointer (some ⟨br, og + j, none⟩)), Rg.Is (.slice ar s.length cr), Rg.Is (.int .i64 (s.length : Int)), Rg.Is (.int .u64 (s.length : Int)), Rg.Is (.string (str (VarPlain.num s.length))), Rg.Is (.int .i64 ((VarPlain.num s.length).length : Int)), Rg.Is (.slice a0 n cap), Rg.Is (.int .i64 (j : Int)), Rg.Is (.pointer (some ⟨br, og + j, none⟩)), Rg.Is (.slice ar s.length cr), Rg.Is (.int .i64 (s.length : Int)), Rg.Is (.int .i64 (((VarPlain.num s.length).length : Int) + (s.length : Int))), Rg.Is (.int .i64 (((VarPlain.num s.length).length : Int) + (s.length : Int) + 4)), Rg.Is (.int .i64 (((VarPlain.num s.length).length : Int) + (s.length : Int) + 4))] (by kernel_rfl) (by kernel_rfl) (by kernel_rfl) ⟨Rg.st_is _, Rg.st_is _, Rg.st_is _, Rg.st_is _, Rg.st_is _, Rg.st_is _, Rg.st_is _, Rg.st_is _, Rg.st_is _, Rg.st_is _, Rg.st_is _, Rg.st_is _, Rg.st_is _, Rg.st_is _, Rg.st_is _, Rg.st_is _, trivial⟩ ⟨rfl, rfl, rfl, rfl, rfl, rfl, rfl, rfl, rfl, rfl, rfl, rfl, rfl, rfl, rfl, rfl, trivial⟩ ⟨?_, ?_, ?_, ?_, ?_, ?_, ?_, ?_, ?_, ?_, ?_, ?_, ?_, ?_, ?_, ?_, trivial⟩ ?_
        · intro _ a wx hb hk
          have h0 : a.eval (.tmp 0) = .slice a0 n cap := Eq.mp (by kernel_rfl) (hk 0 (by decide))
          exact Rg.does_move ⟨Below.refl _ _, h0⟩
        · intro _ a wx hb hk
          have h9 : a.eval (.tmp 9) = .int .i64 (j : Int) := Eq.mp (by kernel_rfl) (hk 9 (by decide))
          exact Rg.does_move ⟨Below.refl _ _, h9⟩
        · intro _ a wx hb hk
          have h35 : a.eval (.tmp 35) = .slice a0 n cap := Eq.mp (by kernel_rfl) (hk 35 (by decide))
          have h36 : a.eval (.tmp 36) = .int .i64 (j : Int) := Eq.mp (by kernel_rfl) (hk 36 (by decide))
          exact Rg.does_index _ _ _ h35 h36 (HI.out wx) ⟨Below.refl _ _, rfl⟩
        · intro _ a wx hb hk
          have h37 : a.eval (.tmp 37) = .pointer (some ⟨br, og + j, none⟩) := Eq.mp (by kernel_rfl) (hk 37 (by decide))
          exact Rg.does_load _ _ h37 (load_row (cell_below hb (Nat.le_refl _) HC.out)) ⟨Below.refl _ _, rfl⟩
        · intro _ a wx hb hk
          have h38 : a.eval (.tmp 38) = .slice ar s.length cr := Eq.mp (by kernel_rfl) (hk 38 (by decide))
          exact Rg.does_len _ _ _ Try.underlying22 h38 ⟨Below.refl _ _, rfl⟩
        · intro _ a wx hb hk
          have h39 : a.eval (.tmp 39) = .int .i64 (s.length : Int) := Eq.mp (by kernel_rfl) (hk 39 (by decide))
          exact Rg.does_convert _ _ h39 (conv_u64F _ _ (by omega)) ⟨Below.refl _ _, rfl⟩
        · intro _ a wx hb hk
          have h40 : a.eval (.tmp 40) = .int .u64 (s.length : Int) := Eq.mp (by kernel_rfl) (hk 40 (by decide))
          refine Rg.does_func #[.int .u64 (s.length : Int)] Try.func24 (by kernel_rfl) (by kernel_rfl) (by simp [h40]) (var_ref_num_calls wx s.length H64.out) ?_
          rintro e' w' ⟨rfl, hb'⟩
          exact ⟨_, rfl, hb', rfl⟩
        · intro _ a wx hb hk
          have h41 : a.eval (.tmp 41) = .string (str (VarPlain.num s.length)) := Eq.mp (by kernel_rfl) (hk 41 (by decide))
          exact Rs.does_len_string (str (VarPlain.num s.length)) Try.underlying9 h41 ⟨Below.refl _ _, rfl⟩
        · intro _ a wx hb hk
          have h0 : a.eval (.tmp 0) = .slice a0 n cap := Eq.mp (by kernel_rfl) (hk 0 (by decide))
          exact Rg.does_move ⟨Below.refl _ _, h0⟩
        · intro _ a wx hb hk
          have h9 : a.eval (.tmp 9) = .int .i64 (j : Int) := Eq.mp (by kernel_rfl) (hk 9 (by decide))
          exact Rg.does_move ⟨Below.refl _ _, h9⟩
        · intro _ a wx hb hk
          have h43 : a.eval (.tmp 43) = .slice a0 n cap := Eq.mp (by kernel_rfl) (hk 43 (by decide))
          have h44 : a.eval (.tmp 44) = .int .i64 (j : Int) := Eq.mp (by kernel_rfl) (hk 44 (by decide))
          exact Rg.does_index _ _ _ h43 h44 (HI.out wx) ⟨Below.refl _ _, rfl⟩
        · intro _ a wx hb hk
          have h45 : a.eval (.tmp 45) = .pointer (some ⟨br, og + j, none⟩) := Eq.mp (by kernel_rfl) (hk 45 (by decide))
          exact Rg.does_load _ _ h45 (load_row (cell_below hb (Nat.le_refl _) HC.out)) ⟨Below.refl _ _, rfl⟩
        · intro _ a wx hb hk
          have h46 : a.eval (.tmp 46) = .slice ar s.length cr := Eq.mp (by kernel_rfl) (hk 46 (by decide))
          exact Rg.does_len _ _ _ Try.underlying22 h46 ⟨Below.refl _ _, rfl⟩
        · intro _ a wx hb hk
          have h42 : a.eval (.tmp 42) = .int .i64 ((VarPlain.num s.length).length : Int) := Eq.mp (by kernel_rfl) (hk 42 (by decide))
          have h47 : a.eval (.tmp 47) = .int .i64 (s.length : Int) := Eq.mp (by kernel_rfl) (hk 47 (by decide))
          exact Rg.does_bin .i64 _ _ _ h42 h47 (run_plus (by omega) (by omega)) ⟨Below.refl _ _, rfl⟩
        · intro _ a wx hb hk
          have h48 : a.eval (.tmp 48) = .int .i64 (((VarPlain.num s.length).length : Int) + (s.length : Int)) := Eq.mp (by kernel_rfl) (hk 48 (by decide))
          exact Rg.does_bin .i64 _ _ _ h48 rfl (run_plus (by omega) (by omega)) ⟨Below.refl _ _, rfl⟩
        · intro _ a wx hb hk
          have h49 : a.eval (.tmp 49) = .int .i64 (((VarPlain.num s.length).length : Int) + (s.length : Int) + 4) := Eq.mp (by kernel_rfl) (hk 49 (by decide))
          exact Rg.does_assign ⟨Below.refl _ _, h49⟩
        intro vals wD hbD hL
        obtain ⟨g0, g1, g2, g3, g4, g5, g6, g7, g8, g9, g10, g11, g12, g13, g14, g15, _⟩ := hL
        have HBD : Hid (Below w2.heap.size w2 wD) := Hbel.out.trans (hbD.mono Hbel.out.size)
        have g15' : vals 15 = .int .i64 (((VarPlain.num s.length).length : Int) + (s.length : Int) + 4) := g15
        clear g0 g1 g2 g3 g4 g5 g6 g7 g8 g9 g10 g11 g12 g13 g14 g15 hbD HI HC HBr Hbel H64
        simp only [Rg.putAll, List.setIfInBounds_toArray, List.set_cons_succ, List.set_cons_zero, g15']
        clear g15'
        generalize (VarPlain.num s.length).length = nb at *
        generalize s.length = sl at *
        by_cases hbrk : k < fr j + (nb + sl + 4)
        · have d1 : decide ((k : Int) < (fr j : Int) + ((nb : Int) + (sl : Int) + 4)) = true := by simp; omega
          have d2 : (k : Int) < (fr j : Int) + ((nb : Int) + (sl : Int) + 4) := by omega
          have HE := Lib.hid (HBrk.out hbrk)
          clear HBrk HFin HS hbrk
          have HBx : Hid (Below w.heap.size w wD) := HB2.out.trans (HBD.out.mono HB2.out.size)
          obtain ⟨a2, hb2, hS2⟩ := sub_bytes (Hbb.out.below stable_byteAt HBD.out) 0 k (Nat.zero_le _) hkL
          rw [List.drop_zero] at hb2
          have hs2 : ∀ w', (Instr.slice 22 (.slice ab L cb) none (some (.int .i64 (k : Int))) none).run Try.prog w' = .ok (.slice a2 k cb) w' := fun w' => (hS2 w').2.1 rfl .i64
          have Hsc := Lib.hid (frame_scan_at wD a2 k cb _ hb2 (by omega) j HE.out.1)
          rw [HE.out.2.1, HE.out.2.2] at Hsc
          simp only [] at Hsc
          clear hb2 hS2 Hbb HBD
          go_wp2_with fail
          refine Hsc.out.mono ?_
          rintro e ws ⟨al, cl, vs, rfl, hrow, hvs, hbs⟩
          have HBs : Hid (Below w.heap.size w ws) := HBx.out.trans (hbs.mono HBx.out.size)
          have HRl := Lib.hid (byteRows_own hrow hvs)
          clear hrow hvs hbs Hsc HBx hs2
          by_cases hek : fr j = k
          · have t1 : ((fr j : Int) == (k : Int)) = true := by rw [beq_iff_eq]; omega
            have t2 : (fr j : Int) = (k : Int) := by omega
            rw [if_pos hek]
            go_wp2_with fail
            go_loopw [15] (fun i wr => ∃ m : Nat, m ≤ j ∧ i = .int .i64 m ∧ Below ws.heap.size ws wr) (fun i _ => j - (intOf i).toNat)
            case atStart => exact ⟨0, Nat.zero_le _, rfl, Below.refl _ _⟩
            case round =>
              obtain ⟨m, hm, rfl, hbel⟩ := hrel
              have HBr : Hid (Below w.heap.size w wr) := HBs.out.trans (hbel.mono HBs.out.size)
              have Hbel := Lib.hid hbel; clear hbel
              by_cases hlt2 : m < j
              · have hml : m < ls.length := by rw [← Hn.out]; omega
                have hmt : m < (ls.take j).length := by rw [List.length_take]; omega
                obtain ⟨b1, o1, hrow1, hidx1⟩ := at_rows (HRl.out.below stable_bytesCell Hbel.out)
                obtain ⟨a1, c1, hc1, hy1⟩ := hrow1 m hmt
                obtain ⟨b3, o3, hrow3, hidx3⟩ := at_rows (H0.out.below stable_bytesCell HBr.out)
                obtain ⟨a3, c3, hc3, hy3⟩ := hrow3 m hml
                have etk : (ls.take j)[m]'hmt = ls[m]'hml := List.getElem_take
                rw [etk] at hc1 hy1
                clear etk
                have HI1 : Hid (∀ wx, (Instr.indexAt 70 (.slice al j cl) (.int .i64 (m : Int))).run Try.prog wx = .ok (.pointer (some ⟨b1, o1 + m, none⟩)) wx) := fun wx => hidx1 .i64 m wx hlt2
                have HI3 : Hid (∀ wx, (Instr.indexAt 70 (.slice a0 n cap) (.int .i64 (m : Int))).run Try.prog wx = .ok (.pointer (some ⟨b3, o3 + m, none⟩)) wx) := fun wx => hidx3 .i64 m wx (by omega)
                have HC1 := Lib.hid hc1; have HC3 := Lib.hid hc3; have HY1 := Lib.hid hy1; have HY3 := Lib.hid hy3
                clear hrow1 hidx1 hc1 hy1 hrow3 hidx3 hc3 hy3 hmt
                generalize ls[m]'hml = s at *
                go_wp2_with fail
                refine Rg.wp_region_rgl [] [Rg.Is (.slice al j cl), Rg.Is (.int .i64 (m : Int)), Rg.Is (.pointer (some ⟨b1, o1 + m, none⟩)), Rg.Is (.slice a1 s.length c1), Rg.Is (.string (str s)), Rg.Is (.slice a0 n cap), Rg.Is (.int .i64 (m : Int)), Rg.Is (.pointer (some ⟨b3, o3 + m, none⟩)), Rg.Is (.slice a3 s.length c3), Rg.Is (.string (str s)), Rg.Is (.bool false)] (by kernel_rfl) (by kernel_rfl) (by kernel_rfl) ⟨Rg.st_is _, Rg.st_is _, Rg.st_is _, Rg.st_is _, Rg.st_is _, Rg.st_is _, Rg.st_is _, Rg.st_is _, Rg.st_is _, Rg.st_is _, Rg.st_is _, trivial⟩ ⟨rfl, rfl, rfl, rfl, rfl, rfl, rfl, rfl, rfl, rfl, rfl, trivial⟩ ⟨?_, ?_, ?_, ?_, ?_, ?_, ?_, ?_, ?_, ?_, ?_, trivial⟩ ?_
                · intro _ a wx hb hk
                  have h12 : a.eval (.tmp 12) = .slice al j cl := Eq.mp (by kernel_rfl) (hk 12 (by decide))
                  exact Rg.does_move ⟨Below.refl _ _, h12⟩
                · intro _ a wx hb hk
                  have h15 : a.eval (.tmp 15) = .int .i64 (m : Int) := Eq.mp (by kernel_rfl) (hk 15 (by decide))
                  exact Rg.does_move ⟨Below.refl _ _, h15⟩
                · intro _ a wx hb hk
                  have h98 : a.eval (.tmp 98) = .slice al j cl := Eq.mp (by kernel_rfl) (hk 98 (by decide))
                  have h99 : a.eval (.tmp 99) = .int .i64 (m : Int) := Eq.mp (by kernel_rfl) (hk 99 (by decide))
                  exact Rg.does_index _ _ _ h98 h99 (HI1.out wx) ⟨Below.refl _ _, rfl⟩
                · intro _ a wx hb hk
                  have h100 : a.eval (.tmp 100) = .pointer (some ⟨b1, o1 + m, none⟩) := Eq.mp (by kernel_rfl) (hk 100 (by decide))
                  exact Rg.does_load _ _ h100 (load_row (cell_below hb (Nat.le_refl _) HC1.out)) ⟨Below.refl _ _, rfl⟩
                · intro _ a wx hb hk
                  have h101 : a.eval (.tmp 101) = .slice a1 s.length c1 := Eq.mp (by kernel_rfl) (hk 101 (by decide))
                  exact Rg.does_convert _ _ h101 (str_bytes (HY1.out.below stable_byteAt hb)) ⟨Below.refl _ _, rfl⟩
                · intro _ a wx hb hk
                  have h0 : a.eval (.tmp 0) = .slice a0 n cap := Eq.mp (by kernel_rfl) (hk 0 (by decide))
                  exact Rg.does_move ⟨Below.refl _ _, h0⟩
                · intro _ a wx hb hk
                  have h15 : a.eval (.tmp 15) = .int .i64 (m : Int) := Eq.mp (by kernel_rfl) (hk 15 (by decide))
                  exact Rg.does_move ⟨Below.refl _ _, h15⟩
                · intro _ a wx hb hk
                  have h103 : a.eval (.tmp 103) = .slice a0 n cap := Eq.mp (by kernel_rfl) (hk 103 (by decide))
                  have h104 : a.eval (.tmp 104) = .int .i64 (m : Int) := Eq.mp (by kernel_rfl) (hk 104 (by decide))
                  exact Rg.does_index _ _ _ h103 h104 (HI3.out wx) ⟨Below.refl _ _, rfl⟩
                · intro _ a wx hb hk
                  have h105 : a.eval (.tmp 105) = .pointer (some ⟨b3, o3 + m, none⟩) := Eq.mp (by kernel_rfl) (hk 105 (by decide))
                  exact Rg.does_load _ _ h105 (load_row (cell_below hb (Nat.le_refl _) HC3.out)) ⟨Below.refl _ _, rfl⟩
                · intro _ a wx hb hk
                  have h106 : a.eval (.tmp 106) = .slice a3 s.length c3 := Eq.mp (by kernel_rfl) (hk 106 (by decide))
                  exact Rg.does_convert _ _ h106 (str_bytes (HY3.out.below stable_byteAt hb)) ⟨Below.refl _ _, rfl⟩
                · intro _ a wx hb hk
                  have h102 : a.eval (.tmp 102) = .string (str s) := Eq.mp (by kernel_rfl) (hk 102 (by decide))
                  have h107 : a.eval (.tmp 107) = .string (str s) := Eq.mp (by kernel_rfl) (hk 107 (by decide))
                  exact Rs.does_neq0_string _ h102 h107 ⟨Below.refl _ _, rfl⟩
                intro vals wE hbD hL
                obtain ⟨g0, g1, g2, g3, g4, g5, g6, g7, g8, g9, g10, _⟩ := hL
                have hbE : Below ws.heap.size ws wE := Hbel.out.trans (hbD.mono Hbel.out.size)
                have g10' : vals 10 = .bool false := g10
                clear g0 g1 g2 g3 g4 g5 g6 g7 g8 g9 g10 hbD HI1 HI3 HC1 HC3 HY1 HY3 HBr Hbel
                simp only [Rg.putAll, List.setIfInBounds_toArray, List.set_cons_succ, List.set_cons_zero, g10']
                clear g10'
                go_wp2_with fail
                go_roundw
                case rel => exact ⟨m + 1, by omega, by go_num, hbE⟩
                case measure => simp [intOf]; omega
              · obtain rfl : m = j := by omega
                go_wp2_with fail
                go_ret
                exact ⟨rfl, HBr.out⟩
          · have t1 : ((fr j : Int) == (k : Int)) = false := by rw [beq_eq_false_iff_ne]; omega
            have t2 : ¬ (fr j : Int) = (k : Int) := by omega
            rw [if_neg hek]
            go_wp2_with fail
            go_loopw [15] (fun i wr => ∃ m : Nat, m ≤ j ∧ i = .int .i64 m ∧ Below ws.heap.size ws wr) (fun i _ => j - (intOf i).toNat)
            case atStart => exact ⟨0, Nat.zero_le _, rfl, Below.refl _ _⟩
            case round =>
              obtain ⟨m, hm, rfl, hbel⟩ := hrel
              have HBr : Hid (Below w.heap.size w wr) := HBs.out.trans (hbel.mono HBs.out.size)
              have Hbel := Lib.hid hbel; clear hbel
              by_cases hlt2 : m < j
              · have hml : m < ls.length := by rw [← Hn.out]; omega
                have hmt : m < (ls.take j).length := by rw [List.length_take]; omega
                obtain ⟨b1, o1, hrow1, hidx1⟩ := at_rows (HRl.out.below stable_bytesCell Hbel.out)
                obtain ⟨a1, c1, hc1, hy1⟩ := hrow1 m hmt
                obtain ⟨b3, o3, hrow3, hidx3⟩ := at_rows (H0.out.below stable_bytesCell HBr.out)
                obtain ⟨a3, c3, hc3, hy3⟩ := hrow3 m hml
                have etk : (ls.take j)[m]'hmt = ls[m]'hml := List.getElem_take
                rw [etk] at hc1 hy1
                clear etk
                have HI1 : Hid (∀ wx, (Instr.indexAt 70 (.slice al j cl) (.int .i64 (m : Int))).run Try.prog wx = .ok (.pointer (some ⟨b1, o1 + m, none⟩)) wx) := fun wx => hidx1 .i64 m wx hlt2
                have HI3 : Hid (∀ wx, (Instr.indexAt 70 (.slice a0 n cap) (.int .i64 (m : Int))).run Try.prog wx = .ok (.pointer (some ⟨b3, o3 + m, none⟩)) wx) := fun wx => hidx3 .i64 m wx (by omega)
                have HC1 := Lib.hid hc1; have HC3 := Lib.hid hc3; have HY1 := Lib.hid hy1; have HY3 := Lib.hid hy3
                clear hrow1 hidx1 hc1 hy1 hrow3 hidx3 hc3 hy3 hmt
                generalize ls[m]'hml = s at *
                go_wp2_with fail
                refine Rg.wp_region_rgl [] [Rg.Is (.slice al j cl), Rg.Is (.int .i64 (m : Int)), Rg.Is (.pointer (some ⟨b1, o1 + m, none⟩)), Rg.Is (.slice a1 s.length c1), Rg.Is (.string (str s)), Rg.Is (.slice a0 n cap), Rg.Is (.int .i64 (m : Int)), Rg.Is (.pointer (some ⟨b3, o3 + m, none⟩)), Rg.Is (.slice a3 s.length c3), Rg.Is (.string (str s)), Rg.Is (.bool false)] (by kernel_rfl) (by kernel_rfl) (by kernel_rfl) ⟨Rg.st_is _, Rg.st_is _, Rg.st_is _, Rg.st_is _, Rg.st_is _, Rg.st_is _, Rg.st_is _, Rg.st_is _, Rg.st_is _, Rg.st_is _, Rg.st_is _, trivial⟩ ⟨rfl, rfl, rfl, rfl, rfl, rfl, rfl, rfl, rfl, rfl, rfl, trivial⟩ ⟨?_, ?_, ?_, ?_, ?_, ?_, ?_, ?_, ?_, ?_, ?_, trivial⟩ ?_
                · intro _ a wx hb hk
                  have h12 : a.eval (.tmp 12) = .slice al j cl := Eq.mp (by kernel_rfl) (hk 12 (by decide))
                  exact Rg.does_move ⟨Below.refl _ _, h12⟩
                · intro _ a wx hb hk
                  have h15 : a.eval (.tmp 15) = .int .i64 (m : Int) := Eq.mp (by kernel_rfl) (hk 15 (by decide))
                  exact Rg.does_move ⟨Below.refl _ _, h15⟩
                · intro _ a wx hb hk
                  have h98 : a.eval (.tmp 98) = .slice al j cl := Eq.mp (by kernel_rfl) (hk 98 (by decide))
                  have h99 : a.eval (.tmp 99) = .int .i64 (m : Int) := Eq.mp (by kernel_rfl) (hk 99 (by decide))
                  exact Rg.does_index _ _ _ h98 h99 (HI1.out wx) ⟨Below.refl _ _, rfl⟩
                · intro _ a wx hb hk
                  have h100 : a.eval (.tmp 100) = .pointer (some ⟨b1, o1 + m, none⟩) := Eq.mp (by kernel_rfl) (hk 100 (by decide))
                  exact Rg.does_load _ _ h100 (load_row (cell_below hb (Nat.le_refl _) HC1.out)) ⟨Below.refl _ _, rfl⟩
                · intro _ a wx hb hk
                  have h101 : a.eval (.tmp 101) = .slice a1 s.length c1 := Eq.mp (by kernel_rfl) (hk 101 (by decide))
                  exact Rg.does_convert _ _ h101 (str_bytes (HY1.out.below stable_byteAt hb)) ⟨Below.refl _ _, rfl⟩
                · intro _ a wx hb hk
                  have h0 : a.eval (.tmp 0) = .slice a0 n cap := Eq.mp (by kernel_rfl) (hk 0 (by decide))
                  exact Rg.does_move ⟨Below.refl _ _, h0⟩
                · intro _ a wx hb hk
                  have h15 : a.eval (.tmp 15) = .int .i64 (m : Int) := Eq.mp (by kernel_rfl) (hk 15 (by decide))
                  exact Rg.does_move ⟨Below.refl _ _, h15⟩
                · intro _ a wx hb hk
                  have h103 : a.eval (.tmp 103) = .slice a0 n cap := Eq.mp (by kernel_rfl) (hk 103 (by decide))
                  have h104 : a.eval (.tmp 104) = .int .i64 (m : Int) := Eq.mp (by kernel_rfl) (hk 104 (by decide))
                  exact Rg.does_index _ _ _ h103 h104 (HI3.out wx) ⟨Below.refl _ _, rfl⟩
                · intro _ a wx hb hk
                  have h105 : a.eval (.tmp 105) = .pointer (some ⟨b3, o3 + m, none⟩) := Eq.mp (by kernel_rfl) (hk 105 (by decide))
                  exact Rg.does_load _ _ h105 (load_row (cell_below hb (Nat.le_refl _) HC3.out)) ⟨Below.refl _ _, rfl⟩
                · intro _ a wx hb hk
                  have h106 : a.eval (.tmp 106) = .slice a3 s.length c3 := Eq.mp (by kernel_rfl) (hk 106 (by decide))
                  exact Rg.does_convert _ _ h106 (str_bytes (HY3.out.below stable_byteAt hb)) ⟨Below.refl _ _, rfl⟩
                · intro _ a wx hb hk
                  have h102 : a.eval (.tmp 102) = .string (str s) := Eq.mp (by kernel_rfl) (hk 102 (by decide))
                  have h107 : a.eval (.tmp 107) = .string (str s) := Eq.mp (by kernel_rfl) (hk 107 (by decide))
                  exact Rs.does_neq0_string _ h102 h107 ⟨Below.refl _ _, rfl⟩
                intro vals wE hbD hL
                obtain ⟨g0, g1, g2, g3, g4, g5, g6, g7, g8, g9, g10, _⟩ := hL
                have hbE : Below ws.heap.size ws wE := Hbel.out.trans (hbD.mono Hbel.out.size)
                have g10' : vals 10 = .bool false := g10
                clear g0 g1 g2 g3 g4 g5 g6 g7 g8 g9 g10 hbD HI1 HI3 HC1 HC3 HY1 HY3 HBr Hbel
                simp only [Rg.putAll, List.setIfInBounds_toArray, List.set_cons_succ, List.set_cons_zero, g10']
                clear g10'
                go_wp2_with fail
                go_roundw
                case rel => exact ⟨m + 1, by omega, by go_num, hbE⟩
                case measure => simp [intOf]; omega
              · obtain rfl : m = j := by omega
                go_wp2_with fail
                go_ret
                exact ⟨rfl, HBr.out⟩
        · have d1 : decide ((k : Int) < (fr j : Int) + ((nb : Int) + (sl : Int) + 4)) = false := by simp; omega
          have d2 : ¬ (k : Int) < (fr j : Int) + ((nb : Int) + (sl : Int) + 4) := by omega
          go_wp2_with fail
          go_roundw
          case rel => exact ⟨j + 1, by omega, by go_num, by rw [HS.out]; simp, by rw [HS.out]; omega, HBD.out⟩
          case measure => simp [intOf]; omega
      · obtain rfl : j = n := by omega
        have HE := Lib.hid (HFin.out j (by rw [Hn.out]; exact Nat.le_refl _) hle (fun h => absurd h (by rw [← Hn.out]; omega)))
        have HBD := Hbel
        clear HFin HBr Hbel
        generalize hwD : wr = wD at *
        clear hwD
        have HBx : Hid (Below w.heap.size w wD) := HB2.out.trans (HBD.out.mono HB2.out.size)
        obtain ⟨a2, hb2, hS2⟩ := sub_bytes (Hbb.out.below stable_byteAt HBD.out) 0 k (Nat.zero_le _) hkL
        rw [List.drop_zero] at hb2
        have hs2 : ∀ w', (Instr.slice 22 (.slice ab L cb) none (some (.int .i64 (k : Int))) none).run Try.prog w' = .ok (.slice a2 k cb) w' := fun w' => (hS2 w').2.1 rfl .i64
        have Hsc := Lib.hid (frame_scan_at wD a2 k cb _ hb2 (by omega) j HE.out.1)
        rw [HE.out.2.1, HE.out.2.2] at Hsc
        simp only [] at Hsc
        clear hb2 hS2 Hbb HBD
        go_wp2_with fail
        refine Hsc.out.mono ?_
        rintro e ws ⟨al, cl, vs, rfl, hrow, hvs, hbs⟩
        have HBs : Hid (Below w.heap.size w ws) := HBx.out.trans (hbs.mono HBx.out.size)
        have HRl := Lib.hid (byteRows_own hrow hvs)
        clear hrow hvs hbs Hsc HBx hs2
        by_cases hek : fr j = k
        · have t1 : ((fr j : Int) == (k : Int)) = true := by rw [beq_iff_eq]; omega
          have t2 : (fr j : Int) = (k : Int) := by omega
          rw [if_pos hek]
          go_wp2_with fail
          go_loopw [15] (fun i wr => ∃ m : Nat, m ≤ j ∧ i = .int .i64 m ∧ Below ws.heap.size ws wr) (fun i _ => j - (intOf i).toNat)
          case atStart => exact ⟨0, Nat.zero_le _, rfl, Below.refl _ _⟩
          case round =>
            obtain ⟨m, hm, rfl, hbel⟩ := hrel
            have HBr : Hid (Below w.heap.size w wr) := HBs.out.trans (hbel.mono HBs.out.size)
            have Hbel := Lib.hid hbel; clear hbel
            by_cases hlt2 : m < j
            · have hml : m < ls.length := by rw [← Hn.out]; omega
              have hmt : m < (ls.take j).length := by rw [List.length_take]; omega
              obtain ⟨b1, o1, hrow1, hidx1⟩ := at_rows (HRl.out.below stable_bytesCell Hbel.out)
              obtain ⟨a1, c1, hc1, hy1⟩ := hrow1 m hmt
              obtain ⟨b3, o3, hrow3, hidx3⟩ := at_rows (H0.out.below stable_bytesCell HBr.out)
              obtain ⟨a3, c3, hc3, hy3⟩ := hrow3 m hml
              have etk : (ls.take j)[m]'hmt = ls[m]'hml := List.getElem_take
              rw [etk] at hc1 hy1
              clear etk
              have HI1 : Hid (∀ wx, (Instr.indexAt 70 (.slice al j cl) (.int .i64 (m : Int))).run Try.prog wx = .ok (.pointer (some ⟨b1, o1 + m, none⟩)) wx) := fun wx => hidx1 .i64 m wx hlt2
              have HI3 : Hid (∀ wx, (Instr.indexAt 70 (.slice a0 j cap) (.int .i64 (m : Int))).run Try.prog wx = .ok (.pointer (some ⟨b3, o3 + m, none⟩)) wx) := fun wx => hidx3 .i64 m wx (by omega)
              have HC1 := Lib.hid hc1; have HC3 := Lib.hid hc3; have HY1 := Lib.hid hy1; have HY3 := Lib.hid hy3
              clear hrow1 hidx1 hc1 hy1 hrow3 hidx3 hc3 hy3 hmt
              generalize ls[m]'hml = s at *
              go_wp2_with fail
              refine Rg.wp_region_rgl [] [Rg.Is (.slice al j cl), Rg.Is (.int .i64 (m : Int)), Rg.Is (.pointer (some ⟨b1, o1 + m, none⟩)), Rg.Is (.slice a1 s.length c1), Rg.Is (.string (str s)), Rg.Is (.slice a0 j cap), Rg.Is (.int .i64 (m : Int)), Rg.Is (.pointer (some ⟨b3, o3 + m, none⟩)), Rg.Is (.slice a3 s.length c3), Rg.Is (.string (str s)), Rg.Is (.bool false)] (by kernel_rfl) (by kernel_rfl) (by kernel_rfl) ⟨Rg.st_is _, Rg.st_is _, Rg.st_is _, Rg.st_is _, Rg.st_is _, Rg.st_is _, Rg.st_is _, Rg.st_is _, Rg.st_is _, Rg.st_is _, Rg.st_is _, trivial⟩ ⟨rfl, rfl, rfl, rfl, rfl, rfl, rfl, rfl, rfl, rfl, rfl, trivial⟩ ⟨?_, ?_, ?_, ?_, ?_, ?_, ?_, ?_, ?_, ?_, ?_, trivial⟩ ?_
              · intro _ a wx hb hk
                have h12 : a.eval (.tmp 12) = .slice al j cl := Eq.mp (by kernel_rfl) (hk 12 (by decide))
                exact Rg.does_move ⟨Below.refl _ _, h12⟩
              · intro _ a wx hb hk
                have h15 : a.eval (.tmp 15) = .int .i64 (m : Int) := Eq.mp (by kernel_rfl) (hk 15 (by decide))
                exact Rg.does_move ⟨Below.refl _ _, h15⟩
              · intro _ a wx hb hk
                have h98 : a.eval (.tmp 98) = .slice al j cl := Eq.mp (by kernel_rfl) (hk 98 (by decide))
                have h99 : a.eval (.tmp 99) = .int .i64 (m : Int) := Eq.mp (by kernel_rfl) (hk 99 (by decide))
                exact Rg.does_index _ _ _ h98 h99 (HI1.out wx) ⟨Below.refl _ _, rfl⟩
              · intro _ a wx hb hk
                have h100 : a.eval (.tmp 100) = .pointer (some ⟨b1, o1 + m, none⟩) := Eq.mp (by kernel_rfl) (hk 100 (by decide))
                exact Rg.does_load _ _ h100 (load_row (cell_below hb (Nat.le_refl _) HC1.out)) ⟨Below.refl _ _, rfl⟩
              · intro _ a wx hb hk
                have h101 : a.eval (.tmp 101) = .slice a1 s.length c1 := Eq.mp (by kernel_rfl) (hk 101 (by decide))
                exact Rg.does_convert _ _ h101 (str_bytes (HY1.out.below stable_byteAt hb)) ⟨Below.refl _ _, rfl⟩
              · intro _ a wx hb hk
                have h0 : a.eval (.tmp 0) = .slice a0 j cap := Eq.mp (by kernel_rfl) (hk 0 (by decide))
                exact Rg.does_move ⟨Below.refl _ _, h0⟩
              · intro _ a wx hb hk
                have h15 : a.eval (.tmp 15) = .int .i64 (m : Int) := Eq.mp (by kernel_rfl) (hk 15 (by decide))
                exact Rg.does_move ⟨Below.refl _ _, h15⟩
              · intro _ a wx hb hk
                have h103 : a.eval (.tmp 103) = .slice a0 j cap := Eq.mp (by kernel_rfl) (hk 103 (by decide))
                have h104 : a.eval (.tmp 104) = .int .i64 (m : Int) := Eq.mp (by kernel_rfl) (hk 104 (by decide))
                exact Rg.does_index _ _ _ h103 h104 (HI3.out wx) ⟨Below.refl _ _, rfl⟩
              · intro _ a wx hb hk
                have h105 : a.eval (.tmp 105) = .pointer (some ⟨b3, o3 + m, none⟩) := Eq.mp (by kernel_rfl) (hk 105 (by decide))
                exact Rg.does_load _ _ h105 (load_row (cell_below hb (Nat.le_refl _) HC3.out)) ⟨Below.refl _ _, rfl⟩
              · intro _ a wx hb hk
                have h106 : a.eval (.tmp 106) = .slice a3 s.length c3 := Eq.mp (by kernel_rfl) (hk 106 (by decide))
                exact Rg.does_convert _ _ h106 (str_bytes (HY3.out.below stable_byteAt hb)) ⟨Below.refl _ _, rfl⟩
              · intro _ a wx hb hk
                have h102 : a.eval (.tmp 102) = .string (str s) := Eq.mp (by kernel_rfl) (hk 102 (by decide))
                have h107 : a.eval (.tmp 107) = .string (str s) := Eq.mp (by kernel_rfl) (hk 107 (by decide))
                exact Rs.does_neq0_string _ h102 h107 ⟨Below.refl _ _, rfl⟩
              intro vals wE hbD hL
              obtain ⟨g0, g1, g2, g3, g4, g5, g6, g7, g8, g9, g10, _⟩ := hL
              have hbE : Below ws.heap.size ws wE := Hbel.out.trans (hbD.mono Hbel.out.size)
              have g10' : vals 10 = .bool false := g10
              clear g0 g1 g2 g3 g4 g5 g6 g7 g8 g9 g10 hbD HI1 HI3 HC1 HC3 HY1 HY3 HBr Hbel
              simp only [Rg.putAll, List.setIfInBounds_toArray, List.set_cons_succ, List.set_cons_zero, g10']
              clear g10'
              go_wp2_with fail
              go_roundw
              case rel => exact ⟨m + 1, by omega, by go_num, hbE⟩
              case measure => simp [intOf]; omega
            · obtain rfl : m = j := by omega
              go_wp2_with fail
              go_ret
              exact ⟨rfl, HBr.out⟩
        · have t1 : ((fr j : Int) == (k : Int)) = false := by rw [beq_eq_false_iff_ne]; omega
          have t2 : ¬ (fr j : Int) = (k : Int) := by omega
          rw [if_neg hek]
          go_wp2_with fail
          go_loopw [15] (fun i wr => ∃ m : Nat, m ≤ j ∧ i = .int .i64 m ∧ Below ws.heap.size ws wr) (fun i _ => j - (intOf i).toNat)
          case atStart => exact ⟨0, Nat.zero_le _, rfl, Below.refl _ _⟩
          case round =>
            obtain ⟨m, hm, rfl, hbel⟩ := hrel
            have HBr : Hid (Below w.heap.size w wr) := HBs.out.trans (hbel.mono HBs.out.size)
            have Hbel := Lib.hid hbel; clear hbel
            by_cases hlt2 : m < j
            · have hml : m < ls.length := by rw [← Hn.out]; omega
              have hmt : m < (ls.take j).length := by rw [List.length_take]; omega
              obtain ⟨b1, o1, hrow1, hidx1⟩ := at_rows (HRl.out.below stable_bytesCell Hbel.out)
              obtain ⟨a1, c1, hc1, hy1⟩ := hrow1 m hmt
              obtain ⟨b3, o3, hrow3, hidx3⟩ := at_rows (H0.out.below stable_bytesCell HBr.out)
              obtain ⟨a3, c3, hc3, hy3⟩ := hrow3 m hml
              have etk : (ls.take j)[m]'hmt = ls[m]'hml := List.getElem_take
              rw [etk] at hc1 hy1
              clear etk
              have HI1 : Hid (∀ wx, (Instr.indexAt 70 (.slice al j cl) (.int .i64 (m : Int))).run Try.prog wx = .ok (.pointer (some ⟨b1, o1 + m, none⟩)) wx) := fun wx => hidx1 .i64 m wx hlt2
              have HI3 : Hid (∀ wx, (Instr.indexAt 70 (.slice a0 j cap) (.int .i64 (m : Int))).run Try.prog wx = .ok (.pointer (some ⟨b3, o3 + m, none⟩)) wx) := fun wx => hidx3 .i64 m wx (by omega)
              have HC1 := Lib.hid hc1; have HC3 := Lib.hid hc3; have HY1 := Lib.hid hy1; have HY3 := Lib.hid hy3
              clear hrow1 hidx1 hc1 hy1 hrow3 hidx3 hc3 hy3 hmt
              generalize ls[m]'hml = s at *
              go_wp2_with fail
              refine Rg.wp_region_rgl [] [Rg.Is (.slice al j cl), Rg.Is (.int .i64 (m : Int)), Rg.Is (.pointer (some ⟨b1, o1 + m, none⟩)), Rg.Is (.slice a1 s.length c1), Rg.Is (.string (str s)), Rg.Is (.slice a0 j cap), Rg.Is (.int .i64 (m : Int)), Rg.Is (.pointer (some ⟨b3, o3 + m, none⟩)), Rg.Is (.slice a3 s.length c3), Rg.Is (.string (str s)), Rg.Is (.bool false)] (by kernel_rfl) (by kernel_rfl) (by kernel_rfl) ⟨Rg.st_is _, Rg.st_is _, Rg.st_is _, Rg.st_is _, Rg.st_is _, Rg.st_is _, Rg.st_is _, Rg.st_is _, Rg.st_is _, Rg.st_is _, Rg.st_is _, trivial⟩ ⟨rfl, rfl, rfl, rfl, rfl, rfl, rfl, rfl, rfl, rfl, rfl, trivial⟩ ⟨?_, ?_, ?_, ?_, ?_, ?_, ?_, ?_, ?_, ?_, ?_, trivial⟩ ?_
              · intro _ a wx hb hk
                have h12 : a.eval (.tmp 12) = .slice al j cl := Eq.mp (by kernel_rfl) (hk 12 (by decide))
                exact Rg.does_move ⟨Below.refl _ _, h12⟩
              · intro _ a wx hb hk
                have h15 : a.eval (.tmp 15) = .int .i64 (m : Int) := Eq.mp (by kernel_rfl) (hk 15 (by decide))
                exact Rg.does_move ⟨Below.refl _ _, h15⟩
              · intro _ a wx hb hk
                have h98 : a.eval (.tmp 98) = .slice al j cl := Eq.mp (by kernel_rfl) (hk 98 (by decide))
                have h99 : a.eval (.tmp 99) = .int .i64 (m : Int) := Eq.mp (by kernel_rfl) (hk 99 (by decide))
                exact Rg.does_index _ _ _ h98 h99 (HI1.out wx) ⟨Below.refl _ _, rfl⟩
              · intro _ a wx hb hk
                have h100 : a.eval (.tmp 100) = .pointer (some ⟨b1, o1 + m, none⟩) := Eq.mp (by kernel_rfl) (hk 100 (by decide))
                exact Rg.does_load _ _ h100 (load_row (cell_below hb (Nat.le_refl _) HC1.out)) ⟨Below.refl _ _, rfl⟩
              · intro _ a wx hb hk
                have h101 : a.eval (.tmp 101) = .slice a1 s.length c1 := Eq.mp (by kernel_rfl) (hk 101 (by decide))
                exact Rg.does_convert _ _ h101 (str_bytes (HY1.out.below stable_byteAt hb)) ⟨Below.refl _ _, rfl⟩
              · intro _ a wx hb hk
                have h0 : a.eval (.tmp 0) = .slice a0 j cap := Eq.mp (by kernel_rfl) (hk 0 (by decide))
                exact Rg.does_move ⟨Below.refl _ _, h0⟩
              · intro _ a wx hb hk
                have h15 : a.eval (.tmp 15) = .int .i64 (m : Int) := Eq.mp (by kernel_rfl) (hk 15 (by decide))
                exact Rg.does_move ⟨Below.refl _ _, h15⟩
              · intro _ a wx hb hk
                have h103 : a.eval (.tmp 103) = .slice a0 j cap := Eq.mp (by kernel_rfl) (hk 103 (by decide))
                have h104 : a.eval (.tmp 104) = .int .i64 (m : Int) := Eq.mp (by kernel_rfl) (hk 104 (by decide))
                exact Rg.does_index _ _ _ h103 h104 (HI3.out wx) ⟨Below.refl _ _, rfl⟩
              · intro _ a wx hb hk
                have h105 : a.eval (.tmp 105) = .pointer (some ⟨b3, o3 + m, none⟩) := Eq.mp (by kernel_rfl) (hk 105 (by decide))
                exact Rg.does_load _ _ h105 (load_row (cell_below hb (Nat.le_refl _) HC3.out)) ⟨Below.refl _ _, rfl⟩
              · intro _ a wx hb hk
                have h106 : a.eval (.tmp 106) = .slice a3 s.length c3 := Eq.mp (by kernel_rfl) (hk 106 (by decide))
                exact Rg.does_convert _ _ h106 (str_bytes (HY3.out.below stable_byteAt hb)) ⟨Below.refl _ _, rfl⟩
              · intro _ a wx hb hk
                have h102 : a.eval (.tmp 102) = .string (str s) := Eq.mp (by kernel_rfl) (hk 102 (by decide))
                have h107 : a.eval (.tmp 107) = .string (str s) := Eq.mp (by kernel_rfl) (hk 107 (by decide))
                exact Rs.does_neq0_string _ h102 h107 ⟨Below.refl _ _, rfl⟩
              intro vals wE hbD hL
              obtain ⟨g0, g1, g2, g3, g4, g5, g6, g7, g8, g9, g10, _⟩ := hL
              have hbE : Below ws.heap.size ws wE := Hbel.out.trans (hbD.mono Hbel.out.size)
              have g10' : vals 10 = .bool false := g10
              clear g0 g1 g2 g3 g4 g5 g6 g7 g8 g9 g10 hbD HI1 HI3 HC1 HC3 HY1 HY3 HBr Hbel
              simp only [Rg.putAll, List.setIfInBounds_toArray, List.set_cons_succ, List.set_cons_zero, g10']
              clear g10'
              go_wp2_with fail
              go_roundw
              case rel => exact ⟨m + 1, by omega, by go_num, hbE⟩
              case measure => simp [intOf]; omega
            · obtain rfl : m = j := by omega
              go_wp2_with fail
              go_ret
              exact ⟨rfl, HBr.out⟩

end Go.Proofs.Ytbbnopikinlcdaa
