/-
  State: the statement StateReads, walked. Conditions: as each contract says.
-/
import Derived.Laws.OwnMore
import Derived.Test.YtnmlnaoljkhjeaaStPQ
set_option linter.unusedVariables false
set_option maxRecDepth 100000
namespace Go.Proofs.Ytnmlnaoljkhjeaa
open Go.RowKit Base

theorem info_u16 : (Try.prog.info? 63).map (fun i => (i.zero, i.size, i.bytes)) = some (some (.int .u16 0), 1, 2) := by kernel_rfl
theorem at_u16 {w : World} {a : Option Addr} {n cap : Nat} {l : List Int} (h : Ints .u16 w a n cap l) : ∃ b off, (∀ k (hk : k < l.length), w.cell? ⟨b, off + k, none⟩ = some (.int .u16 l[k])) ∧
    ∀ (kd : IntKind) (k : Nat) (w' : World), k < n → (Instr.indexAt 62 (.slice a n cap) (.int kd (k : Int))).run Try.prog w' = .ok (.pointer (some ⟨b, off + k, none⟩)) w' := by
  obtain ⟨i, hi, _, hs, _⟩ := info_parts info_u16
  obtain ⟨b, off, h1, h2⟩ := h.at (P := Try.prog)
  exact ⟨b, off, fun k hk => by simpa [intAt] using h1 k hk, fun kd k w' hk => by simpa using h2 62 63 i Try.underlying62 hi hs kd k w' hk⟩
theorem idx_own {g n c : Nat} (j : Nat) (hj : j < n) (kd : IntKind) (w' : World) : (Instr.indexAt 43 (.slice (some ⟨g, 0, none⟩) n c) (.int kd (j : Int))).run Try.prog w' = .ok (.pointer (some ⟨g, j, none⟩)) w' := by
  obtain ⟨i, hi, _, hs, _⟩ := info_parts info_u8
  have he : Try.prog.elem 43 = 5 := by simp [Program.elem, Try.underlying43]
  rw [run_indexAt_slice w' 43 _ n c kd j (by rw [he]; exact Try.underlying43), if_pos ⟨by omega, by omega⟩, he]
  simp [sizeOf, typeInfo, hi, hs, Result.andThen, Addr.add_lit]
set_option maxHeartbeats 4000000 in
theorem st_reads (W : World) (vs : List Value) (s : StateD) (hs : InS W vs s) (aa : Option Addr) (na ca : Nat) (zs : List Int) (hat : Ints .u16 W aa na ca zs) (hz : ∀ z ∈ zs, 0 ≤ z ∧ z ≤ 65535)
    (ax : Option Addr) (nx cx : Nat) (xs : Nm) (hx : Bytes W ax nx cx xs) (cu : Nat) (hcu : cu ≤ 65535) :
    Calls Try.prog 4 #[.agg vs.toArray, .slice aa na ca, .slice ax nx cx, .int .u16 (cu : Int)] W fun r W' => r = .returned (.bool true) ∧ Below W.heap.size W W' := by
  obtain ⟨w1, hw1, hc1, hb1⟩ : ∃ w1, W.alloc (.cells vs.toArray stT) = w1 ∧ Cut W.heap.size vs stT w1 ∧ Below W.heap.size W w1 := ⟨_, rfl, heap_alloc_new W _, (Below.refl W.heap.size W).alloc (Nat.le_refl _) _⟩
  have HW := Lib.hid hw1
  have HS := Lib.hid hs
  have HAt := Lib.hid hat
  have HAn : Hid (na = zs.length) := hat.1
  have HXn : Hid (nx = xs.length) := hx.1
  have HZ := Lib.hid hz
  have HX := Lib.hid hx
  have HV : Hid (vs.length = 29) := hs.len
  obtain ⟨dd, hdu, hdr⟩ := Option.map_eq_some_iff.1 und_st
  have HDu := Lib.hid hdu
  have HDr := Lib.hid hdr
  have HInf : Hid ((Try.prog.info? stT).map (fun i => i.size) = some vs.length) := by show _ = _; rw [HV.out]; exact info_st
  have HC1 := Lib.hid hc1
  have HB1 := Lib.hid hb1
  have hna63 : na ≤ 9223372036854775807 := by have h1 := hat.2.1; have h2 := hat.2.2.1; unfold maxLen at h2; omega
  have hnx63 : nx ≤ 9223372036854775807 := by have h1 := hx.2.1; have h2 := hx.2.2.1; unfold maxLen at h2; omega
  clear hw1 hc1 hb1 hs hdu hdr hat hz hx
  go_enter Try.func4, Try.ntmps4
  go_upto_region 1 with fail
  rw [HW.out]
  obtain ⟨tb, htb⟩ : ∃ tb, W.heap.size = tb := ⟨_, rfl⟩
  rw [htb] at HC1 ⊢
  have HTb := Lib.hid htb
  clear htb
  go_wp2_with fail
  refine (awake_calls w1).mono ?_
  rintro r w2 ⟨rfl, hb2⟩
  have HB2 := Lib.hid (HB1.out.trans (hb2.mono HB1.out.size))
  have HC2 := Lib.hid (cut_below HC1.out hb2)
  clear hb2
  have HFw := Lib.hid (few_calls w2 vs s (HS.out.below HB2.out).a (Nat.le_trans HS.out.enc (by decide)))
  go_wp2_with (refine wpList_load_g (by kernel_rfl) stT (.tmp 4) rfl tb 0 rfl vs dd (cut_range HC2.out) HDu.out HDr.out HInf.out ?_)
  refine HFw.out.mono ?_
  rintro r w3 ⟨rfl, hb3⟩
  have HB3 := Lib.hid (HB2.out.trans (hb3.mono HB2.out.size))
  have HC3 := Lib.hid (cut_below HC2.out hb3)
  clear hb3 HFw
  by_cases hf : fewN s ≤ 300
  case neg =>
    rw [decide_eq_false hf]
    go_wp2_with fail
    go_ret
    exact ⟨rfl, HB3.out⟩
  rw [decide_eq_true hf]
  have HP := Lib.hid (state_few hf HS.out.q)
  clear hf
  by_cases hna : na ≤ 9
  case neg =>
    have a1 : decide ((9 : Int) < (na : Int)) = true := decide_eq_true (by omega)
    have a2 : (9 : Int) < (na : Int) := by omega
    go_wp2_with fail
    go_ret
    exact ⟨rfl, HB3.out⟩
  have a1 : decide ((9 : Int) < (na : Int)) = false := decide_eq_false (by omega)
  have a2 : ¬ ((9 : Int) < (na : Int)) := by omega
  by_cases hxn : na ≤ nx
  case neg =>
    have b3 : decide (nx < na) = true := decide_eq_true (by omega)
    have b1 : decide ((nx : Int) < (na : Int)) = true := decide_eq_true (by omega)
    have b2 : (nx : Int) < (na : Int) := by omega
    go_wp2_with fail
    go_ret
    exact ⟨rfl, HB3.out⟩
  have b3 : decide (nx < na) = false := decide_eq_false (by omega)
  have b1 : decide ((nx : Int) < (na : Int)) = false := decide_eq_false (by omega)
  have b2 : ¬ ((nx : Int) < (na : Int)) := by omega
  have HPk := Lib.hid (pack_calls w3 vs s (PkArg.ofA (HS.out.below HB3.out).a HV.out) HP.out (Nat.le_trans HS.out.enc (by decide)))
  go_wp2_with (refine wpList_load_g (by kernel_rfl) stT (.tmp 4) rfl tb 0 rfl vs dd (cut_range HC3.out) HDu.out HDr.out HInf.out ?_)
  clear a1 a2 b1 b2 b3
  refine HPk.out.mono ?_
  rintro r w4 ⟨u, rfl, hown, hb4⟩
  have h29 := enc29 s
  have hle := HS.out.enc
  generalize stateC.enc s = bs at *
  obtain ⟨L, hL⟩ : ∃ L, bs.length = L := ⟨_, rfl⟩
  rw [hL] at hown h29 hle
  have HL := Lib.hid hL
  have HB4 : Hid (Below w3.heap.size w3 w4) := hb4
  rcases hown.2 with ⟨_, h0⟩ | ⟨g, cv, cur, rfl, hgB, hgk, hcc, hcm, _⟩
  · exact absurd h0 (by omega)
  have HGB := Lib.hid hgB
  have HCc := Lib.hid hcc
  have HCm := Lib.hid hcm
  have HOw4 := Lib.hid hown
  clear hown hgB hgk hb4 hL hcc hcm HPk
  have a1 : decide ((L : Int) = 0) = false := decide_eq_false (by omega)
  have a2 : ¬ ((L : Int) = 0) := by omega
  have a4 : ((L : Int) == 0) = false := by rw [beq_eq_false_iff_ne]; omega
  by_cases h4k : L ≤ 4000
  case neg =>
    have b1 : decide ((4000 : Int) < (L : Int)) = true := decide_eq_true (by omega)
    have b2 : (4000 : Int) < (L : Int) := by omega
    have c1 : decide ((0 : Int) < (L : Int)) = true := decide_eq_true (by omega)
    have c2 : (0 : Int) < (L : Int) := by omega
    have c3 : decide (0 < L) = true := decide_eq_true (by omega)
    go_wp2_with fail
    go_ret
    exact ⟨rfl, HB3.out.trans (HB4.out.mono HB3.out.size)⟩
  have b1 : decide ((4000 : Int) < (L : Int)) = false := decide_eq_false (by omega)
  have b2 : ¬ ((4000 : Int) < (L : Int)) := by omega
  go_wp2_with fail
  clear b1 b2
  go_loopw [12] (fun i wx => ∃ k : Nat, k ≤ na ∧ i = .int .i64 (k : Int) ∧ ∃ ms : Nm, ms.length = L ∧ wx.ownsRow w3.heap.size 5 1 (.slice (some ⟨g, 0, none⟩) L cv) L (ms.map bv) ∧ Below w3.heap.size w3 wx) (fun i _ => na - (intOf i).toNat)
  case atStart => exact ⟨0, by omega, rfl, bs, HL.out, HOw4.out, HB4.out⟩
  case round =>
    obtain ⟨k, hk, rfl, ms, hms, hown, hbel⟩ := hrel
    by_cases hkn : k < na
    · have b3 : decide (k < na) = true := decide_eq_true (by omega)
      have b1 : decide ((k : Int) < (na : Int)) = true := decide_eq_true (by omega)
      have b2 : (k : Int) < (na : Int) := by omega
      have HOwr := Lib.hid hown
      have HBr := Lib.hid hbel
      have HWr : Hid (Below W.heap.size W wr) := HB3.out.trans (hbel.mono HB3.out.size)
      obtain ⟨ba, oa, hca, hia⟩ := at_u16 (HAt.out.below (stable_intAt _) HWr.out)
      obtain ⟨bx, ox, hcx, hix⟩ := at_bytes (HX.out.below stable_byteAt HWr.out)
      have hcA := hca k (by rw [← HAn.out]; exact hkn)
      have hcX := hcx k (by rw [← HXn.out]; omega)
      have hiA := fun kd w' => hia kd k w' hkn
      have hiX := fun kd w' => hix kd k w' (by omega)
      have hzk := HZ.out zs[k] (List.getElem_mem (by rw [← HAn.out]; exact hkn))
      generalize zs[k] = z at *
      generalize xs[k]'(by rw [← HXn.out]; omega) = xk at *
      obtain ⟨y, rfl⟩ : ∃ y : Nat, z = (y : Int) := ⟨z.toNat, by omega⟩
      obtain ⟨j, hj⟩ : ∃ j : Nat, j = y % L := ⟨_, rfl⟩
      have hjL : j < L := by rw [hj]; exact Nat.mod_lt y (by omega)
      have hkI : (y : Int) % (L : Int) = (j : Int) := by rw [hj]; simp
      have hkT : Int.tmod (y : Int) (L : Int) = (j : Int) := by rw [← hkI]; exact Int.tmod_eq_emod_of_nonneg (by omega)
      have hL0 : ¬ (L : Int) = 0 := by omega
      have hidx := fun kd w' => idx_own (g := g) (n := L) (c := cv) j hjL kd w'
      have hlen : j < (ms.map bv).length := by rw [List.length_map, hms]; exact hjL
      have hcell : ∃ v, wr.cell? ⟨g, j, none⟩ = some v := ⟨(ms.map bv)[j], by rw [hown.cellAt j (by omega), List.getElem?_eq_getElem hlen]⟩
      obtain ⟨v0, hcell⟩ := hcell
      have hfro := hown.frozenAt j
      have hown' := (hown.stored j (bv xk)).1
      rw [← List.map_set] at hown'
      have hbel' : Below w3.heap.size w3 (wr.setCell ⟨g, j, none⟩ (bv xk)) := hbel.setCell (p := ⟨g, j, none⟩) HGB.out _
      have hms' : (ms.set j xk).length = L := by rw [List.length_set]; exact hms
      have HO' := Lib.hid hown'
      have HB' := Lib.hid hbel'
      have HM' := Lib.hid hms'
      clear hown hbel hca hia hcx hix hms hlen hown' hbel' hms' hj
      unfold bv at HO' HB'
      go_upto_region 13 with fail
      go_region
      go_wp2_with fail
      have HO2 := Lib.hid HO'.out.drew
      have HB2 := Lib.hid HB'.out.drew
      refine ⟨⟨k + 1, by omega, by go_num, ms.set j xk, HM'.out, ?_, HB2.out⟩, ?_⟩
      · exact HO2.out
      · simp [intOf]; omega
    · obtain rfl : k = na := by omega
      have b3 : decide (k < k) = false := decide_eq_false (by omega)
      have b1 : decide ((k : Int) < (k : Int)) = false := decide_eq_false (by omega)
      have b2 : ¬ ((k : Int) < (k : Int)) := by omega
      have HMs := Lib.hid hms
      have HOwr := Lib.hid hown
      have HBr := Lib.hid hbel
      obtain ⟨a5, c5, hv5, hv⟩ := ownsRow_bytes hown
      obtain ⟨rfl, rfl⟩ : some (⟨g, 0, none⟩ : Addr) = a5 ∧ cv = c5 := by
        injection hv5 with e1 e2 e3
        exact ⟨e1, e3⟩
      have HVr := Lib.hid hv
      clear hown hbel hv hv5 hms
      obtain ⟨q, hqI, hqT⟩ : ∃ q : Nat, (cu : Int) % 3 = (q : Int) ∧ Int.tmod (cu : Int) 3 = (q : Int) :=
        ⟨cu % 3, by simp, by rw [Int.tmod_eq_emod_of_nonneg (by omega)]; simp⟩
      go_upto_if 72 with fail
      go_cut [13] (fun s13 wx => ∃ n : Nat, n ≤ L ∧ s13 = .int .i64 (n : Int) ∧ wx = wr)
      case first =>
        by_cases hc3 : q = 0
        · have c1 : decide ((q : Int) = 0) = true := decide_eq_true (by omega)
          have c2 : (q : Int) = 0 := by omega
          have c4 : ((q : Int) == 0) = true := by rw [beq_iff_eq]; omega
          obtain ⟨n, hnL, hnI, hnT⟩ : ∃ n : Nat, n < L + 1 ∧ (cu : Int) % ((L : Int) + 1) = (n : Int) ∧ Int.tmod (cu : Int) ((L : Int) + 1) = (n : Int) :=
            ⟨cu % (L + 1), Nat.mod_lt cu (by omega), by simp, by rw [Int.tmod_eq_emod_of_nonneg (by omega)]; simp⟩
          have hL1 : ¬ (L : Int) + 1 = 0 := by omega
          go_wp2_with fail
          go_meet
          exact ⟨n, by omega, rfl, rfl⟩
        · have c1 : decide ((q : Int) = 0) = false := decide_eq_false (by omega)
          have c2 : ¬ ((q : Int) = 0) := by omega
          have c4 : ((q : Int) == 0) = false := by rw [beq_eq_false_iff_ne]; omega
          go_wp2_with fail
          go_meet
          exact ⟨L, Nat.le_refl _, rfl, rfl⟩
      case rest =>
        obtain ⟨n, hn, rfl, rfl⟩ := hcut
        obtain ⟨asl, hsub, hrun⟩ := sub_bytes HVr.out 0 n (Nat.zero_le _) hn
        rw [List.drop_zero, Nat.sub_zero, Nat.sub_zero] at hsub
        have hr2 : ∀ w', (Instr.slice 43 (.slice (some ⟨g, 0, none⟩) L cv) none (some (.int .i64 (n : Int))) none).run Try.prog w' = .ok (.slice asl n cv) w' := fun w' => by have := (hrun w').2.1 rfl .i64; simpa using this
        have HR2 := Lib.hid hr2
        have HSub := Lib.hid hsub
        have HWr : Hid (Below W.heap.size W wc) := HB3.out.trans (HBr.out.mono HB3.out.size)
        clear hsub hrun
        go_wp2_with fail
        clear hr2
        refine (unpack_calls wc asl n cv _ HSub.out (by omega)).mono ?_
        rintro r w5 ⟨vs5, rfl, hl5, hH5, hb5⟩
        have HOne5 := Lib.hid (state_1.one hH5)
        have HVl5 := Lib.hid hl5
        have HH5 := Lib.hid hH5
        have HB5 := Lib.hid (HWr.out.trans (hb5.mono HWr.out.size))
        have HS5 := Lib.hid (HSub.out.below stable_byteAt hb5)
        clear hl5 hH5 hb5
        have HOk : Hid ((unB (ms.take n)).2 = 0 → ms.take n = stateC.enc (unB (ms.take n)).1 ∧ StateP (unB (ms.take n)).1) := fun h => unB_own h
        have HEr : Hid ((unB (ms.take n)).2 ≠ 0 → ((unB (ms.take n)).2 = 10 ∨ (unB (ms.take n)).2 = 11 ∨ (unB (ms.take n)).2 = 14) ∧ (unB (ms.take n)).1 = zeroD) := fun h => unB_err h
        have HTl : Hid ((ms.take n).length ≤ 100000000) := by show _ ≤ _; rw [List.length_take, HMs.out]; omega
        generalize unB (ms.take n) = ue at *
        obtain ⟨t, e⟩ := ue
        change Hid (stateH w5 vs5 t) at HH5
        change Hid (e = 0 → ms.take n = stateC.enc t ∧ StateP t) at HOk
        change Hid (e ≠ 0 → (e = 10 ∨ e = 11 ∨ e = 14) ∧ t = zeroD) at HEr
        obtain ⟨t6, w6, hw6, ht6, hc6, hb6⟩ := new_box w5
        have HW6 : Hid (w5.alloc (.cells #[.slice none 0 0, .slice none 0 0, .int .i64 0, .string ⟨#[]⟩, .slice none 0 0, .slice none 0 0, .slice none 0 0, .slice none 0 0, .slice none 0 0, .int .i64 0, .int .i64 0, .int .i64 0, .string ⟨#[]⟩, .slice none 0 0, .int .i64 0, .int .i64 0, .int .i64 0, .int .i64 0, .string ⟨#[]⟩, .slice none 0 0, .int .i64 0, .slice none 0 0, .int .i64 0, .int .i64 0, .int .i64 0, .bool false, .bool false, .bool false, .int .i64 0] stT) = w6) := hw6
        have HT6 := Lib.hid ht6
        have HC6 := Lib.hid hc6
        have HB56 : Hid (Below w5.heap.size w5 (w6.setCells t6 0 vs5)) := hb6.grown (Sl.setCells_grown t6 vs5 0 w6) hb6.size (fun j hj => by have := Option.some.inj hj; omega)
        clear hw6 ht6 hc6 hb6
        go_upto_region 18 with (refine wpList_store_mid rfl stT (.tmp 14) (.tmp 84) rfl w5.heap.size 0 vs5.toArray rfl rfl (by rw [HW6.out, HT6.out]; exact there_cut HC6.out _ (by rw [List.size_toArray, HVl5.out]; exact Nat.le_refl _)) (by rw [List.size_toArray, HVl5.out]; exact info_st) (all_oneCell_toArray HOne5.out) ?_)
        rw [HW6.out, HT6.out]
        have HCt : Hid (Cut t6 vs5 stT (w6.setCells t6 0 vs5)) := set_cut HC6.out (by rw [HVl5.out]; rfl)
        change Code.wp _ _ _ _ (w6.setCells t6 0 vs5)
        generalize w6.setCells t6 0 vs5 = w7 at *
        have HB7 : Hid (Below W.heap.size W w7) := HB5.out.trans (HB56.out.mono HB5.out.size)
        have HS7 := Lib.hid (HS5.out.below stable_byteAt HB56.out)
        have HA7 : Hid (stateA w7 vs5 t) := stateA_below HB56.out (state_HA HH5.out)
        have HPt : Hid (PkArg w7 vs5 t) := (PkArg.of HH5.out HVl5.out).below HB56.out
        by_cases he : e = 0
        · obtain ⟨het, hpt⟩ := HOk.out he
          have HP7 := Lib.hid hpt
          have HS8 : Hid (Bytes w7 asl n cv (stateC.enc t)) := by show Bytes _ _ _ _ _; rw [← het]; exact HS7.out
          have HLe : Hid ((stateC.enc t).length ≤ 100000000) := by show _ ≤ _; rw [← het]; exact HTl.out
          subst he
          clear het hpt
          go_upto_region 20 with fail
          refine Rg.wp_region_rgl [] [Rg.Is (.agg vs5.toArray), (fun v w => ∃ us : List Value, v = .agg us.toArray ∧ us.length = 25 ∧ rStateA w us t), Rg.Is (.string (str (stateC.enc t))), Rg.Is (.slice (some ⟨g, 0, none⟩) L cv), Rg.Is (.int .i64 (n : Int)), Rg.Is (.slice asl n cv), Rg.Is (.string (str (stateC.enc t))), Rg.Is (.bool true), Rg.Is (.bool true)] (by kernel_rfl) (by kernel_rfl) (by kernel_rfl) ⟨Rg.st_is _, fun v w w' h hb => h.elim fun us h => ⟨us, h.1, h.2.1, rStateA_below hb h.2.2⟩, Rg.st_is _, Rg.st_is _, Rg.st_is _, Rg.st_is _, Rg.st_is _, Rg.st_is _, Rg.st_is _, trivial⟩ ⟨rfl, rfl, rfl, rfl, rfl, rfl, rfl, rfl, rfl, trivial⟩ ⟨?_, ?_, ?_, ?_, ?_, ?_, ?_, ?_, ?_, trivial⟩ ?_
          · intro _ a wx hb hk
            have h14 : a.eval (.tmp 14) = .pointer (some ⟨t6, 0, none⟩) := Eq.mp (by kernel_rfl) (hk 14 (by decide))
            exact Rg.does_load _ _ h14 (load_state (cut_below HCt.out hb) HVl5.out) ⟨Below.refl _ _, rfl⟩
          · intro _ a wx hb hk
            have h103 : a.eval (.tmp 103) = .agg vs5.toArray := Eq.mp (by kernel_rfl) (hk 103 (by decide))
            refine Rg.does_func #[.agg vs5.toArray] Try.func12 (by kernel_rfl) (by kernel_rfl) (by simp [h103]) (of_calls wx vs5 t ((stateA_below hb HA7.out)) HLe.out) ?_
            rintro e w' ⟨us, rfl, hul, hus, hb'⟩
            exact ⟨_, rfl, hb', us, rfl, hul, hus⟩
          · intro _ a wx hb hk
            have h104 : (fun v w => ∃ us : List Value, v = .agg us.toArray ∧ us.length = 25 ∧ rStateA w us t) (a.eval (.tmp 104)) wx := Eq.mp (by kernel_rfl) (hk 104 (by decide))
            obtain ⟨us, hu, hul, hus⟩ := h104
            refine Rg.does_func #[.agg us.toArray] Try.func11 (by kernel_rfl) (by kernel_rfl) (by simp [hu]) (ref_pack_calls wx us t hus (state_PQ HP7.out) HLe.out) ?_
            rintro e w' ⟨rfl, hb'⟩
            exact ⟨_, rfl, hb', rfl⟩
          · intro _ a wx hb hk
            have h11 : a.eval (.tmp 11) = .slice (some ⟨g, 0, none⟩) L cv := Eq.mp (by kernel_rfl) (hk 11 (by decide))
            exact Rg.does_move ⟨Below.refl _ _, h11⟩
          · intro _ a wx hb hk
            have h13 : a.eval (.tmp 13) = .int .i64 (n : Int) := Eq.mp (by kernel_rfl) (hk 13 (by decide))
            exact Rg.does_move ⟨Below.refl _ _, h13⟩
          · intro _ a wx hb hk
            have h106 : a.eval (.tmp 106) = .slice (some ⟨g, 0, none⟩) L cv := Eq.mp (by kernel_rfl) (hk 106 (by decide))
            have h107 : a.eval (.tmp 107) = .int .i64 (n : Int) := Eq.mp (by kernel_rfl) (hk 107 (by decide))
            refine Rg.does_slice _ (by rw [h106, Option.map_none, Option.map_some, h107]; exact HR2.out wx) ⟨Below.refl _ _, rfl⟩
          · intro _ a wx hb hk
            have h108 : a.eval (.tmp 108) = .slice asl n cv := Eq.mp (by kernel_rfl) (hk 108 (by decide))
            exact Rg.does_convert _ _ h108 (str_bytes (HS8.out.below stable_byteAt (hb.mono (Nat.le_refl _)))) ⟨Below.refl _ _, rfl⟩
          · intro _ a wx hb hk
            have h105 : a.eval (.tmp 105) = .string (str (stateC.enc t)) := Eq.mp (by kernel_rfl) (hk 105 (by decide))
            have h109 : a.eval (.tmp 109) = .string (str (stateC.enc t)) := Eq.mp (by kernel_rfl) (hk 109 (by decide))
            exact Rg.does_same_string _ h105 h109 ⟨Below.refl _ _, rfl⟩
          · intro _ a wx hb hk
            have h110 : a.eval (.tmp 110) = .bool true := Eq.mp (by kernel_rfl) (hk 110 (by decide))
            exact Rg.does_assign ⟨Below.refl _ _, h110⟩
          intro vals wD hbD hL
          obtain ⟨g0, g1, g2, g3, g4, g5, g6, g7, g8, _⟩ := hL
          have g8' : vals 8 = .bool true := g8
          have HBD := Lib.hid hbD
          clear g0 g1 g2 g3 g4 g5 g6 g7 g8 hbD
          simp only [Rg.putAll, List.setIfInBounds_toArray, List.set_cons_succ, List.set_cons_zero, g8']
          go_wp2_with fail
          go_ret
          exact ⟨rfl, HB7.out.trans (HBD.out.mono HB7.out.size)⟩
        · obtain ⟨h3, rfl⟩ := HEr.out he
          have HSn := Lib.hid (same_calls w7 vs5 stZ zeroD zeroD HPt.out (PkArg.of (zero_state w7) rfl) zeroD_P zeroD_P (by rw [zero29]; decide) (by rw [zero29]; decide))
          rw [decide_eq_true rfl] at HSn
          clear he
          rcases h3 with rfl | rfl | rfl
          all_goals
            go_wp2_with (refine wpList_load_g (by kernel_rfl) stT (.tmp 14) rfl t6 0 rfl vs5 dd (cut_range HCt.out) HDu.out HDr.out (by rw [HVl5.out]; exact info_st) ?_)
            refine HSn.out.mono ?_
            rintro r w8 ⟨rfl, hb8⟩
            have HB8 := Lib.hid (HB7.out.trans (hb8.mono HB7.out.size))
            go_wp2_with fail
            go_ret
            exact ⟨rfl, HB8.out⟩
end Go.Proofs.Ytnmlnaoljkhjeaa
