/-
  State: truths, put and read; one text. Conditions: as each contract says.
-/
import Derived.Test.YtmhofdoifgfjfaaStTexts
set_option linter.unusedVariables false
set_option maxRecDepth 100000
namespace Go.Proofs.Ytmhofdoifgfjfaa
open Go.RowKit Base

theorem flat_snocB (zs : List Bool) (z : Bool) : (zs ++ [z]).flatMap bitC.enc = zs.flatMap bitC.enc ++ bitC.enc z := by rw [List.flatMap_append]; simp
theorem one_cell {x : World} {b : Nat} {t : TypeId} {v0 : Value} (h : x.heap[b]? = some (.cells #[v0] t)) : x.cell? ⟨b, 0, none⟩ = some v0 ∧ x.frozen? ⟨b, 0, none⟩ = false := by
  refine ⟨?_, ?_⟩ <;> simp [World.cell?, World.frozen?, h]
set_option maxHeartbeats 1000000 in
theorem pk_truths_calls (W : World) (F : Nat) (v : Value) (o : Nm) (g off : Nat) (zs : List Bool) (pb : Nat) (h : PkI F v o W) (hb : Pts pb g off zs.length 109 W) (hbF : pb ≠ F) (hg : g < F)
    (hc : ∀ j (hj : j < zs.length), W.cell? ⟨g, off + j, none⟩ = some (.bool zs[j])) (hfr : ∀ j, j < zs.length → W.frozen? ⟨g, off + j, none⟩ = false) (hl : (o ++ zs.flatMap bitC.enc).length ≤ 1000000000000) (hn : zs.length ≤ 1000) :
    Calls Try.prog 47 #[.pointer (some ⟨F, 0, none⟩), .slice (some ⟨pb, 0, none⟩) zs.length zs.length] W (PkPost F v o (zs.flatMap bitC.enc) W) := by
  have HP := Lib.hid h
  have HB := Lib.hid hb
  have HBF := Lib.hid hbF
  have HG := Lib.hid hg
  have HC := Lib.hid hc
  have HFr := Lib.hid hfr
  have HLn := Lib.hid hl
  clear h hb hbF hg hc hl hfr
  go_enter Try.func47, Try.ntmps47
  go_wp2_with fail
  go_loopw [9] (fun v9 wr => ∃ (k : Nat) (v' : Value), k ≤ zs.length ∧ v9 = .int .i64 k ∧ PkI F v' (o ++ (zs.take k).flatMap bitC.enc) wr ∧ WUp F v v' W wr) (fun v9 _ => zs.length - (intOf v9).toNat)
  case atStart => exact ⟨0, v, Nat.zero_le _, rfl, by rw [List.take_zero, List.flatMap_nil, List.append_nil]; exact HP.out, WUp.refl _ _ _⟩
  case round =>
    obtain ⟨k, v', hk, rfl, hp, hu⟩ := hrel
    have HP2 := Lib.hid hp
    have HU := Lib.hid hu
    clear hp hu
    by_cases hlt : k < zs.length
    · have hx := fun W => ptr_idx Try.underlying152 info_pbool pb zs.length k hlt W
      have HBk := Lib.hid (HU.out.block pb HB.out.lt HBF.out (HB.out.apart HP.out (by decide)))
      have hcp := (HB.out.keep HBk.out).cell hlt
      have hlow := HU.out.low HP.out.hi (Nat.le_refl F) (Nat.le_of_lt HP.out.lt)
      have KX : Hid (wr.cell? ⟨g, off + k, none⟩ = some (.bool (zs[k]'hlt))) := (hlow.cell (p := ⟨g, off + k, none⟩) HG.out).trans (HC.out k hlt)
      have KF : Hid (wr.frozen? ⟨g, off + k, none⟩ = false) := (hlow.frozen (p := ⟨g, off + k, none⟩) HG.out).trans (HFr.out k hlt)
      have HC5 := Lib.hid (HC.out k hlt)
      have HF5 := Lib.hid (HFr.out k hlt)
      have HT := Lib.hid (List.take_succ_eq_append_getElem hlt)
      have HL2 : Hid (((o ++ (zs.take k).flatMap bitC.enc) ++ bitC.enc (zs[k]'hlt)).length ≤ 1000000000000) := by
        show _ ≤ _
        refine Nat.le_trans ?_ HLn.out
        rw [List.append_assoc, ← flat_snocB, ← List.take_succ_eq_append_getElem hlt, List.length_append, List.length_append]
        have h1 : ((zs.take (k + 1)).flatMap bitC.enc).length ≤ (zs.flatMap bitC.enc).length := by
          conv => rhs; rw [← List.take_append_drop (k + 1) zs]
          rw [List.flatMap_append, List.length_append]
          omega
        omega
      clear hlow
      generalize zs[k]'hlt = z at *
      obtain ⟨o2, ho2⟩ : ∃ o2, o ++ (zs.take k).flatMap bitC.enc = o2 := ⟨_, rfl⟩
      have HO2 := Lib.hid ho2
      rw [ho2] at HP2 HL2
      clear ho2
      have u3 : decide (k < zs.length) = true := decide_eq_true (by omega)
      have u1 : decide ((k : Int) < (zs.length : Int)) = true := decide_eq_true (by omega)
      have u2 : (k : Int) < (zs.length : Int) := by omega
      have hk3 := heap_alloc_new wr (.cells #[.int .i64 0] 3)
      have hba := (Below.refl wr.heap.size wr).alloc (Nat.le_refl _) (.cells #[.int .i64 0] 3)
      have hFw := HP2.out.lt
      go_upto_region 4 with fail
      clear hx hcp
      cases z with
      | true =>
        obtain ⟨y0, y1⟩ := one_cell hk3
        have hgw : g < wr.heap.size := by have := HG.out; omega
        have x0 : (wr.alloc (.cells #[.int .i64 0] 3)).cell? ⟨g, off + k, none⟩ = some (.bool true) := (hba.cell (p := ⟨g, off + k, none⟩) hgw).trans KX.out
        go_upto_region 6 with fail
        clear y0 y1 x0 hk3 hba
        obtain ⟨nb, w2, hw2, hnbe, hk4, hbb⟩ : ∃ nb w2, wr.alloc (.cells #[.int .i64 1] 3) = w2 ∧ wr.heap.size = nb ∧ w2.heap[nb]? = some (.cells #[.int .i64 1] 3) ∧ Below wr.heap.size wr w2 :=
          ⟨_, _, rfl, rfl, heap_alloc_new wr _, (Below.refl wr.heap.size wr).alloc (Nat.le_refl _) _⟩
        have HBb := Lib.hid hbb
        have HK4 := Lib.hid hk4
        have HP3 := Lib.hid (HP2.out.below hbb)
        have HNb := Lib.hid hnbe
        have HNl : Hid (nb < w2.heap.size) := (Array.getElem?_eq_some_iff.1 hk4).1
        have HAp : Hid (v'.ownBlock ≠ some nb) := fun e => by have := (HP2.out.own.lt _ e).2; omega
        have HNe : Hid (nb ≠ F) := by show _ ≠ _; omega
        rw [hw2, hnbe]
        clear hbb hk4 hw2 hnbe
        go_wp2_with fail
        refine (pk_int_calls w2 F v' o2 nb 0 1 HP3.out (one_cell HK4.out).1 (by exact ⟨by decide, by decide⟩) HL2.out).mono ?_
        rintro e w3 ⟨rfl, v3, hp3, hu3⟩
        have HP4 := Lib.hid hp3
        have HU4 := Lib.hid ((WUp.of_below HBb.out).trans hu3)
        have hk5 := (hu3.block nb HNl.out HNe.out HAp.out).trans HK4.out
        have hlo2 := (HU.out.trans HU4.out).low HP.out.hi (Nat.le_refl F) (Nat.le_of_lt HP.out.lt)
        have KY : Hid (w3.cell? ⟨g, off + k, none⟩ = some (.bool true)) := (hlo2.cell (p := ⟨g, off + k, none⟩) HG.out).trans HC5.out
        have KG : Hid (w3.frozen? ⟨g, off + k, none⟩ = false) := (hlo2.frozen (p := ⟨g, off + k, none⟩) HG.out).trans HF5.out
        clear hp3 hu3 hlo2
        obtain ⟨y0, y1⟩ := one_cell hk5
        go_wp2_with fail
        refine (must_yes_calls w3 F 11).mono ?_
        rintro e w4 ⟨rfl, rfl⟩
        have z0 := KY.out
        have z1 := KG.out
        go_upto_region 9 with fail
        rw [set_same z0]
        clear z0 z1 y0 y1 hk5
        go_wp2_with fail
        go_roundw
        case rel => exact ⟨k + 1, v3, by omega, by go_num, by rw [HT.out, flat_snocB, ← List.append_assoc, HO2.out]; exact HP4.out, HU.out.trans HU4.out⟩
        case measure => simp [intOf]; omega
      | false =>
        obtain ⟨y0, y1⟩ := one_cell hk3
        have hgw : g < wr.heap.size := by have := HG.out; omega
        have x0 : (wr.alloc (.cells #[.int .i64 0] 3)).cell? ⟨g, off + k, none⟩ = some (.bool false) := (hba.cell (p := ⟨g, off + k, none⟩) hgw).trans KX.out
        go_upto_region 6 with fail
        clear y0 y1 x0 hk3 hba
        obtain ⟨nb, w2, hw2, hnbe, hk4, hbb⟩ : ∃ nb w2, wr.alloc (.cells #[.int .i64 0] 3) = w2 ∧ wr.heap.size = nb ∧ w2.heap[nb]? = some (.cells #[.int .i64 0] 3) ∧ Below wr.heap.size wr w2 :=
          ⟨_, _, rfl, rfl, heap_alloc_new wr _, (Below.refl wr.heap.size wr).alloc (Nat.le_refl _) _⟩
        have HBb := Lib.hid hbb
        have HK4 := Lib.hid hk4
        have HP3 := Lib.hid (HP2.out.below hbb)
        have HNb := Lib.hid hnbe
        have HNl : Hid (nb < w2.heap.size) := (Array.getElem?_eq_some_iff.1 hk4).1
        have HAp : Hid (v'.ownBlock ≠ some nb) := fun e => by have := (HP2.out.own.lt _ e).2; omega
        have HNe : Hid (nb ≠ F) := by show _ ≠ _; omega
        rw [hw2, hnbe]
        clear hbb hk4 hw2 hnbe
        go_wp2_with fail
        refine (pk_int_calls w2 F v' o2 nb 0 0 HP3.out (one_cell HK4.out).1 (by exact ⟨by decide, by decide⟩) HL2.out).mono ?_
        rintro e w3 ⟨rfl, v3, hp3, hu3⟩
        have HP4 := Lib.hid hp3
        have HU4 := Lib.hid ((WUp.of_below HBb.out).trans hu3)
        have hk5 := (hu3.block nb HNl.out HNe.out HAp.out).trans HK4.out
        have hlo2 := (HU.out.trans HU4.out).low HP.out.hi (Nat.le_refl F) (Nat.le_of_lt HP.out.lt)
        have KY : Hid (w3.cell? ⟨g, off + k, none⟩ = some (.bool false)) := (hlo2.cell (p := ⟨g, off + k, none⟩) HG.out).trans HC5.out
        have KG : Hid (w3.frozen? ⟨g, off + k, none⟩ = false) := (hlo2.frozen (p := ⟨g, off + k, none⟩) HG.out).trans HF5.out
        clear hp3 hu3 hlo2
        obtain ⟨y0, y1⟩ := one_cell hk5
        go_wp2_with fail
        refine (must_yes_calls w3 F 11).mono ?_
        rintro e w4 ⟨rfl, rfl⟩
        have z0 := KY.out
        have z1 := KG.out
        go_upto_region 9 with fail
        rw [set_same z0]
        clear z0 z1 y0 y1 hk5
        go_wp2_with fail
        go_roundw
        case rel => exact ⟨k + 1, v3, by omega, by go_num, by rw [HT.out, flat_snocB, ← List.append_assoc, HO2.out]; exact HP4.out, HU.out.trans HU4.out⟩
        case measure => simp [intOf]; omega
    · obtain rfl : k = zs.length := by omega
      rw [List.take_length] at HP2
      have u3 : decide (zs.length < zs.length) = false := decide_eq_false (by omega)
      have u1 : decide ((zs.length : Int) < (zs.length : Int)) = false := decide_eq_false (by omega)
      have u2 : ¬ ((zs.length : Int) < (zs.length : Int)) := by omega
      go_wp2_with fail
      refine bodyPost_end (v := .tuple #[]) (results_none rfl _ _ _) rfl ?_
      exact ⟨rfl, v', HP2.out, HU.out⟩
set_option maxHeartbeats 1000000 in
theorem rk_truths_calls (W : World) (F q : Nat) (l : Nm) (e : Int) (g off m : Nat) (cur : List Value) (t : TypeId) (b : Nat) (h : RkI F q l e W) (hc : Cut g cur t W) (h0 : ∀ j, j < m → cur[off + j]? = some (.bool false)) (hg : F < g)
    (hb : Pts b g off m 109 W) (hbF : F < b) (hbg : b ≠ g) (hn : m ≤ 1000) :
    Calls Try.prog 47 #[.pointer (some ⟨F, 0, none⟩), .slice (some ⟨b, 0, none⟩) m m] W (RkPost F q g off cur ((manyD bitC m l e).1.map bv1) t (manyD bitC m l e).2.1 (manyD bitC m l e).2.2 W) := by
  have H := Lib.hid h
  have HC := Lib.hid hc
  have HZ := Lib.hid h0
  have HG := Lib.hid hg
  have HB := Lib.hid hb
  have HBF := Lib.hid hbF
  have HBG := Lib.hid hbg
  clear h hc h0 hg hb hbF hbg
  go_enter Try.func47, Try.ntmps47
  go_wp2_with fail
  go_loopw [9] (fun v9 wr => ∃ k : Nat, k ≤ m ∧ v9 = .int .i64 k ∧ RkI F q (manyD bitC k l e).2.1 (manyD bitC k l e).2.2 wr ∧ Cut g (splice cur off ((manyD bitC k l e).1.map bv1)) t wr ∧ RUp F q g W wr) (fun v9 _ => m - (intOf v9).toNat)
  case atStart => exact ⟨0, Nat.zero_le _, rfl, H.out, by rw [show (manyD bitC 0 l e).1.map bv1 = [] from rfl, Sl.splice_nil]; exact HC.out, RUp.refl _ _ _ _⟩
  case round =>
    obtain ⟨k, hk, rfl, hr, hcu, hu⟩ := hrel
    have HR := Lib.hid hr
    have HCu := Lib.hid hcu
    have HU := Lib.hid hu
    clear hr hcu hu
    by_cases hlt : k < m
    · have hx := fun W => ptr_idx Try.underlying152 info_pbool b m k hlt W
      have hq := H.out.lt
      have hBk := HB.out.keep (HU.out.block b HB.out.lt (by have := HBF.out; omega) (by have := HBF.out; omega) HBG.out)
      have hcp := hBk.cell hlt
      have hlen : off + m ≤ cur.length := by
        rcases Nat.eq_zero_or_pos m with h | h
        · omega
        · have := (List.getElem?_eq_some_iff.1 (HZ.out (m - 1) (by omega))).1
          omega
      have hml : ((manyD bitC k l e).1.map bv1).length = k := by rw [List.length_map, manyD_len]
      have HZ2 : Hid ((splice cur off ((manyD bitC k l e).1.map bv1))[off + k]? = some (.bool false)) := by
        show _ = _
        rw [splice_after (by rw [hml]; omega) (by rw [hml]; exact Nat.le_refl _)]
        exact HZ.out k hlt
      have HSl : Hid ((splice cur off ((manyD bitC k l e).1.map bv1)).length = cur.length) := splice_len _ _ _ (by rw [hml]; omega)
      have HSp : Hid (splice (splice cur off ((manyD bitC k l e).1.map bv1)) (off + k) [bv1 (bitC.dec (manyD bitC k l e).2.1 (manyD bitC k l e).2.2).1] = splice cur off ((manyD bitC (k + 1) l e).1.map bv1)) := by
        show _ = _
        have h1 := splice_app cur off ((manyD bitC k l e).1.map bv1) [bv1 (bitC.dec (manyD bitC k l e).2.1 (manyD bitC k l e).2.2).1] (by rw [hml]; omega)
        rw [hml] at h1
        rw [h1, manyD_add, manyD_one, List.map_append]
        rfl
      have HN2 : Hid ((manyD bitC (k + 1) l e).2 = (bitC.dec (manyD bitC k l e).2.1 (manyD bitC k l e).2.2).2) := by show _ = _; rw [manyD_add, manyD_one]
      have HOl : Hid (off + k < cur.length) := by show _ < _; omega
      clear hBk hml hlen
      generalize splice cur off ((manyD bitC k l e).1.map bv1) = cu2 at *
      generalize (manyD bitC k l e).2.1 = lk at *
      generalize (manyD bitC k l e).2.2 = ek at *
      obtain ⟨z, hz⟩ : ∃ z, (numC.dec lk ek).1 = z := ⟨_, rfl⟩
      obtain ⟨l1, hl1⟩ : ∃ l1, (numC.dec lk ek).2.1 = l1 := ⟨_, rfl⟩
      obtain ⟨e1, he1⟩ : ∃ e1, (numC.dec lk ek).2.2 = e1 := ⟨_, rfl⟩
      have HD : Hid (bitC.dec lk ek = (decide (z = 1), l1, mustE (decide (z = 0) || decide (z = 1)) e1 11)) := by
        show _ = _
        rw [← hz, ← hl1, ← he1]
        rfl
      have HN3 : Hid ((numC.dec lk ek).1 = z ∧ (numC.dec lk ek).2.1 = l1 ∧ (numC.dec lk ek).2.2 = e1) := ⟨hz, hl1, he1⟩
      clear hz hl1 he1
      have u3 : decide (k < m) = true := decide_eq_true (by omega)
      have u1 : decide ((k : Int) < (m : Int)) = true := decide_eq_true (by omega)
      have u2 : (k : Int) < (m : Int) := by omega
      have hk3 := heap_alloc_new wr (.cells #[.int .i64 0] 3)
      have hba := (Below.refl wr.heap.size wr).alloc (Nat.le_refl _) (.cells #[.int .i64 0] 3)
      have hFw := HR.out.F_lt
      have hgw := HCu.out.lt
      go_upto_region 4 with fail
      clear hx hcp
      have x0 : (wr.alloc (.cells #[.int .i64 0] 3)).cell? ⟨g, off + k, none⟩ = some (.bool false) := (hba.cell (p := ⟨g, off + k, none⟩) hgw).trans ((HCu.out.cell (off + k)).trans HZ2.out)
      obtain ⟨y0, y1⟩ := one_cell hk3
      go_upto_region 6 with fail
      clear x0 y0 y1 hk3 hba
      obtain ⟨nb, w2, hw2, hnbe, hk4, hbb⟩ : ∃ nb w2, wr.alloc (.cells #[.int .i64 0] 3) = w2 ∧ wr.heap.size = nb ∧ w2.heap[nb]? = some (.cells #[.int .i64 0] 3) ∧ Below wr.heap.size wr w2 :=
        ⟨_, _, rfl, rfl, heap_alloc_new wr _, (Below.refl wr.heap.size wr).alloc (Nat.le_refl _) _⟩
      have HBb := Lib.hid hbb
      have HK4 : Hid (Cut nb [.int .i64 0] 3 w2) := hk4
      have HR2 := Lib.hid (HR.out.below hbb)
      have HNF : Hid (F < nb) := by show _ < _; omega
      have HNg : Hid (g < nb) := by show _ < _; omega
      have HWs : Hid (wr.heap.size ≤ nb) := by show _ ≤ _; omega
      rw [hw2, hnbe]
      clear hbb hk4 hw2 hnbe hFw hgw
      go_wp2_with fail
      refine (rk_int_calls w2 F q lk ek nb 0 [.int .i64 0] 3 HR2.out HK4.out rfl HNF.out).mono ?_
      rintro r w3 ⟨rfl, hr3, hc3, hu3⟩
      rw [HN3.out.2.1, HN3.out.2.2] at hr3
      rw [HN3.out.1, splice_one _ _ _ (by decide)] at hc3
      have HR3 := Lib.hid hr3
      have HG3 : Hid (Cut g cu2 t w3) := (hu3.block g (Nat.lt_of_lt_of_le HCu.out.lt HBb.out.size) (by have := HG.out; omega) (by have := HG.out; have := H.out.lt; omega) (by have := HNg.out; omega)).trans ((HBb.out.block g HCu.out.lt).trans HCu.out)
      have HU3 : Hid (RUp F q g W w3) := HU.out.trans ⟨hu3.os.trans HBb.out.os, hu3.tape.trans HBb.out.tape, hu3.output.trans HBb.out.output, Nat.le_trans HBb.out.size hu3.size, fun j hj a b c => (hu3.block j (Nat.lt_of_lt_of_le hj HBb.out.size) a b (by have := HWs.out; omega)).trans (HBb.out.block j hj)⟩
      have hk5 : w3.heap[nb]? = some (.cells #[.int .i64 z] 3) := hc3
      have HK5 := Lib.hid hk5
      obtain ⟨y0, y1⟩ := one_cell hk5
      clear hr3 hc3 hu3 hk5
      by_cases n0 : z = 0
      · subst n0
        go_wp2_with fail
        refine (must_calls w3 F q l1 e1 true 11 HR3.out).mono ?_
        rintro r w4 ⟨rfl, hr4, hu4, hn4⟩
        have HR4 := Lib.hid hr4
        have HG4 : Hid (Cut g cu2 t w4) := (hn4 g (by have := HG.out; omega)).trans HG3.out
        have HU4 := Lib.hid (HU3.out.trans (hu4 g))
        have hk6 := (hn4 nb (by have := HNF.out; omega)).trans HK5.out
        clear y0 y1 hr4 hu4 hn4
        obtain ⟨y0, y1⟩ := one_cell hk6
        have x0 := (HG4.out.cell (off + k)).trans HZ2.out
        have x1 := HG4.out.frozen (off + k)
        skip
        go_upto_region 9 with fail
        have HC5 : Hid (Cut g (splice cur off ((manyD bitC (k + 1) l e).1.map bv1)) t (w4.setCell ⟨g, off + k, none⟩ (.bool false))) := by
          show Cut _ _ _ _
          rw [← HSp.out, HD.out, splice_one _ _ _ (by rw [HSl.out]; exact HOl.out)]
          have := HG4.out.set (off + k) (.bool false)
          exact this
        have HR5 : Hid (RkI F q (manyD bitC (k + 1) l e).2.1 (manyD bitC (k + 1) l e).2.2 (w4.setCell ⟨g, off + k, none⟩ (.bool false))) := by
          show RkI _ _ _ _ _
          rw [HN2.out, HD.out]
          have := HR4.out.set HG.out (off + k) (.bool false)
          exact this
        have HU5 : Hid (RUp F q g W (w4.setCell ⟨g, off + k, none⟩ (.bool false))) := HU4.out.trans (RUp.of_grown (Ap.grown_set w4 g (off + k) _) (fun j hj => .inr (.inr (by injection hj with hj; exact hj.symm))))
        clear y0 y1 x0 x1 hk6
        go_wp2_with fail
        go_roundw
        case rel => exact ⟨k + 1, by omega, by go_num, HR5.out, HC5.out, HU5.out⟩
        case measure => simp [intOf]; omega
      · by_cases n1 : z = 1
        · subst n1
          go_wp2_with fail
          refine (must_calls w3 F q l1 e1 true 11 HR3.out).mono ?_
          rintro r w4 ⟨rfl, hr4, hu4, hn4⟩
          have HR4 := Lib.hid hr4
          have HG4 : Hid (Cut g cu2 t w4) := (hn4 g (by have := HG.out; omega)).trans HG3.out
          have HU4 := Lib.hid (HU3.out.trans (hu4 g))
          have hk6 := (hn4 nb (by have := HNF.out; omega)).trans HK5.out
          clear y0 y1 hr4 hu4 hn4
          obtain ⟨y0, y1⟩ := one_cell hk6
          have x0 := (HG4.out.cell (off + k)).trans HZ2.out
          have x1 := HG4.out.frozen (off + k)
          skip
          go_upto_region 9 with fail
          have HC5 : Hid (Cut g (splice cur off ((manyD bitC (k + 1) l e).1.map bv1)) t (w4.setCell ⟨g, off + k, none⟩ (.bool true))) := by
            show Cut _ _ _ _
            rw [← HSp.out, HD.out, splice_one _ _ _ (by rw [HSl.out]; exact HOl.out)]
            have := HG4.out.set (off + k) (.bool true)
            exact this
          have HR5 : Hid (RkI F q (manyD bitC (k + 1) l e).2.1 (manyD bitC (k + 1) l e).2.2 (w4.setCell ⟨g, off + k, none⟩ (.bool true))) := by
            show RkI _ _ _ _ _
            rw [HN2.out, HD.out]
            have := HR4.out.set HG.out (off + k) (.bool true)
            exact this
          have HU5 : Hid (RUp F q g W (w4.setCell ⟨g, off + k, none⟩ (.bool true))) := HU4.out.trans (RUp.of_grown (Ap.grown_set w4 g (off + k) _) (fun j hj => .inr (.inr (by injection hj with hj; exact hj.symm))))
          clear y0 y1 x0 x1 hk6
          go_wp2_with fail
          go_roundw
          case rel => exact ⟨k + 1, by omega, by go_num, HR5.out, HC5.out, HU5.out⟩
          case measure => simp [intOf]; omega
        · have n2 : (z == 0) = false := by simp [n0]
          have n3 : (z == 1) = false := by simp [n1]
          go_wp2_with fail
          refine (must_calls w3 F q l1 e1 false 11 HR3.out).mono ?_
          rintro r w4 ⟨rfl, hr4, hu4, hn4⟩
          have HR4 := Lib.hid hr4
          have HG4 : Hid (Cut g cu2 t w4) := (hn4 g (by have := HG.out; omega)).trans HG3.out
          have HU4 := Lib.hid (HU3.out.trans (hu4 g))
          have hk6 := (hn4 nb (by have := HNF.out; omega)).trans HK5.out
          clear y0 y1 hr4 hu4 hn4
          obtain ⟨y0, y1⟩ := one_cell hk6
          have x0 := (HG4.out.cell (off + k)).trans HZ2.out
          have x1 := HG4.out.frozen (off + k)
          skip
          go_upto_region 9 with fail
          have HC5 : Hid (Cut g (splice cur off ((manyD bitC (k + 1) l e).1.map bv1)) t (w4.setCell ⟨g, off + k, none⟩ (.bool false))) := by
            show Cut _ _ _ _
            rw [← HSp.out, HD.out, splice_one _ _ _ (by rw [HSl.out]; exact HOl.out)]
            have := HG4.out.set (off + k) (.bool false)
            simpa [n0, n1] using this
          have HR5 : Hid (RkI F q (manyD bitC (k + 1) l e).2.1 (manyD bitC (k + 1) l e).2.2 (w4.setCell ⟨g, off + k, none⟩ (.bool false))) := by
            show RkI _ _ _ _ _
            rw [HN2.out, HD.out]
            have := HR4.out.set HG.out (off + k) (.bool false)
            simpa [n0, n1] using this
          have HU5 : Hid (RUp F q g W (w4.setCell ⟨g, off + k, none⟩ (.bool false))) := HU4.out.trans (RUp.of_grown (Ap.grown_set w4 g (off + k) _) (fun j hj => .inr (.inr (by injection hj with hj; exact hj.symm))))
          clear y0 y1 x0 x1 hk6
          go_wp2_with fail
          go_roundw
          case rel => exact ⟨k + 1, by omega, by go_num, HR5.out, HC5.out, HU5.out⟩
          case measure => simp [intOf]; omega
    · obtain rfl : k = m := by omega
      have u3 : decide (k < k) = false := decide_eq_false (by omega)
      have u1 : decide ((k : Int) < (k : Int)) = false := decide_eq_false (by omega)
      have u2 : ¬ ((k : Int) < (k : Int)) := by omega
      go_wp2_with fail
      refine bodyPost_end (v := .tuple #[]) (results_none rfl _ _ _) rfl ?_
      exact ⟨rfl, HR.out, HCu.out, HU.out⟩
end Go.Proofs.Ytmhofdoifgfjfaa
