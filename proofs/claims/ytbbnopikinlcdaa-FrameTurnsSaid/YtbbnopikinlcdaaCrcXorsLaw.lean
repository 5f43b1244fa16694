/-
  The walk of the statement CrcXors: the sum of three rows, xored byte by byte, is that of their sums: true; nothing that was there turns. Conditions: the arguments can be read.
-/
import Derived.Test.YtbbnopikinlcdaaCrcAwake
import Derived.Test.YtbbnopikinlcdaaRegion
set_option linter.unusedVariables false
namespace Go.Proofs.Ytbbnopikinlcdaa
open Go.RowKit Base

theorem xor_u8 (x y : UInt8) : bits .xor .u8 (x.toNat : Int) (y.toNat : Int) = ((x ^^^ y).toNat : Int) := by
  rw [u8_xor_nat _ _ x.toNat_lt y.toNat_lt, UInt8.toNat_xor]

/-- The first k xored, the rest as they were made. -/
def mix (l0 l1 l2 : List UInt8) (n k : Nat) : List UInt8 := ((CrcPlain.xors (CrcPlain.xors l0 l1) l2).take n).take k ++ List.replicate (n - k) 0
theorem mix_zero (l0 l1 l2 : List UInt8) (n : Nat) : mix l0 l1 l2 n 0 = List.replicate n 0 := by simp [mix]
theorem xors_len (l0 l1 l2 : List UInt8) (n : Nat) (h0 : n ≤ l0.length) (h1 : n ≤ l1.length) (h2 : n ≤ l2.length) : ((CrcPlain.xors (CrcPlain.xors l0 l1) l2).take n).length = n := by
  simp [CrcPlain.xors]; omega
theorem mix_step (l0 l1 l2 : List UInt8) (n k : Nat) (h0 : n ≤ l0.length) (h1 : n ≤ l1.length) (h2 : n ≤ l2.length) (hk : k < n) :
    (mix l0 l1 l2 n k).set k (l0[k] ^^^ l1[k] ^^^ l2[k]) = mix l0 l1 l2 n (k + 1) := by
  have hl := xors_len l0 l1 l2 n h0 h1 h2
  have hx : ((CrcPlain.xors (CrcPlain.xors l0 l1) l2).take n)[k]'(by rw [hl]; exact hk) = l0[k] ^^^ l1[k] ^^^ l2[k] := by
    simp [CrcPlain.xors]
  unfold mix
  revert hx
  generalize l0[k] ^^^ l1[k] ^^^ l2[k] = y
  revert hl
  generalize (CrcPlain.xors (CrcPlain.xors l0 l1) l2).take n = z
  intro hl hx
  have e : n - k = (n - (k + 1)) + 1 := by omega
  rw [e, List.replicate_succ, List.set_append_right _ _ (by simp; omega)]
  rw [List.take_succ_eq_append_getElem (by omega), hx]
  simp [show k - min k z.length = 0 by omega]
theorem mix_all (l0 l1 l2 : List UInt8) (n : Nat) (h0 : n ≤ l0.length) (h1 : n ≤ l1.length) (h2 : n ≤ l2.length) : mix l0 l1 l2 n n = CrcPlain.xors (CrcPlain.xors (l0.take n) (l1.take n)) (l2.take n) := by
  have hl := xors_len l0 l1 l2 n h0 h1 h2
  unfold mix
  rw [Nat.sub_self, List.replicate_zero, List.append_nil, List.take_of_length_le (by omega)]
  unfold CrcPlain.xors
  rw [List.take_zipWith, List.take_zipWith]

set_option maxHeartbeats 4000000 in
set_option maxRecDepth 100000 in
theorem crc_xors_law (w : World) (a0 a1 a2 : Option Addr) (n0 n1 n2 c0 c1 c2 : Nat) (l0 l1 l2 : List UInt8) (h0 : Bytes w a0 n0 c0 l0) (h1 : Bytes w a1 n1 c1 l1) (h2 : Bytes w a2 n2 c2 l2) :
    Calls Try.prog 6 #[.slice a0 n0 c0, .slice a1 n1 c1, .slice a2 n2 c2] w fun e w' => e = .returned (.bool true) ∧ Below w.heap.size w w' := by
  obtain ⟨i0, hi, hz0, hz1, hz2⟩ := info_parts info_u8
  have e0 := h0.1
  have e1 := h1.1
  have e2 := h2.1
  have hc0 := h0.2.2.1
  have hc1 := h1.2.2.1
  have hc2 := h2.2.2.1
  have hn0 := h0.2.1
  have hn1 := h1.2.1
  have hn2 := h2.2.1
  unfold maxLen at hc0 hc1 hc2
  obtain ⟨m, hm01, hm0, hm1⟩ : ∃ m : Nat, (∀ (ts : Array TypeId) (t : TypeId) (w : World), (Builtin.min_ ts t #[.int .i64 (n0 : Int), .int .i64 (n1 : Int)]).run Try.prog w = .ok (.int .i64 (m : Int)) w) ∧ m ≤ n0 ∧ m ≤ n1 := by
    refine ⟨min n0 n1, fun ts t w => ?_, Nat.min_le_left _ _, Nat.min_le_right _ _⟩
    rw [run_min_int2]
    congr 2
    split <;> omega
  obtain ⟨n, hmn, hle, hle2⟩ : ∃ n : Nat, (∀ (ts : Array TypeId) (t : TypeId) (w : World), (Builtin.min_ ts t #[.int .i64 (m : Int), .int .i64 (n2 : Int)]).run Try.prog w = .ok (.int .i64 (n : Int)) w) ∧ n ≤ m ∧ n ≤ n2 := by
    refine ⟨min m n2, fun ts t w => ?_, Nat.min_le_left _ _, Nat.min_le_right _ _⟩
    rw [run_min_int2]
    congr 2
    split <;> omega
  have hle0 : n ≤ n0 := by omega
  have hle1 : n ≤ n1 := by omega
  have H0 := Lib.hid h0; clear h0
  have H1 := Lib.hid h1; clear h1
  have H2 := Lib.hid h2; clear h2
  have HE0 := Lib.hid e0; clear e0
  have HE1 := Lib.hid e1; clear e1
  have HE2 := Lib.hid e2; clear e2
  by_cases hbig : 600 < n
  · go_enter Try.func6, Try.ntmps6
    go_wp2_with fail
    refine (crc_awake_calls _).mono ?_
    rintro e w1 ⟨rfl, hb1⟩
    go_wp2_with fail
    go_ret
    exact ⟨rfl, hb1⟩
  generalize hB : w.heap.size = B
  have HB := Lib.hid hB; clear hB
  go_enter Try.func6, Try.ntmps6
  go_wp2_with fail
  refine (crc_awake_calls _).mono ?_
  rintro e w1 ⟨rfl, hb1⟩
  rw [HB.out] at hb1
  have hs1 : B ≤ w1.heap.size := by have := hb1.size; rw [HB.out] at this; exact this
  have below : ∀ wx, Below B w wx → Below w.heap.size w wx := fun wx hx => by rw [HB.out]; exact hx
  have HBel := Lib.hid below; clear below
  go_wp2_with (at_make; refine wpList_make_full _ rfl _ _ 22 rfl B 5 i0 (.int .u8 0) 1 Try.underlying22 hi hz0 hz1 _ _ _ _ n rfl rfl rfl rfl ?_ ?_ ?_ ?_)
  case _ => rw [hz2]; omega
  case _ => unfold maxLen; omega
  case _ => exact hs1
  intro w2 hown2 hg2
  have hb2 : Below B w w2 := hb1.grown hg2 (by omega) (fun j hj => by cases hj)
  have hs2 : B ≤ w2.heap.size := Nat.le_trans hs1 hg2.size
  rw [toList_madeCells_one] at hown2
  have hown3 : w2.ownsRow B 5 1 (.slice (some ⟨w1.heap.size, 0, none⟩) n n) n ((mix l0 l1 l2 n 0).map bv) := by
    rw [mix_zero, List.map_replicate]; exact hown2
  have hgB : B ≤ w1.heap.size := hs1
  generalize w1.heap.size = g at *
  clear hown2 hg2 hb1 hs1
  go_wp2_with fail
  go_loopw [10] (fun i wr => ∃ k : Nat, k ≤ n ∧ i = .int .i64 k ∧ wr.ownsRow B 5 1 (.slice (some ⟨g, 0, none⟩) n n) n ((mix l0 l1 l2 n k).map bv) ∧ Below B w wr ∧ B ≤ wr.heap.size) (fun i _ => n - (intOf i).toNat)
  case atStart => exact ⟨0, Nat.zero_le _, rfl, hown3, hb2, hs2⟩
  case round =>
    obtain ⟨k, hk, rfl, hown, hbel, hBs⟩ := hrel
    clear hown3 hb2 hs2
    by_cases hltn : k < n
    · obtain ⟨b0, o0, HC, HI0⟩ := at_bytes (H0.out.below stable_byteAt (HBel.out _ hbel))
      have HC0 := Lib.hid (HC k (by rw [← HE0.out]; omega)); clear HC
      obtain ⟨b1, o1, HC, HI1⟩ := at_bytes (H1.out.below stable_byteAt (HBel.out _ hbel))
      have HC1 := Lib.hid (HC k (by rw [← HE1.out]; omega)); clear HC
      obtain ⟨b2, o2, HC, HI2⟩ := at_bytes (H2.out.below stable_byteAt (HBel.out _ hbel))
      have HC2 := Lib.hid (HC k (by rw [← HE2.out]; omega)); clear HC
      obtain ⟨_, _, hvd, hrowd⟩ := ownsRow_bytes hown
      cases hvd
      obtain ⟨bd, od, _, HID0⟩ := at_bytes hrowd
      have HID1 : ∀ (kd : IntKind) (k : Nat) (w' : World), k < n → (Instr.indexAt 22 (.slice (some ⟨g, 0, none⟩) n n) (.int kd (k : Int))).run Try.prog w' = .ok (.pointer (some ⟨g, k, none⟩)) w' := by
        obtain ⟨i, hi', _, hs, _⟩ := info_parts info_u8
        intro kd k w' hk
        rw [run_indexAt_slice w' 22 _ n n kd k (by simp [Program.elem, Try.underlying22]), if_pos ⟨by omega, by omega⟩]
        simp [Program.elem, Try.underlying22, sizeOf, typeInfo, hi', hs, Result.andThen, Addr.add_lit]
      have HID := Lib.hid HID1
      clear HID0 HID1 hrowd
      have HI0' := HI0; have HI1' := HI1; have HI2' := HI2
      clear HI0 HI1 HI2
      have HI0 := Lib.hid HI0'; clear HI0'
      have HI1 := Lib.hid HI1'; clear HI1'
      have HI2 := Lib.hid HI2'; clear HI2'
      have hlt0 : k < n0 := by omega
      have hlt1 : k < n1 := by omega
      have hlt2 : k < n2 := by omega
      have Hstep := Lib.hid (mix_step l0 l1 l2 n k (by rw [← HE0.out]; exact hle0) (by rw [← HE1.out]; exact hle1) (by rw [← HE2.out]; exact hle2) hltn)
      generalize l0[k]'(by rw [← HE0.out]; omega) = y0 at *
      generalize l1[k]'(by rw [← HE1.out]; omega) = y1 at *
      generalize l2[k]'(by rw [← HE2.out]; omega) = y2 at *
      have hwr : wr.heap.size ≤ wr.heap.size := Nat.le_refl _
      go_wp2_with fail
      refine Rg.wp_region_rgt 17 [] [Rg.Is (.slice (some ⟨g, 0, none⟩) n n), Rg.Is (.int .i64 (k : Int)), Rg.Is (.slice a0 n0 c0), Rg.Is (.int .i64 (k : Int)), Rg.Is (.pointer (some ⟨b0, o0 + k, none⟩)), Rg.Is (.int .u8 (y0.toNat : Int)), Rg.Is (.slice a1 n1 c1), Rg.Is (.int .i64 (k : Int)), Rg.Is (.pointer (some ⟨b1, o1 + k, none⟩)), Rg.Is (.int .u8 (y1.toNat : Int)), Rg.Is (.int .u8 ((y0 ^^^ y1).toNat : Int)), Rg.Is (.slice a2 n2 c2), Rg.Is (.int .i64 (k : Int)), Rg.Is (.pointer (some ⟨b2, o2 + k, none⟩)), Rg.Is (.int .u8 (y2.toNat : Int)), Rg.Is (.int .u8 ((y0 ^^^ y1 ^^^ y2).toNat : Int)), Rg.Is (.pointer (some ⟨g, k, none⟩))] (by kernel_rfl) (by kernel_rfl) (of_decide_eq_true (by kernel_rfl)) (by kernel_rfl) (by kernel_rfl) ⟨Rg.st_is _, Rg.st_is _, Rg.st_is _, Rg.st_is _, Rg.st_is _, Rg.st_is _, Rg.st_is _, Rg.st_is _, Rg.st_is _, Rg.st_is _, Rg.st_is _, Rg.st_is _, Rg.st_is _, Rg.st_is _, Rg.st_is _, Rg.st_is _, Rg.st_is _, trivial⟩ ⟨rfl, rfl, rfl, rfl, rfl, rfl, rfl, rfl, rfl, rfl, rfl, rfl, rfl, rfl, rfl, rfl, rfl, trivial⟩ ⟨?_, ?_, ?_, ?_, ?_, ?_, ?_, ?_, ?_, ?_, ?_, ?_, ?_, ?_, ?_, ?_, ?_, trivial⟩ ?_
      · intro _ a wx hb hk
        have h9 : a.eval (.tmp 9) = .slice (some ⟨g, 0, none⟩) n n := Eq.mp (by kernel_rfl) (hk 9 (by decide))
        exact Rg.does_move ⟨Below.refl _ _, h9⟩
      · intro _ a wx hb hk
        have h10 : a.eval (.tmp 10) = .int .i64 (k : Int) := Eq.mp (by kernel_rfl) (hk 10 (by decide))
        exact Rg.does_move ⟨Below.refl _ _, h10⟩
      · intro _ a wx hb hk
        have h0 : a.eval (.tmp 0) = .slice a0 n0 c0 := Eq.mp (by kernel_rfl) (hk 0 (by decide))
        exact Rg.does_move ⟨Below.refl _ _, h0⟩
      · intro _ a wx hb hk
        have h10 : a.eval (.tmp 10) = .int .i64 (k : Int) := Eq.mp (by kernel_rfl) (hk 10 (by decide))
        exact Rg.does_move ⟨Below.refl _ _, h10⟩
      · intro _ a wx hb hk
        have h34 : a.eval (.tmp 34) = .slice a0 n0 c0 := Eq.mp (by kernel_rfl) (hk 34 (by decide))
        have h35 : a.eval (.tmp 35) = .int .i64 (k : Int) := Eq.mp (by kernel_rfl) (hk 35 (by decide))
        exact Rg.does_index _ _ _ h34 h35 (HI0.out .i64 k wx hlt0) ⟨Below.refl _ _, rfl⟩
      · intro _ a wx hb hk
        have h36 : a.eval (.tmp 36) = .pointer (some ⟨b0, o0 + k, none⟩) := Eq.mp (by kernel_rfl) (hk 36 (by decide))
        exact Rg.does_load _ _ h36 (load_u8 (cell_below hb hwr HC0.out)) ⟨Below.refl _ _, rfl⟩
      · intro _ a wx hb hk
        have h1 : a.eval (.tmp 1) = .slice a1 n1 c1 := Eq.mp (by kernel_rfl) (hk 1 (by decide))
        exact Rg.does_move ⟨Below.refl _ _, h1⟩
      · intro _ a wx hb hk
        have h10 : a.eval (.tmp 10) = .int .i64 (k : Int) := Eq.mp (by kernel_rfl) (hk 10 (by decide))
        exact Rg.does_move ⟨Below.refl _ _, h10⟩
      · intro _ a wx hb hk
        have h38 : a.eval (.tmp 38) = .slice a1 n1 c1 := Eq.mp (by kernel_rfl) (hk 38 (by decide))
        have h39 : a.eval (.tmp 39) = .int .i64 (k : Int) := Eq.mp (by kernel_rfl) (hk 39 (by decide))
        exact Rg.does_index _ _ _ h38 h39 (HI1.out .i64 k wx hlt1) ⟨Below.refl _ _, rfl⟩
      · intro _ a wx hb hk
        have h40 : a.eval (.tmp 40) = .pointer (some ⟨b1, o1 + k, none⟩) := Eq.mp (by kernel_rfl) (hk 40 (by decide))
        exact Rg.does_load _ _ h40 (load_u8 (cell_below hb hwr HC1.out)) ⟨Below.refl _ _, rfl⟩
      · intro _ a wx hb hk
        have h37 : a.eval (.tmp 37) = .int .u8 (y0.toNat : Int) := Eq.mp (by kernel_rfl) (hk 37 (by decide))
        have h41 : a.eval (.tmp 41) = .int .u8 (y1.toNat : Int) := Eq.mp (by kernel_rfl) (hk 41 (by decide))
        exact Rg.does_bin .u8 _ _ _ h37 h41 (by rw [binOp_xor, intBits_xor, xor_u8]; rfl) ⟨Below.refl _ _, rfl⟩
      · intro _ a wx hb hk
        have h2 : a.eval (.tmp 2) = .slice a2 n2 c2 := Eq.mp (by kernel_rfl) (hk 2 (by decide))
        exact Rg.does_move ⟨Below.refl _ _, h2⟩
      · intro _ a wx hb hk
        have h10 : a.eval (.tmp 10) = .int .i64 (k : Int) := Eq.mp (by kernel_rfl) (hk 10 (by decide))
        exact Rg.does_move ⟨Below.refl _ _, h10⟩
      · intro _ a wx hb hk
        have h43 : a.eval (.tmp 43) = .slice a2 n2 c2 := Eq.mp (by kernel_rfl) (hk 43 (by decide))
        have h44 : a.eval (.tmp 44) = .int .i64 (k : Int) := Eq.mp (by kernel_rfl) (hk 44 (by decide))
        exact Rg.does_index _ _ _ h43 h44 (HI2.out .i64 k wx hlt2) ⟨Below.refl _ _, rfl⟩
      · intro _ a wx hb hk
        have h45 : a.eval (.tmp 45) = .pointer (some ⟨b2, o2 + k, none⟩) := Eq.mp (by kernel_rfl) (hk 45 (by decide))
        exact Rg.does_load _ _ h45 (load_u8 (cell_below hb hwr HC2.out)) ⟨Below.refl _ _, rfl⟩
      · intro _ a wx hb hk
        have h42 : a.eval (.tmp 42) = .int .u8 ((y0 ^^^ y1).toNat : Int) := Eq.mp (by kernel_rfl) (hk 42 (by decide))
        have h46 : a.eval (.tmp 46) = .int .u8 (y2.toNat : Int) := Eq.mp (by kernel_rfl) (hk 46 (by decide))
        exact Rg.does_bin .u8 _ _ _ h42 h46 (by rw [binOp_xor, intBits_xor, xor_u8]; rfl) ⟨Below.refl _ _, rfl⟩
      · intro _ a wx hb hk
        have h32 : a.eval (.tmp 32) = .slice (some ⟨g, 0, none⟩) n n := Eq.mp (by kernel_rfl) (hk 32 (by decide))
        have h33 : a.eval (.tmp 33) = .int .i64 (k : Int) := Eq.mp (by kernel_rfl) (hk 33 (by decide))
        exact Rg.does_index _ _ _ h32 h33 (HID.out .i64 k wx hltn) ⟨Below.refl _ _, rfl⟩
      intro vals wD hbD hL
      obtain ⟨g0, g1, g2, g3, g4, g5, g6, g7, g8, g9, g10, g11, g12, g13, g14, g15, g16, _⟩ := hL
      have hownD := ownsRow_below hown hbD
      have hcell := hownD.cellAt k (by omega)
      have hfro := hownD.frozenAt k
      have hlen : k < ((mix l0 l1 l2 n k).map bv).length := by rw [hownD.1]; omega
      have hcell' : wD.cell? ⟨g, k, none⟩ = some (((mix l0 l1 l2 n k).map bv)[k]'hlen) := by rw [hcell, List.getElem?_eq_getElem hlen]
      generalize ((mix l0 l1 l2 n k).map bv)[k]'hlen = old at hcell'
      have g15' : vals 15 = .int .u8 ((y0 ^^^ y1 ^^^ y2).toNat : Int) := g15
      have g16' : vals 16 = .pointer (some ⟨g, k, none⟩) := g16
      have hbelD : Below B w wD := hbel.trans (hbD.mono hBs)
      have hsD : B ≤ wD.heap.size := Nat.le_trans hBs hbD.size
      have hst := hownD.stored k (bv (y0 ^^^ y1 ^^^ y2))
      clear g0 g1 g2 g3 g4 g5 g6 g7 g8 g9 g10 g11 g12 g13 g14 g15 g16 hcell hbD hown hownD hbel HC0 HC1 HC2 HI0 HI1 HI2
      simp only [Rg.putAll, List.take_succ_cons, List.take_zero, List.drop_succ_cons, List.drop_zero, List.setIfInBounds_toArray, List.set_cons_succ, List.set_cons_zero, g15', g16']
      have hown' : (wD.setCell ⟨g, k, none⟩ (.int .u8 ((y0 ^^^ y1 ^^^ y2).toNat : Int))).ownsRow B 5 1 (.slice (some ⟨g, 0, none⟩) n n) n ((mix l0 l1 l2 n (k + 1)).map bv) := by
        have := hst.1
        rw [← List.map_set, Hstep.out] at this
        exact this
      have hbel' : Below B w (wD.setCell ⟨g, k, none⟩ (.int .u8 ((y0 ^^^ y1 ^^^ y2).toNat : Int))) := hbelD.setCell (p := ⟨g, k, none⟩) hgB _
      clear hst hbelD
      go_wp2_with fail
      go_roundw
      case rel => exact ⟨k + 1, by omega, by go_num, hown', hbel', by simp; omega⟩
      case measure => simp [intOf]; omega
    · obtain rfl : k = n := by omega
      have HX0 := mix_all l0 l1 l2 k (by rw [← HE0.out]; exact hle0) (by rw [← HE1.out]; exact hle1) (by rw [← HE2.out]; exact hle2)
      have HX1 : CrcPlain.of (mix l0 l1 l2 k k) = CrcPlain.of (l0.take k) ^^^ CrcPlain.of (l1.take k) ^^^ CrcPlain.of (l2.take k) := by
        rw [HX0, CrcPlain.of_xors]
        · simp; have := HE0.out; have := HE1.out; omega
        · simp; have := HE2.out; have := HE1.out; omega
      clear HX0
      obtain ⟨ad, cd, hvd, hrowd⟩ := ownsRow_bytes hown
      obtain ⟨s0, hB0, hS0⟩ := sub_bytes (H0.out.below stable_byteAt (HBel.out _ hbel)) 0 k (Nat.zero_le _) hle0
      obtain ⟨s1, hB1, hS1⟩ := sub_bytes (H1.out.below stable_byteAt (HBel.out _ hbel)) 0 k (Nat.zero_le _) hle1
      obtain ⟨s2, hB2, hS2⟩ := sub_bytes (H2.out.below stable_byteAt (HBel.out _ hbel)) 0 k (Nat.zero_le _) hle2
      rw [List.drop_zero] at hB0 hB1 hB2
      cases hvd
      have HD := Lib.hid hrowd
      have HB0 := Lib.hid hB0
      have HB1 := Lib.hid hB1
      have HB2 := Lib.hid hB2
      have HS0 := Lib.hid hS0
      have HS1 := Lib.hid hS1
      have HS2 := Lib.hid hS2
      have HX := Lib.hid HX1
      clear hrowd hB0 hB1 hB2 hS0 hS1 hS2 HX1 hown H0 H1 H2 HBel hmn hm01
      have hwr : wr.heap.size ≤ wr.heap.size := Nat.le_refl _
      go_wp2_with fail
      refine Rg.wp_region_rgl [] [Rg.Is (.slice (some ⟨g, 0, none⟩) k k), Rg.Is (.int .u32 ((CrcPlain.of (mix l0 l1 l2 k k)).toNat : Int)), Rg.Is (.slice a0 n0 c0), Rg.Is (.int .i64 (k : Int)), Rg.Is (.slice s0 (k - 0) (c0 - 0)), Rg.Is (.int .u32 ((CrcPlain.of (l0.take k)).toNat : Int)), Rg.Is (.slice a1 n1 c1), Rg.Is (.int .i64 (k : Int)), Rg.Is (.slice s1 (k - 0) (c1 - 0)), Rg.Is (.int .u32 ((CrcPlain.of (l1.take k)).toNat : Int)), Rg.Is (.int .u32 ((CrcPlain.of (l0.take k) ^^^ CrcPlain.of (l1.take k)).toNat : Int)), Rg.Is (.slice a2 n2 c2), Rg.Is (.int .i64 (k : Int)), Rg.Is (.slice s2 (k - 0) (c2 - 0)), Rg.Is (.int .u32 ((CrcPlain.of (l2.take k)).toNat : Int)), Rg.Is (.int .u32 ((CrcPlain.of (l0.take k) ^^^ CrcPlain.of (l1.take k) ^^^ CrcPlain.of (l2.take k)).toNat : Int)), Rg.Is (.bool true), Rg.Is (.bool true)] (by kernel_rfl) (by kernel_rfl) (by kernel_rfl) ⟨Rg.st_is _, Rg.st_is _, Rg.st_is _, Rg.st_is _, Rg.st_is _, Rg.st_is _, Rg.st_is _, Rg.st_is _, Rg.st_is _, Rg.st_is _, Rg.st_is _, Rg.st_is _, Rg.st_is _, Rg.st_is _, Rg.st_is _, Rg.st_is _, Rg.st_is _, Rg.st_is _, trivial⟩ ⟨rfl, rfl, rfl, rfl, rfl, rfl, rfl, rfl, rfl, rfl, rfl, rfl, rfl, rfl, rfl, rfl, rfl, rfl, trivial⟩ ⟨?_, ?_, ?_, ?_, ?_, ?_, ?_, ?_, ?_, ?_, ?_, ?_, ?_, ?_, ?_, ?_, ?_, ?_, trivial⟩ ?_
      · intro _ a wx hb hk
        have h9 : a.eval (.tmp 9) = .slice (some ⟨g, 0, none⟩) k k := Eq.mp (by kernel_rfl) (hk 9 (by decide))
        exact Rg.does_move ⟨Below.refl _ _, h9⟩
      · intro _ a wx hb hk
        have h49 : a.eval (.tmp 49) = .slice (some ⟨g, 0, none⟩) k k := Eq.mp (by kernel_rfl) (hk 49 (by decide))
        refine Rg.does_func #[.slice (some ⟨g, 0, none⟩) k k] Try.func18 (by kernel_rfl) (by kernel_rfl) (by simp [h49]) (crc_of_calls wx (some ⟨g, 0, none⟩) k k (mix l0 l1 l2 k k) (HD.out.below stable_byteAt hb)) ?_
        rintro e w' ⟨rfl, hb'⟩
        exact ⟨_, rfl, hb', rfl⟩
      · intro _ a wx hb hk
        have h0 : a.eval (.tmp 0) = .slice a0 n0 c0 := Eq.mp (by kernel_rfl) (hk 0 (by decide))
        exact Rg.does_move ⟨Below.refl _ _, h0⟩
      · intro _ a wx hb hk
        have h8 : a.eval (.tmp 8) = .int .i64 (k : Int) := Eq.mp (by kernel_rfl) (hk 8 (by decide))
        exact Rg.does_move ⟨Below.refl _ _, h8⟩
      · intro _ a wx hb hk
        have h51 : a.eval (.tmp 51) = .slice a0 n0 c0 := Eq.mp (by kernel_rfl) (hk 51 (by decide))
        have h52 : a.eval (.tmp 52) = .int .i64 (k : Int) := Eq.mp (by kernel_rfl) (hk 52 (by decide))
        exact Rg.does_sub _ Try.underlying22 (by rw [h51]; simp only [Option.map, h52]; exact (HS0.out wx).2.1 (by trivial) .i64) ⟨Below.refl _ _, rfl⟩
      · intro _ a wx hb hk
        have h53 : a.eval (.tmp 53) = .slice s0 (k - 0) (c0 - 0) := Eq.mp (by kernel_rfl) (hk 53 (by decide))
        refine Rg.does_func #[.slice s0 (k - 0) (c0 - 0)] Try.func18 (by kernel_rfl) (by kernel_rfl) (by simp [h53]) (crc_of_calls wx s0 (k - 0) (c0 - 0) (l0.take k) (HB0.out.below stable_byteAt hb)) ?_
        rintro e w' ⟨rfl, hb'⟩
        exact ⟨_, rfl, hb', rfl⟩
      · intro _ a wx hb hk
        have h1 : a.eval (.tmp 1) = .slice a1 n1 c1 := Eq.mp (by kernel_rfl) (hk 1 (by decide))
        exact Rg.does_move ⟨Below.refl _ _, h1⟩
      · intro _ a wx hb hk
        have h8 : a.eval (.tmp 8) = .int .i64 (k : Int) := Eq.mp (by kernel_rfl) (hk 8 (by decide))
        exact Rg.does_move ⟨Below.refl _ _, h8⟩
      · intro _ a wx hb hk
        have h55 : a.eval (.tmp 55) = .slice a1 n1 c1 := Eq.mp (by kernel_rfl) (hk 55 (by decide))
        have h56 : a.eval (.tmp 56) = .int .i64 (k : Int) := Eq.mp (by kernel_rfl) (hk 56 (by decide))
        exact Rg.does_sub _ Try.underlying22 (by rw [h55]; simp only [Option.map, h56]; exact (HS1.out wx).2.1 (by trivial) .i64) ⟨Below.refl _ _, rfl⟩
      · intro _ a wx hb hk
        have h57 : a.eval (.tmp 57) = .slice s1 (k - 0) (c1 - 0) := Eq.mp (by kernel_rfl) (hk 57 (by decide))
        refine Rg.does_func #[.slice s1 (k - 0) (c1 - 0)] Try.func18 (by kernel_rfl) (by kernel_rfl) (by simp [h57]) (crc_of_calls wx s1 (k - 0) (c1 - 0) (l1.take k) (HB1.out.below stable_byteAt hb)) ?_
        rintro e w' ⟨rfl, hb'⟩
        exact ⟨_, rfl, hb', rfl⟩
      · intro _ a wx hb hk
        have h54 : a.eval (.tmp 54) = .int .u32 ((CrcPlain.of (l0.take k)).toNat : Int) := Eq.mp (by kernel_rfl) (hk 54 (by decide))
        have h58 : a.eval (.tmp 58) = .int .u32 ((CrcPlain.of (l1.take k)).toNat : Int) := Eq.mp (by kernel_rfl) (hk 58 (by decide))
        exact Rg.does_bin .u32 _ _ _ h54 h58 (by rw [binOp_xor, intBits_xor, bits32_xor]; rfl) ⟨Below.refl _ _, rfl⟩
      · intro _ a wx hb hk
        have h2 : a.eval (.tmp 2) = .slice a2 n2 c2 := Eq.mp (by kernel_rfl) (hk 2 (by decide))
        exact Rg.does_move ⟨Below.refl _ _, h2⟩
      · intro _ a wx hb hk
        have h8 : a.eval (.tmp 8) = .int .i64 (k : Int) := Eq.mp (by kernel_rfl) (hk 8 (by decide))
        exact Rg.does_move ⟨Below.refl _ _, h8⟩
      · intro _ a wx hb hk
        have h60 : a.eval (.tmp 60) = .slice a2 n2 c2 := Eq.mp (by kernel_rfl) (hk 60 (by decide))
        have h61 : a.eval (.tmp 61) = .int .i64 (k : Int) := Eq.mp (by kernel_rfl) (hk 61 (by decide))
        exact Rg.does_sub _ Try.underlying22 (by rw [h60]; simp only [Option.map, h61]; exact (HS2.out wx).2.1 (by trivial) .i64) ⟨Below.refl _ _, rfl⟩
      · intro _ a wx hb hk
        have h62 : a.eval (.tmp 62) = .slice s2 (k - 0) (c2 - 0) := Eq.mp (by kernel_rfl) (hk 62 (by decide))
        refine Rg.does_func #[.slice s2 (k - 0) (c2 - 0)] Try.func18 (by kernel_rfl) (by kernel_rfl) (by simp [h62]) (crc_of_calls wx s2 (k - 0) (c2 - 0) (l2.take k) (HB2.out.below stable_byteAt hb)) ?_
        rintro e w' ⟨rfl, hb'⟩
        exact ⟨_, rfl, hb', rfl⟩
      · intro _ a wx hb hk
        have h59 : a.eval (.tmp 59) = .int .u32 ((CrcPlain.of (l0.take k) ^^^ CrcPlain.of (l1.take k)).toNat : Int) := Eq.mp (by kernel_rfl) (hk 59 (by decide))
        have h63 : a.eval (.tmp 63) = .int .u32 ((CrcPlain.of (l2.take k)).toNat : Int) := Eq.mp (by kernel_rfl) (hk 63 (by decide))
        exact Rg.does_bin .u32 _ _ _ h59 h63 (by rw [binOp_xor, intBits_xor, bits32_xor]; rfl) ⟨Below.refl _ _, rfl⟩
      · intro _ a wx hb hk
        have h50 : a.eval (.tmp 50) = .int .u32 ((CrcPlain.of (mix l0 l1 l2 k k)).toNat : Int) := Eq.mp (by kernel_rfl) (hk 50 (by decide))
        have h64 : a.eval (.tmp 64) = .int .u32 ((CrcPlain.of (l0.take k) ^^^ CrcPlain.of (l1.take k) ^^^ CrcPlain.of (l2.take k)).toNat : Int) := Eq.mp (by kernel_rfl) (hk 64 (by decide))
        exact Rg.does_same_int .u32 _ h50 (by rw [h64, ← HX.out]) ⟨Below.refl _ _, rfl⟩
      · intro _ a wx hb hk
        have h65 : a.eval (.tmp 65) = .bool true := Eq.mp (by kernel_rfl) (hk 65 (by decide))
        exact Rg.does_assign ⟨Below.refl _ _, h65⟩
      intro vals wD hbD hL
      obtain ⟨g0, g1, g2, g3, g4, g5, g6, g7, g8, g9, g10, g11, g12, g13, g14, g15, g16, g17, _⟩ := hL
      have hfin : Below B w wD := hbel.trans (hbD.mono hBs)
      have hres : vals 17 = .bool true := g17
      clear g0 g1 g2 g3 g4 g5 g6 g7 g8 g9 g10 g11 g12 g13 g14 g15 g16 g17 hbD hbel
      simp only [Rg.putAll, List.setIfInBounds_toArray, List.set_cons_succ, List.set_cons_zero]
      go_wp2_with fail
      go_ret
      exact ⟨by rw [← hres]; rfl, hfin⟩

end Go.Proofs.Ytbbnopikinlcdaa
