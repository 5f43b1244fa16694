/-
  State: rows, read. Conditions: as each contract says.
-/
import Derived.Test.YtmhofdoifgfjfaaStRd
set_option linter.unusedVariables false
set_option maxRecDepth 100000
namespace Go.Proofs.Ytmhofdoifgfjfaa
open Go.RowKit Base

theorem info_z_string : (Try.prog.info? 9).map (fun i => (i.zero, i.size, i.bytes)) = some (some (.string ⟨#[]⟩), 1, 16) := by kernel_rfl
theorem cell_sl_string (g off : Nat) (v : Value) (w : World) (h : w.cell? ⟨g, off, none⟩ = some v) : (Instr.loadAt 27 (.pointer (some ⟨g, off, none⟩))).run Try.prog w = .ok v w := load_sl_string h
set_option maxHeartbeats 4000000 in
theorem row_string_rk (W : World) (F q : Nat) (l : Nm) (e : Int) (g off : Nat) (cur : List Value) (t : TypeId) (h : RkI F q l e W) (hc : Cut g cur t W) (h0 : Zer cur off [.slice none 0 0]) (hg : F < g) (ht : (noT) t = false) :
    Calls Try.prog 38 #[.pointer (some ⟨F, 0, none⟩), .pointer (some ⟨g, off, none⟩), .func (.func 39) #[] #[]] W
      (RkPostH F q g off cur 1 t (RowH 1 9 (flatH txtV)) ((rowC txtC).dec l e).1 ((rowC txtC).dec l e).2.1 ((rowC txtC).dec l e).2.2 W) := by
  obtain ⟨i0, hi0, hz0, hz1, hz2⟩ := info_parts info_z_string
  have hzc : cur[off]? = some (.slice none 0 0) := h0 0 Nat.zero_lt_one
  have HOl : Hid (off < cur.length) := (List.getElem?_eq_some_iff.1 hzc).1
  have x0 : W.cell? ⟨g, off, none⟩ = some (.slice none 0 0) := (hc.cell off).trans hzc
  have HR := Lib.hid h
  have HC := Lib.hid hc
  have HG := Lib.hid hg
  have HT := Lib.hid ht
  have HZc := Lib.hid hzc
  clear h hc h0 hg ht hzc
  go_enter Try.func38, Try.ntmps38
  go_upto_region 1 with fail
  clear x0
  obtain ⟨nb, w2, hw2, hnbe, hk4, hbb⟩ : ∃ nb w2, W.alloc (.cells #[.int .i64 0] 3) = w2 ∧ W.heap.size = nb ∧ w2.heap[nb]? = some (.cells #[.int .i64 0] 3) ∧ Below W.heap.size W w2 :=
    ⟨_, _, rfl, rfl, heap_alloc_new W _, (Below.refl W.heap.size W).alloc (Nat.le_refl _) _⟩
  have HBb := Lib.hid hbb
  have HK4 : Hid (Cut nb [.int .i64 0] 3 w2) := hk4
  have HR2 := Lib.hid (HR.out.below hbb)
  have HNb := Lib.hid hnbe
  have HNF : Hid (F < nb) := by have := HR.out.F_lt; show _ < _; omega
  rw [hw2, hnbe]
  clear hbb hk4 hw2 hnbe
  go_wp2_with fail
  refine (rk_int_calls w2 F q l e nb 0 [.int .i64 0] 3 HR2.out HK4.out rfl HNF.out).mono ?_
  rintro r w3 ⟨rfl, hr, hcu, hu⟩
  have hkd : Cut nb [.int .i64 (numC.dec l e).1] 3 w3 := hcu
  have HD : Hid ((rowC txtC).dec l e = rowsN txtC (numC.dec l e).1.toNat (numC.dec l e).2.1 (mustE (mostN (numC.dec l e).1) (numC.dec l e).2.2 11)) := rfl
  clear hcu
  generalize (numC.dec l e).1 = z at *
  generalize (numC.dec l e).2.1 = l1 at *
  generalize (numC.dec l e).2.2 = e1 at *
  have HR3 := Lib.hid hr
  have HK5 : Hid (w3.heap[nb]? = some (.cells #[.int .i64 z] 3)) := hkd
  have hgw := HC.out.lt
  have HC3 : Hid (Cut g cur t w3) := (hu.block g (Nat.lt_of_lt_of_le hgw HBb.out.size) (by have := HG.out; omega) (by have := HG.out; have := HR.out.lt; omega) (by have := HNb.out; omega)).trans ((HBb.out.block g hgw).trans HC.out)
  have HU3 : Hid (RUp F q g W w3) := ⟨hu.os.trans HBb.out.os, hu.tape.trans HBb.out.tape, hu.output.trans HBb.out.output, Nat.le_trans HBb.out.size hu.size, fun j hj a b _ => (hu.block j (Nat.lt_of_lt_of_le hj HBb.out.size) a b (by have := HNb.out; omega)).trans (HBb.out.block j hj)⟩
  clear hr hkd hu hgw
  obtain ⟨⟨c0, c1, c2⟩, f0, f1, f2⟩ := three HR3.out.k
  go_upto_region 3 with fail
  clear c0 c1 c2 f0 f1 f2
  go_cut [27] from 20 to 27 (fun s27 wx => RkI F q l1 (mustE (mostN z) e1 11) wx ∧ Cut g cur t wx ∧ wx.heap[nb]? = some (.cells #[.int .i64 z] 3) ∧ RUp F q g W wx)
  case first =>
    obtain ⟨⟨c0, c1, c2⟩, f0, f1, f2⟩ := three HR3.out.k
    obtain ⟨y0, y1⟩ := one_cell HK5.out
    by_cases n0 : 0 ≤ z
    · by_cases n1 : z ≤ 100000
      · have u0 : decide (0 ≤ z) = true := decide_eq_true n0
        have u1 : decide (z ≤ 100000) = true := decide_eq_true n1
        have HM : Hid (mostN z = true) := by show mostN z = true; unfold mostN; rw [u0, u1]; rfl
        go_wp2_with fail
        refine (must_calls w3 F q l1 e1 true 11 HR3.out).mono ?_
        rintro r w4 ⟨rfl, hr4, hu4, hn4⟩
        rw [← HM.out] at hr4
        have HR4 := Lib.hid hr4
        have HC4 : Hid (Cut g cur t w4) := (hn4 g (by have := HG.out; omega)).trans HC3.out
        have HK6 := Lib.hid ((hn4 nb (by have := HNF.out; omega)).trans HK5.out)
        have HU4 := Lib.hid (HU3.out.trans (hu4 g))
        clear c0 c1 c2 f0 f1 f2 y0 y1 hr4 hu4 hn4 n0 n1 u0 u1
        go_wp2_with fail
        go_meet
        exact ⟨HR4.out, HC4.out, HK6.out, HU4.out⟩
      · have u0 : decide (0 ≤ z) = true := decide_eq_true n0
        have u1 : decide (z ≤ 100000) = false := decide_eq_false n1
        have HM : Hid (mostN z = false) := by show mostN z = false; unfold mostN; rw [u0, u1]; rfl
        go_wp2_with fail
        refine (must_calls w3 F q l1 e1 false 11 HR3.out).mono ?_
        rintro r w4 ⟨rfl, hr4, hu4, hn4⟩
        rw [← HM.out] at hr4
        have HR4 := Lib.hid hr4
        have HC4 : Hid (Cut g cur t w4) := (hn4 g (by have := HG.out; omega)).trans HC3.out
        have HK6 := Lib.hid ((hn4 nb (by have := HNF.out; omega)).trans HK5.out)
        have HU4 := Lib.hid (HU3.out.trans (hu4 g))
        clear c0 c1 c2 f0 f1 f2 y0 y1 hr4 hu4 hn4 n0 n1 u0 u1
        go_wp2_with fail
        go_meet
        exact ⟨HR4.out, HC4.out, HK6.out, HU4.out⟩
    · have u0 : decide (0 ≤ z) = false := decide_eq_false n0
      have HM : Hid (mostN z = false) := by show mostN z = false; unfold mostN; rw [u0]; rfl
      go_wp2_with fail
      refine (must_calls w3 F q l1 e1 false 11 HR3.out).mono ?_
      rintro r w4 ⟨rfl, hr4, hu4, hn4⟩
      rw [← HM.out] at hr4
      have HR4 := Lib.hid hr4
      have HC4 : Hid (Cut g cur t w4) := (hn4 g (by have := HG.out; omega)).trans HC3.out
      have HK6 := Lib.hid ((hn4 nb (by have := HNF.out; omega)).trans HK5.out)
      have HU4 := Lib.hid (HU3.out.trans (hu4 g))
      clear c0 c1 c2 f0 f1 f2 y0 y1 hr4 hu4 hn4 n0 u0
      go_wp2_with fail
      go_meet
      exact ⟨HR4.out, HC4.out, HK6.out, HU4.out⟩
  case rest =>
    obtain ⟨hr4, hc4, hk6, hu4⟩ := hcut
    have HBig : Hid (mustE (mostN z) e1 11 = 0 → z.toNat ≤ 100000) := by
      intro hm
      rcases hq : mostN z with _ | _
      · rw [hq] at hm
        by_cases he : e1 = 0
        · rw [he, mustE_no] at hm; exact absurd hm (by decide)
        · rw [mustE_stop he] at hm; exact absurd hm he
      · unfold mostN at hq
        rw [Bool.and_eq_true, decide_eq_true_eq, decide_eq_true_eq] at hq
        omega
    generalize mustE (mostN z) e1 11 = e2 at *
    have HI0 : Hid (RowI txtC (flatH txtV) 1 9 W F q g off cur t nb z l e 0 (.slice none 0 0) [] [] l1 e2 wc) := by
      have e9 : cur.set off (.slice none 0 0) = cur := by
        obtain ⟨h1, h2⟩ := List.getElem?_eq_some_iff.1 HZc.out
        rw [← h2]
        exact List.set_getElem_self h1
      exact ⟨Nat.zero_le _, Nat.zero_le _, HBig.out, HD.out, rfl, hr4, by rw [e9]; exact hc4, World.ownsRow_nil _ _ _ _, each_nil _ _ _, hk6, by have := HNb.out; omega, hu4⟩
    have HX0 := Lib.hid ((hc4.cell off).trans HZc.out)
    have x0 := HX0.out
    have x1 := hc4.frozen off
    clear hr4 hc4 hk6 hu4
    go_upto_region 5 with fail
    clear x0 x1
    rw [set_same HX0.out]
    go_wp2_with fail
    go_loopw [7, 8] (fun v7 v8 wr => ∃ (k : Nat) (u : Value) (xs : List Value) (zs : List Nm) (lk : Nm) (ek : Int), v7 = .int .i64 k ∧ RowI txtC (flatH txtV) 1 9 W F q g off cur t nb z l e k u xs zs lk ek wr) (fun v7 _ _ => z.toNat - (intOf v7).toNat)
    case atStart => exact ⟨0, _, _, _, _, _, rfl, HI0.out⟩
    case round =>
      obtain ⟨k, u, xs, zs, lk, ek, rfl, hI⟩ := hrel
      have HI := Lib.hid hI
      obtain ⟨⟨c0, c1, c2⟩, f0, f1, f2⟩ := three hI.rk.k
      obtain ⟨y0, y1⟩ := one_cell hI.nbk
      clear hI
      by_cases hlt : k < z.toNat
      · have u1 : decide ((k : Int) < z) = true := decide_eq_true (by omega)
        have u2 : (k : Int) < z := by omega
        by_cases he : ek = 0
        · subst he
          have HB := Lib.hid (HI.out.big rfl)
          have x0 : wr.cell? ⟨g, off, none⟩ = some u := (HI.out.cut.cell off).trans (by rw [List.getElem?_set_self HOl.out])
          have HX0 := Lib.hid x0
          go_wp2_with fail
          refine (wrong_calls wr F 0 c2).mono ?_
          rintro r w' ⟨rfl, rfl⟩
          rw [show decide ((0 : Int) ≠ 0) = false from rfl]
          clear u1 u2
          have HOA : Hid (World.ownsRow (wr.alloc (.cells #[.string ⟨#[]⟩] 9)) (nb + 1) 9 1 u k xs) := HI.out.own.alloc _
          have HSz : Hid (nb + 1 ≤ (wr.alloc (.cells #[.string ⟨#[]⟩] 9)).heap.size) := by have := HI.out.nlt; show _ ≤ _; rw [World.size_alloc]; omega
          have HAl := Lib.hid ((Below.refl wr.heap.size wr).alloc (Nat.le_refl _) (.cells #[.string ⟨#[]⟩] 9))
          go_wp2_with (at_builtin; refine Ap.wpList_append_at rfl (.tmp 48) (.tmp 50) 27 27 rfl (nb + 1) 9 i0 _ 1 16 Try.underlying27 (append_side Try.underlying27) hi0 hz0 hz1 hz2 rfl (by decide) (by decide) u k xs rfl HOA.out _ 1 [.string ⟨#[]⟩] rfl (src_new wr [.string ⟨#[]⟩] 9 1 1 rfl (by simp [Value.oneCell']) _) ?_ ?_ ?_ ?_)
          case _ => have := HB.out; unfold maxLen; omega
          case _ => have := HB.out; omega
          case _ => exact HSz.out
          intro u' w2 hown hgr hat
          have hap : Apd wr u (nb + 1) 9 1 k xs [.string ⟨#[]⟩] u' w2 := ⟨hown, _, HAl.out, hgr, fun j h1 h2 => hat j h1 (by simpa using h2)⟩
          have HX2 : Hid (w2.heap[g]? = wr.heap[g]?) := HI.out.low (Below.refl _ _) hap g (by have := HI.out.nlo; have := HC.out.lt; omega)
          obtain ⟨b, cap, curb, rfl, hJ⟩ := HI.out.push (Below.refl _ _) hap hlt (flat_st noT txtV) HT.out rfl HC.out.lt HG.out
          clear hown hgr hat hap
          have HJ := Lib.hid hJ
          have x2 : w2.cell? ⟨g, off, none⟩ = some u := by rw [World.cell?_of_block HX2.out]; exact HX0.out
          have x3 : w2.frozen? ⟨g, off, none⟩ = false := by have h9 : Cut g (cur.set off u) t w2 := HX2.out.trans HI.out.cut; exact h9.frozen off
          clear hJ
          go_upto_region 11 with fail
          clear x2 x3 HX2
          generalize w2.setCell ⟨g, off, none⟩ (.slice (some ⟨b, 0, none⟩) (k + 1) cap) = w3' at *
          have x4 : w3'.cell? ⟨g, off, none⟩ = some (.slice (some ⟨b, 0, none⟩) (k + 1) cap) := (HJ.out.cut.cell off).trans (by rw [List.getElem?_set_self HOl.out])
          have hx := fun W => row_idx Try.underlying27 1 info_el_string b 0 (k + 1) cap k (Nat.lt_succ_self k) W
          go_wp2_with fail
          clear hx x4
          have HZ3 := Lib.hid (zero_at HJ.out rfl)
          refine ((text_rk.h (fun _ => rfl)) w3' F q lk 0 b k curb 9 HJ.out.rk HJ.out.gb (by have := HZ3.out; first | exact this | (rw [Nat.mul_one] at this; exact this)) (by have := HJ.out.nb'; have := HNF.out; omega) rfl).mono ?_
          rintro r w4 hp
          obtain rfl := hp.1
          obtain ⟨vs, hI⟩ := HJ.out.next (by first | exact hp | (rw [Nat.mul_one]; exact hp)) (flat_st noT txtV) rfl rfl rfl HG.out
          have HI2 := Lib.hid hI
          clear hp hI
          have hk9 := HI.out.k0
          go_wp2_with fail
          go_roundw
          case rel => exact ⟨k + 1, _, _, _, _, _, by go_num, HI2.out⟩
          case measure => simp [intOf]; omega
        · have t1 : decide (ek ≠ 0) = true := decide_eq_true he
          have HE := Lib.hid he
          clear he
          go_wp2_with fail
          refine (wrong_calls wr F ek c2).mono ?_
          rintro r w' ⟨rfl, rfl⟩
          rw [t1]
          clear t1
          go_wp2_with fail
          refine bodyPost_end (v := .tuple #[]) (results_none rfl _ _ _) rfl ?_
          exact HI.out.done (.inr HE.out) HOl.out
      · have u1 : decide ((k : Int) < z) = false := decide_eq_false (by have := HI.out.kN; omega)
        have u2 : ¬ ((k : Int) < z) := by have := HI.out.kN; omega
        go_wp2_with fail
        refine bodyPost_end (v := .tuple #[]) (results_none rfl _ _ _) rfl ?_
        exact HI.out.done (.inl (by omega)) HOl.out
theorem info_z_int64 : (Try.prog.info? 2).map (fun i => (i.zero, i.size, i.bytes)) = some (some (.int .i64 0), 1, 8) := by kernel_rfl
theorem cell_sl_int64 (g off : Nat) (v : Value) (w : World) (h : w.cell? ⟨g, off, none⟩ = some v) : (Instr.loadAt 93 (.pointer (some ⟨g, off, none⟩))).run Try.prog w = .ok v w := load_sl_int64 h
set_option maxHeartbeats 4000000 in
theorem row_int64_rk (W : World) (F q : Nat) (l : Nm) (e : Int) (g off : Nat) (cur : List Value) (t : TypeId) (h : RkI F q l e W) (hc : Cut g cur t W) (h0 : Zer cur off [.slice none 0 0]) (hg : F < g) (ht : (noT) t = false) :
    Calls Try.prog 62 #[.pointer (some ⟨F, 0, none⟩), .pointer (some ⟨g, off, none⟩), .func (.func 61) #[] #[]] W
      (RkPostH F q g off cur 1 t (RowH 1 2 (flatH numV)) ((rowC numC).dec l e).1 ((rowC numC).dec l e).2.1 ((rowC numC).dec l e).2.2 W) := by
  obtain ⟨i0, hi0, hz0, hz1, hz2⟩ := info_parts info_z_int64
  have hzc : cur[off]? = some (.slice none 0 0) := h0 0 Nat.zero_lt_one
  have HOl : Hid (off < cur.length) := (List.getElem?_eq_some_iff.1 hzc).1
  have x0 : W.cell? ⟨g, off, none⟩ = some (.slice none 0 0) := (hc.cell off).trans hzc
  have HR := Lib.hid h
  have HC := Lib.hid hc
  have HG := Lib.hid hg
  have HT := Lib.hid ht
  have HZc := Lib.hid hzc
  clear h hc h0 hg ht hzc
  go_enter Try.func62, Try.ntmps62
  go_upto_region 1 with fail
  clear x0
  obtain ⟨nb, w2, hw2, hnbe, hk4, hbb⟩ : ∃ nb w2, W.alloc (.cells #[.int .i64 0] 3) = w2 ∧ W.heap.size = nb ∧ w2.heap[nb]? = some (.cells #[.int .i64 0] 3) ∧ Below W.heap.size W w2 :=
    ⟨_, _, rfl, rfl, heap_alloc_new W _, (Below.refl W.heap.size W).alloc (Nat.le_refl _) _⟩
  have HBb := Lib.hid hbb
  have HK4 : Hid (Cut nb [.int .i64 0] 3 w2) := hk4
  have HR2 := Lib.hid (HR.out.below hbb)
  have HNb := Lib.hid hnbe
  have HNF : Hid (F < nb) := by have := HR.out.F_lt; show _ < _; omega
  rw [hw2, hnbe]
  clear hbb hk4 hw2 hnbe
  go_wp2_with fail
  refine (rk_int_calls w2 F q l e nb 0 [.int .i64 0] 3 HR2.out HK4.out rfl HNF.out).mono ?_
  rintro r w3 ⟨rfl, hr, hcu, hu⟩
  have hkd : Cut nb [.int .i64 (numC.dec l e).1] 3 w3 := hcu
  have HD : Hid ((rowC numC).dec l e = rowsN numC (numC.dec l e).1.toNat (numC.dec l e).2.1 (mustE (mostN (numC.dec l e).1) (numC.dec l e).2.2 11)) := rfl
  clear hcu
  generalize (numC.dec l e).1 = z at *
  generalize (numC.dec l e).2.1 = l1 at *
  generalize (numC.dec l e).2.2 = e1 at *
  have HR3 := Lib.hid hr
  have HK5 : Hid (w3.heap[nb]? = some (.cells #[.int .i64 z] 3)) := hkd
  have hgw := HC.out.lt
  have HC3 : Hid (Cut g cur t w3) := (hu.block g (Nat.lt_of_lt_of_le hgw HBb.out.size) (by have := HG.out; omega) (by have := HG.out; have := HR.out.lt; omega) (by have := HNb.out; omega)).trans ((HBb.out.block g hgw).trans HC.out)
  have HU3 : Hid (RUp F q g W w3) := ⟨hu.os.trans HBb.out.os, hu.tape.trans HBb.out.tape, hu.output.trans HBb.out.output, Nat.le_trans HBb.out.size hu.size, fun j hj a b _ => (hu.block j (Nat.lt_of_lt_of_le hj HBb.out.size) a b (by have := HNb.out; omega)).trans (HBb.out.block j hj)⟩
  clear hr hkd hu hgw
  obtain ⟨⟨c0, c1, c2⟩, f0, f1, f2⟩ := three HR3.out.k
  go_upto_region 3 with fail
  clear c0 c1 c2 f0 f1 f2
  go_cut [27] from 20 to 27 (fun s27 wx => RkI F q l1 (mustE (mostN z) e1 11) wx ∧ Cut g cur t wx ∧ wx.heap[nb]? = some (.cells #[.int .i64 z] 3) ∧ RUp F q g W wx)
  case first =>
    obtain ⟨⟨c0, c1, c2⟩, f0, f1, f2⟩ := three HR3.out.k
    obtain ⟨y0, y1⟩ := one_cell HK5.out
    by_cases n0 : 0 ≤ z
    · by_cases n1 : z ≤ 100000
      · have u0 : decide (0 ≤ z) = true := decide_eq_true n0
        have u1 : decide (z ≤ 100000) = true := decide_eq_true n1
        have HM : Hid (mostN z = true) := by show mostN z = true; unfold mostN; rw [u0, u1]; rfl
        go_wp2_with fail
        refine (must_calls w3 F q l1 e1 true 11 HR3.out).mono ?_
        rintro r w4 ⟨rfl, hr4, hu4, hn4⟩
        rw [← HM.out] at hr4
        have HR4 := Lib.hid hr4
        have HC4 : Hid (Cut g cur t w4) := (hn4 g (by have := HG.out; omega)).trans HC3.out
        have HK6 := Lib.hid ((hn4 nb (by have := HNF.out; omega)).trans HK5.out)
        have HU4 := Lib.hid (HU3.out.trans (hu4 g))
        clear c0 c1 c2 f0 f1 f2 y0 y1 hr4 hu4 hn4 n0 n1 u0 u1
        go_wp2_with fail
        go_meet
        exact ⟨HR4.out, HC4.out, HK6.out, HU4.out⟩
      · have u0 : decide (0 ≤ z) = true := decide_eq_true n0
        have u1 : decide (z ≤ 100000) = false := decide_eq_false n1
        have HM : Hid (mostN z = false) := by show mostN z = false; unfold mostN; rw [u0, u1]; rfl
        go_wp2_with fail
        refine (must_calls w3 F q l1 e1 false 11 HR3.out).mono ?_
        rintro r w4 ⟨rfl, hr4, hu4, hn4⟩
        rw [← HM.out] at hr4
        have HR4 := Lib.hid hr4
        have HC4 : Hid (Cut g cur t w4) := (hn4 g (by have := HG.out; omega)).trans HC3.out
        have HK6 := Lib.hid ((hn4 nb (by have := HNF.out; omega)).trans HK5.out)
        have HU4 := Lib.hid (HU3.out.trans (hu4 g))
        clear c0 c1 c2 f0 f1 f2 y0 y1 hr4 hu4 hn4 n0 n1 u0 u1
        go_wp2_with fail
        go_meet
        exact ⟨HR4.out, HC4.out, HK6.out, HU4.out⟩
    · have u0 : decide (0 ≤ z) = false := decide_eq_false n0
      have HM : Hid (mostN z = false) := by show mostN z = false; unfold mostN; rw [u0]; rfl
      go_wp2_with fail
      refine (must_calls w3 F q l1 e1 false 11 HR3.out).mono ?_
      rintro r w4 ⟨rfl, hr4, hu4, hn4⟩
      rw [← HM.out] at hr4
      have HR4 := Lib.hid hr4
      have HC4 : Hid (Cut g cur t w4) := (hn4 g (by have := HG.out; omega)).trans HC3.out
      have HK6 := Lib.hid ((hn4 nb (by have := HNF.out; omega)).trans HK5.out)
      have HU4 := Lib.hid (HU3.out.trans (hu4 g))
      clear c0 c1 c2 f0 f1 f2 y0 y1 hr4 hu4 hn4 n0 u0
      go_wp2_with fail
      go_meet
      exact ⟨HR4.out, HC4.out, HK6.out, HU4.out⟩
  case rest =>
    obtain ⟨hr4, hc4, hk6, hu4⟩ := hcut
    have HBig : Hid (mustE (mostN z) e1 11 = 0 → z.toNat ≤ 100000) := by
      intro hm
      rcases hq : mostN z with _ | _
      · rw [hq] at hm
        by_cases he : e1 = 0
        · rw [he, mustE_no] at hm; exact absurd hm (by decide)
        · rw [mustE_stop he] at hm; exact absurd hm he
      · unfold mostN at hq
        rw [Bool.and_eq_true, decide_eq_true_eq, decide_eq_true_eq] at hq
        omega
    generalize mustE (mostN z) e1 11 = e2 at *
    have HI0 : Hid (RowI numC (flatH numV) 1 2 W F q g off cur t nb z l e 0 (.slice none 0 0) [] [] l1 e2 wc) := by
      have e9 : cur.set off (.slice none 0 0) = cur := by
        obtain ⟨h1, h2⟩ := List.getElem?_eq_some_iff.1 HZc.out
        rw [← h2]
        exact List.set_getElem_self h1
      exact ⟨Nat.zero_le _, Nat.zero_le _, HBig.out, HD.out, rfl, hr4, by rw [e9]; exact hc4, World.ownsRow_nil _ _ _ _, each_nil _ _ _, hk6, by have := HNb.out; omega, hu4⟩
    have HX0 := Lib.hid ((hc4.cell off).trans HZc.out)
    have x0 := HX0.out
    have x1 := hc4.frozen off
    clear hr4 hc4 hk6 hu4
    go_upto_region 5 with fail
    clear x0 x1
    rw [set_same HX0.out]
    go_wp2_with fail
    go_loopw [7, 8] (fun v7 v8 wr => ∃ (k : Nat) (u : Value) (xs : List Value) (zs : List Int) (lk : Nm) (ek : Int), v7 = .int .i64 k ∧ RowI numC (flatH numV) 1 2 W F q g off cur t nb z l e k u xs zs lk ek wr) (fun v7 _ _ => z.toNat - (intOf v7).toNat)
    case atStart => exact ⟨0, _, _, _, _, _, rfl, HI0.out⟩
    case round =>
      obtain ⟨k, u, xs, zs, lk, ek, rfl, hI⟩ := hrel
      have HI := Lib.hid hI
      obtain ⟨⟨c0, c1, c2⟩, f0, f1, f2⟩ := three hI.rk.k
      obtain ⟨y0, y1⟩ := one_cell hI.nbk
      clear hI
      by_cases hlt : k < z.toNat
      · have u1 : decide ((k : Int) < z) = true := decide_eq_true (by omega)
        have u2 : (k : Int) < z := by omega
        by_cases he : ek = 0
        · subst he
          have HB := Lib.hid (HI.out.big rfl)
          have x0 : wr.cell? ⟨g, off, none⟩ = some u := (HI.out.cut.cell off).trans (by rw [List.getElem?_set_self HOl.out])
          have HX0 := Lib.hid x0
          go_wp2_with fail
          refine (wrong_calls wr F 0 c2).mono ?_
          rintro r w' ⟨rfl, rfl⟩
          rw [show decide ((0 : Int) ≠ 0) = false from rfl]
          clear u1 u2
          have HOA : Hid (World.ownsRow (wr.alloc (.cells #[.int .i64 0] 2)) (nb + 1) 2 1 u k xs) := HI.out.own.alloc _
          have HSz : Hid (nb + 1 ≤ (wr.alloc (.cells #[.int .i64 0] 2)).heap.size) := by have := HI.out.nlt; show _ ≤ _; rw [World.size_alloc]; omega
          have HAl := Lib.hid ((Below.refl wr.heap.size wr).alloc (Nat.le_refl _) (.cells #[.int .i64 0] 2))
          go_wp2_with (at_builtin; refine Ap.wpList_append_at rfl (.tmp 48) (.tmp 50) 93 93 rfl (nb + 1) 2 i0 _ 1 8 Try.underlying93 (append_side Try.underlying93) hi0 hz0 hz1 hz2 rfl (by decide) (by decide) u k xs rfl HOA.out _ 1 [.int .i64 0] rfl (src_new wr [.int .i64 0] 2 1 1 rfl (by simp [Value.oneCell']) _) ?_ ?_ ?_ ?_)
          case _ => have := HB.out; unfold maxLen; omega
          case _ => have := HB.out; omega
          case _ => exact HSz.out
          intro u' w2 hown hgr hat
          have hap : Apd wr u (nb + 1) 2 1 k xs [.int .i64 0] u' w2 := ⟨hown, _, HAl.out, hgr, fun j h1 h2 => hat j h1 (by simpa using h2)⟩
          have HX2 : Hid (w2.heap[g]? = wr.heap[g]?) := HI.out.low (Below.refl _ _) hap g (by have := HI.out.nlo; have := HC.out.lt; omega)
          obtain ⟨b, cap, curb, rfl, hJ⟩ := HI.out.push (Below.refl _ _) hap hlt (flat_st noT numV) HT.out rfl HC.out.lt HG.out
          clear hown hgr hat hap
          have HJ := Lib.hid hJ
          have x2 : w2.cell? ⟨g, off, none⟩ = some u := by rw [World.cell?_of_block HX2.out]; exact HX0.out
          have x3 : w2.frozen? ⟨g, off, none⟩ = false := by have h9 : Cut g (cur.set off u) t w2 := HX2.out.trans HI.out.cut; exact h9.frozen off
          clear hJ
          go_upto_region 11 with fail
          clear x2 x3 HX2
          generalize w2.setCell ⟨g, off, none⟩ (.slice (some ⟨b, 0, none⟩) (k + 1) cap) = w3' at *
          have x4 : w3'.cell? ⟨g, off, none⟩ = some (.slice (some ⟨b, 0, none⟩) (k + 1) cap) := (HJ.out.cut.cell off).trans (by rw [List.getElem?_set_self HOl.out])
          have hx := fun W => row_idx Try.underlying93 1 info_el_int64 b 0 (k + 1) cap k (Nat.lt_succ_self k) W
          go_wp2_with fail
          clear hx x4
          have HZ3 := Lib.hid (zero_at HJ.out rfl)
          refine ((num64_rk.h (fun _ => rfl)) w3' F q lk 0 b k curb 2 HJ.out.rk HJ.out.gb (by have := HZ3.out; first | exact this | (rw [Nat.mul_one] at this; exact this)) (by have := HJ.out.nb'; have := HNF.out; omega) rfl).mono ?_
          rintro r w4 hp
          obtain rfl := hp.1
          obtain ⟨vs, hI⟩ := HJ.out.next (by first | exact hp | (rw [Nat.mul_one]; exact hp)) (flat_st noT numV) rfl rfl rfl HG.out
          have HI2 := Lib.hid hI
          clear hp hI
          have hk9 := HI.out.k0
          go_wp2_with fail
          go_roundw
          case rel => exact ⟨k + 1, _, _, _, _, _, by go_num, HI2.out⟩
          case measure => simp [intOf]; omega
        · have t1 : decide (ek ≠ 0) = true := decide_eq_true he
          have HE := Lib.hid he
          clear he
          go_wp2_with fail
          refine (wrong_calls wr F ek c2).mono ?_
          rintro r w' ⟨rfl, rfl⟩
          rw [t1]
          clear t1
          go_wp2_with fail
          refine bodyPost_end (v := .tuple #[]) (results_none rfl _ _ _) rfl ?_
          exact HI.out.done (.inr HE.out) HOl.out
      · have u1 : decide ((k : Int) < z) = false := decide_eq_false (by have := HI.out.kN; omega)
        have u2 : ¬ ((k : Int) < z) := by have := HI.out.kN; omega
        go_wp2_with fail
        refine bodyPost_end (v := .tuple #[]) (results_none rfl _ _ _) rfl ?_
        exact HI.out.done (.inl (by omega)) HOl.out
theorem info_z_int : (Try.prog.info? 3).map (fun i => (i.zero, i.size, i.bytes)) = some (some (.int .i64 0), 1, 8) := by kernel_rfl
theorem cell_sl_int (g off : Nat) (v : Value) (w : World) (h : w.cell? ⟨g, off, none⟩ = some v) : (Instr.loadAt 41 (.pointer (some ⟨g, off, none⟩))).run Try.prog w = .ok v w := load_sl_int h
set_option maxHeartbeats 4000000 in
theorem row_int_rk (W : World) (F q : Nat) (l : Nm) (e : Int) (g off : Nat) (cur : List Value) (t : TypeId) (h : RkI F q l e W) (hc : Cut g cur t W) (h0 : Zer cur off [.slice none 0 0]) (hg : F < g) (ht : (noT) t = false) :
    Calls Try.prog 44 #[.pointer (some ⟨F, 0, none⟩), .pointer (some ⟨g, off, none⟩), .func (.func 45) #[] #[]] W
      (RkPostH F q g off cur 1 t (RowH 1 3 (flatH numV)) ((rowC numC).dec l e).1 ((rowC numC).dec l e).2.1 ((rowC numC).dec l e).2.2 W) := by
  obtain ⟨i0, hi0, hz0, hz1, hz2⟩ := info_parts info_z_int
  have hzc : cur[off]? = some (.slice none 0 0) := h0 0 Nat.zero_lt_one
  have HOl : Hid (off < cur.length) := (List.getElem?_eq_some_iff.1 hzc).1
  have x0 : W.cell? ⟨g, off, none⟩ = some (.slice none 0 0) := (hc.cell off).trans hzc
  have HR := Lib.hid h
  have HC := Lib.hid hc
  have HG := Lib.hid hg
  have HT := Lib.hid ht
  have HZc := Lib.hid hzc
  clear h hc h0 hg ht hzc
  go_enter Try.func44, Try.ntmps44
  go_upto_region 1 with fail
  clear x0
  obtain ⟨nb, w2, hw2, hnbe, hk4, hbb⟩ : ∃ nb w2, W.alloc (.cells #[.int .i64 0] 3) = w2 ∧ W.heap.size = nb ∧ w2.heap[nb]? = some (.cells #[.int .i64 0] 3) ∧ Below W.heap.size W w2 :=
    ⟨_, _, rfl, rfl, heap_alloc_new W _, (Below.refl W.heap.size W).alloc (Nat.le_refl _) _⟩
  have HBb := Lib.hid hbb
  have HK4 : Hid (Cut nb [.int .i64 0] 3 w2) := hk4
  have HR2 := Lib.hid (HR.out.below hbb)
  have HNb := Lib.hid hnbe
  have HNF : Hid (F < nb) := by have := HR.out.F_lt; show _ < _; omega
  rw [hw2, hnbe]
  clear hbb hk4 hw2 hnbe
  go_wp2_with fail
  refine (rk_int_calls w2 F q l e nb 0 [.int .i64 0] 3 HR2.out HK4.out rfl HNF.out).mono ?_
  rintro r w3 ⟨rfl, hr, hcu, hu⟩
  have hkd : Cut nb [.int .i64 (numC.dec l e).1] 3 w3 := hcu
  have HD : Hid ((rowC numC).dec l e = rowsN numC (numC.dec l e).1.toNat (numC.dec l e).2.1 (mustE (mostN (numC.dec l e).1) (numC.dec l e).2.2 11)) := rfl
  clear hcu
  generalize (numC.dec l e).1 = z at *
  generalize (numC.dec l e).2.1 = l1 at *
  generalize (numC.dec l e).2.2 = e1 at *
  have HR3 := Lib.hid hr
  have HK5 : Hid (w3.heap[nb]? = some (.cells #[.int .i64 z] 3)) := hkd
  have hgw := HC.out.lt
  have HC3 : Hid (Cut g cur t w3) := (hu.block g (Nat.lt_of_lt_of_le hgw HBb.out.size) (by have := HG.out; omega) (by have := HG.out; have := HR.out.lt; omega) (by have := HNb.out; omega)).trans ((HBb.out.block g hgw).trans HC.out)
  have HU3 : Hid (RUp F q g W w3) := ⟨hu.os.trans HBb.out.os, hu.tape.trans HBb.out.tape, hu.output.trans HBb.out.output, Nat.le_trans HBb.out.size hu.size, fun j hj a b _ => (hu.block j (Nat.lt_of_lt_of_le hj HBb.out.size) a b (by have := HNb.out; omega)).trans (HBb.out.block j hj)⟩
  clear hr hkd hu hgw
  obtain ⟨⟨c0, c1, c2⟩, f0, f1, f2⟩ := three HR3.out.k
  go_upto_region 3 with fail
  clear c0 c1 c2 f0 f1 f2
  go_cut [27] from 20 to 27 (fun s27 wx => RkI F q l1 (mustE (mostN z) e1 11) wx ∧ Cut g cur t wx ∧ wx.heap[nb]? = some (.cells #[.int .i64 z] 3) ∧ RUp F q g W wx)
  case first =>
    obtain ⟨⟨c0, c1, c2⟩, f0, f1, f2⟩ := three HR3.out.k
    obtain ⟨y0, y1⟩ := one_cell HK5.out
    by_cases n0 : 0 ≤ z
    · by_cases n1 : z ≤ 100000
      · have u0 : decide (0 ≤ z) = true := decide_eq_true n0
        have u1 : decide (z ≤ 100000) = true := decide_eq_true n1
        have HM : Hid (mostN z = true) := by show mostN z = true; unfold mostN; rw [u0, u1]; rfl
        go_wp2_with fail
        refine (must_calls w3 F q l1 e1 true 11 HR3.out).mono ?_
        rintro r w4 ⟨rfl, hr4, hu4, hn4⟩
        rw [← HM.out] at hr4
        have HR4 := Lib.hid hr4
        have HC4 : Hid (Cut g cur t w4) := (hn4 g (by have := HG.out; omega)).trans HC3.out
        have HK6 := Lib.hid ((hn4 nb (by have := HNF.out; omega)).trans HK5.out)
        have HU4 := Lib.hid (HU3.out.trans (hu4 g))
        clear c0 c1 c2 f0 f1 f2 y0 y1 hr4 hu4 hn4 n0 n1 u0 u1
        go_wp2_with fail
        go_meet
        exact ⟨HR4.out, HC4.out, HK6.out, HU4.out⟩
      · have u0 : decide (0 ≤ z) = true := decide_eq_true n0
        have u1 : decide (z ≤ 100000) = false := decide_eq_false n1
        have HM : Hid (mostN z = false) := by show mostN z = false; unfold mostN; rw [u0, u1]; rfl
        go_wp2_with fail
        refine (must_calls w3 F q l1 e1 false 11 HR3.out).mono ?_
        rintro r w4 ⟨rfl, hr4, hu4, hn4⟩
        rw [← HM.out] at hr4
        have HR4 := Lib.hid hr4
        have HC4 : Hid (Cut g cur t w4) := (hn4 g (by have := HG.out; omega)).trans HC3.out
        have HK6 := Lib.hid ((hn4 nb (by have := HNF.out; omega)).trans HK5.out)
        have HU4 := Lib.hid (HU3.out.trans (hu4 g))
        clear c0 c1 c2 f0 f1 f2 y0 y1 hr4 hu4 hn4 n0 n1 u0 u1
        go_wp2_with fail
        go_meet
        exact ⟨HR4.out, HC4.out, HK6.out, HU4.out⟩
    · have u0 : decide (0 ≤ z) = false := decide_eq_false n0
      have HM : Hid (mostN z = false) := by show mostN z = false; unfold mostN; rw [u0]; rfl
      go_wp2_with fail
      refine (must_calls w3 F q l1 e1 false 11 HR3.out).mono ?_
      rintro r w4 ⟨rfl, hr4, hu4, hn4⟩
      rw [← HM.out] at hr4
      have HR4 := Lib.hid hr4
      have HC4 : Hid (Cut g cur t w4) := (hn4 g (by have := HG.out; omega)).trans HC3.out
      have HK6 := Lib.hid ((hn4 nb (by have := HNF.out; omega)).trans HK5.out)
      have HU4 := Lib.hid (HU3.out.trans (hu4 g))
      clear c0 c1 c2 f0 f1 f2 y0 y1 hr4 hu4 hn4 n0 u0
      go_wp2_with fail
      go_meet
      exact ⟨HR4.out, HC4.out, HK6.out, HU4.out⟩
  case rest =>
    obtain ⟨hr4, hc4, hk6, hu4⟩ := hcut
    have HBig : Hid (mustE (mostN z) e1 11 = 0 → z.toNat ≤ 100000) := by
      intro hm
      rcases hq : mostN z with _ | _
      · rw [hq] at hm
        by_cases he : e1 = 0
        · rw [he, mustE_no] at hm; exact absurd hm (by decide)
        · rw [mustE_stop he] at hm; exact absurd hm he
      · unfold mostN at hq
        rw [Bool.and_eq_true, decide_eq_true_eq, decide_eq_true_eq] at hq
        omega
    generalize mustE (mostN z) e1 11 = e2 at *
    have HI0 : Hid (RowI numC (flatH numV) 1 3 W F q g off cur t nb z l e 0 (.slice none 0 0) [] [] l1 e2 wc) := by
      have e9 : cur.set off (.slice none 0 0) = cur := by
        obtain ⟨h1, h2⟩ := List.getElem?_eq_some_iff.1 HZc.out
        rw [← h2]
        exact List.set_getElem_self h1
      exact ⟨Nat.zero_le _, Nat.zero_le _, HBig.out, HD.out, rfl, hr4, by rw [e9]; exact hc4, World.ownsRow_nil _ _ _ _, each_nil _ _ _, hk6, by have := HNb.out; omega, hu4⟩
    have HX0 := Lib.hid ((hc4.cell off).trans HZc.out)
    have x0 := HX0.out
    have x1 := hc4.frozen off
    clear hr4 hc4 hk6 hu4
    go_upto_region 5 with fail
    clear x0 x1
    rw [set_same HX0.out]
    go_wp2_with fail
    go_loopw [7, 8] (fun v7 v8 wr => ∃ (k : Nat) (u : Value) (xs : List Value) (zs : List Int) (lk : Nm) (ek : Int), v7 = .int .i64 k ∧ RowI numC (flatH numV) 1 3 W F q g off cur t nb z l e k u xs zs lk ek wr) (fun v7 _ _ => z.toNat - (intOf v7).toNat)
    case atStart => exact ⟨0, _, _, _, _, _, rfl, HI0.out⟩
    case round =>
      obtain ⟨k, u, xs, zs, lk, ek, rfl, hI⟩ := hrel
      have HI := Lib.hid hI
      obtain ⟨⟨c0, c1, c2⟩, f0, f1, f2⟩ := three hI.rk.k
      obtain ⟨y0, y1⟩ := one_cell hI.nbk
      clear hI
      by_cases hlt : k < z.toNat
      · have u1 : decide ((k : Int) < z) = true := decide_eq_true (by omega)
        have u2 : (k : Int) < z := by omega
        by_cases he : ek = 0
        · subst he
          have HB := Lib.hid (HI.out.big rfl)
          have x0 : wr.cell? ⟨g, off, none⟩ = some u := (HI.out.cut.cell off).trans (by rw [List.getElem?_set_self HOl.out])
          have HX0 := Lib.hid x0
          go_wp2_with fail
          refine (wrong_calls wr F 0 c2).mono ?_
          rintro r w' ⟨rfl, rfl⟩
          rw [show decide ((0 : Int) ≠ 0) = false from rfl]
          clear u1 u2
          have HOA : Hid (World.ownsRow (wr.alloc (.cells #[.int .i64 0] 3)) (nb + 1) 3 1 u k xs) := HI.out.own.alloc _
          have HSz : Hid (nb + 1 ≤ (wr.alloc (.cells #[.int .i64 0] 3)).heap.size) := by have := HI.out.nlt; show _ ≤ _; rw [World.size_alloc]; omega
          have HAl := Lib.hid ((Below.refl wr.heap.size wr).alloc (Nat.le_refl _) (.cells #[.int .i64 0] 3))
          go_wp2_with (at_builtin; refine Ap.wpList_append_at rfl (.tmp 48) (.tmp 50) 41 41 rfl (nb + 1) 3 i0 _ 1 8 Try.underlying41 (append_side Try.underlying41) hi0 hz0 hz1 hz2 rfl (by decide) (by decide) u k xs rfl HOA.out _ 1 [.int .i64 0] rfl (src_new wr [.int .i64 0] 3 1 1 rfl (by simp [Value.oneCell']) _) ?_ ?_ ?_ ?_)
          case _ => have := HB.out; unfold maxLen; omega
          case _ => have := HB.out; omega
          case _ => exact HSz.out
          intro u' w2 hown hgr hat
          have hap : Apd wr u (nb + 1) 3 1 k xs [.int .i64 0] u' w2 := ⟨hown, _, HAl.out, hgr, fun j h1 h2 => hat j h1 (by simpa using h2)⟩
          have HX2 : Hid (w2.heap[g]? = wr.heap[g]?) := HI.out.low (Below.refl _ _) hap g (by have := HI.out.nlo; have := HC.out.lt; omega)
          obtain ⟨b, cap, curb, rfl, hJ⟩ := HI.out.push (Below.refl _ _) hap hlt (flat_st noT numV) HT.out rfl HC.out.lt HG.out
          clear hown hgr hat hap
          have HJ := Lib.hid hJ
          have x2 : w2.cell? ⟨g, off, none⟩ = some u := by rw [World.cell?_of_block HX2.out]; exact HX0.out
          have x3 : w2.frozen? ⟨g, off, none⟩ = false := by have h9 : Cut g (cur.set off u) t w2 := HX2.out.trans HI.out.cut; exact h9.frozen off
          clear hJ
          go_upto_region 11 with fail
          clear x2 x3 HX2
          generalize w2.setCell ⟨g, off, none⟩ (.slice (some ⟨b, 0, none⟩) (k + 1) cap) = w3' at *
          have x4 : w3'.cell? ⟨g, off, none⟩ = some (.slice (some ⟨b, 0, none⟩) (k + 1) cap) := (HJ.out.cut.cell off).trans (by rw [List.getElem?_set_self HOl.out])
          have hx := fun W => row_idx Try.underlying41 1 info_el_int b 0 (k + 1) cap k (Nat.lt_succ_self k) W
          go_wp2_with fail
          clear hx x4
          have HZ3 := Lib.hid (zero_at HJ.out rfl)
          refine ((num_rk.h (fun _ => rfl)) w3' F q lk 0 b k curb 3 HJ.out.rk HJ.out.gb (by have := HZ3.out; first | exact this | (rw [Nat.mul_one] at this; exact this)) (by have := HJ.out.nb'; have := HNF.out; omega) rfl).mono ?_
          rintro r w4 hp
          obtain rfl := hp.1
          obtain ⟨vs, hI⟩ := HJ.out.next (by first | exact hp | (rw [Nat.mul_one]; exact hp)) (flat_st noT numV) rfl rfl rfl HG.out
          have HI2 := Lib.hid hI
          clear hp hI
          have hk9 := HI.out.k0
          go_wp2_with fail
          go_roundw
          case rel => exact ⟨k + 1, _, _, _, _, _, by go_num, HI2.out⟩
          case measure => simp [intOf]; omega
        · have t1 : decide (ek ≠ 0) = true := decide_eq_true he
          have HE := Lib.hid he
          clear he
          go_wp2_with fail
          refine (wrong_calls wr F ek c2).mono ?_
          rintro r w' ⟨rfl, rfl⟩
          rw [t1]
          clear t1
          go_wp2_with fail
          refine bodyPost_end (v := .tuple #[]) (results_none rfl _ _ _) rfl ?_
          exact HI.out.done (.inr HE.out) HOl.out
      · have u1 : decide ((k : Int) < z) = false := decide_eq_false (by have := HI.out.kN; omega)
        have u2 : ¬ ((k : Int) < z) := by have := HI.out.kN; omega
        go_wp2_with fail
        refine bodyPost_end (v := .tuple #[]) (results_none rfl _ _ _) rfl ?_
        exact HI.out.done (.inl (by omega)) HOl.out
theorem info_z_pair : (Try.prog.info? 131).map (fun i => (i.zero, i.size, i.bytes)) = some (some (.agg #[.int .i64 0, .int .i64 0]), 2, 16) := by kernel_rfl
theorem cell_sl_pair (g off : Nat) (v : Value) (w : World) (h : w.cell? ⟨g, off, none⟩ = some v) : (Instr.loadAt 32 (.pointer (some ⟨g, off, none⟩))).run Try.prog w = .ok v w := load_sl_pair h
theorem load_z_pair {w : World} {b : Nat} (h : w.heap[b]? = some (.cells #[.int .i64 0, .int .i64 0] 131)) : (Instr.loadAt 131 (.pointer (some ⟨b, 0, none⟩))).run Try.prog w = .ok (.agg #[.int .i64 0, .int .i64 0]) w := by
  have c0 : w.cell? ⟨b, 0, none⟩ = some (.int .i64 0) := by simp [World.cell?, h]
  have c1 : w.cell? ⟨b, 1, none⟩ = some (.int .i64 0) := by simp [World.cell?, h]
  clear h
  go_simp
set_option maxHeartbeats 4000000 in
theorem row_pair_rk (W : World) (F q : Nat) (l : Nm) (e : Int) (g off : Nat) (cur : List Value) (t : TypeId) (h : RkI F q l e W) (hc : Cut g cur t W) (h0 : Zer cur off [.slice none 0 0]) (hg : F < g) (ht : (noT) t = false) :
    Calls Try.prog 58 #[.pointer (some ⟨F, 0, none⟩), .pointer (some ⟨g, off, none⟩), .func (.func 59) #[] #[]] W
      (RkPostH F q g off cur 1 t (RowH 2 131 (flatH prV)) ((rowC prC).dec l e).1 ((rowC prC).dec l e).2.1 ((rowC prC).dec l e).2.2 W) := by
  obtain ⟨i0, hi0, hz0, hz1, hz2⟩ := info_parts info_z_pair
  have hzc : cur[off]? = some (.slice none 0 0) := h0 0 Nat.zero_lt_one
  have HOl : Hid (off < cur.length) := (List.getElem?_eq_some_iff.1 hzc).1
  have x0 : W.cell? ⟨g, off, none⟩ = some (.slice none 0 0) := (hc.cell off).trans hzc
  have HR := Lib.hid h
  have HC := Lib.hid hc
  have HG := Lib.hid hg
  have HT := Lib.hid ht
  have HZc := Lib.hid hzc
  clear h hc h0 hg ht hzc
  go_enter Try.func58, Try.ntmps58
  go_upto_region 1 with fail
  clear x0
  obtain ⟨nb, w2, hw2, hnbe, hk4, hbb⟩ : ∃ nb w2, W.alloc (.cells #[.int .i64 0] 3) = w2 ∧ W.heap.size = nb ∧ w2.heap[nb]? = some (.cells #[.int .i64 0] 3) ∧ Below W.heap.size W w2 :=
    ⟨_, _, rfl, rfl, heap_alloc_new W _, (Below.refl W.heap.size W).alloc (Nat.le_refl _) _⟩
  have HBb := Lib.hid hbb
  have HK4 : Hid (Cut nb [.int .i64 0] 3 w2) := hk4
  have HR2 := Lib.hid (HR.out.below hbb)
  have HNb := Lib.hid hnbe
  have HNF : Hid (F < nb) := by have := HR.out.F_lt; show _ < _; omega
  rw [hw2, hnbe]
  clear hbb hk4 hw2 hnbe
  go_wp2_with fail
  refine (rk_int_calls w2 F q l e nb 0 [.int .i64 0] 3 HR2.out HK4.out rfl HNF.out).mono ?_
  rintro r w3 ⟨rfl, hr, hcu, hu⟩
  have hkd : Cut nb [.int .i64 (numC.dec l e).1] 3 w3 := hcu
  have HD : Hid ((rowC prC).dec l e = rowsN prC (numC.dec l e).1.toNat (numC.dec l e).2.1 (mustE (mostN (numC.dec l e).1) (numC.dec l e).2.2 11)) := rfl
  clear hcu
  generalize (numC.dec l e).1 = z at *
  generalize (numC.dec l e).2.1 = l1 at *
  generalize (numC.dec l e).2.2 = e1 at *
  have HR3 := Lib.hid hr
  have HK5 : Hid (w3.heap[nb]? = some (.cells #[.int .i64 z] 3)) := hkd
  have hgw := HC.out.lt
  have HC3 : Hid (Cut g cur t w3) := (hu.block g (Nat.lt_of_lt_of_le hgw HBb.out.size) (by have := HG.out; omega) (by have := HG.out; have := HR.out.lt; omega) (by have := HNb.out; omega)).trans ((HBb.out.block g hgw).trans HC.out)
  have HU3 : Hid (RUp F q g W w3) := ⟨hu.os.trans HBb.out.os, hu.tape.trans HBb.out.tape, hu.output.trans HBb.out.output, Nat.le_trans HBb.out.size hu.size, fun j hj a b _ => (hu.block j (Nat.lt_of_lt_of_le hj HBb.out.size) a b (by have := HNb.out; omega)).trans (HBb.out.block j hj)⟩
  clear hr hkd hu hgw
  obtain ⟨⟨c0, c1, c2⟩, f0, f1, f2⟩ := three HR3.out.k
  go_upto_region 3 with fail
  clear c0 c1 c2 f0 f1 f2
  go_cut [27] from 20 to 27 (fun s27 wx => RkI F q l1 (mustE (mostN z) e1 11) wx ∧ Cut g cur t wx ∧ wx.heap[nb]? = some (.cells #[.int .i64 z] 3) ∧ RUp F q g W wx)
  case first =>
    obtain ⟨⟨c0, c1, c2⟩, f0, f1, f2⟩ := three HR3.out.k
    obtain ⟨y0, y1⟩ := one_cell HK5.out
    by_cases n0 : 0 ≤ z
    · by_cases n1 : z ≤ 100000
      · have u0 : decide (0 ≤ z) = true := decide_eq_true n0
        have u1 : decide (z ≤ 100000) = true := decide_eq_true n1
        have HM : Hid (mostN z = true) := by show mostN z = true; unfold mostN; rw [u0, u1]; rfl
        go_wp2_with fail
        refine (must_calls w3 F q l1 e1 true 11 HR3.out).mono ?_
        rintro r w4 ⟨rfl, hr4, hu4, hn4⟩
        rw [← HM.out] at hr4
        have HR4 := Lib.hid hr4
        have HC4 : Hid (Cut g cur t w4) := (hn4 g (by have := HG.out; omega)).trans HC3.out
        have HK6 := Lib.hid ((hn4 nb (by have := HNF.out; omega)).trans HK5.out)
        have HU4 := Lib.hid (HU3.out.trans (hu4 g))
        clear c0 c1 c2 f0 f1 f2 y0 y1 hr4 hu4 hn4 n0 n1 u0 u1
        go_wp2_with fail
        go_meet
        exact ⟨HR4.out, HC4.out, HK6.out, HU4.out⟩
      · have u0 : decide (0 ≤ z) = true := decide_eq_true n0
        have u1 : decide (z ≤ 100000) = false := decide_eq_false n1
        have HM : Hid (mostN z = false) := by show mostN z = false; unfold mostN; rw [u0, u1]; rfl
        go_wp2_with fail
        refine (must_calls w3 F q l1 e1 false 11 HR3.out).mono ?_
        rintro r w4 ⟨rfl, hr4, hu4, hn4⟩
        rw [← HM.out] at hr4
        have HR4 := Lib.hid hr4
        have HC4 : Hid (Cut g cur t w4) := (hn4 g (by have := HG.out; omega)).trans HC3.out
        have HK6 := Lib.hid ((hn4 nb (by have := HNF.out; omega)).trans HK5.out)
        have HU4 := Lib.hid (HU3.out.trans (hu4 g))
        clear c0 c1 c2 f0 f1 f2 y0 y1 hr4 hu4 hn4 n0 n1 u0 u1
        go_wp2_with fail
        go_meet
        exact ⟨HR4.out, HC4.out, HK6.out, HU4.out⟩
    · have u0 : decide (0 ≤ z) = false := decide_eq_false n0
      have HM : Hid (mostN z = false) := by show mostN z = false; unfold mostN; rw [u0]; rfl
      go_wp2_with fail
      refine (must_calls w3 F q l1 e1 false 11 HR3.out).mono ?_
      rintro r w4 ⟨rfl, hr4, hu4, hn4⟩
      rw [← HM.out] at hr4
      have HR4 := Lib.hid hr4
      have HC4 : Hid (Cut g cur t w4) := (hn4 g (by have := HG.out; omega)).trans HC3.out
      have HK6 := Lib.hid ((hn4 nb (by have := HNF.out; omega)).trans HK5.out)
      have HU4 := Lib.hid (HU3.out.trans (hu4 g))
      clear c0 c1 c2 f0 f1 f2 y0 y1 hr4 hu4 hn4 n0 u0
      go_wp2_with fail
      go_meet
      exact ⟨HR4.out, HC4.out, HK6.out, HU4.out⟩
  case rest =>
    obtain ⟨hr4, hc4, hk6, hu4⟩ := hcut
    have HBig : Hid (mustE (mostN z) e1 11 = 0 → z.toNat ≤ 100000) := by
      intro hm
      rcases hq : mostN z with _ | _
      · rw [hq] at hm
        by_cases he : e1 = 0
        · rw [he, mustE_no] at hm; exact absurd hm (by decide)
        · rw [mustE_stop he] at hm; exact absurd hm he
      · unfold mostN at hq
        rw [Bool.and_eq_true, decide_eq_true_eq, decide_eq_true_eq] at hq
        omega
    generalize mustE (mostN z) e1 11 = e2 at *
    have HI0 : Hid (RowI prC (flatH prV) 2 131 W F q g off cur t nb z l e 0 (.slice none 0 0) [] [] l1 e2 wc) := by
      have e9 : cur.set off (.slice none 0 0) = cur := by
        obtain ⟨h1, h2⟩ := List.getElem?_eq_some_iff.1 HZc.out
        rw [← h2]
        exact List.set_getElem_self h1
      exact ⟨Nat.zero_le _, Nat.zero_le _, HBig.out, HD.out, rfl, hr4, by rw [e9]; exact hc4, World.ownsRow_nil _ _ _ _, each_nil _ _ _, hk6, by have := HNb.out; omega, hu4⟩
    have HX0 := Lib.hid ((hc4.cell off).trans HZc.out)
    have x0 := HX0.out
    have x1 := hc4.frozen off
    clear hr4 hc4 hk6 hu4
    go_upto_region 5 with fail
    clear x0 x1
    rw [set_same HX0.out]
    go_wp2_with fail
    go_loopw [7, 8] (fun v7 v8 wr => ∃ (k : Nat) (u : Value) (xs : List Value) (zs : List PairD) (lk : Nm) (ek : Int), v7 = .int .i64 k ∧ RowI prC (flatH prV) 2 131 W F q g off cur t nb z l e k u xs zs lk ek wr) (fun v7 _ _ => z.toNat - (intOf v7).toNat)
    case atStart => exact ⟨0, _, _, _, _, _, rfl, HI0.out⟩
    case round =>
      obtain ⟨k, u, xs, zs, lk, ek, rfl, hI⟩ := hrel
      have HI := Lib.hid hI
      obtain ⟨⟨c0, c1, c2⟩, f0, f1, f2⟩ := three hI.rk.k
      obtain ⟨y0, y1⟩ := one_cell hI.nbk
      clear hI
      by_cases hlt : k < z.toNat
      · have u1 : decide ((k : Int) < z) = true := decide_eq_true (by omega)
        have u2 : (k : Int) < z := by omega
        by_cases he : ek = 0
        · subst he
          have HB := Lib.hid (HI.out.big rfl)
          have x0 : wr.cell? ⟨g, off, none⟩ = some u := (HI.out.cut.cell off).trans (by rw [List.getElem?_set_self HOl.out])
          have HX0 := Lib.hid x0
          go_wp2_with fail
          refine (wrong_calls wr F 0 c2).mono ?_
          rintro r w' ⟨rfl, rfl⟩
          rw [show decide ((0 : Int) ≠ 0) = false from rfl]
          clear u1 u2
          go_upto_region 10 with fail
          obtain ⟨xb, wx, hwx, hxbe, hxk, hxx⟩ : ∃ xb wx, wr.alloc (.cells #[.int .i64 0, .int .i64 0] 131) = wx ∧ wr.heap.size = xb ∧ wx.heap[xb]? = some (.cells #[.int .i64 0, .int .i64 0] 131) ∧ Below wr.heap.size wr wx :=
            ⟨_, _, rfl, rfl, heap_alloc_new wr _, (Below.refl wr.heap.size wr).alloc (Nat.le_refl _) _⟩
          have HXK := Lib.hid hxk
          have HXX := Lib.hid hxx
          have HXl : Hid (xb < wx.heap.size) := (Array.getElem?_eq_some_iff.1 hxk).1
          have HXg : Hid (g < wr.heap.size) := Nat.lt_of_lt_of_le HC.out.lt HI.out.up.size
          have K0 : Hid (wx.cell? ⟨g, off, none⟩ = some u) := (hxx.cell (p := ⟨g, off, none⟩) HXg.out).trans HX0.out
          have HOw : Hid (World.ownsRow wx (nb + 1) 131 2 u k xs) := ownsRow_below HI.out.own hxx
          have HNs : Hid (nb + 1 ≤ wx.heap.size) := Nat.le_trans HI.out.nlt hxx.size
          rw [hwx, hxbe]
          clear hwx hxbe hxk hxx c0 c1 c2 f0 f1 f2 y0 y1 x0
          refine Rt.wp_region_rkt 7 [] [Rg.Is (.pointer (some ⟨g, off, none⟩)), Rg.Is (.pointer (some ⟨g, off, none⟩)), Rg.Is (.pointer (some ⟨g, off, none⟩)), Rg.Is (u), Rg.Is (.agg #[.int .i64 0, .int .i64 0]), (fun u' x => ∃ b, u' = .slice (some ⟨b, 0, none⟩) 1 1 ∧ wx.heap.size ≤ b ∧ x.heap[b]? = some (.cells #[.int .i64 0, .int .i64 0] 131)), (fun u' x => Apd wx u (nb + 1) 131 2 k xs [.int .i64 0, .int .i64 0] u' x)] (fun _ _ => True) (fun ls x => ls 6 = false → Below wx.heap.size wx x) (fun k x y => if k = 6 then x.grownBy y (Value.ownBlock (u)) else Below x.heap.size x y) (by kernel_rfl) (by kernel_rfl) (of_decide_eq_true (by kernel_rfl)) (by kernel_rfl) (by kernel_rfl) trivial (fun _ => ⟨rfl, rfl, rfl, Nat.le_refl _, fun _ _ => rfl⟩) (fun ls ls' x e h1 h2 => h1 (by rw [e]; exact h2)) (fun _ _ _ _ _ => trivial) (fun i ls x _ h1 => by rw [show ([] : List Bool).getD i true = true from rfl] at h1; cases h1) ?_ ⟨rfl, rfl, rfl, rfl, rfl, rfl, rfl, trivial⟩ ⟨?_, ?_, ?_, ?_, ?_, ?_, ?_, trivial⟩ ?_
          · intro i k u x y hik _ h1 hK
            match i, h1, hik with
            | 0, h1, _ => exact h1
            | 1, h1, _ => exact h1
            | 2, h1, _ => exact h1
            | 3, h1, _ => exact h1
            | 4, h1, _ => exact h1
            | 5, h1, hik =>
              obtain ⟨b1, h2, h3, h4⟩ := h1
              refine ⟨b1, h2, h3, ?_⟩
              have hg1 := (Array.getElem?_eq_some_iff.1 h4).1
              by_cases hk6 : k = 6
              · subst hk6
                rw [if_pos rfl] at hK
                exact (hK.block b1 hg1 (fun e => by have := (HOw.out.lt _ e.symm).2; omega)).trans h4
              · rw [if_neg hk6] at hK
                exact (hK.block b1 hg1).trans h4
            | 6, h1, hik =>
              rw [if_neg (fun e => hik e.symm)] at hK
              exact h1.below hK
            | _ + 7, _, _ => trivial
          · intro _ b x ls hR hS hself hup hdn hk
            have h1 : b.eval (.tmp 1) = .pointer (some ⟨g, off, none⟩) := Eq.mp (by kernel_rfl) (hk 1 (by decide))
            exact Rg.does_move ⟨by rw [if_neg (by decide)]; exact Below.refl _ _, h1, fun hh => hS hh⟩
          · intro _ b x ls hR hS hself hup hdn hk
            have h1 : b.eval (.tmp 1) = .pointer (some ⟨g, off, none⟩) := Eq.mp (by kernel_rfl) (hk 1 (by decide))
            have lA : ls 6 = false := hdn [3, 2] 6 _ rfl (by kernel_rfl)
            have hb := hS lA
            exact Rg.does_move ⟨by rw [if_neg (by decide)]; exact Below.refl _ _, h1, fun hh => hS hh⟩
          · intro _ b x ls hR hS hself hup hdn hk
            have h46 : b.eval (.tmp 46) = .pointer (some ⟨g, off, none⟩) := Eq.mp (by kernel_rfl) (hk 46 (by decide))
            have lA : ls 6 = false := hdn [3] 6 _ rfl (by kernel_rfl)
            have hb := hS lA
            exact Ap.does_nil _ h46 ⟨by rw [if_neg (by decide)]; exact Below.refl _ _, rfl, fun hh => hS hh⟩
          · intro _ b x ls hR hS hself hup hdn hk
            have h47 : b.eval (.tmp 47) = .pointer (some ⟨g, off, none⟩) := Eq.mp (by kernel_rfl) (hk 47 (by decide))
            have lA : ls 6 = false := hdn [] 6 _ rfl (by kernel_rfl)
            have hb := hS lA
            exact Rg.does_load _ _ h47 (load_sl_pair (cell_below hb (Nat.le_refl _) K0.out)) ⟨by rw [if_neg (by decide)]; exact Below.refl _ _, rfl, fun hh => hS hh⟩
          · intro _ b x ls hR hS hself hup hdn hk
            have h8 : b.eval (.tmp 8) = .pointer (some ⟨xb, 0, none⟩) := Eq.mp (by kernel_rfl) (hk 8 (by decide))
            have lA : ls 6 = false := hdn [5] 6 _ rfl (by kernel_rfl)
            have hb := hS lA
            exact Rg.does_load _ _ h8 (load_z_pair ((hb.block xb HXl.out).trans HXK.out)) ⟨by rw [if_neg (by decide)]; exact Below.refl _ _, rfl, fun hh => hS hh⟩
          · intro _ b x ls hR hS hself hup hdn hk
            have h49 : b.eval (.tmp 49) = .agg #[.int .i64 0, .int .i64 0] := Eq.mp (by kernel_rfl) (hk 49 (by decide))
            have lA : ls 6 = false := hdn [] 6 _ rfl (by kernel_rfl)
            have hb := hS lA
            have hal := (Below.refl x.heap.size x).alloc (Nat.le_refl _) (.cells #[.int .i64 0, .int .i64 0] 131)
            exact Rg.does_build #[(0, .agg #[.int .i64 0, .int .i64 0])] _ (by simp [h49]) (by go_simp) ⟨by rw [if_neg (by decide)]; exact hal, ⟨x.heap.size, rfl, hb.size, heap_alloc_new x _⟩, fun hh => hb.trans (hal.mono hb.size)⟩
          · intro _ b x ls hR hS hself hup hdn hk
            have h48 : b.eval (.tmp 48) = u := Eq.mp (by kernel_rfl) (hk 48 (by decide))
            have h50 : (fun u' x => ∃ b, u' = .slice (some ⟨b, 0, none⟩) 1 1 ∧ wx.heap.size ≤ b ∧ x.heap[b]? = some (.cells #[.int .i64 0, .int .i64 0] 131)) (b.eval (.tmp 50)) x := Eq.mp (by kernel_rfl) (hk 50 (by decide))
            have hb := hS hself
            obtain ⟨b1, h2, h3, h4⟩ := h50
            have hown : World.ownsRow x (nb + 1) 131 2 u k xs := ownsRow_below HOw.out hb
            obtain ⟨v', w', hrun, hown', hgr, hat⟩ := Ap.run_append_at (P := Try.prog) x (nb + 1) 32 32 32 131 i0 _ 2 16 Try.underlying32 (append_side Try.underlying32) hi0 hz0 hz1 hz2 rfl (by decide) (by decide) u k xs hown (.slice (some ⟨b1, 0, none⟩) 1 1) 1 [.int .i64 0, .int .i64 0] (src_cells (b := b1) (off := 0) rfl (by simp [Value.oneCell']) (.inr rfl) (fun j u1 hu1 => by simp only [World.cell?, h4, Nat.zero_add]; simpa using hu1)) (by have := HB.out; unfold maxLen; omega) (by have := HB.out; omega) (Nat.le_trans HNs.out hb.size)
            exact Ap.does_append u _ v' w' h48 h2 hrun ⟨by rw [if_pos rfl]; exact hgr, ⟨hown', x, hb, hgr, hat⟩, fun hh => by simp [Rs.upd] at hh⟩
          · intro vals wD ls _ hSD _ hL
            obtain ⟨g0, g1, g2, g3, g4, g5, g6, _⟩ := hL
            have hap : Apd wx u (nb + 1) 131 2 k xs [.int .i64 0, .int .i64 0] (vals 6) wD := g6
            have q0 := g0; have q1 := g1
            simp only [Rg.putAll, List.take_succ_cons, List.take_zero, List.drop_succ_cons, List.drop_zero, List.setIfInBounds_toArray, List.set_cons_succ, List.set_cons_zero]
            rw [show vals 0 = .pointer (some ⟨g, off, none⟩) from g0]
            clear g0 g1 g2 g3 g4 g5 g6 q0 q1
            generalize vals 6 = u' at *
            generalize wD = w2 at *
            have HX2 : Hid (w2.heap[g]? = wr.heap[g]?) := HI.out.low HXX.out hap g (by have := HI.out.nlo; have := HC.out.lt; omega)
            obtain ⟨b, cap, curb, rfl, hJ⟩ := HI.out.push HXX.out hap hlt (flat_st noT prV) HT.out rfl HC.out.lt HG.out
            clear hap
            have HJ := Lib.hid hJ
            have x2 : w2.cell? ⟨g, off, none⟩ = some u := by rw [World.cell?_of_block HX2.out]; exact HX0.out
            have x3 : w2.frozen? ⟨g, off, none⟩ = false := by have h9 : Cut g (cur.set off u) t w2 := HX2.out.trans HI.out.cut; exact h9.frozen off
            clear hJ
            go_upto_region 11 with fail
            clear x2 x3 HX2
            generalize w2.setCell ⟨g, off, none⟩ (.slice (some ⟨b, 0, none⟩) (k + 1) cap) = w3' at *
            have x4 : w3'.cell? ⟨g, off, none⟩ = some (.slice (some ⟨b, 0, none⟩) (k + 1) cap) := (HJ.out.cut.cell off).trans (by rw [List.getElem?_set_self HOl.out])
            have hx := fun W => row_idx Try.underlying32 2 info_el_pair b 0 (k + 1) cap k (Nat.lt_succ_self k) W
            go_wp2_with fail
            clear hx x4
            have HZ3 := Lib.hid (zero_at HJ.out rfl)
            refine ((pair_rk.h (fun _ => rfl)) w3' F q lk 0 b (k * 2) curb 131 HJ.out.rk HJ.out.gb (by have := HZ3.out; first | exact this | (rw [Nat.mul_one] at this; exact this)) (by have := HJ.out.nb'; have := HNF.out; omega) rfl).mono ?_
            rintro r w4 hp
            obtain rfl := hp.1
            obtain ⟨vs, hI⟩ := HJ.out.next (by first | exact hp | (rw [Nat.mul_one]; exact hp)) (flat_st noT prV) rfl rfl rfl HG.out
            have HI2 := Lib.hid hI
            clear hp hI
            have hk9 := HI.out.k0
            go_wp2_with fail
            go_roundw
            case rel => exact ⟨k + 1, _, _, _, _, _, by go_num, HI2.out⟩
            case measure => simp [intOf]; omega
        · have t1 : decide (ek ≠ 0) = true := decide_eq_true he
          have HE := Lib.hid he
          clear he
          go_wp2_with fail
          refine (wrong_calls wr F ek c2).mono ?_
          rintro r w' ⟨rfl, rfl⟩
          rw [t1]
          clear t1
          go_wp2_with fail
          refine bodyPost_end (v := .tuple #[]) (results_none rfl _ _ _) rfl ?_
          exact HI.out.done (.inr HE.out) HOl.out
      · have u1 : decide ((k : Int) < z) = false := decide_eq_false (by have := HI.out.kN; omega)
        have u2 : ¬ ((k : Int) < z) := by have := HI.out.kN; omega
        go_wp2_with fail
        refine bodyPost_end (v := .tuple #[]) (results_none rfl _ _ _) rfl ?_
        exact HI.out.done (.inl (by omega)) HOl.out
theorem info_z_var : (Try.prog.info? 155).map (fun i => (i.zero, i.size, i.bytes)) = some (some (.agg #[.string ⟨#[]⟩, .string ⟨#[]⟩]), 2, 32) := by kernel_rfl
theorem cell_sl_var (g off : Nat) (v : Value) (w : World) (h : w.cell? ⟨g, off, none⟩ = some v) : (Instr.loadAt 26 (.pointer (some ⟨g, off, none⟩))).run Try.prog w = .ok v w := load_sl_var h
theorem load_z_var {w : World} {b : Nat} (h : w.heap[b]? = some (.cells #[.string ⟨#[]⟩, .string ⟨#[]⟩] 155)) : (Instr.loadAt 155 (.pointer (some ⟨b, 0, none⟩))).run Try.prog w = .ok (.agg #[.string ⟨#[]⟩, .string ⟨#[]⟩]) w := by
  have c0 : w.cell? ⟨b, 0, none⟩ = some (.string ⟨#[]⟩) := by simp [World.cell?, h]
  have c1 : w.cell? ⟨b, 1, none⟩ = some (.string ⟨#[]⟩) := by simp [World.cell?, h]
  clear h
  go_simp
set_option maxHeartbeats 4000000 in
theorem row_var_rk (W : World) (F q : Nat) (l : Nm) (e : Int) (g off : Nat) (cur : List Value) (t : TypeId) (h : RkI F q l e W) (hc : Cut g cur t W) (h0 : Zer cur off [.slice none 0 0]) (hg : F < g) (ht : (noT) t = false) :
    Calls Try.prog 69 #[.pointer (some ⟨F, 0, none⟩), .pointer (some ⟨g, off, none⟩), .func (.func 70) #[] #[]] W
      (RkPostH F q g off cur 1 t (RowH 2 155 (flatH varV)) ((rowC varC).dec l e).1 ((rowC varC).dec l e).2.1 ((rowC varC).dec l e).2.2 W) := by
  obtain ⟨i0, hi0, hz0, hz1, hz2⟩ := info_parts info_z_var
  have hzc : cur[off]? = some (.slice none 0 0) := h0 0 Nat.zero_lt_one
  have HOl : Hid (off < cur.length) := (List.getElem?_eq_some_iff.1 hzc).1
  have x0 : W.cell? ⟨g, off, none⟩ = some (.slice none 0 0) := (hc.cell off).trans hzc
  have HR := Lib.hid h
  have HC := Lib.hid hc
  have HG := Lib.hid hg
  have HT := Lib.hid ht
  have HZc := Lib.hid hzc
  clear h hc h0 hg ht hzc
  go_enter Try.func69, Try.ntmps69
  go_upto_region 1 with fail
  clear x0
  obtain ⟨nb, w2, hw2, hnbe, hk4, hbb⟩ : ∃ nb w2, W.alloc (.cells #[.int .i64 0] 3) = w2 ∧ W.heap.size = nb ∧ w2.heap[nb]? = some (.cells #[.int .i64 0] 3) ∧ Below W.heap.size W w2 :=
    ⟨_, _, rfl, rfl, heap_alloc_new W _, (Below.refl W.heap.size W).alloc (Nat.le_refl _) _⟩
  have HBb := Lib.hid hbb
  have HK4 : Hid (Cut nb [.int .i64 0] 3 w2) := hk4
  have HR2 := Lib.hid (HR.out.below hbb)
  have HNb := Lib.hid hnbe
  have HNF : Hid (F < nb) := by have := HR.out.F_lt; show _ < _; omega
  rw [hw2, hnbe]
  clear hbb hk4 hw2 hnbe
  go_wp2_with fail
  refine (rk_int_calls w2 F q l e nb 0 [.int .i64 0] 3 HR2.out HK4.out rfl HNF.out).mono ?_
  rintro r w3 ⟨rfl, hr, hcu, hu⟩
  have hkd : Cut nb [.int .i64 (numC.dec l e).1] 3 w3 := hcu
  have HD : Hid ((rowC varC).dec l e = rowsN varC (numC.dec l e).1.toNat (numC.dec l e).2.1 (mustE (mostN (numC.dec l e).1) (numC.dec l e).2.2 11)) := rfl
  clear hcu
  generalize (numC.dec l e).1 = z at *
  generalize (numC.dec l e).2.1 = l1 at *
  generalize (numC.dec l e).2.2 = e1 at *
  have HR3 := Lib.hid hr
  have HK5 : Hid (w3.heap[nb]? = some (.cells #[.int .i64 z] 3)) := hkd
  have hgw := HC.out.lt
  have HC3 : Hid (Cut g cur t w3) := (hu.block g (Nat.lt_of_lt_of_le hgw HBb.out.size) (by have := HG.out; omega) (by have := HG.out; have := HR.out.lt; omega) (by have := HNb.out; omega)).trans ((HBb.out.block g hgw).trans HC.out)
  have HU3 : Hid (RUp F q g W w3) := ⟨hu.os.trans HBb.out.os, hu.tape.trans HBb.out.tape, hu.output.trans HBb.out.output, Nat.le_trans HBb.out.size hu.size, fun j hj a b _ => (hu.block j (Nat.lt_of_lt_of_le hj HBb.out.size) a b (by have := HNb.out; omega)).trans (HBb.out.block j hj)⟩
  clear hr hkd hu hgw
  obtain ⟨⟨c0, c1, c2⟩, f0, f1, f2⟩ := three HR3.out.k
  go_upto_region 3 with fail
  clear c0 c1 c2 f0 f1 f2
  go_cut [27] from 20 to 27 (fun s27 wx => RkI F q l1 (mustE (mostN z) e1 11) wx ∧ Cut g cur t wx ∧ wx.heap[nb]? = some (.cells #[.int .i64 z] 3) ∧ RUp F q g W wx)
  case first =>
    obtain ⟨⟨c0, c1, c2⟩, f0, f1, f2⟩ := three HR3.out.k
    obtain ⟨y0, y1⟩ := one_cell HK5.out
    by_cases n0 : 0 ≤ z
    · by_cases n1 : z ≤ 100000
      · have u0 : decide (0 ≤ z) = true := decide_eq_true n0
        have u1 : decide (z ≤ 100000) = true := decide_eq_true n1
        have HM : Hid (mostN z = true) := by show mostN z = true; unfold mostN; rw [u0, u1]; rfl
        go_wp2_with fail
        refine (must_calls w3 F q l1 e1 true 11 HR3.out).mono ?_
        rintro r w4 ⟨rfl, hr4, hu4, hn4⟩
        rw [← HM.out] at hr4
        have HR4 := Lib.hid hr4
        have HC4 : Hid (Cut g cur t w4) := (hn4 g (by have := HG.out; omega)).trans HC3.out
        have HK6 := Lib.hid ((hn4 nb (by have := HNF.out; omega)).trans HK5.out)
        have HU4 := Lib.hid (HU3.out.trans (hu4 g))
        clear c0 c1 c2 f0 f1 f2 y0 y1 hr4 hu4 hn4 n0 n1 u0 u1
        go_wp2_with fail
        go_meet
        exact ⟨HR4.out, HC4.out, HK6.out, HU4.out⟩
      · have u0 : decide (0 ≤ z) = true := decide_eq_true n0
        have u1 : decide (z ≤ 100000) = false := decide_eq_false n1
        have HM : Hid (mostN z = false) := by show mostN z = false; unfold mostN; rw [u0, u1]; rfl
        go_wp2_with fail
        refine (must_calls w3 F q l1 e1 false 11 HR3.out).mono ?_
        rintro r w4 ⟨rfl, hr4, hu4, hn4⟩
        rw [← HM.out] at hr4
        have HR4 := Lib.hid hr4
        have HC4 : Hid (Cut g cur t w4) := (hn4 g (by have := HG.out; omega)).trans HC3.out
        have HK6 := Lib.hid ((hn4 nb (by have := HNF.out; omega)).trans HK5.out)
        have HU4 := Lib.hid (HU3.out.trans (hu4 g))
        clear c0 c1 c2 f0 f1 f2 y0 y1 hr4 hu4 hn4 n0 n1 u0 u1
        go_wp2_with fail
        go_meet
        exact ⟨HR4.out, HC4.out, HK6.out, HU4.out⟩
    · have u0 : decide (0 ≤ z) = false := decide_eq_false n0
      have HM : Hid (mostN z = false) := by show mostN z = false; unfold mostN; rw [u0]; rfl
      go_wp2_with fail
      refine (must_calls w3 F q l1 e1 false 11 HR3.out).mono ?_
      rintro r w4 ⟨rfl, hr4, hu4, hn4⟩
      rw [← HM.out] at hr4
      have HR4 := Lib.hid hr4
      have HC4 : Hid (Cut g cur t w4) := (hn4 g (by have := HG.out; omega)).trans HC3.out
      have HK6 := Lib.hid ((hn4 nb (by have := HNF.out; omega)).trans HK5.out)
      have HU4 := Lib.hid (HU3.out.trans (hu4 g))
      clear c0 c1 c2 f0 f1 f2 y0 y1 hr4 hu4 hn4 n0 u0
      go_wp2_with fail
      go_meet
      exact ⟨HR4.out, HC4.out, HK6.out, HU4.out⟩
  case rest =>
    obtain ⟨hr4, hc4, hk6, hu4⟩ := hcut
    have HBig : Hid (mustE (mostN z) e1 11 = 0 → z.toNat ≤ 100000) := by
      intro hm
      rcases hq : mostN z with _ | _
      · rw [hq] at hm
        by_cases he : e1 = 0
        · rw [he, mustE_no] at hm; exact absurd hm (by decide)
        · rw [mustE_stop he] at hm; exact absurd hm he
      · unfold mostN at hq
        rw [Bool.and_eq_true, decide_eq_true_eq, decide_eq_true_eq] at hq
        omega
    generalize mustE (mostN z) e1 11 = e2 at *
    have HI0 : Hid (RowI varC (flatH varV) 2 155 W F q g off cur t nb z l e 0 (.slice none 0 0) [] [] l1 e2 wc) := by
      have e9 : cur.set off (.slice none 0 0) = cur := by
        obtain ⟨h1, h2⟩ := List.getElem?_eq_some_iff.1 HZc.out
        rw [← h2]
        exact List.set_getElem_self h1
      exact ⟨Nat.zero_le _, Nat.zero_le _, HBig.out, HD.out, rfl, hr4, by rw [e9]; exact hc4, World.ownsRow_nil _ _ _ _, each_nil _ _ _, hk6, by have := HNb.out; omega, hu4⟩
    have HX0 := Lib.hid ((hc4.cell off).trans HZc.out)
    have x0 := HX0.out
    have x1 := hc4.frozen off
    clear hr4 hc4 hk6 hu4
    go_upto_region 5 with fail
    clear x0 x1
    rw [set_same HX0.out]
    go_wp2_with fail
    go_loopw [7, 8] (fun v7 v8 wr => ∃ (k : Nat) (u : Value) (xs : List Value) (zs : List VarD) (lk : Nm) (ek : Int), v7 = .int .i64 k ∧ RowI varC (flatH varV) 2 155 W F q g off cur t nb z l e k u xs zs lk ek wr) (fun v7 _ _ => z.toNat - (intOf v7).toNat)
    case atStart => exact ⟨0, _, _, _, _, _, rfl, HI0.out⟩
    case round =>
      obtain ⟨k, u, xs, zs, lk, ek, rfl, hI⟩ := hrel
      have HI := Lib.hid hI
      obtain ⟨⟨c0, c1, c2⟩, f0, f1, f2⟩ := three hI.rk.k
      obtain ⟨y0, y1⟩ := one_cell hI.nbk
      clear hI
      by_cases hlt : k < z.toNat
      · have u1 : decide ((k : Int) < z) = true := decide_eq_true (by omega)
        have u2 : (k : Int) < z := by omega
        by_cases he : ek = 0
        · subst he
          have HB := Lib.hid (HI.out.big rfl)
          have x0 : wr.cell? ⟨g, off, none⟩ = some u := (HI.out.cut.cell off).trans (by rw [List.getElem?_set_self HOl.out])
          have HX0 := Lib.hid x0
          go_wp2_with fail
          refine (wrong_calls wr F 0 c2).mono ?_
          rintro r w' ⟨rfl, rfl⟩
          rw [show decide ((0 : Int) ≠ 0) = false from rfl]
          clear u1 u2
          go_upto_region 10 with fail
          obtain ⟨xb, wx, hwx, hxbe, hxk, hxx⟩ : ∃ xb wx, wr.alloc (.cells #[.string ⟨#[]⟩, .string ⟨#[]⟩] 155) = wx ∧ wr.heap.size = xb ∧ wx.heap[xb]? = some (.cells #[.string ⟨#[]⟩, .string ⟨#[]⟩] 155) ∧ Below wr.heap.size wr wx :=
            ⟨_, _, rfl, rfl, heap_alloc_new wr _, (Below.refl wr.heap.size wr).alloc (Nat.le_refl _) _⟩
          have HXK := Lib.hid hxk
          have HXX := Lib.hid hxx
          have HXl : Hid (xb < wx.heap.size) := (Array.getElem?_eq_some_iff.1 hxk).1
          have HXg : Hid (g < wr.heap.size) := Nat.lt_of_lt_of_le HC.out.lt HI.out.up.size
          have K0 : Hid (wx.cell? ⟨g, off, none⟩ = some u) := (hxx.cell (p := ⟨g, off, none⟩) HXg.out).trans HX0.out
          have HOw : Hid (World.ownsRow wx (nb + 1) 155 2 u k xs) := ownsRow_below HI.out.own hxx
          have HNs : Hid (nb + 1 ≤ wx.heap.size) := Nat.le_trans HI.out.nlt hxx.size
          rw [hwx, hxbe]
          clear hwx hxbe hxk hxx c0 c1 c2 f0 f1 f2 y0 y1 x0
          refine Rt.wp_region_rkt 7 [] [Rg.Is (.pointer (some ⟨g, off, none⟩)), Rg.Is (.pointer (some ⟨g, off, none⟩)), Rg.Is (.pointer (some ⟨g, off, none⟩)), Rg.Is (u), Rg.Is (.agg #[.string ⟨#[]⟩, .string ⟨#[]⟩]), (fun u' x => ∃ b, u' = .slice (some ⟨b, 0, none⟩) 1 1 ∧ wx.heap.size ≤ b ∧ x.heap[b]? = some (.cells #[.string ⟨#[]⟩, .string ⟨#[]⟩] 155)), (fun u' x => Apd wx u (nb + 1) 155 2 k xs [.string ⟨#[]⟩, .string ⟨#[]⟩] u' x)] (fun _ _ => True) (fun ls x => ls 6 = false → Below wx.heap.size wx x) (fun k x y => if k = 6 then x.grownBy y (Value.ownBlock (u)) else Below x.heap.size x y) (by kernel_rfl) (by kernel_rfl) (of_decide_eq_true (by kernel_rfl)) (by kernel_rfl) (by kernel_rfl) trivial (fun _ => ⟨rfl, rfl, rfl, Nat.le_refl _, fun _ _ => rfl⟩) (fun ls ls' x e h1 h2 => h1 (by rw [e]; exact h2)) (fun _ _ _ _ _ => trivial) (fun i ls x _ h1 => by rw [show ([] : List Bool).getD i true = true from rfl] at h1; cases h1) ?_ ⟨rfl, rfl, rfl, rfl, rfl, rfl, rfl, trivial⟩ ⟨?_, ?_, ?_, ?_, ?_, ?_, ?_, trivial⟩ ?_
          · intro i k u x y hik _ h1 hK
            match i, h1, hik with
            | 0, h1, _ => exact h1
            | 1, h1, _ => exact h1
            | 2, h1, _ => exact h1
            | 3, h1, _ => exact h1
            | 4, h1, _ => exact h1
            | 5, h1, hik =>
              obtain ⟨b1, h2, h3, h4⟩ := h1
              refine ⟨b1, h2, h3, ?_⟩
              have hg1 := (Array.getElem?_eq_some_iff.1 h4).1
              by_cases hk6 : k = 6
              · subst hk6
                rw [if_pos rfl] at hK
                exact (hK.block b1 hg1 (fun e => by have := (HOw.out.lt _ e.symm).2; omega)).trans h4
              · rw [if_neg hk6] at hK
                exact (hK.block b1 hg1).trans h4
            | 6, h1, hik =>
              rw [if_neg (fun e => hik e.symm)] at hK
              exact h1.below hK
            | _ + 7, _, _ => trivial
          · intro _ b x ls hR hS hself hup hdn hk
            have h1 : b.eval (.tmp 1) = .pointer (some ⟨g, off, none⟩) := Eq.mp (by kernel_rfl) (hk 1 (by decide))
            exact Rg.does_move ⟨by rw [if_neg (by decide)]; exact Below.refl _ _, h1, fun hh => hS hh⟩
          · intro _ b x ls hR hS hself hup hdn hk
            have h1 : b.eval (.tmp 1) = .pointer (some ⟨g, off, none⟩) := Eq.mp (by kernel_rfl) (hk 1 (by decide))
            have lA : ls 6 = false := hdn [3, 2] 6 _ rfl (by kernel_rfl)
            have hb := hS lA
            exact Rg.does_move ⟨by rw [if_neg (by decide)]; exact Below.refl _ _, h1, fun hh => hS hh⟩
          · intro _ b x ls hR hS hself hup hdn hk
            have h46 : b.eval (.tmp 46) = .pointer (some ⟨g, off, none⟩) := Eq.mp (by kernel_rfl) (hk 46 (by decide))
            have lA : ls 6 = false := hdn [3] 6 _ rfl (by kernel_rfl)
            have hb := hS lA
            exact Ap.does_nil _ h46 ⟨by rw [if_neg (by decide)]; exact Below.refl _ _, rfl, fun hh => hS hh⟩
          · intro _ b x ls hR hS hself hup hdn hk
            have h47 : b.eval (.tmp 47) = .pointer (some ⟨g, off, none⟩) := Eq.mp (by kernel_rfl) (hk 47 (by decide))
            have lA : ls 6 = false := hdn [] 6 _ rfl (by kernel_rfl)
            have hb := hS lA
            exact Rg.does_load _ _ h47 (load_sl_var (cell_below hb (Nat.le_refl _) K0.out)) ⟨by rw [if_neg (by decide)]; exact Below.refl _ _, rfl, fun hh => hS hh⟩
          · intro _ b x ls hR hS hself hup hdn hk
            have h8 : b.eval (.tmp 8) = .pointer (some ⟨xb, 0, none⟩) := Eq.mp (by kernel_rfl) (hk 8 (by decide))
            have lA : ls 6 = false := hdn [5] 6 _ rfl (by kernel_rfl)
            have hb := hS lA
            exact Rg.does_load _ _ h8 (load_z_var ((hb.block xb HXl.out).trans HXK.out)) ⟨by rw [if_neg (by decide)]; exact Below.refl _ _, rfl, fun hh => hS hh⟩
          · intro _ b x ls hR hS hself hup hdn hk
            have h49 : b.eval (.tmp 49) = .agg #[.string ⟨#[]⟩, .string ⟨#[]⟩] := Eq.mp (by kernel_rfl) (hk 49 (by decide))
            have lA : ls 6 = false := hdn [] 6 _ rfl (by kernel_rfl)
            have hb := hS lA
            have hal := (Below.refl x.heap.size x).alloc (Nat.le_refl _) (.cells #[.string ⟨#[]⟩, .string ⟨#[]⟩] 155)
            exact Rg.does_build #[(0, .agg #[.string ⟨#[]⟩, .string ⟨#[]⟩])] _ (by simp [h49]) (by go_simp) ⟨by rw [if_neg (by decide)]; exact hal, ⟨x.heap.size, rfl, hb.size, heap_alloc_new x _⟩, fun hh => hb.trans (hal.mono hb.size)⟩
          · intro _ b x ls hR hS hself hup hdn hk
            have h48 : b.eval (.tmp 48) = u := Eq.mp (by kernel_rfl) (hk 48 (by decide))
            have h50 : (fun u' x => ∃ b, u' = .slice (some ⟨b, 0, none⟩) 1 1 ∧ wx.heap.size ≤ b ∧ x.heap[b]? = some (.cells #[.string ⟨#[]⟩, .string ⟨#[]⟩] 155)) (b.eval (.tmp 50)) x := Eq.mp (by kernel_rfl) (hk 50 (by decide))
            have hb := hS hself
            obtain ⟨b1, h2, h3, h4⟩ := h50
            have hown : World.ownsRow x (nb + 1) 155 2 u k xs := ownsRow_below HOw.out hb
            obtain ⟨v', w', hrun, hown', hgr, hat⟩ := Ap.run_append_at (P := Try.prog) x (nb + 1) 26 26 26 155 i0 _ 2 32 Try.underlying26 (append_side Try.underlying26) hi0 hz0 hz1 hz2 rfl (by decide) (by decide) u k xs hown (.slice (some ⟨b1, 0, none⟩) 1 1) 1 [.string ⟨#[]⟩, .string ⟨#[]⟩] (src_cells (b := b1) (off := 0) rfl (by simp [Value.oneCell']) (.inr rfl) (fun j u1 hu1 => by simp only [World.cell?, h4, Nat.zero_add]; simpa using hu1)) (by have := HB.out; unfold maxLen; omega) (by have := HB.out; omega) (Nat.le_trans HNs.out hb.size)
            exact Ap.does_append u _ v' w' h48 h2 hrun ⟨by rw [if_pos rfl]; exact hgr, ⟨hown', x, hb, hgr, hat⟩, fun hh => by simp [Rs.upd] at hh⟩
          · intro vals wD ls _ hSD _ hL
            obtain ⟨g0, g1, g2, g3, g4, g5, g6, _⟩ := hL
            have hap : Apd wx u (nb + 1) 155 2 k xs [.string ⟨#[]⟩, .string ⟨#[]⟩] (vals 6) wD := g6
            have q0 := g0; have q1 := g1
            simp only [Rg.putAll, List.take_succ_cons, List.take_zero, List.drop_succ_cons, List.drop_zero, List.setIfInBounds_toArray, List.set_cons_succ, List.set_cons_zero]
            rw [show vals 0 = .pointer (some ⟨g, off, none⟩) from g0]
            clear g0 g1 g2 g3 g4 g5 g6 q0 q1
            generalize vals 6 = u' at *
            generalize wD = w2 at *
            have HX2 : Hid (w2.heap[g]? = wr.heap[g]?) := HI.out.low HXX.out hap g (by have := HI.out.nlo; have := HC.out.lt; omega)
            obtain ⟨b, cap, curb, rfl, hJ⟩ := HI.out.push HXX.out hap hlt (flat_st noT varV) HT.out rfl HC.out.lt HG.out
            clear hap
            have HJ := Lib.hid hJ
            have x2 : w2.cell? ⟨g, off, none⟩ = some u := by rw [World.cell?_of_block HX2.out]; exact HX0.out
            have x3 : w2.frozen? ⟨g, off, none⟩ = false := by have h9 : Cut g (cur.set off u) t w2 := HX2.out.trans HI.out.cut; exact h9.frozen off
            clear hJ
            go_upto_region 11 with fail
            clear x2 x3 HX2
            generalize w2.setCell ⟨g, off, none⟩ (.slice (some ⟨b, 0, none⟩) (k + 1) cap) = w3' at *
            have x4 : w3'.cell? ⟨g, off, none⟩ = some (.slice (some ⟨b, 0, none⟩) (k + 1) cap) := (HJ.out.cut.cell off).trans (by rw [List.getElem?_set_self HOl.out])
            have hx := fun W => row_idx Try.underlying26 2 info_el_var b 0 (k + 1) cap k (Nat.lt_succ_self k) W
            go_wp2_with fail
            clear hx x4
            have HZ3 := Lib.hid (zero_at HJ.out rfl)
            refine ((bound_rk.h (fun _ => rfl)) w3' F q lk 0 b (k * 2) curb 155 HJ.out.rk HJ.out.gb (by have := HZ3.out; first | exact this | (rw [Nat.mul_one] at this; exact this)) (by have := HJ.out.nb'; have := HNF.out; omega) rfl).mono ?_
            rintro r w4 hp
            obtain rfl := hp.1
            obtain ⟨vs, hI⟩ := HJ.out.next (by first | exact hp | (rw [Nat.mul_one]; exact hp)) (flat_st noT varV) rfl rfl rfl HG.out
            have HI2 := Lib.hid hI
            clear hp hI
            have hk9 := HI.out.k0
            go_wp2_with fail
            go_roundw
            case rel => exact ⟨k + 1, _, _, _, _, _, by go_num, HI2.out⟩
            case measure => simp [intOf]; omega
        · have t1 : decide (ek ≠ 0) = true := decide_eq_true he
          have HE := Lib.hid he
          clear he
          go_wp2_with fail
          refine (wrong_calls wr F ek c2).mono ?_
          rintro r w' ⟨rfl, rfl⟩
          rw [t1]
          clear t1
          go_wp2_with fail
          refine bodyPost_end (v := .tuple #[]) (results_none rfl _ _ _) rfl ?_
          exact HI.out.done (.inr HE.out) HOl.out
      · have u1 : decide ((k : Int) < z) = false := decide_eq_false (by have := HI.out.kN; omega)
        have u2 : ¬ ((k : Int) < z) := by have := HI.out.kN; omega
        go_wp2_with fail
        refine bodyPost_end (v := .tuple #[]) (results_none rfl _ _ _) rfl ?_
        exact HI.out.done (.inl (by omega)) HOl.out
theorem info_z_cell : (Try.prog.info? 143).map (fun i => (i.zero, i.size, i.bytes)) = some (some (.agg #[.string ⟨#[]⟩, .string ⟨#[]⟩]), 2, 32) := by kernel_rfl
theorem cell_sl_cell (g off : Nat) (v : Value) (w : World) (h : w.cell? ⟨g, off, none⟩ = some v) : (Instr.loadAt 94 (.pointer (some ⟨g, off, none⟩))).run Try.prog w = .ok v w := load_sl_cell h
theorem load_z_cell {w : World} {b : Nat} (h : w.heap[b]? = some (.cells #[.string ⟨#[]⟩, .string ⟨#[]⟩] 143)) : (Instr.loadAt 143 (.pointer (some ⟨b, 0, none⟩))).run Try.prog w = .ok (.agg #[.string ⟨#[]⟩, .string ⟨#[]⟩]) w := by
  have c0 : w.cell? ⟨b, 0, none⟩ = some (.string ⟨#[]⟩) := by simp [World.cell?, h]
  have c1 : w.cell? ⟨b, 1, none⟩ = some (.string ⟨#[]⟩) := by simp [World.cell?, h]
  clear h
  go_simp
set_option maxHeartbeats 4000000 in
theorem row_cell_rk (W : World) (F q : Nat) (l : Nm) (e : Int) (g off : Nat) (cur : List Value) (t : TypeId) (h : RkI F q l e W) (hc : Cut g cur t W) (h0 : Zer cur off [.slice none 0 0]) (hg : F < g) (ht : (noT) t = false) :
    Calls Try.prog 63 #[.pointer (some ⟨F, 0, none⟩), .pointer (some ⟨g, off, none⟩), .func (.func 64) #[] #[]] W
      (RkPostH F q g off cur 1 t (RowH 2 143 (flatH varV)) ((rowC varC).dec l e).1 ((rowC varC).dec l e).2.1 ((rowC varC).dec l e).2.2 W) := by
  obtain ⟨i0, hi0, hz0, hz1, hz2⟩ := info_parts info_z_cell
  have hzc : cur[off]? = some (.slice none 0 0) := h0 0 Nat.zero_lt_one
  have HOl : Hid (off < cur.length) := (List.getElem?_eq_some_iff.1 hzc).1
  have x0 : W.cell? ⟨g, off, none⟩ = some (.slice none 0 0) := (hc.cell off).trans hzc
  have HR := Lib.hid h
  have HC := Lib.hid hc
  have HG := Lib.hid hg
  have HT := Lib.hid ht
  have HZc := Lib.hid hzc
  clear h hc h0 hg ht hzc
  go_enter Try.func63, Try.ntmps63
  go_upto_region 1 with fail
  clear x0
  obtain ⟨nb, w2, hw2, hnbe, hk4, hbb⟩ : ∃ nb w2, W.alloc (.cells #[.int .i64 0] 3) = w2 ∧ W.heap.size = nb ∧ w2.heap[nb]? = some (.cells #[.int .i64 0] 3) ∧ Below W.heap.size W w2 :=
    ⟨_, _, rfl, rfl, heap_alloc_new W _, (Below.refl W.heap.size W).alloc (Nat.le_refl _) _⟩
  have HBb := Lib.hid hbb
  have HK4 : Hid (Cut nb [.int .i64 0] 3 w2) := hk4
  have HR2 := Lib.hid (HR.out.below hbb)
  have HNb := Lib.hid hnbe
  have HNF : Hid (F < nb) := by have := HR.out.F_lt; show _ < _; omega
  rw [hw2, hnbe]
  clear hbb hk4 hw2 hnbe
  go_wp2_with fail
  refine (rk_int_calls w2 F q l e nb 0 [.int .i64 0] 3 HR2.out HK4.out rfl HNF.out).mono ?_
  rintro r w3 ⟨rfl, hr, hcu, hu⟩
  have hkd : Cut nb [.int .i64 (numC.dec l e).1] 3 w3 := hcu
  have HD : Hid ((rowC varC).dec l e = rowsN varC (numC.dec l e).1.toNat (numC.dec l e).2.1 (mustE (mostN (numC.dec l e).1) (numC.dec l e).2.2 11)) := rfl
  clear hcu
  generalize (numC.dec l e).1 = z at *
  generalize (numC.dec l e).2.1 = l1 at *
  generalize (numC.dec l e).2.2 = e1 at *
  have HR3 := Lib.hid hr
  have HK5 : Hid (w3.heap[nb]? = some (.cells #[.int .i64 z] 3)) := hkd
  have hgw := HC.out.lt
  have HC3 : Hid (Cut g cur t w3) := (hu.block g (Nat.lt_of_lt_of_le hgw HBb.out.size) (by have := HG.out; omega) (by have := HG.out; have := HR.out.lt; omega) (by have := HNb.out; omega)).trans ((HBb.out.block g hgw).trans HC.out)
  have HU3 : Hid (RUp F q g W w3) := ⟨hu.os.trans HBb.out.os, hu.tape.trans HBb.out.tape, hu.output.trans HBb.out.output, Nat.le_trans HBb.out.size hu.size, fun j hj a b _ => (hu.block j (Nat.lt_of_lt_of_le hj HBb.out.size) a b (by have := HNb.out; omega)).trans (HBb.out.block j hj)⟩
  clear hr hkd hu hgw
  obtain ⟨⟨c0, c1, c2⟩, f0, f1, f2⟩ := three HR3.out.k
  go_upto_region 3 with fail
  clear c0 c1 c2 f0 f1 f2
  go_cut [27] from 20 to 27 (fun s27 wx => RkI F q l1 (mustE (mostN z) e1 11) wx ∧ Cut g cur t wx ∧ wx.heap[nb]? = some (.cells #[.int .i64 z] 3) ∧ RUp F q g W wx)
  case first =>
    obtain ⟨⟨c0, c1, c2⟩, f0, f1, f2⟩ := three HR3.out.k
    obtain ⟨y0, y1⟩ := one_cell HK5.out
    by_cases n0 : 0 ≤ z
    · by_cases n1 : z ≤ 100000
      · have u0 : decide (0 ≤ z) = true := decide_eq_true n0
        have u1 : decide (z ≤ 100000) = true := decide_eq_true n1
        have HM : Hid (mostN z = true) := by show mostN z = true; unfold mostN; rw [u0, u1]; rfl
        go_wp2_with fail
        refine (must_calls w3 F q l1 e1 true 11 HR3.out).mono ?_
        rintro r w4 ⟨rfl, hr4, hu4, hn4⟩
        rw [← HM.out] at hr4
        have HR4 := Lib.hid hr4
        have HC4 : Hid (Cut g cur t w4) := (hn4 g (by have := HG.out; omega)).trans HC3.out
        have HK6 := Lib.hid ((hn4 nb (by have := HNF.out; omega)).trans HK5.out)
        have HU4 := Lib.hid (HU3.out.trans (hu4 g))
        clear c0 c1 c2 f0 f1 f2 y0 y1 hr4 hu4 hn4 n0 n1 u0 u1
        go_wp2_with fail
        go_meet
        exact ⟨HR4.out, HC4.out, HK6.out, HU4.out⟩
      · have u0 : decide (0 ≤ z) = true := decide_eq_true n0
        have u1 : decide (z ≤ 100000) = false := decide_eq_false n1
        have HM : Hid (mostN z = false) := by show mostN z = false; unfold mostN; rw [u0, u1]; rfl
        go_wp2_with fail
        refine (must_calls w3 F q l1 e1 false 11 HR3.out).mono ?_
        rintro r w4 ⟨rfl, hr4, hu4, hn4⟩
        rw [← HM.out] at hr4
        have HR4 := Lib.hid hr4
        have HC4 : Hid (Cut g cur t w4) := (hn4 g (by have := HG.out; omega)).trans HC3.out
        have HK6 := Lib.hid ((hn4 nb (by have := HNF.out; omega)).trans HK5.out)
        have HU4 := Lib.hid (HU3.out.trans (hu4 g))
        clear c0 c1 c2 f0 f1 f2 y0 y1 hr4 hu4 hn4 n0 n1 u0 u1
        go_wp2_with fail
        go_meet
        exact ⟨HR4.out, HC4.out, HK6.out, HU4.out⟩
    · have u0 : decide (0 ≤ z) = false := decide_eq_false n0
      have HM : Hid (mostN z = false) := by show mostN z = false; unfold mostN; rw [u0]; rfl
      go_wp2_with fail
      refine (must_calls w3 F q l1 e1 false 11 HR3.out).mono ?_
      rintro r w4 ⟨rfl, hr4, hu4, hn4⟩
      rw [← HM.out] at hr4
      have HR4 := Lib.hid hr4
      have HC4 : Hid (Cut g cur t w4) := (hn4 g (by have := HG.out; omega)).trans HC3.out
      have HK6 := Lib.hid ((hn4 nb (by have := HNF.out; omega)).trans HK5.out)
      have HU4 := Lib.hid (HU3.out.trans (hu4 g))
      clear c0 c1 c2 f0 f1 f2 y0 y1 hr4 hu4 hn4 n0 u0
      go_wp2_with fail
      go_meet
      exact ⟨HR4.out, HC4.out, HK6.out, HU4.out⟩
  case rest =>
    obtain ⟨hr4, hc4, hk6, hu4⟩ := hcut
    have HBig : Hid (mustE (mostN z) e1 11 = 0 → z.toNat ≤ 100000) := by
      intro hm
      rcases hq : mostN z with _ | _
      · rw [hq] at hm
        by_cases he : e1 = 0
        · rw [he, mustE_no] at hm; exact absurd hm (by decide)
        · rw [mustE_stop he] at hm; exact absurd hm he
      · unfold mostN at hq
        rw [Bool.and_eq_true, decide_eq_true_eq, decide_eq_true_eq] at hq
        omega
    generalize mustE (mostN z) e1 11 = e2 at *
    have HI0 : Hid (RowI varC (flatH varV) 2 143 W F q g off cur t nb z l e 0 (.slice none 0 0) [] [] l1 e2 wc) := by
      have e9 : cur.set off (.slice none 0 0) = cur := by
        obtain ⟨h1, h2⟩ := List.getElem?_eq_some_iff.1 HZc.out
        rw [← h2]
        exact List.set_getElem_self h1
      exact ⟨Nat.zero_le _, Nat.zero_le _, HBig.out, HD.out, rfl, hr4, by rw [e9]; exact hc4, World.ownsRow_nil _ _ _ _, each_nil _ _ _, hk6, by have := HNb.out; omega, hu4⟩
    have HX0 := Lib.hid ((hc4.cell off).trans HZc.out)
    have x0 := HX0.out
    have x1 := hc4.frozen off
    clear hr4 hc4 hk6 hu4
    go_upto_region 5 with fail
    clear x0 x1
    rw [set_same HX0.out]
    go_wp2_with fail
    go_loopw [7, 8] (fun v7 v8 wr => ∃ (k : Nat) (u : Value) (xs : List Value) (zs : List VarD) (lk : Nm) (ek : Int), v7 = .int .i64 k ∧ RowI varC (flatH varV) 2 143 W F q g off cur t nb z l e k u xs zs lk ek wr) (fun v7 _ _ => z.toNat - (intOf v7).toNat)
    case atStart => exact ⟨0, _, _, _, _, _, rfl, HI0.out⟩
    case round =>
      obtain ⟨k, u, xs, zs, lk, ek, rfl, hI⟩ := hrel
      have HI := Lib.hid hI
      obtain ⟨⟨c0, c1, c2⟩, f0, f1, f2⟩ := three hI.rk.k
      obtain ⟨y0, y1⟩ := one_cell hI.nbk
      clear hI
      by_cases hlt : k < z.toNat
      · have u1 : decide ((k : Int) < z) = true := decide_eq_true (by omega)
        have u2 : (k : Int) < z := by omega
        by_cases he : ek = 0
        · subst he
          have HB := Lib.hid (HI.out.big rfl)
          have x0 : wr.cell? ⟨g, off, none⟩ = some u := (HI.out.cut.cell off).trans (by rw [List.getElem?_set_self HOl.out])
          have HX0 := Lib.hid x0
          go_wp2_with fail
          refine (wrong_calls wr F 0 c2).mono ?_
          rintro r w' ⟨rfl, rfl⟩
          rw [show decide ((0 : Int) ≠ 0) = false from rfl]
          clear u1 u2
          go_upto_region 10 with fail
          obtain ⟨xb, wx, hwx, hxbe, hxk, hxx⟩ : ∃ xb wx, wr.alloc (.cells #[.string ⟨#[]⟩, .string ⟨#[]⟩] 143) = wx ∧ wr.heap.size = xb ∧ wx.heap[xb]? = some (.cells #[.string ⟨#[]⟩, .string ⟨#[]⟩] 143) ∧ Below wr.heap.size wr wx :=
            ⟨_, _, rfl, rfl, heap_alloc_new wr _, (Below.refl wr.heap.size wr).alloc (Nat.le_refl _) _⟩
          have HXK := Lib.hid hxk
          have HXX := Lib.hid hxx
          have HXl : Hid (xb < wx.heap.size) := (Array.getElem?_eq_some_iff.1 hxk).1
          have HXg : Hid (g < wr.heap.size) := Nat.lt_of_lt_of_le HC.out.lt HI.out.up.size
          have K0 : Hid (wx.cell? ⟨g, off, none⟩ = some u) := (hxx.cell (p := ⟨g, off, none⟩) HXg.out).trans HX0.out
          have HOw : Hid (World.ownsRow wx (nb + 1) 143 2 u k xs) := ownsRow_below HI.out.own hxx
          have HNs : Hid (nb + 1 ≤ wx.heap.size) := Nat.le_trans HI.out.nlt hxx.size
          rw [hwx, hxbe]
          clear hwx hxbe hxk hxx c0 c1 c2 f0 f1 f2 y0 y1 x0
          refine Rt.wp_region_rkt 7 [] [Rg.Is (.pointer (some ⟨g, off, none⟩)), Rg.Is (.pointer (some ⟨g, off, none⟩)), Rg.Is (.pointer (some ⟨g, off, none⟩)), Rg.Is (u), Rg.Is (.agg #[.string ⟨#[]⟩, .string ⟨#[]⟩]), (fun u' x => ∃ b, u' = .slice (some ⟨b, 0, none⟩) 1 1 ∧ wx.heap.size ≤ b ∧ x.heap[b]? = some (.cells #[.string ⟨#[]⟩, .string ⟨#[]⟩] 143)), (fun u' x => Apd wx u (nb + 1) 143 2 k xs [.string ⟨#[]⟩, .string ⟨#[]⟩] u' x)] (fun _ _ => True) (fun ls x => ls 6 = false → Below wx.heap.size wx x) (fun k x y => if k = 6 then x.grownBy y (Value.ownBlock (u)) else Below x.heap.size x y) (by kernel_rfl) (by kernel_rfl) (of_decide_eq_true (by kernel_rfl)) (by kernel_rfl) (by kernel_rfl) trivial (fun _ => ⟨rfl, rfl, rfl, Nat.le_refl _, fun _ _ => rfl⟩) (fun ls ls' x e h1 h2 => h1 (by rw [e]; exact h2)) (fun _ _ _ _ _ => trivial) (fun i ls x _ h1 => by rw [show ([] : List Bool).getD i true = true from rfl] at h1; cases h1) ?_ ⟨rfl, rfl, rfl, rfl, rfl, rfl, rfl, trivial⟩ ⟨?_, ?_, ?_, ?_, ?_, ?_, ?_, trivial⟩ ?_
          · intro i k u x y hik _ h1 hK
            match i, h1, hik with
            | 0, h1, _ => exact h1
            | 1, h1, _ => exact h1
            | 2, h1, _ => exact h1
            | 3, h1, _ => exact h1
            | 4, h1, _ => exact h1
            | 5, h1, hik =>
              obtain ⟨b1, h2, h3, h4⟩ := h1
              refine ⟨b1, h2, h3, ?_⟩
              have hg1 := (Array.getElem?_eq_some_iff.1 h4).1
              by_cases hk6 : k = 6
              · subst hk6
                rw [if_pos rfl] at hK
                exact (hK.block b1 hg1 (fun e => by have := (HOw.out.lt _ e.symm).2; omega)).trans h4
              · rw [if_neg hk6] at hK
                exact (hK.block b1 hg1).trans h4
            | 6, h1, hik =>
              rw [if_neg (fun e => hik e.symm)] at hK
              exact h1.below hK
            | _ + 7, _, _ => trivial
          · intro _ b x ls hR hS hself hup hdn hk
            have h1 : b.eval (.tmp 1) = .pointer (some ⟨g, off, none⟩) := Eq.mp (by kernel_rfl) (hk 1 (by decide))
            exact Rg.does_move ⟨by rw [if_neg (by decide)]; exact Below.refl _ _, h1, fun hh => hS hh⟩
          · intro _ b x ls hR hS hself hup hdn hk
            have h1 : b.eval (.tmp 1) = .pointer (some ⟨g, off, none⟩) := Eq.mp (by kernel_rfl) (hk 1 (by decide))
            have lA : ls 6 = false := hdn [3, 2] 6 _ rfl (by kernel_rfl)
            have hb := hS lA
            exact Rg.does_move ⟨by rw [if_neg (by decide)]; exact Below.refl _ _, h1, fun hh => hS hh⟩
          · intro _ b x ls hR hS hself hup hdn hk
            have h46 : b.eval (.tmp 46) = .pointer (some ⟨g, off, none⟩) := Eq.mp (by kernel_rfl) (hk 46 (by decide))
            have lA : ls 6 = false := hdn [3] 6 _ rfl (by kernel_rfl)
            have hb := hS lA
            exact Ap.does_nil _ h46 ⟨by rw [if_neg (by decide)]; exact Below.refl _ _, rfl, fun hh => hS hh⟩
          · intro _ b x ls hR hS hself hup hdn hk
            have h47 : b.eval (.tmp 47) = .pointer (some ⟨g, off, none⟩) := Eq.mp (by kernel_rfl) (hk 47 (by decide))
            have lA : ls 6 = false := hdn [] 6 _ rfl (by kernel_rfl)
            have hb := hS lA
            exact Rg.does_load _ _ h47 (load_sl_cell (cell_below hb (Nat.le_refl _) K0.out)) ⟨by rw [if_neg (by decide)]; exact Below.refl _ _, rfl, fun hh => hS hh⟩
          · intro _ b x ls hR hS hself hup hdn hk
            have h8 : b.eval (.tmp 8) = .pointer (some ⟨xb, 0, none⟩) := Eq.mp (by kernel_rfl) (hk 8 (by decide))
            have lA : ls 6 = false := hdn [5] 6 _ rfl (by kernel_rfl)
            have hb := hS lA
            exact Rg.does_load _ _ h8 (load_z_cell ((hb.block xb HXl.out).trans HXK.out)) ⟨by rw [if_neg (by decide)]; exact Below.refl _ _, rfl, fun hh => hS hh⟩
          · intro _ b x ls hR hS hself hup hdn hk
            have h49 : b.eval (.tmp 49) = .agg #[.string ⟨#[]⟩, .string ⟨#[]⟩] := Eq.mp (by kernel_rfl) (hk 49 (by decide))
            have lA : ls 6 = false := hdn [] 6 _ rfl (by kernel_rfl)
            have hb := hS lA
            have hal := (Below.refl x.heap.size x).alloc (Nat.le_refl _) (.cells #[.string ⟨#[]⟩, .string ⟨#[]⟩] 143)
            exact Rg.does_build #[(0, .agg #[.string ⟨#[]⟩, .string ⟨#[]⟩])] _ (by simp [h49]) (by go_simp) ⟨by rw [if_neg (by decide)]; exact hal, ⟨x.heap.size, rfl, hb.size, heap_alloc_new x _⟩, fun hh => hb.trans (hal.mono hb.size)⟩
          · intro _ b x ls hR hS hself hup hdn hk
            have h48 : b.eval (.tmp 48) = u := Eq.mp (by kernel_rfl) (hk 48 (by decide))
            have h50 : (fun u' x => ∃ b, u' = .slice (some ⟨b, 0, none⟩) 1 1 ∧ wx.heap.size ≤ b ∧ x.heap[b]? = some (.cells #[.string ⟨#[]⟩, .string ⟨#[]⟩] 143)) (b.eval (.tmp 50)) x := Eq.mp (by kernel_rfl) (hk 50 (by decide))
            have hb := hS hself
            obtain ⟨b1, h2, h3, h4⟩ := h50
            have hown : World.ownsRow x (nb + 1) 143 2 u k xs := ownsRow_below HOw.out hb
            obtain ⟨v', w', hrun, hown', hgr, hat⟩ := Ap.run_append_at (P := Try.prog) x (nb + 1) 94 94 94 143 i0 _ 2 32 Try.underlying94 (append_side Try.underlying94) hi0 hz0 hz1 hz2 rfl (by decide) (by decide) u k xs hown (.slice (some ⟨b1, 0, none⟩) 1 1) 1 [.string ⟨#[]⟩, .string ⟨#[]⟩] (src_cells (b := b1) (off := 0) rfl (by simp [Value.oneCell']) (.inr rfl) (fun j u1 hu1 => by simp only [World.cell?, h4, Nat.zero_add]; simpa using hu1)) (by have := HB.out; unfold maxLen; omega) (by have := HB.out; omega) (Nat.le_trans HNs.out hb.size)
            exact Ap.does_append u _ v' w' h48 h2 hrun ⟨by rw [if_pos rfl]; exact hgr, ⟨hown', x, hb, hgr, hat⟩, fun hh => by simp [Rs.upd] at hh⟩
          · intro vals wD ls _ hSD _ hL
            obtain ⟨g0, g1, g2, g3, g4, g5, g6, _⟩ := hL
            have hap : Apd wx u (nb + 1) 143 2 k xs [.string ⟨#[]⟩, .string ⟨#[]⟩] (vals 6) wD := g6
            have q0 := g0; have q1 := g1
            simp only [Rg.putAll, List.take_succ_cons, List.take_zero, List.drop_succ_cons, List.drop_zero, List.setIfInBounds_toArray, List.set_cons_succ, List.set_cons_zero]
            rw [show vals 0 = .pointer (some ⟨g, off, none⟩) from g0]
            clear g0 g1 g2 g3 g4 g5 g6 q0 q1
            generalize vals 6 = u' at *
            generalize wD = w2 at *
            have HX2 : Hid (w2.heap[g]? = wr.heap[g]?) := HI.out.low HXX.out hap g (by have := HI.out.nlo; have := HC.out.lt; omega)
            obtain ⟨b, cap, curb, rfl, hJ⟩ := HI.out.push HXX.out hap hlt (flat_st noT varV) HT.out rfl HC.out.lt HG.out
            clear hap
            have HJ := Lib.hid hJ
            have x2 : w2.cell? ⟨g, off, none⟩ = some u := by rw [World.cell?_of_block HX2.out]; exact HX0.out
            have x3 : w2.frozen? ⟨g, off, none⟩ = false := by have h9 : Cut g (cur.set off u) t w2 := HX2.out.trans HI.out.cut; exact h9.frozen off
            clear hJ
            go_upto_region 11 with fail
            clear x2 x3 HX2
            generalize w2.setCell ⟨g, off, none⟩ (.slice (some ⟨b, 0, none⟩) (k + 1) cap) = w3' at *
            have x4 : w3'.cell? ⟨g, off, none⟩ = some (.slice (some ⟨b, 0, none⟩) (k + 1) cap) := (HJ.out.cut.cell off).trans (by rw [List.getElem?_set_self HOl.out])
            have hx := fun W => row_idx Try.underlying94 2 info_el_cell b 0 (k + 1) cap k (Nat.lt_succ_self k) W
            go_wp2_with fail
            clear hx x4
            have HZ3 := Lib.hid (zero_at HJ.out rfl)
            refine ((cell_rk.h (fun _ => rfl)) w3' F q lk 0 b (k * 2) curb 143 HJ.out.rk HJ.out.gb (by have := HZ3.out; first | exact this | (rw [Nat.mul_one] at this; exact this)) (by have := HJ.out.nb'; have := HNF.out; omega) rfl).mono ?_
            rintro r w4 hp
            obtain rfl := hp.1
            obtain ⟨vs, hI⟩ := HJ.out.next (by first | exact hp | (rw [Nat.mul_one]; exact hp)) (flat_st noT varV) rfl rfl rfl HG.out
            have HI2 := Lib.hid hI
            clear hp hI
            have hk9 := HI.out.k0
            go_wp2_with fail
            go_roundw
            case rel => exact ⟨k + 1, _, _, _, _, _, by go_num, HI2.out⟩
            case measure => simp [intOf]; omega
        · have t1 : decide (ek ≠ 0) = true := decide_eq_true he
          have HE := Lib.hid he
          clear he
          go_wp2_with fail
          refine (wrong_calls wr F ek c2).mono ?_
          rintro r w' ⟨rfl, rfl⟩
          rw [t1]
          clear t1
          go_wp2_with fail
          refine bodyPost_end (v := .tuple #[]) (results_none rfl _ _ _) rfl ?_
          exact HI.out.done (.inr HE.out) HOl.out
      · have u1 : decide ((k : Int) < z) = false := decide_eq_false (by have := HI.out.kN; omega)
        have u2 : ¬ ((k : Int) < z) := by have := HI.out.kN; omega
        go_wp2_with fail
        refine bodyPost_end (v := .tuple #[]) (results_none rfl _ _ _) rfl ?_
        exact HI.out.done (.inl (by omega)) HOl.out
theorem info_z_fn : (Try.prog.info? 121).map (fun i => (i.zero, i.size, i.bytes)) = some (some (.agg #[.string ⟨#[]⟩, .int .i64 0, .int .i64 0]), 3, 32) := by kernel_rfl
theorem cell_sl_fn (g off : Nat) (v : Value) (w : World) (h : w.cell? ⟨g, off, none⟩ = some v) : (Instr.loadAt 30 (.pointer (some ⟨g, off, none⟩))).run Try.prog w = .ok v w := load_sl_fn h
theorem load_z_fn {w : World} {b : Nat} (h : w.heap[b]? = some (.cells #[.string ⟨#[]⟩, .int .i64 0, .int .i64 0] 121)) : (Instr.loadAt 121 (.pointer (some ⟨b, 0, none⟩))).run Try.prog w = .ok (.agg #[.string ⟨#[]⟩, .int .i64 0, .int .i64 0]) w := by
  have c0 : w.cell? ⟨b, 0, none⟩ = some (.string ⟨#[]⟩) := by simp [World.cell?, h]
  have c1 : w.cell? ⟨b, 1, none⟩ = some (.int .i64 0) := by simp [World.cell?, h]
  have c2 : w.cell? ⟨b, 2, none⟩ = some (.int .i64 0) := by simp [World.cell?, h]
  clear h
  go_simp
set_option maxHeartbeats 4000000 in
theorem row_fn_rk (W : World) (F q : Nat) (l : Nm) (e : Int) (g off : Nat) (cur : List Value) (t : TypeId) (h : RkI F q l e W) (hc : Cut g cur t W) (h0 : Zer cur off [.slice none 0 0]) (hg : F < g) (ht : (noT) t = false) :
    Calls Try.prog 54 #[.pointer (some ⟨F, 0, none⟩), .pointer (some ⟨g, off, none⟩), .func (.func 55) #[] #[]] W
      (RkPostH F q g off cur 1 t (RowH 3 121 (flatH fnV)) ((rowC fnC).dec l e).1 ((rowC fnC).dec l e).2.1 ((rowC fnC).dec l e).2.2 W) := by
  obtain ⟨i0, hi0, hz0, hz1, hz2⟩ := info_parts info_z_fn
  have hzc : cur[off]? = some (.slice none 0 0) := h0 0 Nat.zero_lt_one
  have HOl : Hid (off < cur.length) := (List.getElem?_eq_some_iff.1 hzc).1
  have x0 : W.cell? ⟨g, off, none⟩ = some (.slice none 0 0) := (hc.cell off).trans hzc
  have HR := Lib.hid h
  have HC := Lib.hid hc
  have HG := Lib.hid hg
  have HT := Lib.hid ht
  have HZc := Lib.hid hzc
  clear h hc h0 hg ht hzc
  go_enter Try.func54, Try.ntmps54
  go_upto_region 1 with fail
  clear x0
  obtain ⟨nb, w2, hw2, hnbe, hk4, hbb⟩ : ∃ nb w2, W.alloc (.cells #[.int .i64 0] 3) = w2 ∧ W.heap.size = nb ∧ w2.heap[nb]? = some (.cells #[.int .i64 0] 3) ∧ Below W.heap.size W w2 :=
    ⟨_, _, rfl, rfl, heap_alloc_new W _, (Below.refl W.heap.size W).alloc (Nat.le_refl _) _⟩
  have HBb := Lib.hid hbb
  have HK4 : Hid (Cut nb [.int .i64 0] 3 w2) := hk4
  have HR2 := Lib.hid (HR.out.below hbb)
  have HNb := Lib.hid hnbe
  have HNF : Hid (F < nb) := by have := HR.out.F_lt; show _ < _; omega
  rw [hw2, hnbe]
  clear hbb hk4 hw2 hnbe
  go_wp2_with fail
  refine (rk_int_calls w2 F q l e nb 0 [.int .i64 0] 3 HR2.out HK4.out rfl HNF.out).mono ?_
  rintro r w3 ⟨rfl, hr, hcu, hu⟩
  have hkd : Cut nb [.int .i64 (numC.dec l e).1] 3 w3 := hcu
  have HD : Hid ((rowC fnC).dec l e = rowsN fnC (numC.dec l e).1.toNat (numC.dec l e).2.1 (mustE (mostN (numC.dec l e).1) (numC.dec l e).2.2 11)) := rfl
  clear hcu
  generalize (numC.dec l e).1 = z at *
  generalize (numC.dec l e).2.1 = l1 at *
  generalize (numC.dec l e).2.2 = e1 at *
  have HR3 := Lib.hid hr
  have HK5 : Hid (w3.heap[nb]? = some (.cells #[.int .i64 z] 3)) := hkd
  have hgw := HC.out.lt
  have HC3 : Hid (Cut g cur t w3) := (hu.block g (Nat.lt_of_lt_of_le hgw HBb.out.size) (by have := HG.out; omega) (by have := HG.out; have := HR.out.lt; omega) (by have := HNb.out; omega)).trans ((HBb.out.block g hgw).trans HC.out)
  have HU3 : Hid (RUp F q g W w3) := ⟨hu.os.trans HBb.out.os, hu.tape.trans HBb.out.tape, hu.output.trans HBb.out.output, Nat.le_trans HBb.out.size hu.size, fun j hj a b _ => (hu.block j (Nat.lt_of_lt_of_le hj HBb.out.size) a b (by have := HNb.out; omega)).trans (HBb.out.block j hj)⟩
  clear hr hkd hu hgw
  obtain ⟨⟨c0, c1, c2⟩, f0, f1, f2⟩ := three HR3.out.k
  go_upto_region 3 with fail
  clear c0 c1 c2 f0 f1 f2
  go_cut [27] from 20 to 27 (fun s27 wx => RkI F q l1 (mustE (mostN z) e1 11) wx ∧ Cut g cur t wx ∧ wx.heap[nb]? = some (.cells #[.int .i64 z] 3) ∧ RUp F q g W wx)
  case first =>
    obtain ⟨⟨c0, c1, c2⟩, f0, f1, f2⟩ := three HR3.out.k
    obtain ⟨y0, y1⟩ := one_cell HK5.out
    by_cases n0 : 0 ≤ z
    · by_cases n1 : z ≤ 100000
      · have u0 : decide (0 ≤ z) = true := decide_eq_true n0
        have u1 : decide (z ≤ 100000) = true := decide_eq_true n1
        have HM : Hid (mostN z = true) := by show mostN z = true; unfold mostN; rw [u0, u1]; rfl
        go_wp2_with fail
        refine (must_calls w3 F q l1 e1 true 11 HR3.out).mono ?_
        rintro r w4 ⟨rfl, hr4, hu4, hn4⟩
        rw [← HM.out] at hr4
        have HR4 := Lib.hid hr4
        have HC4 : Hid (Cut g cur t w4) := (hn4 g (by have := HG.out; omega)).trans HC3.out
        have HK6 := Lib.hid ((hn4 nb (by have := HNF.out; omega)).trans HK5.out)
        have HU4 := Lib.hid (HU3.out.trans (hu4 g))
        clear c0 c1 c2 f0 f1 f2 y0 y1 hr4 hu4 hn4 n0 n1 u0 u1
        go_wp2_with fail
        go_meet
        exact ⟨HR4.out, HC4.out, HK6.out, HU4.out⟩
      · have u0 : decide (0 ≤ z) = true := decide_eq_true n0
        have u1 : decide (z ≤ 100000) = false := decide_eq_false n1
        have HM : Hid (mostN z = false) := by show mostN z = false; unfold mostN; rw [u0, u1]; rfl
        go_wp2_with fail
        refine (must_calls w3 F q l1 e1 false 11 HR3.out).mono ?_
        rintro r w4 ⟨rfl, hr4, hu4, hn4⟩
        rw [← HM.out] at hr4
        have HR4 := Lib.hid hr4
        have HC4 : Hid (Cut g cur t w4) := (hn4 g (by have := HG.out; omega)).trans HC3.out
        have HK6 := Lib.hid ((hn4 nb (by have := HNF.out; omega)).trans HK5.out)
        have HU4 := Lib.hid (HU3.out.trans (hu4 g))
        clear c0 c1 c2 f0 f1 f2 y0 y1 hr4 hu4 hn4 n0 n1 u0 u1
        go_wp2_with fail
        go_meet
        exact ⟨HR4.out, HC4.out, HK6.out, HU4.out⟩
    · have u0 : decide (0 ≤ z) = false := decide_eq_false n0
      have HM : Hid (mostN z = false) := by show mostN z = false; unfold mostN; rw [u0]; rfl
      go_wp2_with fail
      refine (must_calls w3 F q l1 e1 false 11 HR3.out).mono ?_
      rintro r w4 ⟨rfl, hr4, hu4, hn4⟩
      rw [← HM.out] at hr4
      have HR4 := Lib.hid hr4
      have HC4 : Hid (Cut g cur t w4) := (hn4 g (by have := HG.out; omega)).trans HC3.out
      have HK6 := Lib.hid ((hn4 nb (by have := HNF.out; omega)).trans HK5.out)
      have HU4 := Lib.hid (HU3.out.trans (hu4 g))
      clear c0 c1 c2 f0 f1 f2 y0 y1 hr4 hu4 hn4 n0 u0
      go_wp2_with fail
      go_meet
      exact ⟨HR4.out, HC4.out, HK6.out, HU4.out⟩
  case rest =>
    obtain ⟨hr4, hc4, hk6, hu4⟩ := hcut
    have HBig : Hid (mustE (mostN z) e1 11 = 0 → z.toNat ≤ 100000) := by
      intro hm
      rcases hq : mostN z with _ | _
      · rw [hq] at hm
        by_cases he : e1 = 0
        · rw [he, mustE_no] at hm; exact absurd hm (by decide)
        · rw [mustE_stop he] at hm; exact absurd hm he
      · unfold mostN at hq
        rw [Bool.and_eq_true, decide_eq_true_eq, decide_eq_true_eq] at hq
        omega
    generalize mustE (mostN z) e1 11 = e2 at *
    have HI0 : Hid (RowI fnC (flatH fnV) 3 121 W F q g off cur t nb z l e 0 (.slice none 0 0) [] [] l1 e2 wc) := by
      have e9 : cur.set off (.slice none 0 0) = cur := by
        obtain ⟨h1, h2⟩ := List.getElem?_eq_some_iff.1 HZc.out
        rw [← h2]
        exact List.set_getElem_self h1
      exact ⟨Nat.zero_le _, Nat.zero_le _, HBig.out, HD.out, rfl, hr4, by rw [e9]; exact hc4, World.ownsRow_nil _ _ _ _, each_nil _ _ _, hk6, by have := HNb.out; omega, hu4⟩
    have HX0 := Lib.hid ((hc4.cell off).trans HZc.out)
    have x0 := HX0.out
    have x1 := hc4.frozen off
    clear hr4 hc4 hk6 hu4
    go_upto_region 5 with fail
    clear x0 x1
    rw [set_same HX0.out]
    go_wp2_with fail
    go_loopw [7, 8] (fun v7 v8 wr => ∃ (k : Nat) (u : Value) (xs : List Value) (zs : List FnD) (lk : Nm) (ek : Int), v7 = .int .i64 k ∧ RowI fnC (flatH fnV) 3 121 W F q g off cur t nb z l e k u xs zs lk ek wr) (fun v7 _ _ => z.toNat - (intOf v7).toNat)
    case atStart => exact ⟨0, _, _, _, _, _, rfl, HI0.out⟩
    case round =>
      obtain ⟨k, u, xs, zs, lk, ek, rfl, hI⟩ := hrel
      have HI := Lib.hid hI
      obtain ⟨⟨c0, c1, c2⟩, f0, f1, f2⟩ := three hI.rk.k
      obtain ⟨y0, y1⟩ := one_cell hI.nbk
      clear hI
      by_cases hlt : k < z.toNat
      · have u1 : decide ((k : Int) < z) = true := decide_eq_true (by omega)
        have u2 : (k : Int) < z := by omega
        by_cases he : ek = 0
        · subst he
          have HB := Lib.hid (HI.out.big rfl)
          have x0 : wr.cell? ⟨g, off, none⟩ = some u := (HI.out.cut.cell off).trans (by rw [List.getElem?_set_self HOl.out])
          have HX0 := Lib.hid x0
          go_wp2_with fail
          refine (wrong_calls wr F 0 c2).mono ?_
          rintro r w' ⟨rfl, rfl⟩
          rw [show decide ((0 : Int) ≠ 0) = false from rfl]
          clear u1 u2
          go_upto_region 10 with fail
          obtain ⟨xb, wx, hwx, hxbe, hxk, hxx⟩ : ∃ xb wx, wr.alloc (.cells #[.string ⟨#[]⟩, .int .i64 0, .int .i64 0] 121) = wx ∧ wr.heap.size = xb ∧ wx.heap[xb]? = some (.cells #[.string ⟨#[]⟩, .int .i64 0, .int .i64 0] 121) ∧ Below wr.heap.size wr wx :=
            ⟨_, _, rfl, rfl, heap_alloc_new wr _, (Below.refl wr.heap.size wr).alloc (Nat.le_refl _) _⟩
          have HXK := Lib.hid hxk
          have HXX := Lib.hid hxx
          have HXl : Hid (xb < wx.heap.size) := (Array.getElem?_eq_some_iff.1 hxk).1
          have HXg : Hid (g < wr.heap.size) := Nat.lt_of_lt_of_le HC.out.lt HI.out.up.size
          have K0 : Hid (wx.cell? ⟨g, off, none⟩ = some u) := (hxx.cell (p := ⟨g, off, none⟩) HXg.out).trans HX0.out
          have HOw : Hid (World.ownsRow wx (nb + 1) 121 3 u k xs) := ownsRow_below HI.out.own hxx
          have HNs : Hid (nb + 1 ≤ wx.heap.size) := Nat.le_trans HI.out.nlt hxx.size
          rw [hwx, hxbe]
          clear hwx hxbe hxk hxx c0 c1 c2 f0 f1 f2 y0 y1 x0
          refine Rt.wp_region_rkt 7 [] [Rg.Is (.pointer (some ⟨g, off, none⟩)), Rg.Is (.pointer (some ⟨g, off, none⟩)), Rg.Is (.pointer (some ⟨g, off, none⟩)), Rg.Is (u), Rg.Is (.agg #[.string ⟨#[]⟩, .int .i64 0, .int .i64 0]), (fun u' x => ∃ b, u' = .slice (some ⟨b, 0, none⟩) 1 1 ∧ wx.heap.size ≤ b ∧ x.heap[b]? = some (.cells #[.string ⟨#[]⟩, .int .i64 0, .int .i64 0] 121)), (fun u' x => Apd wx u (nb + 1) 121 3 k xs [.string ⟨#[]⟩, .int .i64 0, .int .i64 0] u' x)] (fun _ _ => True) (fun ls x => ls 6 = false → Below wx.heap.size wx x) (fun k x y => if k = 6 then x.grownBy y (Value.ownBlock (u)) else Below x.heap.size x y) (by kernel_rfl) (by kernel_rfl) (of_decide_eq_true (by kernel_rfl)) (by kernel_rfl) (by kernel_rfl) trivial (fun _ => ⟨rfl, rfl, rfl, Nat.le_refl _, fun _ _ => rfl⟩) (fun ls ls' x e h1 h2 => h1 (by rw [e]; exact h2)) (fun _ _ _ _ _ => trivial) (fun i ls x _ h1 => by rw [show ([] : List Bool).getD i true = true from rfl] at h1; cases h1) ?_ ⟨rfl, rfl, rfl, rfl, rfl, rfl, rfl, trivial⟩ ⟨?_, ?_, ?_, ?_, ?_, ?_, ?_, trivial⟩ ?_
          · intro i k u x y hik _ h1 hK
            match i, h1, hik with
            | 0, h1, _ => exact h1
            | 1, h1, _ => exact h1
            | 2, h1, _ => exact h1
            | 3, h1, _ => exact h1
            | 4, h1, _ => exact h1
            | 5, h1, hik =>
              obtain ⟨b1, h2, h3, h4⟩ := h1
              refine ⟨b1, h2, h3, ?_⟩
              have hg1 := (Array.getElem?_eq_some_iff.1 h4).1
              by_cases hk6 : k = 6
              · subst hk6
                rw [if_pos rfl] at hK
                exact (hK.block b1 hg1 (fun e => by have := (HOw.out.lt _ e.symm).2; omega)).trans h4
              · rw [if_neg hk6] at hK
                exact (hK.block b1 hg1).trans h4
            | 6, h1, hik =>
              rw [if_neg (fun e => hik e.symm)] at hK
              exact h1.below hK
            | _ + 7, _, _ => trivial
          · intro _ b x ls hR hS hself hup hdn hk
            have h1 : b.eval (.tmp 1) = .pointer (some ⟨g, off, none⟩) := Eq.mp (by kernel_rfl) (hk 1 (by decide))
            exact Rg.does_move ⟨by rw [if_neg (by decide)]; exact Below.refl _ _, h1, fun hh => hS hh⟩
          · intro _ b x ls hR hS hself hup hdn hk
            have h1 : b.eval (.tmp 1) = .pointer (some ⟨g, off, none⟩) := Eq.mp (by kernel_rfl) (hk 1 (by decide))
            have lA : ls 6 = false := hdn [3, 2] 6 _ rfl (by kernel_rfl)
            have hb := hS lA
            exact Rg.does_move ⟨by rw [if_neg (by decide)]; exact Below.refl _ _, h1, fun hh => hS hh⟩
          · intro _ b x ls hR hS hself hup hdn hk
            have h46 : b.eval (.tmp 46) = .pointer (some ⟨g, off, none⟩) := Eq.mp (by kernel_rfl) (hk 46 (by decide))
            have lA : ls 6 = false := hdn [3] 6 _ rfl (by kernel_rfl)
            have hb := hS lA
            exact Ap.does_nil _ h46 ⟨by rw [if_neg (by decide)]; exact Below.refl _ _, rfl, fun hh => hS hh⟩
          · intro _ b x ls hR hS hself hup hdn hk
            have h47 : b.eval (.tmp 47) = .pointer (some ⟨g, off, none⟩) := Eq.mp (by kernel_rfl) (hk 47 (by decide))
            have lA : ls 6 = false := hdn [] 6 _ rfl (by kernel_rfl)
            have hb := hS lA
            exact Rg.does_load _ _ h47 (load_sl_fn (cell_below hb (Nat.le_refl _) K0.out)) ⟨by rw [if_neg (by decide)]; exact Below.refl _ _, rfl, fun hh => hS hh⟩
          · intro _ b x ls hR hS hself hup hdn hk
            have h8 : b.eval (.tmp 8) = .pointer (some ⟨xb, 0, none⟩) := Eq.mp (by kernel_rfl) (hk 8 (by decide))
            have lA : ls 6 = false := hdn [5] 6 _ rfl (by kernel_rfl)
            have hb := hS lA
            exact Rg.does_load _ _ h8 (load_z_fn ((hb.block xb HXl.out).trans HXK.out)) ⟨by rw [if_neg (by decide)]; exact Below.refl _ _, rfl, fun hh => hS hh⟩
          · intro _ b x ls hR hS hself hup hdn hk
            have h49 : b.eval (.tmp 49) = .agg #[.string ⟨#[]⟩, .int .i64 0, .int .i64 0] := Eq.mp (by kernel_rfl) (hk 49 (by decide))
            have lA : ls 6 = false := hdn [] 6 _ rfl (by kernel_rfl)
            have hb := hS lA
            have hal := (Below.refl x.heap.size x).alloc (Nat.le_refl _) (.cells #[.string ⟨#[]⟩, .int .i64 0, .int .i64 0] 121)
            exact Rg.does_build #[(0, .agg #[.string ⟨#[]⟩, .int .i64 0, .int .i64 0])] _ (by simp [h49]) (by go_simp) ⟨by rw [if_neg (by decide)]; exact hal, ⟨x.heap.size, rfl, hb.size, heap_alloc_new x _⟩, fun hh => hb.trans (hal.mono hb.size)⟩
          · intro _ b x ls hR hS hself hup hdn hk
            have h48 : b.eval (.tmp 48) = u := Eq.mp (by kernel_rfl) (hk 48 (by decide))
            have h50 : (fun u' x => ∃ b, u' = .slice (some ⟨b, 0, none⟩) 1 1 ∧ wx.heap.size ≤ b ∧ x.heap[b]? = some (.cells #[.string ⟨#[]⟩, .int .i64 0, .int .i64 0] 121)) (b.eval (.tmp 50)) x := Eq.mp (by kernel_rfl) (hk 50 (by decide))
            have hb := hS hself
            obtain ⟨b1, h2, h3, h4⟩ := h50
            have hown : World.ownsRow x (nb + 1) 121 3 u k xs := ownsRow_below HOw.out hb
            obtain ⟨v', w', hrun, hown', hgr, hat⟩ := Ap.run_append_at (P := Try.prog) x (nb + 1) 30 30 30 121 i0 _ 3 32 Try.underlying30 (append_side Try.underlying30) hi0 hz0 hz1 hz2 rfl (by decide) (by decide) u k xs hown (.slice (some ⟨b1, 0, none⟩) 1 1) 1 [.string ⟨#[]⟩, .int .i64 0, .int .i64 0] (src_cells (b := b1) (off := 0) rfl (by simp [Value.oneCell']) (.inr rfl) (fun j u1 hu1 => by simp only [World.cell?, h4, Nat.zero_add]; simpa using hu1)) (by have := HB.out; unfold maxLen; omega) (by have := HB.out; omega) (Nat.le_trans HNs.out hb.size)
            exact Ap.does_append u _ v' w' h48 h2 hrun ⟨by rw [if_pos rfl]; exact hgr, ⟨hown', x, hb, hgr, hat⟩, fun hh => by simp [Rs.upd] at hh⟩
          · intro vals wD ls _ hSD _ hL
            obtain ⟨g0, g1, g2, g3, g4, g5, g6, _⟩ := hL
            have hap : Apd wx u (nb + 1) 121 3 k xs [.string ⟨#[]⟩, .int .i64 0, .int .i64 0] (vals 6) wD := g6
            have q0 := g0; have q1 := g1
            simp only [Rg.putAll, List.take_succ_cons, List.take_zero, List.drop_succ_cons, List.drop_zero, List.setIfInBounds_toArray, List.set_cons_succ, List.set_cons_zero]
            rw [show vals 0 = .pointer (some ⟨g, off, none⟩) from g0]
            clear g0 g1 g2 g3 g4 g5 g6 q0 q1
            generalize vals 6 = u' at *
            generalize wD = w2 at *
            have HX2 : Hid (w2.heap[g]? = wr.heap[g]?) := HI.out.low HXX.out hap g (by have := HI.out.nlo; have := HC.out.lt; omega)
            obtain ⟨b, cap, curb, rfl, hJ⟩ := HI.out.push HXX.out hap hlt (flat_st noT fnV) HT.out rfl HC.out.lt HG.out
            clear hap
            have HJ := Lib.hid hJ
            have x2 : w2.cell? ⟨g, off, none⟩ = some u := by rw [World.cell?_of_block HX2.out]; exact HX0.out
            have x3 : w2.frozen? ⟨g, off, none⟩ = false := by have h9 : Cut g (cur.set off u) t w2 := HX2.out.trans HI.out.cut; exact h9.frozen off
            clear hJ
            go_upto_region 11 with fail
            clear x2 x3 HX2
            generalize w2.setCell ⟨g, off, none⟩ (.slice (some ⟨b, 0, none⟩) (k + 1) cap) = w3' at *
            have x4 : w3'.cell? ⟨g, off, none⟩ = some (.slice (some ⟨b, 0, none⟩) (k + 1) cap) := (HJ.out.cut.cell off).trans (by rw [List.getElem?_set_self HOl.out])
            have hx := fun W => row_idx Try.underlying30 3 info_el_fn b 0 (k + 1) cap k (Nat.lt_succ_self k) W
            go_wp2_with fail
            clear hx x4
            have HZ3 := Lib.hid (zero_at HJ.out rfl)
            refine ((fn_rk.h (fun _ => rfl)) w3' F q lk 0 b (k * 3) curb 121 HJ.out.rk HJ.out.gb (by have := HZ3.out; first | exact this | (rw [Nat.mul_one] at this; exact this)) (by have := HJ.out.nb'; have := HNF.out; omega) rfl).mono ?_
            rintro r w4 hp
            obtain rfl := hp.1
            obtain ⟨vs, hI⟩ := HJ.out.next (by first | exact hp | (rw [Nat.mul_one]; exact hp)) (flat_st noT fnV) rfl rfl rfl HG.out
            have HI2 := Lib.hid hI
            clear hp hI
            have hk9 := HI.out.k0
            go_wp2_with fail
            go_roundw
            case rel => exact ⟨k + 1, _, _, _, _, _, by go_num, HI2.out⟩
            case measure => simp [intOf]; omega
        · have t1 : decide (ek ≠ 0) = true := decide_eq_true he
          have HE := Lib.hid he
          clear he
          go_wp2_with fail
          refine (wrong_calls wr F ek c2).mono ?_
          rintro r w' ⟨rfl, rfl⟩
          rw [t1]
          clear t1
          go_wp2_with fail
          refine bodyPost_end (v := .tuple #[]) (results_none rfl _ _ _) rfl ?_
          exact HI.out.done (.inr HE.out) HOl.out
      · have u1 : decide ((k : Int) < z) = false := decide_eq_false (by have := HI.out.kN; omega)
        have u2 : ¬ ((k : Int) < z) := by have := HI.out.kN; omega
        go_wp2_with fail
        refine bodyPost_end (v := .tuple #[]) (results_none rfl _ _ _) rfl ?_
        exact HI.out.done (.inl (by omega)) HOl.out
theorem info_z_trap : (Try.prog.info? 126).map (fun i => (i.zero, i.size, i.bytes)) = some (some (.agg #[.int .i64 0, .string ⟨#[]⟩]), 2, 24) := by kernel_rfl
theorem cell_sl_trap (g off : Nat) (v : Value) (w : World) (h : w.cell? ⟨g, off, none⟩ = some v) : (Instr.loadAt 31 (.pointer (some ⟨g, off, none⟩))).run Try.prog w = .ok v w := load_sl_trap h
theorem load_z_trap {w : World} {b : Nat} (h : w.heap[b]? = some (.cells #[.int .i64 0, .string ⟨#[]⟩] 126)) : (Instr.loadAt 126 (.pointer (some ⟨b, 0, none⟩))).run Try.prog w = .ok (.agg #[.int .i64 0, .string ⟨#[]⟩]) w := by
  have c0 : w.cell? ⟨b, 0, none⟩ = some (.int .i64 0) := by simp [World.cell?, h]
  have c1 : w.cell? ⟨b, 1, none⟩ = some (.string ⟨#[]⟩) := by simp [World.cell?, h]
  clear h
  go_simp
set_option maxHeartbeats 4000000 in
theorem row_trap_rk (W : World) (F q : Nat) (l : Nm) (e : Int) (g off : Nat) (cur : List Value) (t : TypeId) (h : RkI F q l e W) (hc : Cut g cur t W) (h0 : Zer cur off [.slice none 0 0]) (hg : F < g) (ht : (noT) t = false) :
    Calls Try.prog 56 #[.pointer (some ⟨F, 0, none⟩), .pointer (some ⟨g, off, none⟩), .func (.func 57) #[] #[]] W
      (RkPostH F q g off cur 1 t (RowH 2 126 (flatH trapV)) ((rowC trapC).dec l e).1 ((rowC trapC).dec l e).2.1 ((rowC trapC).dec l e).2.2 W) := by
  obtain ⟨i0, hi0, hz0, hz1, hz2⟩ := info_parts info_z_trap
  have hzc : cur[off]? = some (.slice none 0 0) := h0 0 Nat.zero_lt_one
  have HOl : Hid (off < cur.length) := (List.getElem?_eq_some_iff.1 hzc).1
  have x0 : W.cell? ⟨g, off, none⟩ = some (.slice none 0 0) := (hc.cell off).trans hzc
  have HR := Lib.hid h
  have HC := Lib.hid hc
  have HG := Lib.hid hg
  have HT := Lib.hid ht
  have HZc := Lib.hid hzc
  clear h hc h0 hg ht hzc
  go_enter Try.func56, Try.ntmps56
  go_upto_region 1 with fail
  clear x0
  obtain ⟨nb, w2, hw2, hnbe, hk4, hbb⟩ : ∃ nb w2, W.alloc (.cells #[.int .i64 0] 3) = w2 ∧ W.heap.size = nb ∧ w2.heap[nb]? = some (.cells #[.int .i64 0] 3) ∧ Below W.heap.size W w2 :=
    ⟨_, _, rfl, rfl, heap_alloc_new W _, (Below.refl W.heap.size W).alloc (Nat.le_refl _) _⟩
  have HBb := Lib.hid hbb
  have HK4 : Hid (Cut nb [.int .i64 0] 3 w2) := hk4
  have HR2 := Lib.hid (HR.out.below hbb)
  have HNb := Lib.hid hnbe
  have HNF : Hid (F < nb) := by have := HR.out.F_lt; show _ < _; omega
  rw [hw2, hnbe]
  clear hbb hk4 hw2 hnbe
  go_wp2_with fail
  refine (rk_int_calls w2 F q l e nb 0 [.int .i64 0] 3 HR2.out HK4.out rfl HNF.out).mono ?_
  rintro r w3 ⟨rfl, hr, hcu, hu⟩
  have hkd : Cut nb [.int .i64 (numC.dec l e).1] 3 w3 := hcu
  have HD : Hid ((rowC trapC).dec l e = rowsN trapC (numC.dec l e).1.toNat (numC.dec l e).2.1 (mustE (mostN (numC.dec l e).1) (numC.dec l e).2.2 11)) := rfl
  clear hcu
  generalize (numC.dec l e).1 = z at *
  generalize (numC.dec l e).2.1 = l1 at *
  generalize (numC.dec l e).2.2 = e1 at *
  have HR3 := Lib.hid hr
  have HK5 : Hid (w3.heap[nb]? = some (.cells #[.int .i64 z] 3)) := hkd
  have hgw := HC.out.lt
  have HC3 : Hid (Cut g cur t w3) := (hu.block g (Nat.lt_of_lt_of_le hgw HBb.out.size) (by have := HG.out; omega) (by have := HG.out; have := HR.out.lt; omega) (by have := HNb.out; omega)).trans ((HBb.out.block g hgw).trans HC.out)
  have HU3 : Hid (RUp F q g W w3) := ⟨hu.os.trans HBb.out.os, hu.tape.trans HBb.out.tape, hu.output.trans HBb.out.output, Nat.le_trans HBb.out.size hu.size, fun j hj a b _ => (hu.block j (Nat.lt_of_lt_of_le hj HBb.out.size) a b (by have := HNb.out; omega)).trans (HBb.out.block j hj)⟩
  clear hr hkd hu hgw
  obtain ⟨⟨c0, c1, c2⟩, f0, f1, f2⟩ := three HR3.out.k
  go_upto_region 3 with fail
  clear c0 c1 c2 f0 f1 f2
  go_cut [27] from 20 to 27 (fun s27 wx => RkI F q l1 (mustE (mostN z) e1 11) wx ∧ Cut g cur t wx ∧ wx.heap[nb]? = some (.cells #[.int .i64 z] 3) ∧ RUp F q g W wx)
  case first =>
    obtain ⟨⟨c0, c1, c2⟩, f0, f1, f2⟩ := three HR3.out.k
    obtain ⟨y0, y1⟩ := one_cell HK5.out
    by_cases n0 : 0 ≤ z
    · by_cases n1 : z ≤ 100000
      · have u0 : decide (0 ≤ z) = true := decide_eq_true n0
        have u1 : decide (z ≤ 100000) = true := decide_eq_true n1
        have HM : Hid (mostN z = true) := by show mostN z = true; unfold mostN; rw [u0, u1]; rfl
        go_wp2_with fail
        refine (must_calls w3 F q l1 e1 true 11 HR3.out).mono ?_
        rintro r w4 ⟨rfl, hr4, hu4, hn4⟩
        rw [← HM.out] at hr4
        have HR4 := Lib.hid hr4
        have HC4 : Hid (Cut g cur t w4) := (hn4 g (by have := HG.out; omega)).trans HC3.out
        have HK6 := Lib.hid ((hn4 nb (by have := HNF.out; omega)).trans HK5.out)
        have HU4 := Lib.hid (HU3.out.trans (hu4 g))
        clear c0 c1 c2 f0 f1 f2 y0 y1 hr4 hu4 hn4 n0 n1 u0 u1
        go_wp2_with fail
        go_meet
        exact ⟨HR4.out, HC4.out, HK6.out, HU4.out⟩
      · have u0 : decide (0 ≤ z) = true := decide_eq_true n0
        have u1 : decide (z ≤ 100000) = false := decide_eq_false n1
        have HM : Hid (mostN z = false) := by show mostN z = false; unfold mostN; rw [u0, u1]; rfl
        go_wp2_with fail
        refine (must_calls w3 F q l1 e1 false 11 HR3.out).mono ?_
        rintro r w4 ⟨rfl, hr4, hu4, hn4⟩
        rw [← HM.out] at hr4
        have HR4 := Lib.hid hr4
        have HC4 : Hid (Cut g cur t w4) := (hn4 g (by have := HG.out; omega)).trans HC3.out
        have HK6 := Lib.hid ((hn4 nb (by have := HNF.out; omega)).trans HK5.out)
        have HU4 := Lib.hid (HU3.out.trans (hu4 g))
        clear c0 c1 c2 f0 f1 f2 y0 y1 hr4 hu4 hn4 n0 n1 u0 u1
        go_wp2_with fail
        go_meet
        exact ⟨HR4.out, HC4.out, HK6.out, HU4.out⟩
    · have u0 : decide (0 ≤ z) = false := decide_eq_false n0
      have HM : Hid (mostN z = false) := by show mostN z = false; unfold mostN; rw [u0]; rfl
      go_wp2_with fail
      refine (must_calls w3 F q l1 e1 false 11 HR3.out).mono ?_
      rintro r w4 ⟨rfl, hr4, hu4, hn4⟩
      rw [← HM.out] at hr4
      have HR4 := Lib.hid hr4
      have HC4 : Hid (Cut g cur t w4) := (hn4 g (by have := HG.out; omega)).trans HC3.out
      have HK6 := Lib.hid ((hn4 nb (by have := HNF.out; omega)).trans HK5.out)
      have HU4 := Lib.hid (HU3.out.trans (hu4 g))
      clear c0 c1 c2 f0 f1 f2 y0 y1 hr4 hu4 hn4 n0 u0
      go_wp2_with fail
      go_meet
      exact ⟨HR4.out, HC4.out, HK6.out, HU4.out⟩
  case rest =>
    obtain ⟨hr4, hc4, hk6, hu4⟩ := hcut
    have HBig : Hid (mustE (mostN z) e1 11 = 0 → z.toNat ≤ 100000) := by
      intro hm
      rcases hq : mostN z with _ | _
      · rw [hq] at hm
        by_cases he : e1 = 0
        · rw [he, mustE_no] at hm; exact absurd hm (by decide)
        · rw [mustE_stop he] at hm; exact absurd hm he
      · unfold mostN at hq
        rw [Bool.and_eq_true, decide_eq_true_eq, decide_eq_true_eq] at hq
        omega
    generalize mustE (mostN z) e1 11 = e2 at *
    have HI0 : Hid (RowI trapC (flatH trapV) 2 126 W F q g off cur t nb z l e 0 (.slice none 0 0) [] [] l1 e2 wc) := by
      have e9 : cur.set off (.slice none 0 0) = cur := by
        obtain ⟨h1, h2⟩ := List.getElem?_eq_some_iff.1 HZc.out
        rw [← h2]
        exact List.set_getElem_self h1
      exact ⟨Nat.zero_le _, Nat.zero_le _, HBig.out, HD.out, rfl, hr4, by rw [e9]; exact hc4, World.ownsRow_nil _ _ _ _, each_nil _ _ _, hk6, by have := HNb.out; omega, hu4⟩
    have HX0 := Lib.hid ((hc4.cell off).trans HZc.out)
    have x0 := HX0.out
    have x1 := hc4.frozen off
    clear hr4 hc4 hk6 hu4
    go_upto_region 5 with fail
    clear x0 x1
    rw [set_same HX0.out]
    go_wp2_with fail
    go_loopw [7, 8] (fun v7 v8 wr => ∃ (k : Nat) (u : Value) (xs : List Value) (zs : List TrapD) (lk : Nm) (ek : Int), v7 = .int .i64 k ∧ RowI trapC (flatH trapV) 2 126 W F q g off cur t nb z l e k u xs zs lk ek wr) (fun v7 _ _ => z.toNat - (intOf v7).toNat)
    case atStart => exact ⟨0, _, _, _, _, _, rfl, HI0.out⟩
    case round =>
      obtain ⟨k, u, xs, zs, lk, ek, rfl, hI⟩ := hrel
      have HI := Lib.hid hI
      obtain ⟨⟨c0, c1, c2⟩, f0, f1, f2⟩ := three hI.rk.k
      obtain ⟨y0, y1⟩ := one_cell hI.nbk
      clear hI
      by_cases hlt : k < z.toNat
      · have u1 : decide ((k : Int) < z) = true := decide_eq_true (by omega)
        have u2 : (k : Int) < z := by omega
        by_cases he : ek = 0
        · subst he
          have HB := Lib.hid (HI.out.big rfl)
          have x0 : wr.cell? ⟨g, off, none⟩ = some u := (HI.out.cut.cell off).trans (by rw [List.getElem?_set_self HOl.out])
          have HX0 := Lib.hid x0
          go_wp2_with fail
          refine (wrong_calls wr F 0 c2).mono ?_
          rintro r w' ⟨rfl, rfl⟩
          rw [show decide ((0 : Int) ≠ 0) = false from rfl]
          clear u1 u2
          go_upto_region 10 with fail
          obtain ⟨xb, wx, hwx, hxbe, hxk, hxx⟩ : ∃ xb wx, wr.alloc (.cells #[.int .i64 0, .string ⟨#[]⟩] 126) = wx ∧ wr.heap.size = xb ∧ wx.heap[xb]? = some (.cells #[.int .i64 0, .string ⟨#[]⟩] 126) ∧ Below wr.heap.size wr wx :=
            ⟨_, _, rfl, rfl, heap_alloc_new wr _, (Below.refl wr.heap.size wr).alloc (Nat.le_refl _) _⟩
          have HXK := Lib.hid hxk
          have HXX := Lib.hid hxx
          have HXl : Hid (xb < wx.heap.size) := (Array.getElem?_eq_some_iff.1 hxk).1
          have HXg : Hid (g < wr.heap.size) := Nat.lt_of_lt_of_le HC.out.lt HI.out.up.size
          have K0 : Hid (wx.cell? ⟨g, off, none⟩ = some u) := (hxx.cell (p := ⟨g, off, none⟩) HXg.out).trans HX0.out
          have HOw : Hid (World.ownsRow wx (nb + 1) 126 2 u k xs) := ownsRow_below HI.out.own hxx
          have HNs : Hid (nb + 1 ≤ wx.heap.size) := Nat.le_trans HI.out.nlt hxx.size
          rw [hwx, hxbe]
          clear hwx hxbe hxk hxx c0 c1 c2 f0 f1 f2 y0 y1 x0
          refine Rt.wp_region_rkt 7 [] [Rg.Is (.pointer (some ⟨g, off, none⟩)), Rg.Is (.pointer (some ⟨g, off, none⟩)), Rg.Is (.pointer (some ⟨g, off, none⟩)), Rg.Is (u), Rg.Is (.agg #[.int .i64 0, .string ⟨#[]⟩]), (fun u' x => ∃ b, u' = .slice (some ⟨b, 0, none⟩) 1 1 ∧ wx.heap.size ≤ b ∧ x.heap[b]? = some (.cells #[.int .i64 0, .string ⟨#[]⟩] 126)), (fun u' x => Apd wx u (nb + 1) 126 2 k xs [.int .i64 0, .string ⟨#[]⟩] u' x)] (fun _ _ => True) (fun ls x => ls 6 = false → Below wx.heap.size wx x) (fun k x y => if k = 6 then x.grownBy y (Value.ownBlock (u)) else Below x.heap.size x y) (by kernel_rfl) (by kernel_rfl) (of_decide_eq_true (by kernel_rfl)) (by kernel_rfl) (by kernel_rfl) trivial (fun _ => ⟨rfl, rfl, rfl, Nat.le_refl _, fun _ _ => rfl⟩) (fun ls ls' x e h1 h2 => h1 (by rw [e]; exact h2)) (fun _ _ _ _ _ => trivial) (fun i ls x _ h1 => by rw [show ([] : List Bool).getD i true = true from rfl] at h1; cases h1) ?_ ⟨rfl, rfl, rfl, rfl, rfl, rfl, rfl, trivial⟩ ⟨?_, ?_, ?_, ?_, ?_, ?_, ?_, trivial⟩ ?_
          · intro i k u x y hik _ h1 hK
            match i, h1, hik with
            | 0, h1, _ => exact h1
            | 1, h1, _ => exact h1
            | 2, h1, _ => exact h1
            | 3, h1, _ => exact h1
            | 4, h1, _ => exact h1
            | 5, h1, hik =>
              obtain ⟨b1, h2, h3, h4⟩ := h1
              refine ⟨b1, h2, h3, ?_⟩
              have hg1 := (Array.getElem?_eq_some_iff.1 h4).1
              by_cases hk6 : k = 6
              · subst hk6
                rw [if_pos rfl] at hK
                exact (hK.block b1 hg1 (fun e => by have := (HOw.out.lt _ e.symm).2; omega)).trans h4
              · rw [if_neg hk6] at hK
                exact (hK.block b1 hg1).trans h4
            | 6, h1, hik =>
              rw [if_neg (fun e => hik e.symm)] at hK
              exact h1.below hK
            | _ + 7, _, _ => trivial
          · intro _ b x ls hR hS hself hup hdn hk
            have h1 : b.eval (.tmp 1) = .pointer (some ⟨g, off, none⟩) := Eq.mp (by kernel_rfl) (hk 1 (by decide))
            exact Rg.does_move ⟨by rw [if_neg (by decide)]; exact Below.refl _ _, h1, fun hh => hS hh⟩
          · intro _ b x ls hR hS hself hup hdn hk
            have h1 : b.eval (.tmp 1) = .pointer (some ⟨g, off, none⟩) := Eq.mp (by kernel_rfl) (hk 1 (by decide))
            have lA : ls 6 = false := hdn [3, 2] 6 _ rfl (by kernel_rfl)
            have hb := hS lA
            exact Rg.does_move ⟨by rw [if_neg (by decide)]; exact Below.refl _ _, h1, fun hh => hS hh⟩
          · intro _ b x ls hR hS hself hup hdn hk
            have h46 : b.eval (.tmp 46) = .pointer (some ⟨g, off, none⟩) := Eq.mp (by kernel_rfl) (hk 46 (by decide))
            have lA : ls 6 = false := hdn [3] 6 _ rfl (by kernel_rfl)
            have hb := hS lA
            exact Ap.does_nil _ h46 ⟨by rw [if_neg (by decide)]; exact Below.refl _ _, rfl, fun hh => hS hh⟩
          · intro _ b x ls hR hS hself hup hdn hk
            have h47 : b.eval (.tmp 47) = .pointer (some ⟨g, off, none⟩) := Eq.mp (by kernel_rfl) (hk 47 (by decide))
            have lA : ls 6 = false := hdn [] 6 _ rfl (by kernel_rfl)
            have hb := hS lA
            exact Rg.does_load _ _ h47 (load_sl_trap (cell_below hb (Nat.le_refl _) K0.out)) ⟨by rw [if_neg (by decide)]; exact Below.refl _ _, rfl, fun hh => hS hh⟩
          · intro _ b x ls hR hS hself hup hdn hk
            have h8 : b.eval (.tmp 8) = .pointer (some ⟨xb, 0, none⟩) := Eq.mp (by kernel_rfl) (hk 8 (by decide))
            have lA : ls 6 = false := hdn [5] 6 _ rfl (by kernel_rfl)
            have hb := hS lA
            exact Rg.does_load _ _ h8 (load_z_trap ((hb.block xb HXl.out).trans HXK.out)) ⟨by rw [if_neg (by decide)]; exact Below.refl _ _, rfl, fun hh => hS hh⟩
          · intro _ b x ls hR hS hself hup hdn hk
            have h49 : b.eval (.tmp 49) = .agg #[.int .i64 0, .string ⟨#[]⟩] := Eq.mp (by kernel_rfl) (hk 49 (by decide))
            have lA : ls 6 = false := hdn [] 6 _ rfl (by kernel_rfl)
            have hb := hS lA
            have hal := (Below.refl x.heap.size x).alloc (Nat.le_refl _) (.cells #[.int .i64 0, .string ⟨#[]⟩] 126)
            exact Rg.does_build #[(0, .agg #[.int .i64 0, .string ⟨#[]⟩])] _ (by simp [h49]) (by go_simp) ⟨by rw [if_neg (by decide)]; exact hal, ⟨x.heap.size, rfl, hb.size, heap_alloc_new x _⟩, fun hh => hb.trans (hal.mono hb.size)⟩
          · intro _ b x ls hR hS hself hup hdn hk
            have h48 : b.eval (.tmp 48) = u := Eq.mp (by kernel_rfl) (hk 48 (by decide))
            have h50 : (fun u' x => ∃ b, u' = .slice (some ⟨b, 0, none⟩) 1 1 ∧ wx.heap.size ≤ b ∧ x.heap[b]? = some (.cells #[.int .i64 0, .string ⟨#[]⟩] 126)) (b.eval (.tmp 50)) x := Eq.mp (by kernel_rfl) (hk 50 (by decide))
            have hb := hS hself
            obtain ⟨b1, h2, h3, h4⟩ := h50
            have hown : World.ownsRow x (nb + 1) 126 2 u k xs := ownsRow_below HOw.out hb
            obtain ⟨v', w', hrun, hown', hgr, hat⟩ := Ap.run_append_at (P := Try.prog) x (nb + 1) 31 31 31 126 i0 _ 2 24 Try.underlying31 (append_side Try.underlying31) hi0 hz0 hz1 hz2 rfl (by decide) (by decide) u k xs hown (.slice (some ⟨b1, 0, none⟩) 1 1) 1 [.int .i64 0, .string ⟨#[]⟩] (src_cells (b := b1) (off := 0) rfl (by simp [Value.oneCell']) (.inr rfl) (fun j u1 hu1 => by simp only [World.cell?, h4, Nat.zero_add]; simpa using hu1)) (by have := HB.out; unfold maxLen; omega) (by have := HB.out; omega) (Nat.le_trans HNs.out hb.size)
            exact Ap.does_append u _ v' w' h48 h2 hrun ⟨by rw [if_pos rfl]; exact hgr, ⟨hown', x, hb, hgr, hat⟩, fun hh => by simp [Rs.upd] at hh⟩
          · intro vals wD ls _ hSD _ hL
            obtain ⟨g0, g1, g2, g3, g4, g5, g6, _⟩ := hL
            have hap : Apd wx u (nb + 1) 126 2 k xs [.int .i64 0, .string ⟨#[]⟩] (vals 6) wD := g6
            have q0 := g0; have q1 := g1
            simp only [Rg.putAll, List.take_succ_cons, List.take_zero, List.drop_succ_cons, List.drop_zero, List.setIfInBounds_toArray, List.set_cons_succ, List.set_cons_zero]
            rw [show vals 0 = .pointer (some ⟨g, off, none⟩) from g0]
            clear g0 g1 g2 g3 g4 g5 g6 q0 q1
            generalize vals 6 = u' at *
            generalize wD = w2 at *
            have HX2 : Hid (w2.heap[g]? = wr.heap[g]?) := HI.out.low HXX.out hap g (by have := HI.out.nlo; have := HC.out.lt; omega)
            obtain ⟨b, cap, curb, rfl, hJ⟩ := HI.out.push HXX.out hap hlt (flat_st noT trapV) HT.out rfl HC.out.lt HG.out
            clear hap
            have HJ := Lib.hid hJ
            have x2 : w2.cell? ⟨g, off, none⟩ = some u := by rw [World.cell?_of_block HX2.out]; exact HX0.out
            have x3 : w2.frozen? ⟨g, off, none⟩ = false := by have h9 : Cut g (cur.set off u) t w2 := HX2.out.trans HI.out.cut; exact h9.frozen off
            clear hJ
            go_upto_region 11 with fail
            clear x2 x3 HX2
            generalize w2.setCell ⟨g, off, none⟩ (.slice (some ⟨b, 0, none⟩) (k + 1) cap) = w3' at *
            have x4 : w3'.cell? ⟨g, off, none⟩ = some (.slice (some ⟨b, 0, none⟩) (k + 1) cap) := (HJ.out.cut.cell off).trans (by rw [List.getElem?_set_self HOl.out])
            have hx := fun W => row_idx Try.underlying31 2 info_el_trap b 0 (k + 1) cap k (Nat.lt_succ_self k) W
            go_wp2_with fail
            clear hx x4
            have HZ3 := Lib.hid (zero_at HJ.out rfl)
            refine ((trap_rk.h (fun _ => rfl)) w3' F q lk 0 b (k * 2) curb 126 HJ.out.rk HJ.out.gb (by have := HZ3.out; first | exact this | (rw [Nat.mul_one] at this; exact this)) (by have := HJ.out.nb'; have := HNF.out; omega) rfl).mono ?_
            rintro r w4 hp
            obtain rfl := hp.1
            obtain ⟨vs, hI⟩ := HJ.out.next (by first | exact hp | (rw [Nat.mul_one]; exact hp)) (flat_st noT trapV) rfl rfl rfl HG.out
            have HI2 := Lib.hid hI
            clear hp hI
            have hk9 := HI.out.k0
            go_wp2_with fail
            go_roundw
            case rel => exact ⟨k + 1, _, _, _, _, _, by go_num, HI2.out⟩
            case measure => simp [intOf]; omega
        · have t1 : decide (ek ≠ 0) = true := decide_eq_true he
          have HE := Lib.hid he
          clear he
          go_wp2_with fail
          refine (wrong_calls wr F ek c2).mono ?_
          rintro r w' ⟨rfl, rfl⟩
          rw [t1]
          clear t1
          go_wp2_with fail
          refine bodyPost_end (v := .tuple #[]) (results_none rfl _ _ _) rfl ?_
          exact HI.out.done (.inr HE.out) HOl.out
      · have u1 : decide ((k : Int) < z) = false := decide_eq_false (by have := HI.out.kN; omega)
        have u2 : ¬ ((k : Int) < z) := by have := HI.out.kN; omega
        go_wp2_with fail
        refine bodyPost_end (v := .tuple #[]) (results_none rfl _ _ _) rfl ?_
        exact HI.out.done (.inl (by omega)) HOl.out
end Go.Proofs.Ytmhofdoifgfjfaa
