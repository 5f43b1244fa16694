/-
  State: rows of frames, read. Conditions: as each contract says.
-/
import Derived.Test.YtmhofdoifgfjfaaStFrameR
import Derived.Deep.MidRow
set_option linter.unusedVariables false
set_option maxRecDepth 100000
namespace Go.Proofs.Ytmhofdoifgfjfaa
open Go.RowKit Base

theorem info_z_frame : (Try.prog.info? 96).map (fun i => (i.zero, i.size, i.bytes)) = some (some (.agg #[.int .i64 0, .int .i64 0, .int .i64 0, .int .i64 0, .int .i64 0, .bool false, .int .i64 0, .int .i64 0, .string ⟨#[]⟩, .slice none 0 0, .slice none 0 0, .slice none 0 0, .slice none 0 0, .slice none 0 0, .int .i64 0, .string ⟨#[]⟩, .slice none 0 0, .slice none 0 0, .slice none 0 0]), 19, 296) := by kernel_rfl
theorem cell_sl_frame (g off : Nat) (v : Value) (w : World) (h : w.cell? ⟨g, off, none⟩ = some v) : (Instr.loadAt 36 (.pointer (some ⟨g, off, none⟩))).run Try.prog w = .ok v w := load_sl_frame h
theorem load_z_frame {w : World} {b : Nat} (h : w.heap[b]? = some (.cells #[.int .i64 0, .int .i64 0, .int .i64 0, .int .i64 0, .int .i64 0, .bool false, .int .i64 0, .int .i64 0, .string ⟨#[]⟩, .slice none 0 0, .slice none 0 0, .slice none 0 0, .slice none 0 0, .slice none 0 0, .int .i64 0, .string ⟨#[]⟩, .slice none 0 0, .slice none 0 0, .slice none 0 0] 96)) : (Instr.loadAt 96 (.pointer (some ⟨b, 0, none⟩))).run Try.prog w = .ok (.agg #[.int .i64 0, .int .i64 0, .int .i64 0, .int .i64 0, .int .i64 0, .bool false, .int .i64 0, .int .i64 0, .string ⟨#[]⟩, .slice none 0 0, .slice none 0 0, .slice none 0 0, .slice none 0 0, .slice none 0 0, .int .i64 0, .string ⟨#[]⟩, .slice none 0 0, .slice none 0 0, .slice none 0 0]) w := by
  have hd : (Try.prog.underlying 96).map TypeDesc.isRow = some true := by kernel_rfl
  obtain ⟨d, hu, hr⟩ := Option.map_eq_some_iff.1 hd
  have hc : World.rangeAt w b 0 [.int .i64 0, .int .i64 0, .int .i64 0, .int .i64 0, .int .i64 0, .bool false, .int .i64 0, .int .i64 0, .string ⟨#[]⟩, .slice none 0 0, .slice none 0 0, .slice none 0 0, .slice none 0 0, .slice none 0 0, .int .i64 0, .string ⟨#[]⟩, .slice none 0 0, .slice none 0 0, .slice none 0 0] := by
    intro j v hv
    have h1 : (#[.int .i64 0, .int .i64 0, .int .i64 0, .int .i64 0, .int .i64 0, .bool false, .int .i64 0, .int .i64 0, .string ⟨#[]⟩, .slice none 0 0, .slice none 0 0, .slice none 0 0, .slice none 0 0, .slice none 0 0, .int .i64 0, .string ⟨#[]⟩, .slice none 0 0, .slice none 0 0, .slice none 0 0] : Array Value)[j]? = some v := by rw [List.getElem?_toArray]; exact hv
    rw [Nat.zero_add]
    simp only [World.cell?, h]
    exact h1
  exact run_loadAt_mid w b 0 96 [.int .i64 0, .int .i64 0, .int .i64 0, .int .i64 0, .int .i64 0, .bool false, .int .i64 0, .int .i64 0, .string ⟨#[]⟩, .slice none 0 0, .slice none 0 0, .slice none 0 0, .slice none 0 0, .slice none 0 0, .int .i64 0, .string ⟨#[]⟩, .slice none 0 0, .slice none 0 0, .slice none 0 0] d hc hu hr (by kernel_rfl)
set_option maxHeartbeats 4000000 in
theorem row_frame_rk (W : World) (F q : Nat) (l : Nm) (e : Int) (g off : Nat) (cur : List Value) (t : TypeId) (h : RkI F q l e W) (hc : Cut g cur t W) (h0 : Zer cur off [.slice none 0 0]) (hg : F < g) (ht : (inner) t = false) :
    Calls Try.prog 40 #[.pointer (some ⟨F, 0, none⟩), .pointer (some ⟨g, off, none⟩), .func (.func 41) #[] #[]] W
      (RkPostH F q g off cur 1 t (RowH 19 96 (frameH)) ((rowC frameC).dec l e).1 ((rowC frameC).dec l e).2.1 ((rowC frameC).dec l e).2.2 W) := by
  obtain ⟨i0, hi0, hz0, hz1, hz2⟩ := info_parts info_z_frame
  have hzc : cur[off]? = some (.slice none 0 0) := h0 0 Nat.zero_lt_one
  have HOl : Hid (off < cur.length) := (List.getElem?_eq_some_iff.1 hzc).1
  have x0 : W.cell? ⟨g, off, none⟩ = some (.slice none 0 0) := (hc.cell off).trans hzc
  have HR := Lib.hid h
  have HC := Lib.hid hc
  have HG := Lib.hid hg
  have HT := Lib.hid ht
  have HZc := Lib.hid hzc
  clear h hc h0 hg ht hzc
  go_enter Try.func40, Try.ntmps40
  go_upto_region 1 with fail
  clear x0
  obtain ⟨nb, w2, hw2, hnbe, hk4, hbb⟩ : ∃ nb w2, W.alloc (.cells #[.int .i64 0] 3) = w2 ∧ W.heap.size = nb ∧ w2.heap[nb]? = some (.cells #[.int .i64 0] 3) ∧ Below W.heap.size W w2 :=
    ⟨_, _, rfl, rfl, heap_alloc_new W _, (Below.refl W.heap.size W).alloc (Nat.le_refl _) _⟩
  have HBb := Lib.hid hbb
  have HK4 : Hid (Cut nb [.int .i64 0] 3 w2) := hk4
  have HR2 := Lib.hid (HR.out.below hbb)
  have HNb := Lib.hid hnbe
  have HNF : Hid (F < nb) := by have := HR.out.F_lt; show _ < _; omega
  rw [hw2, hnbe]
  clear hbb hk4 hw2 hnbe
  go_wp2_with fail
  refine (rk_int_calls w2 F q l e nb 0 [.int .i64 0] 3 HR2.out HK4.out rfl HNF.out).mono ?_
  rintro r w3 ⟨rfl, hr, hcu, hu⟩
  have hkd : Cut nb [.int .i64 (numC.dec l e).1] 3 w3 := hcu
  have HD : Hid ((rowC frameC).dec l e = rowsN frameC (numC.dec l e).1.toNat (numC.dec l e).2.1 (mustE (mostN (numC.dec l e).1) (numC.dec l e).2.2 11)) := rfl
  clear hcu
  generalize (numC.dec l e).1 = z at *
  generalize (numC.dec l e).2.1 = l1 at *
  generalize (numC.dec l e).2.2 = e1 at *
  have HR3 := Lib.hid hr
  have HK5 : Hid (w3.heap[nb]? = some (.cells #[.int .i64 z] 3)) := hkd
  have hgw := HC.out.lt
  have HC3 : Hid (Cut g cur t w3) := (hu.block g (Nat.lt_of_lt_of_le hgw HBb.out.size) (by have := HG.out; omega) (by have := HG.out; have := HR.out.lt; omega) (by have := HNb.out; omega)).trans ((HBb.out.block g hgw).trans HC.out)
  have HU3 : Hid (RUp F q g W w3) := ⟨hu.os.trans HBb.out.os, hu.tape.trans HBb.out.tape, hu.output.trans HBb.out.output, Nat.le_trans HBb.out.size hu.size, fun j hj a b _ => (hu.block j (Nat.lt_of_lt_of_le hj HBb.out.size) a b (by have := HNb.out; omega)).trans (HBb.out.block j hj)⟩
  clear hr hkd hu hgw
  obtain ⟨⟨c0, c1, c2⟩, f0, f1, f2⟩ := three HR3.out.k
  go_upto_region 3 with fail
  clear c0 c1 c2 f0 f1 f2
  go_cut [27] from 20 to 27 (fun s27 wx => RkI F q l1 (mustE (mostN z) e1 11) wx ∧ Cut g cur t wx ∧ wx.heap[nb]? = some (.cells #[.int .i64 z] 3) ∧ RUp F q g W wx)
  case first =>
    obtain ⟨⟨c0, c1, c2⟩, f0, f1, f2⟩ := three HR3.out.k
    obtain ⟨y0, y1⟩ := one_cell HK5.out
    by_cases n0 : 0 ≤ z
    · by_cases n1 : z ≤ 100000
      · have u0 : decide (0 ≤ z) = true := decide_eq_true n0
        have u1 : decide (z ≤ 100000) = true := decide_eq_true n1
        have HM : Hid (mostN z = true) := by show mostN z = true; unfold mostN; rw [u0, u1]; rfl
        go_wp2_with fail
        refine (must_calls w3 F q l1 e1 true 11 HR3.out).mono ?_
        rintro r w4 ⟨rfl, hr4, hu4, hn4⟩
        rw [← HM.out] at hr4
        have HR4 := Lib.hid hr4
        have HC4 : Hid (Cut g cur t w4) := (hn4 g (by have := HG.out; omega)).trans HC3.out
        have HK6 := Lib.hid ((hn4 nb (by have := HNF.out; omega)).trans HK5.out)
        have HU4 := Lib.hid (HU3.out.trans (hu4 g))
        clear c0 c1 c2 f0 f1 f2 y0 y1 hr4 hu4 hn4 n0 n1 u0 u1
        go_wp2_with fail
        go_meet
        exact ⟨HR4.out, HC4.out, HK6.out, HU4.out⟩
      · have u0 : decide (0 ≤ z) = true := decide_eq_true n0
        have u1 : decide (z ≤ 100000) = false := decide_eq_false n1
        have HM : Hid (mostN z = false) := by show mostN z = false; unfold mostN; rw [u0, u1]; rfl
        go_wp2_with fail
        refine (must_calls w3 F q l1 e1 false 11 HR3.out).mono ?_
        rintro r w4 ⟨rfl, hr4, hu4, hn4⟩
        rw [← HM.out] at hr4
        have HR4 := Lib.hid hr4
        have HC4 : Hid (Cut g cur t w4) := (hn4 g (by have := HG.out; omega)).trans HC3.out
        have HK6 := Lib.hid ((hn4 nb (by have := HNF.out; omega)).trans HK5.out)
        have HU4 := Lib.hid (HU3.out.trans (hu4 g))
        clear c0 c1 c2 f0 f1 f2 y0 y1 hr4 hu4 hn4 n0 n1 u0 u1
        go_wp2_with fail
        go_meet
        exact ⟨HR4.out, HC4.out, HK6.out, HU4.out⟩
    · have u0 : decide (0 ≤ z) = false := decide_eq_false n0
      have HM : Hid (mostN z = false) := by show mostN z = false; unfold mostN; rw [u0]; rfl
      go_wp2_with fail
      refine (must_calls w3 F q l1 e1 false 11 HR3.out).mono ?_
      rintro r w4 ⟨rfl, hr4, hu4, hn4⟩
      rw [← HM.out] at hr4
      have HR4 := Lib.hid hr4
      have HC4 : Hid (Cut g cur t w4) := (hn4 g (by have := HG.out; omega)).trans HC3.out
      have HK6 := Lib.hid ((hn4 nb (by have := HNF.out; omega)).trans HK5.out)
      have HU4 := Lib.hid (HU3.out.trans (hu4 g))
      clear c0 c1 c2 f0 f1 f2 y0 y1 hr4 hu4 hn4 n0 u0
      go_wp2_with fail
      go_meet
      exact ⟨HR4.out, HC4.out, HK6.out, HU4.out⟩
  case rest =>
    obtain ⟨hr4, hc4, hk6, hu4⟩ := hcut
    have HBig : Hid (mustE (mostN z) e1 11 = 0 → z.toNat ≤ 100000) := by
      intro hm
      rcases hq : mostN z with _ | _
      · rw [hq] at hm
        by_cases he : e1 = 0
        · rw [he, mustE_no] at hm; exact absurd hm (by decide)
        · rw [mustE_stop he] at hm; exact absurd hm he
      · unfold mostN at hq
        rw [Bool.and_eq_true, decide_eq_true_eq, decide_eq_true_eq] at hq
        omega
    generalize mustE (mostN z) e1 11 = e2 at *
    have HI0 : Hid (RowI frameC (frameH) 19 96 W F q g off cur t nb z l e 0 (.slice none 0 0) [] [] l1 e2 wc) := by
      have e9 : cur.set off (.slice none 0 0) = cur := by
        obtain ⟨h1, h2⟩ := List.getElem?_eq_some_iff.1 HZc.out
        rw [← h2]
        exact List.set_getElem_self h1
      exact ⟨Nat.zero_le _, Nat.zero_le _, HBig.out, HD.out, rfl, hr4, by rw [e9]; exact hc4, World.ownsRow_nil _ _ _ _, each_nil _ _ _, hk6, by have := HNb.out; omega, hu4⟩
    have HX0 := Lib.hid ((hc4.cell off).trans HZc.out)
    have x0 := HX0.out
    have x1 := hc4.frozen off
    clear hr4 hc4 hk6 hu4
    go_upto_region 5 with fail
    clear x0 x1
    rw [set_same HX0.out]
    go_wp2_with fail
    go_loopw [7, 8] (fun v7 v8 wr => ∃ (k : Nat) (u : Value) (xs : List Value) (zs : List FrameD) (lk : Nm) (ek : Int), v7 = .int .i64 k ∧ RowI frameC (frameH) 19 96 W F q g off cur t nb z l e k u xs zs lk ek wr) (fun v7 _ _ => z.toNat - (intOf v7).toNat)
    case atStart => exact ⟨0, _, _, _, _, _, rfl, HI0.out⟩
    case round =>
      obtain ⟨k, u, xs, zs, lk, ek, rfl, hI⟩ := hrel
      have HI := Lib.hid hI
      obtain ⟨⟨c0, c1, c2⟩, f0, f1, f2⟩ := three hI.rk.k
      obtain ⟨y0, y1⟩ := one_cell hI.nbk
      clear hI
      by_cases hlt : k < z.toNat
      · have u1 : decide ((k : Int) < z) = true := decide_eq_true (by omega)
        have u2 : (k : Int) < z := by omega
        by_cases he : ek = 0
        · subst he
          have HB := Lib.hid (HI.out.big rfl)
          have x0 : wr.cell? ⟨g, off, none⟩ = some u := (HI.out.cut.cell off).trans (by rw [List.getElem?_set_self HOl.out])
          have HX0 := Lib.hid x0
          go_wp2_with fail
          refine (wrong_calls wr F 0 c2).mono ?_
          rintro r w' ⟨rfl, rfl⟩
          rw [show decide ((0 : Int) ≠ 0) = false from rfl]
          clear u1 u2
          go_upto_region 10 with fail
          obtain ⟨xb, wx, hwx, hxbe, hxk, hxx⟩ : ∃ xb wx, wr.alloc (.cells #[.int .i64 0, .int .i64 0, .int .i64 0, .int .i64 0, .int .i64 0, .bool false, .int .i64 0, .int .i64 0, .string ⟨#[]⟩, .slice none 0 0, .slice none 0 0, .slice none 0 0, .slice none 0 0, .slice none 0 0, .int .i64 0, .string ⟨#[]⟩, .slice none 0 0, .slice none 0 0, .slice none 0 0] 96) = wx ∧ wr.heap.size = xb ∧ wx.heap[xb]? = some (.cells #[.int .i64 0, .int .i64 0, .int .i64 0, .int .i64 0, .int .i64 0, .bool false, .int .i64 0, .int .i64 0, .string ⟨#[]⟩, .slice none 0 0, .slice none 0 0, .slice none 0 0, .slice none 0 0, .slice none 0 0, .int .i64 0, .string ⟨#[]⟩, .slice none 0 0, .slice none 0 0, .slice none 0 0] 96) ∧ Below wr.heap.size wr wx :=
            ⟨_, _, rfl, rfl, heap_alloc_new wr _, (Below.refl wr.heap.size wr).alloc (Nat.le_refl _) _⟩
          have HXK := Lib.hid hxk
          have HXX := Lib.hid hxx
          have HXl : Hid (xb < wx.heap.size) := (Array.getElem?_eq_some_iff.1 hxk).1
          have HXg : Hid (g < wr.heap.size) := Nat.lt_of_lt_of_le HC.out.lt HI.out.up.size
          have K0 : Hid (wx.cell? ⟨g, off, none⟩ = some u) := (hxx.cell (p := ⟨g, off, none⟩) HXg.out).trans HX0.out
          have HOw : Hid (World.ownsRow wx (nb + 1) 96 19 u k xs) := ownsRow_below HI.out.own hxx
          have HNs : Hid (nb + 1 ≤ wx.heap.size) := Nat.le_trans HI.out.nlt hxx.size
          rw [hwx, hxbe]
          clear hwx hxbe hxk hxx c0 c1 c2 f0 f1 f2 y0 y1 x0
          refine Rt.wp_region_rkt 7 [] [Rg.Is (.pointer (some ⟨g, off, none⟩)), Rg.Is (.pointer (some ⟨g, off, none⟩)), Rg.Is (.pointer (some ⟨g, off, none⟩)), Rg.Is (u), Rg.Is (.agg #[.int .i64 0, .int .i64 0, .int .i64 0, .int .i64 0, .int .i64 0, .bool false, .int .i64 0, .int .i64 0, .string ⟨#[]⟩, .slice none 0 0, .slice none 0 0, .slice none 0 0, .slice none 0 0, .slice none 0 0, .int .i64 0, .string ⟨#[]⟩, .slice none 0 0, .slice none 0 0, .slice none 0 0]), (fun u' x => ∃ b, u' = .slice (some ⟨b, 0, none⟩) 1 1 ∧ wx.heap.size ≤ b ∧ x.heap[b]? = some (.cells #[.int .i64 0, .int .i64 0, .int .i64 0, .int .i64 0, .int .i64 0, .bool false, .int .i64 0, .int .i64 0, .string ⟨#[]⟩, .slice none 0 0, .slice none 0 0, .slice none 0 0, .slice none 0 0, .slice none 0 0, .int .i64 0, .string ⟨#[]⟩, .slice none 0 0, .slice none 0 0, .slice none 0 0] 96)), (fun u' x => Apd wx u (nb + 1) 96 19 k xs [.int .i64 0, .int .i64 0, .int .i64 0, .int .i64 0, .int .i64 0, .bool false, .int .i64 0, .int .i64 0, .string ⟨#[]⟩, .slice none 0 0, .slice none 0 0, .slice none 0 0, .slice none 0 0, .slice none 0 0, .int .i64 0, .string ⟨#[]⟩, .slice none 0 0, .slice none 0 0, .slice none 0 0] u' x)] (fun _ _ => True) (fun ls x => ls 6 = false → Below wx.heap.size wx x) (fun k x y => if k = 6 then x.grownBy y (Value.ownBlock (u)) else Below x.heap.size x y) (by kernel_rfl) (by kernel_rfl) (of_decide_eq_true (by kernel_rfl)) (by kernel_rfl) (by kernel_rfl) trivial (fun _ => ⟨rfl, rfl, rfl, Nat.le_refl _, fun _ _ => rfl⟩) (fun ls ls' x e h1 h2 => h1 (by rw [e]; exact h2)) (fun _ _ _ _ _ => trivial) (fun i ls x _ h1 => by rw [show ([] : List Bool).getD i true = true from rfl] at h1; cases h1) ?_ ⟨rfl, rfl, rfl, rfl, rfl, rfl, rfl, trivial⟩ ⟨?_, ?_, ?_, ?_, ?_, ?_, ?_, trivial⟩ ?_
          · intro i k u x y hik _ h1 hK
            match i, h1, hik with
            | 0, h1, _ => exact h1
            | 1, h1, _ => exact h1
            | 2, h1, _ => exact h1
            | 3, h1, _ => exact h1
            | 4, h1, _ => exact h1
            | 5, h1, hik =>
              obtain ⟨b1, h2, h3, h4⟩ := h1
              refine ⟨b1, h2, h3, ?_⟩
              have hg1 := (Array.getElem?_eq_some_iff.1 h4).1
              by_cases hk6 : k = 6
              · subst hk6
                rw [if_pos rfl] at hK
                exact (hK.block b1 hg1 (fun e => by have := (HOw.out.lt _ e.symm).2; omega)).trans h4
              · rw [if_neg hk6] at hK
                exact (hK.block b1 hg1).trans h4
            | 6, h1, hik =>
              rw [if_neg (fun e => hik e.symm)] at hK
              exact h1.below hK
            | _ + 7, _, _ => trivial
          · intro _ b x ls hR hS hself hup hdn hk
            have h1 : b.eval (.tmp 1) = .pointer (some ⟨g, off, none⟩) := Eq.mp (by kernel_rfl) (hk 1 (by decide))
            exact Rg.does_move ⟨by rw [if_neg (by decide)]; exact Below.refl _ _, h1, fun hh => hS hh⟩
          · intro _ b x ls hR hS hself hup hdn hk
            have h1 : b.eval (.tmp 1) = .pointer (some ⟨g, off, none⟩) := Eq.mp (by kernel_rfl) (hk 1 (by decide))
            have lA : ls 6 = false := hdn [3, 2] 6 _ rfl (by kernel_rfl)
            have hb := hS lA
            exact Rg.does_move ⟨by rw [if_neg (by decide)]; exact Below.refl _ _, h1, fun hh => hS hh⟩
          · intro _ b x ls hR hS hself hup hdn hk
            have h46 : b.eval (.tmp 46) = .pointer (some ⟨g, off, none⟩) := Eq.mp (by kernel_rfl) (hk 46 (by decide))
            have lA : ls 6 = false := hdn [3] 6 _ rfl (by kernel_rfl)
            have hb := hS lA
            exact Ap.does_nil _ h46 ⟨by rw [if_neg (by decide)]; exact Below.refl _ _, rfl, fun hh => hS hh⟩
          · intro _ b x ls hR hS hself hup hdn hk
            have h47 : b.eval (.tmp 47) = .pointer (some ⟨g, off, none⟩) := Eq.mp (by kernel_rfl) (hk 47 (by decide))
            have lA : ls 6 = false := hdn [] 6 _ rfl (by kernel_rfl)
            have hb := hS lA
            exact Rg.does_load _ _ h47 (load_sl_frame (cell_below hb (Nat.le_refl _) K0.out)) ⟨by rw [if_neg (by decide)]; exact Below.refl _ _, rfl, fun hh => hS hh⟩
          · intro _ b x ls hR hS hself hup hdn hk
            have h8 : b.eval (.tmp 8) = .pointer (some ⟨xb, 0, none⟩) := Eq.mp (by kernel_rfl) (hk 8 (by decide))
            have lA : ls 6 = false := hdn [5] 6 _ rfl (by kernel_rfl)
            have hb := hS lA
            exact Rg.does_load _ _ h8 (load_z_frame ((hb.block xb HXl.out).trans HXK.out)) ⟨by rw [if_neg (by decide)]; exact Below.refl _ _, rfl, fun hh => hS hh⟩
          · intro _ b x ls hR hS hself hup hdn hk
            have h49 : b.eval (.tmp 49) = .agg #[.int .i64 0, .int .i64 0, .int .i64 0, .int .i64 0, .int .i64 0, .bool false, .int .i64 0, .int .i64 0, .string ⟨#[]⟩, .slice none 0 0, .slice none 0 0, .slice none 0 0, .slice none 0 0, .slice none 0 0, .int .i64 0, .string ⟨#[]⟩, .slice none 0 0, .slice none 0 0, .slice none 0 0] := Eq.mp (by kernel_rfl) (hk 49 (by decide))
            have lA : ls 6 = false := hdn [] 6 _ rfl (by kernel_rfl)
            have hb := hS lA
            have hal := (Below.refl x.heap.size x).alloc (Nat.le_refl _) (.cells #[.int .i64 0, .int .i64 0, .int .i64 0, .int .i64 0, .int .i64 0, .bool false, .int .i64 0, .int .i64 0, .string ⟨#[]⟩, .slice none 0 0, .slice none 0 0, .slice none 0 0, .slice none 0 0, .slice none 0 0, .int .i64 0, .string ⟨#[]⟩, .slice none 0 0, .slice none 0 0, .slice none 0 0] 96)
            exact Rg.does_build #[(0, .agg #[.int .i64 0, .int .i64 0, .int .i64 0, .int .i64 0, .int .i64 0, .bool false, .int .i64 0, .int .i64 0, .string ⟨#[]⟩, .slice none 0 0, .slice none 0 0, .slice none 0 0, .slice none 0 0, .slice none 0 0, .int .i64 0, .string ⟨#[]⟩, .slice none 0 0, .slice none 0 0, .slice none 0 0])] _ (by simp [h49]) (by go_simp) ⟨by rw [if_neg (by decide)]; exact hal, ⟨x.heap.size, rfl, hb.size, heap_alloc_new x _⟩, fun hh => hb.trans (hal.mono hb.size)⟩
          · intro _ b x ls hR hS hself hup hdn hk
            have h48 : b.eval (.tmp 48) = u := Eq.mp (by kernel_rfl) (hk 48 (by decide))
            have h50 : (fun u' x => ∃ b, u' = .slice (some ⟨b, 0, none⟩) 1 1 ∧ wx.heap.size ≤ b ∧ x.heap[b]? = some (.cells #[.int .i64 0, .int .i64 0, .int .i64 0, .int .i64 0, .int .i64 0, .bool false, .int .i64 0, .int .i64 0, .string ⟨#[]⟩, .slice none 0 0, .slice none 0 0, .slice none 0 0, .slice none 0 0, .slice none 0 0, .int .i64 0, .string ⟨#[]⟩, .slice none 0 0, .slice none 0 0, .slice none 0 0] 96)) (b.eval (.tmp 50)) x := Eq.mp (by kernel_rfl) (hk 50 (by decide))
            have hb := hS hself
            obtain ⟨b1, h2, h3, h4⟩ := h50
            have hown : World.ownsRow x (nb + 1) 96 19 u k xs := ownsRow_below HOw.out hb
            obtain ⟨v', w', hrun, hown', hgr, hat⟩ := Ap.run_append_at (P := Try.prog) x (nb + 1) 36 36 36 96 i0 _ 19 296 Try.underlying36 (append_side Try.underlying36) hi0 hz0 hz1 hz2 rfl (by decide) (by decide) u k xs hown (.slice (some ⟨b1, 0, none⟩) 1 1) 1 [.int .i64 0, .int .i64 0, .int .i64 0, .int .i64 0, .int .i64 0, .bool false, .int .i64 0, .int .i64 0, .string ⟨#[]⟩, .slice none 0 0, .slice none 0 0, .slice none 0 0, .slice none 0 0, .slice none 0 0, .int .i64 0, .string ⟨#[]⟩, .slice none 0 0, .slice none 0 0, .slice none 0 0] (src_cells (b := b1) (off := 0) rfl (by simp [Value.oneCell']) (.inr rfl) (fun j u1 hu1 => by simp only [World.cell?, h4, Nat.zero_add]; simpa using hu1)) (by have := HB.out; unfold maxLen; omega) (by have := HB.out; omega) (Nat.le_trans HNs.out hb.size)
            exact Ap.does_append u _ v' w' h48 h2 hrun ⟨by rw [if_pos rfl]; exact hgr, ⟨hown', x, hb, hgr, hat⟩, fun hh => by simp [Rs.upd] at hh⟩
          · intro vals wD ls _ hSD _ hL
            obtain ⟨g0, g1, g2, g3, g4, g5, g6, _⟩ := hL
            have hap : Apd wx u (nb + 1) 96 19 k xs [.int .i64 0, .int .i64 0, .int .i64 0, .int .i64 0, .int .i64 0, .bool false, .int .i64 0, .int .i64 0, .string ⟨#[]⟩, .slice none 0 0, .slice none 0 0, .slice none 0 0, .slice none 0 0, .slice none 0 0, .int .i64 0, .string ⟨#[]⟩, .slice none 0 0, .slice none 0 0, .slice none 0 0] (vals 6) wD := g6
            have q0 := g0; have q1 := g1
            simp only [Rg.putAll, List.take_succ_cons, List.take_zero, List.drop_succ_cons, List.drop_zero, List.setIfInBounds_toArray, List.set_cons_succ, List.set_cons_zero]
            rw [show vals 0 = .pointer (some ⟨g, off, none⟩) from g0]
            clear g0 g1 g2 g3 g4 g5 g6 q0 q1
            generalize vals 6 = u' at *
            generalize wD = w2 at *
            have HX2 : Hid (w2.heap[g]? = wr.heap[g]?) := HI.out.low HXX.out hap g (by have := HI.out.nlo; have := HC.out.lt; omega)
            obtain ⟨b, cap, curb, rfl, hJ⟩ := HI.out.push HXX.out hap hlt frame_st HT.out rfl HC.out.lt HG.out
            clear hap
            have HJ := Lib.hid hJ
            have x2 : w2.cell? ⟨g, off, none⟩ = some u := by rw [World.cell?_of_block HX2.out]; exact HX0.out
            have x3 : w2.frozen? ⟨g, off, none⟩ = false := by have h9 : Cut g (cur.set off u) t w2 := HX2.out.trans HI.out.cut; exact h9.frozen off
            clear hJ
            go_upto_region 11 with fail
            clear x2 x3 HX2
            generalize w2.setCell ⟨g, off, none⟩ (.slice (some ⟨b, 0, none⟩) (k + 1) cap) = w3' at *
            have x4 : w3'.cell? ⟨g, off, none⟩ = some (.slice (some ⟨b, 0, none⟩) (k + 1) cap) := (HJ.out.cut.cell off).trans (by rw [List.getElem?_set_self HOl.out])
            have hx := fun W => row_idx Try.underlying36 19 info_el_frame b 0 (k + 1) cap k (Nat.lt_succ_self k) W
            go_wp2_with fail
            clear hx x4
            have HZ3 := Lib.hid (zero_at HJ.out rfl)
            refine (frame_rk w3' F q lk 0 b (k * 19) curb 96 HJ.out.rk HJ.out.gb (by have := HZ3.out; first | exact this | (rw [Nat.mul_one] at this; exact this)) (by have := HJ.out.nb'; have := HNF.out; omega) rfl).mono ?_
            rintro r w4 hp
            obtain rfl := hp.1
            obtain ⟨vs, hI⟩ := HJ.out.next (by first | exact hp | (rw [Nat.mul_one]; exact hp)) frame_st rfl rfl rfl HG.out
            have HI2 := Lib.hid hI
            clear hp hI
            have hk9 := HI.out.k0
            go_wp2_with fail
            go_roundw
            case rel => exact ⟨k + 1, _, _, _, _, _, by go_num, HI2.out⟩
            case measure => simp [intOf]; omega
        · have t1 : decide (ek ≠ 0) = true := decide_eq_true he
          have HE := Lib.hid he
          clear he
          go_wp2_with fail
          refine (wrong_calls wr F ek c2).mono ?_
          rintro r w' ⟨rfl, rfl⟩
          rw [t1]
          clear t1
          go_wp2_with fail
          refine bodyPost_end (v := .tuple #[]) (results_none rfl _ _ _) rfl ?_
          exact HI.out.done (.inr HE.out) HOl.out
      · have u1 : decide ((k : Int) < z) = false := decide_eq_false (by have := HI.out.kN; omega)
        have u2 : ¬ ((k : Int) < z) := by have := HI.out.kN; omega
        go_wp2_with fail
        refine bodyPost_end (v := .tuple #[]) (results_none rfl _ _ _) rfl ?_
        exact HI.out.done (.inl (by omega)) HOl.out
end Go.Proofs.Ytmhofdoifgfjfaa
