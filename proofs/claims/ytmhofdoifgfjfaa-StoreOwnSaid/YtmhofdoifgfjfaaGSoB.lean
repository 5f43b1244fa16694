/-
  Store: a row of texts, read, its block new. Conditions: as each contract says.
  Store: a state, read, the names' block new. Conditions: as each contract says.
  Store: Unpack, the names' block new. Conditions: as each contract says.
  Store: Near, the names' block new. Conditions: as each contract says.
-/
import Derived.Test.YtmhofdoifgfjfaaStRowR
import Derived.Test.YtmhofdoifgfjfaaStAllR
import Derived.Test.YtmhofdoifgfjfaaStUnpack
import Derived.Deep.MidRow
import Derived.Deep.RegionLaw
import Derived.Test.YtmhofdoifgfjfaaSoNear
/-! SoRowB -/
set_option linter.unusedVariables false
set_option maxRecDepth 100000
namespace Go.Proofs.Ytmhofdoifgfjfaa
open Go.RowKit Base

/-- As RowH, the row's block not below B. -/
def RowHB (B : Nat) {α : Type} (k : Nat) (T : TypeId) (H : World → List Value → α → Prop) (W : World) (vs : List Value) (zs : List α) : Prop := ∃ u xs, vs = [u] ∧ W.ownsRow B T k u zs.length xs ∧ EachH k H W xs zs
theorem rowB_less {α : Type} {B B' k : Nat} {T : TypeId} {H : World → List Value → α → Prop} {W : World} {vs : List Value} {zs : List α} (h : RowHB B k T H W vs zs) (hb : B' ≤ B) : RowHB B' k T H W vs zs := by
  obtain ⟨u, xs, e, ho, he⟩ := h
  exact ⟨u, xs, e, own_base ho hb, he⟩
theorem rowB_row {α : Type} {B k : Nat} {T : TypeId} {H : World → List Value → α → Prop} {W : World} {vs : List Value} {zs : List α} (h : RowHB B k T H W vs zs) : RowH k T H W vs zs := rowB_less h (Nat.zero_le _)
theorem rowB_st {α : Type} {S : TypeId → Bool} {B k : Nat} {T : TypeId} {H : World → List Value → α → Prop} (hs : St S H) (hT : S T = true) : St S (RowHB B k T H) := by
  refine ⟨?_⟩
  rintro W W' vs zs ⟨u, xs, e, ho, he⟩ hk
  exact ⟨u, xs, e, own_kept ho hk hT, each_st hs he hk⟩
theorem RowI.doneB {α : Type} {c : Cd α} {H : World → List Value → α → Prop} {K : Nat} {T : TypeId} {W0 : World} {F q g off : Nat} {cur : List Value} {t : TypeId} {nb : Nat} {z : Int} {l : Nm} {e : Int} {k : Nat}
    {u : Value} {xs : List Value} {zs : List α} {lk : Nm} {ek : Int} {wr : World} (h : RowI c H K T W0 F q g off cur t nb z l e k u xs zs lk ek wr) (hk : z.toNat - k = 0 ∨ ek ≠ 0) (ho : off < cur.length) :
    RkPostH F q g off cur 1 t (RowHB W0.heap.size K T H) ((rowC c).dec l e).1 ((rowC c).dec l e).2.1 ((rowC c).dec l e).2.2 W0 (.returned (.tuple #[])) wr := by
  have hd := h.dec
  have hnl := h.nlo
  rw [rows_last hk, List.append_nil] at hd
  rw [hd]
  refine ⟨rfl, h.rk, ⟨[u], rfl, ?_, u, xs, rfl, ?_, h.each⟩, h.up⟩
  · rw [splice_one _ _ _ ho]
    exact h.cut
  · rw [h.len]
    exact own_base h.own (by omega)
set_option maxHeartbeats 4000000 in
theorem row_stringB_rk (W : World) (F q : Nat) (l : Nm) (e : Int) (g off : Nat) (cur : List Value) (t : TypeId) (h : RkI F q l e W) (hc : Cut g cur t W) (h0 : Zer cur off [.slice none 0 0]) (hg : F < g) (ht : (noT) t = false) :
    Calls Try.prog 38 #[.pointer (some ⟨F, 0, none⟩), .pointer (some ⟨g, off, none⟩), .func (.func 39) #[] #[]] W
      (RkPostH F q g off cur 1 t (RowHB W.heap.size 1 9 (flatH txtV)) ((rowC txtC).dec l e).1 ((rowC txtC).dec l e).2.1 ((rowC txtC).dec l e).2.2 W) := by
  obtain ⟨i0, hi0, hz0, hz1, hz2⟩ := info_parts info_z_string
  have hzc : cur[off]? = some (.slice none 0 0) := h0 0 Nat.zero_lt_one
  have HOl : Hid (off < cur.length) := (List.getElem?_eq_some_iff.1 hzc).1
  have x0 : W.cell? ⟨g, off, none⟩ = some (.slice none 0 0) := (hc.cell off).trans hzc
  have HR := Lib.hid h
  have HC := Lib.hid hc
  have HG := Lib.hid hg
  have HT := Lib.hid ht
  have HZc := Lib.hid hzc
  clear h hc h0 hg ht hzc
  go_enter Try.func38, Try.ntmps38
  go_upto_region 1 with fail
  clear x0
  obtain ⟨nb, w2, hw2, hnbe, hk4, hbb⟩ : ∃ nb w2, W.alloc (.cells #[.int .i64 0] 3) = w2 ∧ W.heap.size = nb ∧ w2.heap[nb]? = some (.cells #[.int .i64 0] 3) ∧ Below W.heap.size W w2 :=
    ⟨_, _, rfl, rfl, heap_alloc_new W _, (Below.refl W.heap.size W).alloc (Nat.le_refl _) _⟩
  have HBb := Lib.hid hbb
  have HK4 : Hid (Cut nb [.int .i64 0] 3 w2) := hk4
  have HR2 := Lib.hid (HR.out.below hbb)
  have HNb := Lib.hid hnbe
  have HNF : Hid (F < nb) := by have := HR.out.F_lt; show _ < _; omega
  rw [hw2, hnbe]
  clear hbb hk4 hw2 hnbe
  go_wp2_with fail
  refine (rk_int_calls w2 F q l e nb 0 [.int .i64 0] 3 HR2.out HK4.out rfl HNF.out).mono ?_
  rintro r w3 ⟨rfl, hr, hcu, hu⟩
  have hkd : Cut nb [.int .i64 (numC.dec l e).1] 3 w3 := hcu
  have HD : Hid ((rowC txtC).dec l e = rowsN txtC (numC.dec l e).1.toNat (numC.dec l e).2.1 (mustE (mostN (numC.dec l e).1) (numC.dec l e).2.2 11)) := rfl
  clear hcu
  generalize (numC.dec l e).1 = z at *
  generalize (numC.dec l e).2.1 = l1 at *
  generalize (numC.dec l e).2.2 = e1 at *
  have HR3 := Lib.hid hr
  have HK5 : Hid (w3.heap[nb]? = some (.cells #[.int .i64 z] 3)) := hkd
  have hgw := HC.out.lt
  have HC3 : Hid (Cut g cur t w3) := (hu.block g (Nat.lt_of_lt_of_le hgw HBb.out.size) (by have := HG.out; omega) (by have := HG.out; have := HR.out.lt; omega) (by have := HNb.out; omega)).trans ((HBb.out.block g hgw).trans HC.out)
  have HU3 : Hid (RUp F q g W w3) := ⟨hu.os.trans HBb.out.os, hu.tape.trans HBb.out.tape, hu.output.trans HBb.out.output, Nat.le_trans HBb.out.size hu.size, fun j hj a b _ => (hu.block j (Nat.lt_of_lt_of_le hj HBb.out.size) a b (by have := HNb.out; omega)).trans (HBb.out.block j hj)⟩
  clear hr hkd hu hgw
  obtain ⟨⟨c0, c1, c2⟩, f0, f1, f2⟩ := three HR3.out.k
  go_upto_region 3 with fail
  clear c0 c1 c2 f0 f1 f2
  go_cut [27] from 20 to 27 (fun s27 wx => RkI F q l1 (mustE (mostN z) e1 11) wx ∧ Cut g cur t wx ∧ wx.heap[nb]? = some (.cells #[.int .i64 z] 3) ∧ RUp F q g W wx)
  case first =>
    obtain ⟨⟨c0, c1, c2⟩, f0, f1, f2⟩ := three HR3.out.k
    obtain ⟨y0, y1⟩ := one_cell HK5.out
    by_cases n0 : 0 ≤ z
    · by_cases n1 : z ≤ 100000
      · have u0 : decide (0 ≤ z) = true := decide_eq_true n0
        have u1 : decide (z ≤ 100000) = true := decide_eq_true n1
        have HM : Hid (mostN z = true) := by show mostN z = true; unfold mostN; rw [u0, u1]; rfl
        go_wp2_with fail
        refine (must_calls w3 F q l1 e1 true 11 HR3.out).mono ?_
        rintro r w4 ⟨rfl, hr4, hu4, hn4⟩
        rw [← HM.out] at hr4
        have HR4 := Lib.hid hr4
        have HC4 : Hid (Cut g cur t w4) := (hn4 g (by have := HG.out; omega)).trans HC3.out
        have HK6 := Lib.hid ((hn4 nb (by have := HNF.out; omega)).trans HK5.out)
        have HU4 := Lib.hid (HU3.out.trans (hu4 g))
        clear c0 c1 c2 f0 f1 f2 y0 y1 hr4 hu4 hn4 n0 n1 u0 u1
        go_wp2_with fail
        go_meet
        exact ⟨HR4.out, HC4.out, HK6.out, HU4.out⟩
      · have u0 : decide (0 ≤ z) = true := decide_eq_true n0
        have u1 : decide (z ≤ 100000) = false := decide_eq_false n1
        have HM : Hid (mostN z = false) := by show mostN z = false; unfold mostN; rw [u0, u1]; rfl
        go_wp2_with fail
        refine (must_calls w3 F q l1 e1 false 11 HR3.out).mono ?_
        rintro r w4 ⟨rfl, hr4, hu4, hn4⟩
        rw [← HM.out] at hr4
        have HR4 := Lib.hid hr4
        have HC4 : Hid (Cut g cur t w4) := (hn4 g (by have := HG.out; omega)).trans HC3.out
        have HK6 := Lib.hid ((hn4 nb (by have := HNF.out; omega)).trans HK5.out)
        have HU4 := Lib.hid (HU3.out.trans (hu4 g))
        clear c0 c1 c2 f0 f1 f2 y0 y1 hr4 hu4 hn4 n0 n1 u0 u1
        go_wp2_with fail
        go_meet
        exact ⟨HR4.out, HC4.out, HK6.out, HU4.out⟩
    · have u0 : decide (0 ≤ z) = false := decide_eq_false n0
      have HM : Hid (mostN z = false) := by show mostN z = false; unfold mostN; rw [u0]; rfl
      go_wp2_with fail
      refine (must_calls w3 F q l1 e1 false 11 HR3.out).mono ?_
      rintro r w4 ⟨rfl, hr4, hu4, hn4⟩
      rw [← HM.out] at hr4
      have HR4 := Lib.hid hr4
      have HC4 : Hid (Cut g cur t w4) := (hn4 g (by have := HG.out; omega)).trans HC3.out
      have HK6 := Lib.hid ((hn4 nb (by have := HNF.out; omega)).trans HK5.out)
      have HU4 := Lib.hid (HU3.out.trans (hu4 g))
      clear c0 c1 c2 f0 f1 f2 y0 y1 hr4 hu4 hn4 n0 u0
      go_wp2_with fail
      go_meet
      exact ⟨HR4.out, HC4.out, HK6.out, HU4.out⟩
  case rest =>
    obtain ⟨hr4, hc4, hk6, hu4⟩ := hcut
    have HBig : Hid (mustE (mostN z) e1 11 = 0 → z.toNat ≤ 100000) := by
      intro hm
      rcases hq : mostN z with _ | _
      · rw [hq] at hm
        by_cases he : e1 = 0
        · rw [he, mustE_no] at hm; exact absurd hm (by decide)
        · rw [mustE_stop he] at hm; exact absurd hm he
      · unfold mostN at hq
        rw [Bool.and_eq_true, decide_eq_true_eq, decide_eq_true_eq] at hq
        omega
    generalize mustE (mostN z) e1 11 = e2 at *
    have HI0 : Hid (RowI txtC (flatH txtV) 1 9 W F q g off cur t nb z l e 0 (.slice none 0 0) [] [] l1 e2 wc) := by
      have e9 : cur.set off (.slice none 0 0) = cur := by
        obtain ⟨h1, h2⟩ := List.getElem?_eq_some_iff.1 HZc.out
        rw [← h2]
        exact List.set_getElem_self h1
      exact ⟨Nat.zero_le _, Nat.zero_le _, HBig.out, HD.out, rfl, hr4, by rw [e9]; exact hc4, World.ownsRow_nil _ _ _ _, each_nil _ _ _, hk6, by have := HNb.out; omega, hu4⟩
    have HX0 := Lib.hid ((hc4.cell off).trans HZc.out)
    have x0 := HX0.out
    have x1 := hc4.frozen off
    clear hr4 hc4 hk6 hu4
    go_upto_region 5 with fail
    clear x0 x1
    rw [set_same HX0.out]
    go_wp2_with fail
    go_loopw [7, 8] (fun v7 v8 wr => ∃ (k : Nat) (u : Value) (xs : List Value) (zs : List Nm) (lk : Nm) (ek : Int), v7 = .int .i64 k ∧ RowI txtC (flatH txtV) 1 9 W F q g off cur t nb z l e k u xs zs lk ek wr) (fun v7 _ _ => z.toNat - (intOf v7).toNat)
    case atStart => exact ⟨0, _, _, _, _, _, rfl, HI0.out⟩
    case round =>
      obtain ⟨k, u, xs, zs, lk, ek, rfl, hI⟩ := hrel
      have HI := Lib.hid hI
      obtain ⟨⟨c0, c1, c2⟩, f0, f1, f2⟩ := three hI.rk.k
      obtain ⟨y0, y1⟩ := one_cell hI.nbk
      clear hI
      by_cases hlt : k < z.toNat
      · have u1 : decide ((k : Int) < z) = true := decide_eq_true (by omega)
        have u2 : (k : Int) < z := by omega
        by_cases he : ek = 0
        · subst he
          have HB := Lib.hid (HI.out.big rfl)
          have x0 : wr.cell? ⟨g, off, none⟩ = some u := (HI.out.cut.cell off).trans (by rw [List.getElem?_set_self HOl.out])
          have HX0 := Lib.hid x0
          go_wp2_with fail
          refine (wrong_calls wr F 0 c2).mono ?_
          rintro r w' ⟨rfl, rfl⟩
          rw [show decide ((0 : Int) ≠ 0) = false from rfl]
          clear u1 u2
          have HOA : Hid (World.ownsRow (wr.alloc (.cells #[.string ⟨#[]⟩] 9)) (nb + 1) 9 1 u k xs) := HI.out.own.alloc _
          have HSz : Hid (nb + 1 ≤ (wr.alloc (.cells #[.string ⟨#[]⟩] 9)).heap.size) := by have := HI.out.nlt; show _ ≤ _; rw [World.size_alloc]; omega
          have HAl := Lib.hid ((Below.refl wr.heap.size wr).alloc (Nat.le_refl _) (.cells #[.string ⟨#[]⟩] 9))
          go_wp2_with (at_builtin; refine Ap.wpList_append_at rfl (.tmp 48) (.tmp 50) 27 27 rfl (nb + 1) 9 i0 _ 1 16 Try.underlying27 (append_side Try.underlying27) hi0 hz0 hz1 hz2 rfl (by decide) (by decide) u k xs rfl HOA.out _ 1 [.string ⟨#[]⟩] rfl (src_new wr [.string ⟨#[]⟩] 9 1 1 rfl (by simp [Value.oneCell']) _) ?_ ?_ ?_ ?_)
          case _ => have := HB.out; unfold maxLen; omega
          case _ => have := HB.out; omega
          case _ => exact HSz.out
          intro u' w2 hown hgr hat
          have hap : Apd wr u (nb + 1) 9 1 k xs [.string ⟨#[]⟩] u' w2 := ⟨hown, _, HAl.out, hgr, fun j h1 h2 => hat j h1 (by simpa using h2)⟩
          have HX2 : Hid (w2.heap[g]? = wr.heap[g]?) := HI.out.low (Below.refl _ _) hap g (by have := HI.out.nlo; have := HC.out.lt; omega)
          obtain ⟨b, cap, curb, rfl, hJ⟩ := HI.out.push (Below.refl _ _) hap hlt (flat_st noT txtV) HT.out rfl HC.out.lt HG.out
          clear hown hgr hat hap
          have HJ := Lib.hid hJ
          have x2 : w2.cell? ⟨g, off, none⟩ = some u := by rw [World.cell?_of_block HX2.out]; exact HX0.out
          have x3 : w2.frozen? ⟨g, off, none⟩ = false := by have h9 : Cut g (cur.set off u) t w2 := HX2.out.trans HI.out.cut; exact h9.frozen off
          clear hJ
          go_upto_region 11 with fail
          clear x2 x3 HX2
          generalize w2.setCell ⟨g, off, none⟩ (.slice (some ⟨b, 0, none⟩) (k + 1) cap) = w3' at *
          have x4 : w3'.cell? ⟨g, off, none⟩ = some (.slice (some ⟨b, 0, none⟩) (k + 1) cap) := (HJ.out.cut.cell off).trans (by rw [List.getElem?_set_self HOl.out])
          have hx := fun W => row_idx Try.underlying27 1 info_el_string b 0 (k + 1) cap k (Nat.lt_succ_self k) W
          go_wp2_with fail
          clear hx x4
          have HZ3 := Lib.hid (zero_at HJ.out rfl)
          refine ((text_rk.h (fun _ => rfl)) w3' F q lk 0 b k curb 9 HJ.out.rk HJ.out.gb (by have := HZ3.out; first | exact this | (rw [Nat.mul_one] at this; exact this)) (by have := HJ.out.nb'; have := HNF.out; omega) rfl).mono ?_
          rintro r w4 hp
          obtain rfl := hp.1
          obtain ⟨vs, hI⟩ := HJ.out.next (by first | exact hp | (rw [Nat.mul_one]; exact hp)) (flat_st noT txtV) rfl rfl rfl HG.out
          have HI2 := Lib.hid hI
          clear hp hI
          have hk9 := HI.out.k0
          go_wp2_with fail
          go_roundw
          case rel => exact ⟨k + 1, _, _, _, _, _, by go_num, HI2.out⟩
          case measure => simp [intOf]; omega
        · have t1 : decide (ek ≠ 0) = true := decide_eq_true he
          have HE := Lib.hid he
          clear he
          go_wp2_with fail
          refine (wrong_calls wr F ek c2).mono ?_
          rintro r w' ⟨rfl, rfl⟩
          rw [t1]
          clear t1
          go_wp2_with fail
          refine bodyPost_end (v := .tuple #[]) (results_none rfl _ _ _) rfl ?_
          exact HI.out.doneB (.inr HE.out) HOl.out
      · have u1 : decide ((k : Int) < z) = false := decide_eq_false (by have := HI.out.kN; omega)
        have u2 : ¬ ((k : Int) < z) := by have := HI.out.kN; omega
        go_wp2_with fail
        refine bodyPost_end (v := .tuple #[]) (results_none rfl _ _ _) rfl ?_
        exact HI.out.doneB (.inl (by omega)) HOl.out
end Go.Proofs.Ytmhofdoifgfjfaa

/-! SoAllB -/
set_option linter.unusedVariables false
set_option maxRecDepth 100000
namespace Go.Proofs.Ytmhofdoifgfjfaa
open Go.RowKit Base

abbrev strsB (B : Nat) := RowHB B 1 9 (flatH txtV)
/-- As stateH, the names' block not below B. -/
def stateB (B : Nat) : World → List Value → StateD → Prop := pairH 7 keepH (pairH 1 (strsB B) (pairH 1 framesH (pairH 5 reqH (pairH 7 ansH (pairH 1 intsH (pairH 3 (flatH num3V) (pairH 3 (flatH bit3V) (flatH numV))))))))
theorem strsB_st (B : Nat) : St inner2 (strsB B) := rowB_st (flat_st _ _) rfl
theorem stateB_st (B : Nat) : St inner2 (stateB B) := pair_st (st_less keep_st inner_less) (pair_st (strsB_st B) (pair_st frames_st (pair_st (st_less req_st inner_less) (pair_st (st_less ans_st inner_less) (pair_st ints_st (pair_st (flat_st _ _) (pair_st (flat_st _ _) (flat_st _ _))))))))
theorem stateB_state {B : Nat} {W : World} {vs : List Value} {s : StateD} (h : stateB B W vs s) : stateH W vs s := by
  obtain ⟨v1, v2, e, hl, g1, v3, v4, e', hl', g2, g3⟩ := h
  exact ⟨v1, v2, e, hl, g1, v3, v4, e', hl', rowB_row g2, g3⟩
theorem rowB_rk (B : Nat) (W : World) (F q : Nat) (l : Nm) (e : Int) (g off : Nat) (cur : List Value) (t : TypeId) (h : RkI F q l e W) (hc : Cut g cur t W) (h0 : Zer cur off [.slice none 0 0]) (hg : F < g) (ht : noT t = false) (hB : B ≤ W.heap.size) :
    Calls Try.prog 38 #[.pointer (some ⟨F, 0, none⟩), .pointer (some ⟨g, off, none⟩), .func (.func 39) #[] #[]] W
      (RkPostH F q g off cur 1 t (strsB B) ((rowC txtC).dec l e).1 ((rowC txtC).dec l e).2.1 ((rowC txtC).dec l e).2.2 W) := by
  refine (row_stringB_rk W F q l e g off cur t h hc h0 hg ht).mono ?_
  rintro r W' ⟨h1, h2, ⟨vs, hl, hcu, hH⟩, h4⟩
  exact ⟨h1, h2, ⟨vs, hl, hcu, rowB_less hH hB⟩, h4⟩
set_option maxHeartbeats 4000000 in
theorem all_rkB (B : Nat) (W : World) (F q : Nat) (l0 : Nm) (e0 : Int) (g off : Nat) (cur : List Value) (t : TypeId) (hr : RkI F q l0 e0 W) (hc : Cut g cur t W) (hz : Zer cur off [.slice none 0 0, .slice none 0 0, .int .i64 0, .string ⟨#[]⟩, .slice none 0 0, .slice none 0 0, .slice none 0 0, .slice none 0 0, .slice none 0 0, .int .i64 0, .int .i64 0, .int .i64 0, .string ⟨#[]⟩, .slice none 0 0, .int .i64 0, .int .i64 0, .int .i64 0, .int .i64 0, .string ⟨#[]⟩, .slice none 0 0, .int .i64 0, .slice none 0 0, .int .i64 0, .int .i64 0, .int .i64 0, .bool false, .bool false, .bool false, .int .i64 0]) (hg : F < g) (ht : inner2 t = false) (hBz : B ≤ W.heap.size) :
    Calls Try.prog 27 #[.pointer (some ⟨F, 0, none⟩), .pointer (some ⟨g, off, none⟩)] W (RkPostH F q g off cur 29 t (stateB B) (stateC.dec l0 e0).1 (stateC.dec l0 e0).2.1 (stateC.dec l0 e0).2.2 W) := by
  have HBz := Lib.hid hBz
  clear hBz
  have HR0 := Lib.hid hr
  have HC0 := Lib.hid hc
  have HZ0 : Hid (Zer cur off ([.slice none 0 0, .slice none 0 0, .int .i64 0, .string ⟨#[]⟩, .slice none 0 0, .slice none 0 0, .slice none 0 0] ++ ([.slice none 0 0] ++ ([.slice none 0 0] ++ ([.int .i64 0, .int .i64 0, .int .i64 0, .string ⟨#[]⟩, .slice none 0 0] ++ ([.int .i64 0, .int .i64 0, .int .i64 0, .int .i64 0, .string ⟨#[]⟩, .slice none 0 0, .int .i64 0] ++ ([.slice none 0 0] ++ ([.int .i64 0, .int .i64 0, .int .i64 0] ++ ([.bool false, .bool false, .bool false] ++ ([.int .i64 0])))))))))) := hz
  have HBd : Hid (off + 29 ≤ cur.length) := (zer_all hz).resolve_left (fun h => by cases h)
  have HG := Lib.hid hg
  have HT := Lib.hid ht
  clear hr hc hz hg ht
  go_enter Try.func27, Try.ntmps27
  go_wp2_with fail
  refine (keep_rk W F q l0 e0 g off _ t HR0.out HC0.out (zer_fst HZ0.out) HG.out (inner_no HT.out)).mono ?_
  rintro r w1 ⟨rfl, hr, ⟨v1, hl, hc, hH⟩, hu⟩
  obtain ⟨⟨a1, l1, e1⟩, hd⟩ : ∃ x, (keepC).dec l0 e0 = x := ⟨_, rfl⟩
  rw [hd] at hr hH
  have HD1 := Lib.hid hd
  have HR1 : Hid (RkI F q l1 e1 w1) := hr
  have HL1 : Hid (v1.length = 7) := hl
  have HK1 : Hid (Kept (inner2) W w1) := Kept.up HR0.out HC0.out HT.out rfl rfl hu
  have HH1 : Hid ((keepH) w1 v1 a1) := hH
  have HU1 := Lib.hid hu
  have HC1 : Hid (Cut g (splice cur off (v1)) t w1) := hc
  have HV1 := HL1
  have HZ1 : Hid (Zer (splice cur off v1) (off + 7) ([.slice none 0 0] ++ ([.slice none 0 0] ++ ([.int .i64 0, .int .i64 0, .int .i64 0, .string ⟨#[]⟩, .slice none 0 0] ++ ([.int .i64 0, .int .i64 0, .int .i64 0, .int .i64 0, .string ⟨#[]⟩, .slice none 0 0, .int .i64 0] ++ ([.slice none 0 0] ++ ([.int .i64 0, .int .i64 0, .int .i64 0] ++ ([.bool false, .bool false, .bool false] ++ ([.int .i64 0]))))))))) := zer_step HZ0.out HL1.out rfl rfl
  clear hr hl hc hH hu hd
  go_wp2_with fail
  refine (rowB_rk B w1 F q l1 e1 g (off + 7) _ t HR1.out HC1.out (zer_fst HZ1.out) HG.out rfl (Nat.le_trans HBz.out HU1.out.size)).mono ?_
  rintro r w2 ⟨rfl, hr, ⟨v2, hl, hc, hH⟩, hu⟩
  obtain ⟨⟨a2, l2, e2⟩, hd⟩ : ∃ x, (rowC txtC).dec l1 e1 = x := ⟨_, rfl⟩
  rw [hd] at hr hH
  have HD2 := Lib.hid hd
  have HR2 : Hid (RkI F q l2 e2 w2) := hr
  have HL2 : Hid (v2.length = 1) := hl
  have HK2 : Hid (Kept (inner2) w1 w2) := Kept.up HR1.out HC1.out HT.out rfl rfl hu
  have HH2 : Hid ((strsB B) w2 v2 a2) := hH
  have HU2 := Lib.hid (HU1.out.trans hu)
  rw [splice_two (k := 7) HV1.out rfl (by have := HBd.out; omega)] at hc
  have HC2 : Hid (Cut g (splice cur off (v1 ++ v2)) t w2) := hc
  have HV2 : Hid ((v1 ++ v2).length = 8) := by show _ = _; rw [List.length_append, HV1.out, HL2.out]
  have hz := zer_step (off' := off + 8) HZ1.out HL2.out rfl (by omega)
  rw [splice_two (k := 7) HV1.out rfl (by have := HBd.out; omega)] at hz
  have HZ2 : Hid (Zer (splice cur off (v1 ++ v2)) (off + 8) ([.slice none 0 0] ++ ([.int .i64 0, .int .i64 0, .int .i64 0, .string ⟨#[]⟩, .slice none 0 0] ++ ([.int .i64 0, .int .i64 0, .int .i64 0, .int .i64 0, .string ⟨#[]⟩, .slice none 0 0, .int .i64 0] ++ ([.slice none 0 0] ++ ([.int .i64 0, .int .i64 0, .int .i64 0] ++ ([.bool false, .bool false, .bool false] ++ ([.int .i64 0])))))))) := hz
  clear hz
  clear hr hl hc hH hu hd
  go_wp2_with fail
  refine (row_frame_rk w2 F q l2 e2 g (off + 8) _ t HR2.out HC2.out (zer_fst HZ2.out) HG.out (inner_no HT.out)).mono ?_
  rintro r w3 ⟨rfl, hr, ⟨v3, hl, hc, hH⟩, hu⟩
  obtain ⟨⟨a3, l3, e3⟩, hd⟩ : ∃ x, (rowC frameC).dec l2 e2 = x := ⟨_, rfl⟩
  rw [hd] at hr hH
  have HD3 := Lib.hid hd
  have HR3 : Hid (RkI F q l3 e3 w3) := hr
  have HL3 : Hid (v3.length = 1) := hl
  have HK3 : Hid (Kept (inner2) w2 w3) := Kept.up HR2.out HC2.out HT.out rfl rfl hu
  have HH3 : Hid ((framesH) w3 v3 a3) := hH
  have HU3 := Lib.hid (HU2.out.trans hu)
  rw [splice_two (k := 8) HV2.out rfl (by have := HBd.out; omega)] at hc
  have HC3 : Hid (Cut g (splice cur off (v1 ++ v2 ++ v3)) t w3) := hc
  have HV3 : Hid ((v1 ++ v2 ++ v3).length = 9) := by show _ = _; rw [List.length_append, HV2.out, HL3.out]
  have hz := zer_step (off' := off + 9) HZ2.out HL3.out rfl (by omega)
  rw [splice_two (k := 8) HV2.out rfl (by have := HBd.out; omega)] at hz
  have HZ3 : Hid (Zer (splice cur off (v1 ++ v2 ++ v3)) (off + 9) ([.int .i64 0, .int .i64 0, .int .i64 0, .string ⟨#[]⟩, .slice none 0 0] ++ ([.int .i64 0, .int .i64 0, .int .i64 0, .int .i64 0, .string ⟨#[]⟩, .slice none 0 0, .int .i64 0] ++ ([.slice none 0 0] ++ ([.int .i64 0, .int .i64 0, .int .i64 0] ++ ([.bool false, .bool false, .bool false] ++ ([.int .i64 0]))))))) := hz
  clear hz
  clear hr hl hc hH hu hd
  go_wp2_with fail
  refine (request_rk w3 F q l3 e3 g (off + 9) _ t HR3.out HC3.out (zer_fst HZ3.out) HG.out (inner_no HT.out)).mono ?_
  rintro r w4 ⟨rfl, hr, ⟨v4, hl, hc, hH⟩, hu⟩
  obtain ⟨⟨a4, l4, e4⟩, hd⟩ : ∃ x, (reqC).dec l3 e3 = x := ⟨_, rfl⟩
  rw [hd] at hr hH
  have HD4 := Lib.hid hd
  have HR4 : Hid (RkI F q l4 e4 w4) := hr
  have HL4 : Hid (v4.length = 5) := hl
  have HK4 : Hid (Kept (inner2) w3 w4) := Kept.up HR3.out HC3.out HT.out rfl rfl hu
  have HH4 : Hid ((reqH) w4 v4 a4) := hH
  have HU4 := Lib.hid (HU3.out.trans hu)
  rw [splice_two (k := 9) HV3.out rfl (by have := HBd.out; omega)] at hc
  have HC4 : Hid (Cut g (splice cur off (v1 ++ v2 ++ v3 ++ v4)) t w4) := hc
  have HV4 : Hid ((v1 ++ v2 ++ v3 ++ v4).length = 14) := by show _ = _; rw [List.length_append, HV3.out, HL4.out]
  have hz := zer_step (off' := off + 14) HZ3.out HL4.out rfl (by omega)
  rw [splice_two (k := 9) HV3.out rfl (by have := HBd.out; omega)] at hz
  have HZ4 : Hid (Zer (splice cur off (v1 ++ v2 ++ v3 ++ v4)) (off + 14) ([.int .i64 0, .int .i64 0, .int .i64 0, .int .i64 0, .string ⟨#[]⟩, .slice none 0 0, .int .i64 0] ++ ([.slice none 0 0] ++ ([.int .i64 0, .int .i64 0, .int .i64 0] ++ ([.bool false, .bool false, .bool false] ++ ([.int .i64 0])))))) := hz
  clear hz
  clear hr hl hc hH hu hd
  go_wp2_with fail
  refine (answer_rk w4 F q l4 e4 g (off + 14) _ t HR4.out HC4.out (zer_fst HZ4.out) HG.out (inner_no HT.out)).mono ?_
  rintro r w5 ⟨rfl, hr, ⟨v5, hl, hc, hH⟩, hu⟩
  obtain ⟨⟨a5, l5, e5⟩, hd⟩ : ∃ x, (ansC).dec l4 e4 = x := ⟨_, rfl⟩
  rw [hd] at hr hH
  have HD5 := Lib.hid hd
  have HR5 : Hid (RkI F q l5 e5 w5) := hr
  have HL5 : Hid (v5.length = 7) := hl
  have HK5 : Hid (Kept (inner2) w4 w5) := Kept.up HR4.out HC4.out HT.out rfl rfl hu
  have HH5 : Hid ((ansH) w5 v5 a5) := hH
  have HU5 := Lib.hid (HU4.out.trans hu)
  rw [splice_two (k := 14) HV4.out rfl (by have := HBd.out; omega)] at hc
  have HC5 : Hid (Cut g (splice cur off (v1 ++ v2 ++ v3 ++ v4 ++ v5)) t w5) := hc
  have HV5 : Hid ((v1 ++ v2 ++ v3 ++ v4 ++ v5).length = 21) := by show _ = _; rw [List.length_append, HV4.out, HL5.out]
  have hz := zer_step (off' := off + 21) HZ4.out HL5.out rfl (by omega)
  rw [splice_two (k := 14) HV4.out rfl (by have := HBd.out; omega)] at hz
  have HZ5 : Hid (Zer (splice cur off (v1 ++ v2 ++ v3 ++ v4 ++ v5)) (off + 21) ([.slice none 0 0] ++ ([.int .i64 0, .int .i64 0, .int .i64 0] ++ ([.bool false, .bool false, .bool false] ++ ([.int .i64 0]))))) := hz
  clear hz
  clear hr hl hc hH hu hd
  go_wp2_with fail
  refine (row_int_rk w5 F q l5 e5 g (off + 21) _ t HR5.out HC5.out (zer_fst HZ5.out) HG.out rfl).mono ?_
  rintro r w6 ⟨rfl, hr, ⟨v6, hl, hc, hH⟩, hu⟩
  obtain ⟨⟨a6, l6, e6⟩, hd⟩ : ∃ x, (rowC numC).dec l5 e5 = x := ⟨_, rfl⟩
  rw [hd] at hr hH
  have HD6 := Lib.hid hd
  have HR6 : Hid (RkI F q l6 e6 w6) := hr
  have HL6 : Hid (v6.length = 1) := hl
  have HK6 : Hid (Kept (inner2) w5 w6) := Kept.up HR5.out HC5.out HT.out rfl rfl hu
  have HH6 : Hid ((intsH) w6 v6 a6) := hH
  have HU6 := Lib.hid (HU5.out.trans hu)
  rw [splice_two (k := 21) HV5.out rfl (by have := HBd.out; omega)] at hc
  have HC6 : Hid (Cut g (splice cur off (v1 ++ v2 ++ v3 ++ v4 ++ v5 ++ v6)) t w6) := hc
  have HV6 : Hid ((v1 ++ v2 ++ v3 ++ v4 ++ v5 ++ v6).length = 22) := by show _ = _; rw [List.length_append, HV5.out, HL6.out]
  have hz := zer_step (off' := off + 22) HZ5.out HL6.out rfl (by omega)
  rw [splice_two (k := 21) HV5.out rfl (by have := HBd.out; omega)] at hz
  have HZ6 : Hid (Zer (splice cur off (v1 ++ v2 ++ v3 ++ v4 ++ v5 ++ v6)) (off + 22) ([.int .i64 0, .int .i64 0, .int .i64 0] ++ ([.bool false, .bool false, .bool false] ++ ([.int .i64 0])))) := hz
  clear hz
  clear hr hl hc hH hu hd
  go_upto_region 6 with fail
  generalize hcc : splice cur off (v1 ++ v2 ++ v3 ++ v4 ++ v5 ++ v6) = cu6 at *
  have HCC6 := Lib.hid hcc
  clear hcc
  refine Rt.wp_region_rkt 12 [] [Rg.Is (.pointer (some ⟨F, 0, none⟩)), Rg.Is (.pointer (some ⟨g, off, none⟩)), Rg.Is (.pointer (some ⟨g, off, none⟩)), Rg.Is (.pointer (some ⟨g, off + 22, none⟩)), Rg.Is (.pointer (some ⟨g, off, none⟩)), Rg.Is (.pointer (some ⟨g, off, none⟩)), Rg.Is (.pointer (some ⟨g, off + 23, none⟩)), Rg.Is (.pointer (some ⟨g, off, none⟩)), Rg.Is (.pointer (some ⟨g, off, none⟩)), Rg.Is (.pointer (some ⟨g, off + 24, none⟩)), (fun u x => ∃ b, u = .slice (some ⟨b, 0, none⟩) 3 3 ∧ w6.heap.size ≤ b ∧ x.heap[b]? = some (.cells #[.pointer (some ⟨g, off + 22, none⟩), .pointer (some ⟨g, off + 23, none⟩), .pointer (some ⟨g, off + 24, none⟩)] 107)), (fun u x => u = .tuple #[] ∧ RkI F q ((pairC numC (pairC numC numC)).dec l6 e6).2.1 ((pairC numC (pairC numC numC)).dec l6 e6).2.2 x ∧ Cut g (splice cu6 (off + 22) (num3V ((pairC numC (pairC numC numC)).dec l6 e6).1)) t x ∧ RUp F q g w6 x)] (fun _ _ => True) (fun ls x => ls 11 = false → Below w6.heap.size w6 x) (fun k x y => if k = 11 then (RUp F q g x y) else Below x.heap.size x y) (by kernel_rfl) (by kernel_rfl) (of_decide_eq_true (by kernel_rfl)) (by kernel_rfl) (by kernel_rfl) trivial (fun _ => ⟨rfl, rfl, rfl, Nat.le_refl _, fun _ _ => rfl⟩) (fun ls ls' x e h1 h2 => h1 (by rw [e]; exact h2)) (fun _ _ _ _ _ => trivial) (fun i ls x _ h1 => by rw [show ([] : List Bool).getD i true = true from rfl] at h1; cases h1) ?_ ⟨rfl, rfl, rfl, rfl, rfl, rfl, rfl, rfl, rfl, rfl, rfl, rfl, trivial⟩ ⟨?_, ?_, ?_, ?_, ?_, ?_, ?_, ?_, ?_, ?_, ?_, ?_, trivial⟩ ?_
  · intro i k u x y hik _ h1 hK
    match i, h1, hik with
    | 0, h1, _ => exact h1
    | 1, h1, _ => exact h1
    | 2, h1, _ => exact h1
    | 3, h1, _ => exact h1
    | 4, h1, _ => exact h1
    | 5, h1, _ => exact h1
    | 6, h1, _ => exact h1
    | 7, h1, _ => exact h1
    | 8, h1, _ => exact h1
    | 9, h1, _ => exact h1
    | 10, h1, hik =>
      obtain ⟨b, h2, h4, h5⟩ := h1
      have hbs := (Array.getElem?_eq_some_iff.1 h5).1
      by_cases hk : k = 11
      · subst hk
        rw [if_pos rfl] at hK
        have h9 : y.heap[b]? = x.heap[b]? := hK.block b hbs (by have := HR6.out.F_lt; omega) (by have := HR6.out.F_lt; have := HR6.out.lt; omega) (by have := HC6.out.lt; omega)
        exact ⟨b, h2, h4, h9.trans h5⟩
      · rw [if_neg hk] at hK
        exact ⟨b, h2, h4, (hK.block b hbs).trans h5⟩
    | 11, h1, hik =>
      rw [if_neg (fun e => hik e.symm)] at hK
      obtain ⟨h2, h3, h4, h5⟩ := h1
      exact ⟨h2, h3.below hK, (hK.block g h4.lt).trans h4, h5.trans (RUp.of_below hK)⟩
    | _ + 12, _, _ => trivial
  · intro _ b x ls hR hS hself hup hdn hk
    have h0 : b.eval (.tmp 0) = .pointer (some ⟨F, 0, none⟩) := Eq.mp (by kernel_rfl) (hk 0 (by decide))
    have lA : ls 11 = false := hdn [] 11 _ rfl (by kernel_rfl)
    have hb := hS lA
    exact Rg.does_move ⟨by rw [if_neg (by decide)]; exact Below.refl _ _, h0, fun hh => hS hh⟩
  · intro _ b x ls hR hS hself hup hdn hk
    have h1 : b.eval (.tmp 1) = .pointer (some ⟨g, off, none⟩) := Eq.mp (by kernel_rfl) (hk 1 (by decide))
    have lA : ls 11 = false := hdn [10, 3, 2] 11 _ rfl (by kernel_rfl)
    have hb := hS lA
    exact Rg.does_move ⟨by rw [if_neg (by decide)]; exact Below.refl _ _, h1, fun hh => hS hh⟩
  · intro _ b x ls hR hS hself hup hdn hk
    have h35 : b.eval (.tmp 35) = .pointer (some ⟨g, off, none⟩) := Eq.mp (by kernel_rfl) (hk 35 (by decide))
    have lA : ls 11 = false := hdn [10, 3] 11 _ rfl (by kernel_rfl)
    have hb := hS lA
    exact Ap.does_nil _ h35 ⟨by rw [if_neg (by decide)]; exact Below.refl _ _, rfl, fun hh => hS hh⟩
  · intro _ b x ls hR hS hself hup hdn hk
    have h36 : b.eval (.tmp 36) = .pointer (some ⟨g, off, none⟩) := Eq.mp (by kernel_rfl) (hk 36 (by decide))
    have lA : ls 11 = false := hdn [10] 11 _ rfl (by kernel_rfl)
    have hb := hS lA
    exact Rs.does_field _ _ h36 (fld_st6 g off x) ⟨by rw [if_neg (by decide)]; exact Below.refl _ _, rfl, fun hh => hS hh⟩
  · intro _ b x ls hR hS hself hup hdn hk
    have h1 : b.eval (.tmp 1) = .pointer (some ⟨g, off, none⟩) := Eq.mp (by kernel_rfl) (hk 1 (by decide))
    have lA : ls 11 = false := hdn [10, 6, 5] 11 _ rfl (by kernel_rfl)
    have hb := hS lA
    exact Rg.does_move ⟨by rw [if_neg (by decide)]; exact Below.refl _ _, h1, fun hh => hS hh⟩
  · intro _ b x ls hR hS hself hup hdn hk
    have h38 : b.eval (.tmp 38) = .pointer (some ⟨g, off, none⟩) := Eq.mp (by kernel_rfl) (hk 38 (by decide))
    have lA : ls 11 = false := hdn [10, 6] 11 _ rfl (by kernel_rfl)
    have hb := hS lA
    exact Ap.does_nil _ h38 ⟨by rw [if_neg (by decide)]; exact Below.refl _ _, rfl, fun hh => hS hh⟩
  · intro _ b x ls hR hS hself hup hdn hk
    have h39 : b.eval (.tmp 39) = .pointer (some ⟨g, off, none⟩) := Eq.mp (by kernel_rfl) (hk 39 (by decide))
    have lA : ls 11 = false := hdn [10] 11 _ rfl (by kernel_rfl)
    have hb := hS lA
    exact Rs.does_field _ _ h39 (fld_st7 g off x) ⟨by rw [if_neg (by decide)]; exact Below.refl _ _, rfl, fun hh => hS hh⟩
  · intro _ b x ls hR hS hself hup hdn hk
    have h1 : b.eval (.tmp 1) = .pointer (some ⟨g, off, none⟩) := Eq.mp (by kernel_rfl) (hk 1 (by decide))
    have lA : ls 11 = false := hdn [10, 9, 8] 11 _ rfl (by kernel_rfl)
    have hb := hS lA
    exact Rg.does_move ⟨by rw [if_neg (by decide)]; exact Below.refl _ _, h1, fun hh => hS hh⟩
  · intro _ b x ls hR hS hself hup hdn hk
    have h41 : b.eval (.tmp 41) = .pointer (some ⟨g, off, none⟩) := Eq.mp (by kernel_rfl) (hk 41 (by decide))
    have lA : ls 11 = false := hdn [10, 9] 11 _ rfl (by kernel_rfl)
    have hb := hS lA
    exact Ap.does_nil _ h41 ⟨by rw [if_neg (by decide)]; exact Below.refl _ _, rfl, fun hh => hS hh⟩
  · intro _ b x ls hR hS hself hup hdn hk
    have h42 : b.eval (.tmp 42) = .pointer (some ⟨g, off, none⟩) := Eq.mp (by kernel_rfl) (hk 42 (by decide))
    have lA : ls 11 = false := hdn [10] 11 _ rfl (by kernel_rfl)
    have hb := hS lA
    exact Rs.does_field _ _ h42 (fld_st8 g off x) ⟨by rw [if_neg (by decide)]; exact Below.refl _ _, rfl, fun hh => hS hh⟩
  · intro _ b x ls hR hS hself hup hdn hk
    have h37 : b.eval (.tmp 37) = .pointer (some ⟨g, off + 22, none⟩) := Eq.mp (by kernel_rfl) (hk 37 (by decide))
    have h40 : b.eval (.tmp 40) = .pointer (some ⟨g, off + 23, none⟩) := Eq.mp (by kernel_rfl) (hk 40 (by decide))
    have h43 : b.eval (.tmp 43) = .pointer (some ⟨g, off + 24, none⟩) := Eq.mp (by kernel_rfl) (hk 43 (by decide))
    have lA : ls 11 = false := hdn [] 11 _ rfl (by kernel_rfl)
    have hb := hS lA
    have hal := (Below.refl x.heap.size x).alloc (Nat.le_refl _) (.cells #[.pointer (some ⟨g, off + 22, none⟩), .pointer (some ⟨g, off + 23, none⟩), .pointer (some ⟨g, off + 24, none⟩)] 107)
    exact Rg.does_build #[(0, .pointer (some ⟨g, off + 22, none⟩)), (1, .pointer (some ⟨g, off + 23, none⟩)), (2, .pointer (some ⟨g, off + 24, none⟩))] _ (by simp [h37, h40, h43]) (by go_simp) ⟨by rw [if_neg (by decide)]; exact hal, ⟨x.heap.size, rfl, hb.size, heap_alloc_new x _⟩, fun hh => hb.trans (hal.mono hb.size)⟩
  · intro _ b x ls hR hS hself hup hdn hk
    have h34 : b.eval (.tmp 34) = .pointer (some ⟨F, 0, none⟩) := Eq.mp (by kernel_rfl) (hk 34 (by decide))
    have h44 : (fun u x => ∃ b, u = .slice (some ⟨b, 0, none⟩) 3 3 ∧ w6.heap.size ≤ b ∧ x.heap[b]? = some (.cells #[.pointer (some ⟨g, off + 22, none⟩), .pointer (some ⟨g, off + 23, none⟩), .pointer (some ⟨g, off + 24, none⟩)] 107)) (b.eval (.tmp 44)) x := Eq.mp (by kernel_rfl) (hk 44 (by decide))
    have hb := hS hself
    obtain ⟨b1, hq2, hq4, hq5⟩ := h44
    refine Rg.does_func #[.pointer (some ⟨F, 0, none⟩), .slice (some ⟨b1, 0, none⟩) 3 3] Try.func46 (by kernel_rfl) (by kernel_rfl) (by simp [h34, hq2]) (rk_nums_h (many_more (many_more (many_one numC iv))) x F q l6 e6 g (off + 22) cu6 t b1 (HR6.out.below hb) ((hb.block g HC6.out.lt).trans HC6.out) (fun j hj => by have h6 := (zer_fst HZ6.out); match j, hj with | 0, _ => exact h6 0 (by decide) | 1, _ => exact h6 1 (by decide) | 2, _ => exact h6 2 (by decide)) HG.out ⟨⟨_, hq5, fun j hj => by match j, hj with | 0, _ => rfl | 1, _ => rfl | 2, _ => rfl⟩⟩ (by have := HR6.out.F_lt; omega) (by have := HC6.out.lt; omega) (by decide)) ?_
    rintro e' w' ⟨rfl, hr, hcu, hu⟩
    exact ⟨_, rfl, by rw [if_pos rfl]; exact hu, ⟨rfl, hr, hcu, (RUp.of_below hb).trans hu⟩, fun hh => by simp [Rs.upd] at hh⟩
  · intro vals w7 ls _ hSD _ hL
    obtain ⟨g0, g1, g2, g3, g4, g5, g6, g7, g8, g9, g10, g11, _⟩ := hL
    obtain ⟨eT, hr, hc, hu⟩ := g11
    have hl : (num3V ((pairC numC (pairC numC numC)).dec l6 e6).1).length = 3 := rfl
    obtain ⟨v7, hv⟩ : ∃ v, num3V ((pairC numC (pairC numC numC)).dec l6 e6).1 = v := ⟨_, rfl⟩
    have hH : flatH num3V w7 v7 ((pairC numC (pairC numC numC)).dec l6 e6).1 := hv.symm
    rw [hv] at hc hl
    clear hv
    rw [← HCC6.out] at hc
    have HC6 := HC6; have HZ6 := HZ6
    rw [← HCC6.out] at HC6 HZ6
    have q0 := g0; have q1 := g1
    obtain ⟨⟨a7, l7, e7⟩, hd⟩ : ∃ x, (pairC numC (pairC numC numC)).dec l6 e6 = x := ⟨_, rfl⟩
    rw [hd] at hr hH
    have HD7 := Lib.hid hd
    have HR7 : Hid (RkI F q l7 e7 w7) := hr
    have HL7 : Hid (v7.length = 3) := hl
    have HK7 : Hid (Kept (inner2) w6 w7) := Kept.up HR6.out HC6.out HT.out rfl rfl hu
    have HH7 : Hid ((flatH num3V) w7 v7 a7) := hH
    have HU7 := Lib.hid (HU6.out.trans hu)
    rw [splice_two (k := 22) HV6.out rfl (by have := HBd.out; omega)] at hc
    have HC7 : Hid (Cut g (splice cur off (v1 ++ v2 ++ v3 ++ v4 ++ v5 ++ v6 ++ v7)) t w7) := hc
    have HV7 : Hid ((v1 ++ v2 ++ v3 ++ v4 ++ v5 ++ v6 ++ v7).length = 25) := by show _ = _; rw [List.length_append, HV6.out, HL7.out]
    have hz := zer_step (off' := off + 25) HZ6.out HL7.out rfl (by omega)
    rw [splice_two (k := 22) HV6.out rfl (by have := HBd.out; omega)] at hz
    have HZ7 : Hid (Zer (splice cur off (v1 ++ v2 ++ v3 ++ v4 ++ v5 ++ v6 ++ v7)) (off + 25) ([.bool false, .bool false, .bool false] ++ ([.int .i64 0]))) := hz
    clear hz
    clear hr hl hc hH hu hd
    simp only [Rg.putAll, List.take_succ_cons, List.take_zero, List.drop_succ_cons, List.drop_zero, List.setIfInBounds_toArray, List.set_cons_succ, List.set_cons_zero]
    clear g0 g1 g2 g3 g4 g5 g6 g7 g8 g9 g10 eT q0 q1
    go_upto_region 7 with fail
    generalize hcc : splice cur off (v1 ++ v2 ++ v3 ++ v4 ++ v5 ++ v6 ++ v7) = cu7 at *
    have HCC7 := Lib.hid hcc
    clear hcc
    refine Rt.wp_region_rkt 12 [] [Rg.Is (.pointer (some ⟨F, 0, none⟩)), Rg.Is (.pointer (some ⟨g, off, none⟩)), Rg.Is (.pointer (some ⟨g, off, none⟩)), Rg.Is (.pointer (some ⟨g, off + 25, none⟩)), Rg.Is (.pointer (some ⟨g, off, none⟩)), Rg.Is (.pointer (some ⟨g, off, none⟩)), Rg.Is (.pointer (some ⟨g, off + 26, none⟩)), Rg.Is (.pointer (some ⟨g, off, none⟩)), Rg.Is (.pointer (some ⟨g, off, none⟩)), Rg.Is (.pointer (some ⟨g, off + 27, none⟩)), (fun u x => ∃ b, u = .slice (some ⟨b, 0, none⟩) 3 3 ∧ w7.heap.size ≤ b ∧ x.heap[b]? = some (.cells #[.pointer (some ⟨g, off + 25, none⟩), .pointer (some ⟨g, off + 26, none⟩), .pointer (some ⟨g, off + 27, none⟩)] 109)), (fun u x => u = .tuple #[] ∧ RkI F q ((pairC bitC (pairC bitC bitC)).dec l7 e7).2.1 ((pairC bitC (pairC bitC bitC)).dec l7 e7).2.2 x ∧ Cut g (splice cu7 (off + 25) (bit3V ((pairC bitC (pairC bitC bitC)).dec l7 e7).1)) t x ∧ RUp F q g w7 x)] (fun _ _ => True) (fun ls x => ls 11 = false → Below w7.heap.size w7 x) (fun k x y => if k = 11 then (RUp F q g x y) else Below x.heap.size x y) (by kernel_rfl) (by kernel_rfl) (of_decide_eq_true (by kernel_rfl)) (by kernel_rfl) (by kernel_rfl) trivial (fun _ => ⟨rfl, rfl, rfl, Nat.le_refl _, fun _ _ => rfl⟩) (fun ls ls' x e h1 h2 => h1 (by rw [e]; exact h2)) (fun _ _ _ _ _ => trivial) (fun i ls x _ h1 => by rw [show ([] : List Bool).getD i true = true from rfl] at h1; cases h1) ?_ ⟨rfl, rfl, rfl, rfl, rfl, rfl, rfl, rfl, rfl, rfl, rfl, rfl, trivial⟩ ⟨?_, ?_, ?_, ?_, ?_, ?_, ?_, ?_, ?_, ?_, ?_, ?_, trivial⟩ ?_
    · intro i k u x y hik _ h1 hK
      match i, h1, hik with
      | 0, h1, _ => exact h1
      | 1, h1, _ => exact h1
      | 2, h1, _ => exact h1
      | 3, h1, _ => exact h1
      | 4, h1, _ => exact h1
      | 5, h1, _ => exact h1
      | 6, h1, _ => exact h1
      | 7, h1, _ => exact h1
      | 8, h1, _ => exact h1
      | 9, h1, _ => exact h1
      | 10, h1, hik =>
        obtain ⟨b, h2, h4, h5⟩ := h1
        have hbs := (Array.getElem?_eq_some_iff.1 h5).1
        by_cases hk : k = 11
        · subst hk
          rw [if_pos rfl] at hK
          have h9 : y.heap[b]? = x.heap[b]? := hK.block b hbs (by have := HR7.out.F_lt; omega) (by have := HR7.out.F_lt; have := HR7.out.lt; omega) (by have := HC7.out.lt; omega)
          exact ⟨b, h2, h4, h9.trans h5⟩
        · rw [if_neg hk] at hK
          exact ⟨b, h2, h4, (hK.block b hbs).trans h5⟩
      | 11, h1, hik =>
        rw [if_neg (fun e => hik e.symm)] at hK
        obtain ⟨h2, h3, h4, h5⟩ := h1
        exact ⟨h2, h3.below hK, (hK.block g h4.lt).trans h4, h5.trans (RUp.of_below hK)⟩
      | _ + 12, _, _ => trivial
    · intro _ b x ls hR hS hself hup hdn hk
      have h0 : b.eval (.tmp 0) = .pointer (some ⟨F, 0, none⟩) := Eq.mp (by kernel_rfl) (hk 0 (by decide))
      have lA : ls 11 = false := hdn [] 11 _ rfl (by kernel_rfl)
      have hb := hS lA
      exact Rg.does_move ⟨by rw [if_neg (by decide)]; exact Below.refl _ _, h0, fun hh => hS hh⟩
    · intro _ b x ls hR hS hself hup hdn hk
      have h1 : b.eval (.tmp 1) = .pointer (some ⟨g, off, none⟩) := Eq.mp (by kernel_rfl) (hk 1 (by decide))
      have lA : ls 11 = false := hdn [10, 3, 2] 11 _ rfl (by kernel_rfl)
      have hb := hS lA
      exact Rg.does_move ⟨by rw [if_neg (by decide)]; exact Below.refl _ _, h1, fun hh => hS hh⟩
    · intro _ b x ls hR hS hself hup hdn hk
      have h47 : b.eval (.tmp 47) = .pointer (some ⟨g, off, none⟩) := Eq.mp (by kernel_rfl) (hk 47 (by decide))
      have lA : ls 11 = false := hdn [10, 3] 11 _ rfl (by kernel_rfl)
      have hb := hS lA
      exact Ap.does_nil _ h47 ⟨by rw [if_neg (by decide)]; exact Below.refl _ _, rfl, fun hh => hS hh⟩
    · intro _ b x ls hR hS hself hup hdn hk
      have h48 : b.eval (.tmp 48) = .pointer (some ⟨g, off, none⟩) := Eq.mp (by kernel_rfl) (hk 48 (by decide))
      have lA : ls 11 = false := hdn [10] 11 _ rfl (by kernel_rfl)
      have hb := hS lA
      exact Rs.does_field _ _ h48 (fld_st9 g off x) ⟨by rw [if_neg (by decide)]; exact Below.refl _ _, rfl, fun hh => hS hh⟩
    · intro _ b x ls hR hS hself hup hdn hk
      have h1 : b.eval (.tmp 1) = .pointer (some ⟨g, off, none⟩) := Eq.mp (by kernel_rfl) (hk 1 (by decide))
      have lA : ls 11 = false := hdn [10, 6, 5] 11 _ rfl (by kernel_rfl)
      have hb := hS lA
      exact Rg.does_move ⟨by rw [if_neg (by decide)]; exact Below.refl _ _, h1, fun hh => hS hh⟩
    · intro _ b x ls hR hS hself hup hdn hk
      have h50 : b.eval (.tmp 50) = .pointer (some ⟨g, off, none⟩) := Eq.mp (by kernel_rfl) (hk 50 (by decide))
      have lA : ls 11 = false := hdn [10, 6] 11 _ rfl (by kernel_rfl)
      have hb := hS lA
      exact Ap.does_nil _ h50 ⟨by rw [if_neg (by decide)]; exact Below.refl _ _, rfl, fun hh => hS hh⟩
    · intro _ b x ls hR hS hself hup hdn hk
      have h51 : b.eval (.tmp 51) = .pointer (some ⟨g, off, none⟩) := Eq.mp (by kernel_rfl) (hk 51 (by decide))
      have lA : ls 11 = false := hdn [10] 11 _ rfl (by kernel_rfl)
      have hb := hS lA
      exact Rs.does_field _ _ h51 (fld_st10 g off x) ⟨by rw [if_neg (by decide)]; exact Below.refl _ _, rfl, fun hh => hS hh⟩
    · intro _ b x ls hR hS hself hup hdn hk
      have h1 : b.eval (.tmp 1) = .pointer (some ⟨g, off, none⟩) := Eq.mp (by kernel_rfl) (hk 1 (by decide))
      have lA : ls 11 = false := hdn [10, 9, 8] 11 _ rfl (by kernel_rfl)
      have hb := hS lA
      exact Rg.does_move ⟨by rw [if_neg (by decide)]; exact Below.refl _ _, h1, fun hh => hS hh⟩
    · intro _ b x ls hR hS hself hup hdn hk
      have h53 : b.eval (.tmp 53) = .pointer (some ⟨g, off, none⟩) := Eq.mp (by kernel_rfl) (hk 53 (by decide))
      have lA : ls 11 = false := hdn [10, 9] 11 _ rfl (by kernel_rfl)
      have hb := hS lA
      exact Ap.does_nil _ h53 ⟨by rw [if_neg (by decide)]; exact Below.refl _ _, rfl, fun hh => hS hh⟩
    · intro _ b x ls hR hS hself hup hdn hk
      have h54 : b.eval (.tmp 54) = .pointer (some ⟨g, off, none⟩) := Eq.mp (by kernel_rfl) (hk 54 (by decide))
      have lA : ls 11 = false := hdn [10] 11 _ rfl (by kernel_rfl)
      have hb := hS lA
      exact Rs.does_field _ _ h54 (fld_st11 g off x) ⟨by rw [if_neg (by decide)]; exact Below.refl _ _, rfl, fun hh => hS hh⟩
    · intro _ b x ls hR hS hself hup hdn hk
      have h49 : b.eval (.tmp 49) = .pointer (some ⟨g, off + 25, none⟩) := Eq.mp (by kernel_rfl) (hk 49 (by decide))
      have h52 : b.eval (.tmp 52) = .pointer (some ⟨g, off + 26, none⟩) := Eq.mp (by kernel_rfl) (hk 52 (by decide))
      have h55 : b.eval (.tmp 55) = .pointer (some ⟨g, off + 27, none⟩) := Eq.mp (by kernel_rfl) (hk 55 (by decide))
      have lA : ls 11 = false := hdn [] 11 _ rfl (by kernel_rfl)
      have hb := hS lA
      have hal := (Below.refl x.heap.size x).alloc (Nat.le_refl _) (.cells #[.pointer (some ⟨g, off + 25, none⟩), .pointer (some ⟨g, off + 26, none⟩), .pointer (some ⟨g, off + 27, none⟩)] 109)
      exact Rg.does_build #[(0, .pointer (some ⟨g, off + 25, none⟩)), (1, .pointer (some ⟨g, off + 26, none⟩)), (2, .pointer (some ⟨g, off + 27, none⟩))] _ (by simp [h49, h52, h55]) (by go_simp) ⟨by rw [if_neg (by decide)]; exact hal, ⟨x.heap.size, rfl, hb.size, heap_alloc_new x _⟩, fun hh => hb.trans (hal.mono hb.size)⟩
    · intro _ b x ls hR hS hself hup hdn hk
      have h46 : b.eval (.tmp 46) = .pointer (some ⟨F, 0, none⟩) := Eq.mp (by kernel_rfl) (hk 46 (by decide))
      have h56 : (fun u x => ∃ b, u = .slice (some ⟨b, 0, none⟩) 3 3 ∧ w7.heap.size ≤ b ∧ x.heap[b]? = some (.cells #[.pointer (some ⟨g, off + 25, none⟩), .pointer (some ⟨g, off + 26, none⟩), .pointer (some ⟨g, off + 27, none⟩)] 109)) (b.eval (.tmp 56)) x := Eq.mp (by kernel_rfl) (hk 56 (by decide))
      have hb := hS hself
      obtain ⟨b1, hq2, hq4, hq5⟩ := h56
      refine Rg.does_func #[.pointer (some ⟨F, 0, none⟩), .slice (some ⟨b1, 0, none⟩) 3 3] Try.func47 (by kernel_rfl) (by kernel_rfl) (by simp [h46, hq2]) (rk_bits_h (many_more (many_more (many_one bitC bv1))) x F q l7 e7 g (off + 25) cu7 t b1 (HR7.out.below hb) ((hb.block g HC7.out.lt).trans HC7.out) (fun j hj => by have h6 := (zer_fst HZ7.out); match j, hj with | 0, _ => exact h6 0 (by decide) | 1, _ => exact h6 1 (by decide) | 2, _ => exact h6 2 (by decide)) HG.out ⟨⟨_, hq5, fun j hj => by match j, hj with | 0, _ => rfl | 1, _ => rfl | 2, _ => rfl⟩⟩ (by have := HR7.out.F_lt; omega) (by have := HC7.out.lt; omega) (by decide)) ?_
      rintro e' w' ⟨rfl, hr, hcu, hu⟩
      exact ⟨_, rfl, by rw [if_pos rfl]; exact hu, ⟨rfl, hr, hcu, (RUp.of_below hb).trans hu⟩, fun hh => by simp [Rs.upd] at hh⟩
    · intro vals w8 ls _ hSD _ hL
      obtain ⟨g0, g1, g2, g3, g4, g5, g6, g7, g8, g9, g10, g11, _⟩ := hL
      obtain ⟨eT, hr, hc, hu⟩ := g11
      have hl : (bit3V ((pairC bitC (pairC bitC bitC)).dec l7 e7).1).length = 3 := rfl
      obtain ⟨v8, hv⟩ : ∃ v, bit3V ((pairC bitC (pairC bitC bitC)).dec l7 e7).1 = v := ⟨_, rfl⟩
      have hH : flatH bit3V w8 v8 ((pairC bitC (pairC bitC bitC)).dec l7 e7).1 := hv.symm
      rw [hv] at hc hl
      clear hv
      rw [← HCC7.out] at hc
      have HC7 := HC7; have HZ7 := HZ7
      rw [← HCC7.out] at HC7 HZ7
      have q0 := g0; have q1 := g1
      obtain ⟨⟨a8, l8, e8⟩, hd⟩ : ∃ x, (pairC bitC (pairC bitC bitC)).dec l7 e7 = x := ⟨_, rfl⟩
      rw [hd] at hr hH
      have HD8 := Lib.hid hd
      have HR8 : Hid (RkI F q l8 e8 w8) := hr
      have HL8 : Hid (v8.length = 3) := hl
      have HK8 : Hid (Kept (inner2) w7 w8) := Kept.up HR7.out HC7.out HT.out rfl rfl hu
      have HH8 : Hid ((flatH bit3V) w8 v8 a8) := hH
      have HU8 := Lib.hid (HU7.out.trans hu)
      rw [splice_two (k := 25) HV7.out rfl (by have := HBd.out; omega)] at hc
      have HC8 : Hid (Cut g (splice cur off (v1 ++ v2 ++ v3 ++ v4 ++ v5 ++ v6 ++ v7 ++ v8)) t w8) := hc
      have HV8 : Hid ((v1 ++ v2 ++ v3 ++ v4 ++ v5 ++ v6 ++ v7 ++ v8).length = 28) := by show _ = _; rw [List.length_append, HV7.out, HL8.out]
      have hz := zer_step (off' := off + 28) HZ7.out HL8.out rfl (by omega)
      rw [splice_two (k := 25) HV7.out rfl (by have := HBd.out; omega)] at hz
      have HZ8 : Hid (Zer (splice cur off (v1 ++ v2 ++ v3 ++ v4 ++ v5 ++ v6 ++ v7 ++ v8)) (off + 28) ([.int .i64 0])) := hz
      clear hz
      clear hr hl hc hH hu hd
      simp only [Rg.putAll, List.take_succ_cons, List.take_zero, List.drop_succ_cons, List.drop_zero, List.setIfInBounds_toArray, List.set_cons_succ, List.set_cons_zero]
      clear g0 g1 g2 g3 g4 g5 g6 g7 g8 g9 g10 eT q0 q1
      go_wp2_with fail
      refine ((numE_rk.h (fun _ => rfl)) w8 F q l8 e8 g (off + 28) _ t HR8.out HC8.out HZ8.out HG.out rfl).mono ?_
      rintro r w9 ⟨rfl, hr, ⟨v9, hl, hc, hH⟩, hu⟩
      obtain ⟨⟨a9, l9, e9⟩, hd⟩ : ∃ x, (numC).dec l8 e8 = x := ⟨_, rfl⟩
      rw [hd] at hr hH
      have HD9 := Lib.hid hd
      have HR9 : Hid (RkI F q l9 e9 w9) := hr
      have HL9 : Hid (v9.length = 1) := hl
      have HK9 : Hid (Kept (inner2) w8 w9) := Kept.up HR8.out HC8.out HT.out rfl rfl hu
      have HH9 : Hid ((flatH numV) w9 v9 a9) := hH
      have HU9 := Lib.hid (HU8.out.trans hu)
      rw [splice_two (k := 28) HV8.out rfl (by have := HBd.out; omega)] at hc
      have HC9 : Hid (Cut g (splice cur off (v1 ++ v2 ++ v3 ++ v4 ++ v5 ++ v6 ++ v7 ++ v8 ++ v9)) t w9) := hc
      have HV9 : Hid ((v1 ++ v2 ++ v3 ++ v4 ++ v5 ++ v6 ++ v7 ++ v8 ++ v9).length = 29) := by show _ = _; rw [List.length_append, HV8.out, HL9.out]
      clear hr hl hc hH hu hd
      go_wp2_with fail
      refine bodyPost_end (v := .tuple #[]) (results_none rfl _ _ _) rfl ?_
      have HD : Hid ((stateC).dec l0 e0 = ((a1, (a2, (a3, (a4, (a5, (a6, (a7, (a8, a9)))))))), l9, e9)) := by
        show ((pairC (keepC) (pairC (rowC txtC) (pairC (rowC frameC) (pairC (reqC) (pairC (ansC) (pairC (rowC numC) (pairC (pairC numC (pairC numC numC)) (pairC (pairC bitC (pairC bitC bitC)) (numC)))))))))).dec l0 e0 = _
        rw [pairC_dec HD1.out, pairC_dec HD2.out, pairC_dec HD3.out, pairC_dec HD4.out, pairC_dec HD5.out, pairC_dec HD6.out, pairC_dec HD7.out, pairC_dec HD8.out, HD9.out]
      have hc := HC9.out
      rw [List.append_assoc, List.append_assoc, List.append_assoc, List.append_assoc, List.append_assoc, List.append_assoc, List.append_assoc] at hc
      have hv := HV9.out
      rw [List.append_assoc, List.append_assoc, List.append_assoc, List.append_assoc, List.append_assoc, List.append_assoc, List.append_assoc] at hv
      rw [HD.out]
      exact ⟨rfl, HR9.out, ⟨_, hv, hc, v1, _, rfl, HL1.out, (st_less keep_st inner_less).keep HH1.out (HK2.out.trans (HK3.out.trans (HK4.out.trans (HK5.out.trans (HK6.out.trans (HK7.out.trans (HK8.out.trans HK9.out))))))), v2, _, rfl, HL2.out, (strsB_st B).keep HH2.out (HK3.out.trans (HK4.out.trans (HK5.out.trans (HK6.out.trans (HK7.out.trans (HK8.out.trans HK9.out)))))), v3, _, rfl, HL3.out, (frames_st).keep HH3.out (HK4.out.trans (HK5.out.trans (HK6.out.trans (HK7.out.trans (HK8.out.trans HK9.out))))), v4, _, rfl, HL4.out, (st_less req_st inner_less).keep HH4.out (HK5.out.trans (HK6.out.trans (HK7.out.trans (HK8.out.trans HK9.out)))), v5, _, rfl, HL5.out, (st_less ans_st inner_less).keep HH5.out (HK6.out.trans (HK7.out.trans (HK8.out.trans HK9.out))), v6, _, rfl, HL6.out, (ints_st).keep HH6.out (HK7.out.trans (HK8.out.trans HK9.out)), v7, _, rfl, HL7.out, HH7.out, v8, _, rfl, HL8.out, HH8.out, HH9.out⟩, HU9.out⟩
end Go.Proofs.Ytmhofdoifgfjfaa

/-! SoUnB -/
set_option linter.unusedVariables false
set_option maxRecDepth 100000
namespace Go.Proofs.Ytmhofdoifgfjfaa
open Go.RowKit Base

theorem zero_stateB (B : Nat) (W : World) : stateB B W stZ zeroD := by
  obtain ⟨v1, v2, e, hl, g1, v3, v4, e', hl', g2, g3⟩ := zero_state W
  refine ⟨v1, v2, e, hl, g1, v3, v4, e', hl', ?_, g3⟩
  have hv : v3 = [.slice none 0 0] := by
    have h1 : v1.length = 7 := hl
    have h3 : v3.length = 1 := hl'
    have h2 : v2 = stZ.drop 7 := by rw [e, ← h1, List.drop_left]
    have h4 : v3 = v2.take 1 := by rw [e', ← h3, List.take_left]
    rw [h4, h2]
    rfl
  rw [hv]
  exact ⟨_, [], rfl, World.ownsRow_nil _ _ _ _, each_nil _ _ _⟩
set_option maxHeartbeats 2000000 in
theorem unpack_callsB (W : World) (a : Option Addr) (n cap : Nat) (l : Nm) (h : Bytes W a n cap l) (hn : n ≤ 1000000000) :
    Calls Try.prog 21 #[.slice a n cap] W fun r W' => ∃ vs, r = .returned (.tuple #[.agg vs.toArray, .int .i64 (unB l).2]) ∧ vs.length = 29 ∧ stateB W.heap.size W' vs (unB l).1 ∧ Below W.heap.size W W' := by
  have HB := Lib.hid h
  have HN := Lib.hid hn
  clear h hn
  go_enter Try.func21, Try.ntmps21
  go_upto_region 1 with fail
  obtain ⟨w0, rb, hw0, hrb, hk0, hb0⟩ : ∃ w0 rb, W.alloc (.cells #[.slice none 0 0, .slice none 0 0, .int .i64 0, .string ⟨#[]⟩, .slice none 0 0, .slice none 0 0, .slice none 0 0, .slice none 0 0, .slice none 0 0, .int .i64 0, .int .i64 0, .int .i64 0, .string ⟨#[]⟩, .slice none 0 0, .int .i64 0, .int .i64 0, .int .i64 0, .int .i64 0, .string ⟨#[]⟩, .slice none 0 0, .int .i64 0, .slice none 0 0, .int .i64 0, .int .i64 0, .int .i64 0, .bool false, .bool false, .bool false, .int .i64 0] stT) = w0 ∧ W.heap.size = rb ∧ Cut rb stZ stT w0 ∧ Below W.heap.size W w0 := ⟨_, _, rfl, rfl, heap_alloc_new W _, (Below.refl W.heap.size W).alloc (Nat.le_refl _) _⟩
  rw [hw0, hrb]
  have HK0 := Lib.hid hk0
  have HB0 := Lib.hid hb0
  have HRb := Lib.hid hrb
  clear hw0 hk0 hb0 hrb
  go_wp2_with fail
  refine (open_in_calls w0 a n cap l (HB.out.below stable_byteAt HB0.out) HN.out).mono ?_
  rintro r w1 ⟨q, rfl, hq1, hq2, hrd, hb1⟩
  have HQ := Lib.hid hq2
  have HQ1 := Lib.hid hq1
  have HRd := Lib.hid hrd
  have HB1 := Lib.hid hb1
  clear hq1 hq2 hrd hb1
  go_upto_region 3 with fail
  obtain ⟨w3, F, hw3, hF, hk, hg, hb3, hs3⟩ : ∃ w3 F, (w1.alloc (.cells #[.slice none 0 0, .pointer (some ⟨q, 0, none⟩), .int .i64 0] wireT)).alloc (.cells #[.slice none 0 0, .slice none 0 0, .int .i64 0, .string ⟨#[]⟩, .slice none 0 0, .slice none 0 0, .slice none 0 0, .slice none 0 0, .slice none 0 0, .int .i64 0, .int .i64 0, .int .i64 0, .string ⟨#[]⟩, .slice none 0 0, .int .i64 0, .int .i64 0, .int .i64 0, .int .i64 0, .string ⟨#[]⟩, .slice none 0 0, .int .i64 0, .slice none 0 0, .int .i64 0, .int .i64 0, .int .i64 0, .bool false, .bool false, .bool false, .int .i64 0] stT) = w3 ∧ w1.heap.size = F ∧
      w3.heap[F]? = some (.cells #[.slice none 0 0, .pointer (some ⟨q, 0, none⟩), .int .i64 0] wireT) ∧ Cut (F + 1) stZ stT w3 ∧ Below w1.heap.size w1 w3 ∧ w3.heap.size = F + 2 := by
    refine ⟨_, _, rfl, rfl, ?_, ?_, ?_, ?_⟩
    · exact (Below.heap_alloc _ _ _ (by rw [World.size_alloc]; omega)).trans (heap_alloc_new w1 _)
    · have := heap_alloc_new (w1.alloc (.cells #[.slice none 0 0, .pointer (some ⟨q, 0, none⟩), .int .i64 0] wireT)) (.cells #[.slice none 0 0, .slice none 0 0, .int .i64 0, .string ⟨#[]⟩, .slice none 0 0, .slice none 0 0, .slice none 0 0, .slice none 0 0, .slice none 0 0, .int .i64 0, .int .i64 0, .int .i64 0, .string ⟨#[]⟩, .slice none 0 0, .int .i64 0, .int .i64 0, .int .i64 0, .int .i64 0, .string ⟨#[]⟩, .slice none 0 0, .int .i64 0, .slice none 0 0, .int .i64 0, .int .i64 0, .int .i64 0, .bool false, .bool false, .bool false, .int .i64 0] stT)
      rw [World.size_alloc] at this
      exact this
    · have hb := (Below.refl w1.heap.size w1).alloc (Nat.le_refl _) (.cells #[.slice none 0 0, .pointer (some ⟨q, 0, none⟩), .int .i64 0] wireT)
      exact hb.alloc hb.size _
    · rw [World.size_alloc, World.size_alloc]
  rw [hw3, hF]
  have hqF : q < F := by have := HQ.out; omega
  have HR3 : Hid (RkI F q l 0 w3) := ⟨hk, ⟨l, 0, rdin_keep HRd.out (fun k hk2 => hb3.block k (by have := HQ.out; omega)), fun _ => ⟨rfl, rfl⟩⟩, hqF⟩
  have HG3 := Lib.hid hg
  have HRbl : Hid (rb < w0.heap.size) := HK0.out.lt
  have hrb1 : rb < w1.heap.size := Nat.lt_of_lt_of_le HRbl.out HB1.out.size
  have HK3 : Hid (Cut rb stZ stT w3) := (hb3.block rb hrb1).trans ((HB1.out.block rb HRbl.out).trans HK0.out)
  have HBW : Hid (Below W.heap.size W w3) := HB0.out.trans ((HB1.out.mono HB0.out.size).trans (hb3.mono (Nat.le_trans HB0.out.size HB1.out.size)))
  have HFW : Hid (W.heap.size ≤ q) := Nat.le_trans HB0.out.size HQ1.out
  have HRq : Hid (rb < q) := Nat.lt_of_lt_of_le HRbl.out HQ1.out
  have HQF := Lib.hid hqF
  clear hw3 hF hk hg hb3 hs3 hqF hrb1
  go_wp2_with fail
  refine (all_rkB W.heap.size w3 F q l 0 (F + 1) 0 stZ stT HR3.out HG3.out (fun j hj => by rw [Nat.zero_add, List.getElem?_eq_getElem hj]) (Nat.lt_succ_self F) rfl HBW.out.size).mono ?_
  rintro r w4 ⟨rfl, hr, ⟨vs, hvl, hc, hH⟩, hu⟩
  rw [splice_full hvl] at hc
  obtain ⟨⟨d, l1, e1⟩, hd⟩ : ∃ x, stateC.dec l 0 = x := ⟨_, rfl⟩
  rw [hd] at hr hH
  have HU : Hid (unB l = if mustE (decide (l1 = [])) e1 14 ≠ 0 then (zeroD, mustE (decide (l1 = [])) e1 14) else (d, 0)) := by
    show unB l = _
    unfold unB
    rw [hd]
  have HR4 : Hid (RkI F q l1 e1 w4) := hr
  have HC4 := Lib.hid hc
  have HH4 : Hid (stateB W.heap.size w4 vs d) := hH
  have HVl : Hid (vs.length = 29) := hvl
  have HK4 : Hid (Cut rb stZ stT w4) := (hu.block rb HK3.out.lt (by have := HRq.out; have := HQF.out; omega) (by have := HRq.out; omega) (by have := HRq.out; have := HQF.out; omega)).trans HK3.out
  have HBW4 : Hid (Below W.heap.size W w4) := HBW.out.trans ⟨hu.os, hu.tape, hu.output, hu.size, fun k hk => hu.block k (Nat.lt_of_lt_of_le hk HBW.out.size) (by have := HFW.out; have := HQF.out; omega) (by have := HFW.out; omega) (by have := HFW.out; have := HQF.out; omega)⟩
  clear hr hc hH hu hd hvl
  go_upto_region 4 with fail
  go_cut [19] from 12 to 19 (fun s19 wx => RkI F q l1 (mustE (decide (l1 = [])) e1 14) wx ∧ Cut (F + 1) vs stT wx ∧ Cut rb stZ stT wx ∧ stateB W.heap.size wx vs d ∧ Below W.heap.size W wx)
  case first =>
    obtain ⟨⟨c0, c1, c2⟩, f0, f1, f2⟩ := three HR4.out.k
    obtain ⟨l2, e2, hrd, hle⟩ := HR4.out.r
    have HRd2 := Lib.hid hrd
    have HLe := Lib.hid hle
    clear hrd hle
    go_wp2_with fail
    refine (rd_left_calls w4 q l2 e2 HRd2.out.toRd).mono ?_
    rintro r w' ⟨rfl, rfl⟩
    have HM : Hid (mustE (decide (l2 = [])) e1 14 = mustE (decide (l1 = [])) e1 14) := by
      show _ = _
      by_cases he : e1 = 0
      · rw [(HLe.out he).1]
      · rw [mustE_stop he, mustE_stop he]
    have hfin : ∀ wx, RkI F q l1 (mustE (decide (l2 = [])) e1 14) wx → (∀ k, k ≠ F → wx.heap[k]? = w4.heap[k]?) → (∀ g, RUp F q g w4 wx) → RkI F q l1 (mustE (decide (l1 = [])) e1 14) wx ∧ Cut (F + 1) vs stT wx ∧ Cut rb stZ stT wx ∧ stateB W.heap.size wx vs d ∧ Below W.heap.size W wx := by
      intro wx h1 h2 h3
      rw [HM.out] at h1
      refine ⟨h1, (h2 _ (by omega)).trans HC4.out, (h2 _ (by have := HRq.out; have := HQF.out; omega)).trans HK4.out, (stateB_st _).keep HH4.out (fun k c t fr hk ht => h2 k (fun e => ?_)), HBW4.out.trans ⟨(h3 0).os, (h3 0).tape, (h3 0).output, (h3 0).size, fun k hk => h2 k (by have := HFW.out; have := HQF.out; omega)⟩⟩
      subst e
      have := hk.symm.trans HR4.out.k
      injection this with this
      injection this with _ this _
      rw [this] at ht
      cases ht
    have HFin := Lib.hid hfin
    clear hfin
    by_cases hl : l2 = []
    · have t1 : ((l2.length : Int) == 0) = true := by rw [hl]; rfl
      have t2 : decide ((l2.length : Int) = 0) = true := by rw [hl]; rfl
      have t3 : (l2.length : Int) = 0 := by rw [hl]; rfl
      have HT : Hid (decide (l2 = []) = true) := decide_eq_true hl
      clear hl
      go_wp2_with fail
      refine (must_calls w4 F q l1 e1 true 14 HR4.out).mono ?_
      rintro r w5 ⟨rfl, hr5, hu5, hn5⟩
      rw [← HT.out] at hr5
      have HG5 := Lib.hid (HFin.out w5 hr5 hn5 hu5)
      clear hr5 hu5 hn5 t1 t2 t3 c0 c1 c2 f0 f1 f2
      go_wp2_with fail
      go_meet
      exact HG5.out
    · have hlp : 0 < l2.length := List.length_pos_iff.2 hl
      have t1 : ((l2.length : Int) == 0) = false := by rw [beq_eq_false_iff_ne]; omega
      have t2 : decide ((l2.length : Int) = 0) = false := decide_eq_false (by omega)
      have t3 : ¬ (l2.length : Int) = 0 := by omega
      have HT : Hid (decide (l2 = []) = false) := decide_eq_false hl
      clear hl
      go_wp2_with fail
      refine (must_calls w4 F q l1 e1 false 14 HR4.out).mono ?_
      rintro r w5 ⟨rfl, hr5, hu5, hn5⟩
      rw [← HT.out] at hr5
      have HG5 := Lib.hid (HFin.out w5 hr5 hn5 hu5)
      clear hr5 hu5 hn5 t1 t2 t3 c0 c1 c2 f0 f1 f2
      go_wp2_with fail
      go_meet
      exact HG5.out
  case rest =>
    obtain ⟨hr, hc, hk, hH, hb⟩ := hcut
    generalize mustE (decide (l1 = [])) e1 14 = e3 at *
    have HR5 := Lib.hid hr
    have HC5 := Lib.hid hc
    have HK5 := Lib.hid hk
    have HH5 := Lib.hid hH
    have HB5 := Lib.hid hb
    clear hr hc hk hH hb
    obtain ⟨⟨c0, c1, c2⟩, f0, f1, f2⟩ := three HR5.out.k
    by_cases he : e3 = 0
    · subst he
      have HU2 : Hid (unB l = (d, 0)) := by show _ = _; rw [HU.out, if_neg (by decide)]
      go_wp2_with fail
      refine (wrong_calls wc F 0 c2).mono ?_
      rintro r w' ⟨rfl, rfl⟩
      rw [show decide ((0 : Int) ≠ 0) = false from rfl]
      clear c0 c1 c2 f0 f1 f2
      obtain ⟨dd, hdu, hdr⟩ := Option.map_eq_some_iff.1 und_st
      have HDu := Lib.hid hdu
      have HDr := Lib.hid hdr
      clear hdu hdr
      have HRg : Hid (wc.rangeAt (F + 1) 0 vs) := fun j v hv => by rw [Nat.zero_add, HC5.out.cell]; exact hv
      go_upto_region 7 with fail
      go_wp2_with (first | (refine wpList_load_mid rfl stT (.tmp 5) rfl (F + 1) 0 rfl vs dd HRg.out HDu.out HDr.out (by rw [HVl.out]; exact info_st) ?_) | (refine wpList_store_mid rfl stT (.tmp 2) (.tmp 27) rfl rb 0 vs.toArray rfl rfl (there_state HK5.out _ (by rw [List.size_toArray, HVl.out]; exact Nat.le_refl _)) (by rw [List.size_toArray, HVl.out]; exact info_st) (all_oneCell_toArray (state_1.one (stateB_state HH5.out))) ?_))
      have HS := Lib.hid (set_state HK5.out (vs := vs) (by rw [HVl.out]; rfl))
      refine bodyPost_ret (results_cell2 rfl _ _ _ rb (.agg vs.toArray) rfl (loadv_state HS.out HVl.out)) rfl ?_
      rw [HU2.out]
      have hg := Sl.setCells_grown rb vs 0 wc
      refine ⟨vs, rfl, HVl.out, (stateB_st _).keep HH5.out (fun k c t fr hk ht => ?_), ?_⟩
      · by_cases e : k = rb
        · subst e
          have := hk.symm.trans HK5.out
          injection this with this
          injection this with _ this _
          rw [this] at ht
          cases ht
        · exact hg.block k (Array.getElem?_eq_some_iff.1 hk).1 (fun e2 => e (by have := Option.some.inj e2; omega))
      · exact HB5.out.grown hg HB5.out.size (fun j hj => by injection hj with hj; have := HRb.out; omega)
    · have HE := Lib.hid he
      have HU2 : Hid (unB l = (zeroD, e3)) := by show _ = _; rw [HU.out, if_pos HE.out]
      have t1 : decide (e3 ≠ 0) = true := decide_eq_true he
      clear he
      go_wp2_with fail
      refine (wrong_calls wc F e3 c2).mono ?_
      rintro r w' ⟨rfl, rfl⟩
      rw [t1]
      clear t1
      go_upto_region 6 with fail
      have c2' : wc.drew.cell? ⟨F, 2, none⟩ = some (.int .i64 e3) := c2
      have HC2 := Lib.hid c2'
      clear c0 c1 c2 f0 f1 f2 c2'
      refine wp_region_any (by kernel_rfl) ?_
      change wpAny _ _ _ _ _ _ _ (World.drew _)
      refine wpAny_take (i := 0) (v := .agg stZ.toArray) rfl (by kernel_rfl) (by kernel_rfl) (by kernel_rfl) (fun _ _ _ h => h) (Or.inl ⟨by rfl, ?_⟩) ?_
      · intro w
        go_simp
      refine wpAny_take (i := 1) (v := .pointer (some ⟨F, 0, none⟩)) rfl (by kernel_rfl) (by kernel_rfl) (by kernel_rfl) (fun _ _ _ h => h) (Or.inl ⟨by rfl, ?_⟩) ?_
      · intro w
        rfl
      refine wpAny_take (i := 2) (v := .pointer (some ⟨F, 0, none⟩)) rfl (by kernel_rfl) (by kernel_rfl) (by kernel_rfl) (fun _ _ _ h => h) (Or.inl ⟨by rfl, ?_⟩) ?_
      · intro w
        rfl
      refine wpAny_take (i := 3) (v := .pointer (some ⟨F, 2, none⟩)) rfl (by kernel_rfl) (by kernel_rfl) (by kernel_rfl) (fun _ _ _ h => h) (Or.inl ⟨by rfl, ?_⟩) ?_
      · intro w
        rfl
      simp only [Act.put, List.getElem_toArray, List.getElem_cons_zero, List.getElem_cons_succ, List.setIfInBounds_toArray, List.set_cons_succ, List.set_cons_zero]
      refine wpAny_ready (rs := [4, 5]) (by kernel_rfl) (by simp) ?_
      refine AllReady.cons rfl (fun K hK => ?_) (AllReady.cons rfl (fun K hK => ?_) AllReady.nil)
      · refine step_load (by kernel_rfl) 42 (.tmp 25) (by kernel_rfl) (.pointer (some ⟨F, 2, none⟩)) (.int .i64 e3) (by kernel_rfl) (load_errno HC2.out) ?_
        refine hK _ _ ?_
        clear hK K
        simp only [Act.put, List.getElem_toArray, List.getElem_cons_zero, List.getElem_cons_succ, List.setIfInBounds_toArray, List.set_cons_succ, List.set_cons_zero]
        refine wpAny_ready (rs := [5]) (by kernel_rfl) (by simp) ?_
        refine AllReady.cons rfl (fun K hK => ?_) AllReady.nil
        refine step_store_same (by kernel_rfl) stT (.tmp 2) (.tmp 22) (by kernel_rfl) rb stZ (by kernel_rfl) (by kernel_rfl) (show Cut rb stZ stT wc.drew from HK5.out) info_st (state_1.one (zero_state wc)) ?_
        refine hK _ _ ?_
        clear hK K
        simp only [Act.put, List.getElem_toArray, List.getElem_cons_zero, List.getElem_cons_succ]
        refine wpAny_take (i := 6) (v := .int .i64 e3) rfl (by kernel_rfl) (by kernel_rfl) (by kernel_rfl) (fun _ _ _ h => h) (Or.inl ⟨by rfl, ?_⟩) ?_
        · intro w
          rfl
        simp only [Act.put, List.getElem_toArray, List.getElem_cons_zero, List.getElem_cons_succ, List.setIfInBounds_toArray, List.set_cons_succ, List.set_cons_zero]
        refine wpAny_done (by kernel_rfl) ?_ _
        go_wp2_with fail
        refine bodyPost_ret (results_cell2 rfl _ _ _ rb (.agg stZ.toArray) rfl (loadv_state (show Cut rb stZ stT wc.drew from HK5.out) rfl)) rfl ?_
        rw [HU2.out]
        exact ⟨stZ, rfl, rfl, zero_stateB _ _, HB5.out.trans ⟨rfl, rfl, rfl, Nat.le_refl _, fun _ _ => rfl⟩⟩
      · refine step_store_same (by kernel_rfl) stT (.tmp 2) (.tmp 22) (by kernel_rfl) rb stZ (by kernel_rfl) (by kernel_rfl) (show Cut rb stZ stT wc.drew from HK5.out) info_st (state_1.one (zero_state wc)) ?_
        refine hK _ _ ?_
        clear hK K
        simp only [Act.put, List.getElem_toArray, List.getElem_cons_zero, List.getElem_cons_succ]
        refine wpAny_ready (rs := [4]) (by kernel_rfl) (by simp) ?_
        refine AllReady.cons rfl (fun K hK => ?_) AllReady.nil
        refine step_load (by kernel_rfl) 42 (.tmp 25) (by kernel_rfl) (.pointer (some ⟨F, 2, none⟩)) (.int .i64 e3) (by kernel_rfl) (load_errno HC2.out) ?_
        refine hK _ _ ?_
        clear hK K
        simp only [Act.put, List.getElem_toArray, List.getElem_cons_zero, List.getElem_cons_succ, List.setIfInBounds_toArray, List.set_cons_succ, List.set_cons_zero]
        refine wpAny_take (i := 6) (v := .int .i64 e3) rfl (by kernel_rfl) (by kernel_rfl) (by kernel_rfl) (fun _ _ _ h => h) (Or.inl ⟨by rfl, ?_⟩) ?_
        · intro w
          rfl
        simp only [Act.put, List.getElem_toArray, List.getElem_cons_zero, List.getElem_cons_succ, List.setIfInBounds_toArray, List.set_cons_succ, List.set_cons_zero]
        refine wpAny_done (by kernel_rfl) ?_ _
        go_wp2_with fail
        refine bodyPost_ret (results_cell2 rfl _ _ _ rb (.agg stZ.toArray) rfl (loadv_state (show Cut rb stZ stT wc.drew from HK5.out) rfl)) rfl ?_
        rw [HU2.out]
        exact ⟨stZ, rfl, rfl, zero_stateB _ _, HB5.out.trans ⟨rfl, rfl, rfl, Nat.le_refl _, fun _ _ => rfl⟩⟩

end Go.Proofs.Ytmhofdoifgfjfaa

/-! SoNearB -/
set_option linter.unusedVariables false
set_option maxRecDepth 100000
namespace Go.Proofs.Ytmhofdoifgfjfaa
open Go.RowKit Base

theorem stateB_below {B : Nat} {W W' : World} {vs : List Value} {s : StateD} (h : stateB B W vs s) (hb : Below W.heap.size W W') : stateB B W' vs s := (stateB_st B).keep h (fun k c t fr hk _ => hb.block k (Array.getElem?_eq_some_iff.1 hk).1)
theorem stateB_less {B B' : Nat} {W : World} {vs : List Value} {s : StateD} (h : stateB B W vs s) (hb : B' ≤ B) : stateB B' W vs s := by
  obtain ⟨v1, v2, e, hl, g1, v3, v4, e', hl', g2, g3⟩ := h
  exact ⟨v1, v2, e, hl, g1, v3, v4, e', hl', rowB_less g2 hb, g3⟩
/-- What 'Near' tells; the names' block is new. -/
def NearPostB (W : World) (pl : List Int) (f : Int → StateD) (p : Int) (r : Ending) (W' : World) : Prop :=
  (∃ us : List Value, r = .returned (.tuple #[.int .i64 (if uptoN pl p = 0 then 0 else nearB pl p), .agg us.toArray, .bool (decide (uptoN pl p ≠ 0))]) ∧ us.length = 29 ∧ (uptoN pl p ≠ 0 → stateB W.heap.size W' us (f (nearB pl p))) ∧ (uptoN pl p = 0 → us = stZ)) ∧ Below W.heap.size W W'
set_option maxHeartbeats 4000000 in
theorem near_callsB (W : World) (B s m : Nat) (v : Value) (ev mo : Int) (pl : List Int) (f : Int → StateD) (n : Nat) (p : Int) (h : Sto W B s m v ev mo pl f n) (hp : I64 p) (hn : n ≤ 10000) :
    Calls Try.prog 11 #[.pointer (some ⟨s, 0, none⟩), .int .i64 p] W (NearPostB W pl f p) := by
  obtain ⟨ar, cr, hv0, hints⟩ := own_ints h.row
  subst hv0
  obtain ⟨w1, hw1, hc1, hb1⟩ : ∃ w1, W.alloc (.cells Z29 stT) = w1 ∧ Cut W.heap.size stZ stT w1 ∧ Below W.heap.size W w1 := ⟨_, rfl, heap_alloc_new W _, (Below.refl W.heap.size W).alloc (Nat.le_refl _) _⟩
  have HW : Hid (W.alloc (.cells #[.slice none 0 0, .slice none 0 0, .int .i64 0, .string ⟨#[]⟩, .slice none 0 0, .slice none 0 0, .slice none 0 0, .slice none 0 0, .slice none 0 0, .int .i64 0, .int .i64 0, .int .i64 0, .string ⟨#[]⟩, .slice none 0 0, .int .i64 0, .int .i64 0, .int .i64 0, .int .i64 0, .string ⟨#[]⟩, .slice none 0 0, .int .i64 0, .slice none 0 0, .int .i64 0, .int .i64 0, .int .i64 0, .bool false, .bool false, .bool false, .int .i64 0] stT) = w1) := hw1
  have HC1 := Lib.hid hc1
  have HB1 := Lib.hid hb1
  have HS := Lib.hid h
  have HI := Lib.hid hp
  have hln : pl.length ≤ 10000 := Nat.le_trans h.ln hn
  have hS1 := h.below hb1
  have HIn1 := Lib.hid (hints.below (stable_intAt _) hb1)
  obtain ⟨⟨y0, y1, y2, y3⟩, f0, f1, f2, f3⟩ := so_cells hS1.box
  clear hw1 hc1 hb1 h hp hints hS1
  obtain ⟨dd, hdu, hdr⟩ := Option.map_eq_some_iff.1 und_st
  have HDu := Lib.hid hdu
  have HDr := Lib.hid hdr
  clear hdu hdr
  go_enter Try.func11, Try.ntmps11
  go_upto_region 1 with fail
  rw [HW.out]
  obtain ⟨tb, htb⟩ : ∃ tb, W.heap.size = tb := ⟨_, rfl⟩
  have HTb := Lib.hid htb
  rw [htb] at HC1 ⊢
  clear htb
  go_wp2_with fail
  refine (search_calls w1 ar cr pl p HIn1.out HS.out.up (by omega)).mono ?_
  rintro r w2 ⟨rfl, hb2⟩
  have HB2 := Lib.hid (HB1.out.trans (hb2.mono HB1.out.size))
  have HC2 := Lib.hid (cut_below HC1.out hb2)
  have HBs := Lib.hid hb2
  have HUp := Lib.hid (upto_lows HS.out.up p)
  clear hb2 y0 y1 y2 y3 f0 f1 f2 f3
  obtain ⟨⟨y0, y1, y2, y3⟩, f0, f1, f2, f3⟩ := so_cells (HS.out.below HB2.out).box
  obtain ⟨u, hu⟩ : ∃ u, uptoN pl p = u := ⟨_, rfl⟩
  have HU := Lib.hid hu
  have hlw := lowsN_le pl p
  have HCut : Hid ((lowsN pl p : Int) - (if p ∈ pl then 0 else 1) = (u : Int) - 1) := by
    show _ = _
    have := HUp.out
    rw [hu] at this
    split <;> rename_i hm
    · rw [if_pos hm] at this; omega
    · rw [if_neg hm] at this; omega
  clear hu
  go_upto_if 24 with fail
  go_cut [7, 8] (fun s7 s8 wx => s7 = .int .i64 ((u : Int) - 1) ∧ wx = w2)
  case first =>
    have e1 := HCut.out
    by_cases hm : p ∈ pl
    · rw [if_pos hm] at e1
      rw [decide_eq_true hm]
      go_wp2_with fail
      go_meet
      exact ⟨by rw [← e1]; simp, rfl⟩
    · rw [if_neg hm] at e1
      rw [decide_eq_false hm]
      go_wp2_with fail
      go_meet
      exact ⟨by rw [← e1], rfl⟩
  case rest =>
    obtain ⟨rfl, hw⟩ := hcut
    have hw2 := hw.symm
    subst hw2
    clear hw
    have HB2l : Hid (tb < w2.heap.size) := HC2.out.lt
    by_cases h0 : u = 0
    · subst h0
      have u1 : decide (((0 : Nat) : Int) - 1 < 0) = true := by decide
      go_wp2_with (refine wpList_store_mid rfl stT (.tmp 5) (.tmp 29) rfl tb 0 stZ.toArray rfl rfl (there_cut HC2.out _ (Nat.le_refl _)) info_st (all_oneCell_toArray (state_1.one (zero_state W))) ?_; (obtain ⟨wL, hwL⟩ : ∃ x, w2.setCells tb 0 stZ.toArray.toList = x := ⟨_, rfl⟩); have HWL := Lib.hid hwL; (refine (congrArg (wpList _ _ _ _ _) hwL).mpr ?_); clear hwL)
      have hwl : wL = w2 := by
        rw [← HWL.out]
        exact setCells_self tb stZ 0 w2 (fun j hj => by rw [Nat.zero_add, HC2.out.cell, List.getElem?_eq_getElem hj])
      subst hwl
      refine bodyPost_ret (results_cell3 rfl _ _ _ tb (.agg stZ.toArray) rfl (loadv_cut HC2.out und_st info_st)) rfl ?_
      unfold NearPostB
      rw [HU.out]
      exact ⟨⟨stZ, rfl, rfl, fun h => absurd rfl h, fun _ => rfl⟩, HB2.out⟩
    · have u1 : decide ((u : Int) - 1 < 0) = false := decide_eq_false (by omega)
      have u2 : ¬ (u : Int) - 1 < 0 := by omega
      obtain ⟨k, rfl⟩ : ∃ k, u = k + 1 := ⟨u - 1, by omega⟩
      rw [show ((k + 1 : Nat) : Int) - 1 = (k : Int) by omega] at u1 u2 ⊢
      have hnr := near_at HS.out.up (p := p) (by rw [HU.out]; exact h0)
      rw [HU.out, Nat.add_sub_cancel] at hnr
      have hkl : k < pl.length := hnr.1
      have hnx : nearB pl p = pl[k] := by
        unfold nearB
        rw [HU.out, if_neg h0, Nat.add_sub_cancel, List.getD_eq_getElem?_getD, List.getElem?_eq_getElem hkl, Option.getD_some]
      have hS2 := HS.out.below HB2.out
      obtain ⟨D, hD, hKp⟩ := hS2.map
      obtain ⟨uu, hka, hown⟩ := hKp (nearB pl p) hnr.2.1
      obtain ⟨hfP, hfL⟩ := HS.out.fine (nearB pl p) hnr.2.1
      have hlo := HS.out.lo (nearB pl p) hnr.2.1
      obtain ⟨bb, o, hc, hix⟩ := at_ints (HIn1.out.below (stable_intAt _) (show Below w1.heap.size w1 w2 from HBs.out))
      have e0 := hc k hkl
      rw [← hnx] at e0
      have HE0 := Lib.hid e0
      have HIx := Lib.hid fun kd w' => hix kd k w' hkl
      have HNe := Lib.hid hnr
      generalize hxe : nearB pl p = x at *
      have HXe := Lib.hid hxe
      clear hxe
      have HX : Hid (I64 x) := ⟨by omega, by omega⟩
      obtain ⟨au, cu, rfl, hby⟩ := ownsRow_bytes hown
      have HLk : Hid (∀ w', Below w2.heap.size w2 w' → (Instr.lookup 58 (.map (some m)) (.int .i64 x) false).run Try.prog w' = .ok (.slice au (stateC.enc (f x)).length cu) w') := fun w' hb => look_kept (hD.kept (Sl.grown_below hb none) (by simp)) HX.out hka
      have HBy := Lib.hid hby
      have HUb : Hid (unB (stateC.enc (f x)) = (f x, 0)) := unB_back hfP
      have HFl := Lib.hid hfL
      have HY2 := Lib.hid y2
      have HY3 := Lib.hid y3
      clear hnr hnx hS2 hD hKp hka hown hfP hfL hlo hc hix e0 hby
      go_upto_region 8 with fail
      clear y0 y1 y2 y3 f0 f1 f2 f3 u1 u2
      refine Rg.wp_region_rgtL 17 15 [] [Rg.Is (.pointer (some ⟨s, 0, none⟩)), Rg.Is (.pointer (some ⟨s, 0, none⟩)), Rg.Is (.pointer (some ⟨s, 3, none⟩)), Rg.Is (.map (some m)), Rg.Is (.pointer (some ⟨s, 0, none⟩)), Rg.Is (.pointer (some ⟨s, 0, none⟩)), Rg.Is (.pointer (some ⟨s, 2, none⟩)), Rg.Is (.slice ar pl.length cr), Rg.Is (.int .i64 (k : Int)), Rg.Is (.pointer (some ⟨bb, o + k, none⟩)), Rg.Is (.int .i64 x), Rg.Is (.slice au (stateC.enc (f x)).length cu), (fun v x' => ∃ us : List Value, v = .tuple #[.agg us.toArray, .int .i64 0] ∧ us.length = 29 ∧ stateB W.heap.size x' us (f x)), (fun v x' => ∃ us : List Value, v = .tuple #[.agg us.toArray, .int .i64 0] ∧ us.length = 29 ∧ stateB W.heap.size x' us (f x)), (fun v x' => ∃ us : List Value, v = .agg us.toArray ∧ us.length = 29 ∧ stateB W.heap.size x' us (f x)), Rg.Is (.int .i64 0), (fun v x' => ∃ t, v = .pointer (some ⟨t, 0, none⟩) ∧ w2.heap.size ≤ t ∧ Cut t stZ stT x')] (by kernel_rfl) (by kernel_rfl) (of_decide_eq_true (by kernel_rfl)) (by kernel_rfl) (by kernel_rfl) ⟨Rg.st_is _, Rg.st_is _, Rg.st_is _, Rg.st_is _, Rg.st_is _, Rg.st_is _, Rg.st_is _, Rg.st_is _, Rg.st_is _, Rg.st_is _, Rg.st_is _, Rg.st_is _, fun v w w' h hb => by obtain ⟨us, h1, h2, h3⟩ := h; exact ⟨us, h1, h2, stateB_below h3 hb⟩, fun v w w' h hb => by obtain ⟨us, h1, h2, h3⟩ := h; exact ⟨us, h1, h2, stateB_below h3 hb⟩, fun v w w' h hb => by obtain ⟨us, h1, h2, h3⟩ := h; exact ⟨us, h1, h2, stateB_below h3 hb⟩, Rg.st_is _, fun v w w' h hb => by obtain ⟨t, h1, h2, h3⟩ := h; exact ⟨t, h1, h2, cut_below h3 hb⟩, trivial⟩ ⟨rfl, rfl, rfl, rfl, rfl, rfl, rfl, rfl, rfl, rfl, rfl, rfl, rfl, rfl, rfl, rfl, rfl, trivial⟩ ⟨?_, ?_, ?_, ?_, ?_, ?_, ?_, ?_, ?_, ?_, ?_, ?_, ?_, ?_, ?_, ?_, ?_, trivial⟩ _ (by decide) rfl (by kernel_rfl) rfl (fun _ _ _ _ h => h) ?_ ?_
      · intro _ a wx hb hk
        have h0 : a.eval (.tmp 0) = .pointer (some ⟨s, 0, none⟩) := Eq.mp (by kernel_rfl) (hk 0 (by decide))
        exact Rg.does_move ⟨Below.refl _ _, h0⟩
      · intro _ a wx hb hk
        have h31 : a.eval (.tmp 31) = .pointer (some ⟨s, 0, none⟩) := Eq.mp (by kernel_rfl) (hk 31 (by decide))
        exact Ap.does_nil _ h31 ⟨Below.refl _ _, rfl⟩
      · intro _ a wx hb hk
        have h32 : a.eval (.tmp 32) = .pointer (some ⟨s, 0, none⟩) := Eq.mp (by kernel_rfl) (hk 32 (by decide))
        exact Rs.does_field _ _ h32 (fld_so s 3 (by decide) wx) ⟨Below.refl _ _, rfl⟩
      · intro _ a wx hb hk
        have h33 : a.eval (.tmp 33) = .pointer (some ⟨s, 3, none⟩) := Eq.mp (by kernel_rfl) (hk 33 (by decide))
        exact Rg.does_load _ _ h33 (load_kmap (cell_below hb (Nat.le_refl _) HY3.out)) ⟨Below.refl _ _, rfl⟩
      · intro _ a wx hb hk
        have h0 : a.eval (.tmp 0) = .pointer (some ⟨s, 0, none⟩) := Eq.mp (by kernel_rfl) (hk 0 (by decide))
        exact Rg.does_move ⟨Below.refl _ _, h0⟩
      · intro _ a wx hb hk
        have h35 : a.eval (.tmp 35) = .pointer (some ⟨s, 0, none⟩) := Eq.mp (by kernel_rfl) (hk 35 (by decide))
        exact Ap.does_nil _ h35 ⟨Below.refl _ _, rfl⟩
      · intro _ a wx hb hk
        have h36 : a.eval (.tmp 36) = .pointer (some ⟨s, 0, none⟩) := Eq.mp (by kernel_rfl) (hk 36 (by decide))
        exact Rs.does_field _ _ h36 (fld_so s 2 (by decide) wx) ⟨Below.refl _ _, rfl⟩
      · intro _ a wx hb hk
        have h37 : a.eval (.tmp 37) = .pointer (some ⟨s, 2, none⟩) := Eq.mp (by kernel_rfl) (hk 37 (by decide))
        exact Rg.does_load _ _ h37 (load_ints (cell_below hb (Nat.le_refl _) HY2.out)) ⟨Below.refl _ _, rfl⟩
      · intro _ a wx hb hk
        have h7 : a.eval (.tmp 7) = .int .i64 (k : Int) := Eq.mp (by kernel_rfl) (hk 7 (by decide))
        exact Rg.does_move ⟨Below.refl _ _, h7⟩
      · intro _ a wx hb hk
        have h38 : a.eval (.tmp 38) = .slice ar pl.length cr := Eq.mp (by kernel_rfl) (hk 38 (by decide))
        have h39 : a.eval (.tmp 39) = .int .i64 (k : Int) := Eq.mp (by kernel_rfl) (hk 39 (by decide))
        exact Rg.does_index _ _ _ h38 h39 (HIx.out .i64 wx) ⟨Below.refl _ _, rfl⟩
      · intro _ a wx hb hk
        have h40 : a.eval (.tmp 40) = .pointer (some ⟨bb, o + k, none⟩) := Eq.mp (by kernel_rfl) (hk 40 (by decide))
        exact Rg.does_load _ _ h40 (load_int1 (cell_below hb (Nat.le_refl _) HE0.out)) ⟨Below.refl _ _, rfl⟩
      · intro _ a wx hb hk
        have h34 : a.eval (.tmp 34) = .map (some m) := Eq.mp (by kernel_rfl) (hk 34 (by decide))
        have h41 : a.eval (.tmp 41) = .int .i64 x := Eq.mp (by kernel_rfl) (hk 41 (by decide))
        exact does_look _ _ _ h34 h41 (HLk.out wx hb) ⟨Below.refl _ _, rfl⟩
      · intro _ a wx hb hk
        have h42 : a.eval (.tmp 42) = .slice au (stateC.enc (f x)).length cu := Eq.mp (by kernel_rfl) (hk 42 (by decide))
        refine Rg.does_func #[.slice au (stateC.enc (f x)).length cu] Try.func21 (by kernel_rfl) (by kernel_rfl) (by simp [h42]) (unpack_callsB wx au _ cu _ (HBy.out.below stable_byteAt hb) (Nat.le_trans HFl.out (by decide))) ?_
        rintro e w' ⟨us, rfl, hul, hus, hb'⟩
        rw [HUb.out] at hus ⊢
        exact ⟨_, rfl, hb', us, rfl, hul, stateB_less hus (Nat.le_trans HB2.out.size hb.size)⟩
      · intro _ a wx hb hk
        have h43 : (fun v x' => ∃ us : List Value, v = .tuple #[.agg us.toArray, .int .i64 0] ∧ us.length = 29 ∧ stateB W.heap.size x' us (f x)) (a.eval (.tmp 43)) wx := Eq.mp (by kernel_rfl) (hk 43 (by decide))
        exact Rg.does_move ⟨Below.refl _ _, h43⟩
      · intro _ a wx hb hk
        have h30 : (fun v x' => ∃ us : List Value, v = .tuple #[.agg us.toArray, .int .i64 0] ∧ us.length = 29 ∧ stateB W.heap.size x' us (f x)) (a.eval (.tmp 30)) wx := Eq.mp (by kernel_rfl) (hk 30 (by decide))
        obtain ⟨us, h1, h2, h3⟩ := h30
        exact Ap.does_extract _ _ h1 rfl ⟨Below.refl _ _, us, rfl, h2, h3⟩
      · intro _ a wx hb hk
        have h30 : (fun v x' => ∃ us : List Value, v = .tuple #[.agg us.toArray, .int .i64 0] ∧ us.length = 29 ∧ stateB W.heap.size x' us (f x)) (a.eval (.tmp 30)) wx := Eq.mp (by kernel_rfl) (hk 30 (by decide))
        obtain ⟨us, h1, h2, h3⟩ := h30
        exact Ap.does_extract _ _ h1 rfl ⟨Below.refl _ _, rfl⟩
      · intro _ a wx hb hk
        have hal := (Below.refl wx.heap.size wx).alloc (Nat.le_refl _) (.cells Z29 stT)
        exact Ap.does_alloc _ (run_alloc_st wx) ⟨hal, wx.heap.size, rfl, hb.size, heap_alloc_new wx _⟩
      · intro a wx hb hk
        have h30 : (fun v x' => ∃ us : List Value, v = .tuple #[.agg us.toArray, .int .i64 0] ∧ us.length = 29 ∧ stateB W.heap.size x' us (f x)) (a.eval (.tmp 30)) wx := Eq.mp (by kernel_rfl) (hk 30 (by decide))
        obtain ⟨us, h1, h2, h3⟩ := h30
        exact ⟨_, Rg.pure_extract _ _ h1 rfl, rfl⟩
      intro vals wD hbD hL
      obtain ⟨g0, g1, g2, g3, g4, g5, g6, g7, g8, g9, g10, g11, g12, g13, g14, g15, g16, _⟩ := hL
      have g14' : ∃ us : List Value, vals 14 = .agg us.toArray ∧ us.length = 29 ∧ stateB W.heap.size wD us (f x) := g14
      have g16' : ∃ t, vals 16 = .pointer (some ⟨t, 0, none⟩) ∧ w2.heap.size ≤ t ∧ Cut t stZ stT wD := g16
      obtain ⟨us, e14, hul, hus⟩ := g14'
      obtain ⟨t9, e16, ht9, hct⟩ := g16'
      simp only [Rg.putAll, List.take_succ_cons, List.take_zero, List.drop_succ_cons, List.drop_zero, List.setIfInBounds_toArray, List.set_cons_succ, List.set_cons_zero, e14, e16]
      have HUl := Lib.hid hul
      have HUs := Lib.hid hus
      have HCt := Lib.hid hct
      have HT9 := Lib.hid ht9
      have HBD := Lib.hid hbD
      have HOne := Lib.hid (state_1.one (stateB_state hus))
      clear g0 g1 g2 g3 g4 g5 g6 g7 g8 g9 g10 g11 g12 g13 g14 g15 g16 e14 e16 hul hus hct ht9 hbD
      go_upto_region 9 with (refine wpList_store_mid rfl stT (.tmp 9) (.tmp 44) rfl t9 0 us.toArray rfl rfl (there_cut HCt.out _ (by rw [List.size_toArray, HUl.out]; exact Nat.le_refl _)) (by rw [List.size_toArray, HUl.out]; exact info_st) (all_oneCell_toArray HOne.out) ?_; (obtain ⟨wL, hwL⟩ : ∃ x, wD.setCells t9 0 us.toArray.toList = x := ⟨_, rfl⟩); have HWL := Lib.hid hwL; (refine (congrArg (wpList _ _ _ _ _) hwL).mpr ?_); clear hwL)
      have hgL := Sl.setCells_grown t9 us 0 wD
      have hcL : Cut t9 us stT (wD.setCells t9 0 us) := set_cut HCt.out (by rw [HUl.out]; rfl)
      have HWL2 : Hid (wD.setCells t9 0 us = wL) := HWL.out
      rw [HWL2.out] at hgL hcL
      have HsL : Hid (stateB W.heap.size wL us (f x)) := (stateB_st _).keep HUs.out (grown_kept HCt.out rfl hgL)
      have HBL : Hid (Below w2.heap.size w2 wL) := HBD.out.grown hgL HBD.out.size (fun j hj => by have := Option.some.inj hj; have := HT9.out; omega)
      have HCL := Lib.hid hcL
      clear hgL hcL
      refine Rg.wp_region_rgt 9 [] [Rg.Is (.pointer (some ⟨s, 0, none⟩)), Rg.Is (.pointer (some ⟨s, 0, none⟩)), Rg.Is (.pointer (some ⟨s, 2, none⟩)), Rg.Is (.slice ar pl.length cr), Rg.Is (.int .i64 (k : Int)), Rg.Is (.pointer (some ⟨bb, o + k, none⟩)), Rg.Is (.int .i64 x), Rg.Is (.agg us.toArray), Rg.Is (.int .i64 x)] (by kernel_rfl) (by kernel_rfl) (of_decide_eq_true (by kernel_rfl)) (by kernel_rfl) (by kernel_rfl) ⟨Rg.st_is _, Rg.st_is _, Rg.st_is _, Rg.st_is _, Rg.st_is _, Rg.st_is _, Rg.st_is _, Rg.st_is _, Rg.st_is _, trivial⟩ ⟨rfl, rfl, rfl, rfl, rfl, rfl, rfl, rfl, rfl, trivial⟩ ⟨?_, ?_, ?_, ?_, ?_, ?_, ?_, ?_, ?_, trivial⟩ ?_
      · intro _ a wx hb hk
        have h0 : a.eval (.tmp 0) = .pointer (some ⟨s, 0, none⟩) := Eq.mp (by kernel_rfl) (hk 0 (by decide))
        exact Rg.does_move ⟨Below.refl _ _, h0⟩
      · intro _ a wx hb hk
        have h46 : a.eval (.tmp 46) = .pointer (some ⟨s, 0, none⟩) := Eq.mp (by kernel_rfl) (hk 46 (by decide))
        exact Ap.does_nil _ h46 ⟨Below.refl _ _, rfl⟩
      · intro _ a wx hb hk
        have h47 : a.eval (.tmp 47) = .pointer (some ⟨s, 0, none⟩) := Eq.mp (by kernel_rfl) (hk 47 (by decide))
        exact Rs.does_field _ _ h47 (fld_so s 2 (by decide) wx) ⟨Below.refl _ _, rfl⟩
      · intro _ a wx hb hk
        have h48 : a.eval (.tmp 48) = .pointer (some ⟨s, 2, none⟩) := Eq.mp (by kernel_rfl) (hk 48 (by decide))
        exact Rg.does_load _ _ h48 (load_ints (cell_below (HBL.out.trans (hb.mono HBL.out.size)) (Nat.le_refl _) HY2.out)) ⟨Below.refl _ _, rfl⟩
      · intro _ a wx hb hk
        have h7 : a.eval (.tmp 7) = .int .i64 (k : Int) := Eq.mp (by kernel_rfl) (hk 7 (by decide))
        exact Rg.does_move ⟨Below.refl _ _, h7⟩
      · intro _ a wx hb hk
        have h49 : a.eval (.tmp 49) = .slice ar pl.length cr := Eq.mp (by kernel_rfl) (hk 49 (by decide))
        have h50 : a.eval (.tmp 50) = .int .i64 (k : Int) := Eq.mp (by kernel_rfl) (hk 50 (by decide))
        exact Rg.does_index _ _ _ h49 h50 (HIx.out .i64 wx) ⟨Below.refl _ _, rfl⟩
      · intro _ a wx hb hk
        have h51 : a.eval (.tmp 51) = .pointer (some ⟨bb, o + k, none⟩) := Eq.mp (by kernel_rfl) (hk 51 (by decide))
        exact Rg.does_load _ _ h51 (load_int1 (cell_below (HBL.out.trans (hb.mono HBL.out.size)) (Nat.le_refl _) HE0.out)) ⟨Below.refl _ _, rfl⟩
      · intro _ a wx hb hk
        have h9 : a.eval (.tmp 9) = .pointer (some ⟨t9, 0, none⟩) := Eq.mp (by kernel_rfl) (hk 9 (by decide))
        exact Rg.does_load _ _ h9 (load_state (cut_below HCL.out hb) HUl.out) ⟨Below.refl _ _, rfl⟩
      · intro _ a wx hb hk
        have h52 : a.eval (.tmp 52) = .int .i64 x := Eq.mp (by kernel_rfl) (hk 52 (by decide))
        exact Rg.does_assign ⟨Below.refl _ _, h52⟩
      intro vals wE hbD hL
      obtain ⟨g0, g1, g2, g3, g4, g5, g6, g7, g8, _⟩ := hL
      have e7 : vals 7 = .agg us.toArray := g7
      have e8 : vals 8 = .int .i64 x := g8
      simp only [Rg.putAll, List.take_succ_cons, List.take_zero, List.drop_succ_cons, List.drop_zero, List.setIfInBounds_toArray, List.set_cons_succ, List.set_cons_zero, e7, e8]
      have HBE := Lib.hid hbD
      have HCE : Hid (Cut tb stZ stT wE) := cut_below HC2.out (HBL.out.trans (hbD.mono HBL.out.size))
      have HSE : Hid (stateB W.heap.size wE us (f x)) := stateB_below HsL.out hbD
      clear g0 g1 g2 g3 g4 g5 g6 g7 g8 e7 e8 hbD
      go_wp2_with (refine wpList_store_mid rfl stT (.tmp 5) (.tmp 53) rfl tb 0 us.toArray rfl rfl (there_cut HCE.out _ (by rw [List.size_toArray, HUl.out]; exact Nat.le_refl _)) (by rw [List.size_toArray, HUl.out]; exact info_st) (all_oneCell_toArray HOne.out) ?_; (obtain ⟨wF, hwF⟩ : ∃ x, wE.setCells tb 0 us.toArray.toList = x := ⟨_, rfl⟩); have HWF := Lib.hid hwF; (refine (congrArg (wpList _ _ _ _ _) hwF).mpr ?_); clear hwF)
      have hgF := Sl.setCells_grown tb us 0 wE
      have hcF : Cut tb us stT (wE.setCells tb 0 us) := set_cut HCE.out (by rw [HUl.out]; rfl)
      have HWF2 : Hid (wE.setCells tb 0 us = wF) := HWF.out
      rw [HWF2.out] at hgF hcF
      have hsF : stateB W.heap.size wF us (f x) := (stateB_st _).keep HSE.out (grown_kept HCE.out rfl hgF)
      have hb2E : Below W.heap.size W wE := HB2.out.trans ((HBL.out.trans (HBE.out.mono HBL.out.size)).mono HB2.out.size)
      have hbF : Below W.heap.size W wF := hb2E.grown hgF hb2E.size (fun j hj => by have := Option.some.inj hj; have := HTb.out; omega)
      refine bodyPost_ret (results_cell3 rfl _ _ _ tb (.agg us.toArray) rfl (loadv_cut hcF und_st (by rw [HUl.out]; exact info_st))) rfl ?_
      unfold NearPostB
      rw [HU.out]
      rw [HXe.out, if_neg h0, decide_eq_true h0]
      exact ⟨⟨us, rfl, HUl.out, fun _ => hsF, fun h => absurd h h0⟩, hbF⟩
end Go.Proofs.Ytmhofdoifgfjfaa
