/-
  The walk of the statement VarintReads: whatever is read of any bytes, each answer, what is left, and the error, are the document's: true; nothing that was there turns. Conditions: the arguments can be read.
-/
import Derived.Test.YtbbnopikinlcdaaVarRefRead
import Derived.Test.YtbbnopikinlcdaaRegionS
import Derived.Deep.DeepCutAuto
import Derived.Deep.CutBlock
set_option linter.unusedVariables false
namespace Go.Proofs.Ytbbnopikinlcdaa
open Go.RowKit Base

def actAt (w : World) (b o : Nat) (c : UInt8) : Prop := w.cell? ⟨b, o, none⟩ = some (.int .u8 (c.toNat : Int))
abbrev Acts := RowOf actAt 1
theorem stable_actAt : Stable actAt := fun w w' b o x hb h => cell_below hb (Nat.le_refl _) h
theorem info_act : (Try.prog.info? 63).map (fun i => (i.zero, i.size, i.bytes)) = some (some (.agg #[.int .u8 0]), 1, 1) := by kernel_rfl
theorem at_acts {w : World} {a : Option Addr} {n cap : Nat} {l : List UInt8} (h : Acts w a n cap l) : ∃ b off, (∀ k (hk : k < l.length), w.cell? ⟨b, off + k, none⟩ = some (.int .u8 (l[k].toNat : Int))) ∧
    ∀ (kd : IntKind) (k : Nat) (w' : World), k < n → (Instr.indexAt 59 (.slice a n cap) (.int kd (k : Int))).run Try.prog w' = .ok (.pointer (some ⟨b, off + k, none⟩)) w' := by
  obtain ⟨i, hi, _, hs, _⟩ := info_parts info_act
  obtain ⟨b, off, h1, h2⟩ := h.at (P := Try.prog)
  exact ⟨b, off, fun k hk => by simpa [actAt] using h1 k hk, fun kd k w' hk => by simpa using h2 59 63 i Try.underlying59 hi hs kd k w' hk⟩

/-- Block p is the reference's reader. -/
def RefAt (w : World) (p : Nat) (l : List UInt8) (e : Int) : Prop := w.heap[p]? = some (.cells #[.string (str l), .int .i64 e] 61)

theorem RefAt.cells {w : World} {p : Nat} {l : List UInt8} {e : Int} (h : RefAt w p l e) :
    w.cell? ⟨p, 0, none⟩ = some (.string (str l)) ∧ w.cell? ⟨p, 1, none⟩ = some (.int .i64 e) ∧ w.frozen? ⟨p, 0, none⟩ = false ∧ w.frozen? ⟨p, 1, none⟩ = false := by
  unfold RefAt at h
  refine ⟨?_, ?_, ?_, ?_⟩ <;> simp [World.cell?, World.frozen?, h]
theorem RefAt.below {w w' : World} {p : Nat} {l : List UInt8} {e : Int} (h : RefAt w p l e) (hb : Below w.heap.size w w') : RefAt w' p l e := by
  unfold RefAt at h ⊢
  rw [hb.block p (Array.getElem?_eq_some_iff.1 h).1]; exact h
theorem ref_f0 (p : Nat) (w : World) : (Instr.fieldAt 61 (.pointer (some ⟨p, 0, none⟩)) 0).run Try.prog w = .ok (.pointer (some ⟨p, 0, none⟩)) w := by kernel_rfl
theorem ref_f1 (p : Nat) (w : World) : (Instr.fieldAt 61 (.pointer (some ⟨p, 0, none⟩)) 1).run Try.prog w = .ok (.pointer (some ⟨p, 1, none⟩)) w := by kernel_rfl
theorem load_str {w : World} {ad : Addr} {v : Value} (h : w.cell? ad = some v) : (Instr.loadAt 9 (.pointer (some ad))).run Try.prog w = .ok v w := by
  have hagg : (isAgg 9).run Try.prog w = .ok false w := by simp [isAgg, run_underlying Try.underlying9]
  simp [Instr.loadAt, Instr.sureAddr, loadVar, hagg, Result.andThen, load]
  show Sem.run _ (Sem.load Mode.plain ad Sem.pure) w = _
  simp only [Sem.run, h]
theorem load_err {w : World} {ad : Addr} {v : Value} (h : w.cell? ad = some v) : (Instr.loadAt 40 (.pointer (some ad))).run Try.prog w = .ok v w := by
  have hagg : (isAgg 40).run Try.prog w = .ok false w := by simp [isAgg, run_underlying Try.underlying40]
  simp [Instr.loadAt, Instr.sureAddr, loadVar, hagg, Result.andThen, load]
  show Sem.run _ (Sem.load Mode.plain ad Sem.pure) w = _
  simp only [Sem.run, h]

/-- What stands there at the head of a round, and behind what was read in it. -/
def ReadsAt (B : Nat) (w : World) (p q : Nat) (wx : World) : Prop := ∃ (l : List UInt8) (e : Int), l.length ≤ 300 ∧ Rd wx q l e ∧ RefAt wx p l e ∧ Below B w wx ∧ B ≤ wx.heap.size

theorem bytes_beside {w w' : World} {p : Nat} {l2 : List UInt8} {e2 : Int} {a : Option Addr} {n cap : Nat} {l : List UInt8} (hq : RefAt w p l2 e2) (h : Bytes w a n cap l)
    (hg : ∀ k, k < w.heap.size → k ≠ p → w'.heap[k]? = w.heap[k]?) : Bytes w' a n cap l := by
  obtain ⟨h1, h2, h3, b, off, h4, h5⟩ := h
  refine ⟨h1, h2, h3, b, off, h4, fun k hk => ?_⟩
  have h6 := h5 k hk
  unfold byteAt at h6 ⊢
  have hlt : b < w.heap.size := World.block_lt_of_cell? w _ h6
  have hne : b ≠ p := by
    intro hbq
    subst hbq
    unfold World.cell? at h6
    unfold RefAt at hq
    rw [hq] at h6
    simp at h6
    rcases (by omega : off + k = 0 ∨ off + k = 1 ∨ 2 ≤ off + k) with h | h | h
    · simp [h] at h6
    · simp [h] at h6
    · have : ([Value.string (str l2), Value.int .i64 e2] : List Value)[off + k]? = none := List.getElem?_eq_none (by simpa using h)
      rw [this] at h6
      cases h6
  rw [World.cell?_of_block (hg b hlt hne)]
  exact h6

theorem reads_step {B : Nat} {w W : World} {p q : Nat} {l l2 : List UInt8} {e e2 : Int} (hqp : q ≠ p) (hqB : B ≤ q) (hpB : B ≤ p) (hW : Below B w W) (hBs : B ≤ W.heap.size) (hrd : Rd W q l e) (hrf : RefAt W p l e) :
    Rd (((W.setCell ⟨p, 0, none⟩ (.string (str l2))).setCell ⟨p, 1, none⟩ (.int .i64 e2)).alloc (.cells #[.string (str l2), .int .i64 e2] 61)) q l e ∧ ∀ w3, Rd w3 q l2 e2 → ((((W.setCell ⟨p, 0, none⟩ (.string (str l2))).setCell ⟨p, 1, none⟩ (.int .i64 e2)).alloc (.cells #[.string (str l2), .int .i64 e2] 61))).grownBy w3 (some q) → l2.length ≤ 300 → ReadsAt B w p q w3 := by
  have e1 := heap_setCell_same W p 0 _ _ (.string (str l2)) hrf
  have e2' := heap_setCell_same _ p 1 _ _ (.int .i64 e2) e1
  have hg : ∀ k, k < W.heap.size → k ≠ p → ((W.setCell ⟨p, 0, none⟩ (.string (str l2))).setCell ⟨p, 1, none⟩ (.int .i64 e2)).heap[k]? = W.heap[k]? := fun k hk hne => by
    rw [Below.heap_setCell _ _ _ _ hne, Below.heap_setCell _ _ _ _ hne]
  have hrfS : RefAt ((W.setCell ⟨p, 0, none⟩ (.string (str l2))).setCell ⟨p, 1, none⟩ (.int .i64 e2)) p l2 e2 := e2'
  have hS : W.grownBy ((W.setCell ⟨p, 0, none⟩ (.string (str l2))).setCell ⟨p, 1, none⟩ (.int .i64 e2)) (some p) := ⟨rfl, rfl, rfl, by simp [World.setCell], fun k hk hne => hg k hk (fun h => hne (by rw [h]))⟩
  have hrdS : Rd ((W.setCell ⟨p, 0, none⟩ (.string (str l2))).setCell ⟨p, 1, none⟩ (.int .i64 e2)) q l e := by
    obtain ⟨a, n, cap, h1, h2⟩ := hrd
    exact ⟨a, n, cap, by rw [hg q (Array.getElem?_eq_some_iff.1 h1).1 hqp]; exact h1, bytes_beside hrf h2 hg⟩
  have hW2 : Below B w ((W.setCell ⟨p, 0, none⟩ (.string (str l2))).setCell ⟨p, 1, none⟩ (.int .i64 e2)) := hW.grown hS hBs (fun j hj => by simp at hj; omega)
  have hB2 := Nat.le_trans hBs hS.size
  generalize (W.setCell ⟨p, 0, none⟩ (.string (str l2))).setCell ⟨p, 1, none⟩ (.int .i64 e2) = S at *
  have hb1 := (Below.refl S.heap.size S).alloc (Nat.le_refl _) (.cells #[.string (str l2), .int .i64 e2] 61)
  have hS1 := hW2.alloc hB2 (.cells #[.string (str l2), .int .i64 e2] 61)
  have hB1 : B ≤ (S.alloc (.cells #[.string (str l2), .int .i64 e2] 61)).heap.size := by simp; omega
  have hrd1 := hrdS.below hb1
  have hrf1 := hrfS.below hb1
  refine ⟨hrd1, fun w3 h3 hg3 hl => ?_⟩
  generalize S.alloc (.cells #[.string (str l2), .int .i64 e2] 61) = V at *
  refine ⟨l2, e2, hl, h3, ?_, hS1.grown hg3 hB1 (fun j hj => by simp at hj; omega), Nat.le_trans hB1 hg3.size⟩
  unfold RefAt at hrf1 ⊢
  rw [hg3.block p (Array.getElem?_eq_some_iff.1 hrf1).1 (by intro h; simp at h; exact hqp h.symm)]
  exact hrf1
theorem word_len (l : List UInt8) (e : Int) : (VarPlain.word l e).2.1.length ≤ l.length := by
  have h := next_len l e
  unfold VarPlain.word
  split
  · exact h
  · split
    · exact h
    · simp; omega
theorem next_lt (l : List UInt8) (e : Int) : Lt64 (VarPlain.next l e).1 := by
  unfold VarPlain.next
  split
  · simp [Lt64]
  · exact VarPlain.take_lt l
theorem zag_in {y : Nat} (h : Lt64 y) : -9223372036854775808 ≤ VarPlain.zag y ∧ VarPlain.zag y ≤ 9223372036854775807 := by
  unfold Lt64 at h; unfold VarPlain.zag; split <;> omega

set_option maxHeartbeats 400000 in
set_option maxRecDepth 100000 in
theorem var_reads_law (w : World) (a0 : Option Addr) (n0 c0 : Nat) (lb : List UInt8) (h0 : Bytes w a0 n0 c0 lb) (a1 : Option Addr) (n1 c1 : Nat) (la : List UInt8) (h1 : Acts w a1 n1 c1 la) :
    Calls Try.prog 12 #[.slice a0 n0 c0, .slice a1 n1 c1] w fun e w' => e = .returned (.bool true) ∧ Below w.heap.size w w' := by
  have hc0 := h0.2.2.1
  have hn0 := h0.2.1
  have hc1 := h1.2.2.1
  have hn1 := h1.2.1
  unfold maxLen at hc0 hc1
  by_cases hbig : 300 < n0
  · have hb' : decide ((300 : Int) < (n0 : Int)) = true := by simp; omega
    go_enter Try.func12, Try.ntmps12
    go_wp2_with fail
    refine (var_awake_calls _).mono ?_
    rintro e w1 ⟨rfl, hb1⟩
    go_wp2_with fail
    go_ret
    exact ⟨rfl, hb1⟩
  have hb0 : decide ((300 : Int) < (n0 : Int)) = false := by simp; omega
  by_cases hbig2 : 60 < n1
  · have hb' : decide ((60 : Int) < (n1 : Int)) = true := by simp; omega
    go_enter Try.func12, Try.ntmps12
    go_wp2_with fail
    refine (var_awake_calls _).mono ?_
    rintro e w1 ⟨rfl, hb1⟩
    go_wp2_with fail
    go_ret
    exact ⟨rfl, hb1⟩
  have hb2 : decide ((60 : Int) < (n1 : Int)) = false := by simp; omega
  have Hn0 := Lib.hid h0.1
  have Hn1 := Lib.hid h1.1
  have H0 := Lib.hid h0; clear h0
  have H1 := Lib.hid h1; clear h1
  generalize hB : w.heap.size = B
  have HB := Lib.hid hB; clear hB
  have HBel : Hid (∀ wx, Below B w wx → Below w.heap.size w wx) := fun wx hx => by rw [HB.out]; exact hx
  go_enter Try.func12, Try.ntmps12
  go_wp2_with fail
  refine (var_awake_calls _).mono ?_
  rintro e w1 ⟨rfl, hb1⟩
  rw [HB.out] at hb1
  have hs1 : B ≤ w1.heap.size := by have := hb1.size; rw [HB.out] at this; exact this
  go_wp2_with fail
  refine (open_calls w1 a0 n0 c0 lb (H0.out.below stable_byteAt (HBel.out _ hb1)) (by omega)).mono ?_
  rintro e w2 ⟨q, rfl, hq1, hq2, hrd, hb2'⟩
  have hb3 := hb1.trans (hb2'.mono hs1)
  have hs2 := Nat.le_trans hs1 hb2'.size
  have hqB : B ≤ q := Nat.le_trans hs1 hq1
  have hstr := str_bytes (H0.out.below stable_byteAt (HBel.out _ hb3))
  have Hrd := Lib.hid hrd; clear hrd hb1 hs1 hb2' hq1
  go_wp2_with fail
  have hp1 : RefAt (w2.alloc (.cells #[.string (str lb), .int .i64 0] 61)) w2.heap.size lb 0 := heap_alloc_new w2 _
  have hp2 : Rd (w2.alloc (.cells #[.string (str lb), .int .i64 0] 61)) q lb 0 := Hrd.out.below ((Below.refl _ _).alloc (Nat.le_refl _) _)
  have hb4 := hb3.alloc hs2 (.cells #[.string (str lb), .int .i64 0] 61)
  have hs4 : B ≤ (w2.alloc (.cells #[.string (str lb), .int .i64 0] 61)).heap.size := by simp; omega
  have hlb : lb.length ≤ 300 := by rw [← Hn0.out]; omega
  clear hstr hb3 Hrd
  have hqp : q ≠ w2.heap.size := by omega
  have hpB : B ≤ w2.heap.size := by omega
  generalize w2.heap.size = p at *
  go_loopw [8] (fun i wr => ∃ (k : Nat) (l : List UInt8) (e : Int), k ≤ n1 ∧ i = .int .i64 k ∧ l.length ≤ 300 ∧ Rd wr q l e ∧ RefAt wr p l e ∧ Below B w wr ∧ B ≤ wr.heap.size) (fun i _ => n1 - (intOf i).toNat)
  case atStart => exact ⟨0, lb, 0, Nat.zero_le _, rfl, hlb, hp2, hp1, hb4, hs4⟩
  case round =>
    obtain ⟨k, l, e, hk, rfl, hll, hrd, href, hbel, hBs⟩ := hrel
    clear hp2 hp1 hb4 hs4 hlb
    by_cases hlt : k < n1
    · have hkl : k < la.length := by rw [← Hn1.out]; exact hlt
      obtain ⟨b, off, hrow, hidx⟩ := at_acts H1.out
      have hc : wr.cell? ⟨b, off + k, none⟩ = some (.int .u8 (la[k].toNat : Int)) := cell_below (HBel.out _ hbel) (Nat.le_refl _) (hrow k hkl)
      have hix := hidx .i64 k wr hlt
      clear hrow hidx
      generalize la[k]'hkl = c at *
      go_upto_block 2 with fail
      go_cut [7] (fun s7 wx => s7 = .pointer (some ⟨p, 0, none⟩) ∧ ReadsAt B w p q wx)
      case first =>
        obtain ⟨hk0, hk1, hkf0, hkf1⟩ := RefAt.cells href
        by_cases hc0 : c.toNat = 0
        · have t0 : ((c.toNat : Int) == 0) = true := by rw [beq_iff_eq]; omega
          clear hc0
          have Hlen := Lib.hid (next_len l e)
          have Hlt := Lib.hid (next_lt l e)
          have Hpr := Lib.hid (fun W (h : Rd W q l e) => rd_num_calls W q l e h)
          go_wp2_with fail
          refine (ref_next_calls _ l e (by unfold maxLen; omega)).mono ?_
          rintro r w2 ⟨rfl, hb2⟩
          have hrd2 := hrd.below hb2
          have href2 := href.below hb2
          have hbel2 := hbel.trans (hb2.mono hBs)
          have hBs2 : B ≤ w2.heap.size := Nat.le_trans hBs hb2.size
          clear hrd href hbel hBs hb2 hk0 hk1 hkf0 hkf1
          generalize VarPlain.next l e = t at *
          obtain ⟨x, l2, e2⟩ := t
          simp only [] at Hlen Hlt Hpr
          unfold refR
          obtain ⟨j0, j1, jf0, jf1⟩ := RefAt.cells href2
          have jz : p < w2.heap.size := (Array.getElem?_eq_some_iff.1 (show w2.heap[p]? = some _ from href2)).1
          have Hst := Lib.hid (reads_step (l2 := l2) (e2 := e2) hqp hqB hpB hbel2 hBs2 hrd2 href2)
          clear hrd2 href2 hbel2 hBs2
          go_wp2_with fail
          refine (Hpr.out _ Hst.out.1).mono ?_
          rintro r w3 ⟨rfl, hrd3, hg3⟩
          have Hfin := Lib.hid (Hst.out.2 w3 hrd3 hg3 (by have := Hlen.out; omega))
          clear hrd3 hg3
          go_wp2_with fail
          go_meet
          exact ⟨rfl, Hfin.out⟩
        have t0 : ((c.toNat : Int) == 0) = false := by rw [beq_eq_false_iff_ne]; omega
        by_cases hc1 : c.toNat = 1
        · have t1 : ((c.toNat : Int) == 1) = true := by rw [beq_iff_eq]; omega
          clear hc0 hc1
          have Hlen := Lib.hid (next_len l e)
          have Hlt := Lib.hid (next_lt l e)
          have Hpr := Lib.hid (fun W (h : Rd W q l e) => rd_int_calls W q l e h)
          go_wp2_with fail
          refine (ref_next_calls _ l e (by unfold maxLen; omega)).mono ?_
          rintro r w2 ⟨rfl, hb2⟩
          have hrd2 := hrd.below hb2
          have href2 := href.below hb2
          have hbel2 := hbel.trans (hb2.mono hBs)
          have hBs2 : B ≤ w2.heap.size := Nat.le_trans hBs hb2.size
          clear hrd href hbel hBs hb2 hk0 hk1 hkf0 hkf1
          generalize VarPlain.next l e = t at *
          obtain ⟨x, l2, e2⟩ := t
          simp only [] at Hlen Hlt Hpr
          unfold refR
          obtain ⟨j0, j1, jf0, jf1⟩ := RefAt.cells href2
          have jz : p < w2.heap.size := (Array.getElem?_eq_some_iff.1 (show w2.heap[p]? = some _ from href2)).1
          have Hst := Lib.hid (reads_step (l2 := l2) (e2 := e2) hqp hqB hpB hbel2 hBs2 hrd2 href2)
          clear hrd2 href2 hbel2 hBs2
          go_wp2_with fail
          refine (Hpr.out _ Hst.out.1).mono ?_
          rintro r w3 ⟨rfl, hrd3, hg3⟩
          have Hfin := Lib.hid (Hst.out.2 w3 hrd3 hg3 (by have := Hlen.out; omega))
          clear hrd3 hg3
          go_wp2_with fail
          refine (var_ref_zig_calls _ _ (zag_in Hlt.out).1 (zag_in Hlt.out).2).mono ?_
          rintro r w4 ⟨rfl, rfl⟩
          rw [VarPlain.zig_zag]
          go_wp2_with fail
          go_meet
          exact ⟨rfl, Hfin.out⟩
        have t1 : ((c.toNat : Int) == 1) = false := by rw [beq_eq_false_iff_ne]; omega
        by_cases hc2 : c.toNat = 2
        · have t2 : ((c.toNat : Int) == 2) = true := by rw [beq_iff_eq]; omega
          clear hc0 hc1 hc2
          have Hlen := Lib.hid (word_len l e)
          have Hlt := Lib.hid (next_lt l e)
          have Hpr := Lib.hid (fun W (h : Rd W q l e) => rd_text_calls W q l e h)
          go_wp2_with fail
          refine (ref_word_calls _ l e (by unfold maxLen; omega)).mono ?_
          rintro r w2 ⟨rfl, hb2⟩
          have hrd2 := hrd.below hb2
          have href2 := href.below hb2
          have hbel2 := hbel.trans (hb2.mono hBs)
          have hBs2 : B ≤ w2.heap.size := Nat.le_trans hBs hb2.size
          clear hrd href hbel hBs hb2 hk0 hk1 hkf0 hkf1
          generalize VarPlain.word l e = t at *
          obtain ⟨x, l2, e2⟩ := t
          simp only [] at Hlen Hlt Hpr
          unfold refR
          obtain ⟨j0, j1, jf0, jf1⟩ := RefAt.cells href2
          have jz : p < w2.heap.size := (Array.getElem?_eq_some_iff.1 (show w2.heap[p]? = some _ from href2)).1
          have Hst := Lib.hid (reads_step (l2 := l2) (e2 := e2) hqp hqB hpB hbel2 hBs2 hrd2 href2)
          clear hrd2 href2 hbel2 hBs2
          go_wp2_with fail
          refine (Hpr.out _ Hst.out.1).mono ?_
          rintro r w3 ⟨rfl, hrd3, hg3⟩
          have Hfin := Lib.hid (Hst.out.2 w3 hrd3 hg3 (by have := Hlen.out; omega))
          clear hrd3 hg3
          go_wp2_with fail
          go_meet
          exact ⟨rfl, Hfin.out⟩
        have t2 : ((c.toNat : Int) == 2) = false := by rw [beq_eq_false_iff_ne]; omega
        clear hc0 hc1 hc2
        go_wp2_with fail
        go_meet
        exact ⟨rfl, l, e, hll, hrd, href, hbel, hBs⟩
      case rest =>
        obtain ⟨rfl, hcut2⟩ := hcut
        clear hrd href hbel hBs hll hc hix l e
        obtain ⟨l, e, hll, hrd, href, hbel, hBs⟩ := hcut2
        have HRD := Lib.hid hrd; clear hrd
        have HK : Hid (wc.cell? ⟨p, 0, none⟩ = some (.string (str l)) ∧ wc.cell? ⟨p, 1, none⟩ = some (.int .i64 e)) := ⟨(RefAt.cells href).1, (RefAt.cells href).2.1⟩
        obtain ⟨hk0, hk1, _, _⟩ := RefAt.cells href
        have HRF := Lib.hid href; clear href
        by_cases he : e = 0
        · subst he
          by_cases hl : l = []
          · have HE : Hid (endE l 0 = 0) := by show _ = _; unfold endE; rw [if_pos (.inr hl)]
            have hs0 : (str l).toList = [] := by rw [hl, ByteArray.toList_eq]; rfl
            clear hl
            go_wp2_with fail
            refine Rg.wp_region_rgl [] [Rg.Is (.pointer (some ⟨q, 0, none⟩)), Rg.Is (.int .i64 (l.length : Int)), Rg.Is (.pointer (some ⟨p, 0, none⟩)), Rg.Is (.string (str l)), Rg.Is (.int .i64 (l.length : Int)), Rg.Is (.bool false), Rg.Is (.bool false), Rg.Is (.pointer (some ⟨q, 0, none⟩)), Rg.Is (.int .i64 0), Rg.Is (.pointer (some ⟨p, 1, none⟩)), Rg.Is (.int .i64 0), Rg.Is (.bool false), Rg.Is (.bool false), Rg.Is (.bool false), Rg.Is (.pointer (some ⟨q, 0, none⟩)), Rg.Is (.int .i64 0), Rg.Is (.int .i64 0), Rg.Is (.bool false), Rg.Is (.bool false)] (by kernel_rfl) (by kernel_rfl) (by kernel_rfl) ⟨Rg.st_is _, Rg.st_is _, Rg.st_is _, Rg.st_is _, Rg.st_is _, Rg.st_is _, Rg.st_is _, Rg.st_is _, Rg.st_is _, Rg.st_is _, Rg.st_is _, Rg.st_is _, Rg.st_is _, Rg.st_is _, Rg.st_is _, Rg.st_is _, Rg.st_is _, Rg.st_is _, Rg.st_is _, trivial⟩ ⟨rfl, rfl, rfl, rfl, rfl, rfl, rfl, ⟨rfl, fun _ _ h => h⟩, ⟨rfl, fun _ _ h => h⟩, ⟨rfl, fun _ _ h => h⟩, ⟨rfl, fun _ _ h => h⟩, ⟨rfl, fun _ _ h => h⟩, rfl, rfl, ⟨rfl, fun _ _ h => h⟩, ⟨rfl, fun _ _ h => h⟩, ⟨rfl, fun _ _ h => h⟩, ⟨rfl, fun _ _ h => h⟩, rfl, trivial⟩ ⟨?_, ?_, ?_, ?_, ?_, ?_, ?_, ?_, ?_, ?_, ?_, ?_, ?_, ?_, ?_, ?_, ?_, ?_, ?_, trivial⟩ ?_
            · intro _ a wx hb hk
              have h6 : a.eval (.tmp 6) = .pointer (some ⟨q, 0, none⟩) := Eq.mp (by kernel_rfl) (hk 6 (by decide))
              exact Rg.does_move ⟨Below.refl _ _, h6⟩
            · intro _ a wx hb hk
              have h90 : a.eval (.tmp 90) = .pointer (some ⟨q, 0, none⟩) := Eq.mp (by kernel_rfl) (hk 90 (by decide))
              refine Rg.does_func #[.pointer (some ⟨q, 0, none⟩)] Try.func37 (by kernel_rfl) (by kernel_rfl) (by simp [h90]) (rd_left_calls wx q l _ (HRD.out.below hb)) ?_
              rintro e' w' ⟨rfl, rfl⟩
              exact ⟨_, rfl, Below.refl _ _, rfl⟩
            · intro _ a wx hb hk
              have h7 : a.eval (.tmp 7) = .pointer (some ⟨p, 0, none⟩) := Eq.mp (by kernel_rfl) (hk 7 (by decide))
              exact Rs.does_field _ _ h7 (ref_f0 _ _) ⟨Below.refl _ _, rfl⟩
            · intro _ a wx hb hk
              have h92 : a.eval (.tmp 92) = .pointer (some ⟨p, 0, none⟩) := Eq.mp (by kernel_rfl) (hk 92 (by decide))
              exact Rg.does_load _ _ h92 (load_str (cell_below hb (Nat.le_refl _) HK.out.1)) ⟨Below.refl _ _, rfl⟩
            · intro _ a wx hb hk
              have h93 : a.eval (.tmp 93) = .string (str l) := Eq.mp (by kernel_rfl) (hk 93 (by decide))
              exact Rs.does_len_string (str l) Try.underlying9 h93 ⟨Below.refl _ _, rfl⟩
            · intro _ a wx hb hk
              have h91 : a.eval (.tmp 91) = .int .i64 (l.length : Int) := Eq.mp (by kernel_rfl) (hk 91 (by decide))
              have h94 : a.eval (.tmp 94) = .int .i64 (l.length : Int) := Eq.mp (by kernel_rfl) (hk 94 (by decide))
              exact Rg.does_bin .i64 _ _ _ h91 h94 Rs.run_neq0 ⟨Below.refl _ _, rfl⟩
            · intro _ a wx hb hk
              have h95 : a.eval (.tmp 95) = .bool false := Eq.mp (by kernel_rfl) (hk 95 (by decide))
              exact Rg.does_move ⟨Below.refl _ _, h95⟩
            · intro _ a wx hb hk
              have h6 : a.eval (.tmp 6) = .pointer (some ⟨q, 0, none⟩) := Eq.mp (by kernel_rfl) (hk 6 (by decide))
              exact Rg.does_move ⟨Below.refl _ _, h6⟩
            · intro _ a wx hb hk
              have h97 : a.eval (.tmp 97) = .pointer (some ⟨q, 0, none⟩) := Eq.mp (by kernel_rfl) (hk 97 (by decide))
              refine Rg.does_func #[.pointer (some ⟨q, 0, none⟩)] Try.func36 (by kernel_rfl) (by kernel_rfl) (by simp [h97]) (rd_err_calls wx q l _ (HRD.out.below hb)) ?_
              rintro e' w' ⟨rfl, rfl⟩
              exact ⟨_, rfl, Below.refl _ _, rfl⟩
            · intro _ a wx hb hk
              have h7 : a.eval (.tmp 7) = .pointer (some ⟨p, 0, none⟩) := Eq.mp (by kernel_rfl) (hk 7 (by decide))
              exact Rs.does_field _ _ h7 (ref_f1 _ _) ⟨Below.refl _ _, rfl⟩
            · intro _ a wx hb hk
              have h99 : a.eval (.tmp 99) = .pointer (some ⟨p, 1, none⟩) := Eq.mp (by kernel_rfl) (hk 99 (by decide))
              exact Rg.does_load _ _ h99 (load_err (cell_below hb (Nat.le_refl _) HK.out.2)) ⟨Below.refl _ _, rfl⟩
            · intro _ a wx hb hk
              have h98 : a.eval (.tmp 98) = .int .i64 0 := Eq.mp (by kernel_rfl) (hk 98 (by decide))
              have h100 : a.eval (.tmp 100) = .int .i64 0 := Eq.mp (by kernel_rfl) (hk 100 (by decide))
              exact Rg.does_bin .i64 _ _ _ h98 h100 Rs.run_neq0 ⟨Below.refl _ _, rfl⟩
            · intro _ a wx hb hk
              have h96 : a.eval (.tmp 96) = .bool false := Eq.mp (by kernel_rfl) (hk 96 (by decide))
              have h101 : a.eval (.tmp 101) = .bool false := Eq.mp (by kernel_rfl) (hk 101 (by decide))
              exact Rg.does_pick false h96 ⟨Below.refl _ _, h101⟩
            · intro _ a wx hb hk
              have h102 : a.eval (.tmp 102) = .bool false := Eq.mp (by kernel_rfl) (hk 102 (by decide))
              exact Rg.does_move ⟨Below.refl _ _, h102⟩
            · intro _ a wx hb hk
              have h6 : a.eval (.tmp 6) = .pointer (some ⟨q, 0, none⟩) := Eq.mp (by kernel_rfl) (hk 6 (by decide))
              exact Rg.does_move ⟨Below.refl _ _, h6⟩
            · intro _ a wx hb hk
              have h104 : a.eval (.tmp 104) = .pointer (some ⟨q, 0, none⟩) := Eq.mp (by kernel_rfl) (hk 104 (by decide))
              refine Rg.does_func #[.pointer (some ⟨q, 0, none⟩)] Try.func35 (by kernel_rfl) (by kernel_rfl) (by simp [h104]) (rd_end_calls wx q l _ (HRD.out.below hb)) ?_
              rintro e' w' ⟨rfl, rfl⟩
              exact ⟨_, rfl, Below.refl _ _, by show _ = _; rw [HE.out]⟩
            · intro _ a wx hb hk
              have h15 : a.eval (.tmp 15) = .int .i64 0 := Eq.mp (by kernel_rfl) (hk 15 (by decide))
              exact Rg.does_move ⟨Below.refl _ _, h15⟩
            · intro _ a wx hb hk
              have h105 : a.eval (.tmp 105) = .int .i64 0 := Eq.mp (by kernel_rfl) (hk 105 (by decide))
              have h106 : a.eval (.tmp 106) = .int .i64 0 := Eq.mp (by kernel_rfl) (hk 106 (by decide))
              exact Rg.does_bin .i64 _ _ _ h105 h106 Rs.run_neq0 ⟨Below.refl _ _, rfl⟩
            · intro _ a wx hb hk
              have h103 : a.eval (.tmp 103) = .bool false := Eq.mp (by kernel_rfl) (hk 103 (by decide))
              have h107 : a.eval (.tmp 107) = .bool false := Eq.mp (by kernel_rfl) (hk 107 (by decide))
              exact Rg.does_pick false h103 ⟨Below.refl _ _, h107⟩
            intro vals wD hbD hL
            obtain ⟨g0, g1, g2, g3, g4, g5, g6, g7, g8, g9, g10, g11, g12, g13, g14, g15, g16, g17, g18, _⟩ := hL
            have hres : vals 18 = .bool false := g18
            clear g0 g1 g2 g3 g4 g5 g6 g7 g8 g9 g10 g11 g12 g13 g14 g15 g16 g17 g18
            have hrdD := HRD.out.below hbD
            have hrfD := HRF.out.below hbD
            have hbelD := hbel.trans (hbD.mono hBs)
            have hBsD : B ≤ wD.heap.size := Nat.le_trans hBs hbD.size
            clear hbD hbel hBs
            simp only [Rg.putAll, List.setIfInBounds_toArray, List.set_cons_succ, List.set_cons_zero]
            go_wp2_with fail
            go_roundw
            case rel => exact ⟨k + 1, l, _, by omega, by go_num, hll, hrdD, hrfD, hbelD, hBsD⟩
            case measure => simp [intOf]; omega
          · have HE : Hid (endE l 0 = 14) := by show _ = _; unfold endE; rw [if_neg (by simpa using hl)]
            have hs0 : ((str l).toList == []) = false := by
              rw [beq_eq_false_iff_ne, ByteArray.toList_eq]; exact hl
            have hs1 : (str l).toList.isEmpty = false := by
              rw [ByteArray.toList_eq, str_data]
              cases l
              · exact absurd rfl hl
              · rfl
            clear hl
            go_wp2_with fail
            refine Rg.wp_region_rgl [] [Rg.Is (.pointer (some ⟨q, 0, none⟩)), Rg.Is (.int .i64 (l.length : Int)), Rg.Is (.pointer (some ⟨p, 0, none⟩)), Rg.Is (.string (str l)), Rg.Is (.int .i64 (l.length : Int)), Rg.Is (.bool false), Rg.Is (.bool false), Rg.Is (.pointer (some ⟨q, 0, none⟩)), Rg.Is (.int .i64 0), Rg.Is (.pointer (some ⟨p, 1, none⟩)), Rg.Is (.int .i64 0), Rg.Is (.bool false), Rg.Is (.bool false), Rg.Is (.bool false), Rg.Is (.pointer (some ⟨q, 0, none⟩)), Rg.Is (.int .i64 14), Rg.Is (.int .i64 14), Rg.Is (.bool false), Rg.Is (.bool false)] (by kernel_rfl) (by kernel_rfl) (by kernel_rfl) ⟨Rg.st_is _, Rg.st_is _, Rg.st_is _, Rg.st_is _, Rg.st_is _, Rg.st_is _, Rg.st_is _, Rg.st_is _, Rg.st_is _, Rg.st_is _, Rg.st_is _, Rg.st_is _, Rg.st_is _, Rg.st_is _, Rg.st_is _, Rg.st_is _, Rg.st_is _, Rg.st_is _, Rg.st_is _, trivial⟩ ⟨rfl, rfl, rfl, rfl, rfl, rfl, rfl, ⟨rfl, fun _ _ h => h⟩, ⟨rfl, fun _ _ h => h⟩, ⟨rfl, fun _ _ h => h⟩, ⟨rfl, fun _ _ h => h⟩, ⟨rfl, fun _ _ h => h⟩, rfl, rfl, ⟨rfl, fun _ _ h => h⟩, ⟨rfl, fun _ _ h => h⟩, ⟨rfl, fun _ _ h => h⟩, ⟨rfl, fun _ _ h => h⟩, rfl, trivial⟩ ⟨?_, ?_, ?_, ?_, ?_, ?_, ?_, ?_, ?_, ?_, ?_, ?_, ?_, ?_, ?_, ?_, ?_, ?_, ?_, trivial⟩ ?_
            · intro _ a wx hb hk
              have h6 : a.eval (.tmp 6) = .pointer (some ⟨q, 0, none⟩) := Eq.mp (by kernel_rfl) (hk 6 (by decide))
              exact Rg.does_move ⟨Below.refl _ _, h6⟩
            · intro _ a wx hb hk
              have h90 : a.eval (.tmp 90) = .pointer (some ⟨q, 0, none⟩) := Eq.mp (by kernel_rfl) (hk 90 (by decide))
              refine Rg.does_func #[.pointer (some ⟨q, 0, none⟩)] Try.func37 (by kernel_rfl) (by kernel_rfl) (by simp [h90]) (rd_left_calls wx q l _ (HRD.out.below hb)) ?_
              rintro e' w' ⟨rfl, rfl⟩
              exact ⟨_, rfl, Below.refl _ _, rfl⟩
            · intro _ a wx hb hk
              have h7 : a.eval (.tmp 7) = .pointer (some ⟨p, 0, none⟩) := Eq.mp (by kernel_rfl) (hk 7 (by decide))
              exact Rs.does_field _ _ h7 (ref_f0 _ _) ⟨Below.refl _ _, rfl⟩
            · intro _ a wx hb hk
              have h92 : a.eval (.tmp 92) = .pointer (some ⟨p, 0, none⟩) := Eq.mp (by kernel_rfl) (hk 92 (by decide))
              exact Rg.does_load _ _ h92 (load_str (cell_below hb (Nat.le_refl _) HK.out.1)) ⟨Below.refl _ _, rfl⟩
            · intro _ a wx hb hk
              have h93 : a.eval (.tmp 93) = .string (str l) := Eq.mp (by kernel_rfl) (hk 93 (by decide))
              exact Rs.does_len_string (str l) Try.underlying9 h93 ⟨Below.refl _ _, rfl⟩
            · intro _ a wx hb hk
              have h91 : a.eval (.tmp 91) = .int .i64 (l.length : Int) := Eq.mp (by kernel_rfl) (hk 91 (by decide))
              have h94 : a.eval (.tmp 94) = .int .i64 (l.length : Int) := Eq.mp (by kernel_rfl) (hk 94 (by decide))
              exact Rg.does_bin .i64 _ _ _ h91 h94 Rs.run_neq0 ⟨Below.refl _ _, rfl⟩
            · intro _ a wx hb hk
              have h95 : a.eval (.tmp 95) = .bool false := Eq.mp (by kernel_rfl) (hk 95 (by decide))
              exact Rg.does_move ⟨Below.refl _ _, h95⟩
            · intro _ a wx hb hk
              have h6 : a.eval (.tmp 6) = .pointer (some ⟨q, 0, none⟩) := Eq.mp (by kernel_rfl) (hk 6 (by decide))
              exact Rg.does_move ⟨Below.refl _ _, h6⟩
            · intro _ a wx hb hk
              have h97 : a.eval (.tmp 97) = .pointer (some ⟨q, 0, none⟩) := Eq.mp (by kernel_rfl) (hk 97 (by decide))
              refine Rg.does_func #[.pointer (some ⟨q, 0, none⟩)] Try.func36 (by kernel_rfl) (by kernel_rfl) (by simp [h97]) (rd_err_calls wx q l _ (HRD.out.below hb)) ?_
              rintro e' w' ⟨rfl, rfl⟩
              exact ⟨_, rfl, Below.refl _ _, rfl⟩
            · intro _ a wx hb hk
              have h7 : a.eval (.tmp 7) = .pointer (some ⟨p, 0, none⟩) := Eq.mp (by kernel_rfl) (hk 7 (by decide))
              exact Rs.does_field _ _ h7 (ref_f1 _ _) ⟨Below.refl _ _, rfl⟩
            · intro _ a wx hb hk
              have h99 : a.eval (.tmp 99) = .pointer (some ⟨p, 1, none⟩) := Eq.mp (by kernel_rfl) (hk 99 (by decide))
              exact Rg.does_load _ _ h99 (load_err (cell_below hb (Nat.le_refl _) HK.out.2)) ⟨Below.refl _ _, rfl⟩
            · intro _ a wx hb hk
              have h98 : a.eval (.tmp 98) = .int .i64 0 := Eq.mp (by kernel_rfl) (hk 98 (by decide))
              have h100 : a.eval (.tmp 100) = .int .i64 0 := Eq.mp (by kernel_rfl) (hk 100 (by decide))
              exact Rg.does_bin .i64 _ _ _ h98 h100 Rs.run_neq0 ⟨Below.refl _ _, rfl⟩
            · intro _ a wx hb hk
              have h96 : a.eval (.tmp 96) = .bool false := Eq.mp (by kernel_rfl) (hk 96 (by decide))
              have h101 : a.eval (.tmp 101) = .bool false := Eq.mp (by kernel_rfl) (hk 101 (by decide))
              exact Rg.does_pick false h96 ⟨Below.refl _ _, h101⟩
            · intro _ a wx hb hk
              have h102 : a.eval (.tmp 102) = .bool false := Eq.mp (by kernel_rfl) (hk 102 (by decide))
              exact Rg.does_move ⟨Below.refl _ _, h102⟩
            · intro _ a wx hb hk
              have h6 : a.eval (.tmp 6) = .pointer (some ⟨q, 0, none⟩) := Eq.mp (by kernel_rfl) (hk 6 (by decide))
              exact Rg.does_move ⟨Below.refl _ _, h6⟩
            · intro _ a wx hb hk
              have h104 : a.eval (.tmp 104) = .pointer (some ⟨q, 0, none⟩) := Eq.mp (by kernel_rfl) (hk 104 (by decide))
              refine Rg.does_func #[.pointer (some ⟨q, 0, none⟩)] Try.func35 (by kernel_rfl) (by kernel_rfl) (by simp [h104]) (rd_end_calls wx q l _ (HRD.out.below hb)) ?_
              rintro e' w' ⟨rfl, rfl⟩
              exact ⟨_, rfl, Below.refl _ _, by show _ = _; rw [HE.out]⟩
            · intro _ a wx hb hk
              have h15 : a.eval (.tmp 15) = .int .i64 14 := Eq.mp (by kernel_rfl) (hk 15 (by decide))
              exact Rg.does_move ⟨Below.refl _ _, h15⟩
            · intro _ a wx hb hk
              have h105 : a.eval (.tmp 105) = .int .i64 14 := Eq.mp (by kernel_rfl) (hk 105 (by decide))
              have h106 : a.eval (.tmp 106) = .int .i64 14 := Eq.mp (by kernel_rfl) (hk 106 (by decide))
              exact Rg.does_bin .i64 _ _ _ h105 h106 Rs.run_neq0 ⟨Below.refl _ _, rfl⟩
            · intro _ a wx hb hk
              have h103 : a.eval (.tmp 103) = .bool false := Eq.mp (by kernel_rfl) (hk 103 (by decide))
              have h107 : a.eval (.tmp 107) = .bool false := Eq.mp (by kernel_rfl) (hk 107 (by decide))
              exact Rg.does_pick false h103 ⟨Below.refl _ _, h107⟩
            intro vals wD hbD hL
            obtain ⟨g0, g1, g2, g3, g4, g5, g6, g7, g8, g9, g10, g11, g12, g13, g14, g15, g16, g17, g18, _⟩ := hL
            have hres : vals 18 = .bool false := g18
            clear g0 g1 g2 g3 g4 g5 g6 g7 g8 g9 g10 g11 g12 g13 g14 g15 g16 g17 g18
            have hrdD := HRD.out.below hbD
            have hrfD := HRF.out.below hbD
            have hbelD := hbel.trans (hbD.mono hBs)
            have hBsD : B ≤ wD.heap.size := Nat.le_trans hBs hbD.size
            clear hbD hbel hBs
            simp only [Rg.putAll, List.setIfInBounds_toArray, List.set_cons_succ, List.set_cons_zero]
            go_wp2_with fail
            go_roundw
            case rel => exact ⟨k + 1, l, _, by omega, by go_num, hll, hrdD, hrfD, hbelD, hBsD⟩
            case measure => simp [intOf]; omega
        · have HE : Hid (endE l e = e) := by show _ = _; unfold endE; rw [if_pos (.inl he)]
          have hne : (e == 0) = false := by rw [beq_eq_false_iff_ne]; exact he
          clear he
          go_wp2_with fail
          refine Rg.wp_region_rgl [] [Rg.Is (.pointer (some ⟨q, 0, none⟩)), Rg.Is (.int .i64 (l.length : Int)), Rg.Is (.pointer (some ⟨p, 0, none⟩)), Rg.Is (.string (str l)), Rg.Is (.int .i64 (l.length : Int)), Rg.Is (.bool false), Rg.Is (.bool false), Rg.Is (.pointer (some ⟨q, 0, none⟩)), Rg.Is (.int .i64 e), Rg.Is (.pointer (some ⟨p, 1, none⟩)), Rg.Is (.int .i64 e), Rg.Is (.bool false), Rg.Is (.bool false), Rg.Is (.bool false), Rg.Is (.pointer (some ⟨q, 0, none⟩)), Rg.Is (.int .i64 e), Rg.Is (.int .i64 e), Rg.Is (.bool false), Rg.Is (.bool false)] (by kernel_rfl) (by kernel_rfl) (by kernel_rfl) ⟨Rg.st_is _, Rg.st_is _, Rg.st_is _, Rg.st_is _, Rg.st_is _, Rg.st_is _, Rg.st_is _, Rg.st_is _, Rg.st_is _, Rg.st_is _, Rg.st_is _, Rg.st_is _, Rg.st_is _, Rg.st_is _, Rg.st_is _, Rg.st_is _, Rg.st_is _, Rg.st_is _, Rg.st_is _, trivial⟩ ⟨rfl, rfl, rfl, rfl, rfl, rfl, rfl, ⟨rfl, fun _ _ h => h⟩, ⟨rfl, fun _ _ h => h⟩, ⟨rfl, fun _ _ h => h⟩, ⟨rfl, fun _ _ h => h⟩, ⟨rfl, fun _ _ h => h⟩, rfl, rfl, ⟨rfl, fun _ _ h => h⟩, ⟨rfl, fun _ _ h => h⟩, ⟨rfl, fun _ _ h => h⟩, ⟨rfl, fun _ _ h => h⟩, rfl, trivial⟩ ⟨?_, ?_, ?_, ?_, ?_, ?_, ?_, ?_, ?_, ?_, ?_, ?_, ?_, ?_, ?_, ?_, ?_, ?_, ?_, trivial⟩ ?_
          · intro _ a wx hb hk
            have h6 : a.eval (.tmp 6) = .pointer (some ⟨q, 0, none⟩) := Eq.mp (by kernel_rfl) (hk 6 (by decide))
            exact Rg.does_move ⟨Below.refl _ _, h6⟩
          · intro _ a wx hb hk
            have h90 : a.eval (.tmp 90) = .pointer (some ⟨q, 0, none⟩) := Eq.mp (by kernel_rfl) (hk 90 (by decide))
            refine Rg.does_func #[.pointer (some ⟨q, 0, none⟩)] Try.func37 (by kernel_rfl) (by kernel_rfl) (by simp [h90]) (rd_left_calls wx q l _ (HRD.out.below hb)) ?_
            rintro e' w' ⟨rfl, rfl⟩
            exact ⟨_, rfl, Below.refl _ _, rfl⟩
          · intro _ a wx hb hk
            have h7 : a.eval (.tmp 7) = .pointer (some ⟨p, 0, none⟩) := Eq.mp (by kernel_rfl) (hk 7 (by decide))
            exact Rs.does_field _ _ h7 (ref_f0 _ _) ⟨Below.refl _ _, rfl⟩
          · intro _ a wx hb hk
            have h92 : a.eval (.tmp 92) = .pointer (some ⟨p, 0, none⟩) := Eq.mp (by kernel_rfl) (hk 92 (by decide))
            exact Rg.does_load _ _ h92 (load_str (cell_below hb (Nat.le_refl _) HK.out.1)) ⟨Below.refl _ _, rfl⟩
          · intro _ a wx hb hk
            have h93 : a.eval (.tmp 93) = .string (str l) := Eq.mp (by kernel_rfl) (hk 93 (by decide))
            exact Rs.does_len_string (str l) Try.underlying9 h93 ⟨Below.refl _ _, rfl⟩
          · intro _ a wx hb hk
            have h91 : a.eval (.tmp 91) = .int .i64 (l.length : Int) := Eq.mp (by kernel_rfl) (hk 91 (by decide))
            have h94 : a.eval (.tmp 94) = .int .i64 (l.length : Int) := Eq.mp (by kernel_rfl) (hk 94 (by decide))
            exact Rg.does_bin .i64 _ _ _ h91 h94 Rs.run_neq0 ⟨Below.refl _ _, rfl⟩
          · intro _ a wx hb hk
            have h95 : a.eval (.tmp 95) = .bool false := Eq.mp (by kernel_rfl) (hk 95 (by decide))
            exact Rg.does_move ⟨Below.refl _ _, h95⟩
          · intro _ a wx hb hk
            have h6 : a.eval (.tmp 6) = .pointer (some ⟨q, 0, none⟩) := Eq.mp (by kernel_rfl) (hk 6 (by decide))
            exact Rg.does_move ⟨Below.refl _ _, h6⟩
          · intro _ a wx hb hk
            have h97 : a.eval (.tmp 97) = .pointer (some ⟨q, 0, none⟩) := Eq.mp (by kernel_rfl) (hk 97 (by decide))
            refine Rg.does_func #[.pointer (some ⟨q, 0, none⟩)] Try.func36 (by kernel_rfl) (by kernel_rfl) (by simp [h97]) (rd_err_calls wx q l _ (HRD.out.below hb)) ?_
            rintro e' w' ⟨rfl, rfl⟩
            exact ⟨_, rfl, Below.refl _ _, rfl⟩
          · intro _ a wx hb hk
            have h7 : a.eval (.tmp 7) = .pointer (some ⟨p, 0, none⟩) := Eq.mp (by kernel_rfl) (hk 7 (by decide))
            exact Rs.does_field _ _ h7 (ref_f1 _ _) ⟨Below.refl _ _, rfl⟩
          · intro _ a wx hb hk
            have h99 : a.eval (.tmp 99) = .pointer (some ⟨p, 1, none⟩) := Eq.mp (by kernel_rfl) (hk 99 (by decide))
            exact Rg.does_load _ _ h99 (load_err (cell_below hb (Nat.le_refl _) HK.out.2)) ⟨Below.refl _ _, rfl⟩
          · intro _ a wx hb hk
            have h98 : a.eval (.tmp 98) = .int .i64 e := Eq.mp (by kernel_rfl) (hk 98 (by decide))
            have h100 : a.eval (.tmp 100) = .int .i64 e := Eq.mp (by kernel_rfl) (hk 100 (by decide))
            exact Rg.does_bin .i64 _ _ _ h98 h100 Rs.run_neq0 ⟨Below.refl _ _, rfl⟩
          · intro _ a wx hb hk
            have h96 : a.eval (.tmp 96) = .bool false := Eq.mp (by kernel_rfl) (hk 96 (by decide))
            have h101 : a.eval (.tmp 101) = .bool false := Eq.mp (by kernel_rfl) (hk 101 (by decide))
            exact Rg.does_pick false h96 ⟨Below.refl _ _, h101⟩
          · intro _ a wx hb hk
            have h102 : a.eval (.tmp 102) = .bool false := Eq.mp (by kernel_rfl) (hk 102 (by decide))
            exact Rg.does_move ⟨Below.refl _ _, h102⟩
          · intro _ a wx hb hk
            have h6 : a.eval (.tmp 6) = .pointer (some ⟨q, 0, none⟩) := Eq.mp (by kernel_rfl) (hk 6 (by decide))
            exact Rg.does_move ⟨Below.refl _ _, h6⟩
          · intro _ a wx hb hk
            have h104 : a.eval (.tmp 104) = .pointer (some ⟨q, 0, none⟩) := Eq.mp (by kernel_rfl) (hk 104 (by decide))
            refine Rg.does_func #[.pointer (some ⟨q, 0, none⟩)] Try.func35 (by kernel_rfl) (by kernel_rfl) (by simp [h104]) (rd_end_calls wx q l _ (HRD.out.below hb)) ?_
            rintro e' w' ⟨rfl, rfl⟩
            exact ⟨_, rfl, Below.refl _ _, by show _ = _; rw [HE.out]⟩
          · intro _ a wx hb hk
            have h15 : a.eval (.tmp 15) = .int .i64 e := Eq.mp (by kernel_rfl) (hk 15 (by decide))
            exact Rg.does_move ⟨Below.refl _ _, h15⟩
          · intro _ a wx hb hk
            have h105 : a.eval (.tmp 105) = .int .i64 e := Eq.mp (by kernel_rfl) (hk 105 (by decide))
            have h106 : a.eval (.tmp 106) = .int .i64 e := Eq.mp (by kernel_rfl) (hk 106 (by decide))
            exact Rg.does_bin .i64 _ _ _ h105 h106 Rs.run_neq0 ⟨Below.refl _ _, rfl⟩
          · intro _ a wx hb hk
            have h103 : a.eval (.tmp 103) = .bool false := Eq.mp (by kernel_rfl) (hk 103 (by decide))
            have h107 : a.eval (.tmp 107) = .bool false := Eq.mp (by kernel_rfl) (hk 107 (by decide))
            exact Rg.does_pick false h103 ⟨Below.refl _ _, h107⟩
          intro vals wD hbD hL
          obtain ⟨g0, g1, g2, g3, g4, g5, g6, g7, g8, g9, g10, g11, g12, g13, g14, g15, g16, g17, g18, _⟩ := hL
          have hres : vals 18 = .bool false := g18
          clear g0 g1 g2 g3 g4 g5 g6 g7 g8 g9 g10 g11 g12 g13 g14 g15 g16 g17 g18
          have hrdD := HRD.out.below hbD
          have hrfD := HRF.out.below hbD
          have hbelD := hbel.trans (hbD.mono hBs)
          have hBsD : B ≤ wD.heap.size := Nat.le_trans hBs hbD.size
          clear hbD hbel hBs
          simp only [Rg.putAll, List.setIfInBounds_toArray, List.set_cons_succ, List.set_cons_zero]
          go_wp2_with fail
          go_roundw
          case rel => exact ⟨k + 1, l, _, by omega, by go_num, hll, hrdD, hrfD, hbelD, hBsD⟩
          case measure => simp [intOf]; omega
    · obtain rfl : k = n1 := by omega
      clear hrd href hll
      go_wp2_with fail
      refine (rd_nil_num_calls _).mono ?_
      rintro r w4 ⟨rfl, rfl⟩
      go_wp2_with fail
      refine (rd_nil_text_calls _).mono ?_
      rintro r w4 ⟨rfl, rfl⟩
      go_wp2_with fail
      refine (rd_nil_left_calls _).mono ?_
      rintro r w4 ⟨rfl, rfl⟩
      go_wp2_with fail
      refine (rd_nil_err_calls _).mono ?_
      rintro r w4 ⟨rfl, rfl⟩
      go_wp2_with fail
      refine (rd_nil_end_calls _).mono ?_
      rintro r w4 ⟨rfl, rfl⟩
      go_wp2_with fail
      go_ret
      exact ⟨rfl, hbel⟩

end Go.Proofs.Ytbbnopikinlcdaa
