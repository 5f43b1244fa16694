/-
  A range over a function that keeps a state of its own in a cell (here: what is left of the bytes) and hands a number and a new row of bytes: the law of the statement, for a body that never leaves. Conditions: the body keeps what the function reads; it turns nothing that is no cells from the loop's start on.
  frame.taken and the function that it hands back: the rows of bytes, one by one. Conditions: the bytes can be read; they are not too many.
  frame.Scan: the rows of bytes, how many bytes they have, why it ended. Conditions: the bytes can be read; they are not too many.
  frame.Put: the frames of rows. Conditions: the rows can be read; none is longer than 65536 bytes; together they are not too many.
-/
import Derived.Test.YtgbnfipbedlmhaaGFr1
import Derived.RangeFuncNested
import Derived.RangeFuncBound
import Derived.RangeFuncCalls
import Derived.RangeFuncLeaves
import Derived.Shelf.Abstract
import Derived.WalkKit
import Derived.OwnWalkIn
import Derived.TacticsInMore
import Derived.LoopNIn
import Derived.LoopIn
import Derived.RangeFuncBox
import Derived.Maps.AppendAt
import Derived.BigQuiet
import Derived.Deep.QuietTactic
/-! FrLaw -/
set_option linter.unusedVariables false
namespace Go.Proofs.Ytgbnfipbedlmhaa
open Go.RowKit Base

/-- What a round leaves as it was: whatever lay below n₀; the state's block. -/
def KeepsSt (n₀ q : Nat) (W W' : World) : Prop := Below n₀ W W' ∧ W'.heap[q]? = W.heap[q]?
/-- How the body of a round is left. -/
def bodyEnd (B n₀ q : Nat) (I : Nat → World → Prop) (k : Nat) (W : World) : Exit → Act → World → Prop
  | .normal, _, W' => KeepsFrom B W W' ∧ KeepsSt n₀ q W W' ∧ I k W'
  | _, _, _ => False
/-- The function's contract: from round to round, with the state in block q; rows come as slices that own new blocks. -/
def SeqSt (P : Program) (gf : Nat) (lb : Array Value) (n₀ q : Nat) (e : TypeId) (num : Nat → Int) (row : Nat → List UInt8) (Good : Nat → Prop) (End : Nat → Prop) (w : World) : Prop :=
  ∀ (l : Nat) (J : Nat → World → Prop) (W : World), Below w.heap.size w W → (∀ k A B, J k A → A.grownBy B (some q) → J k B) →
    (∀ k v W0 W1, J k W0 → W0.grownBy W1 (some q) → Good k → W1.ownsRow W0.heap.size e 1 v (row k).length ((row k).map bv) →
      YieldAt Fence.wide 1 P l #[.int .i64 (num k), v] W1 fun r W' => r = .returned (.bool true) ∧ J (k + 1) W' ∧ KeepsSt n₀ q W1 W') →
    J 0 W → Calls P gf (#[.func (.yield l) #[] #[]] ++ lb) W fun r W' => (∃ v, r = .returned v) ∧ ∃ K, End K ∧ J K W'

set_option maxHeartbeats 1000000 in
theorem wp_rangeFunc_st {P : Program} {g : Operand} {p1 p2 : Tmp} {assign body : Code} {Q : Exit → Act → World → Prop} {a : Act} {w : World} {gf : Nat} {lb : Array Value} (hg : a.eval g = .func (.func gf) #[] lb)
    (eg : ∀ args w, (callFunc gf args).run P w = .ok (.enter gf args) w) {n₀ q : Nat} (hn₀ : n₀ ≤ w.heap.size) (hq : q < w.heap.size) {e : TypeId} {num : Nat → Int} {row : Nat → List UInt8} {Good End : Nat → Prop}
    (hseq : SeqSt P gf lb n₀ q e num row Good End w)
    (I : Nat → World → Prop) (hIq : ∀ k A B, I k A → A.grownBy B (some q) → I k B) (hIl : ∀ k A B r, I k A → A.grownBy B (some r) → w.heap.size ≤ r → (∃ o : Obj, A.heap[r]? = some o ∧ o.isCells = false) → I k B) (h0 : I 0 w)
    (a₁ : Int → Value → Act)
    (hassign : ∀ (l : Nat) (z : Int) (v : Value) (W : World) (K : Act → World → Prop), K (a₁ z v) W →
      assign.wpIn (Fence.wide.inRound l) 1 P (Exit.then K (fun _ _ _ => False)) { tmps := (a.tmps.setIfInBounds p1 (.int .i64 z)).setIfInBounds p2 v, defers := [] } W)
    (hbody : ∀ (l k r : Nat) (v : Value) (W0 W1 W2 : World), I k W0 → W0.grownBy W1 (some q) → Good k → W1.ownsRow W0.heap.size e 1 v (row k).length ((row k).map bv) →
      W1.grownBy W2 (some r) → w.heap.size ≤ r → (∃ o : Obj, W1.heap[r]? = some o ∧ o.isCells = false) → w.heap.size ≤ W0.heap.size →
      body.wpIn (Fence.wide.inRound l) 1 P (bodyEnd w.heap.size n₀ q I (k + 1) W2) (a₁ (num k) v) W2)
    (hdone : ∀ (D K : Nat) (W : World), w.heap.size ≤ D → End K → I K W → W.heap[D]? = some (.deferred (some [])) → Q .normal { a with defers := { target := .collected D, args := #[] } :: a.defers } W) :
    (Code.rangeFunc g #[p1, p2] assign body).wp P Q a w := by
  refine wpIn_wide (n := 2).1 (wpIn_rangeFunc ?_)
  intro fn hfn
  show ∃ l mark w₁ d w₁' f args w₂, (Instr.enterLoop fn a.tmps #[p1, p2] assign body none).run P w = _ ∧ _
  obtain ⟨rec, hrec⟩ : ∃ rec : LoopState → Option Code → Loop, rec = fun st pe => { state := st, pending := pe, fn, tmps := a.tmps, params := #[p1, p2], assign, body, defers := w.heap.size } := ⟨_, rfl⟩
  obtain ⟨W1, hW1⟩ : ∃ W1, (w.alloc (.deferred (some []))).alloc (.loop (rec .ready none)) = W1 := ⟨_, rfl⟩
  have hL1 : W1.heap[w.heap.size + 1]? = some (.loop (rec .ready none)) := by
    rw [← hW1]; have := World.alloc_heap_new (w.alloc (.deferred (some []))) (.loop (rec .ready none)); rwa [World.size_alloc] at this
  have hK1 : W1.heap[w.heap.size]? = some (.deferred (some [])) := by
    rw [← hW1]; exact (Below.heap_alloc _ _ _ (by simp)).trans (World.alloc_heap_new w _)
  have hg1 : w.grownBy W1 (some q) := by rw [← hW1]; exact grownBy_trans (World.grownBy_alloc _ _ _) (World.grownBy_alloc _ _ _)
  have hI1 : I 0 W1 := hIq _ _ _ h0 hg1
  have hb1 : Below w.heap.size w W1 := by
    rw [← hW1]; exact ((Below.refl _ w).alloc (Nat.le_refl _) _).alloc (by simp) _
  refine ⟨w.heap.size + 1, [{ target := .collected w.heap.size, args := #[] }], W1, { target := .fn (.func gf) lb, args := #[.func (.yield (w.heap.size + 1)) #[] #[]] }, W1, gf,
    #[.func (.yield (w.heap.size + 1)) #[] #[]] ++ lb, W1, ?_, ?_, fun _ _ => trivial, ?_, fun h => by simp [Fence.wide] at h, ?_⟩
  · rw [← hW1, hrec]; exact run_enterLoop_outer _ _ _ _ _
  · simp only [resolve, hg]
    simp [go_sem]
  · simp [invoke, go_sem, eg]
  · refine callsIn_wide.2 ((hseq (w.heap.size + 1) (fun k W => I k W ∧ W.heap[w.heap.size + 1]? = some (.loop (rec .ready none)) ∧ W.heap[w.heap.size]? = some (.deferred (some []))) W1 hb1 ?_ ?_ ⟨hI1, hL1, hK1⟩).mono ?_)
    · rintro k A B ⟨hi, hl, hk⟩ hgr
      refine ⟨hIq _ _ _ hi hgr, (hgr.block _ (Array.getElem?_eq_some_iff.1 hl).1 (by simp; omega)).trans hl, (hgr.block _ (Array.getElem?_eq_some_iff.1 hk).1 (by simp; omega)).trans hk⟩
    · -- one round
      rintro k v V0 V1 ⟨hi, hl0, hk0⟩ hgr hgood hown
      have hl : V1.heap[w.heap.size + 1]? = some (.loop (rec .ready none)) := (hgr.block _ (Array.getElem?_eq_some_iff.1 hl0).1 (by simp; omega)).trans hl0
      have hk : V1.heap[w.heap.size]? = some (.deferred (some [])) := (hgr.block _ (Array.getElem?_eq_some_iff.1 hk0).1 (by simp; omega)).trans hk0
      have hlt : w.heap.size + 1 < V1.heap.size := (Array.getElem?_eq_some_iff.1 hl).1
      have hlt0 : w.heap.size + 1 < V0.heap.size := (Array.getElem?_eq_some_iff.1 hl0).1
      have hy := run_yield (P := P) (args := #[.int .i64 (num k), v]) hl (by rw [hrec]; rfl)
      rw [hrec] at hy
      have htm : (#[p1, p2].zip #[Value.int .i64 (num k), v]).foldl (fun tmps (t, a) => tmps.setIfInBounds t a) a.tmps = (a.tmps.setIfInBounds p1 (.int .i64 (num k))).setIfInBounds p2 v := by simp
      refine ⟨fn, _, assign, body, hy, roundIn_of_wpIn hfn ?_⟩
      show assign.wpIn _ _ _ _ { tmps := (#[p1, p2].zip #[Value.int .i64 (num k), v]).foldl (fun tmps (t, a) => tmps.setIfInBounds t a) a.tmps, defers := [] } V1
      rw [htm]
      refine hassign _ (num k) v V1 _ ?_
      refine ⟨_, run_beginRound hl (by rw [hrec]), ?_⟩
      have hl2 : (V1.putObj (w.heap.size + 1) (.loop { rec .ready none with state := .busy })).heap[w.heap.size + 1]? = some (.loop { rec .ready none with state := .busy }) := World.putObj_heap_same hlt
      have hk2 : (V1.putObj (w.heap.size + 1) (.loop { rec .ready none with state := .busy })).heap[w.heap.size]? = some (.deferred (some [])) := (World.putObj_heap_other (by omega)).trans hk
      refine wpIn_mono (hbody _ k (w.heap.size + 1) v V0 V1 _ hi hgr hgood hown (grownBy_putObj' _ _ _) (by omega) ⟨_, hl, rfl⟩ (by omega)) ?_
      rintro x a3 W3 hp
      cases x with
      | normal =>
        obtain ⟨hk3, ⟨hkb, hkq⟩, hi3⟩ := hp
        have hl3 := hk3.same _ _ (by omega) hl2 rfl
        have hr := run_endRound (P := P) none hl3
        refine ⟨_, _, hr, rfl, ⟨?_, ?_, ?_⟩, ?_, ?_⟩
        · exact hIl _ _ _ _ hi3 (grownBy_putObj' _ _ _) (by omega) ⟨_, hl3, rfl⟩
        · rw [World.putObj_heap_same (Array.getElem?_eq_some_iff.1 hl3).1, hrec]; rfl
        · exact (World.putObj_heap_other (by omega)).trans (hk3.same _ _ (Nat.le_refl _) hk2 rfl)
        · have h1 : Below n₀ V1 (V1.putObj (w.heap.size + 1) (.loop { rec .ready none with state := .busy })) := (Below.refl n₀ V1).grown (grownBy_putObj' _ _ _) (by omega) (fun j ej => by cases ej; omega)
          have hs3 : w.heap.size + 1 < W3.heap.size := (Array.getElem?_eq_some_iff.1 hl3).1
          exact (h1.trans hkb).grown (grownBy_putObj' _ _ _) (by omega) (fun j ej => by cases ej; omega)
        · rw [World.putObj_heap_other (by omega), hkq, World.putObj_heap_other (by omega)]
      | ret => exact hp.elim
      | exit id => exact hp.elim
      | goto t => exact hp.elim
      | panic ch => exact hp.elim
      | outgrown => exact hp.elim
    · rintro r W2 ⟨⟨v, rfl⟩, K, hE, hi, hl, hk⟩
      refine ⟨none, _, by have := run_endLoop (P := P) hl (by rw [hrec]; simp); rw [hrec] at this; exact this, hdone _ K _ (Nat.le_refl _) hE (hIl _ _ _ _ hi (grownBy_putObj' _ _ _) (by omega) ⟨_, hl, rfl⟩) ((World.putObj_heap_other (by omega)).trans hk)⟩

end Go.Proofs.Ytgbnfipbedlmhaa

/-! FrTaken -/
set_option linter.unusedVariables false
namespace Go.Proofs.Ytgbnfipbedlmhaa
open Go.RowKit Base

theorem frame_taken_calls (w : World) (a : Option Addr) (n cap : Nat) : Calls Try.prog 47 #[.slice a n cap] w fun e w' => e = .returned (.func (.func 64) #[] #[.pointer (some ⟨w.heap.size, 0, none⟩)]) ∧ w' = w.alloc (.cells #[.slice a n cap] 28) := by
  go_enter Try.func47, Try.ntmps47
  go_wp2_with fail
  go_ret
  exact ⟨rfl, rfl⟩

/-- How many bytes are left, read off the world. -/
def leftN (q : Nat) (w : World) : Nat := match w.cell? ⟨q, 0, none⟩ with
  | some (.slice _ n _) => n
  | _ => 0
theorem leftN_eq {q : Nat} {w : World} {a : Option Addr} {n c : Nat} (h : w.cell? ⟨q, 0, none⟩ = some (.slice a n c)) : leftN q w = n := by unfold leftN; rw [h]
theorem drop_st (b : List UInt8) (k : Nat) : b.drop (stF b (k + 1)).2 = (b.drop (stF b k).2).drop (takeF (b.drop (stF b k).2)).2.1 := by
  rw [List.drop_drop]; rfl

theorem grown_setF (W : World) (g i : Nat) (v : Value) : W.grownBy (W.setCell ⟨g, i, none⟩ v) (some g) :=
  ⟨rfl, rfl, rfl, by show W.heap.size ≤ (W.heap.modify _ _).size; rw [Array.size_modify]; exact Nat.le_refl _, fun k _ hk => Below.heap_setCell _ _ _ k (fun e => hk (by rw [e]))⟩

set_option maxHeartbeats 2000000 in
set_option maxRecDepth 100000 in
theorem taken_seq (w0 w : World) (a : Option Addr) (n cap : Nat) (b : List UInt8) (hB : Bytes w0 a n cap b) (hs : n ≤ 100000000) (q : Nat) (hb : Below w0.heap.size w0 w) (hq0 : w0.heap.size ≤ q)
    (hqc : w.heap[q]? = some (.cells #[.slice a n cap] 28)) :
    SeqSt Try.prog 64 #[.pointer (some ⟨q, 0, none⟩)] w0.heap.size q 5 (fun k => ((takeF (b.drop (stF b k).2)).2.1 : Int)) (fun k => (takeF (b.drop (stF b k).2)).1) (fun k => GoodF b (k + 1)) (EndsF b) w := by
  intro l J W hW hJ hY h0
  have HqW : Hid (W.heap[q]? = some (.cells #[.slice a n cap] 28)) := (hW.block q (Array.getElem?_eq_some_iff.1 hqc).1).trans hqc
  have HbW : Hid (Below w0.heap.size w0 W) := hb.trans (hW.mono hb.size)
  have HB := Lib.hid hB
  have HJ := Lib.hid hJ
  have HY := Lib.hid hY
  have H0 := Lib.hid h0
  clear hqc hb hB hW hJ hY h0
  refine (callsIn_wide (n := 2)).1 ?_
  refine callsIn_of_wp Try.func64 rfl trivial ?_ rfl
  simp only [Try.ntmps64, List.size_toArray, List.length_cons, List.length_nil, Nat.reduceAdd, Nat.reduceSub, Array.replicate_succ, Array.replicate_zero, List.push_toArray, List.append_toArray, List.nil_append, List.cons_append]
  gi_wp2
  gi_loopw [3] (fun _ wr => ∃ (k : Nat) (a' : Option Addr) (c' : Nat), GoodF b k ∧ Bytes w0 a' (b.drop (stF b k).2).length c' (b.drop (stF b k).2) ∧ wr.heap[q]? = some (.cells #[.slice a' (b.drop (stF b k).2).length c'] 28) ∧ Below w0.heap.size w0 wr ∧ J k wr) (fun _ wr => leftN q wr)
  case atStart =>
    obtain rfl : n = b.length := HB.out.1
    exact ⟨0, a, cap, fun j hj => absurd hj (by omega), HB.out, HqW.out, HbW.out, H0.out⟩
  case round =>
    obtain ⟨k, a', c', hgood, hb', hqc, hbel, hJk⟩ := hrel
    have HEnd : Hid ((takeF (b.drop (stF b k).2)).2.2 ≠ 0 → EndsF b k) := fun h => ⟨hgood, h⟩
    have HGood := Lib.hid (fun h : (takeF (b.drop (stF b k).2)).2.2 = 0 => goodF_succ hgood h)
    have HYk := Lib.hid (fun v W0 W1 => HY.out k v W0 W1)
    have HD := Lib.hid (drop_st b k)
    have hle : (b.drop (stF b k).2).length ≤ 100000000 := by rw [List.length_drop]; have := HB.out.1; omega
    generalize b.drop (stF b k).2 = rest at *
    have Htk := Lib.hid (frame_take_calls wr a' rest.length c' rest (hb'.below stable_byteAt hbel) hle)
    have hok := @takeF_ok rest
    generalize takeF rest = t at *
    obtain ⟨row, num, e⟩ := t
    simp only [] at HEnd HGood HYk HD Htk hok
    have Hb' := Lib.hid hb'
    have hcap := hb'.2.2.1
    have hnc := hb'.2.1
    unfold maxLen at hcap
    have Hqc := Lib.hid hqc
    have HJk := Lib.hid hJk
    have hcell : wr.cell? ⟨q, 0, none⟩ = some (.slice a' rest.length c') := by simp [World.cell?, hqc]
    clear hgood hb' hqc hJk HqW HbW H0 HY
    gi_wp2
    refine ⟨trivial, callsIn_wide.2 (Htk.out.mono ?_)⟩
    rintro r w1 ⟨v, rfl, hown, hb1⟩
    obtain ⟨av, cv, rfl, _, _, _, _⟩ := ownsRow_slice hown
    have hgr : wr.grownBy w1 (some q) := ⟨hb1.os, hb1.tape, hb1.output, hb1.size, fun j hj _ => hb1.block j hj⟩
    have Hq1 : Hid (w1.heap[q]? = some (.cells #[.slice a' rest.length c'] 28)) := by show _ = _; rw [hb1.block q (Array.getElem?_eq_some_iff.1 Hqc.out).1]; exact Hqc.out
    have HJ1 : Hid (J k w1) := HJ.out k wr w1 HJk.out hgr
    have hbel1 : Below w0.heap.size w0 w1 := hbel.trans (hb1.mono hbel.size)
    by_cases he : e = 0
    case neg =>
      have t1 : (e == 0) = false := by rw [beq_eq_false_iff_ne]; exact he
      have t2 : (e != 0) = true := by rw [bne_iff_ne]; exact he
      have HE := Lib.hid (HEnd.out he)
      clear he HEnd HGood HYk hcell Htk hown hgr
      gi_wp2
      refine ⟨fun _ _ => trivial, ?_⟩
      gi_wp2
      refine bodyPost_ret (results_none rfl _ _ _) rfl ?_
      exact ⟨⟨_, rfl⟩, k, HE.out, HJ1.out⟩
    case pos =>
      subst he
      have HG2 := Lib.hid (HGood.out rfl)
      have HJJ := HJ
      obtain ⟨fn, tmps, assign, body, hy, hR⟩ := HYk.out (.slice av row.length cv) wr w1 HJk.out hgr (HGood.out rfl) hown
      clear HYk HGood HEnd HJ1 HJ hown hgr hcell Htk
      gi_wp2
      refine hR.mono ?_
      clear hR
      rintro r w3 ⟨rfl, hJ3, hkb, hkq⟩
      have hq3 : w3.heap[q]? = some (.cells #[.slice a' rest.length c'] 28) := hkq.trans Hq1.out
      have hc3 : w3.cell? ⟨q, 0, none⟩ = some (.slice a' rest.length c') := by simp [World.cell?, hq3]
      have hf3 : w3.frozen? ⟨q, 0, none⟩ = false := by simp [World.frozen?, hq3]
      obtain ⟨hn1, hn2, _⟩ := hok trivial
      obtain ⟨a2, hb2, hS2⟩ := sub_bytes Hb'.out num rest.length hn1 (Nat.le_refl _)
      rw [List.take_length] at hb2
      have hs2 : ∀ w', (Instr.slice 28 (.slice a' rest.length c') (some (.int .i64 (num : Int))) none none).run Try.prog w' = .ok (.slice a2 (rest.length - num) (c' - num)) w' := fun w' => (hS2 w').2.2 rfl .i64
      have hlr : (rest.drop num).length = rest.length - num := List.length_drop
      have HS := Lib.hid (heap_setCell_same w3 q 0 _ _ (.slice a2 (rest.length - num) (c' - num)) hq3)
      have HJ3 := Lib.hid (HJJ.out (k + 1) w3 (w3.setCell ⟨q, 0, none⟩ (.slice a2 (rest.length - num) (c' - num))) hJ3 (grown_setF _ _ _ _))
      have Hbel3 : Hid (Below w0.heap.size w0 (w3.setCell ⟨q, 0, none⟩ (.slice a2 (rest.length - num) (c' - num)))) := (hbel1.trans hkb).setCell hq0 _
      have Hb2 : Hid (Bytes w0 a2 (rest.drop num).length (c' - num) (rest.drop num)) := by rw [← hlr] at hb2; exact hb2
      clear hkb hkq hJ3 hq3 hb2 hS2
      gi_wp2
      go_roundw
      case rel => exact ⟨k + 1, a2, c' - num, HG2.out, by rw [HD.out]; exact Hb2.out, by rw [HD.out, hlr]; exact HS.out, Hbel3.out, HJ3.out⟩
      case measure =>
        have e1 : leftN q (w3.setCell ⟨q, 0, none⟩ (.slice a2 (rest.length - num) (c' - num))) = rest.length - num := leftN_eq (a := a2) (c := c' - num) (by have := HS.out; simp [World.cell?, this])
        have e2 : leftN q wr = rest.length := leftN_eq (a := a') (c := c') (by have := Hqc.out; simp [World.cell?, this])
        rw [e1, e2]
        omega

end Go.Proofs.Ytgbnfipbedlmhaa

/-! FrScan -/
set_option linter.unusedVariables false
namespace Go.Proofs.Ytgbnfipbedlmhaa
open Go.RowKit Base

/-- Rows that a function has made: slices, each of which owns its bytes, no two of them the same block. -/
def OwnRows (w : World) (base : Nat) (vs : List Value) (ls : List (List UInt8)) : Prop :=
  vs.length = ls.length ∧ (∀ (i : Nat) (v : Value) (l : List UInt8), vs[i]? = some v → ls[i]? = some l → w.ownsRow base 5 1 v l.length (l.map bv)) ∧
  ∀ (i j : Nat) (v u : Value), i < j → vs[i]? = some v → vs[j]? = some u → v.ownBlock = none ∨ v.ownBlock ≠ u.ownBlock
theorem OwnRows.nil (w : World) (base : Nat) : OwnRows w base [] [] := ⟨rfl, fun i v l h => by simp at h, fun i j v u _ h => by simp at h⟩
theorem OwnRows.row {w : World} {base : Nat} {vs : List Value} {ls : List (List UInt8)} (h : OwnRows w base vs ls) {i : Nat} {v : Value} (hv : vs[i]? = some v) : ∃ l, ls[i]? = some l ∧ w.ownsRow base 5 1 v l.length (l.map bv) := by
  have hi : i < ls.length := by rw [← h.1]; exact (List.getElem?_eq_some_iff.1 hv).1
  exact ⟨ls[i], List.getElem?_eq_getElem hi, h.2.1 i v _ hv (List.getElem?_eq_getElem hi)⟩
theorem OwnRows.kept {w w' : World} {base : Nat} {vs : List Value} {ls : List (List UInt8)} {r : Option Nat} (h : OwnRows w base vs ls) (hg : w.grownBy w' r) (hne : ∀ (i : Nat) (v : Value), vs[i]? = some v → v.ownBlock = none ∨ v.ownBlock ≠ r) : OwnRows w' base vs ls :=
  ⟨h.1, fun i v l hv hl => (h.2.1 i v l hv hl).kept hg (hne i v hv), h.2.2⟩
theorem OwnRows.lt {w : World} {base : Nat} {vs : List Value} {ls : List (List UInt8)} (h : OwnRows w base vs ls) {i j : Nat} {v : Value} (hv : vs[i]? = some v) (hj : v.ownBlock = some j) : base ≤ j ∧ j < w.heap.size := by
  obtain ⟨l, _, ho⟩ := h.row hv
  exact ho.lt j hj
/-- A turn of a block below the base. -/
theorem OwnRows.low {w w' : World} {base q : Nat} {vs : List Value} {ls : List (List UInt8)} (h : OwnRows w base vs ls) (hg : w.grownBy w' (some q)) (hq : q < base) : OwnRows w' base vs ls :=
  h.kept hg fun i v hv => by
    cases ho : v.ownBlock with
    | none => exact .inl rfl
    | some j => exact .inr (by intro e; cases e; have := (h.lt hv ho).1; omega)
theorem OwnRows.alloc {w : World} {base : Nat} {vs : List Value} {ls : List (List UInt8)} (h : OwnRows w base vs ls) (o : Obj) : OwnRows (w.alloc o) base vs ls :=
  h.kept (World.grownBy_alloc w o none) fun i v hv => by cases v.ownBlock <;> simp
theorem OwnRows.snoc {w : World} {base : Nat} {vs : List Value} {ls : List (List UInt8)} (h : OwnRows w base vs ls) {v : Value} {l : List UInt8} (hv : w.ownsRow base 5 1 v l.length (l.map bv)) (hne : ∀ (i : Nat) (u : Value), vs[i]? = some u → u.ownBlock = none ∨ u.ownBlock ≠ v.ownBlock) : OwnRows w base (vs ++ [v]) (ls ++ [l]) := by
  have hget : ∀ (i : Nat) (u : Value), (vs ++ [v])[i]? = some u → vs[i]? = some u ∨ (i = vs.length ∧ u = v) := by
    intro i u hu
    rw [List.getElem?_append] at hu
    split at hu
    · exact .inl hu
    · rename_i hge
      have h0 : i - vs.length = 0 := by
        have := (List.getElem?_eq_some_iff.1 hu).1
        simp at this
        omega
      rw [h0] at hu
      simp at hu
      exact .inr ⟨by omega, hu.symm⟩
  refine ⟨by simp [h.1], fun i u k hu hk => ?_, fun i j u x hij hu hx => ?_⟩
  · rcases hget i u hu with hu' | ⟨hi, rfl⟩
    · have hi := (List.getElem?_eq_some_iff.1 hu').1
      rw [List.getElem?_append_left (by rw [← h.1]; exact hi)] at hk
      exact h.2.1 i u k hu' hk
    · rw [hi, h.1, List.getElem?_append_right (Nat.le_refl _)] at hk
      simp at hk
      rw [← hk]; exact hv
  · rcases hget j x hx with hx' | ⟨hj, rfl⟩
    · have hi := (List.getElem?_eq_some_iff.1 hx').1
      rcases hget i u hu with hu' | ⟨hi2, rfl⟩
      · exact h.2.2 i j u x hij hu' hx'
      · omega
    · rcases hget i u hu with hu' | ⟨hi2, rfl⟩
      · exact hne i u hu'
      · omega

/-- Rows of different things lie in different blocks. -/
theorem rows_apart {W : World} {b1 b2 s1 s2 k1 k2 : Nat} {e1 e2 : TypeId} {v u : Value} {xs ys : List Value} (h1 : W.ownsRow b1 e1 s1 v k1 xs) (h2 : W.ownsRow b2 e2 s2 u k2 ys) (he : e1 ≠ e2) : v.ownBlock = none ∨ v.ownBlock ≠ u.ownBlock := by
  rcases h1.2 with ⟨rfl, _⟩ | ⟨g, cap, cur, rfl, _, hg, _⟩
  · exact .inl rfl
  · rcases h2.2 with ⟨rfl, _⟩ | ⟨g2, cap2, cur2, rfl, _, hg2, _⟩
    · exact .inr (by simp [Value.ownBlock])
    · refine .inr fun e => ?_
      obtain rfl : g = g2 := by simpa [Value.ownBlock] using e
      rw [hg] at hg2
      simp at hg2
      exact he hg2.2
theorem row_noncell {W : World} {base size k r : Nat} {e : TypeId} {v : Value} {xs : List Value} (h : W.ownsRow base e size v k xs) (hr : ∃ o : Obj, W.heap[r]? = some o ∧ o.isCells = false) : v.ownBlock = none ∨ v.ownBlock ≠ some r := by
  rcases h.2 with ⟨rfl, _⟩ | ⟨g, cap, cur, rfl, _, hg, _⟩
  · exact .inl rfl
  · refine .inr fun e' => ?_
    obtain ⟨o, ho, hc⟩ := hr
    obtain rfl : g = r := by simpa [Value.ownBlock] using e'
    rw [hg] at ho; cases ho; cases hc
theorem row_low {W : World} {base size k q : Nat} {e : TypeId} {v : Value} {xs : List Value} (h : W.ownsRow base e size v k xs) (hq : q < base) : v.ownBlock = none ∨ v.ownBlock ≠ some q := by
  cases ho : v.ownBlock with
  | none => exact .inl rfl
  | some j => exact .inr (by intro e; cases e; have := (h.lt q ho).1; omega)
theorem box_noncell {W : World} {B r : Nat} {t : TypeId} {v : Value} (h : Boxed W B t v) (hr : ∃ o : Obj, W.heap[r]? = some o ∧ o.isCells = false) : some B ≠ some r := by
  intro e
  cases e
  obtain ⟨o, ho, hc⟩ := hr
  rw [show W.heap[B]? = _ from h] at ho; cases ho; cases hc

/-- Between two rounds of Scan's loop: what has come so far. N is the size of the heap when the call began. -/
def ScanD (w0 : World) (b : List UInt8) (N k : Nat) (W : World) (v : Value) (vs : List Value) : Prop :=
  Boxed W N 38 v ∧ Boxed W (N + 1) 3 (.int .i64 ((stF b k).2 : Int)) ∧ W.ownsRow (N + 3) 28 1 v k vs ∧ OwnRows W (N + 3) vs (stF b k).1 ∧ Below N w0 W
theorem ScanD.turn {w0 : World} {b : List UInt8} {N k : Nat} {A B : World} {v : Value} {vs : List Value} (hN : N = w0.heap.size) (h : ScanD w0 b N k A v vs) {q : Nat} (hg : A.grownBy B (some q)) (hq : q = N + 2 ∨ N + 3 ≤ q ∧ ∃ o : Obj, A.heap[q]? = some o ∧ o.isCells = false) : ScanD w0 b N k B v vs := by
  obtain ⟨h1, h2, h3, h4, h5⟩ := h
  have hb : N ≤ q := by rcases hq with rfl | ⟨h, _⟩ <;> omega
  have hsz := h5.size
  have hrow : ∀ {e : TypeId} {u : Value} {m : Nat} {xs : List Value}, A.ownsRow (N + 3) e 1 u m xs → u.ownBlock = none ∨ u.ownBlock ≠ some q := fun hr => by
    rcases hq with rfl | ⟨_, hc⟩
    · exact row_low hr (by omega)
    · exact row_noncell hr hc
  have hbox : ∀ {B' : Nat} {t : TypeId} {u : Value}, B' < N + 2 → Boxed A B' t u → some B' ≠ some q := fun hl hbx => by
    rcases hq with rfl | ⟨_, hc⟩
    · intro e; cases e; omega
    · exact box_noncell hbx hc
  refine ⟨h1.kept hg (hbox (by omega) h1), h2.kept hg (hbox (by omega) h2), h3.kept hg (hrow h3), h4.kept hg fun i u hu => ?_, h5.grown hg (by omega) (fun j e => by cases e; exact hb)⟩
  obtain ⟨l, _, ho⟩ := h4.row hu
  exact hrow ho

theorem OwnRows.mono {w : World} {base base' : Nat} {vs : List Value} {ls : List (List UInt8)} (h : OwnRows w base vs ls) (hb : base' ≤ base) : OwnRows w base' vs ls :=
  ⟨h.1, fun i v l hv hl => ownsRow_mono (h.2.1 i v l hv hl) hb, h.2.2⟩
theorem OwnRows.below {w w' : World} {base : Nat} {vs : List Value} {ls : List (List UInt8)} (h : OwnRows w base vs ls) (hb : Below w.heap.size w w') : OwnRows w' base vs ls :=
  h.kept (r := none) ⟨hb.os, hb.tape, hb.output, hb.size, fun j hj _ => hb.block j hj⟩ (fun i x _ => by cases x.ownBlock <;> simp)
theorem scan_end {w0 W : World} {D K : Nat} {v : Value} {vs : List Value} {ls : List (List UInt8)} (hK : W.heap[D]? = some (.deferred (some []))) (hD : w0.heap.size ≤ D) (hrow : W.ownsRow (w0.heap.size + 3) 28 1 v K vs) (hvs : OwnRows W (w0.heap.size + 3) vs ls) (hb : Below w0.heap.size w0 W) :
    (W.putObj D (.deferred none)).ownsRow w0.heap.size 28 1 v K vs ∧ OwnRows (W.putObj D (.deferred none)) w0.heap.size vs ls ∧ Below w0.heap.size w0 (W.putObj D (.deferred none)) := by
  have hg := grownBy_putObj' W D (.deferred none)
  have hc : ∃ o : Obj, W.heap[D]? = some o ∧ o.isCells = false := ⟨_, hK, rfl⟩
  refine ⟨ownsRow_mono (hrow.kept hg (row_noncell hrow hc)) (by omega), (hvs.kept hg fun i x hx => ?_).mono (by omega), hb.grown hg hb.size (fun j e => by cases e; exact hD)⟩
  obtain ⟨l, _, ho⟩ := hvs.row hx
  exact row_noncell ho hc

set_option maxHeartbeats 4000000 in
set_option maxRecDepth 100000 in
theorem frame_scan_calls (w0 : World) (a : Option Addr) (n cap : Nat) (b : List UInt8) (hB : Bytes w0 a n cap b) (hs : n ≤ 100000000) :
    Calls Try.prog 31 #[.slice a n cap] w0 fun r w' => ∃ K v vs, EndsF b K ∧ r = .returned (.tuple #[v, .int .i64 ((stF b K).2 : Int), .int .i64 (endE3 b K)]) ∧
      w'.ownsRow w0.heap.size 28 1 v K vs ∧ OwnRows w' w0.heap.size vs (stF b K).1 ∧ Below w0.heap.size w0 w' := by
  obtain ⟨i0, hi, hz0, hz1, hz2⟩ := info_parts info_bytes
  refine (callsIn_wide (n := 3)).1 ?_
  refine callsIn_of_wp_marks Try.func31 rfl trivial ?_ rfl
  simp only [Try.ntmps31, List.size_toArray, List.length_cons, List.length_nil, Nat.reduceAdd, Nat.reduceSub, Array.replicate_succ, Array.replicate_zero, List.push_toArray, List.append_toArray, List.nil_append, List.cons_append]
  refine wpIn_wide.2 ?_
  go_wp2_with fail
  refine (frame_taken_calls _ a n cap).mono ?_
  rintro e w' ⟨rfl, rfl⟩
  go_wp2_with fail
  have bO := Boxed.new w0 38 (.slice none 0 0)
  have bA := Boxed.new (w0.alloc (.cells #[.slice none 0 0] 38)) 3 (.int .i64 0)
  have bQ := Boxed.new ((w0.alloc (.cells #[.slice none 0 0] 38)).alloc (.cells #[.int .i64 0] 3)) 28 (.slice a n cap)
  have hW0 : Below w0.heap.size w0 (((w0.alloc (.cells #[.slice none 0 0] 38)).alloc (.cells #[.int .i64 0] 3)).alloc (.cells #[.slice a n cap] 28)) := (((Below.refl _ w0).alloc (Nat.le_refl _) _).alloc (by simp) _).alloc (by simp; omega) _
  have hsz : (((w0.alloc (.cells #[.slice none 0 0] 38)).alloc (.cells #[.int .i64 0] 3)).alloc (.cells #[.slice a n cap] 28)).heap.size = w0.heap.size + 3 := by simp
  have h0 : ScanD w0 b w0.heap.size 0 (((w0.alloc (.cells #[.slice none 0 0] 38)).alloc (.cells #[.int .i64 0] 3)).alloc (.cells #[.slice a n cap] 28)) (.slice none 0 0) [] := by
    rw [World.size_alloc] at bA
    exact ⟨(bO.alloc _).alloc _, bA.alloc _, World.ownsRow_nil _ _ _ _, OwnRows.nil _ _, hW0⟩
  have bQ2 : (((w0.alloc (.cells #[.slice none 0 0] 38)).alloc (.cells #[.int .i64 0] 3)).alloc (.cells #[.slice a n cap] 28)).heap[w0.heap.size + 1 + 1]? = some (.cells #[.slice a n cap] 28) := by
    have := bQ
    simp only [World.size_alloc] at this
    exact this
  clear bO bA bQ
  generalize (((w0.alloc (.cells #[.slice none 0 0] 38)).alloc (.cells #[.int .i64 0] 3)).alloc (.cells #[.slice a n cap] 28)) = wl at *
  have hN : w0.heap.size = w0.heap.size := rfl
  refine wp_rangeFunc_st (gf := 64) (lb := #[.pointer (some ⟨w0.heap.size + 1 + 1, 0, none⟩)]) rfl (enters_of Try.func64 (by kernel_rfl) rfl) (n₀ := w0.heap.size) (by omega) (q := w0.heap.size + 1 + 1) (by omega)
    (taken_seq w0 wl a n cap b hB hs (w0.heap.size + 1 + 1) hW0 (by omega) bQ2)
    (fun k W => ∃ v vs, ScanD w0 b w0.heap.size k W v vs)
    (fun k A B ⟨v, vs, h⟩ hg => ⟨v, vs, h.turn rfl hg (.inl rfl)⟩)
    (fun k A B r ⟨v, vs, h⟩ hg hr hc => ⟨v, vs, h.turn rfl hg (.inr ⟨by omega, hc⟩)⟩)
    ⟨_, _, h0⟩
    (fun z v => { tmps := #[.slice a n cap, undef, .slice none 0 0, .int .i64 0, .int .i64 0, .pointer (some ⟨w0.heap.size, 0, none⟩), .pointer (some ⟨w0.heap.size + 1, 0, none⟩), .int .i64 z, v, undef, undef, undef, .slice a n cap, .func (.func 64) #[] #[.pointer (some ⟨w0.heap.size + 1 + 1, 0, none⟩)], .int .i64 z, v, undef, undef, undef, undef, undef, undef, undef, undef, undef, undef, undef, undef, undef, undef, undef, undef, undef, undef, undef, undef, undef, undef, undef, undef], defers := [] }) ?assign ?body ?done
  case assign =>
    intro l z v W K hK
    have hsem := fun ρ o h => Oper.semAt_some l ρ o h
    gi_wp2
    exact hK
  case body =>
    rintro l k r v W0 W1 W2 ⟨u, vs, hD⟩ hg1 hgood hown hg2 hr hc hsz0
    have hD1 := hD.turn rfl hg1 (.inl rfl)
    have hD2 := hD1.turn rfl hg2 (.inr ⟨by omega, hc⟩)
    have hlt : ∀ (i : Nat) (x : Value) (j : Nat), vs[i]? = some x → x.ownBlock = some j → j < W0.heap.size := fun i x j hx hj => (hD.2.2.2.1.lt hx hj).2
    have hown2 := hown.kept hg2 (row_noncell hown hc)
    have hsz2 : W0.heap.size ≤ W2.heap.size := Nat.le_trans hg1.size hg2.size
    have HS1 : Hid ((stF b (k + 1)).2 = (stF b k).2 + (takeF (b.drop (stF b k).2)).2.1) := rfl
    have HS2 : Hid ((stF b (k + 1)).1 = (stF b k).1 ++ [(takeF (b.drop (stF b k).2)).1]) := rfl
    have hle := goodF_le hgood
    rw [HS1.out] at hle
    have hbn : b.length = n := hB.1.symm
    clear hc hg1 hg2 hD hD1 hown hgood hB
    obtain ⟨hO, hA, hRow, hVs, hBel⟩ := hD2
    simp only [] at hown2 ⊢
    generalize (takeF (b.drop (stF b k).2)).2.1 = num at *
    generalize (takeF (b.drop (stF b k).2)).1 = row at *
    generalize (stF b k).2 = s1 at *
    generalize (stF b k).1 = ls at *
    have HRow := Lib.hid hRow; have HVs := Lib.hid hVs; have HBel := Lib.hid hBel; have HO := Lib.hid hO; have HA := Lib.hid hA; have HN := Lib.hid hown2
    clear hVs hBel hRow hown2
    have hc1 := hO.cell; have hf1 := hO.frozen; have hc2 := hA.cell; have hf2 := hA.frozen
    clear hO hA
    obtain ⟨av, cv, rfl, _, _, _, _⟩ := ownsRow_slice HN.out
    obtain ⟨au, cu, rfl, _, _, _, _⟩ := ownsRow_slice HRow.out
    have HNb : Hid (∀ q, q < w0.heap.size + 3 → some q ≠ Value.ownBlock (.slice au k cu)) := fun q hq e => by
      have := (HRow.out.lt q e.symm).1
      omega
    have hsem := fun ρ o h => Oper.semAt_some l ρ o h
    gi_wp2_with (gi_at_builtin; refine wpListIn_append_own _ rfl (.tmp 16) (.tmp 18) 38 rfl (w0.heap.size + 3) 28 i0 (.slice none 0 0) 1 24 Try.underlying38 hi hz0 hz1 hz2 rfl (by decide) _ k vs rfl (HRow.out.alloc _) ⟨W2.heap.size, 0, none⟩ 1 1 [.slice av row.length cv] rfl rfl (cell_one_new _ _ _) (by simp [Value.oneCell']) (by unfold maxLen; omega) (by omega) (by simp; omega) ?_; intro v' w3 hown' hgr0 _; have hgr : (W2.alloc (.cells #[.slice av row.length cv] 28)).grownBy w3 (Value.ownBlock (.slice au k cu)) := hgr0; have hO3 := (HO.out.alloc (.cells #[.slice av row.length cv] 28)).kept hgr (HNb.out _ (by omega)); have hA3 := (HA.out.alloc (.cells #[.slice av row.length cv] 28)).kept hgr (HNb.out _ (by omega)); clear hc1 hf1 hc2 hf2; have hc1 := hO3.cell; have hf1 := hO3.frozen; have hc2 := hA3.cell; have hf2 := hA3.frozen; obtain ⟨a3, c3, rfl, _, _, _, _⟩ := ownsRow_slice hown')
    have gA := grown_setF w3 w0.heap.size 0 (.slice a3 (k + 1) c3)
    have gB := grown_setF (w3.setCell ⟨w0.heap.size, 0, none⟩ (.slice a3 (k + 1) c3)) (w0.heap.size + 1) 0 (.int .i64 ((s1 : Int) + (num : Int)))
    have hg3 : W2.grownBy w3 (Value.ownBlock (.slice au k cu)) := grownBy_trans (World.grownBy_alloc _ _ _) hgr
    have hsW : w0.heap.size + 3 ≤ W2.heap.size := by omega
    have hs3 : W2.heap.size ≤ w3.heap.size := hg3.size
    have hblk : ∀ j, Value.ownBlock (.slice au k cu) = some j → w0.heap.size + 3 ≤ j := fun j hj => (HRow.out.lt j hj).1
    have hBW : Below w0.heap.size W2 ((w3.setCell ⟨w0.heap.size, 0, none⟩ (.slice a3 (k + 1) c3)).setCell ⟨w0.heap.size + 1, 0, none⟩ (.int .i64 ((s1 : Int) + (num : Int)))) :=
      (((Below.refl w0.heap.size W2).grown hg3 (by omega) (fun j ej => by have := hblk j ej; omega)).setCell (by simp) _).setCell (by simp) _
    refine ⟨?_, ⟨hBW, ?_⟩, .slice a3 (k + 1) c3, vs ++ [.slice av row.length cv], ?_, ?_, ?_, ?_, ?_⟩
    · have k1 : KeepsOthers W2 (W2.alloc (.cells #[.slice av row.length cv] 28)) := KeepsOthers.alloc _ _
      have k2 : KeepsOthers (W2.alloc (.cells #[.slice av row.length cv] 28)) w3 := KeepsOthers.of_grownBy hgr (fun j o ej hj => by
        rcases (HRow.out.alloc (.cells #[.slice av row.length cv] 28)).2 with ⟨e, _⟩ | ⟨g, cap', cur, e, _, hgb, _⟩
        · rw [e] at ej; simp [Value.ownBlock] at ej
        · rw [e] at ej
          obtain rfl : g = j := by simpa [Value.ownBlock] using ej
          rw [hgb] at hj; cases hj; rfl)
      exact (((k1.trans k2).trans (KeepsOthers.setCell _ _ _)).trans (KeepsOthers.setCell _ _ _)).from _
    · rw [gB.block _ (by simp [World.setCell]; omega) (by simp), gA.block _ (by omega) (by simp; omega), hg3.block _ (by omega) (fun e => by have := hblk _ e.symm; omega)]
    · exact (hO3.set _).kept gB (by simp)
    · have h2 := (hA3.kept gA (by simp)).set (.int .i64 ((s1 : Int) + (num : Int)))
      rw [HS1.out]
      have e : (((s1 + num : Nat) : Nat) : Int) = (s1 : Int) + (num : Int) := by simp
      rw [e]
      exact h2
    · exact (hown'.kept gA (row_low hown' (by omega))).kept gB (row_low (hown'.kept gA (row_low hown' (by omega))) (by omega))
    · rw [HS2.out]
      have hv3 : OwnRows w3 (w0.heap.size + 3) vs ls := HVs.out.kept hg3 (fun i x hx => by
        obtain ⟨l', _, ho⟩ := HVs.out.row hx
        exact rows_apart ho HRow.out (by decide))
      have hn3 : w3.ownsRow (w0.heap.size + 3) 5 1 (.slice av row.length cv) row.length (row.map bv) := ownsRow_mono (HN.out.kept hg3 (rows_apart HN.out HRow.out (by decide))) (by omega)
      refine ((hv3.snoc hn3 ?_).low gA (by omega)).low gB (by omega)
      intro i u hu
      cases ho : u.ownBlock with
      | none => exact .inl rfl
      | some j =>
        refine .inr fun e => ?_
        have h1 := hlt i u j hu ho
        have h2 := (HN.out.lt j e.symm).1
        omega
    · exact HBel.out.trans hBW
  case done =>
    rintro D K W hD hE ⟨v, vs, hI⟩ hK
    obtain ⟨hO, hA, hRow, hVs, hBel⟩ := hI
    have hle := (goodF_le hE.1).2
    have hbn : b.length = n := hB.1.symm
    obtain ⟨av, cv, rfl, _, _, _, _⟩ := ownsRow_slice hRow
    have hc1 := hO.cell; have hf1 := hO.frozen; have hc2 := hA.cell; have hf2 := hA.frozen
    have HEnd : Hid (endE3 b K = if (stF b K).2 = b.length then 0 else (takeF (b.drop (stF b K).2)).2.2) := rfl
    have HE := Lib.hid hE; have HRow := Lib.hid hRow; have HVs := Lib.hid hVs; have HBel := Lib.hid hBel; have HB := Lib.hid hB
    clear hE hRow hVs hBel hB hO hA hW0 h0
    by_cases hall : (stF b K).2 = b.length
    · have HV : Hid (endE3 b K = 0) := by show _ = _; rw [HEnd.out, if_pos hall]
      generalize hs1 : (stF b K).2 = s1 at *
      have e1 : ((s1 : Int) == (n : Int)) = true := by rw [beq_iff_eq]; omega
      have e2 : (s1 : Int) = (n : Int) := by omega
      go_wp2_with fail
      go_quiet (fail)
      go_wp2_with fail
      have hdr : Below W.heap.size W (W.drewN nq) := ⟨rfl, rfl, rfl, Nat.le_refl _, fun _ _ => rfl⟩
      have hK' : (W.drewN nq).heap[D]? = some (.deferred (some [])) := hK
      obtain ⟨r1, r2, r3⟩ := scan_end hK' (by omega) (ownsRow_below HRow.out hdr) (HVs.out.below hdr) (HBel.out.trans (hdr.mono HBel.out.size))
      refine ⟨by simp, .inl ⟨_, _, rfl, run_takeDeferred hK', ?_⟩⟩
      refine ⟨.tuple #[.slice av K cv, .int .i64 (n : Int), .int .i64 0], by simp [results, Try.results31, go_sem], ?_⟩
      exact ⟨K, .slice av K cv, vs, HE.out, by rw [HV.out, hs1, e2], r1, r2, r3⟩
    · have HV : Hid (endE3 b K = (takeF (b.drop (stF b K).2)).2.2) := by show _ = _; rw [HEnd.out, if_neg hall]
      obtain ⟨a2, hb2, hS2⟩ := sub_bytes HB.out (stF b K).2 n (by omega) (Nat.le_refl _)
      rw [List.take_of_length_le (by omega)] at hb2
      generalize hrs : b.drop (stF b K).2 = rest at *
      generalize hs1 : (stF b K).2 = s1 at *
      have hlr : rest.length = n - s1 := by rw [← hrs, List.length_drop]; omega
      have Htk := Lib.hid (frame_take_calls W a2 (n - s1) (cap - s1) rest (hb2.below stable_byteAt HBel.out) (by omega))
      have hs2 : ∀ w', (Instr.slice 28 (.slice a n cap) (some (.int .i64 (s1 : Int))) none none).run Try.prog w' = .ok (.slice a2 (n - s1) (cap - s1)) w' := fun w' => (hS2 w').2.2 rfl .i64
      have e1 : ((s1 : Int) == (n : Int)) = false := by rw [beq_eq_false_iff_ne]; omega
      have e2 : ¬ (s1 : Int) = (n : Int) := by omega
      clear hb2 hS2 hrs hlr
      generalize takeF rest = t at *
      obtain ⟨rw', num, ev⟩ := t
      simp only [] at Htk HV
      go_wp2_with fail
      refine Htk.out.mono ?_
      rintro r wt ⟨vt, rfl, _, hbt⟩
      have HRow2 := Lib.hid (ownsRow_below HRow.out hbt)
      have HVs2 : Hid (OwnRows wt (w0.heap.size + 3) vs (stF b K).1) := HVs.out.kept (r := none) ⟨hbt.os, hbt.tape, hbt.output, hbt.size, fun j hj _ => hbt.block j hj⟩ (fun i x _ => by cases x.ownBlock <;> simp)
      have HBel2 : Hid (Below w0.heap.size w0 wt) := HBel.out.trans (hbt.mono HBel.out.size)
      have hK2 : wt.heap[D]? = some (.deferred (some [])) := by rw [hbt.block D (Array.getElem?_eq_some_iff.1 hK).1]; exact hK
      have hc1' : wt.cell? ⟨w0.heap.size, 0, none⟩ = some (.slice av K cv) := cell_below hbt (Nat.le_refl _) hc1
      have hc2' : wt.cell? ⟨w0.heap.size + 1, 0, none⟩ = some (.int .i64 (s1 : Int)) := cell_below hbt (Nat.le_refl _) hc2
      clear hc1 hf1 hc2 hf2 hbt Htk hs2
      go_wp2_with fail
      go_quiet (fail)
      go_wp2_with fail
      have hdr : Below wt.heap.size wt (wt.drewN nq) := ⟨rfl, rfl, rfl, Nat.le_refl _, fun _ _ => rfl⟩
      have hK' : (wt.drewN nq).heap[D]? = some (.deferred (some [])) := hK2
      obtain ⟨r1, r2, r3⟩ := scan_end hK' (by omega) (ownsRow_below HRow2.out hdr) (HVs2.out.below hdr) (HBel2.out.trans (hdr.mono HBel2.out.size))
      refine ⟨by simp, .inl ⟨_, _, rfl, run_takeDeferred hK', ?_⟩⟩
      refine ⟨.tuple #[.slice av K cv, .int .i64 (s1 : Int), .int .i64 ev], by simp [results, Try.results31, go_sem], ?_⟩
      exact ⟨K, .slice av K cv, vs, HE.out, by rw [HV.out, hs1], r1, r2, r3⟩

end Go.Proofs.Ytgbnfipbedlmhaa

/-! FrWalks4 -/
set_option linter.unusedVariables false
namespace Go.Proofs.Ytgbnfipbedlmhaa
open Go.RowKit Base

theorem framesB_take_le (ls : List (List UInt8)) (k : Nat) : (framesB (ls.take k)).length ≤ (framesB ls).length := by
  conv => rhs; rw [framesB_split ls k]
  rw [List.length_append]
  omega

set_option maxHeartbeats 2000000 in
set_option maxRecDepth 100000 in
theorem frame_put_calls (w : World) (a : Option Addr) (n cap : Nat) (ls : List (List UInt8)) (h : ByteRows w a n cap ls) (hr : ∀ l ∈ ls, l.length ≤ 65536) (hs : (framesB ls).length ≤ 100000000) :
    Calls Try.prog 17 #[.slice a n cap] w fun e w' => ∃ v, e = .returned v ∧ w'.ownsRow w.heap.size 5 1 v (framesB ls).length ((framesB ls).map bv) ∧ Below w.heap.size w w' := by
  obtain ⟨i0, hi, hz0, hz1, hz2⟩ := info_parts info_u8
  have hcap := h.2.2.1
  have hnc := h.2.1
  unfold maxLen at hcap
  have Hn := Lib.hid h.1
  have H0 := Lib.hid h; clear h
  have HR := Lib.hid hr; clear hr
  obtain ⟨fr, hfr⟩ : ∃ fr : Nat → List UInt8, ∀ k, fr k = framesB (ls.take k) := ⟨fun k => framesB (ls.take k), fun _ => rfl⟩
  have F0 : Hid (fr 0 = []) := by show _ = _; rw [hfr]; rfl
  have FN : Hid (fr n = framesB ls) := by show _ = _; rw [hfr, List.take_of_length_le (by rw [← Hn.out]; exact Nat.le_refl _)]
  have FSq : Hid (∀ k (hk : k < ls.length), fr (k + 1) = fr k ++ oneF ls[k]) := fun k hk => by rw [hfr, hfr]; exact framesB_take ls k hk
  have FL : Hid (∀ k, (fr k).length ≤ 100000000) := fun k => by rw [hfr]; exact Nat.le_trans (framesB_take_le ls k) hs
  clear hfr hs
  rw [← FN.out]
  generalize hB : w.heap.size = B
  have HB := Lib.hid hB; clear hB
  have hbb : B ≤ w.heap.size := by rw [HB.out]; exact Nat.le_refl _
  have HBel : Hid (∀ wx, Below B w wx → Below w.heap.size w wx) := fun wx hx => by rw [HB.out]; exact hx
  go_enter Try.func17, Try.ntmps17
  go_wp2_with fail
  go_loopw [3, 8] (fun v i wr => ∃ k : Nat, k ≤ n ∧ i = .int .i64 k ∧ wr.ownsRow B 5 1 v (fr k).length ((fr k).map bv) ∧ Below B w wr ∧ B ≤ wr.heap.size) (fun _ i _ => n - (intOf i).toNat)
  case atStart => exact ⟨0, Nat.zero_le _, rfl, by rw [F0.out]; exact World.ownsRow_nil _ _ _ _, Below.refl _ _, hbb⟩
  case round =>
    obtain ⟨k, hk, rfl, hown, hbel, hBs⟩ := hrel
    by_cases hlt : k < n
    · have hkl : k < ls.length := by rw [← Hn.out]; exact hlt
      obtain ⟨b, off, hrow, hidx⟩ := at_rows (H0.out.below stable_bytesCell (HBel.out _ hbel))
      obtain ⟨ar, cr, hc, hbr⟩ := hrow k hkl
      have hix := fun w' => hidx .i64 k w' hlt
      have hrl := HR.out _ (List.getElem_mem hkl)
      have HS := Lib.hid (FSq.out k hkl)
      have hf1 := FL.out k
      have hf2 := FL.out (k + 1)
      rw [HS.out, List.length_append] at hf2
      clear hrow hidx
      generalize ls[k]'hkl = r at *
      have Hone := Lib.hid (frame_one_calls wr ar r.length cr r hbr (by omega))
      have d1 : decide ((65536 : Int) < (r.length : Int)) = false := by simp; omega
      have d2 : ¬ (65536 : Int) < (r.length : Int) := by omega
      have Hown := Lib.hid hown
      obtain ⟨av, cv, rfl, _, _, _, _⟩ := ownsRow_slice Hown.out
      clear hbr hown
      generalize oneF r = fo at *
      go_wp2_with fail
      refine Hone.out.mono ?_
      rintro e w1 ⟨v1, rfl, hown1, hb1⟩
      obtain ⟨a1, c1, rfl, hrow1⟩ := ownsRow_bytes hown1
      have hownA := ownsRow_below Hown.out hb1
      have hbA := hbel.trans (hb1.mono hBs)
      have hsA : B ≤ w1.heap.size := Nat.le_trans hBs hb1.size
      clear hown1 hb1 Hown Hone hc hix
      go_wp2_with (at_builtin; refine wpList_append_src rfl (.tmp 15) (.tmp 17) 28 28 rfl B 5 i0 (.int .u8 0) 1 1 Try.underlying28 (append_side Try.underlying28) hi hz0 hz1 hz2 rfl (by decide) (by decide) _ (fr k).length _ rfl hownA _ fo.length _ rfl (src_bytes hrow1) ?_ ?_ ?_ ?_)
      case _ => unfold maxLen; omega
      case _ => omega
      case _ => omega
      intro v2 w2 hown2 hg2 _
      have hb2 : Below B w w2 := hbA.grown hg2 (by omega) (fun j hj => (hownA.lt j hj).1)
      have hs2 : B ≤ w2.heap.size := Nat.le_trans hsA hg2.size
      have hown3 : w2.ownsRow B 5 1 v2 (fr (k + 1)).length ((fr (k + 1)).map bv) := by
        rw [HS.out, List.length_append, List.map_append]
        exact hown2
      clear hg2 hownA hbA hsA hrow1 hown2
      go_wp2_with fail
      go_roundw
      case rel => exact ⟨k + 1, by omega, by go_num, hown3, hb2, hs2⟩
      case measure => simp [intOf]; omega
    · obtain rfl : n = k := by omega
      have Hown := Lib.hid hown
      clear hown
      go_wp2_with fail
      go_ret
      exact ⟨_, rfl, Hown.out, hbel⟩

end Go.Proofs.Ytgbnfipbedlmhaa
