/-
  A range over a function that keeps a state of its own in a cell (here: what is left of the bytes) and hands a number and a new row of bytes: the law of the statement, for a body that never leaves. Conditions: the body keeps what the function reads; it turns nothing that is no cells from the loop's start on.
-/
import Derived.Test.YtgbnfipbedlmhaaFrWalks3
import Derived.RangeFuncNested
import Derived.RangeFuncBound
import Derived.RangeFuncCalls
import Derived.RangeFuncLeaves
set_option linter.unusedVariables false
namespace Go.Proofs.Ytgbnfipbedlmhaa
open Go.RowKit Base

/-- What a round leaves as it was: whatever lay below n₀; the state's block. -/
def KeepsSt (n₀ q : Nat) (W W' : World) : Prop := Below n₀ W W' ∧ W'.heap[q]? = W.heap[q]?
/-- How the body of a round is left. -/
def bodyEnd (B n₀ q : Nat) (I : Nat → World → Prop) (k : Nat) (W : World) : Exit → Act → World → Prop
  | .normal, _, W' => KeepsFrom B W W' ∧ KeepsSt n₀ q W W' ∧ I k W'
  | _, _, _ => False
/-- The function's contract: from round to round, with the state in block q; rows come as slices that own new blocks. -/
def SeqSt (P : Program) (gf : Nat) (lb : Array Value) (n₀ q : Nat) (e : TypeId) (num : Nat → Int) (row : Nat → List UInt8) (Good : Nat → Prop) (End : Nat → Prop) (w : World) : Prop :=
  ∀ (l : Nat) (J : Nat → World → Prop) (W : World), Below w.heap.size w W → (∀ k A B, J k A → A.grownBy B (some q) → J k B) →
    (∀ k v W0 W1, J k W0 → W0.grownBy W1 (some q) → Good k → W1.ownsRow W0.heap.size e 1 v (row k).length ((row k).map bv) →
      YieldAt Fence.wide 1 P l #[.int .i64 (num k), v] W1 fun r W' => r = .returned (.bool true) ∧ J (k + 1) W' ∧ KeepsSt n₀ q W1 W') →
    J 0 W → Calls P gf (#[.func (.yield l) #[] #[]] ++ lb) W fun r W' => (∃ v, r = .returned v) ∧ ∃ K, End K ∧ J K W'

set_option maxHeartbeats 1000000 in
theorem wp_rangeFunc_st {P : Program} {g : Operand} {p1 p2 : Tmp} {assign body : Code} {Q : Exit → Act → World → Prop} {a : Act} {w : World} {gf : Nat} {lb : Array Value} (hg : a.eval g = .func (.func gf) #[] lb)
    (eg : ∀ args w, (callFunc gf args).run P w = .ok (.enter gf args) w) {n₀ q : Nat} (hn₀ : n₀ ≤ w.heap.size) (hq : q < w.heap.size) {e : TypeId} {num : Nat → Int} {row : Nat → List UInt8} {Good End : Nat → Prop}
    (hseq : SeqSt P gf lb n₀ q e num row Good End w)
    (I : Nat → World → Prop) (hIq : ∀ k A B, I k A → A.grownBy B (some q) → I k B) (hIl : ∀ k A B r, I k A → A.grownBy B (some r) → w.heap.size ≤ r → (∃ o : Obj, A.heap[r]? = some o ∧ o.isCells = false) → I k B) (h0 : I 0 w)
    (a₁ : Int → Value → Act)
    (hassign : ∀ (l : Nat) (z : Int) (v : Value) (W : World) (K : Act → World → Prop), K (a₁ z v) W →
      assign.wpIn (Fence.wide.inRound l) 1 P (Exit.then K (fun _ _ _ => False)) { tmps := (a.tmps.setIfInBounds p1 (.int .i64 z)).setIfInBounds p2 v, defers := [] } W)
    (hbody : ∀ (l k r : Nat) (v : Value) (W0 W1 W2 : World), I k W0 → W0.grownBy W1 (some q) → Good k → W1.ownsRow W0.heap.size e 1 v (row k).length ((row k).map bv) →
      W1.grownBy W2 (some r) → w.heap.size ≤ r → (∃ o : Obj, W1.heap[r]? = some o ∧ o.isCells = false) → w.heap.size ≤ W0.heap.size →
      body.wpIn (Fence.wide.inRound l) 1 P (bodyEnd w.heap.size n₀ q I (k + 1) W2) (a₁ (num k) v) W2)
    (hdone : ∀ (D K : Nat) (W : World), w.heap.size ≤ D → End K → I K W → W.heap[D]? = some (.deferred (some [])) → Q .normal { a with defers := { target := .collected D, args := #[] } :: a.defers } W) :
    (Code.rangeFunc g #[p1, p2] assign body).wp P Q a w := by
  refine wpIn_wide (n := 2).1 (wpIn_rangeFunc ?_)
  intro fn hfn
  show ∃ l mark w₁ d w₁' f args w₂, (Instr.enterLoop fn a.tmps #[p1, p2] assign body none).run P w = _ ∧ _
  obtain ⟨rec, hrec⟩ : ∃ rec : LoopState → Option Code → Loop, rec = fun st pe => { state := st, pending := pe, fn, tmps := a.tmps, params := #[p1, p2], assign, body, defers := w.heap.size } := ⟨_, rfl⟩
  obtain ⟨W1, hW1⟩ : ∃ W1, (w.alloc (.deferred (some []))).alloc (.loop (rec .ready none)) = W1 := ⟨_, rfl⟩
  have hL1 : W1.heap[w.heap.size + 1]? = some (.loop (rec .ready none)) := by
    rw [← hW1]; have := World.alloc_heap_new (w.alloc (.deferred (some []))) (.loop (rec .ready none)); rwa [World.size_alloc] at this
  have hK1 : W1.heap[w.heap.size]? = some (.deferred (some [])) := by
    rw [← hW1]; exact (Below.heap_alloc _ _ _ (by simp)).trans (World.alloc_heap_new w _)
  have hg1 : w.grownBy W1 (some q) := by rw [← hW1]; exact grownBy_trans (World.grownBy_alloc _ _ _) (World.grownBy_alloc _ _ _)
  have hI1 : I 0 W1 := hIq _ _ _ h0 hg1
  have hb1 : Below w.heap.size w W1 := by
    rw [← hW1]; exact ((Below.refl _ w).alloc (Nat.le_refl _) _).alloc (by simp) _
  refine ⟨w.heap.size + 1, [{ target := .collected w.heap.size, args := #[] }], W1, { target := .fn (.func gf) lb, args := #[.func (.yield (w.heap.size + 1)) #[] #[]] }, W1, gf,
    #[.func (.yield (w.heap.size + 1)) #[] #[]] ++ lb, W1, ?_, ?_, fun _ _ => trivial, ?_, fun h => by simp [Fence.wide] at h, ?_⟩
  · rw [← hW1, hrec]; exact run_enterLoop_outer _ _ _ _ _
  · simp only [resolve, hg]
    simp [go_sem]
  · simp [invoke, go_sem, eg]
  · refine callsIn_wide.2 ((hseq (w.heap.size + 1) (fun k W => I k W ∧ W.heap[w.heap.size + 1]? = some (.loop (rec .ready none)) ∧ W.heap[w.heap.size]? = some (.deferred (some []))) W1 hb1 ?_ ?_ ⟨hI1, hL1, hK1⟩).mono ?_)
    · rintro k A B ⟨hi, hl, hk⟩ hgr
      refine ⟨hIq _ _ _ hi hgr, (hgr.block _ (Array.getElem?_eq_some_iff.1 hl).1 (by simp; omega)).trans hl, (hgr.block _ (Array.getElem?_eq_some_iff.1 hk).1 (by simp; omega)).trans hk⟩
    · -- one round
      rintro k v V0 V1 ⟨hi, hl0, hk0⟩ hgr hgood hown
      have hl : V1.heap[w.heap.size + 1]? = some (.loop (rec .ready none)) := (hgr.block _ (Array.getElem?_eq_some_iff.1 hl0).1 (by simp; omega)).trans hl0
      have hk : V1.heap[w.heap.size]? = some (.deferred (some [])) := (hgr.block _ (Array.getElem?_eq_some_iff.1 hk0).1 (by simp; omega)).trans hk0
      have hlt : w.heap.size + 1 < V1.heap.size := (Array.getElem?_eq_some_iff.1 hl).1
      have hlt0 : w.heap.size + 1 < V0.heap.size := (Array.getElem?_eq_some_iff.1 hl0).1
      have hy := run_yield (P := P) (args := #[.int .i64 (num k), v]) hl (by rw [hrec]; rfl)
      rw [hrec] at hy
      have htm : (#[p1, p2].zip #[Value.int .i64 (num k), v]).foldl (fun tmps (t, a) => tmps.setIfInBounds t a) a.tmps = (a.tmps.setIfInBounds p1 (.int .i64 (num k))).setIfInBounds p2 v := by simp
      refine ⟨fn, _, assign, body, hy, roundIn_of_wpIn hfn ?_⟩
      show assign.wpIn _ _ _ _ { tmps := (#[p1, p2].zip #[Value.int .i64 (num k), v]).foldl (fun tmps (t, a) => tmps.setIfInBounds t a) a.tmps, defers := [] } V1
      rw [htm]
      refine hassign _ (num k) v V1 _ ?_
      refine ⟨_, run_beginRound hl (by rw [hrec]), ?_⟩
      have hl2 : (V1.putObj (w.heap.size + 1) (.loop { rec .ready none with state := .busy })).heap[w.heap.size + 1]? = some (.loop { rec .ready none with state := .busy }) := World.putObj_heap_same hlt
      have hk2 : (V1.putObj (w.heap.size + 1) (.loop { rec .ready none with state := .busy })).heap[w.heap.size]? = some (.deferred (some [])) := (World.putObj_heap_other (by omega)).trans hk
      refine wpIn_mono (hbody _ k (w.heap.size + 1) v V0 V1 _ hi hgr hgood hown (grownBy_putObj' _ _ _) (by omega) ⟨_, hl, rfl⟩ (by omega)) ?_
      rintro x a3 W3 hp
      cases x with
      | normal =>
        obtain ⟨hk3, ⟨hkb, hkq⟩, hi3⟩ := hp
        have hl3 := hk3.same _ _ (by omega) hl2 rfl
        have hr := run_endRound (P := P) none hl3
        refine ⟨_, _, hr, rfl, ⟨?_, ?_, ?_⟩, ?_, ?_⟩
        · exact hIl _ _ _ _ hi3 (grownBy_putObj' _ _ _) (by omega) ⟨_, hl3, rfl⟩
        · rw [World.putObj_heap_same (Array.getElem?_eq_some_iff.1 hl3).1, hrec]; rfl
        · exact (World.putObj_heap_other (by omega)).trans (hk3.same _ _ (Nat.le_refl _) hk2 rfl)
        · have h1 : Below n₀ V1 (V1.putObj (w.heap.size + 1) (.loop { rec .ready none with state := .busy })) := (Below.refl n₀ V1).grown (grownBy_putObj' _ _ _) (by omega) (fun j ej => by cases ej; omega)
          have hs3 : w.heap.size + 1 < W3.heap.size := (Array.getElem?_eq_some_iff.1 hl3).1
          exact (h1.trans hkb).grown (grownBy_putObj' _ _ _) (by omega) (fun j ej => by cases ej; omega)
        · rw [World.putObj_heap_other (by omega), hkq, World.putObj_heap_other (by omega)]
      | ret => exact hp.elim
      | exit id => exact hp.elim
      | goto t => exact hp.elim
      | panic ch => exact hp.elim
      | outgrown => exact hp.elim
    · rintro r W2 ⟨⟨v, rfl⟩, K, hE, hi, hl, hk⟩
      refine ⟨none, _, by have := run_endLoop (P := P) hl (by rw [hrec]; simp); rw [hrec] at this; exact this, hdone _ K _ (Nat.le_refl _) hE (hIl _ _ _ _ hi (grownBy_putObj' _ _ _) (by omega) ⟨_, hl, rfl⟩) ((World.putObj_heap_other (by omega)).trans hk)⟩

end Go.Proofs.Ytgbnfipbedlmhaa
