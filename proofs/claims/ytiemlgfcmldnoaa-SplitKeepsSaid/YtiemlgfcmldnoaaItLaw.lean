/-
  A range over a function that hands N values, one by one, and reads a block q of its own between two rounds: the law of the statement, for a body that never leaves. The loop's variable may lie in a box of its own. Conditions: the body keeps block q; it turns nothing that is no cells from the loop's start on.
-/
import Derived.Test.YtiemlgfcmldnoaaRegionIn
import Derived.RangeFuncNested
import Derived.RangeFuncBound
import Derived.RangeFuncCalls
import Derived.RangeFuncLeaves
set_option linter.unusedVariables false
namespace Go.Proofs.Ytiemlgfcmldnoaa
open Go.RowKit Base

/-- How the body of a round is left. -/
def bodyEndI (B q : Nat) (I : Nat → World → Prop) (k : Nat) (W : World) : Exit → Act → World → Prop
  | .normal, _, W' => KeepsFrom B W W' ∧ W'.heap[q]? = W.heap[q]? ∧ I k W'
  | _, _, _ => False
/-- The function's contract. -/
def SeqIt (P : Program) (gf : Nat) (lb : Array Value) (q N : Nat) (enc : Nat → Value) (w : World) : Prop :=
  ∀ (l : Nat) (J : Nat → World → Prop) (W : World), Below w.heap.size w W → (∀ k A B, J k A → Below A.heap.size A B → J k B) →
    (∀ k W1, J k W1 → k < N → YieldAt Fence.wide 1 P l #[enc k] W1 fun r W' => r = .returned (.bool true) ∧ J (k + 1) W' ∧ W'.heap[q]? = W1.heap[q]?) →
    J 0 W → Calls P gf (#[.func (.yield l) #[] #[]] ++ lb) W fun r W' => (∃ v, r = .returned v) ∧ J N W'
theorem below_put {W W2 : World} {r : Nat} (h : W.grownBy W2 (some r)) {n : Nat} (hn : n ≤ W.heap.size) (hr : n ≤ r) : Below n W W2 := (Below.refl n W).grown h hn (fun j e => by cases e; exact hr)

set_option maxHeartbeats 1000000 in
theorem wp_rangeFunc_it {P : Program} {g : Operand} {p1 : Tmp} {assign body : Code} {Q : Exit → Act → World → Prop} {a : Act} {w : World} {gf : Nat} {lb : Array Value} (hg : a.eval g = .func (.func gf) #[] lb)
    (eg : ∀ args w, (callFunc gf args).run P w = .ok (.enter gf args) w) {q : Nat} (hq : q < w.heap.size) {N : Nat} {enc : Nat → Value}
    (hseq : SeqIt P gf lb q N enc w)
    (I : Nat → World → Prop) (hIb : ∀ k A B, I k A → Below A.heap.size A B → I k B) (hIl : ∀ k A B r, I k A → A.grownBy B (some r) → w.heap.size ≤ r → (∃ o : Obj, A.heap[r]? = some o ∧ o.isCells = false) → I k B) (h0 : I 0 w)
    (Ax : Nat → Act → World → Prop) (hAx : ∀ k a A B r, Ax k a A → A.grownBy B (some r) → (∃ o : Obj, A.heap[r]? = some o ∧ o.isCells = false) → Ax k a B)
    (hassign : ∀ (l k : Nat) (W : World) (K : Act → World → Prop), w.heap.size ≤ W.heap.size → (∀ a' W', Below W.heap.size W W' → Ax k a' W' → K a' W') →
      assign.wpIn (Fence.wide.inRound l) 1 P (Exit.then K (fun _ _ _ => False)) { tmps := a.tmps.setIfInBounds p1 (enc k), defers := [] } W)
    (hbody : ∀ (l k : Nat) (a' : Act) (W2 : World), I k W2 → k < N → Ax k a' W2 → w.heap.size ≤ W2.heap.size →
      body.wpIn (Fence.wide.inRound l) 1 P (bodyEndI w.heap.size q I (k + 1) W2) a' W2)
    (hdone : ∀ (D : Nat) (W : World), w.heap.size ≤ D → I N W → W.heap[D]? = some (.deferred (some [])) → Q .normal { a with defers := { target := .collected D, args := #[] } :: a.defers } W) :
    (Code.rangeFunc g #[p1] assign body).wp P Q a w := by
  refine wpIn_wide (n := 2).1 (wpIn_rangeFunc ?_)
  intro fn hfn
  show ∃ l mark w₁ d w₁' f args w₂, (Instr.enterLoop fn a.tmps #[p1] assign body none).run P w = _ ∧ _
  obtain ⟨rec, hrec⟩ : ∃ rec : LoopState → Option Code → Loop, rec = fun st pe => { state := st, pending := pe, fn, tmps := a.tmps, params := #[p1], assign, body, defers := w.heap.size } := ⟨_, rfl⟩
  obtain ⟨W1, hW1⟩ : ∃ W1, (w.alloc (.deferred (some []))).alloc (.loop (rec .ready none)) = W1 := ⟨_, rfl⟩
  have hL1 : W1.heap[w.heap.size + 1]? = some (.loop (rec .ready none)) := by
    rw [← hW1]; have := World.alloc_heap_new (w.alloc (.deferred (some []))) (.loop (rec .ready none)); rwa [World.size_alloc] at this
  have hK1 : W1.heap[w.heap.size]? = some (.deferred (some [])) := by
    rw [← hW1]; exact (Below.heap_alloc _ _ _ (by simp)).trans (World.alloc_heap_new w _)
  have hb1 : Below w.heap.size w W1 := by
    rw [← hW1]; exact ((Below.refl _ w).alloc (Nat.le_refl _) _).alloc (by simp) _
  have hI1 : I 0 W1 := hIb _ _ _ h0 hb1
  refine ⟨w.heap.size + 1, [{ target := .collected w.heap.size, args := #[] }], W1, { target := .fn (.func gf) lb, args := #[.func (.yield (w.heap.size + 1)) #[] #[]] }, W1, gf,
    #[.func (.yield (w.heap.size + 1)) #[] #[]] ++ lb, W1, ?_, ?_, fun _ _ => trivial, ?_, fun h => by simp [Fence.wide] at h, ?_⟩
  · rw [← hW1, hrec]; exact run_enterLoop_outer _ _ _ _ _
  · simp only [resolve, hg]
    simp [go_sem]
  · simp [invoke, go_sem, eg]
  · refine callsIn_wide.2 ((hseq (w.heap.size + 1) (fun k W => I k W ∧ W.heap[w.heap.size + 1]? = some (.loop (rec .ready none)) ∧ W.heap[w.heap.size]? = some (.deferred (some []))) W1 hb1 ?_ ?_ ⟨hI1, hL1, hK1⟩).mono ?_)
    · rintro k A B ⟨hi, hl, hk⟩ hgr
      exact ⟨hIb _ _ _ hi hgr, (hgr.block _ (Array.getElem?_eq_some_iff.1 hl).1).trans hl, (hgr.block _ (Array.getElem?_eq_some_iff.1 hk).1).trans hk⟩
    · -- one round
      rintro k V1 ⟨hi, hl, hk⟩ hkN
      have hlt : w.heap.size + 1 < V1.heap.size := (Array.getElem?_eq_some_iff.1 hl).1
      have hy := run_yield (P := P) (args := #[enc k]) hl (by rw [hrec]; rfl)
      rw [hrec] at hy
      have htm : (#[p1].zip #[enc k]).foldl (fun tmps (t, a) => tmps.setIfInBounds t a) a.tmps = a.tmps.setIfInBounds p1 (enc k) := by simp
      refine ⟨fn, _, assign, body, hy, roundIn_of_wpIn hfn ?_⟩
      show assign.wpIn _ _ _ _ { tmps := (#[p1].zip #[enc k]).foldl (fun tmps (t, a) => tmps.setIfInBounds t a) a.tmps, defers := [] } V1
      rw [htm]
      refine hassign _ k V1 _ (by omega) fun a' V2 hbV hax => ?_
      have hl' : V2.heap[w.heap.size + 1]? = some (.loop (rec .ready none)) := (hbV.block _ hlt).trans hl
      have hk' : V2.heap[w.heap.size]? = some (.deferred (some [])) := (hbV.block _ (by omega)).trans hk
      have hlt2 : w.heap.size + 1 < V2.heap.size := (Array.getElem?_eq_some_iff.1 hl').1
      refine ⟨_, run_beginRound hl' (by rw [hrec]), ?_⟩
      have hl2 : (V2.putObj (w.heap.size + 1) (.loop { rec .ready none with state := .busy })).heap[w.heap.size + 1]? = some (.loop { rec .ready none with state := .busy }) := World.putObj_heap_same hlt2
      have hk2 : (V2.putObj (w.heap.size + 1) (.loop { rec .ready none with state := .busy })).heap[w.heap.size]? = some (.deferred (some [])) := (World.putObj_heap_other (by omega)).trans hk'
      have hgp := grownBy_putObj' V2 (w.heap.size + 1) (.loop { rec .ready none with state := .busy })
      have hiV : I k (V2.putObj (w.heap.size + 1) (.loop { rec .ready none with state := .busy })) := hIl _ _ _ _ (hIb _ _ _ hi hbV) hgp (by omega) ⟨_, hl', rfl⟩
      have hsz : w.heap.size ≤ (V2.putObj (w.heap.size + 1) (.loop { rec .ready none with state := .busy })).heap.size := by have := hgp.size; omega
      refine wpIn_mono (hbody _ k a' _ hiV hkN (hAx _ _ _ _ _ hax hgp ⟨_, hl', rfl⟩) hsz) ?_
      rintro x a3 W3 hp
      cases x with
      | normal =>
        obtain ⟨hk3, hkq, hi3⟩ := hp
        have hl3 := hk3.same _ _ (by omega) hl2 rfl
        have hr := run_endRound (P := P) none hl3
        refine ⟨_, _, hr, rfl, ⟨?_, ?_, ?_⟩, ?_⟩
        · exact hIl _ _ _ _ hi3 (grownBy_putObj' _ _ _) (by omega) ⟨_, hl3, rfl⟩
        · rw [World.putObj_heap_same (Array.getElem?_eq_some_iff.1 hl3).1, hrec]; rfl
        · exact (World.putObj_heap_other (by omega)).trans (hk3.same _ _ (Nat.le_refl _) hk2 rfl)
        · rw [World.putObj_heap_other (by omega), hkq, World.putObj_heap_other (by omega), hbV.block q (by omega)]
      | ret => exact hp.elim
      | exit id => exact hp.elim
      | goto t => exact hp.elim
      | panic ch => exact hp.elim
      | outgrown => exact hp.elim
    · rintro r W2 ⟨⟨v, rfl⟩, hi, hl, hk⟩
      refine ⟨none, _, by have := run_endLoop (P := P) hl (by rw [hrec]; simp); rw [hrec] at this; exact this, hdone _ _ (Nat.le_refl _) (hIl _ _ _ _ hi (grownBy_putObj' _ _ _) (by omega) ⟨_, hl, rfl⟩) ((World.putObj_heap_other (by omega)).trans hk)⟩

end Go.Proofs.Ytiemlgfcmldnoaa
