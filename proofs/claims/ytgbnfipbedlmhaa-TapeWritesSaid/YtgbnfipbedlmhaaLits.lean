/-
  Rows that stand in the text, as lists. Conditions: none.
-/
import Derived.Test.YtgbnfipbedlmhaaVarTexts2
set_option linter.unusedVariables false
namespace Go.Proofs.Ytgbnfipbedlmhaa
open Go.RowKit Base

theorem row_lit {α : Type} {R : World → Nat → Nat → α → Prop} (f : α → Value) (hR : ∀ w b o x, w.cell? ⟨b, o, none⟩ = some (f x) → R w b o x) (w : World) (l : List α) (e : TypeId) (hm : l.length ≤ maxLen) (fr : Nat × Nat := (0, 0)) :
    RowOf R 1 (w.alloc (.cells (l.map f).toArray e fr)) (some ⟨w.heap.size, 0, none⟩) l.length l.length l := by
  refine ⟨rfl, Nat.le_refl _, hm, w.heap.size, 0, .inr rfl, fun k hk => hR _ _ _ _ ?_⟩
  have hh : (w.alloc (.cells (l.map f).toArray e fr)).heap[w.heap.size]? = some (.cells (l.map f).toArray e fr) := heap_alloc_new w _
  unfold World.cell?
  simp only [hh, Nat.zero_add, Nat.mul_one]
  simp [hk]
theorem strs_lit (w : World) (l : List (List UInt8)) (e : TypeId) (hm : l.length ≤ maxLen) : Strs (w.alloc (.cells (l.map fun s => Value.string (str s)).toArray e)) (some ⟨w.heap.size, 0, none⟩) l.length l.length l :=
  row_lit (fun s => Value.string (str s)) (fun _ _ _ _ h => h) w l e hm
theorem u64s_lit (w : World) (l : List Nat) (e : TypeId) (hm : l.length ≤ maxLen) : U64s (w.alloc (.cells (l.map fun x : Nat => Value.int .u64 (x : Int)).toArray e)) (some ⟨w.heap.size, 0, none⟩) l.length l.length l :=
  row_lit (fun x : Nat => Value.int .u64 (x : Int)) (fun _ _ _ _ h => h) w l e hm

end Go.Proofs.Ytgbnfipbedlmhaa
