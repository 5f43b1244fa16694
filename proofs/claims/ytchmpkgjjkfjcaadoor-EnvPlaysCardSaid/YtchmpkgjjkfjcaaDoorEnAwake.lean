/-
  Env: the document's example. Conditions: the library lies where it was laid.
-/
import Derived.Test.YtchmpkgjjkfjcaaDoorEnGet
set_option linter.unusedVariables false
set_option maxRecDepth 100000
namespace Go.Proofs.YtchmpkgjjkfjcaaDoor
open Go.RowKit Base

theorem vrs_nil (w : World) : Vrs w none 0 0 [] := RowOf.nil
theorem sts_nil (w : World) : Sts w none 0 0 [] := RowOf.nil
theorem sts_ab (w : World) : Sts (w.alloc (.cells #[.string (str [97]), .string (str [98])] 9)) (some ⟨w.heap.size, 0, none⟩) 2 2 [[97], [98]] := by
  have h := heap_alloc_new w (.cells #[.string (str [97]), .string (str [98])] 9)
  refine ⟨rfl, Nat.le_refl _, by decide, w.heap.size, 0, .inr rfl, fun k hk j u hu => ?_⟩
  have hj : j = 0 := by
    have := (List.getElem?_eq_some_iff.1 hu).1
    simp [stC] at this
    exact this
  subst hj
  match k, hk with
  | 0, _ => cases hu; simp only [World.cell?, h]; rfl
  | 1, _ => cases hu; simp only [World.cell?, h]; rfl
theorem one_box (w : World) (o : Obj) : (w.alloc o).heap[w.heap.size]? = some o ∧ Below w.heap.size w (w.alloc o) ∧ (w.alloc o).heap.size = w.heap.size + 1 := ⟨heap_alloc_new w o, (Below.refl w.heap.size w).alloc (Nat.le_refl _) o, World.size_alloc ..⟩
/-- What a whole Env is, as a value of the program. -/
def envV (v g : Value) (st : Int) (fl : Nm) : Value := .agg #[v, g, .int .i64 st, .string (str fl)]
theorem aw1 : setB [120] [49] [] = [([120], [49])] := by decide
theorem aw2 : setB [121] [50] [([120], [49])] = [([120], [49]), ([121], [50])] := by decide
theorem aw3 : withoutB [([120], [49]), ([121], [50])] [120] = [([121], [50])] := by decide
theorem awr1 : Rises [([120], [49])] := by unfold Rises; decide
theorem awr2 : Rises [([120], [49]), ([121], [50])] := by unfold Rises; decide
theorem awr3 : Rises [([121], [50])] := by unfold Rises; decide
theorem aw4 : gotB [([121], [50])] [[97], [98]] 0 [] [121] = some [50] := by decide
theorem aw5 : gotB [([121], [50])] [[97], [98]] 0 [] [120] = none := by decide
theorem aw6 : gotB [([121], [50])] [[97], [98]] 0 [] [42] = some [97, 32, 98] := by decide
theorem aw7 : flagB [] 117 true = [117] := by decide
theorem aw8 : hasFl [117] 117 = true := by decide
theorem aw9 : ifsB [([121], [50])] = [32, 9, 10] := by decide
end Go.Proofs.YtchmpkgjjkfjcaaDoor
