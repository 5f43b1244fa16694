/-
  Env: what comes in, opened; what the row lists, as the contracts want it. Conditions: as each law says.
-/
import Derived.Test.YtchmpkgjjkfjcaaDoorEnActs
import Derived.Test.YtchmpkgjjkfjcaaDoorOpen
import Derived.Test.YtchmpkgjjkfjcaaDoorRows
import Derived.WalkKit
import Derived.ProofKit
import Derived.OpenShut
import Derived.ShutString
import Derived.LaidSub
import Derived.Stop.LaidErr
set_option linter.unusedVariables false
set_option maxRecDepth 100000
namespace Go.Proofs.YtchmpkgjjkfjcaaDoor.EnOpen
open Go.RowKit Base Opn
open Go.ChangeShapes Go.WideShapes Go.ChangeAt
theorem cellsU8 : Tryd.prog.cellsOf 5 = 1 := by kernel_rfl
theorem cellsInt : Tryd.prog.cellsOf 3 = 1 := by kernel_rfl
theorem cellsStr : Tryd.prog.cellsOf 9 = 1 := by kernel_rfl
theorem cellsBool : Tryd.prog.cellsOf 4 = 1 := by kernel_rfl
theorem cellsAct : Tryd.prog.cellsOf 31 = 5 := by kernel_rfl
theorem tab_at {W : World} (h : laidMetH Tryd.prog Rows.envSetsRow.laid W) : Tb W := by
  have h2 := h.filter fun x => x.1 == "internal/strconv.uint64pow10"
  have h3 : laidMet Tryd.prog (("internal/strconv.uint64pow10", Lib.tabData .u64 Lib.pow10Tab) :: []) W := h2
  exact Lib.tabIs_of_head (show Tryd.prog.globalNamed "internal/strconv.uint64pow10" = some 1 by kernel_rfl) (t := _) rfl rfl rfl rfl rfl h3
theorem name_ptr : Tryd.prog.typeName? 3 123 = some "*errors.errorString" := by kernel_rfl
theorem cellsEs : Tryd.prog.cellsOf 125 = 1 := by kernel_rfl
theorem star : "*" ++ "errors.errorString" = "*errors.errorString" := by decide
theorem row_es (u : TypeId) (h : Tryd.prog.typeName? 3 u = some "*errors.errorString") : u = 123 :=
  typeName_ptr_named (nm := "errors.errorString") (by rw [star]; kernel_rfl) (by kernel_rfl) (by decide) u (by rw [star]; exact h)
theorem syn_at {W : World} (h : laidMetH Tryd.prog Rows.envSetsRow.laid W) : Er "strconv.ErrSyntax" W := by
  have h2 := h.filter fun x => x.1 == "strconv.ErrSyntax"
  have h3 : laidMet Tryd.prog (("strconv.ErrSyntax", .iface "*errors.errorString" (.ptr (.agg [.lit (.string [105, 110, 118, 97, 108, 105, 100, 32, 115, 121, 110, 116, 97, 120])]))) :: []) W := h2
  obtain ⟨a0, s0, hv0, _, _, _⟩ := laid_sentinel h3 (g := 2) (by kernel_rfl) (ti := 84) (by kernel_rfl) Tryd.underlying84 row_es Tryd.underlying123 Tryd.underlying125 rfl rfl Tryd.underlying9 cellsEs cellsStr
  exact ⟨_, _, hv0⟩
theorem rng_at {W : World} (h : laidMetH Tryd.prog Rows.envSetsRow.laid W) : Er "strconv.ErrRange" W := by
  have h2 := h.filter fun x => x.1 == "strconv.ErrRange"
  have h3 : laidMet Tryd.prog (("strconv.ErrRange", .iface "*errors.errorString" (.ptr (.agg [.lit (.string [118, 97, 108, 117, 101, 32, 111, 117, 116, 32, 111, 102, 32, 114, 97, 110, 103, 101])]))) :: []) W := h2
  obtain ⟨a0, s0, hv0, _, _, _⟩ := laid_sentinel h3 (g := 3) (by kernel_rfl) (ti := 84) (by kernel_rfl) Tryd.underlying84 row_es Tryd.underlying123 Tryd.underlying125 rfl rfl Tryd.underlying9 cellsEs cellsStr
  exact ⟨_, _, hv0⟩
theorem lw_at {W : World} (h : laidMetH Tryd.prog Rows.envSetsRow.laid W) : Lw W := ⟨tab_at h, syn_at h, rng_at h⟩
theorem u8_of_wf {z : Int} (h : (Lit.int .u8 z).wf = true) : 0 ≤ z ∧ z < 256 := by
  have := wf_bounds h
  simp [IntKind.min, IntKind.max, IntKind.signed, IntKind.bits] at this
  omega
section
variable {H : Type} {enc : TypeId × Value → H} {w : World}
theorem act_cells {cs : List Value} {fuel : Nat} {y : DataW H × List MemPlace} (hsz : cs.length = 5) (hf : DataW.trod enc Tryd.prog w 0 (fun _ => true) true fuel 31 cs = some y) :
    ∃ x : Act5, cs = actC5 x := by
  match cs, hsz with
  | [c0, c1, c2, c3, c4], _ =>
    obtain ⟨xs, n, _, _, hl, hlen, hf⟩ := DataW.trod_struct Tryd.underlying31 hf
    have h0 : DataW.trod enc Tryd.prog w 0 (fun _ => true) true n 5 ((List.drop 0 [c0, c1, c2, c3, c4]).take (Tryd.prog.cellsOf 5)) = xs[0]? := hf 0 _ rfl
    rw [cellsU8] at h0
    replace h0 : DataW.trod enc Tryd.prog w 0 (fun _ => true) true n 5 [c0] = xs[0]? := h0
    have h1 : DataW.trod enc Tryd.prog w 0 (fun _ => true) true n 9 ((List.drop 1 [c0, c1, c2, c3, c4]).take (Tryd.prog.cellsOf 9)) = xs[1]? := hf 1 _ rfl
    rw [cellsStr] at h1
    replace h1 : DataW.trod enc Tryd.prog w 0 (fun _ => true) true n 9 [c1] = xs[1]? := h1
    have h2 : DataW.trod enc Tryd.prog w 0 (fun _ => true) true n 9 ((List.drop 2 [c0, c1, c2, c3, c4]).take (Tryd.prog.cellsOf 9)) = xs[2]? := hf 2 _ rfl
    rw [cellsStr] at h2
    replace h2 : DataW.trod enc Tryd.prog w 0 (fun _ => true) true n 9 [c2] = xs[2]? := h2
    have h3 : DataW.trod enc Tryd.prog w 0 (fun _ => true) true n 4 ((List.drop 3 [c0, c1, c2, c3, c4]).take (Tryd.prog.cellsOf 4)) = xs[3]? := hf 3 _ rfl
    rw [cellsBool] at h3
    replace h3 : DataW.trod enc Tryd.prog w 0 (fun _ => true) true n 4 [c3] = xs[3]? := h3
    have h4 : DataW.trod enc Tryd.prog w 0 (fun _ => true) true n 3 ((List.drop 4 [c0, c1, c2, c3, c4]).take (Tryd.prog.cellsOf 3)) = xs[4]? := hf 4 _ rfl
    rw [cellsInt] at h4
    replace h4 : DataW.trod enc Tryd.prog w 0 (fun _ => true) true n 3 [c4] = xs[4]? := h4
    have some_of : ∀ k, k < 5 → ∃ y, xs[k]? = some y := fun k hk => ⟨xs[k]'(by simp at hlen; omega), List.getElem?_eq_getElem _⟩
    obtain ⟨y0, e0⟩ := some_of 0 (by decide)
    obtain ⟨y1, e1⟩ := some_of 1 (by decide)
    obtain ⟨y2, e2⟩ := some_of 2 (by decide)
    obtain ⟨y3, e3⟩ := some_of 3 (by decide)
    obtain ⟨y4, e4⟩ := some_of 4 (by decide)
    rw [e0] at h0
    rw [e1] at h1
    rw [e2] at h2
    rw [e3] at h3
    rw [e4] at h4
    obtain ⟨m0, hm0, _, wm0⟩ := DataW.trod_int Tryd.underlying5 h0
    obtain ⟨s1, hs1, _⟩ := DataW.trod_string Tryd.underlying9 h1
    obtain ⟨s2, hs2, _⟩ := DataW.trod_string Tryd.underlying9 h2
    obtain ⟨b, hb, _⟩ := DataW.trod_bool Tryd.underlying4 h3
    obtain ⟨m4, hm4, _, wm4⟩ := DataW.trod_int Tryd.underlying3 h4
    simp at hm0 hs1 hs2 hb hm4
    subst hm0 hs1 hs2 hb hm4
    exact ⟨(m0, s1.data.toList, s2.data.toList, b, m4), by unfold actC5; simp only [str_of]⟩
theorem acts_of {fuel : Nat} {a : Option Addr} {n cap : Nat} {x : DataW H × List MemPlace} (h : DataW.trod enc Tryd.prog w 0 (fun _ => true) true fuel 22 [.slice a n cap] = some x) :
    ∃ l : List Act5, Acts w a n cap l := by
  obtain ⟨l, h1⟩ := row_of_trod (Ap.cellsAt actC5) 5 (by decide) Tryd.underlying22 (e := 31) cellsAct (fun ad cs fuel y h hd hs => by
    obtain ⟨hsp, hlc, hcell⟩ := cells_at h (by decide)
    obtain ⟨q, rfl⟩ := act_cells hlc hd
    refine ⟨q, fun j u hu => ?_⟩
    obtain ⟨hj, rfl⟩ := List.getElem?_eq_some_iff.1 hu
    exact hcell j hj) h
  exact ⟨l, h1⟩
end
end Go.Proofs.YtchmpkgjjkfjcaaDoor.EnOpen
