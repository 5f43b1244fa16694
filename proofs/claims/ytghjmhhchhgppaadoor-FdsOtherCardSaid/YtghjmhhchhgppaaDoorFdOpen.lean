/-
  Tables: what comes in, opened; what the row lists, as the contracts want it. Conditions: as each law says.
-/
import Derived.Test.YtghjmhhchhgppaaDoorFdPlayLaw
import Derived.Test.YtghjmhhchhgppaaDoorOpen
import Derived.Test.YtghjmhhchhgppaaDoorRows
import Derived.WalkKit
import Derived.ProofKit
import Derived.OpenShut
import Derived.ShutString
import Derived.LaidSub
set_option linter.unusedVariables false
namespace Go.Proofs.YtghjmhhchhgppaaDoor.FdOpen
open Go.RowKit Base Opn
open Go.ChangeShapes Go.WideShapes Go.ChangeAt
theorem cellsInt : Tryd.prog.cellsOf 3 = 1 := by kernel_rfl
theorem cellsI64 : Tryd.prog.cellsOf 2 = 1 := by kernel_rfl
theorem cellsBool : Tryd.prog.cellsOf 4 = 1 := by kernel_rfl
theorem cellsAct : Tryd.prog.cellsOf 32 = 3 := by kernel_rfl
theorem tab_at {W : World} (h : laidMetH Tryd.prog Rows.fdsPlayRow.laid W) : Tb W := by
  have h2 := h.filter fun x => x.1 == "internal/strconv.uint64pow10"
  have h3 : laidMet Tryd.prog (("internal/strconv.uint64pow10", Lib.tabData .u64 Lib.pow10Tab) :: []) W := h2
  exact Lib.tabIs_of_head (show Tryd.prog.globalNamed "internal/strconv.uint64pow10" = some 0 by kernel_rfl) (t := _) rfl rfl rfl rfl rfl h3
section
variable {H : Type} {enc : TypeId × Value → H} {w : World}
theorem i64_of_wf {z : Int} (h : (Lit.int .i64 z).wf = true) : I64n z := by
  have := wf_bounds h
  simp [IntKind.min, IntKind.max, IntKind.signed, IntKind.bits] at this
  exact this
theorem act_cells {cs : List Value} {fuel : Nat} {y : DataW H × List MemPlace} (hsz : cs.length = 3) (hf : DataW.trod enc Tryd.prog w 0 (fun _ => true) true fuel 32 cs = some y) :
    ∃ x : Act3, cs = actC x ∧ I64n x.1 ∧ I64n x.2.1 := by
  match cs, hsz with
  | [c0, c1, c2], _ =>
    obtain ⟨xs, n, _, _, hl, hlen, hf⟩ := DataW.trod_struct Tryd.underlying32 hf
    have h0 : DataW.trod enc Tryd.prog w 0 (fun _ => true) true n 3 ((List.drop 0 [c0, c1, c2]).take (Tryd.prog.cellsOf 3)) = xs[0]? := hf 0 _ rfl
    rw [cellsInt] at h0
    replace h0 : DataW.trod enc Tryd.prog w 0 (fun _ => true) true n 3 [c0] = xs[0]? := h0
    have h1 : DataW.trod enc Tryd.prog w 0 (fun _ => true) true n 2 ((List.drop 1 [c0, c1, c2]).take (Tryd.prog.cellsOf 2)) = xs[1]? := hf 1 _ rfl
    rw [cellsI64] at h1
    replace h1 : DataW.trod enc Tryd.prog w 0 (fun _ => true) true n 2 [c1] = xs[1]? := h1
    have h2 : DataW.trod enc Tryd.prog w 0 (fun _ => true) true n 4 ((List.drop 2 [c0, c1, c2]).take (Tryd.prog.cellsOf 4)) = xs[2]? := hf 2 _ rfl
    rw [cellsBool] at h2
    replace h2 : DataW.trod enc Tryd.prog w 0 (fun _ => true) true n 4 [c2] = xs[2]? := h2
    have some_of : ∀ k, k < 3 → ∃ y, xs[k]? = some y := fun k hk => ⟨xs[k]'(by simp at hlen; omega), List.getElem?_eq_getElem _⟩
    obtain ⟨y0, e0⟩ := some_of 0 (by decide)
    obtain ⟨y1, e1⟩ := some_of 1 (by decide)
    obtain ⟨y2, e2⟩ := some_of 2 (by decide)
    rw [e0] at h0
    rw [e1] at h1
    rw [e2] at h2
    obtain ⟨m1, hm1, _, wm1⟩ := DataW.trod_int Tryd.underlying3 h0
    obtain ⟨m2, hm2, _, wm2⟩ := DataW.trod_int Tryd.underlying2 h1
    obtain ⟨b, hb, _⟩ := DataW.trod_bool Tryd.underlying4 h2
    simp at hm1 hm2 hb
    subst hm1 hm2 hb
    exact ⟨(m1, m2, b), rfl, i64_of_wf wm1, i64_of_wf wm2⟩
theorem acts_of {fuel : Nat} {a : Option Addr} {n cap : Nat} {x : DataW H × List MemPlace} (h : DataW.trod enc Tryd.prog w 0 (fun _ => true) true fuel 22 [.slice a n cap] = some x) :
    ∃ l : List Act3, Acts w a n cap l ∧ FineA l := by
  obtain ⟨l, h1⟩ := row_of_trod (fun w b o q => Ap.cellsAt actC w b o q ∧ I64n q.1 ∧ I64n q.2.1) 3 (by decide) Tryd.underlying22 (e := 32) cellsAct (fun ad cs fuel y h hd hs => by
    obtain ⟨hsp, hlc, hcell⟩ := cells_at h (by decide)
    obtain ⟨q, rfl, h3⟩ := act_cells hlc hd
    refine ⟨q, fun j u hu => ?_, h3⟩
    obtain ⟨hj, rfl⟩ := List.getElem?_eq_some_iff.1 hu
    exact hcell j hj) h
  obtain ⟨g1, g2, g3, b, off, g4, g5⟩ := h1
  refine ⟨l, ⟨g1, g2, g3, b, off, g4, fun k hk => (g5 k hk).1⟩, fun q hq => ?_⟩
  obtain ⟨k, hk, rfl⟩ := List.getElem_of_mem hq
  exact (g5 k hk).2
theorem ints_of {fuel : Nat} {a : Option Addr} {n cap : Nat} {x : DataW H × List MemPlace} (h : DataW.trod enc Tryd.prog w 0 (fun _ => true) true fuel 23 [.slice a n cap] = some x) :
    ∃ l : List Int, Ints w a n cap l := by
  obtain ⟨l, h1⟩ := row_of_trod (Ap.cellsAt intC) 1 (by decide) Tryd.underlying23 (e := 3) cellsInt (fun ad cs fuel y h hd hs => by
    obtain ⟨hsp, hlc, hcell⟩ := cells_at h (by decide)
    match cs, hlc with
    | [c0], _ =>
      obtain ⟨m, hm, _, _⟩ := DataW.trod_int Tryd.underlying3 hd
      simp at hm
      subst hm
      refine ⟨m, fun j u hu => ?_⟩
      obtain ⟨hj, rfl⟩ := List.getElem?_eq_some_iff.1 hu
      exact hcell j hj) h
  exact ⟨l, h1⟩
end
end Go.Proofs.YtghjmhhchhgppaaDoor.FdOpen
