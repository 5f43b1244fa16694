/-
  Split: a row that comes in by value.
-/
import Derived.Test.YtiemlgfcmldnoaaSpAwake
import Derived.Test.YtiemlgfcmldnoaaOpen
import Derived.WalkKit
import Derived.ProofKit
import Derived.OpenShut
import Derived.ShutString
set_option linter.unusedVariables false
namespace Go.Proofs.Ytiemlgfcmldnoaa
open Go.RowKit Base Opn
open Go.ChangeShapes Go.WideShapes Go.ChangeAt
theorem cellsText : Try.prog.cellsOf 9 = 1 := by kernel_rfl
theorem cellsRow : Try.prog.cellsOf 23 = 2 := by kernel_rfl
theorem open_row {H : Type} {enc : TypeId × Value → H} {w : World} {b0 : Nat} {v : Value} {d : DataW H} {p : List MemPlace} (hv : Value.okWide Try.prog w .any b0 23 v) (h : DataW.Trod enc Try.prog w 0 (fun _ => true) true 23 v d p) :
    ∃ t m : ByteArray, v = .agg #[.string t, .string m] := by
  obtain ⟨cs, rfl, hsz⟩ := okWide_struct Try.underlying23 hv
  rw [cellsRow] at hsz
  obtain ⟨l⟩ := cs
  match l, hsz with
  | [c0, c1], _ =>
    obtain ⟨fuel, hf⟩ := h
    obtain ⟨xs, n, _, _, hl, hlen, hf⟩ := DataW.trod_struct Try.underlying23 hf
    have h0 : DataW.trod enc Try.prog w 0 (fun _ => true) true n 9 ((List.drop 0 [c0, c1]).take (Try.prog.cellsOf 9)) = xs[0]? := hf 0 _ rfl
    have h1 : DataW.trod enc Try.prog w 0 (fun _ => true) true n 9 ((List.drop 1 [c0, c1]).take (Try.prog.cellsOf 9)) = xs[1]? := hf 1 _ rfl
    rw [cellsText] at h0 h1
    replace h0 : DataW.trod enc Try.prog w 0 (fun _ => true) true n 9 [c0] = xs[0]? := h0
    replace h1 : DataW.trod enc Try.prog w 0 (fun _ => true) true n 9 [c1] = xs[1]? := h1
    have some_of : ∀ k, k < 2 → ∃ y, xs[k]? = some y := fun k hk => ⟨xs[k]'(by simp at hlen; omega), List.getElem?_eq_getElem _⟩
    obtain ⟨y0, e0⟩ := some_of 0 (by decide)
    obtain ⟨y1, e1⟩ := some_of 1 (by decide)
    rw [e0] at h0
    rw [e1] at h1
    obtain ⟨s, hs, _, ws⟩ := DataW.trod_string Try.underlying9 h0
    obtain ⟨s2, hs2, _, ws2⟩ := DataW.trod_string Try.underlying9 h1
    simp at hs hs2
    subst hs; subst hs2
    exact ⟨_, _, rfl⟩
end Go.Proofs.Ytiemlgfcmldnoaa
