/-
  What came in, opened: rows of bytes, rows of rows, rows of answers. Conditions: as each law says.
-/
import Derived.Test.YtgbnfipbedlmhaaTpAnswers
import Derived.Test.YtgbnfipbedlmhaaOpen
set_option linter.unusedVariables false
set_option maxRecDepth 100000
namespace Go.Proofs.Ytgbnfipbedlmhaa.TpOpen
open Go.ChangeShapes Go.WideShapes Go.ChangeAt Go.RowKit Base Opn

theorem cellsStr : Try.prog.cellsOf 9 = 1 := by kernel_rfl
theorem cellsInt : Try.prog.cellsOf 3 = 1 := by kernel_rfl
theorem cellsI64 : Try.prog.cellsOf 2 = 1 := by kernel_rfl
theorem cellsStrs : Try.prog.cellsOf 32 = 1 := by kernel_rfl
theorem cellsAns : Try.prog.cellsOf 34 = 7 := by kernel_rfl
section
variable {H : Type} {enc : TypeId × Value → H} {w : World}
theorem i64_of_wf {z : Int} (h : (Lit.int .i64 z).wf = true) : I64 z := by
  have := wf_bounds h
  simp [IntKind.min, IntKind.max, IntKind.signed, IntKind.bits] at this
  exact this
theorem bytes_of {fuel : Nat} {a : Option Addr} {n cap : Nat} {x : DataW H × List MemPlace} (h : DataW.trod enc Try.prog w 0 (fun _ => true) true fuel 28 [.slice a n cap] = some x) :
    ∃ l : List UInt8, Bytes w a n cap l :=
  row_of_trod byteAt 1 (by decide) Try.underlying28 (e := 5) (by kernel_rfl) (fun ad cs fuel y h hd hs => by
    obtain ⟨z, hz, hw⟩ := each_int Try.underlying5 h hd hs
    exact ⟨UInt8.ofNat z.toNat, by unfold byteAt; rw [hz, ← u8_of_wf hw]⟩) h
theorem bytesRows_of {fuel : Nat} {a : Option Addr} {n cap : Nat} {x : DataW H × List MemPlace} (h : DataW.trod enc Try.prog w 0 (fun _ => true) true fuel 38 [.slice a n cap] = some x) :
    ∃ l : List (List UInt8), ByteRows w a n cap l :=
  row_of_trod bytesCell 1 (by decide) Try.underlying38 (e := 28) (by kernel_rfl) (fun ad cs fuel y h hd hs => by
    obtain ⟨a, n, c, hz, hd2⟩ := each_slice Try.underlying28 h hd hs
    obtain ⟨lb, hlb⟩ := bytes_of hd2
    obtain rfl : n = lb.length := hlb.1
    exact ⟨lb, a, c, hz, hlb⟩) h
/-- A row of texts that came in. -/
theorem strs_of {fuel : Nat} {a : Option Addr} {n cap : Nat} {x : DataW H × List MemPlace} (h : DataW.trod enc Try.prog w 0 (fun _ => true) true fuel 32 [.slice a n cap] = some x) :
    ∃ l : List (List UInt8), Strs w a n cap l ∧ ∀ s ∈ l, Lt64 s.length := by
  obtain ⟨l, h1⟩ := row_of_trod (fun w b o s => strAt w b o s ∧ s.length ≤ maxLen) 1 (by decide) Try.underlying32 (e := 9) cellsStr (fun ad cs fuel y h hd hs => by
    obtain ⟨s, hz, hw⟩ := each_string Try.underlying9 h hd hs
    exact ⟨s.data.toList, by unfold strAt; rw [hz, str_of], by simpa using hw⟩) h
  obtain ⟨g1, g2, g3, b, off, g4, g5⟩ := h1
  refine ⟨l, ⟨g1, g2, g3, b, off, g4, fun k hk => (g5 k hk).1⟩, fun s hs => ?_⟩
  obtain ⟨k, hk, rfl⟩ := List.getElem_of_mem hs
  have := (g5 k hk).2
  unfold maxLen at this
  unfold Lt64
  omega
theorem slice_form {fuel : Nat} {c : Value} {t e : TypeId} {x : DataW H × List MemPlace} (ht : Try.prog.underlying t = some (.slice e)) (h : DataW.trod enc Try.prog w 0 (fun _ => true) true fuel t [c] = some x) : ∃ a n cap, c = .slice a n cap := by
  rcases DataW.trod_slice ht h with ⟨h0, _⟩ | ⟨ad, len, cap', elems, rest, m, _, hcs, _⟩
  · simp at h0; exact ⟨none, 0, 0, h0⟩
  · simp at hcs; exact ⟨_, _, _, hcs⟩
/-- An answer among what came in. -/
theorem ans_cells {cs : List Value} {fuel : Nat} {y : DataW H × List MemPlace} (hsz : cs.length = 7) (hf : DataW.trod enc Try.prog w 0 (fun _ => true) true fuel 34 cs = some y) :
    ∃ (q : Ans) (a : Option Addr) (cap : Nat), cs = ansCells q a cap ∧ Strs w a q.list.length cap q.list ∧ q.Fine := by
  match cs, hsz with
  | [c0, c1, c2, c3, c4, c5, c6], _ =>
    obtain ⟨xs, n, _, _, hl, hlen, hf⟩ := DataW.trod_struct Try.underlying34 hf
    have h0 : DataW.trod enc Try.prog w 0 (fun _ => true) true n 3 ((List.drop 0 [c0, c1, c2, c3, c4, c5, c6]).take (Try.prog.cellsOf 3)) = xs[0]? := hf 0 _ rfl
    rw [cellsInt] at h0
    replace h0 : DataW.trod enc Try.prog w 0 (fun _ => true) true n 3 [c0] = xs[0]? := h0
    have h1 : DataW.trod enc Try.prog w 0 (fun _ => true) true n 3 ((List.drop 1 [c0, c1, c2, c3, c4, c5, c6]).take (Try.prog.cellsOf 3)) = xs[1]? := hf 1 _ rfl
    rw [cellsInt] at h1
    replace h1 : DataW.trod enc Try.prog w 0 (fun _ => true) true n 3 [c1] = xs[1]? := h1
    have h2 : DataW.trod enc Try.prog w 0 (fun _ => true) true n 2 ((List.drop 2 [c0, c1, c2, c3, c4, c5, c6]).take (Try.prog.cellsOf 2)) = xs[2]? := hf 2 _ rfl
    rw [cellsI64] at h2
    replace h2 : DataW.trod enc Try.prog w 0 (fun _ => true) true n 2 [c2] = xs[2]? := h2
    have h3 : DataW.trod enc Try.prog w 0 (fun _ => true) true n 2 ((List.drop 3 [c0, c1, c2, c3, c4, c5, c6]).take (Try.prog.cellsOf 2)) = xs[3]? := hf 3 _ rfl
    rw [cellsI64] at h3
    replace h3 : DataW.trod enc Try.prog w 0 (fun _ => true) true n 2 [c3] = xs[3]? := h3
    have h4 : DataW.trod enc Try.prog w 0 (fun _ => true) true n 9 ((List.drop 4 [c0, c1, c2, c3, c4, c5, c6]).take (Try.prog.cellsOf 9)) = xs[4]? := hf 4 _ rfl
    rw [cellsStr] at h4
    replace h4 : DataW.trod enc Try.prog w 0 (fun _ => true) true n 9 [c4] = xs[4]? := h4
    have h5 : DataW.trod enc Try.prog w 0 (fun _ => true) true n 32 ((List.drop 5 [c0, c1, c2, c3, c4, c5, c6]).take (Try.prog.cellsOf 32)) = xs[5]? := hf 5 _ rfl
    rw [cellsStrs] at h5
    replace h5 : DataW.trod enc Try.prog w 0 (fun _ => true) true n 32 [c5] = xs[5]? := h5
    have h6 : DataW.trod enc Try.prog w 0 (fun _ => true) true n 3 ((List.drop 6 [c0, c1, c2, c3, c4, c5, c6]).take (Try.prog.cellsOf 3)) = xs[6]? := hf 6 _ rfl
    rw [cellsInt] at h6
    replace h6 : DataW.trod enc Try.prog w 0 (fun _ => true) true n 3 [c6] = xs[6]? := h6
    have some_of : ∀ k, k < 7 → ∃ y, xs[k]? = some y := fun k hk => ⟨xs[k]'(by simp at hlen; omega), List.getElem?_eq_getElem _⟩
    obtain ⟨y0, e0⟩ := some_of 0 (by decide)
    obtain ⟨y1, e1⟩ := some_of 1 (by decide)
    obtain ⟨y2, e2⟩ := some_of 2 (by decide)
    obtain ⟨y3, e3⟩ := some_of 3 (by decide)
    obtain ⟨y4, e4⟩ := some_of 4 (by decide)
    obtain ⟨y5, e5⟩ := some_of 5 (by decide)
    obtain ⟨y6, e6⟩ := some_of 6 (by decide)
    rw [e0] at h0
    rw [e1] at h1
    rw [e2] at h2
    rw [e3] at h3
    rw [e4] at h4
    rw [e5] at h5
    rw [e6] at h6
    obtain ⟨k, hk, _, wk⟩ := DataW.trod_int Try.underlying3 h0
    obtain ⟨er, he, _, we⟩ := DataW.trod_int Try.underlying3 h1
    obtain ⟨m1, hm1, _, wm1⟩ := DataW.trod_int Try.underlying2 h2
    obtain ⟨m2, hm2, _, wm2⟩ := DataW.trod_int Try.underlying2 h3
    obtain ⟨s, hs, _, ws⟩ := DataW.trod_string Try.underlying9 h4
    obtain ⟨a, ln, cap, hc4⟩ := slice_form Try.underlying32 h5
    obtain ⟨sg, hsg, _, wsg⟩ := DataW.trod_int Try.underlying3 h6
    simp at hk he hm1 hm2 hs hsg
    subst hk he hm1 hm2 hs hc4 hsg
    obtain ⟨l, hl1, hl2⟩ := strs_of h5
    obtain rfl : ln = l.length := hl1.1
    refine ⟨⟨k, er, m1, m2, s.data.toList, l, sg⟩, a, cap, ?_, hl1, ⟨i64_of_wf wm1, i64_of_wf wm2, ?_, hl2⟩⟩
    · unfold ansCells; simp only [str_of]
    · have e : s.data.toList.length = s.size := by simp
      unfold maxLen at ws
      unfold Lt64
      simp only [e]
      omega
theorem anss_of {fuel : Nat} {a : Option Addr} {n cap : Nat} {x : DataW H × List MemPlace} (h : DataW.trod enc Try.prog w 0 (fun _ => true) true fuel 22 [.slice a n cap] = some x) :
    ∃ l : List Ans, Anss w a n cap l ∧ ∀ q ∈ l, q.Fine := by
  obtain ⟨l, h1⟩ := row_of_trod (fun w b o q => ansAt w b o q ∧ q.Fine) 7 (by decide) Try.underlying22 (e := 34) cellsAns (fun ad cs fuel y h hd hs => by
    obtain ⟨hsp, hlc, hcell⟩ := cells_at h (by decide)
    obtain ⟨q, aq, cq, rfl, h2, h3⟩ := ans_cells hlc hd
    refine ⟨q, ⟨aq, cq, fun j u hu => ?_, h2⟩, h3⟩
    obtain ⟨hj, rfl⟩ := List.getElem?_eq_some_iff.1 hu
    exact hcell j hj) h
  obtain ⟨g1, g2, g3, b, off, g4, g5⟩ := h1
  refine ⟨l, ⟨g1, g2, g3, b, off, g4, fun k hk => (g5 k hk).1⟩, fun q hq => ?_⟩
  obtain ⟨k, hk, rfl⟩ := List.getElem_of_mem hq
  exact (g5 k hk).2
end

end Go.Proofs.Ytgbnfipbedlmhaa.TpOpen
