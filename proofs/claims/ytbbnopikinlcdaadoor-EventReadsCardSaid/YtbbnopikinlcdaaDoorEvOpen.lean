/-
  What came in, opened: requests and answers; the names where they were laid. Conditions: as each law says.
-/
import Derived.Test.YtbbnopikinlcdaaDoorRows
import Derived.Test.YtbbnopikinlcdaaDoorEvAwake
import Derived.Test.YtbbnopikinlcdaaDoorOpen
import Derived.Lib.LaidTab
set_option linter.unusedVariables false
namespace Go.Proofs.YtbbnopikinlcdaaDoor.EvOpen
open Go.ChangeShapes Go.WideShapes Go.ChangeAt Go.RowKit Base Opn

/-- An array of strings that reads as the table holds the table's strings, cell for cell. -/
theorem cells_of_strs {H : Type} {enc : TypeId × Value → H} {P : Program} {w : World} {base : Nat} {sp : Nat → Bool} {held : Bool} {fuel : Nat} {t e : TypeId} {n : Nat} {cs : List Value} {zs : List (List UInt8)} {p : List MemPlace}
    (ht : P.underlying t = some (.array n e)) (he : P.underlying e = some .string) (hce : P.cellsOf e = 1) (hct : P.cellsOf t = n)
    (h : DataW.trod enc P w base sp held fuel t cs = some (.agg (zs.map fun z => .lit (.string z)), p)) : cs = zs.map fun z => Value.string (str z) := by
  cases fuel with
  | zero => simp [DataW.trod] at h
  | succ fuel =>
    simp only [DataW.trod, ht, hce, hct, Nat.mul_one] at h
    split at h
    · rename_i hl
      obtain ⟨xs, hm, hx⟩ := Option.map_eq_some_iff.1 h
      have hxs : xs.map (·.1) = zs.map fun z => (DataW.lit (.string z) : DataW H) := by
        have := congrArg Prod.fst hx
        simpa using this
      have hxl : xs.length = n := by simpa using Lib.mapM_length hm
      have hzl : zs.length = n := by
        have := congrArg List.length hxs
        simp at this
        omega
      apply List.ext_getElem?
      intro i
      by_cases hi : i < n
      · obtain ⟨b, hb, hf⟩ := Lib.mapM_at hm i i (by simp [hi])
        obtain ⟨s, hc, rfl, _⟩ := DataW.trod_string he hf
        have h1 : cs[i]? = some (.string s) := by
          have := congrArg (·[0]?) hc
          simpa [List.getElem?_take, List.getElem?_drop] using this
        have h2 : (xs.map (·.1))[i]? = some (DataW.lit (.string s.data.toList) : DataW H) := by simp [hb]
        rw [hxs] at h2
        simp only [List.getElem?_map, Option.map_eq_some_iff, DataW.lit.injEq, Lit.string.injEq] at h2
        obtain ⟨z', hz', rfl⟩ := h2
        simp [h1, hz', str_of]
      · rw [List.getElem?_eq_none (by omega), List.getElem?_eq_none (by simp; omega)]
    · cases h

theorem gTab : Tryd.prog.globalNamed "kinetoscope/event.names" = some 0 := by kernel_rfl
theorem gTabType : (Tryd.prog.globals[0]?).map (·.type) = some 52 := by kernel_rfl
theorem cellsTab : Tryd.prog.cellsOf 52 = 12 := by kernel_rfl
theorem cellsStr : Tryd.prog.cellsOf 9 = 1 := by kernel_rfl
theorem cellsInt : Tryd.prog.cellsOf 3 = 1 := by kernel_rfl
theorem cellsI64 : Tryd.prog.cellsOf 2 = 1 := by kernel_rfl
theorem cellsStrs : Tryd.prog.cellsOf 22 = 1 := by kernel_rfl
theorem cellsReq : Tryd.prog.cellsOf 24 = 5 := by kernel_rfl
theorem cellsAns : Tryd.prog.cellsOf 26 = 7 := by kernel_rfl

/-- What the row's list gives: the names stand where they were laid. -/
theorem names_at {W : World} (h : laidMetH Tryd.prog [("kinetoscope/event.names", Rows.laid_kinetoscope_event_names)] W) : NamesAt W := by
  have h' : laidMet Tryd.prog [("kinetoscope/event.names", (.agg (names.map fun z => .lit (.string z)) : DataW Unit))] W := h
  obtain ⟨ps, ⟨g', t', cs, fuel, p, q, hg', ht', hvar, hd, _, _⟩, _⟩ := h'
  obtain rfl := Option.some.inj (gTab.symm.trans hg')
  obtain rfl := Option.some.inj (gTabType.symm.trans ht')
  have hcs := cells_of_strs Tryd.underlying52 Tryd.underlying9 cellsStr cellsTab hd
  intro k hk
  rw [World.var?_cell hg' hvar k]
  have e : cs[k]? = cs.toList[k]? := by simp
  rw [e, hcs]
  have hkn : k < names.length := hk
  rw [List.getElem?_map, List.getElem?_eq_getElem hkn]
  simp [List.getD, hkn]

section
variable {H : Type} {enc : TypeId × Value → H} {w : World}
theorem i64_of_wf {z : Int} (h : (Lit.int .i64 z).wf = true) : I64 z := by
  have := wf_bounds h
  simp [IntKind.min, IntKind.max, IntKind.signed, IntKind.bits] at this
  exact this
/-- A row of texts that came in. -/
theorem strs_of {fuel : Nat} {a : Option Addr} {n cap : Nat} {x : DataW H × List MemPlace} (h : DataW.trod enc Tryd.prog w 0 (fun _ => true) true fuel 22 [.slice a n cap] = some x) :
    ∃ l : List (List UInt8), Strs w a n cap l ∧ ∀ s ∈ l, Lt64 s.length := by
  obtain ⟨l, h1⟩ := row_of_trod (fun w b o s => strAt w b o s ∧ s.length ≤ maxLen) 1 (by decide) Tryd.underlying22 (e := 9) cellsStr (fun ad cs fuel y h hd hs => by
    obtain ⟨s, hz, hw⟩ := each_string Tryd.underlying9 h hd hs
    exact ⟨s.data.toList, by unfold strAt; rw [hz, str_of], by simpa using hw⟩) h
  obtain ⟨g1, g2, g3, b, off, g4, g5⟩ := h1
  refine ⟨l, ⟨g1, g2, g3, b, off, g4, fun k hk => (g5 k hk).1⟩, fun s hs => ?_⟩
  obtain ⟨k, hk, rfl⟩ := List.getElem_of_mem hs
  have := (g5 k hk).2
  unfold maxLen at this
  unfold Lt64
  omega
theorem slice_form {fuel : Nat} {c : Value} {t e : TypeId} {x : DataW H × List MemPlace} (ht : Tryd.prog.underlying t = some (.slice e)) (h : DataW.trod enc Tryd.prog w 0 (fun _ => true) true fuel t [c] = some x) : ∃ a n cap, c = .slice a n cap := by
  rcases DataW.trod_slice ht h with ⟨h0, _⟩ | ⟨ad, len, cap', elems, rest, m, _, hcs, _⟩
  · simp at h0; exact ⟨none, 0, 0, h0⟩
  · simp at hcs; exact ⟨_, _, _, hcs⟩

theorem open_req {b0 : Nat} {v : Value} {d : DataW H} {p : List MemPlace} (hv : Value.okWide Tryd.prog w .any b0 24 v) (h : DataW.Trod enc Tryd.prog w 0 (fun _ => true) true 24 v d p) :
    ∃ (q : Req) (a : Option Addr) (cap : Nat), v = reqV q a cap ∧ Strs w a q.list.length cap q.list ∧ I64 q.kind ∧ q.Fine := by
  obtain ⟨cs, rfl, hsz⟩ := okWide_struct Tryd.underlying24 hv
  rw [cellsReq] at hsz
  obtain ⟨l⟩ := cs
  match l, hsz with
  | [c0, c1, c2, c3, c4], _ =>
    obtain ⟨fuel, hf⟩ := h
    obtain ⟨xs, n, _, _, hl, hlen, hf⟩ := DataW.trod_struct Tryd.underlying24 hf
    have h0 : DataW.trod enc Tryd.prog w 0 (fun _ => true) true n 3 ((List.drop 0 [c0, c1, c2, c3, c4]).take (Tryd.prog.cellsOf 3)) = xs[0]? := hf 0 _ rfl
    rw [cellsInt] at h0
    replace h0 : DataW.trod enc Tryd.prog w 0 (fun _ => true) true n 3 [c0] = xs[0]? := h0
    have h1 : DataW.trod enc Tryd.prog w 0 (fun _ => true) true n 2 ((List.drop 1 [c0, c1, c2, c3, c4]).take (Tryd.prog.cellsOf 2)) = xs[1]? := hf 1 _ rfl
    rw [cellsI64] at h1
    replace h1 : DataW.trod enc Tryd.prog w 0 (fun _ => true) true n 2 [c1] = xs[1]? := h1
    have h2 : DataW.trod enc Tryd.prog w 0 (fun _ => true) true n 2 ((List.drop 2 [c0, c1, c2, c3, c4]).take (Tryd.prog.cellsOf 2)) = xs[2]? := hf 2 _ rfl
    rw [cellsI64] at h2
    replace h2 : DataW.trod enc Tryd.prog w 0 (fun _ => true) true n 2 [c2] = xs[2]? := h2
    have h3 : DataW.trod enc Tryd.prog w 0 (fun _ => true) true n 9 ((List.drop 3 [c0, c1, c2, c3, c4]).take (Tryd.prog.cellsOf 9)) = xs[3]? := hf 3 _ rfl
    rw [cellsStr] at h3
    replace h3 : DataW.trod enc Tryd.prog w 0 (fun _ => true) true n 9 [c3] = xs[3]? := h3
    have h4 : DataW.trod enc Tryd.prog w 0 (fun _ => true) true n 22 ((List.drop 4 [c0, c1, c2, c3, c4]).take (Tryd.prog.cellsOf 22)) = xs[4]? := hf 4 _ rfl
    rw [cellsStrs] at h4
    replace h4 : DataW.trod enc Tryd.prog w 0 (fun _ => true) true n 22 [c4] = xs[4]? := h4
    have some_of : ∀ k, k < 5 → ∃ y, xs[k]? = some y := fun k hk => ⟨xs[k]'(by simp at hlen; omega), List.getElem?_eq_getElem _⟩
    obtain ⟨y0, e0⟩ := some_of 0 (by decide)
    obtain ⟨y1, e1⟩ := some_of 1 (by decide)
    obtain ⟨y2, e2⟩ := some_of 2 (by decide)
    obtain ⟨y3, e3⟩ := some_of 3 (by decide)
    obtain ⟨y4, e4⟩ := some_of 4 (by decide)
    rw [e0] at h0
    rw [e1] at h1
    rw [e2] at h2
    rw [e3] at h3
    rw [e4] at h4
    obtain ⟨k, hk, _, wk⟩ := DataW.trod_int Tryd.underlying3 h0
    obtain ⟨m1, hm1, _, wm1⟩ := DataW.trod_int Tryd.underlying2 h1
    obtain ⟨m2, hm2, _, wm2⟩ := DataW.trod_int Tryd.underlying2 h2
    obtain ⟨s, hs, _, ws⟩ := DataW.trod_string Tryd.underlying9 h3
    obtain ⟨a, ln, cap, hc4⟩ := slice_form Tryd.underlying22 h4
    simp at hk hm1 hm2 hs
    subst hk hm1 hm2 hs hc4
    obtain ⟨l, hl1, hl2⟩ := strs_of h4
    obtain rfl : ln = l.length := hl1.1
    refine ⟨⟨k, m1, m2, s.data.toList, l⟩, a, cap, ?_, hl1, i64_of_wf wk, ⟨i64_of_wf wm1, i64_of_wf wm2, ?_, hl2⟩⟩
    · unfold reqV; simp only [str_of]
    · have e : s.data.toList.length = s.size := by simp
      unfold maxLen at ws
      unfold Lt64
      simp only [e]
      omega
theorem open_ans {b0 : Nat} {v : Value} {d : DataW H} {p : List MemPlace} (hv : Value.okWide Tryd.prog w .any b0 26 v) (h : DataW.Trod enc Tryd.prog w 0 (fun _ => true) true 26 v d p) :
    ∃ (q : Ans) (a : Option Addr) (cap : Nat), v = ansV q a cap ∧ Strs w a q.list.length cap q.list ∧ I64 q.kind ∧ q.Fine := by
  obtain ⟨cs, rfl, hsz⟩ := okWide_struct Tryd.underlying26 hv
  rw [cellsAns] at hsz
  obtain ⟨l⟩ := cs
  match l, hsz with
  | [c0, c1, c2, c3, c4, c5, c6], _ =>
    obtain ⟨fuel, hf⟩ := h
    obtain ⟨xs, n, _, _, hl, hlen, hf⟩ := DataW.trod_struct Tryd.underlying26 hf
    have h0 : DataW.trod enc Tryd.prog w 0 (fun _ => true) true n 3 ((List.drop 0 [c0, c1, c2, c3, c4, c5, c6]).take (Tryd.prog.cellsOf 3)) = xs[0]? := hf 0 _ rfl
    rw [cellsInt] at h0
    replace h0 : DataW.trod enc Tryd.prog w 0 (fun _ => true) true n 3 [c0] = xs[0]? := h0
    have h1 : DataW.trod enc Tryd.prog w 0 (fun _ => true) true n 3 ((List.drop 1 [c0, c1, c2, c3, c4, c5, c6]).take (Tryd.prog.cellsOf 3)) = xs[1]? := hf 1 _ rfl
    rw [cellsInt] at h1
    replace h1 : DataW.trod enc Tryd.prog w 0 (fun _ => true) true n 3 [c1] = xs[1]? := h1
    have h2 : DataW.trod enc Tryd.prog w 0 (fun _ => true) true n 2 ((List.drop 2 [c0, c1, c2, c3, c4, c5, c6]).take (Tryd.prog.cellsOf 2)) = xs[2]? := hf 2 _ rfl
    rw [cellsI64] at h2
    replace h2 : DataW.trod enc Tryd.prog w 0 (fun _ => true) true n 2 [c2] = xs[2]? := h2
    have h3 : DataW.trod enc Tryd.prog w 0 (fun _ => true) true n 2 ((List.drop 3 [c0, c1, c2, c3, c4, c5, c6]).take (Tryd.prog.cellsOf 2)) = xs[3]? := hf 3 _ rfl
    rw [cellsI64] at h3
    replace h3 : DataW.trod enc Tryd.prog w 0 (fun _ => true) true n 2 [c3] = xs[3]? := h3
    have h4 : DataW.trod enc Tryd.prog w 0 (fun _ => true) true n 9 ((List.drop 4 [c0, c1, c2, c3, c4, c5, c6]).take (Tryd.prog.cellsOf 9)) = xs[4]? := hf 4 _ rfl
    rw [cellsStr] at h4
    replace h4 : DataW.trod enc Tryd.prog w 0 (fun _ => true) true n 9 [c4] = xs[4]? := h4
    have h5 : DataW.trod enc Tryd.prog w 0 (fun _ => true) true n 22 ((List.drop 5 [c0, c1, c2, c3, c4, c5, c6]).take (Tryd.prog.cellsOf 22)) = xs[5]? := hf 5 _ rfl
    rw [cellsStrs] at h5
    replace h5 : DataW.trod enc Tryd.prog w 0 (fun _ => true) true n 22 [c5] = xs[5]? := h5
    have h6 : DataW.trod enc Tryd.prog w 0 (fun _ => true) true n 3 ((List.drop 6 [c0, c1, c2, c3, c4, c5, c6]).take (Tryd.prog.cellsOf 3)) = xs[6]? := hf 6 _ rfl
    rw [cellsInt] at h6
    replace h6 : DataW.trod enc Tryd.prog w 0 (fun _ => true) true n 3 [c6] = xs[6]? := h6
    have some_of : ∀ k, k < 7 → ∃ y, xs[k]? = some y := fun k hk => ⟨xs[k]'(by simp at hlen; omega), List.getElem?_eq_getElem _⟩
    obtain ⟨y0, e0⟩ := some_of 0 (by decide)
    obtain ⟨y1, e1⟩ := some_of 1 (by decide)
    obtain ⟨y2, e2⟩ := some_of 2 (by decide)
    obtain ⟨y3, e3⟩ := some_of 3 (by decide)
    obtain ⟨y4, e4⟩ := some_of 4 (by decide)
    obtain ⟨y5, e5⟩ := some_of 5 (by decide)
    obtain ⟨y6, e6⟩ := some_of 6 (by decide)
    rw [e0] at h0
    rw [e1] at h1
    rw [e2] at h2
    rw [e3] at h3
    rw [e4] at h4
    rw [e5] at h5
    rw [e6] at h6
    obtain ⟨k, hk, _, wk⟩ := DataW.trod_int Tryd.underlying3 h0
    obtain ⟨er, he, _, we⟩ := DataW.trod_int Tryd.underlying3 h1
    obtain ⟨m1, hm1, _, wm1⟩ := DataW.trod_int Tryd.underlying2 h2
    obtain ⟨m2, hm2, _, wm2⟩ := DataW.trod_int Tryd.underlying2 h3
    obtain ⟨s, hs, _, ws⟩ := DataW.trod_string Tryd.underlying9 h4
    obtain ⟨a, ln, cap, hc4⟩ := slice_form Tryd.underlying22 h5
    obtain ⟨sg, hsg, _, wsg⟩ := DataW.trod_int Tryd.underlying3 h6
    simp at hk he hm1 hm2 hs hsg
    subst hk he hm1 hm2 hs hc4 hsg
    obtain ⟨l, hl1, hl2⟩ := strs_of h5
    obtain rfl : ln = l.length := hl1.1
    refine ⟨⟨k, er, m1, m2, s.data.toList, l, sg⟩, a, cap, ?_, hl1, i64_of_wf wk, ⟨i64_of_wf wm1, i64_of_wf wm2, ?_, hl2⟩⟩
    · unfold ansV; simp only [str_of]
    · have e : s.data.toList.length = s.size := by simp
      unfold maxLen at ws
      unfold Lt64
      simp only [e]
      omega
end

end Go.Proofs.YtbbnopikinlcdaaDoor.EvOpen
