/-
  What the statements' bound gives: a row of texts that came in is not longer than the bound. Conditions: as each law says.
  State: the statements' arguments, opened. Conditions: as each law says.
-/
import Derived.Test.YtnmlnaoljkhjeaaRows
import Derived.Test.YtnmlnaoljkhjeaaOpen
import Derived.Test.YtnmlnaoljkhjeaaGVar
import Derived.Test.YtnmlnaoljkhjeaaStCutsLaw
/-! Bulk -/
set_option linter.unusedVariables false
namespace Go.Proofs.Ytnmlnaoljkhjeaa.Bulk
open Go.ChangeShapes Go.WideShapes Go.ChangeAt Go.RowKit Base Opn

theorem one_le {H : Type} (d : DataW H) : 1 ≤ Rows.uptoBulk d := by
  cases d with
  | lit l => cases l <;> simp [Rows.uptoBulk]
  | nil => simp [Rows.uptoBulk]
  | ptr d => simp [Rows.uptoBulk]
  | slice elems spare => simp [Rows.uptoBulk]
  | agg parts => simp [Rows.uptoBulk]
  | iface t d => simp [Rows.uptoBulk]
  | map entries => simp [Rows.uptoBulk]
  | held h => simp [Rows.uptoBulk]
theorem part_le {H : Type} {d : DataW H} {l : List (DataW H)} (h : d ∈ l) : Rows.uptoBulk d ≤ Rows.uptoBulkAll l := by
  induction l with
  | nil => cases h
  | cons x r ih =>
    simp only [Rows.uptoBulkAll]
    cases List.mem_cons.1 h with
    | inl e => subst e; omega
    | inr e => have := ih e; omega
theorem bound {H : Type} {l : List (DataW H)} (hk : Rows.uptoSmall H l = true) : Rows.uptoBulkAll l ≤ 1048576 := of_decide_eq_true hk
theorem bulk_strs {H : Type} (l : List ByteArray) : Rows.uptoBulkAll (strs (H := H) l) = (l.map fun s => s.size + 1).sum := by
  induction l with
  | nil => rfl
  | cons s r ih =>
    have e : s.data.toList.length = s.size := by rw [Array.length_toList]; rfl
    simp only [strs, List.map_cons, Rows.uptoBulkAll, Rows.uptoBulk, List.sum_cons, e] at ih ⊢
    rw [ih]

section
variable {H : Type} {enc : TypeId × Value → H} {P : Program} {w : World}
/-- A row of texts, with its bulk. -/
theorem strs_of_Trod {t e : TypeId} (ht : P.underlying t = some (.slice e)) (he : P.underlying e = some .string) (hc : P.cellsOf e = 1) {a : Option Addr} {n cap : Nat} {d : DataW H} {p : List MemPlace}
    (h : DataW.Trod enc P w 0 (fun _ => true) true t (.slice a n cap) d p) : ∃ tl : List (List UInt8), RowOf strAt 1 w a n cap tl ∧ (tl.map fun s => s.length + 1).sum ≤ Rows.uptoBulk d := by
  obtain ⟨fuel, hf⟩ := h
  rcases open_strings ht he hc hf with ⟨hcs, hx⟩ | ⟨x, len, c, ss, hcs, _, hl, hm, hz, hx, hcell, hws⟩
  · simp [Value.cells] at hcs
    obtain ⟨rfl, rfl, rfl⟩ := hcs
    exact ⟨[], RowOf.nil, by simp⟩
  · simp [Value.cells] at hcs
    obtain ⟨rfl, rfl, rfl⟩ := hcs
    have hz' : ss.length = cap := by simpa using hz
    refine ⟨(ss.take n).map fun s => s.data.toList, ⟨by simp; omega, hl, hm, x.block, x.off, ?_, fun k hk => ?_⟩, ?_⟩
    · rcases Nat.eq_zero_or_pos n with h0 | h0
      · exact .inl h0
      · right
        have h1 := hcell 0 (by omega)
        have hsp := World.cell?_spot h1
        obtain ⟨b, o, sp⟩ := x
        have : sp = none := by simpa [Addr.add] using hsp
        subst this
        rfl
    · have hk' : k < n := by simp at hk; omega
      have h1 := hcell k (by omega)
      have h0 := hcell 0 (by omega)
      have hsp := World.cell?_spot h0
      obtain ⟨b, o, sp⟩ := x
      have : sp = none := by simpa [Addr.add] using hsp
      subst this
      rw [Addr.add_lit] at h1
      unfold strAt
      simp only [Nat.mul_one]
      rw [h1]
      have hks : k < ss.length := by omega
      simp [List.getD, hks, str_of]
    · have e1 : d = .slice (strs (ss.take n)) (strs (ss.drop n)) := congrArg Prod.fst hx
      subst e1
      have h2 := bulk_strs (H := H) (ss.take n)
      have e2 : (((ss.take n).map fun s => s.data.toList).map fun s => s.length + 1).sum = ((ss.take n).map fun s => s.size + 1).sum := by
        rw [List.map_map]
        congr 1
      rw [e2, ← h2]
      simp only [Rows.uptoBulk]
      omega
end
theorem sum_mem (l : List (List UInt8)) {s : List UInt8} (h : s ∈ l) : s.length + 1 ≤ (l.map fun s => s.length + 1).sum := by
  induction l with
  | nil => cases h
  | cons x r ih =>
    rw [List.map_cons, List.sum_cons]
    rcases List.mem_cons.1 h with rfl | h
    · omega
    · have := ih h; omega
theorem texts_sum (l : List (List UInt8)) (h : (l.map fun s => s.length + 1).sum ≤ 1048576) : (texts l).length ≤ 10 * (l.map fun s => s.length + 1).sum := by
  have hall : ∀ s ∈ l, s.length ≤ 1048576 := by
    intro s hs
    have : s.length + 1 ≤ (l.map fun s => s.length + 1).sum := sum_mem l hs
    omega
  clear h
  induction l with
  | nil => simp [texts]
  | cons s r ih =>
    have h1 := num_len s.length (by have := hall s (by simp); unfold Lt64; omega)
    have h2 := ih fun y hy => hall y (by simp [hy])
    simp only [texts, List.flatMap_cons, List.length_append, List.map_cons, List.sum_cons] at h2 ⊢
    omega

end Go.Proofs.Ytnmlnaoljkhjeaa.Bulk

/-! StLawOpen -/
set_option linter.unusedVariables false
set_option maxRecDepth 100000
namespace Go.Proofs.Ytnmlnaoljkhjeaa
open Go.ChangeShapes Go.WideShapes Go.ChangeAt Go.RowKit Base Opn

theorem open_state {H : Type} {enc : TypeId × Value → H} {w : World} {b0 : Nat} {v : Value} {d : DataW H} {p : List MemPlace} (hv : Value.okWide Try.prog w .any b0 stT v) (h : DataW.Trod enc Try.prog w 0 (fun _ => true) true stT v d p)
    (hfz : w.noneFrozen p) (hbk : Rows.uptoBulk d ≤ 1048576) : ∃ (vs : List Value) (s : StateD), v = .agg vs.toArray ∧ InS w vs s := by
  obtain ⟨cs, rfl, hsz⟩ := okWide_struct Try.underlying40 hv
  rw [opn_state.cells] at hsz
  obtain ⟨l⟩ := cs
  obtain ⟨fuel, hf⟩ := h
  have hl : l.length = 29 := by simpa using hsz
  obtain ⟨s, hA, hQ, hL⟩ := opn_state.go hl hf hfz
  refine ⟨l, s, rfl, hA, hQ, hl, Nat.le_trans hL ?_⟩
  have : Rows.uptoBulk (d, p).1 ≤ 1048576 := hbk
  omega
theorem bulk_len {H : Type} (l : List (DataW H)) : l.length ≤ Rows.uptoBulkAll l := by
  induction l with
  | nil => exact Nat.zero_le _
  | cons x r ih =>
    simp only [Rows.uptoBulkAll, List.length_cons]
    have := Bulk.one_le x
    omega
theorem open_bytes {H : Type} {enc : TypeId × Value → H} {w : World} {a : Option Addr} {n cap : Nat} {d : DataW H} {p : List MemPlace} (h : DataW.Trod enc Try.prog w 0 (fun _ => true) true 43 (.slice a n cap) d p) (hbk : Rows.uptoBulk d ≤ 1048576) :
    ∃ l : Nm, Bytes w a n cap l ∧ n ≤ 1048576 := by
  obtain ⟨fuel, hf⟩ := h
  have hf' : DataW.trod enc Try.prog w 0 (fun _ => true) true fuel 43 [.slice a n cap] = some (d, p) := by simpa [Value.cells] using hf
  obtain ⟨l, hl⟩ := row_of_trod byteAt 1 (by decide) Try.underlying43 (e := 5) (by kernel_rfl) (fun ad cs fuel y h hd hs => by
    obtain ⟨z, hz, hw⟩ := each_int Try.underlying5 h hd hs
    exact ⟨UInt8.ofNat z.toNat, by unfold byteAt; rw [hz, ← u8_of_wf hw]⟩) hf'
  refine ⟨l, hl, ?_⟩
  rcases DataW.trod_slice Try.underlying43 hf' with ⟨h0, _⟩ | ⟨ad, len, cap', elems, rest, m, _, hcs, hx, _, _, _, hlen, _⟩
  · simp at h0; omega
  · simp at hcs
    obtain ⟨rfl, rfl, rfl⟩ := hcs
    have e : d = .slice (elems.map (·.1)) (rest.map (·.1)) := congrArg Prod.fst hx
    subst e
    have h1 := bulk_len (elems.map (·.1))
    rw [List.length_map] at h1
    have h2 : Rows.uptoBulkAll (elems.map (·.1)) + Rows.uptoBulkAll (rest.map (·.1)) + 1 ≤ 1048576 := hbk
    omega
end Go.Proofs.Ytnmlnaoljkhjeaa
