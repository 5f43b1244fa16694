/-
  What the statements' bound gives: a row of texts that came in is not longer than the bound. Conditions: as each law says.
-/
import Derived.Test.YtchmpkgjjkfjcaaDoorRows
import Derived.Test.YtchmpkgjjkfjcaaDoorOpen
import Derived.Test.YtchmpkgjjkfjcaaDoorEnStrs
set_option linter.unusedVariables false
namespace Go.Proofs.YtchmpkgjjkfjcaaDoor.Bulk
open Go.ChangeShapes Go.WideShapes Go.ChangeAt Go.RowKit Base Opn

def strAt (w : World) (b o : Nat) (s : List UInt8) : Prop := w.cell? ⟨b, o, none⟩ = some (.string (str s))
theorem one_le {H : Type} (d : DataW H) : 1 ≤ Rows.uptoBulk d := by
  cases d with
  | lit l => cases l <;> simp [Rows.uptoBulk]
  | nil => simp [Rows.uptoBulk]
  | ptr d => simp [Rows.uptoBulk]
  | slice elems spare => simp [Rows.uptoBulk]
  | agg parts => simp [Rows.uptoBulk]
  | iface t d => simp [Rows.uptoBulk]
  | map entries => simp [Rows.uptoBulk]
  | held h => simp [Rows.uptoBulk]
theorem part_le {H : Type} {d : DataW H} {l : List (DataW H)} (h : d ∈ l) : Rows.uptoBulk d ≤ Rows.uptoBulkAll l := by
  induction l with
  | nil => cases h
  | cons x r ih =>
    simp only [Rows.uptoBulkAll]
    cases List.mem_cons.1 h with
    | inl e => subst e; omega
    | inr e => have := ih e; omega
theorem bound {H : Type} {l : List (DataW H)} (hk : Rows.uptoSmall H l = true) : Rows.uptoBulkAll l ≤ 1048576 := of_decide_eq_true hk
theorem bulk_strs {H : Type} (l : List ByteArray) : Rows.uptoBulkAll (strs (H := H) l) = (l.map fun s => s.size + 1).sum := by
  induction l with
  | nil => rfl
  | cons s r ih =>
    have e : s.data.toList.length = s.size := by rw [Array.length_toList]; rfl
    simp only [strs, List.map_cons, Rows.uptoBulkAll, Rows.uptoBulk, List.sum_cons, e] at ih ⊢
    rw [ih]

section
variable {H : Type} {enc : TypeId × Value → H} {P : Program} {w : World}
/-- A row of texts, with its bulk. -/
theorem strs_of_Trod {t e : TypeId} (ht : P.underlying t = some (.slice e)) (he : P.underlying e = some .string) (hc : P.cellsOf e = 1) {a : Option Addr} {n cap : Nat} {d : DataW H} {p : List MemPlace}
    (h : DataW.Trod enc P w 0 (fun _ => true) true t (.slice a n cap) d p) : ∃ tl : List (List UInt8), RowOf strAt 1 w a n cap tl ∧ (tl.map fun s => s.length + 1).sum ≤ Rows.uptoBulk d := by
  obtain ⟨fuel, hf⟩ := h
  rcases open_strings ht he hc hf with ⟨hcs, hx⟩ | ⟨x, len, c, ss, hcs, _, hl, hm, hz, hx, hcell, hws⟩
  · simp [Value.cells] at hcs
    obtain ⟨rfl, rfl, rfl⟩ := hcs
    exact ⟨[], RowOf.nil, by simp⟩
  · simp [Value.cells] at hcs
    obtain ⟨rfl, rfl, rfl⟩ := hcs
    have hz' : ss.length = cap := by simpa using hz
    refine ⟨(ss.take n).map fun s => s.data.toList, ⟨by simp; omega, hl, hm, x.block, x.off, ?_, fun k hk => ?_⟩, ?_⟩
    · rcases Nat.eq_zero_or_pos n with h0 | h0
      · exact .inl h0
      · right
        have h1 := hcell 0 (by omega)
        have hsp := World.cell?_spot h1
        obtain ⟨b, o, sp⟩ := x
        have : sp = none := by simpa [Addr.add] using hsp
        subst this
        rfl
    · have hk' : k < n := by simp at hk; omega
      have h1 := hcell k (by omega)
      have h0 := hcell 0 (by omega)
      have hsp := World.cell?_spot h0
      obtain ⟨b, o, sp⟩ := x
      have : sp = none := by simpa [Addr.add] using hsp
      subst this
      rw [Addr.add_lit] at h1
      unfold strAt
      simp only [Nat.mul_one]
      rw [h1]
      have hks : k < ss.length := by omega
      simp [List.getD, hks, str_of]
    · have e1 : d = .slice (strs (ss.take n)) (strs (ss.drop n)) := congrArg Prod.fst hx
      subst e1
      have h2 := bulk_strs (H := H) (ss.take n)
      have e2 : (((ss.take n).map fun s => s.data.toList).map fun s => s.length + 1).sum = ((ss.take n).map fun s => s.size + 1).sum := by
        rw [List.map_map]
        congr 1
      rw [e2, ← h2]
      simp only [Rows.uptoBulk]
      omega
end
theorem sum_mem (l : List (List UInt8)) {s : List UInt8} (h : s ∈ l) : s.length + 1 ≤ (l.map fun s => s.length + 1).sum := by
  induction l with
  | nil => cases h
  | cons x r ih =>
    rw [List.map_cons, List.sum_cons]
    rcases List.mem_cons.1 h with rfl | h
    · omega
    · have := ih h; omega
theorem sts_of_str {w : World} {a : Option Addr} {n cap : Nat} {tl : List Nm} (h : RowOf strAt 1 w a n cap tl) : Sts w a n cap tl := by
  obtain ⟨h1, h2, h3, b, off, h4, h5⟩ := h
  refine ⟨h1, h2, h3, b, off, h4, fun k hk j u hu => ?_⟩
  have hj : j = 0 := by
    have := (List.getElem?_eq_some_iff.1 hu).1
    simp [stC] at this
    exact this
  subst hj
  cases hu
  have := h5 k hk
  simpa [strAt] using this
end Go.Proofs.YtchmpkgjjkfjcaaDoor.Bulk
