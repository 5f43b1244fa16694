/-
  A table as a text. Conditions: the row is not too long; the library's table of powers reads as it is laid.
-/
import Derived.Test.YtghjmhhchhgppaaDoorFdWalks2
import Derived.Test.YtghjmhhchhgppaaDoorShelf
import Derived.Lib.LaidTab
set_option linter.unusedVariables false
set_option maxRecDepth 100000
namespace Go.Proofs.YtghjmhhchhgppaaDoor
open Go.RowKit Base

def Tb (w : World) : Prop := Lib.TabIs Tryd.prog w "internal/strconv.uint64pow10" .u64 Lib.pow10Tab
theorem tab_var : ∃ g, Tryd.prog.globalNamed "internal/strconv.uint64pow10" = some g := ⟨0, by kernel_rfl⟩
theorem Tb.below {w w' : World} (h : Tb w) (hb : Below w.heap.size w w') : Tb w' := by
  obtain ⟨g, hg⟩ := tab_var
  unfold Tb Lib.TabIs World.var? at h ⊢
  rw [hg] at h ⊢
  simp only [Option.bind_some] at h ⊢
  have hlt : g < w.heap.size := by
    rcases Nat.lt_or_ge g w.heap.size with h' | h'
    · exact h'
    · rw [Array.getElem?_eq_none h'] at h; cases h
  rw [hb.block g hlt]
  exact h
theorem below_grow (w : World) (k : Nat) (os : Array Obj) : Below w.heap.size w (Sort.grow (w.drewN k) os) := by
  refine ⟨rfl, rfl, rfl, ?_, fun j hj => ?_⟩
  · show w.heap.size ≤ (w.heap ++ os).size
    rw [Array.size_append]; omega
  · show (w.heap ++ os)[j]? = _
    rw [Array.getElem?_append_left hj]
theorem fd_itoa_calls (W : World) (n : Int) (hn : I64n n) (ht : Tb W) : Calls Tryd.prog 21 #[.int .i64 n] W fun e w' => e = .returned (.string (str (Lib.itoa n))) ∧ Below W.heap.size W w' := by
  refine (Tryd.strconv_Itoa n hn.1 hn.2 W ht).mono ?_
  rintro e w' ⟨rfl, k, os, rfl⟩
  exact ⟨rfl, below_grow W k os⟩
theorem fd_format_calls (W : World) (n : Int) (hn : I64n n) (ht : Tb W) : Calls Tryd.prog 22 #[.int .i64 n, .int .i64 10] W fun e w' => e = .returned (.string (str (Lib.itoa n))) ∧ Below W.heap.size W w' := by
  refine (Tryd.strconv_FormatInt_10 n hn.1 hn.2 W ht).mono ?_
  rintro e w' ⟨rfl, k, os, rfl⟩
  exact ⟨rfl, below_grow W k os⟩
def strC (s : List UInt8) : List Value := [.string (str s)]
theorem strC_len (s : List UInt8) : (strC s).length = 1 := rfl
theorem strC_one (s : List UInt8) : ∀ u ∈ strC s, u.oneCell' = true := by intro u hu; simp [strC] at hu; rw [hu]; rfl
abbrev OwnS (w : World) (base : Nat) (v : Value) (l : List (List UInt8)) : Prop := w.ownsRow base 9 1 v l.length (l.flatMap strC)
theorem info_strS : (Tryd.prog.info? 9).map (fun i => (i.zero, i.size, i.bytes)) = some (some (.string ⟨#[]⟩), 1, 16) := by kernel_rfl
theorem pair_f0 (b o : Nat) (w : World) : (Instr.fieldAt 44 (.pointer (some ⟨b, o, none⟩)) 0).run Tryd.prog w = .ok (.pointer (some ⟨b, o, none⟩)) w := by rfl
theorem pair_f1 (b o : Nat) (w : World) : (Instr.fieldAt 44 (.pointer (some ⟨b, o, none⟩)) 1).run Tryd.prog w = .ok (.pointer (some ⟨b, o + 1, none⟩)) w := by rfl
theorem load_intP {w : World} {ad : Addr} {v : Value} (h : w.cell? ad = some v) : (Instr.loadAt 3 (.pointer (some ad))).run Tryd.prog w = .ok v w := Ap.load_plainP (by simp [isAgg]) h
theorem load_i64P {w : World} {ad : Addr} {v : Value} (h : w.cell? ad = some v) : (Instr.loadAt 2 (.pointer (some ad))).run Tryd.prog w = .ok v w := Ap.load_plainP (by simp [isAgg]) h
theorem str_lit (l : List UInt8) : (⟨l.toArray⟩ : ByteArray) = str l := rfl
theorem join_calls (W : World) (a : Option Addr) (n c : Nat) (l : List (List UInt8)) (h : RowOf (Ap.cellsAt strC) 1 W a n c l) (hl : n ≤ 100000) (hj : (Lib.join l [32]).length ≤ 10000000) :
    Calls Tryd.prog 23 #[.slice a n c, .string (str [32])] W fun e w' => e = .returned (.string (str (Lib.join l [32]))) ∧ Below W.heap.size W w' := by
  obtain ⟨rfl, hnc, hcm, b, off, h4, h5⟩ := h
  cases l with
  | nil =>
    refine (Tryd.strings_Join_none a c (str [32]) W).mono ?_
    rintro e w' ⟨rfl, rfl⟩
    exact ⟨rfl, Below.refl _ _⟩
  | cons x r =>
    rcases h4 with h4 | h4
    · simp at h4
    subst h4
    have hcell : ∀ (j : Nat) (s : ByteArray), ((x :: r).map str)[j]? = some s → W.cell? ⟨b, off + j, none⟩ = some (.string s) := by
      intro j s hj
      rw [List.getElem?_map] at hj
      obtain ⟨y, hy, rfl⟩ := Option.map_eq_some_iff.1 hj
      obtain ⟨hj2, rfl⟩ := List.getElem?_eq_some_iff.1 hy
      have := h5 j hj2 0 _ rfl
      simpa using this
    have hb : b < W.heap.size := World.block_lt_of_cell? W _ (hcell 0 (str x) (by simp))
    have hmap : ((x :: r).map str).map (·.data.toList) = x :: r := by
      rw [List.map_map]
      conv => rhs; rw [← List.map_id (x :: r)]
      apply List.map_congr_left
      intro y _
      exact str_data y
    have hsep : (str [32]).data.toList = [32] := str_data _
    have H := Tryd.strings_Join b off c ((x :: r).map str) (str [32]) W hcell hb (by rw [List.length_map]; omega) (by rw [List.length_map]; exact hnc) (by rw [hmap, hsep]; omega)
    rw [hmap, hsep, List.length_map] at H
    exact H
end Go.Proofs.YtghjmhhchhgppaaDoor
