/-
  The library's texts and numbers, as contracts: numerals, joined rows, numbers that are read. Conditions: the library's tables and errors read as they are laid.
-/
import Derived.Test.YtchmpkgjjkfjcaaDoorEnWalks8
import Derived.Test.YtchmpkgjjkfjcaaDoorShelf
import Derived.Lib.LaidTab
import Derived.Lib.AtoiAll
set_option linter.unusedVariables false
set_option maxRecDepth 100000
namespace Go.Proofs.YtchmpkgjjkfjcaaDoor
open Go.RowKit Base

def Tb (w : World) : Prop := Lib.TabIs Tryd.prog w "internal/strconv.uint64pow10" .u64 Lib.pow10Tab
theorem tab_var : ∃ g, Tryd.prog.globalNamed "internal/strconv.uint64pow10" = some g := ⟨1, by kernel_rfl⟩
theorem Tb.below {w w' : World} (h : Tb w) (hb : Below w.heap.size w w') : Tb w' := by
  obtain ⟨g, hg⟩ := tab_var
  unfold Tb Lib.TabIs World.var? at h ⊢
  rw [hg] at h ⊢
  simp only [Option.bind_some] at h ⊢
  have hlt : g < w.heap.size := by
    rcases Nat.lt_or_ge g w.heap.size with h' | h'
    · exact h'
    · rw [Array.getElem?_eq_none h'] at h; cases h
  rw [hb.block g hlt]
  exact h
theorem below_grow (w : World) (k : Nat) (os : Array Obj) : Below w.heap.size w (Sort.grow (w.drewN k) os) := by
  refine ⟨rfl, rfl, rfl, ?_, fun j hj => ?_⟩
  · show w.heap.size ≤ (w.heap ++ os).size
    rw [Array.size_append]; omega
  · show (w.heap ++ os)[j]? = _
    rw [Array.getElem?_append_left hj]
theorem en_itoa_calls (W : World) (n : Int) (hn : -9223372036854775808 ≤ n ∧ n ≤ 9223372036854775807) (ht : Tb W) : Calls Tryd.prog 27 #[.int .i64 n] W fun e w' => e = .returned (.string (str (Lib.itoa n))) ∧ Below W.heap.size W w' := by
  refine (Tryd.strconv_Itoa n hn.1 hn.2 W ht).mono ?_
  rintro e w' ⟨rfl, k, os, rfl⟩
  exact ⟨rfl, below_grow W k os⟩
theorem join_calls (W : World) (a : Option Addr) (n c : Nat) (l : List Nm) (sep : Nm) (h : Sts W a n c l) (hl : n ≤ 100000) (hj : (Lib.join l sep).length ≤ 10000000) :
    Calls Tryd.prog 28 #[.slice a n c, .string (str sep)] W fun e w' => e = .returned (.string (str (Lib.join l sep))) ∧ Below W.heap.size W w' := by
  obtain ⟨rfl, hnc, hcm, b, off, h4, h5⟩ := h
  cases l with
  | nil =>
    refine (Tryd.strings_Join_none a c (str sep) W).mono ?_
    rintro e w' ⟨rfl, rfl⟩
    exact ⟨rfl, Below.refl _ _⟩
  | cons x r =>
    rcases h4 with h4 | h4
    · simp at h4
    subst h4
    have hcell : ∀ (j : Nat) (s : ByteArray), ((x :: r).map str)[j]? = some s → W.cell? ⟨b, off + j, none⟩ = some (.string s) := by
      intro j s hj
      rw [List.getElem?_map] at hj
      obtain ⟨y, hy, rfl⟩ := Option.map_eq_some_iff.1 hj
      obtain ⟨hj2, rfl⟩ := List.getElem?_eq_some_iff.1 hy
      have := h5 j hj2 0 _ rfl
      simpa using this
    have hb : b < W.heap.size := World.block_lt_of_cell? W _ (hcell 0 (str x) (by simp))
    have hmap : ((x :: r).map str).map (·.data.toList) = x :: r := by
      rw [List.map_map]
      conv => rhs; rw [← List.map_id (x :: r)]
      apply List.map_congr_left
      intro y _
      exact str_data y
    have hsep : (str sep).data.toList = sep := str_data sep
    have H := Tryd.strings_Join b off c ((x :: r).map str) (str sep) W hcell hb (by rw [List.length_map]; omega) (by rw [List.length_map]; exact hnc) (by rw [hmap, hsep]; omega)
    rw [hmap, hsep, List.length_map] at H
    exact H
/-- A variable of the library that holds an error. -/
def Er (name : String) (w : World) : Prop := ∃ (t : TypeId) (p : Value), w.var? Tryd.prog name = some #[.iface t p]
theorem er_below {name : String} {g : Nat} (hg : Tryd.prog.globalNamed name = some g) {w w' : World} (h : Er name w) (hb : Below w.heap.size w w') : Er name w' := by
  obtain ⟨t, p, h⟩ := h
  refine ⟨t, p, ?_⟩
  unfold World.var? at h ⊢
  rw [hg] at h ⊢
  simp only [Option.bind_some] at h ⊢
  have hlt : g < w.heap.size := by
    rcases Nat.lt_or_ge g w.heap.size with h' | h'
    · exact h'
    · rw [Array.getElem?_eq_none h'] at h; cases h
  rw [hb.block g hlt]
  exact h
/-- What of the library lies where it was laid. -/
structure Lw (w : World) : Prop where
  tab : Tb w
  syn : Er "strconv.ErrSyntax" w
  rng : Er "strconv.ErrRange" w
theorem Lw.below {w w' : World} (h : Lw w) (hb : Below w.heap.size w w') : Lw w' :=
  ⟨h.tab.below hb, er_below (g := 2) (by kernel_rfl) h.syn hb, er_below (g := 3) (by kernel_rfl) h.rng hb⟩
theorem below_bytes (w : World) (e : TypeId) (s : ByteArray) : Below w.heap.size w (Lib.bytesWorld w e s) :=
  ⟨rfl, rfl, rfl, by rw [Lib.bytesWorld_size]; omega, fun j hj => Lib.bytesWorld_at_old w e s j hj⟩
def AtoiEnd (s : Nm) (n : Int) (err : Value) : Prop := (Lib.atoiAll s = .ok n ∧ err = .nilIface) ∨ ((∀ v, Lib.atoiAll s ≠ .ok v) ∧ ∃ (t : TypeId) (p : Value), err = .iface t p)
theorem en_atoi_calls (W : World) (s : Nm) (hs : s.length ≤ 281474976710656) (hL : Lw W) : Calls Tryd.prog 49 #[.string (str s)] W fun e w' => ∃ n err, e = .returned (.tuple #[.int .i64 n, err]) ∧ AtoiEnd s n err ∧ Below W.heap.size W w' := by
  have hsz : (str s).size = s.length := rfl
  rcases hA : Lib.atoiAll s with v | _ | _
  · refine (Tryd.strconv_Atoi_ok (str s) (by omega) v (by rw [str_data]; exact hA) W).mono ?_
    rintro e w' ⟨rfl, hw⟩
    refine ⟨v, .nilIface, rfl, .inl ⟨hA, rfl⟩, ?_⟩
    rcases hw with rfl | ⟨t, rfl⟩
    · exact Below.refl _ _
    · exact below_bytes W _ t
  · obtain ⟨tp, p, hv⟩ := hL.syn
    refine (Tryd.strconv_Atoi_syntax_var (str s) (by omega) (by rw [str_data]; exact hA) tp p W hv).mono ?_
    rintro e w' ⟨N, rfl, _, _, hb⟩
    exact ⟨_, _, rfl, .inr ⟨(fun v h => by rw [hA] at h; cases h), _, _, rfl⟩, hb⟩
  · obtain ⟨tp, p, hv⟩ := hL.rng
    refine (Tryd.strconv_Atoi_range_var (str s) (by omega) (by rw [str_data]; exact hA) tp p W hv).mono ?_
    rintro e w' ⟨N, rfl, _, _, hb⟩
    exact ⟨_, _, rfl, .inr ⟨(fun v h => by rw [hA] at h; cases h), _, _, rfl⟩, hb⟩
end Go.Proofs.YtchmpkgjjkfjcaaDoor
