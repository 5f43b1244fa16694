/-
  Unparse: what must lie there, as the row lists it. Conditions: as each law says.
-/
import Derived.Test.YtiklkhbfilbpeaaGreatDoorSkGSyG
import Derived.Test.YtiklkhbfilbpeaaGreatDoorSkOpen
import Derived.Test.YtiklkhbfilbpeaaGreatDoorRows
import Derived.Lib.LaidTab
import Derived.WalkKit
import Derived.ProofKit
import Derived.OpenShut
import Derived.ShutString
import Derived.LaidSub
import Derived.Stop.LaidErr
set_option linter.unusedVariables false
set_option maxRecDepth 100000
namespace Go.Proofs.YtiklkhbfilbpeaaGreatDoor.UnOpen
open Go.RowKit Base Lx Opn Sx Sy
open Go.ChangeShapes Go.WideShapes Go.ChangeAt
theorem cellsStr : Tryz.prog.cellsOf 9 = 1 := by kernel_rfl
theorem cellsTab : Tryz.prog.cellsOf 96 = 11 := by kernel_rfl
theorem str_of' (s : ByteArray) : str s.data.toList = s := by obtain ⟨⟨l⟩⟩ := s; rfl
theorem tab_cells {H : Type} {enc : TypeId × Value → H} {w : World} {base : Nat} {sp : Nat → Bool} {held : Bool} {fuel : Nat} {cs : List Value} {ls : List Nm} {p : List MemPlace}
    (h : DataW.trod enc Tryz.prog w base sp held fuel 96 cs = some (.agg (ls.map fun l => .lit (.string l)), p)) : cs = ls.map fun l => Value.string (str l) := by
  obtain ⟨xs, m, _, hx, hl, hn, hf⟩ := DataW.trod_array Tryz.underlying96 h
  rw [cellsTab] at hl
  have hxs : xs.map (·.1) = ls.map fun l => (DataW.lit (.string l) : DataW H) := by
    have := congrArg Prod.fst hx
    simp only [DataW.agg.injEq] at this
    exact this.symm
  have hzl : ls.length = 11 := by have := congrArg List.length hxs; simp at this; omega
  apply List.ext_getElem?
  intro i
  by_cases hi : i < 11
  · have h0 := hf i hi
    rw [cellsStr] at h0
    rw [List.getElem?_eq_getElem (by omega)] at h0
    obtain ⟨s, hc, hs, _⟩ := DataW.trod_string Tryz.underlying9 h0
    have h1 : cs[i]? = some (.string s) := by
      have := congrArg (·[0]?) hc
      simpa [List.getElem?_take, List.getElem?_drop] using this
    have h2 : (xs.map (·.1))[i]? = some (DataW.lit (.string s.data.toList) : DataW H) := by rw [List.getElem?_map, List.getElem?_eq_getElem (by omega), hs]; rfl
    rw [hxs, List.getElem?_map, List.getElem?_eq_getElem (by omega)] at h2
    simp only [Option.map_some, Option.some.injEq, DataW.lit.injEq, Lit.string.injEq] at h2
    rw [h1, List.getElem?_map, List.getElem?_eq_getElem (by omega), Option.map_some, h2, str_of']
  · rw [List.getElem?_eq_none (by omega), List.getElem?_eq_none (by simp; omega)]
theorem sig_at {W : World} (h : laidMetH Tryz.prog Rows.unparseFewRow.laid W) : SigT W := by
  have h2 := h.filter fun x => x.1 == "kinetoscope/lexer.signs"
  have h3 : laidMet Tryz.prog (("kinetoscope/lexer.signs", .agg (signL.map fun l => .lit (.string l))) :: []) W := h2
  obtain ⟨ps, ⟨g', t', cs, fuel, p, q, hg', ht', hvar, hd, _, _⟩, _⟩ := h3
  obtain rfl := Option.some.inj ((show Tryz.prog.globalNamed "kinetoscope/lexer.signs" = some gSig by kernel_rfl).symm.trans hg')
  obtain rfl := Option.some.inj ((show (Tryz.prog.globals[gSig]?).map (·.type) = some 96 by kernel_rfl).symm.trans ht')
  have hc := tab_cells hd
  simp only [World.var?, hg', Option.bind_some] at hvar
  split at hvar
  · rename_i cs' t fr hh
    injection hvar with e
    subst e
    refine ⟨t, fr, ?_⟩
    rw [hh, ← hc]
  · cases hvar
theorem row_cells {w : World} {sp : Nat → Bool} {held : Bool} {fuel : Nat} {cs : List Value} {ls : List Nm} {r : List (DataW Unit)} {p : List MemPlace} (h : DataW.trod (fun _ => ()) Tryz.prog w 0 sp held fuel 33 cs = some (.slice (ls.map fun l => .lit (.string l)) r, p)) (h0 : 0 < ls.length) :
    ∃ g o c, cs = [.slice (some ⟨g, o, none⟩) ls.length c] ∧ ∀ j (hj : j < ls.length), w.cell? ⟨g, o + j, none⟩ = some (.string (str ls[j])) := by
  rcases DataW.trod_slice Tryz.underlying33 h with ⟨_, hx⟩ | ⟨ad, len, cap, elems, rest, n, _, hcs, hx, _, _, _, hlen, hel, _, _⟩
  · exact absurd (congrArg Prod.fst hx) (by intro h; cases h)
  · have hxe : ls.map (fun l => (DataW.lit (.string l) : DataW Unit)) = elems.map (·.1) := by
      have := congrArg Prod.fst hx
      simp only [DataW.slice.injEq] at this
      exact this.1
    have hl : ls.length = len := by have := congrArg List.length hxe; simp at this; omega
    have at_ : ∀ j (hj : j < ls.length), (j * 1 = 0 → ad.spot = none) ∧ (ad.add (j * 1)).spot = none ∧ w.cell? ⟨(ad.add (j * 1)).block, (ad.add (j * 1)).off, none⟩ = some (.string (str ls[j])) := by
      intro j hj
      have h1 := hel j (by omega)
      rw [cellsStr] at h1
      rw [List.getElem?_eq_getElem (by omega), Option.bind_eq_some_iff] at h1
      obtain ⟨cs2, hc2, hd2⟩ := h1
      obtain ⟨hs1, hs2, hs3⟩ := cells_at hc2 (by decide)
      obtain ⟨s, hc, hs, _⟩ := DataW.trod_string Tryz.underlying9 hd2
      subst hc
      have h2 : (elems.map (·.1))[j]? = some (DataW.lit (.string s.data.toList) : DataW Unit) := by rw [List.getElem?_map, List.getElem?_eq_getElem (by omega), hs]; rfl
      rw [← hxe, List.getElem?_map, List.getElem?_eq_getElem hj] at h2
      simp only [Option.map_some, Option.some.injEq, DataW.lit.injEq, Lit.string.injEq] at h2
      have h3 := hs3 0 (by simp)
      refine ⟨fun h0 => ?_, hs1, ?_⟩
      · rw [h0] at hs1; simpa [Addr.add] using hs1
      · rw [h2, str_of']
        simpa using h3
    obtain ⟨b, o, sp⟩ := ad
    have hsp : sp = none := (at_ 0 h0).1 (by decide)
    subst hsp
    refine ⟨b, o, cap, by rw [hcs, hl], fun j hj => ?_⟩
    have h4 := (at_ j hj).2.2
    rw [Addr.add_lit] at h4
    simpa using h4
theorem res_at {W : World} (h : laidMetH Tryz.prog Rows.unparseFewRow.laid W) : ∃ g o c, W.cell? ⟨gRes, 0, none⟩ = some (.slice (some ⟨g, o, none⟩) resL.length c) ∧ g < W.heap.size ∧ ∀ j (hj : j < resL.length), W.cell? ⟨g, o + j, none⟩ = some (.string (str resL[j])) := by
  have h2 := h.filter fun x => x.1 == "kinetoscope/syntax.reserved"
  have h3 : laidMet Tryz.prog (("kinetoscope/syntax.reserved", .slice (resL.map fun l => .lit (.string l)) []) :: []) W := h2
  obtain ⟨ps, ⟨g', t', cs, fuel, p, q, hg', ht', hvar, hd, _, _⟩, _⟩ := h3
  obtain rfl := Option.some.inj ((show Tryz.prog.globalNamed "kinetoscope/syntax.reserved" = some gRes by kernel_rfl).symm.trans hg')
  obtain rfl := Option.some.inj ((show (Tryz.prog.globals[gRes]?).map (·.type) = some 33 by kernel_rfl).symm.trans ht')
  obtain ⟨g, o, c, hcs, hc⟩ := row_cells hd (by decide)
  refine ⟨g, o, c, ?_, ?_, hc⟩
  · have h4 := World.var?_cell hg' hvar 0
    rw [h4]
    have : cs[0]? = cs.toList[0]? := by simp
    rw [this, hcs]
    rfl
  · have h5 := hc 0 (by decide)
    unfold World.cell? at h5
    rcases Nat.lt_or_ge g W.heap.size with h6 | h6
    · exact h6
    · simp [Array.getElem?_eq_none h6] at h5
theorem cellsEs : Tryz.prog.cellsOf 230 = 1 := by kernel_rfl
theorem star : "*" ++ "errors.errorString" = "*errors.errorString" := by decide
theorem row_es (u : TypeId) (h : Tryz.prog.typeName? 3 u = some "*errors.errorString") : u = 228 :=
  typeName_ptr_named (nm := "errors.errorString") (by rw [star]; kernel_rfl) (by kernel_rfl) (by decide) u (by rw [star]; exact h)
theorem rng_at {W : World} (h : laidMetH Tryz.prog Rows.unparseFewRow.laid W) : ∃ tp p, W.var? Tryz.prog "strconv.ErrRange" = some #[.iface tp p] := by
  have h2 := h.filter fun x => x.1 == "strconv.ErrRange"
  have h3 : laidMet Tryz.prog (("strconv.ErrRange", .iface "*errors.errorString" (.ptr (.agg [.lit (.string [118, 97, 108, 117, 101, 32, 111, 117, 116, 32, 111, 102, 32, 114, 97, 110, 103, 101])]))) :: []) W := h2
  obtain ⟨a0, s0, hv0, _, _, _⟩ := laid_sentinel h3 (g := 9) (by kernel_rfl) (ti := 90) (by kernel_rfl) Tryz.underlying90 row_es Tryz.underlying228 Tryz.underlying230 rfl rfl Tryz.underlying9 cellsEs cellsStr
  exact ⟨_, _, hv0⟩
theorem lt_of_cell {W : World} {g o : Nat} {v : Value} (h : W.cell? ⟨g, o, none⟩ = some v) : g < W.heap.size := by
  unfold World.cell? at h
  rcases Nat.lt_or_ge g W.heap.size with h6 | h6
  · exact h6
  · simp [Array.getElem?_eq_none h6] at h
theorem gl_at {W : World} (h : laidMetH Tryz.prog Rows.unparseFewRow.laid W) : Gl W := by
  obtain ⟨g, o, c, h1, h2, h3⟩ := res_at h
  obtain ⟨tp, p, h4⟩ := rng_at h
  refine ⟨sig_at h, ⟨⟨g, o, c, h1, h2, h3⟩, ⟨tp, p, h4⟩, lt_of_cell h1, ?_⟩⟩
  have h5 : W.cell? ⟨gRng, 0, none⟩ = some (.iface tp p) := by
    rw [World.var?_cell gRng_at h4 0]
    rfl
  exact lt_of_cell h5
end Go.Proofs.YtiklkhbfilbpeaaGreatDoor.UnOpen
