/-
  Lexer: the table of signs, as the row lists it. Conditions: as each law says.
-/
import Derived.Test.YtahipkigpjohnaaGreatDoorLxAll
import Derived.Test.YtahipkigpjohnaaGreatDoorOpen
import Derived.Test.YtahipkigpjohnaaGreatDoorRows
import Derived.Lib.LaidTab
import Derived.WalkKit
import Derived.ProofKit
import Derived.OpenShut
import Derived.ShutString
import Derived.LaidSub
set_option linter.unusedVariables false
set_option maxRecDepth 100000
namespace Go.Proofs.YtahipkigpjohnaaGreatDoor.LxOpen
open Go.RowKit Base Lx Opn
open Go.ChangeShapes Go.WideShapes Go.ChangeAt
theorem cellsStr : Tryz.prog.cellsOf 9 = 1 := by kernel_rfl
theorem cellsTab : Tryz.prog.cellsOf 75 = 11 := by kernel_rfl
theorem str_of' (s : ByteArray) : str s.data.toList = s := by obtain ⟨⟨l⟩⟩ := s; rfl
theorem tab_cells {H : Type} {enc : TypeId × Value → H} {w : World} {base : Nat} {sp : Nat → Bool} {held : Bool} {fuel : Nat} {cs : List Value} {ls : List Nm} {p : List MemPlace}
    (h : DataW.trod enc Tryz.prog w base sp held fuel 75 cs = some (.agg (ls.map fun l => .lit (.string l)), p)) : cs = ls.map fun l => Value.string (str l) := by
  obtain ⟨xs, m, _, hx, hl, hn, hf⟩ := DataW.trod_array Tryz.underlying75 h
  rw [cellsTab] at hl
  have hxs : xs.map (·.1) = ls.map fun l => (DataW.lit (.string l) : DataW H) := by
    have := congrArg Prod.fst hx
    simp only [DataW.agg.injEq] at this
    exact this.symm
  have hzl : ls.length = 11 := by have := congrArg List.length hxs; simp at this; omega
  apply List.ext_getElem?
  intro i
  by_cases hi : i < 11
  · have h0 := hf i hi
    rw [cellsStr] at h0
    rw [List.getElem?_eq_getElem (by omega)] at h0
    obtain ⟨s, hc, hs, _⟩ := DataW.trod_string Tryz.underlying9 h0
    have h1 : cs[i]? = some (.string s) := by
      have := congrArg (·[0]?) hc
      simpa [List.getElem?_take, List.getElem?_drop] using this
    have h2 : (xs.map (·.1))[i]? = some (DataW.lit (.string s.data.toList) : DataW H) := by rw [List.getElem?_map, List.getElem?_eq_getElem (by omega), hs]; rfl
    rw [hxs, List.getElem?_map, List.getElem?_eq_getElem (by omega)] at h2
    simp only [Option.map_some, Option.some.injEq, DataW.lit.injEq, Lit.string.injEq] at h2
    rw [h1, List.getElem?_map, List.getElem?_eq_getElem (by omega), Option.map_some, h2, str_of']
  · rw [List.getElem?_eq_none (by omega), List.getElem?_eq_none (by simp; omega)]
theorem sig_at {W : World} (h : laidMetH Tryz.prog Rows.lexerLinesRow.laid W) : SigT W := by
  have h2 := h.filter fun x => x.1 == "kinetoscope/lexer.signs"
  have h3 : laidMet Tryz.prog (("kinetoscope/lexer.signs", .agg (signL.map fun l => .lit (.string l))) :: []) W := h2
  obtain ⟨ps, ⟨g', t', cs, fuel, p, q, hg', ht', hvar, hd, _, _⟩, _⟩ := h3
  obtain rfl := Option.some.inj ((show Tryz.prog.globalNamed "kinetoscope/lexer.signs" = some gSig by kernel_rfl).symm.trans hg')
  obtain rfl := Option.some.inj ((show (Tryz.prog.globals[gSig]?).map (·.type) = some 75 by kernel_rfl).symm.trans ht')
  have hc := tab_cells hd
  simp only [World.var?, hg', Option.bind_some] at hvar
  split at hvar
  · rename_i cs' t fr hh
    injection hvar with e
    subst e
    refine ⟨t, fr, ?_⟩
    rw [hh, ← hc]
  · cases hvar
end Go.Proofs.YtahipkigpjohnaaGreatDoor.LxOpen
