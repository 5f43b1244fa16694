/-
  Store: small laws on boxes of states, as State's texts have them. Conditions: as each law says.
-/
import Derived.Test.YtmhofdoifgfjfaaSoWalks1
set_option linter.unusedVariables false
set_option maxRecDepth 100000
namespace Go.Proofs.Ytmhofdoifgfjfaa
open Go.RowKit Base

theorem there_cut {w : World} {b : Nat} {us : List Value} {t : TypeId} (h : Cut b us t w) (n : Nat) (hl : n ≤ us.length) : w.there b 0 n := fun j hj => ⟨by rw [Nat.zero_add, h.cell, List.getElem?_eq_getElem (by omega)]; rfl, by rw [Nat.zero_add]; exact h.frozen j⟩
theorem set_cut {w : World} {b : Nat} {us vs : List Value} {t : TypeId} (h : Cut b us t w) (hl : vs.length = us.length) : Cut b vs t (w.setCells b 0 vs) := by
  have := Sl.heap_setCells b t vs 0 w us h (by omega)
  rw [splice_full hl] at this
  exact this
theorem wpList_load_g {P : Program} {ops : Array Oper} {rest : List Oper} {op : Oper} {a : Act} {w : World} {Q : Exit → Act → World → Prop} (hw : Region.wanted op (yielded ops a.tmps) = true) (ty : TypeId) (x : Operand) (ho : op.op = .load ty x)
    (b o : Nat) (hx : a.eval x = .pointer (some ⟨b, o, none⟩)) (cs : List Value) (d : TypeDesc) (hc : w.rangeAt b o cs) (hu : P.underlying ty = some d) (hd : d.isRow = true) (hi : (P.info? ty).map (·.size) = some cs.length)
    (h : wpList P ops Q rest (a.put op.dst (.agg cs.toArray)) w) : wpList P ops Q (op :: rest) a w := by
  unfold wpList
  rw [if_pos hw]
  exact .inl (wp_load_mid ty x ho b o hx cs d hc hu hd hi h)
theorem cut_range {w : World} {b : Nat} {vs : List Value} {t : TypeId} (h : Cut b vs t w) : w.rangeAt b 0 vs := fun j v hv => by rw [Nat.zero_add, h.cell]; exact hv
theorem cut_below {W W' : World} {b : Nat} {us : List Value} {t : TypeId} (h : Cut b us t W) (hb : Below W.heap.size W W') : Cut b us t W' := (hb.block b h.lt).trans h
theorem own_other {w w' : World} {base : Nat} {e : TypeId} {k : Nat} {v : Value} {n : Nat} {xs : List Value} {q : Option Nat} (h : w.ownsRow base e k v n xs) (hg : w.grownBy w' q) (hq : ∀ j, q = some j → v.ownBlock ≠ some j) : w'.ownsRow base e k v n xs := by
  refine ⟨h.1, ?_⟩
  rcases h.2 with h2 | ⟨g, cap, cur, rfl, h2, h3, h4⟩
  · exact .inl h2
  · exact .inr ⟨g, cap, cur, rfl, h2, (hg.block g (Array.getElem?_eq_some_iff.1 h3).1 (fun e => hq g e.symm rfl)).trans h3, h4⟩
abbrev Z29 : Array Value := #[.slice none 0 0, .slice none 0 0, .int .i64 0, .string ⟨#[]⟩, .slice none 0 0, .slice none 0 0, .slice none 0 0, .slice none 0 0, .slice none 0 0, .int .i64 0, .int .i64 0, .int .i64 0, .string ⟨#[]⟩, .slice none 0 0, .int .i64 0, .int .i64 0, .int .i64 0, .int .i64 0, .string ⟨#[]⟩, .slice none 0 0, .int .i64 0, .slice none 0 0, .int .i64 0, .int .i64 0, .int .i64 0, .bool false, .bool false, .bool false, .int .i64 0]
theorem new_box (w : World) : ∃ t w', w.alloc (.cells Z29 stT) = w' ∧ w.heap.size = t ∧ Cut t stZ stT w' ∧ Below w.heap.size w w' := ⟨_, _, rfl, rfl, heap_alloc_new w _, (Below.refl w.heap.size w).alloc (Nat.le_refl _) _⟩
theorem results_cell1 {fn : Func} {t : Tmp} {ty : TypeId} (h : fn.results = #[.cell t ty]) (tmps : Array Value) (P : Program) (w : World) (b : Nat) (v : Value) (ht : tmps.getD t undef = .pointer (some ⟨b, 0, none⟩))
    (hl : (loadVar ty ⟨b, 0, none⟩).run P w = .ok v w) : (results fn tmps).run P w = .ok v w := by
  have ht' : tmps[t]?.getD undef = .pointer (some ⟨b, 0, none⟩) := by simpa using ht
  simp [results, h, ht', asAddr, hl]
theorem loadv_cut {w : World} {b : Nat} {ty : TypeId} {us : List Value} (hc : Cut b us ty w) (hu : (Try.prog.underlying ty).map TypeDesc.isRow = some true) (hi : (Try.prog.info? ty).map (fun i => i.size) = some us.length) : (loadVar ty ⟨b, 0, none⟩).run Try.prog w = .ok (.agg us.toArray) w := by
  obtain ⟨d, h1, h2⟩ := Option.map_eq_some_iff.1 hu
  exact run_loadVar_mid w b 0 ty us d (cut_range hc) h1 h2 hi
end Go.Proofs.Ytmhofdoifgfjfaa
