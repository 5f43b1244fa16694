/-
  State: what lies where while a state is packed, or unpacked. Conditions: as each law says.
-/
import Derived.Test.YtmhofdoifgfjfaaStPlain
import Derived.Test.YtmhofdoifgfjfaaGVar
import Derived.Test.YtmhofdoifgfjfaaGReg
import Derived.Test.YtmhofdoifgfjfaaSlRow
set_option linter.unusedVariables false
set_option maxRecDepth 100000
namespace Go.Proofs.Ytmhofdoifgfjfaa
open Go.RowKit Base

theorem set_other (w : World) (F j : Nat) (u : Value) (k : Nat) (hk : k ≠ F) : (w.setCell ⟨F, j, none⟩ u).heap[k]? = w.heap[k]? := Below.heap_setCell w ⟨F, j, none⟩ u k (by first | exact hk | exact hk.symm)
theorem size_set (w : World) (g o : Nat) (u : Value) : (w.setCell ⟨g, o, none⟩ u).heap.size = w.heap.size := by simp [World.setCell]
/-- A cell that is written with what it holds. -/
theorem set_same {w : World} {g o : Nat} {u : Value} (h : w.cell? ⟨g, o, none⟩ = some u) : w.setCell ⟨g, o, none⟩ u = w := by
  have hh : (w.setCell ⟨g, o, none⟩ u).heap = w.heap := by
    apply Array.ext_getElem?
    intro k
    by_cases hk : k = g
    · subst hk
      rcases hq : w.heap[k]? with _ | ob
      · rw [Array.getElem?_eq_none_iff] at hq ⊢
        simpa [World.setCell] using hq
      · cases ob with
        | cells c t fr =>
          have h1 : (w.setCell ⟨k, o, none⟩ u).heap[k]? = some (.cells (c.setIfInBounds o u) t fr) := by simp [World.setCell, Array.getElem?_modify, hq]
          rw [h1]
          have hc : c[o]? = some u := by simpa [World.cell?, hq] using h
          congr 2
          apply Array.ext_getElem?
          intro j
          by_cases hj : j = o
          · subst hj
            rw [hc]
            obtain ⟨hlt, _⟩ := Array.getElem?_eq_some_iff.1 hc
            simp [hlt]
          · rw [Array.getElem?_setIfInBounds_ne (fun e => hj e.symm)]
        | _ => simp [World.cell?, hq] at h
    · exact set_other w g o u k hk
  cases w
  simp only [World.setCell] at hh ⊢
  congr 1
theorem own_grown {w w' : World} {base : Nat} {e : TypeId} {k : Nat} {v : Value} {n : Nat} {xs : List Value} {q : Option Nat} (h : w.ownsRow base e k v n xs) (hg : w.grownBy w' q) (hq : ∀ j, q = some j → j < base) : w'.ownsRow base e k v n xs := by
  refine ⟨h.1, ?_⟩
  rcases h.2 with h2 | ⟨g, cap, cur, h1, h2, h3, h4⟩
  · exact .inl h2
  · exact .inr ⟨g, cap, cur, h1, h2, (hg.block g (Array.getElem?_eq_some_iff.1 h3).1 (fun e => by have := hq g e.symm; omega)).trans h3, h4⟩
theorem own_base {w : World} {b1 b2 : Nat} {e : TypeId} {k : Nat} {v : Value} {n : Nat} {xs : List Value} (h : w.ownsRow b2 e k v n xs) (hb : b1 ≤ b2) : w.ownsRow b1 e k v n xs := by
  refine ⟨h.1, ?_⟩
  rcases h.2 with h2 | ⟨g, cap, cur, h1, h2, h3⟩
  · exact .inl h2
  · exact .inr ⟨g, cap, cur, h1, by omega, h3⟩
/-- An own row is apart from a block of another type. -/
theorem own_apart {w : World} {base : Nat} {e t : TypeId} {k : Nat} {v : Value} {n : Nat} {xs : List Value} {b : Nat} {X : Array Value} {fr : Nat × Nat} (h : w.ownsRow base e k v n xs) (hk : w.heap[b]? = some (.cells X t fr)) (ht : t ≠ e) : v.ownBlock ≠ some b := by
  rcases h.2 with ⟨e1, _⟩ | ⟨g, cap, cur, e1, _, hg, _⟩
  · rw [e1]; intro h2; cases h2
  · rw [e1]
    intro h2
    obtain rfl : g = b := by simpa [Value.ownBlock] using h2
    rw [hg] at hk
    injection hk with hk
    injection hk with _ h3 _
    exact ht h3.symm
/-! ### Packing -/
abbrev wireT : TypeId := 78
/-- A wire onto which bytes are put. -/
structure PkI (F : Nat) (v : Value) (o : Nm) (W : World) : Prop where
  k : W.heap[F]? = some (.cells #[v, .pointer none, .int .i64 0] wireT)
  own : W.ownsRow (F + 1) 5 1 v o.length (o.map bv)
/-- But for the wire and its own row all is as it was. -/
structure WUp (F : Nat) (v v' : Value) (W W' : World) : Prop where
  os : W'.os = W.os
  tape : W'.tape = W.tape
  output : W'.output = W.output
  size : W.heap.size ≤ W'.heap.size
  block : ∀ k, k < W.heap.size → k ≠ F → v.ownBlock ≠ some k → W'.heap[k]? = W.heap[k]?
  own : ∀ k, v'.ownBlock = some k → v.ownBlock = some k ∨ W.heap.size ≤ k
theorem WUp.refl (F : Nat) (v : Value) (W : World) : WUp F v v W W := ⟨rfl, rfl, rfl, Nat.le_refl _, fun _ _ _ _ => rfl, fun _ h => .inl h⟩
theorem WUp.trans {F : Nat} {v v1 v2 : Value} {W W1 W2 : World} (h1 : WUp F v v1 W W1) (h2 : WUp F v1 v2 W1 W2) : WUp F v v2 W W2 := by
  refine ⟨h2.os.trans h1.os, h2.tape.trans h1.tape, h2.output.trans h1.output, Nat.le_trans h1.size h2.size, fun k hk a b => ?_, fun k hk => ?_⟩
  · refine (h2.block k (Nat.lt_of_lt_of_le hk h1.size) a (fun e => ?_)).trans (h1.block k hk a b)
    rcases h1.own k e with h3 | h3
    · exact b h3
    · omega
  · rcases h2.own k hk with h3 | h3
    · exact h1.own k h3
    · exact .inr (Nat.le_trans h1.size h3)
theorem WUp.of_below {F : Nat} {v : Value} {W W' : World} (h : Below W.heap.size W W') : WUp F v v W W' := ⟨h.os, h.tape, h.output, h.size, fun k hk _ _ => h.block k hk, fun _ h => .inl h⟩
theorem WUp.low {F n : Nat} {v v' : Value} {W W' : World} (h : WUp F v v' W W') (hv : ∀ k, v.ownBlock = some k → F + 1 ≤ k) (hF : n ≤ F) (hn : n ≤ W.heap.size) : Below n W W' :=
  ⟨h.os, h.tape, h.output, h.size, fun k hk => h.block k (by omega) (by omega) (fun e => by have := hv k e; omega)⟩
theorem PkI.lt {F : Nat} {v : Value} {o : Nm} {W : World} (h : PkI F v o W) : F < W.heap.size := (Array.getElem?_eq_some_iff.1 h.k).1
theorem PkI.hi {F : Nat} {v : Value} {o : Nm} {W : World} (h : PkI F v o W) : ∀ k, v.ownBlock = some k → F + 1 ≤ k := fun k hk => (h.own.lt k hk).1
theorem PkI.below {F : Nat} {v : Value} {o : Nm} {W W' : World} (h : PkI F v o W) (hb : Below W.heap.size W W') : PkI F v o W' :=
  ⟨(hb.block F h.lt).trans h.k, ownsRow_below h.own hb⟩
/-- What packing leaves. -/
def PkPost (F : Nat) (v : Value) (o add : Nm) (W : World) (e : Ending) (W' : World) : Prop := e = .returned (.tuple #[]) ∧ ∃ v', PkI F v' (o ++ add) W' ∧ WUp F v v' W W'
theorem three {x : World} {b : Nat} {t : TypeId} {v0 v1 v2 : Value} (h : x.heap[b]? = some (.cells #[v0, v1, v2] t)) :
    (x.cell? ⟨b, 0, none⟩ = some v0 ∧ x.cell? ⟨b, 1, none⟩ = some v1 ∧ x.cell? ⟨b, 2, none⟩ = some v2) ∧ (x.frozen? ⟨b, 0, none⟩ = false ∧ x.frozen? ⟨b, 1, none⟩ = false ∧ x.frozen? ⟨b, 2, none⟩ = false) := by
  refine ⟨⟨?_, ?_, ?_⟩, ?_, ?_, ?_⟩ <;> simp [World.cell?, World.frozen?, h]
theorem one_box (w : World) (o : Obj) : (w.alloc o).heap[w.heap.size]? = some o ∧ Below w.heap.size w (w.alloc o) ∧ (w.alloc o).heap.size = w.heap.size + 1 := ⟨heap_alloc_new w o, (Below.refl w.heap.size w).alloc (Nat.le_refl _) o, World.size_alloc ..⟩
/-! ### Unpacking -/
/-- A wire off which bytes are read; its reader. -/
structure RkI (F q : Nat) (l : Nm) (e : Int) (W : World) : Prop where
  k : W.heap[F]? = some (.cells #[.slice none 0 0, .pointer (some ⟨q, 0, none⟩), .int .i64 e] wireT)
  r : ∃ (l' : Nm) (e' : Int), RdIn (fun b => b < q) W q l' e' ∧ (e = 0 → l' = l ∧ e' = 0)
  lt : q < F
/-- But for the wire, its reader, and one block all is as it was. -/
structure RUp (F q g : Nat) (W W' : World) : Prop where
  os : W'.os = W.os
  tape : W'.tape = W.tape
  output : W'.output = W.output
  size : W.heap.size ≤ W'.heap.size
  block : ∀ k, k < W.heap.size → k ≠ F → k ≠ q → k ≠ g → W'.heap[k]? = W.heap[k]?
theorem RUp.refl (F q g : Nat) (W : World) : RUp F q g W W := ⟨rfl, rfl, rfl, Nat.le_refl _, fun _ _ _ _ _ => rfl⟩
theorem RUp.trans {F q g : Nat} {W W1 W2 : World} (h1 : RUp F q g W W1) (h2 : RUp F q g W1 W2) : RUp F q g W W2 :=
  ⟨h2.os.trans h1.os, h2.tape.trans h1.tape, h2.output.trans h1.output, Nat.le_trans h1.size h2.size, fun k hk a b c => (h2.block k (Nat.lt_of_lt_of_le hk h1.size) a b c).trans (h1.block k hk a b c)⟩
theorem RUp.of_below {F q g : Nat} {W W' : World} (h : Below W.heap.size W W') : RUp F q g W W' := ⟨h.os, h.tape, h.output, h.size, fun k hk _ _ _ => h.block k hk⟩
theorem RUp.of_grown {F q g : Nat} {W W' : World} {r : Option Nat} (h : W.grownBy W' r) (hr : ∀ j, r = some j → j = F ∨ j = q ∨ j = g) : RUp F q g W W' :=
  ⟨h.os, h.tape, h.output, h.size, fun k hk a b c => h.block k hk (fun e => by rcases hr k e.symm with h | h | h <;> contradiction)⟩
theorem rdin_keep {q : Nat} {W W' : World} {l : Nm} {e : Int} (h : RdIn (fun b => b < q) W q l e) (hk : ∀ k, k ≤ q → W'.heap[k]? = W.heap[k]?) : RdIn (fun b => b < q) W' q l e := by
  obtain ⟨a, n, cap, h1, h2, h3⟩ := h
  refine ⟨a, n, cap, (hk q (Nat.le_refl _)).trans h1, ?_, h3⟩
  obtain ⟨g1, g2, g3, b, off, g4, g5⟩ := h2
  refine ⟨g1, g2, g3, b, off, g4, fun k hk2 => ?_⟩
  rcases h3 with h3 | h3
  · omega
  · rcases g4 with g4 | g4
    · omega
    · have h6 := h3 _ g4
      have g6 := g5 k hk2
      unfold byteAt at g6 ⊢
      rw [World.cell?_of_block (hk b (Nat.le_of_lt h6))]
      exact g6
theorem RkI.F_lt {F q : Nat} {l : Nm} {e : Int} {W : World} (h : RkI F q l e W) : F < W.heap.size := (Array.getElem?_eq_some_iff.1 h.k).1
/-- Blocks behind the wire may turn as they like. -/
theorem RkI.keep {F q : Nat} {l : Nm} {e : Int} {W W' : World} (h : RkI F q l e W) (hk : ∀ k, k ≤ F → W'.heap[k]? = W.heap[k]?) : RkI F q l e W' := by
  obtain ⟨l', e', h1, h2⟩ := h.r
  exact ⟨(hk F (Nat.le_refl _)).trans h.k, ⟨l', e', rdin_keep h1 (fun k hk2 => hk k (by have := h.lt; omega)), h2⟩, h.lt⟩
theorem RkI.below {F q : Nat} {l : Nm} {e : Int} {W W' : World} (h : RkI F q l e W) (hb : Below W.heap.size W W') : RkI F q l e W' :=
  h.keep fun k hk => hb.block k (by have := h.F_lt; omega)
theorem RkI.set {F q : Nat} {l : Nm} {e : Int} {W : World} (h : RkI F q l e W) {g : Nat} (hg : F < g) (o : Nat) (u : Value) : RkI F q l e (W.setCell ⟨g, o, none⟩ u) :=
  h.keep fun k hk => set_other W g o u k (by omega)
/-- Where a row of cells is known whole: what of it is turned. -/
def Cut (g : Nat) (cur : List Value) (t : TypeId) (W : World) : Prop := W.heap[g]? = some (.cells cur.toArray t)
/-- What unpacking leaves: the cells from o on are others. -/
def RkPost (F q g o : Nat) (cur vs : List Value) (t : TypeId) (l : Nm) (e : Int) (W : World) (r : Ending) (W' : World) : Prop :=
  r = .returned (.tuple #[]) ∧ RkI F q l e W' ∧ Cut g (splice cur o vs) t W' ∧ RUp F q g W W'
theorem Cut.cell {g : Nat} {cur : List Value} {t : TypeId} {W : World} (h : Cut g cur t W) (j : Nat) : W.cell? ⟨g, j, none⟩ = cur[j]? := by
  unfold Cut at h
  simp [World.cell?, h]
theorem Cut.frozen {g : Nat} {cur : List Value} {t : TypeId} {W : World} (h : Cut g cur t W) (j : Nat) : W.frozen? ⟨g, j, none⟩ = false := by
  unfold Cut at h
  simp [World.frozen?, h]
theorem Cut.set {g : Nat} {cur : List Value} {t : TypeId} {W : World} (h : Cut g cur t W) (o : Nat) (u : Value) : Cut g (cur.set o u) t (W.setCell ⟨g, o, none⟩ u) := by
  unfold Cut at h ⊢
  rw [heap_setCell_same W g o cur.toArray t u h]
  simp
theorem Cut.lt {g : Nat} {cur : List Value} {t : TypeId} {W : World} (h : Cut g cur t W) : g < W.heap.size := (Array.getElem?_eq_some_iff.1 h).1
theorem splice_one (cur : List Value) (o : Nat) (u : Value) (h : o < cur.length) : splice cur o [u] = cur.set o u := by
  rw [← Sl.splice_cons cur o u [] h, Sl.splice_nil]
theorem splice_len (cur : List Value) (o : Nat) (vs : List Value) (h : o + vs.length ≤ cur.length) : (splice cur o vs).length = cur.length := by
  unfold splice
  simp only [List.length_append, List.length_take, List.length_drop]
  omega
theorem splice_app (cur : List Value) (o : Nat) (vs us : List Value) (h : o + vs.length ≤ cur.length) : splice (splice cur o vs) (o + vs.length) us = splice cur o (vs ++ us) := by
  induction vs generalizing o cur with
  | nil => rw [Sl.splice_nil]; rfl
  | cons x r ih =>
    have hlt : o < cur.length := by rw [List.length_cons] at h; omega
    rw [← Sl.splice_cons cur o x r hlt, List.cons_append, ← Sl.splice_cons cur o x (r ++ us) hlt]
    have := ih (cur.set o x) (o + 1) (by rw [List.length_set]; rw [List.length_cons] at h; omega)
    rw [List.length_cons, show o + (r.length + 1) = o + 1 + r.length by omega]
    exact this
theorem splice_after {cur : List Value} {off k : Nat} {vs : List Value} (hl : off + vs.length ≤ cur.length) (h : off + vs.length ≤ k) : (splice cur off vs)[k]? = cur[k]? := by
  have h1 : (splice cur off vs)[k]? = (cur.drop (off + vs.length))[k - (off + vs.length)]? := by
    unfold splice
    rw [List.getElem?_append_right (by rw [List.length_take]; omega), List.getElem?_append_right (by rw [List.length_take]; omega)]
    congr 1
    rw [List.length_take]
    omega
  rw [h1, List.getElem?_drop]
  congr 1
  omega
theorem splice_before {cur : List Value} {off k : Nat} {vs : List Value} (hl : off + vs.length ≤ cur.length) (h : k < off) : (splice cur off vs)[k]? = cur[k]? := by
  unfold splice
  rw [List.getElem?_append_left (by rw [List.length_take]; omega), List.getElem?_take]
  rw [if_pos h]
theorem splice_in {cur : List Value} {off j : Nat} {vs : List Value} (hl : off + vs.length ≤ cur.length) (h : j < vs.length) : (splice cur off vs)[off + j]? = vs[j]? := by
  unfold splice
  rw [List.getElem?_append_right (by rw [List.length_take]; omega), List.getElem?_append_left (by rw [List.length_take]; omega)]
  congr 1
  rw [List.length_take]
  omega
end Go.Proofs.Ytmhofdoifgfjfaa
