/-
  Lexer: what lies where while a script is read. Conditions: as each law says.
-/
import Derived.Test.YtiklkhbfilbpeaaGreatDoorSkLxPlain
import Derived.Test.YtiklkhbfilbpeaaGreatDoorSkSlRow
import Derived.Test.YtiklkhbfilbpeaaGreatDoorSkRegionP
import Derived.Deep.MidRow
set_option linter.unusedVariables false
set_option linter.unusedSimpArgs false
set_option maxRecDepth 100000
namespace Go.Proofs.YtiklkhbfilbpeaaGreatDoor
open Go.RowKit Base Lx
abbrev rdT : TypeId := 64
abbrev tkT : TypeId := 66
abbrev wrT : TypeId := 61
abbrev inT : TypeId := 3
/-- What a panic with an error and its line is. -/
def panEnd (e : Int) (g : Nat) : Ending := .panicked [{ v := .iface wrT (.agg #[.int .i64 e, .int .i64 (g : Int)]), recovered := false }]
theorem nl_split (s : Nm) (n : Nat) : nl (s.take n) + nl (s.drop n) = nl s := by
  unfold nl
  rw [← List.count_append, List.take_append_drop]
theorem nl_drop (s : Nm) (n : Nat) : nl (s.drop n) ≤ nl s := by have := nl_split s n; omega
theorem nl_le (s : Nm) : nl s ≤ s.length := List.count_le_length
/-- A reader in block b: the text s that is left, of K lines all in all; it began in line g. -/
structure Rd (W : World) (b : Nat) (s : Nm) (K g : Nat) (vl vh : Value) : Prop where
  box : W.heap[b]? = some (.cells #[.string (str s), .int .i64 ((K - nl s : Nat) : Int), .int .i64 (g : Int), vl, vh] rdT)
  le : nl s ≤ K
  big : K ≤ 100000
  len : s.length ≤ 100000
theorem Rd.lt {W : World} {b : Nat} {s : Nm} {K g : Nat} {vl vh : Value} (h : Rd W b s K g vl vh) : b < W.heap.size := (Array.getElem?_eq_some_iff.1 h.box).1
theorem Rd.below {W W' : World} {b : Nat} {s : Nm} {K g : Nat} {vl vh : Value} (h : Rd W b s K g vl vh) (hb : Below W.heap.size W W') : Rd W' b s K g vl vh :=
  ⟨(hb.block b h.lt).trans h.box, h.le, h.big, h.len⟩
theorem rd_cells {W : World} {b : Nat} {c0 c1 c2 c3 c4 : Value} (h : W.heap[b]? = some (.cells #[c0, c1, c2, c3, c4] rdT)) :
    (W.cell? ⟨b, 0, none⟩ = some c0 ∧ W.cell? ⟨b, 1, none⟩ = some c1 ∧ W.cell? ⟨b, 2, none⟩ = some c2 ∧ W.cell? ⟨b, 3, none⟩ = some c3 ∧ W.cell? ⟨b, 4, none⟩ = some c4) ∧
    W.frozen? ⟨b, 0, none⟩ = false ∧ W.frozen? ⟨b, 1, none⟩ = false ∧ W.frozen? ⟨b, 2, none⟩ = false ∧ W.frozen? ⟨b, 3, none⟩ = false ∧ W.frozen? ⟨b, 4, none⟩ = false := by
  simp [World.cell?, World.frozen?, h]
/-- What reading turns: the reader's own block; all else is as it was, or new. -/
structure Turn (b : Nat) (W W' : World) : Prop where
  os : W'.os = W.os
  tape : W'.tape = W.tape
  output : W'.output = W.output
  size : W.heap.size ≤ W'.heap.size
  block : ∀ k, k < W.heap.size → k ≠ b → W'.heap[k]? = W.heap[k]?
theorem Turn.of_below {b : Nat} {W W' : World} (h : Below W.heap.size W W') : Turn b W W' := ⟨h.os, h.tape, h.output, h.size, fun k hk _ => h.block k hk⟩
theorem Turn.refl (b : Nat) (W : World) : Turn b W W := .of_below (Below.refl _ _)
theorem Turn.of_box {b : Nat} {W W' : World} (h : W.grownBy W' (some b)) : Turn b W W' := ⟨h.os, h.tape, h.output, h.size, fun k hk hs => h.block k hk (fun e => hs (Option.some.inj e))⟩
theorem Turn.trans {b : Nat} {W W1 W2 : World} (h : Turn b W W1) (h' : Turn b W1 W2) : Turn b W W2 :=
  ⟨h'.os.trans h.os, h'.tape.trans h.tape, h'.output.trans h.output, Nat.le_trans h.size h'.size, fun k hk h1 => (h'.block k (Nat.lt_of_lt_of_le hk h.size) h1).trans (h.block k hk h1)⟩
theorem Turn.below {b B : Nat} {W W' : World} (h : Turn b W W') (hb : B ≤ b) (hB : B ≤ W.heap.size) : Below B W W' :=
  ⟨h.os, h.tape, h.output, h.size, fun k hk => h.block k (by omega) (by omega)⟩
/-- A cell of the reader is another one. -/
theorem Rd.set {W : World} {b : Nat} {s : Nm} {K g : Nat} {vl vh : Value} (h : Rd W b s K g vl vh) (i : Nat) (u : Value) :
    (W.setCell ⟨b, i, none⟩ u).heap[b]? = some (.cells ((#[.string (str s), .int .i64 ((K - nl s : Nat) : Int), .int .i64 (g : Int), vl, vh] : Array Value).setIfInBounds i u) rdT) ∧ Turn b W (W.setCell ⟨b, i, none⟩ u) :=
  ⟨heap_setCell_same W b i _ _ u h.box, Turn.of_box (Sl.setCells_grown b [u] i W)⟩
/-- A reader has read n bytes. -/
def tookW (W : World) (b : Nat) (s : Nm) (K n : Nat) : World := (W.setCell ⟨b, 1, none⟩ (.int .i64 ((K - nl (s.drop n) : Nat) : Int))).setCell ⟨b, 0, none⟩ (.string (str (s.drop n)))
theorem Rd.took {W W1 : World} {b : Nat} {s : Nm} {K g : Nat} {vl vh : Value} (h : Rd W b s K g vl vh) (hb : Below W.heap.size W W1) (n : Nat) : Rd (tookW W1 b s K n) b (s.drop n) K g vl vh ∧ Turn b W (tookW W1 b s K n) := by
  have h := h.below hb
  have h1 := h.set 1 (.int .i64 ((K - nl (s.drop n) : Nat) : Int))
  have h2 := heap_setCell_same _ b 0 _ _ (.string (str (s.drop n))) h1.1
  refine ⟨⟨h2, Nat.le_trans (nl_drop s n) h.le, h.big, by rw [List.length_drop]; have := h.len; omega⟩, ((Turn.of_below hb).trans h1.2).trans (Turn.of_box (Sl.setCells_grown b [_] 0 _))⟩
/-- A part's end: an error, or a text and what is left. -/
def PartPost (W : World) (b K g : Nat) (vl vh : Value) (x : R) (r : Ending) (W' : World) : Prop :=
  match x with
  | .error e => r = panEnd e g ∧ Turn b W W'
  | .ok y => r = .returned (.string (str y.1)) ∧ Turn b W W' ∧ Rd W' b y.2 K g vl vh
theorem part_err {W W' : World} {b K g : Nat} {vl vh : Value} {x : R} {e : Int} (hx : x = .error e) (h : Turn b W W') : PartPost W b K g vl vh x (panEnd e g) W' := by subst hx; exact ⟨rfl, h⟩
theorem part_ok {W W' : World} {b K g : Nat} {vl vh : Value} {x : R} {o q : Nm} (hx : x = .ok (o, q)) (h : Turn b W W') (hr : Rd W' b q K g vl vh) : PartPost W b K g vl vh x (.returned (.string (str o))) W' := by subst hx; exact ⟨rfl, h, hr⟩
end Go.Proofs.YtiklkhbfilbpeaaGreatDoor
