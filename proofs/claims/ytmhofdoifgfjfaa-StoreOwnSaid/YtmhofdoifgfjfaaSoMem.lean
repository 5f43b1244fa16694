/-
  Store: what lies where. Conditions: as each law says.
-/
import Derived.Test.YtmhofdoifgfjfaaSoPlain
import Derived.Test.YtmhofdoifgfjfaaSoInts
import Derived.Test.YtmhofdoifgfjfaaStSame
import Derived.Maps.OwnSet
set_option linter.unusedVariables false
set_option maxRecDepth 100000
namespace Go.Proofs.Ytmhofdoifgfjfaa
open Go.RowKit Base

/-- The law's state of a place; done or not. -/
def atD (p : Int) (d : Bool) : StateD := (((([], [], 0, []), [], [], []) : KeepD), [[120]], [], (0, 0, 0, [], []), ((0, 0), 0, 0, [], [], 0), [], (0, 0, p), (false, false, d), 0)
abbrev atV (u : Value) (p : Int) (d : Bool) : List Value := [.slice none 0 0, .slice none 0 0, .int .i64 0, .string ⟨#[]⟩, .slice none 0 0, .slice none 0 0, .slice none 0 0, u, .slice none 0 0, .int .i64 0, .int .i64 0, .int .i64 0, .string ⟨#[]⟩, .slice none 0 0, .int .i64 0, .int .i64 0, .int .i64 0, .int .i64 0, .string ⟨#[]⟩, .slice none 0 0, .int .i64 0, .slice none 0 0, .int .i64 0, .int .i64 0, .int .i64 p, .bool false, .bool false, .bool d, .int .i64 0]
theorem i64_z : I64 0 := ⟨by decide, by decide⟩
theorem lt64_s {n : Nat} (h : n ≤ 1000) : Lt64 n := by unfold Lt64; omega
theorem keepZ_P : KeepP ((([], [], 0, []), [], [], []) : KeepD) := ⟨⟨⟨by decide, fun _ h => by cases h⟩, ⟨by decide, fun _ h => by cases h⟩, i64_z, lt64_s (by decide)⟩, ⟨by decide, fun _ h => by cases h⟩, ⟨by decide, fun _ h => by cases h⟩, ⟨by decide, fun _ h => by cases h⟩⟩
theorem atD_P {p : Int} (h : I64 p) (d : Bool) : StateP (atD p d) := by
  have z := i64_z
  have e : ∀ {α : Type} {P : α → Prop}, RowP P ([] : List α) := fun {α P} => ⟨Nat.zero_le _, fun _ h => by cases h⟩
  refine ⟨keepZ_P, ⟨(by decide : 1 ≤ 100000), fun x hx => ?_⟩, e, ⟨z, z, z, lt64_s (Nat.zero_le _), e⟩, ⟨⟨z, z⟩, z, z, lt64_s (Nat.zero_le _), e, z⟩, e, ⟨z, z, h⟩, ⟨trivial, trivial, trivial⟩, z⟩
  obtain rfl : x = [120] := by simpa [atD] using hx
  exact lt64_s (by decide)
theorem pairC_len {α β : Type} (c : Cd α) (d : Cd β) (p : α × β) : ((pairC c d).enc p).length = (c.enc p.1).length + (d.enc p.2).length := List.length_append
theorem intB_10 {z : Int} (h : I64 z) : (intB z).length ≤ 10 := num_len _ (zig_lt h)
theorem atD_len {p : Int} (h : I64 p) (d : Bool) : (stateC.enc (atD p d)).length ≤ 1000 := by
  have h1 := intB_10 h
  have h2 : (stateC.enc (atD 0 false)).length = 31 := by decide +kernel
  have h3 : (bitC.enc d).length = 1 := by cases d <;> decide +kernel
  have h4 : (bitC.enc false).length = 1 := by decide +kernel
  have h5 : (intB 0).length = 1 := by decide +kernel
  have e : (stateC.enc (atD p d)).length + (intB 0).length + (bitC.enc false).length = (stateC.enc (atD 0 false)).length + (intB p).length + (bitC.enc d).length := by
    unfold stateC atD
    simp only [pairC_len]
    show _ + (_ + (_ + (_ + (_ + (_ + (_ + (_ + (intB p).length) + _)))))) + _ + _ = _
    have : (numC.enc p).length = (intB p).length := rfl
    have : (numC.enc 0).length = (intB 0).length := rfl
    omega
  omega
theorem unG_back {α : Type} {c : Cd α} {P : α → Prop} (hc : c.Ok P) (z : α) {s : α} (h : P s) :
    (if mustE (decide ((c.dec (c.enc s) 0).2.1 = [])) (c.dec (c.enc s) 0).2.2 14 ≠ 0 then (z, mustE (decide ((c.dec (c.enc s) 0).2.1 = [])) (c.dec (c.enc s) 0).2.2 14) else ((c.dec (c.enc s) 0).1, 0)) = (s, (0 : Int)) := by
  have h1 := hc.back s [] h
  rw [List.append_nil] at h1
  rw [h1, decide_eq_true rfl, mustE_yes, if_neg (fun h => h rfl)]
theorem unB_back {s : StateD} (h : StateP s) : unB (stateC.enc s) = (s, 0) := unG_back (c := stateC) (P := StateP) stateC_ok zeroD h
theorem at_state {W : World} {u : Value} {p : Int} {d : Bool} (h : W.ownsRow 0 9 1 u 1 [.string ⟨#[120]⟩]) : stateH W (atV u p d) (atD p d) := by
  refine ⟨[.slice none 0 0, .slice none 0 0, .int .i64 0, .string ⟨#[]⟩, .slice none 0 0, .slice none 0 0, .slice none 0 0], _, rfl, rfl, ?_, [u], _, rfl, rfl, ?_, [.slice none 0 0], _, rfl, rfl, row_none _ _ _ _,
    [.int .i64 0, .int .i64 0, .int .i64 0, .string ⟨#[]⟩, .slice none 0 0], _, rfl, rfl, ?_, [.int .i64 0, .int .i64 0, .int .i64 0, .int .i64 0, .string ⟨#[]⟩, .slice none 0 0, .int .i64 0], _, rfl, rfl, ?_, [.slice none 0 0], _, rfl, rfl, row_none _ _ _ _, [.int .i64 0, .int .i64 0, .int .i64 p], _, rfl, rfl, rfl, [.bool false, .bool false, .bool d], _, rfl, rfl, rfl, rfl⟩
  · exact ⟨[.slice none 0 0, .slice none 0 0, .int .i64 0, .string ⟨#[]⟩], _, rfl, rfl, ⟨[.slice none 0 0], _, rfl, rfl, row_none _ _ _ _, [.slice none 0 0], _, rfl, rfl, row_none _ _ _ _, [.int .i64 0], _, rfl, rfl, rfl, rfl⟩, [.slice none 0 0], _, rfl, rfl, row_none _ _ _ _, [.slice none 0 0], _, rfl, rfl, row_none _ _ _ _, row_none _ _ _ _⟩
  · refine ⟨_, [.string ⟨#[120]⟩], rfl, h, rfl, fun j hj => ?_⟩
    match j, hj with
    | 0, _ => exact rfl
  · exact ⟨[.int .i64 0], _, rfl, rfl, rfl, [.int .i64 0], _, rfl, rfl, rfl, [.int .i64 0], _, rfl, rfl, rfl, [.string ⟨#[]⟩], _, rfl, rfl, rfl, row_none _ _ _ _⟩
  · exact ⟨[.int .i64 0, .int .i64 0], _, rfl, rfl, rfl, [.int .i64 0], _, rfl, rfl, rfl, [.int .i64 0], _, rfl, rfl, rfl, [.string ⟨#[]⟩], _, rfl, rfl, rfl, [.slice none 0 0], _, rfl, rfl, row_none _ _ _ _, rfl⟩
/-- Cells that are such a state's. -/
theorem at_parts {W : World} {vs : List Value} {p : Int} {d : Bool} (h : stateH W vs (atD p d)) : ∃ u c0 c1 c2 c3 c4 c5 c6 c8 c9 c10 c11 c12 c13 c14 c15 c16 c17 c18 c19 c20 c21 c22 c23 c28, vs = [c0, c1, c2, c3, c4, c5, c6, u, c8, c9, c10, c11, c12, c13, c14, c15, c16, c17, c18, c19, c20, c21, c22, c23, .int .i64 p, .bool false, .bool false, .bool d, c28] ∧ W.ownsRow 0 9 1 u 1 [.string ⟨#[120]⟩] := by
  obtain ⟨v1, r1, rfl, l1, _, v2, r2, rfl, l2, h2, v3, r3, rfl, l3, _, v4, r4, rfl, l4, _, v5, r5, rfl, l5, _, v6, r6, rfl, l6, _, v7, r7, rfl, l7, h7, v8, r8, rfl, l8, h8, h9⟩ := h
  obtain ⟨u, xs, rfl, ho, hl, hx⟩ := h2
  obtain rfl : v7 = [.int .i64 0, .int .i64 0, .int .i64 p] := h7
  obtain rfl : v8 = [.bool false, .bool false, .bool d] := h8
  obtain rfl : r8 = [.int .i64 0] := h9
  have hx1 := hx 0 Nat.zero_lt_one
  have hxl : xs.length = 1 := hl
  match xs, hxl with
  | [x], _ =>
    obtain rfl : x = .string ⟨#[120]⟩ := by
      have : [x] = txtV [120] := hx1
      injection this
    match v1, l1 with
    | [a0, a1, a2, a3, a4, a5, a6], _ =>
      match v3, l3 with
      | [b0], _ =>
        match v4, l4 with
        | [d0, d1, d2, d3, d4], _ =>
          match v5, l5 with
          | [e0, e1, e2, e3, e4, e5, e6], _ =>
            match v6, l6 with
            | [f0], _ => exact ⟨u, _, _, _, _, _, _, _, _, _, _, _, _, _, _, _, _, _, _, _, _, _, _, _, _, rfl, ho⟩
/-! ### The map -/
abbrev keptR : Value → Option (DataW Value × List MemPlace) := fun v => some (.held v, [])
abbrev KMap (w : World) (m n : Nat) (D : DataW Value) : Prop := w.ownsMap Try.prog 3 keptR m n D
abbrev KAt (D : DataW Value) (k : Int) (v : Value) : Prop := D.atKey (.int .i64 k) (.held (.slice none 0 0)) = .held v
theorem int_law : Maps.Keyed Try.prog 3 := Maps.int_keyed Try.underlying3
theorem key_int {k : Int} (h : I64 k) : keyOf Try.prog 3 (.int .i64 k) = some (.int .i64 k) := Maps.keyOf_int_mk Try.underlying3 (by
  have h1 : -9223372036854775808 ≤ k := h.1
  have h2 : k < 9223372036854775808 := by have := h.2; omega
  simp [Lit.wf, IntKind.min, IntKind.max, IntKind.signed, IntKind.bits]; omega)
theorem look_kept {w : World} {m n : Nat} {D : DataW Value} (h : KMap w m n D) {k : Int} (hk : I64 k) {v : Value} (hv : KAt D k v) : (Instr.lookup 58 (.map (some m)) (.int .i64 k) false).run Try.prog w = .ok v w := by
  obtain ⟨u, ps, hr, hu⟩ := h.lookup int_law Try.underlying58 (z := .slice none 0 0) (by kernel_rfl) (zd := .held (.slice none 0 0)) (zp := []) rfl (key_int hk)
  have : KAt D k u := (congrArg Prod.fst (Option.some.inj hu)).symm
  rw [hr]
  have e : (DataW.held u : DataW Value) = .held v := this.symm.trans hv
  injection e with e
  rw [e]
theorem kat_put {w : World} {m n : Nat} {D : DataW Value} (h : KMap w m n D) {k : Int} (hk : I64 k) (v : Value) : KAt (D.put (.int .i64 k) (.held v)) k v := Maps.atKey_put_same h.isMap (int_law.key (key_int hk)) _ _
theorem kat_put_other {D : DataW Value} {k k' : Int} (hne : k' ≠ k) (v u : Value) (hu : KAt D k' u) : KAt (D.put (.int .i64 k) (.held v)) k' u := by
  show DataW.atKey _ _ _ = _
  rw [Maps.atKey_put_other (fun e => hne (by injection e))]
  exact hu
theorem kat_del_other {D : DataW Value} {k k' : Int} (hne : k' ≠ k) (u : Value) (hu : KAt D k' u) : KAt (D.del (.int .i64 k)) k' u := by
  show DataW.atKey _ _ _ = _
  rw [Maps.atKey_del_other (fun e => hne (by injection e))]
  exact hu
/-! ### The store -/
abbrev soT : TypeId := 60
abbrev OwnB (w : World) (u : Value) (l : Nm) : Prop := w.ownsRow 0 5 1 u l.length (l.map bv)
/-- What turns but for new blocks: the store's own block, its map, the row of its places. -/
structure Turns (s m : Nat) (o : Option Nat) (W W' : World) : Prop where
  os : W'.os = W.os
  tape : W'.tape = W.tape
  output : W'.output = W.output
  size : W.heap.size ≤ W'.heap.size
  block : ∀ b, b < W.heap.size → b ≠ s → b ≠ m → some b ≠ o → W'.heap[b]? = W.heap[b]?
theorem Turns.of_below {s m : Nat} {o : Option Nat} {W W' : World} (h : Below W.heap.size W W') : Turns s m o W W' := ⟨h.os, h.tape, h.output, h.size, fun b hb _ _ _ => h.block b hb⟩
theorem Turns.of_grown {s m : Nat} {o : Option Nat} {W W' : World} (h : W.grownBy W' o) : Turns s m o W W' := ⟨h.os, h.tape, h.output, h.size, fun b hb _ _ hn => h.block b hb hn⟩
theorem Turns.of_map {s m : Nat} {o : Option Nat} {W W' : World} (h : W.grownBy W' (some m)) : Turns s m o W W' := ⟨h.os, h.tape, h.output, h.size, fun b hb _ hm _ => h.block b hb (fun e => hm (Option.some.inj e))⟩
theorem Turns.of_box {s m : Nat} {o : Option Nat} {W W' : World} (h : W.grownBy W' (some s)) : Turns s m o W W' := ⟨h.os, h.tape, h.output, h.size, fun b hb hs _ _ => h.block b hb (fun e => hs (Option.some.inj e))⟩
theorem Turns.trans {s m : Nat} {o o' : Option Nat} {W W1 W2 : World} (h : Turns s m o W W1) (h' : Turns s m o' W1 W2) (ho : o' = o ∨ ∀ b, o' = some b → W.heap.size ≤ b) : Turns s m o W W2 :=
  ⟨h'.os.trans h.os, h'.tape.trans h.tape, h'.output.trans h.output, Nat.le_trans h.size h'.size, fun b hb h1 h2 h3 => (h'.block b (Nat.lt_of_lt_of_le hb h.size) h1 h2 (fun e => by
    rcases ho with ho | ho
    · exact h3 (e.trans ho)
    · have := ho b e.symm; omega)).trans (h.block b hb h1 h2 h3)⟩
theorem Turns.low {s m B : Nat} {o : Option Nat} {W W' : World} (h : Turns s m o W W') (hs : B ≤ s) (hm : B ≤ m) (ho : ∀ b, o = some b → B ≤ b) (hB : B ≤ W.heap.size) : Below B W W' :=
  ⟨h.os, h.tape, h.output, h.size, fun b hb => h.block b (by omega) (by omega) (by omega) (fun e => by have := ho b e.symm; omega)⟩
/-- A store's block, its places, what it keeps of each. -/
structure Sto (W : World) (B s m : Nat) (v : Value) (ev mo : Int) (pl : List Int) (f : Int → StateD) (n : Nat) : Prop where
  sB : B ≤ s
  mB : B ≤ m
  box : W.heap[s]? = some (.cells #[.int .i64 ev, .int .i64 mo, v, .map (some m)] soT)
  row : OwnI W B v pl
  map : ∃ D, KMap W m n D ∧ ∀ p ∈ pl, ∃ u, KAt D p u ∧ OwnB W u (stateC.enc (f p))
  up : Up pl
  lo : ∀ x ∈ pl, 0 ≤ x ∧ x ≤ 1000000
  ev1 : 1 ≤ ev
  mo1 : 1 ≤ mo
  le : (pl.length : Int) ≤ mo
  ln : pl.length ≤ n
  fine : ∀ p ∈ pl, StateP (f p) ∧ (stateC.enc (f p)).length ≤ 1000
theorem Sto.lt {W : World} {B s m : Nat} {v : Value} {ev mo : Int} {pl : List Int} {f : Int → StateD} {n : Nat} (h : Sto W B s m v ev mo pl f n) : s < W.heap.size := (Array.getElem?_eq_some_iff.1 h.box).1
theorem Sto.mlt {W : World} {B s m : Nat} {v : Value} {ev mo : Int} {pl : List Int} {f : Int → StateD} {n : Nat} (h : Sto W B s m v ev mo pl f n) : m < W.heap.size := by
  obtain ⟨D, hD, _⟩ := h.map
  exact hD.lt
theorem Sto.lo' {W : World} {B s m : Nat} {v : Value} {ev mo : Int} {pl : List Int} {f : Int → StateD} {n : Nat} (h : Sto W B s m v ev mo pl f n) : ∀ b, v.ownBlock = some b → B ≤ b := fun b hb => by
  have := h.row
  exact (this.lt b hb).1
theorem Sto.ne {W : World} {B s m : Nat} {v : Value} {ev mo : Int} {pl : List Int} {f : Int → StateD} {n : Nat} (h : Sto W B s m v ev mo pl f n) : s ≠ m := by
  obtain ⟨D, ⟨es, ck, hm, _⟩, _⟩ := h.map
  intro e
  rw [← e, h.box] at hm
  cases hm
theorem Sto.vs {W : World} {B s m : Nat} {v : Value} {ev mo : Int} {pl : List Int} {f : Int → StateD} {n : Nat} (h : Sto W B s m v ev mo pl f n) : v.ownBlock ≠ some s := own_apart h.row h.box (by decide)
theorem Sto.vm {W : World} {B s m : Nat} {v : Value} {ev mo : Int} {pl : List Int} {f : Int → StateD} {n : Nat} (h : Sto W B s m v ev mo pl f n) : v.ownBlock ≠ some m := by
  obtain ⟨D, ⟨es, ck, hm, _⟩, _⟩ := h.map
  have hr : W.ownsRow B 3 1 v pl.length (pl.map zv) := h.row
  rcases hr.2 with ⟨e1, _⟩ | ⟨g, cap, cur, e1, _, hg, _⟩
  · rw [e1]; intro h2; cases h2
  · rw [e1]
    intro h2
    obtain rfl : g = m := Option.some.inj h2
    rw [hg] at hm
    cases hm
theorem ownB_below {W W' : World} {u : Value} {l : Nm} (h : OwnB W u l) (hb : Below W.heap.size W W') : OwnB W' u l := ownsRow_below h hb
theorem Sto.below {W W' : World} {B s m : Nat} {v : Value} {ev mo : Int} {pl : List Int} {f : Int → StateD} {n : Nat} (h : Sto W B s m v ev mo pl f n) (hb : Below W.heap.size W W') : Sto W' B s m v ev mo pl f n := by
  obtain ⟨D, hD, hK⟩ := h.map
  exact ⟨h.sB, h.mB, (hb.block s h.lt).trans h.box, ownsRow_below h.row hb, ⟨D, hD.kept (Sl.grown_below hb none) (by simp), fun p hp => by obtain ⟨u, h1, h2⟩ := hK p hp; exact ⟨u, h1, ownB_below h2 hb⟩⟩, h.up, h.lo, h.ev1, h.mo1, h.le, h.ln, h.fine⟩
/-- A row of bytes stays while the store's own blocks turn. -/
theorem ownB_apart {W : World} {u : Value} {l : Nm} (h : OwnB W u l) {b : Nat} {X : Array Value} {t : TypeId} (hk : W.heap[b]? = some (.cells X t)) (ht : t ≠ 5) : u.ownBlock ≠ some b := own_apart h hk ht
end Go.Proofs.Ytmhofdoifgfjfaa
