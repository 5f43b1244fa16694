/-
  Syntax: what lies where while a tree is made: tokens, nodes, the reader. Conditions: as each law says.
  Syntax: the reader's small functions. Conditions: as each contract says.
  Syntax: what is next: is, word, need, raw, lines; texts among others. Conditions: as each contract says.
  Syntax: words, lines, what may begin. Conditions: as each contract says.
  Syntax: whether a redirection, a command, a function's name is next. Conditions: as each contract says.
-/
import Derived.Test.YtiklkhbfilbpeaaGreatDoorSkGSyA
import Derived.Test.YtiklkhbfilbpeaaGreatDoorSkLxAll
import Derived.Test.YtiklkhbfilbpeaaGreatDoorSkLxName
import Derived.Deep.CutBlock
import Derived.Deep.DeepCutAuto
import Derived.Lib.SliceRun
set_option linter.unusedVariables false
set_option linter.unusedSimpArgs false
set_option maxRecDepth 100000
namespace Go.Proofs.YtiklkhbfilbpeaaGreatDoor.Sx
open Go.RowKit Base Lx Sy
abbrev ndT : TypeId := 37
abbrev rrT : TypeId := 75
abbrev yrT : TypeId := 46
abbrev ywT : TypeId := 43
abbrev stT : TypeId := 9
theorem info_nd : (Tryz.prog.info? ndT).map (fun i => (i.zero, i.size, i.bytes)) = some (some (.agg #[.int .i64 0, .string ⟨#[]⟩, .bool false, .slice none 0 0, .int .i64 0, .slice none 0 0, .slice none 0 0, .int .i64 0]), 8, 120) := by kernel_rfl
theorem info_ndS : (Tryz.prog.info? ndT).map (fun i => i.size) = some 8 := by kernel_rfl
theorem und_nd : (Tryz.prog.underlying ndT).map TypeDesc.isRow = some true := by kernel_rfl
theorem info_rr : (Tryz.prog.info? rrT).map (fun i => (i.zero, i.size, i.bytes)) = some (some (.agg #[.int .i64 0, .string ⟨#[]⟩, .string ⟨#[]⟩, .string ⟨#[]⟩]), 4, 56) := by kernel_rfl
theorem info_st : (Tryz.prog.info? stT).map (fun i => (i.zero, i.size, i.bytes)) = some (some (.string ⟨#[]⟩), 1, 16) := by kernel_rfl
/-- What a panic with an error and its line is. -/
def panY (e : Int) (g : Nat) : Ending := .panicked [{ v := .iface ywT (.agg #[.int .i64 e, .int .i64 (g : Int)]), recovered := false }]
def sv (s : Nm) : Value := .string (str s)
/-- A redirection's cells, and a node's; uw, ur, uk: its rows. -/
def rrC (r : Rdr) : List Value := [.int .i64 (r.fd : Int), .string (str r.o), .string (str r.w), .string (str r.b)]
theorem rrC_len (r : Rdr) : (rrC r).length = 4 := rfl
theorem rrC_one : ∀ (r : Rdr), ∀ u ∈ rrC r, u.oneCell' = true := by
  intro r u hu
  simp only [rrC, List.mem_cons, List.not_mem_nil, or_false] at hu
  rcases hu with rfl | rfl | rfl | rfl <;> rfl
def ndC (n : Nd) (uw ur uk : Value) : List Value := [.int .i64 (n.k : Int), .string (str n.t), .bool n.fl, uw, .int .i64 (n.st : Int), ur, uk, .int .i64 (n.ln : Int)]
abbrev NV := Nd × Value × Value × Value
def nz (x : NV) : List Value := ndC x.1 x.2.1 x.2.2.1 x.2.2.2
theorem nz_len (x : NV) : (nz x).length = 8 := rfl
def notOwn (uw ur uk : Value) (g : Nat) : Prop := uw.ownBlock ≠ some g ∧ ur.ownBlock ≠ some g ∧ uk.ownBlock ≠ some g
/-- A node's rows, in blocks of Q. -/
structure Rows (W : World) (Q : Nat → Prop) (n : Nd) (uw ur uk : Value) : Prop where
  w : W.ownsRow 0 stT 1 uw n.ws.length (n.ws.map sv)
  r : W.ownsRow 0 rrT 4 ur n.rs.length (n.rs.flatMap rrC)
  k : W.ownsRow 0 inT 1 uk n.ks.length (n.ks.map iv)
  qw : ∀ g, uw.ownBlock = some g → Q g
  qr : ∀ g, ur.ownBlock = some g → Q g
  qk : ∀ g, uk.ownBlock = some g → Q g
/-- What a node's rows are of. -/
def rowT (t : TypeId) : Prop := t = stT ∨ t = rrT ∨ t = inT
theorem rowT_no : ¬ rowT ndT ∧ ¬ rowT yrT ∧ ¬ rowT tkT := by unfold rowT; decide
theorem Rows.keep {W W' : World} {Q : Nat → Prop} {n : Nd} {uw ur uk : Value} (h : Rows W Q n uw ur uk) (hk : ∀ (g : Nat) (X : Array Value) (t : TypeId), Q g → W.heap[g]? = some (.cells X t) → rowT t → W'.heap[g]? = W.heap[g]?) : Rows W' Q n uw ur uk :=
  ⟨own_keep h.w (fun g X hg hX => hk g X stT (h.qw g hg) hX (.inl rfl)), own_keep h.r (fun g X hg hX => hk g X rrT (h.qr g hg) hX (.inr (.inl rfl))), own_keep h.k (fun g X hg hX => hk g X inT (h.qk g hg) hX (.inr (.inr rfl))), h.qw, h.qr, h.qk⟩
theorem Rows.less {W : World} {Q Q' : Nat → Prop} {n : Nd} {uw ur uk : Value} (h : Rows W Q n uw ur uk) (hq : ∀ g, Q g → g < W.heap.size → Q' g) : Rows W Q' n uw ur uk :=
  ⟨h.w, h.r, h.k, fun g hg => hq g (h.qw g hg) (h.w.lt g hg).2, fun g hg => hq g (h.qr g hg) (h.r.lt g hg).2, fun g hg => hq g (h.qk g hg) (h.k.lt g hg).2⟩
theorem Rows.below {W W' : World} {Q : Nat → Prop} {n : Nd} {uw ur uk : Value} (h : Rows W Q n uw ur uk) (hb : Below W.heap.size W W') : Rows W' Q n uw ur uk :=
  h.keep (fun g X t _ hX _ => hb.block g (Array.getElem?_eq_some_iff.1 hX).1)
theorem rows_nil (W : World) (Q : Nat → Prop) (n : Nd) (h1 : n.ws = []) (h2 : n.rs = []) (h3 : n.ks = []) : Rows W Q n (.slice none 0 0) (.slice none 0 0) (.slice none 0 0) := by
  refine ⟨?_, ?_, ?_, fun g hg => (by cases hg), fun g hg => (by cases hg), fun g hg => (by cases hg)⟩
  · rw [h1]; exact World.ownsRow_nil _ _ _ _
  · rw [h2]; exact World.ownsRow_nil _ _ _ _
  · rw [h3]; exact World.ownsRow_nil _ _ _ _
/-- The nodes that were put: their row, whose rows lie in blocks of P. -/
def RowN (W : World) (B : Nat) (P : Nat → Prop) (v : Value) (l : List Nd) : Prop := ∃ zs : List NV, zs.map (·.1) = l ∧ W.ownsRow B ndT 8 v l.length (zs.flatMap nz) ∧ ∀ x ∈ zs, Rows W P x.1 x.2.1 x.2.2.1 x.2.2.2
/-- Tokens that are read. -/
def ToksAt (W : World) (B : Nat) (u : Value) (ts : List Tok) : Prop := ∃ g o c, u = .slice (some ⟨g, o, none⟩) ts.length c ∧ ts.length ≤ c ∧ c ≤ maxLen ∧ g < B ∧ ∀ (j : Nat) (x : Value), (ts.flatMap tkC)[j]? = some x → W.cell? ⟨g, o + j, none⟩ = some x
/-- Tokens as the lexer tells them. -/
def TokOk (t : Tok) : Prop := t.t.length ≤ 100000 ∧ (t.k = 5 → t.t ≠ [] ∧ ∀ c ∈ t.t, 48 ≤ c.toNat ∧ c.toNat ≤ 57)
structure TsOk (ts : List Tok) : Prop where
  last : ∃ l t, ts = l ++ [t] ∧ t.k = 4
  each : ∀ t ∈ ts, TokOk t
  few : ts.length ≤ 10000
/-- What lies where it was laid: the reserved words, an error. -/
abbrev gRes : Nat := 1
abbrev gRng : Nat := 9
theorem gRng_at : Tryz.prog.globalNamed "strconv.ErrRange" = some gRng := by kernel_rfl
structure Glb (W : World) (B : Nat) : Prop where
  res : ∃ g o c, W.cell? ⟨gRes, 0, none⟩ = some (.slice (some ⟨g, o, none⟩) resL.length c) ∧ g < B ∧ ∀ j (hj : j < resL.length), W.cell? ⟨g, o + j, none⟩ = some (.string (str resL[j]))
  rng : ∃ tp p, W.var? Tryz.prog "strconv.ErrRange" = some #[.iface tp p]
  l1 : gRes < B
  l2 : gRng < B
theorem Glb.below {W W' : World} {B : Nat} (h : Glb W B) (hb : Below B W W') : Glb W' B := by
  obtain ⟨g, o, c, h1, h2, h3⟩ := h.res
  refine ⟨⟨g, o, c, ?_, h2, fun j hj => ?_⟩, ?_, h.l1, h.l2⟩
  · unfold World.cell? at h1 ⊢
    rw [hb.block _ h.l1]; exact h1
  · have h4 := h3 j hj
    unfold World.cell? at h4 ⊢
    rw [hb.block _ h2]; exact h4
  · obtain ⟨tp, p, h5⟩ := h.rng
    refine ⟨tp, p, ?_⟩
    unfold World.var? at h5 ⊢
    rw [gRng_at] at h5 ⊢
    simp only [Option.bind_some] at h5 ⊢
    rw [hb.block _ h.l2]
    exact h5
theorem Glb.less {W : World} {B B' : Nat} (h : Glb W B) (hb : B ≤ B') : Glb W B' := by
  obtain ⟨g, o, c, h1, h2, h3⟩ := h.res
  exact ⟨⟨g, o, c, h1, Nat.lt_of_lt_of_le h2 hb, h3⟩, h.rng, Nat.lt_of_lt_of_le h.l1 hb, Nat.lt_of_lt_of_le h.l2 hb⟩
/-- A reader in block b: its nodes' row v. -/
structure Rd (W : World) (b B : Nat) (P : Nat → Prop) (v : Value) (s : S) (d : Nat) : Prop where
  box : ∃ u, W.heap[b]? = some (.cells #[v, u, .int .i64 (d : Int)] yrT) ∧ ToksAt W B u s.2
  bB : B ≤ b
  row : RowN W B P v s.1
  ok : TsOk s.2
  dd : d ≤ 40
  gl : Glb W B
theorem Rd.lt {W : World} {b B : Nat} {P : Nat → Prop} {v : Value} {s : S} {d : Nat} (h : Rd W b B P v s d) : b < W.heap.size := by
  obtain ⟨u, h1, _⟩ := h.box
  exact (Array.getElem?_eq_some_iff.1 h1).1
theorem Rd.own {W : World} {b B : Nat} {P : Nat → Prop} {v : Value} {s : S} {d : Nat} (h : Rd W b B P v s d) : ∀ g, v.ownBlock = some g → B ≤ g ∧ g < W.heap.size := by
  obtain ⟨zs, _, h2, _⟩ := h.row
  exact h2.lt
theorem Rd.size {W : World} {b B : Nat} {P : Nat → Prop} {v : Value} {s : S} {d : Nat} (h : Rd W b B P v s d) : B ≤ W.heap.size := Nat.le_of_lt (Nat.lt_of_le_of_lt h.bB h.lt)
theorem Rd.own_ne {W : World} {b B : Nat} {P : Nat → Prop} {v : Value} {s : S} {d : Nat} (h : Rd W b B P v s d) {q : Nat} {X : Array Value} {t : TypeId} {fr : Nat × Nat} (hq : W.heap[q]? = some (.cells X t fr)) (hn : t ≠ ndT) : v.ownBlock ≠ some q := by
  obtain ⟨zs, _, h2, _⟩ := h.row
  exact Go.Proofs.YtiklkhbfilbpeaaGreatDoor.own_ne (k' := 0) h2 hq (fun e => hn e.symm)
theorem ToksAt.below {W W' : World} {B : Nat} {u : Value} {ts : List Tok} (h : ToksAt W B u ts) (hb : Below B W W') : ToksAt W' B u ts := by
  obtain ⟨g, o, c, h1, h2, h3, h4, h5⟩ := h
  refine ⟨g, o, c, h1, h2, h3, h4, fun j x hx => ?_⟩
  have h6 := h5 j x hx
  unfold World.cell? at h6 ⊢
  rw [hb.block g h4]
  exact h6
theorem RowN.keep {W W' : World} {B : Nat} {P : Nat → Prop} {v : Value} {l : List Nd} (h : RowN W B P v l) (hv : ∀ g X, v.ownBlock = some g → W.heap[g]? = some (.cells X ndT) → W'.heap[g]? = W.heap[g]?) (hk : ∀ (g : Nat) (X : Array Value) (t : TypeId), P g → W.heap[g]? = some (.cells X t) → rowT t → W'.heap[g]? = W.heap[g]?) : RowN W' B P v l := by
  obtain ⟨zs, h1, h2, h3⟩ := h
  exact ⟨zs, h1, own_keep h2 hv, fun x hx => (h3 x hx).keep hk⟩
theorem RowN.less {W : World} {B : Nat} {P P' : Nat → Prop} {v : Value} {l : List Nd} (h : RowN W B P v l) (hq : ∀ g, P g → g < W.heap.size → P' g) : RowN W B P' v l := by
  obtain ⟨zs, h1, h2, h3⟩ := h
  exact ⟨zs, h1, h2, fun x hx => (h3 x hx).less hq⟩
theorem Rd.below {W W' : World} {b B : Nat} {P : Nat → Prop} {v : Value} {s : S} {d : Nat} (h : Rd W b B P v s d) (hb : Below W.heap.size W W') : Rd W' b B P v s d := by
  obtain ⟨u, h1, h2⟩ := h.box
  exact ⟨⟨u, (hb.block b h.lt).trans h1, h2.below (hb.mono h.size)⟩, h.bB, h.row.keep (fun g X _ hX => hb.block g (Array.getElem?_eq_some_iff.1 hX).1) (fun g X t _ hX _ => hb.block g (Array.getElem?_eq_some_iff.1 hX).1), h.ok, h.dd, h.gl.below (hb.mono h.size)⟩
theorem Rd.less {W : World} {b B : Nat} {P P' : Nat → Prop} {v : Value} {s : S} {d : Nat} (h : Rd W b B P v s d) (hq : ∀ g, P g → g < W.heap.size → P' g) : Rd W b B P' v s d := ⟨h.box, h.bB, h.row.less hq, h.ok, h.dd, h.gl⟩
/-- Another block of an owner's turns. -/
theorem Rd.turn {W W' : World} {b B : Nat} {P : Nat → Prop} {v : Value} {s : S} {d : Nat} {o : Option Nat} (h : Rd W b B P v s d) (hg : W.grownBy W' o) (ho : ∀ g, o = some g → g < W.heap.size → B ≤ g ∧ g ≠ b ∧ v.ownBlock ≠ some g ∧ (P g → ∀ X t, W.heap[g]? = some (.cells X t) → ¬ rowT t)) : Rd W' b B P v s d := by
  obtain ⟨u, h1, h2⟩ := h.box
  have hB := h.size
  have hbl : Below B W W' := ⟨hg.os, hg.tape, hg.output, hg.size, fun k hk => hg.block k (by omega) (fun e => by have := (ho k e.symm (by omega)).1; omega)⟩
  refine ⟨⟨u, (hg.block b h.lt (fun e => (ho b e.symm h.lt).2.1 rfl)).trans h1, h2.below hbl⟩, h.bB, h.row.keep (fun g X hv hX => ?_) (fun g X t hP hX hT => ?_), h.ok, h.dd, h.gl.below hbl⟩
  · have hl := (Array.getElem?_eq_some_iff.1 hX).1
    exact hg.block g hl (fun e => (ho g e.symm hl).2.2.1 hv)
  · have hl := (Array.getElem?_eq_some_iff.1 hX).1
    exact hg.block g hl (fun e => (ho g e.symm hl).2.2.2 hP X t hX hT)
theorem yr_cells {W : World} {b : Nat} {c0 c1 c2 : Value} (h : W.heap[b]? = some (.cells #[c0, c1, c2] yrT)) :
    (W.cell? ⟨b, 0, none⟩ = some c0 ∧ W.cell? ⟨b, 1, none⟩ = some c1 ∧ W.cell? ⟨b, 2, none⟩ = some c2) ∧ W.frozen? ⟨b, 0, none⟩ = false ∧ W.frozen? ⟨b, 1, none⟩ = false ∧ W.frozen? ⟨b, 2, none⟩ = false := by
  simp [World.cell?, World.frozen?, h]
theorem nd_cells {W : World} {b : Nat} {c0 c1 c2 c3 c4 c5 c6 c7 : Value} (h : W.heap[b]? = some (.cells #[c0, c1, c2, c3, c4, c5, c6, c7] ndT)) :
    (W.cell? ⟨b, 0, none⟩ = some c0 ∧ W.cell? ⟨b, 1, none⟩ = some c1 ∧ W.cell? ⟨b, 2, none⟩ = some c2 ∧ W.cell? ⟨b, 3, none⟩ = some c3 ∧ W.cell? ⟨b, 4, none⟩ = some c4 ∧ W.cell? ⟨b, 5, none⟩ = some c5 ∧ W.cell? ⟨b, 6, none⟩ = some c6 ∧ W.cell? ⟨b, 7, none⟩ = some c7) ∧
    W.frozen? ⟨b, 0, none⟩ = false ∧ W.frozen? ⟨b, 1, none⟩ = false ∧ W.frozen? ⟨b, 2, none⟩ = false ∧ W.frozen? ⟨b, 3, none⟩ = false ∧ W.frozen? ⟨b, 4, none⟩ = false ∧ W.frozen? ⟨b, 5, none⟩ = false ∧ W.frozen? ⟨b, 6, none⟩ = false ∧ W.frozen? ⟨b, 7, none⟩ = false := by
  simp [World.cell?, World.frozen?, h]
theorem tk_cells {W : World} {b : Nat} {c0 c1 c2 c3 : Value} (h : W.heap[b]? = some (.cells #[c0, c1, c2, c3] tkT)) :
    (W.cell? ⟨b, 0, none⟩ = some c0 ∧ W.cell? ⟨b, 1, none⟩ = some c1 ∧ W.cell? ⟨b, 2, none⟩ = some c2 ∧ W.cell? ⟨b, 3, none⟩ = some c3) ∧
    W.frozen? ⟨b, 0, none⟩ = false ∧ W.frozen? ⟨b, 1, none⟩ = false ∧ W.frozen? ⟨b, 2, none⟩ = false ∧ W.frozen? ⟨b, 3, none⟩ = false := by
  simp [World.cell?, World.frozen?, h]
/-- What a reader's step turns: its own block, its nodes' row; all else is new. -/
structure Turn (b : Nat) (v : Value) (W : World) (v' : Value) (W' : World) : Prop where
  os : W'.os = W.os
  tape : W'.tape = W.tape
  output : W'.output = W.output
  size : W.heap.size ≤ W'.heap.size
  block : ∀ k, k < W.heap.size → k ≠ b → v.ownBlock ≠ some k → W'.heap[k]? = W.heap[k]?
  own : ∀ g, v'.ownBlock = some g → g < W.heap.size → v.ownBlock = some g
theorem Turn.of_below {b : Nat} {v : Value} {W W' : World} (h : Below W.heap.size W W') : Turn b v W v W' := ⟨h.os, h.tape, h.output, h.size, fun k hk _ _ => h.block k hk, fun g hg _ => hg⟩
theorem Turn.refl (b : Nat) (v : Value) (W : World) : Turn b v W v W := .of_below (Below.refl _ _)
theorem Turn.of_box {b : Nat} {v : Value} {W W' : World} (h : W.grownBy W' (some b)) : Turn b v W v W' := ⟨h.os, h.tape, h.output, h.size, fun k hk hs _ => h.block k hk (fun e => hs (Option.some.inj e)), fun g hg _ => hg⟩
theorem Turn.trans {b : Nat} {v v1 v2 : Value} {W W1 W2 : World} (h : Turn b v W v1 W1) (h' : Turn b v1 W1 v2 W2) : Turn b v W v2 W2 :=
  ⟨h'.os.trans h.os, h'.tape.trans h.tape, h'.output.trans h.output, Nat.le_trans h.size h'.size, fun k hk h1 h3 => (h'.block k (Nat.lt_of_lt_of_le hk h.size) h1 (fun e => h3 (h.own k e hk))).trans (h.block k hk h1 h3), fun g hg hl => h.own g (h'.own g hg (Nat.lt_of_lt_of_le hl h.size)) hl⟩
theorem Turn.below {b B : Nat} {v v' : Value} {W W' : World} (h : Turn b v W v' W') (hb : B ≤ b) (ho : ∀ g, v.ownBlock = some g → B ≤ g) (hB : B ≤ W.heap.size) : Below B W W' :=
  ⟨h.os, h.tape, h.output, h.size, fun k hk => h.block k (by omega) (by omega) (fun e => by have := ho k e; omega)⟩
theorem Turn.belowB {b B : Nat} {P : Nat → Prop} {v v' : Value} {s : S} {d : Nat} {W W' : World} (h : Turn b v W v' W') (hr : Rd W b B P v s d) : Below B W W' := h.below hr.bB (fun g hg => (hr.own g hg).1) hr.size
/-- Another own row's turns, of what is new. -/
theorem Turn.grown {b : Nat} {v v' : Value} {W W1 W2 : World} {o : Option Nat} (h : Turn b v W v' W1) (hg : W1.grownBy W2 o) (ho : ∀ g, o = some g → W.heap.size ≤ g) : Turn b v W v' W2 :=
  ⟨hg.os.trans h.os, hg.tape.trans h.tape, hg.output.trans h.output, Nat.le_trans h.size hg.size, fun k hk h1 h3 => (hg.block k (Nat.lt_of_lt_of_le hk h.size) (fun e => by have := ho k e.symm; omega)).trans (h.block k hk h1 h3), h.own⟩
/-- What ends a step: a panic, or a value and what is left. -/
def Post {α : Type} (enc : α → Value → Prop) (W : World) (b B : Nat) (P : Nat → Prop) (v : Value) (d : Nat) (x : Sy.P α) (r : Ending) (W' : World) : Prop :=
  match x with
  | .error e => r = panY e.1 e.2 ∧ Below B W W'
  | .ok y => ∃ u v', r = .returned u ∧ enc y.1 u ∧ Turn b v W v' W' ∧ Rd W' b B P v' y.2 d
abbrev eN (k : Nat) (u : Value) : Prop := u = .int .i64 (k : Int)
abbrev eU (_ : Unit) (u : Value) : Prop := u = .tuple #[]
abbrev eS (s : Nm) (u : Value) : Prop := u = .string (str s)
theorem TsOk.tk {s : S} (h : TsOk s.2) : TsOk (tk s).2 := by
  unfold Sy.tk
  split
  · exact h
  · rename_i hk
    obtain ⟨l, t, h1, h2⟩ := h.last
    show TsOk s.2.tail
    cases l with
    | nil =>
      rw [List.nil_append] at h1
      unfold nx at hk
      rw [h1] at hk
      exact absurd h2 hk
    | cons a l =>
      rw [h1]
      exact ⟨⟨l, t, rfl, h2⟩, fun u hu => h.each u (by rw [h1]; exact List.mem_cons_of_mem _ hu), by have := h.few; rw [h1] at this; simp at this ⊢; omega⟩
theorem TsOk.ne {ts : List Tok} (h : TsOk ts) : ts ≠ [] := by
  obtain ⟨l, t, h1, _⟩ := h.last
  rw [h1]; simp
theorem TsOk.lns {s : S} (h : TsOk s.2) : TsOk (lns s).2 := by
  obtain ⟨ns, ts⟩ := s
  show TsOk (dropL ts)
  induction ts with
  | nil => exact h
  | cons t l ih =>
    unfold dropL
    split
    · rename_i hk
      exact ih (by have := h.tk (s := (ns, t :: l)); unfold Sy.tk at this; rw [if_neg (by show ¬ t.k = 4; omega)] at this; exact this)
    · exact h
end Go.Proofs.YtiklkhbfilbpeaaGreatDoor.Sx
set_option linter.unusedVariables false
set_option linter.unusedSimpArgs false
set_option maxRecDepth 100000
namespace Go.Proofs.YtiklkhbfilbpeaaGreatDoor.Sx
open Go.RowKit Base Lx Sy
theorem idx_tk {g o n c : Nat} (j : Nat) (hj : j < n) (kd : IntKind) (w' : World) : (Instr.indexAt 39 (.slice (some ⟨g, o, none⟩) n c) (.int kd (j : Int))).run Tryz.prog w' = .ok (.pointer (some ⟨g, o + j * 4, none⟩)) w' := by
  obtain ⟨i, hi, _, hs, _⟩ := info_parts info_tk
  have he : Tryz.prog.elem 39 = tkT := by simp [Program.elem, Tryz.underlying39]
  rw [run_indexAt_slice w' 39 _ n c kd j (by rw [he]; exact Tryz.underlying39), if_pos ⟨by omega, by omega⟩, he]
  simp [sizeOf, typeInfo, hi, hs, Result.andThen, Addr.add_lit]
theorem fld_yr (b o k : Nat) (hk : k < 3) (w : World) : (Instr.fieldAt yrT (.pointer (some ⟨b, o, none⟩)) k).run Tryz.prog w = .ok (.pointer (some ⟨b, o + k, none⟩)) w := by
  match k, hk with
  | 0, _ => rfl
  | 1, _ => rfl
  | 2, _ => rfl
theorem fld_nd (b o k : Nat) (hk : k < 8) (w : World) : (Instr.fieldAt ndT (.pointer (some ⟨b, o, none⟩)) k).run Tryz.prog w = .ok (.pointer (some ⟨b, o + k, none⟩)) w := by
  match k, hk with
  | 0, _ => rfl
  | 1, _ => rfl
  | 2, _ => rfl
  | 3, _ => rfl
  | 4, _ => rfl
  | 5, _ => rfl
  | 6, _ => rfl
  | 7, _ => rfl
/-- A token's cells. -/
structure TkAt (W : World) (g o : Nat) (t : Tok) : Prop where
  c0 : W.cell? ⟨g, o, none⟩ = some (.int .i64 (t.k : Int))
  c1 : W.cell? ⟨g, o + 1, none⟩ = some (.string (str t.t))
  c2 : W.cell? ⟨g, o + 2, none⟩ = some (.string (str t.b))
  c3 : W.cell? ⟨g, o + 3, none⟩ = some (.int .i64 (t.ln : Int))
theorem toks_tk {W : World} {B : Nat} {u : Value} {ts : List Tok} (h : ToksAt W B u ts) : ∃ g o c, u = .slice (some ⟨g, o, none⟩) ts.length c ∧ ts.length ≤ c ∧ c ≤ maxLen ∧ ∀ j (hj : j < ts.length), TkAt W g (o + j * 4) ts[j] := by
  obtain ⟨g, o, c, h1, h2, h3, h4, h5⟩ := h
  refine ⟨g, o, c, h1, h2, h3, fun j hj => ?_⟩
  have k : ∀ (i : Nat) (x : Value), (tkC ts[j])[i]? = some x → W.cell? ⟨g, o + j * 4 + i, none⟩ = some x := fun i x hx => by
    rw [Nat.add_assoc]
    exact h5 _ _ (Ap.flat_at tkC_len ts j _ (List.getElem?_eq_getElem hj) i x hx)
  exact ⟨k 0 _ rfl, k 1 _ rfl, k 2 _ rfl, k 3 _ rfl⟩
theorem nx_at {s : S} {t : Tok} {l : List Tok} (h : s.2 = t :: l) : nx s = t := by unfold nx; rw [h]; rfl
/-- What is next, and where. -/
theorem Rd.head {W : World} {b B : Nat} {P : Nat → Prop} {v : Value} {s : S} {d : Nat} (h : Rd W b B P v s d) : ∃ g o c n, n = s.2.length ∧ 0 < n ∧ n ≤ c ∧ c ≤ maxLen ∧ W.heap[b]? = some (.cells #[v, .slice (some ⟨g, o, none⟩) n c, .int .i64 (d : Int)] yrT) ∧ TkAt W g o (nx s) := by
  obtain ⟨u, hbx, htk⟩ := h.box
  obtain ⟨g, o, c, rfl, hle, hcm, hat⟩ := toks_tk htk
  have hne := h.ok.ne
  have hpos : 0 < s.2.length := List.length_pos_iff.2 hne
  have hnx : nx s = s.2[0] := by
    obtain ⟨t, l, hs⟩ := List.exists_cons_of_ne_nil hne
    rw [nx_at hs]
    simp only [hs]
    rfl
  have h0 := hat 0 hpos
  rw [← hnx, Nat.zero_mul, Nat.add_zero] at h0
  exact ⟨g, o, c, _, rfl, hpos, hle, hcm, hbx, h0⟩
theorem new_blk (W : World) (cs : Array Value) (t : TypeId) : ∃ w1 N, W.alloc (.cells cs t) = w1 ∧ W.heap.size = N ∧ w1.heap[N]? = some (.cells cs t) ∧ Below N W w1 ∧ w1.heap.size = N + 1 :=
  ⟨_, _, rfl, rfl, heap_alloc_new W _, (Below.refl W.heap.size W).alloc (Nat.le_refl _) _, World.size_alloc _ _⟩
abbrev zTk : Array Value := #[.int .i64 0, .string ⟨#[]⟩, .string ⟨#[]⟩, .int .i64 0]
/-- Four cells of a block are stored. -/
theorem set4 (w : World) (N : Nat) (t : TypeId) (a0 a1 a2 a3 c0 c1 c2 c3 : Value) (h : w.heap[N]? = some (.cells #[c0, c1, c2, c3] t)) : ∃ w2, (((w.setCell ⟨N, 0, none⟩ a0).setCell ⟨N, 1, none⟩ a1).setCell ⟨N, 2, none⟩ a2).setCell ⟨N, 3, none⟩ a3 = w2 ∧ w2.heap[N]? = some (.cells #[a0, a1, a2, a3] t) ∧ w.grownBy w2 (some N) ∧ w2.heap.size = w.heap.size := by
  refine ⟨_, rfl, ?_, Sl.setCells_grown N [a0, a1, a2, a3] 0 w, Sl.size_setCells N [a0, a1, a2, a3] 0 w⟩
  exact Sl.heap_setCells N t [a0, a1, a2, a3] 0 w [c0, c1, c2, c3] h (by simp)
theorem set1 (w : World) (N i : Nat) (t : TypeId) (a : Value) (cs : Array Value) (h : w.heap[N]? = some (.cells cs t)) : ∃ w2, w.setCell ⟨N, i, none⟩ a = w2 ∧ w2.heap[N]? = some (.cells (cs.setIfInBounds i a) t) ∧ w.grownBy w2 (some N) ∧ w2.heap.size = w.heap.size :=
  ⟨_, rfl, heap_setCell_same w N i cs t a h, Sl.setCells_grown N [a] i w, Sl.size_setCells N [a] i w⟩
theorem below_grown {N : Nat} {W w w2 : World} (h : Below N W w) (hg : w.grownBy w2 (some N)) (hs : N ≤ w.heap.size) : Below N W w2 := h.grown hg hs (fun j hj => by obtain rfl := Option.some.inj hj; exact Nat.le_refl _)
set_option maxHeartbeats 1000000 in
theorem next_calls (W : World) (b B : Nat) (P : Nat → Prop) (v : Value) (s : S) (d : Nat) (h : Rd W b B P v s d) : Calls Tryz.prog 24 #[.pointer (some ⟨b, 0, none⟩)] W fun r W' => r = .returned (tkV (nx s)) ∧ Below W.heap.size W W' := by
  obtain ⟨w1, N, hw1, hN, hn, hb, hz⟩ := new_blk W zTk tkT
  have HR : Hid (Rd w1 b B P v s d) := h.below (by rw [hN]; exact hb)
  have HW1 := Lib.hid hw1
  have HN := Lib.hid hN
  have HB : Hid (Below N W w1) := hb
  have hbN : ¬ b = N := by have := h.lt; omega
  obtain ⟨t, ht⟩ : ∃ t, nx s = t := ⟨_, rfl⟩
  rw [ht]
  clear h hw1 hN hb
  go_enter Tryz.func24, Tryz.ntmps24
  go_upto_region 1 with fail
  rw [HW1.out, HN.out]
  obtain ⟨g, o, c, n, hn2, hpos, hle, hcm, hbx, k0, k1, k2, k3⟩ := HR.out.head
  obtain ⟨⟨c0, c1, c2⟩, f0, f1, f2⟩ := yr_cells hbx
  obtain ⟨⟨n0, n1, n2, n3⟩, q0, q1, q2, q3⟩ := tk_cells hn
  have XI := fun w' => idx_tk (g := g) (o := o) (n := n) (c := c) 0 hpos .i64 w'
  simp only [Nat.zero_mul, Nat.add_zero, Int.cast_ofNat_Int] at XI
  rw [ht] at k0 k1 k2 k3
  clear hn2 ht
  go_wp2_with fail
  obtain ⟨w2, hw2, h2, hg2, _⟩ := set4 w1 N tkT (.int .i64 (t.k : Int)) (.string (str t.t)) (.string (str t.b)) (.int .i64 (t.ln : Int)) _ _ _ _ hn
  rw [hw2]
  obtain ⟨⟨y0, y1, y2, y3⟩, _⟩ := tk_cells h2
  refine bodyPost_ret (v := tkV t) (by simp [results, Tryz.results24, go_sem, y0, y1, y2, y3, tkV]) rfl ?_
  have hle2 : N ≤ w1.heap.size := by omega
  rw [HN.out]
  exact ⟨rfl, below_grown HB.out hg2 hle2⟩
theorem fld_tkV0 (t : Tok) (w : World) : (Instr.field tkT (tkV t) 0).run Tryz.prog w = .ok (.int .i64 (t.k : Int)) w := by rfl
theorem fld_tkV1 (t : Tok) (w : World) : (Instr.field tkT (tkV t) 1).run Tryz.prog w = .ok (.string (str t.t)) w := by rfl
theorem fld_tkV2 (t : Tok) (w : World) : (Instr.field tkT (tkV t) 2).run Tryz.prog w = .ok (.string (str t.b)) w := by rfl
theorem fld_tkV3 (t : Tok) (w : World) : (Instr.field tkT (tkV t) 3).run Tryz.prog w = .ok (.int .i64 (t.ln : Int)) w := by rfl
/-- A call whose contract is a 'Post' of an error. -/
theorem fail_calls (W : World) (b B : Nat) (P : Nat → Prop) (v : Value) (s : S) (d : Nat) (h : Rd W b B P v s d) (e : Int) : Calls Tryz.prog 25 #[.pointer (some ⟨b, 0, none⟩), .int .i64 e] W fun r W' => r = panY e (nx s).ln ∧ Below W.heap.size W W' := by
  have HC := Lib.hid (next_calls W b B P v s d h)
  generalize nx s = t at *
  have F3 := fld_tkV3 t
  clear h
  go_enter Tryz.func25, Tryz.ntmps25
  go_wp2_with fail
  refine HC.out.mono ?_
  rintro r w2 ⟨rfl, hb⟩
  have HB := Lib.hid hb
  clear hb
  go_wp2_with fail
  exact ⟨rfl, rfl, HB.out⟩
theorem sl_tk {g o n c : Nat} (h2 : 2 ≤ n) (hc : n ≤ c) (w' : World) : (Instr.slice 39 (.slice (some ⟨g, o, none⟩) n c) (some (.int .i64 1)) none none).run Tryz.prog w' = .ok (.slice (some ⟨g, o + 4, none⟩) (n - 1) (c - 1)) w' := by
  obtain ⟨i, hi, _, hs, _⟩ := info_parts info_tk
  have he : Tryz.prog.elem 39 = tkT := by simp [Program.elem, Tryz.underlying39]
  have hsz : (sizeOf tkT).run Tryz.prog w' = .ok 4 w' := by simp [sizeOf, typeInfo, hi, hs]
  have := run_slice_l w' 39 (some ⟨g, o, none⟩) n c (by rw [he]; exact Tryz.underlying39) .i64 1 (by omega) (by omega)
  rw [he, hsz] at this
  rw [this]
  have hc1 : ¬ c = 1 := by omega
  simp [Result.andThen, sliced, hc1, Addr.add_lit]
/-- The reader's tokens, one fewer. -/
theorem Rd.took {W : World} {b B : Nat} {P : Nat → Prop} {v : Value} {s : S} {d g o c n : Nat} (h : Rd W b B P v s d) (hk : (nx s).k ≠ 4) (hn : n = s.2.length) (hbx : W.heap[b]? = some (.cells #[v, .slice (some ⟨g, o, none⟩) n c, .int .i64 (d : Int)] yrT)) :
    2 ≤ n ∧ Rd (W.setCell ⟨b, 1, none⟩ (.slice (some ⟨g, o + 4, none⟩) (n - 1) (c - 1))) b B P v (tk s) d ∧ Turn b v W v (W.setCell ⟨b, 1, none⟩ (.slice (some ⟨g, o + 4, none⟩) (n - 1) (c - 1))) := by
  have hok := h.ok.tk
  have ht : (tk s) = (s.1, s.2.tail) := by unfold Sy.tk; rw [if_neg hk]
  rw [ht] at hok ⊢
  obtain ⟨ns, ts⟩ := s
  simp only at hok ht hn ⊢
  cases ts with
  | nil => exact absurd rfl h.ok.ne
  | cons t l =>
    have hl : l ≠ [] := hok.ne
    have hl2 : 0 < l.length := List.length_pos_iff.2 hl
    simp only [List.length_cons] at hn
    obtain ⟨u, hb2, htk⟩ := h.box
    rw [hbx] at hb2
    injection hb2 with hb2
    injection hb2 with hb2
    have hu : u = .slice (some ⟨g, o, none⟩) n c := by have := congrArg (fun x : Array Value => x[1]?) hb2; simp at this; exact this.symm
    obtain ⟨g', o', c', hu2, h2, h3, h4, h5⟩ := htk
    rw [hu] at hu2
    injection hu2 with q1 q2 q3
    injection q1 with q1
    injection q1 with q1 q4 _
    subst q1 q3 q4
    have hset := heap_setCell_same W b 1 _ _ (.slice (some ⟨g, o + 4, none⟩) (n - 1) (c - 1)) hbx
    have hgr : W.grownBy (W.setCell ⟨b, 1, none⟩ (.slice (some ⟨g, o + 4, none⟩) (n - 1) (c - 1))) (some b) := Sl.setCells_grown b [_] 1 W
    have hlt := h.lt
    have hbB := h.bB
    refine ⟨by omega, ⟨⟨_, hset, ⟨g, o + 4, c - 1, ?_, ?_, by omega, h4, fun j x hx => ?_⟩⟩, hbB, h.row.keep (fun k X _ hX => ?_) (fun k X t _ hX hy => ?_), hok, h.dd, h.gl.below ⟨hgr.os, hgr.tape, hgr.output, hgr.size, fun k hk => hgr.block k (by omega) (fun e => by have := Option.some.inj e; omega)⟩⟩, Turn.of_box hgr⟩
    · show Value.slice _ (n - 1) _ = _
      rw [hn]; simp
    · simp at h2 ⊢; omega
    · have h6 : ((t :: l).flatMap tkC)[4 + j]? = some x := by
        rw [List.flatMap_cons, List.getElem?_append_right (by rw [tkC_len]; omega), tkC_len]
        rw [show 4 + j - 4 = j by omega]; exact hx
      have h7 := h5 _ _ h6
      have h8 : g ≠ b := by omega
      unfold World.cell? at h7 ⊢
      rw [hgr.block g (by omega) (fun e => h8 (Option.some.inj e))]
      simp only at h7 ⊢
      rw [Nat.add_assoc]
      exact h7
    · refine hgr.block k (Array.getElem?_eq_some_iff.1 hX).1 (fun e => ?_)
      obtain rfl := Option.some.inj e
      rw [hbx] at hX
      injection hX with hX
      injection hX with _ hT _
      exact absurd hT (by decide)
    · refine hgr.block k (Array.getElem?_eq_some_iff.1 hX).1 (fun e => ?_)
      obtain rfl := Option.some.inj e
      rw [hbx] at hX
      injection hX with hX
      injection hX with _ hT _
      rw [← hT] at hy
      exact rowT_no.2.1 hy
set_option maxHeartbeats 2000000 in
theorem take_calls (W : World) (b B : Nat) (P : Nat → Prop) (v : Value) (s : S) (d : Nat) (h : Rd W b B P v s d) : Calls Tryz.prog 54 #[.pointer (some ⟨b, 0, none⟩)] W fun r W' => r = .returned (tkV (nx s)) ∧ Turn b v W v W' ∧ Rd W' b B P v (tk s) d := by
  obtain ⟨w1, N, hw1, hN, hn, hb, hz⟩ := new_blk W zTk tkT
  have HR : Hid (Rd w1 b B P v s d) := h.below (by rw [hN]; exact hb)
  have HW1 := Lib.hid hw1
  have HN := Lib.hid hN
  have HNn := Lib.hid hn
  have HZ := Lib.hid hz
  have HB : Hid (Below N W w1) := hb
  have HbN : Hid (b < N ∧ B ≤ N) := by have := h.lt; have := h.bB; show _ ∧ _; omega
  have HR0 := Lib.hid h
  clear h hw1 hN hb hn hz
  go_enter Tryz.func54, Tryz.ntmps54
  go_upto_region 1 with fail
  rw [HW1.out, HN.out]
  go_wp2_with fail
  refine (next_calls w1 b B P v s d HR.out).mono ?_
  rintro r w2 ⟨rfl, hb2⟩
  have HR2 := Lib.hid (HR.out.below hb2)
  have HB2 : Hid (Below N W w2) := HB.out.trans (hb2.mono (by have := HZ.out; omega))
  have HNn2 : Hid (w2.heap[N]? = some (.cells zTk tkT)) := (hb2.block N (by have := HZ.out; omega)).trans HNn.out
  have HZ2 : Hid (N < w2.heap.size) := Nat.lt_of_lt_of_le (by have := HZ.out; omega) hb2.size
  obtain ⟨t, ht⟩ : ∃ t, nx s = t := ⟨_, rfl⟩
  rw [ht]
  have HT := Lib.hid ht
  clear hb2 ht
  unfold tkV
  go_upto_region 2 with fail
  obtain ⟨w3, N3, hw3, hN3, hn3, hb3, hz3⟩ := new_blk w2 #[.int .i64 (t.k : Int), .string (str t.t), .string (str t.b), .int .i64 (t.ln : Int)] tkT
  rw [hw3, hN3]
  have hb3' : Below w2.heap.size w2 w3 := by rw [hN3]; exact hb3
  have HR3 := Lib.hid (HR2.out.below hb3')
  have HB3 : Hid (Below N W w3) := HB2.out.trans (hb3.mono (by have := HZ2.out; omega))
  have HNn3 : Hid (w3.heap[N]? = some (.cells zTk tkT)) := (hb3'.block N HZ2.out).trans HNn2.out
  have HZ3 : Hid (N < w3.heap.size ∧ N3 < w3.heap.size ∧ N < N3) := by have := HZ2.out; show _ ∧ _ ∧ _; omega
  obtain ⟨⟨n0, n1, n2, n3⟩, q0, q1, q2, q3⟩ := tk_cells hn3
  have HC3 := Lib.hid hn3
  clear hw3 hN3 hn3 hb3 hz3 hb3'
  by_cases hk : t.k = 4
  · have e1 : ((t.k : Int) == 4) = true := by simp; omega
    have e2 : ((t.k : Int) != 4) = false := by simp; omega
    have e3 : decide ((t.k : Int) = 4) = true := by simp; omega
    have HK : Hid (tk s = s) := by show _ = _; unfold Sy.tk; rw [HT.out, if_pos hk]
    clear hk
    go_upto_region 4 with fail
    obtain ⟨⟨m0, m1, m2, m3⟩, r0, r1, r2, r3⟩ := tk_cells HNn3.out
    go_wp2_with fail
    obtain ⟨w5, hw5, h5, hg5, _⟩ := set4 w3 N tkT (.int .i64 (t.k : Int)) (.string (str t.t)) (.string (str t.b)) (.int .i64 (t.ln : Int)) _ _ _ _ HNn3.out
    rw [hw5]
    have hb5 : Below W.heap.size W w5 := by have := HZ3.out; rw [HN.out]; exact below_grown HB3.out hg5 (by omega)
    have hr5 : Rd w5 b B P v s d := HR0.out.below hb5
    obtain ⟨⟨y0, y1, y2, y3⟩, _⟩ := tk_cells h5
    refine bodyPost_ret (v := tkV t) (by simp [results, Tryz.results54, go_sem, y0, y1, y2, y3, tkV]) rfl ?_
    rw [HK.out, HT.out]
    exact ⟨rfl, Turn.of_below hb5, hr5⟩
  · have e1 : ((t.k : Int) == 4) = false := by simp; omega
    have e2 : ((t.k : Int) != 4) = true := by simp; omega
    have e3 : decide ((t.k : Int) = 4) = false := by simp; omega
    have hkn : (nx s).k ≠ 4 := by rw [HT.out]; exact hk
    clear hk
    obtain ⟨g, o, c, n, hn2, hpos, hle, hcm, hbx, hat⟩ := HR3.out.head
    obtain ⟨h2n, hrt⟩ := HR3.out.took hkn hn2 hbx
    have HRT := Lib.hid hrt
    have XS := fun w' => sl_tk (g := g) (o := o) (n := n) (c := c) h2n hle w'
    obtain ⟨⟨c0, c1, c2⟩, f0, f1, f2⟩ := yr_cells hbx
    clear hn2 hat hkn hrt hbx
    go_upto_region 4 with fail
    obtain ⟨w4, hw4⟩ : ∃ w4, w3.setCell ⟨b, 1, none⟩ (.slice (some ⟨g, o + 4, none⟩) (n - 1) (c - 1)) = w4 := ⟨_, rfl⟩
    rw [hw4] at HRT ⊢
    have hg4 : w3.grownBy w4 (some b) := by rw [← hw4]; exact Sl.setCells_grown b [_] 1 w3
    have hbN : b ≠ N ∧ b ≠ N3 := by have := HbN.out; have := HZ3.out; omega
    have hN4 := (hg4.block N HZ3.out.1 (fun e => hbN.1 (Option.some.inj e).symm)).trans HNn3.out
    have hC4 := (hg4.block N3 HZ3.out.2.1 (fun e => hbN.2 (Option.some.inj e).symm)).trans HC3.out
    obtain ⟨⟨m0, m1, m2, m3⟩, r0, r1, r2, r3⟩ := tk_cells hN4
    obtain ⟨⟨x0, x1, x2, x3⟩, _⟩ := tk_cells hC4
    clear c0 c1 c2 f0 f1 f2 n0 n1 n2 n3 q0 q1 q2 q3 hw4 XS
    go_wp2_with fail
    obtain ⟨w5, hw5, h5, hg5, _⟩ := set4 w4 N tkT (.int .i64 (t.k : Int)) (.string (str t.t)) (.string (str t.b)) (.int .i64 (t.ln : Int)) _ _ _ _ hN4
    rw [hw5]
    have hr5 : Rd w5 b B P v (tk s) d := HRT.out.1.turn hg5 (fun g e hlt => by
      obtain rfl := Option.some.inj e
      refine ⟨HbN.out.2, fun e => hbN.1 e.symm, HRT.out.1.own_ne hN4 (by decide), fun _ X t hX hT => ?_⟩
      rw [hN4] at hX
      injection hX with hX
      injection hX with _ hT2 _
      rw [← hT2] at hT
      exact rowT_no.2.2 hT)
    have ht5 : Turn b v W v w5 := by
      refine Turn.grown (o := some N) ((Turn.of_below ?_).trans HRT.out.2) hg5 (fun g e => by obtain rfl := Option.some.inj e; rw [HN.out]; exact Nat.le_refl _)
      rw [HN.out]; exact HB3.out
    obtain ⟨⟨y0, y1, y2, y3⟩, _⟩ := tk_cells h5
    refine bodyPost_ret (v := tkV t) (by simp [results, Tryz.results54, go_sem, y0, y1, y2, y3, tkV]) rfl ?_
    rw [HT.out]
    exact ⟨rfl, ht5, hr5⟩
end Go.Proofs.YtiklkhbfilbpeaaGreatDoor.Sx
set_option linter.unusedVariables false
set_option linter.unusedSimpArgs false
set_option maxRecDepth 100000
namespace Go.Proofs.YtiklkhbfilbpeaaGreatDoor.Sx
open Go.RowKit Base Lx Sy
theorem idx_st {g o n c : Nat} (j : Nat) (hj : j < n) (kd : IntKind) (w' : World) : (Instr.indexAt 33 (.slice (some ⟨g, o, none⟩) n c) (.int kd (j : Int))).run Tryz.prog w' = .ok (.pointer (some ⟨g, o + j, none⟩)) w' := by
  obtain ⟨i, hi, _, hs, _⟩ := info_parts info_st
  have he : Tryz.prog.elem 33 = stT := by simp [Program.elem, Tryz.underlying33]
  rw [run_indexAt_slice w' 33 _ n c kd j (by rw [he]; exact Tryz.underlying33), if_pos ⟨by omega, by omega⟩, he]
  simp [sizeOf, typeInfo, hi, hs, Result.andThen, Addr.add_lit]
def iOf (v : Value) : Nat := match v with | .int _ z => z.toNat | _ => 0
def sgn (k : Int) (z : Bool) : Prop := decide (0 ≤ k) = z
set_option maxHeartbeats 1000000 in
theorem index_calls (W : World) (g o c : Nat) (ls : List Nm) (hcs : ∀ j (hj : j < ls.length), W.cell? ⟨g, o + j, none⟩ = some (.string (str ls[j]))) (hl : ls.length ≤ 1000) (x : Nm) :
    Calls Tryz.prog 95 #[.slice (some ⟨g, o, none⟩) ls.length c, .string (str x)] W fun r W' => W' = W ∧ ∃ k : Int, r = .returned (.int .i64 k) ∧ sgn k (ls.contains x) := by
  have HC : Hid (∀ j (hj : j < ls.length), W.cell? ⟨g, o + j, none⟩ = some (.string (str ls[j]))) := hcs
  obtain ⟨n, hn⟩ : ∃ n, ls.length = n := ⟨_, rfl⟩
  have HN := Lib.hid hn
  have hn1 : n ≤ 1000 := by omega
  obtain ⟨z, hz⟩ : ∃ z, ls.contains x = z := ⟨_, rfl⟩
  have HZ := Lib.hid hz
  clear hcs hl
  rw [hn, hz]
  clear hn hz
  go_enter Tryz.func95, Tryz.ntmps95
  go_wp2_with fail
  go_loopw [8] (fun v8 wr => ∃ i : Nat, i ≤ n ∧ v8 = .int .i64 (i : Int) ∧ wr = W ∧ ∀ j (hj : j < ls.length), j < i → ls[j] ≠ x) (fun v8 _ => n - iOf v8)
  case atStart => exact ⟨0, Nat.zero_le _, rfl, rfl, fun j _ hj => absurd hj (Nat.not_lt_zero _)⟩
  case round =>
    obtain ⟨i, hi, rfl, hwr, hall⟩ := hrel
    have HAll := Lib.hid hall
    clear hall
    have hwr2 := hwr.symm
    subst hwr2
    clear hwr
    by_cases hin : i < n
    case neg =>
      obtain rfl : i = n := by omega
      have HF : Hid (sgn (-1) z) := by
        show decide (0 ≤ (-1 : Int)) = _
        rw [← HZ.out]
        rw [show decide (0 ≤ (-1 : Int)) = false from rfl]
        cases hc : ls.contains x with
        | false => rfl
        | true =>
          obtain ⟨j, hj, e⟩ := List.getElem_of_mem (List.contains_iff_mem.1 hc)
          exact absurd e (HAll.out j hj (by have := HN.out; omega))
      have a3 : decide (i < i) = false := decide_eq_false (by omega)
      have a1 : decide ((i : Int) < (i : Int)) = false := decide_eq_false (by omega)
      have a2 : ¬ ((i : Int) < (i : Int)) := by omega
      go_wp2_with fail
      go_ret
      exact ⟨rfl, _, rfl, HF.out⟩
    have hil : i < ls.length := by have := HN.out; omega
    have k0 := HC.out i hil
    have XI := fun w' => idx_st (g := g) (o := o) (n := n) (c := c) i hin .i64 w'
    have a3 : decide (i < n) = true := decide_eq_true (by omega)
    have a1 : decide ((i : Int) < (n : Int)) = true := decide_eq_true (by omega)
    have a2 : (i : Int) < (n : Int) := by omega
    obtain ⟨y, hy⟩ : ∃ y, ls[i] = y := ⟨_, rfl⟩
    rw [hy] at k0
    by_cases he : x = y
    · have HF : Hid (sgn (i : Int) z) := by
        show decide (0 ≤ (i : Int)) = _
        rw [← HZ.out]
        rw [decide_eq_true (by omega), he, ← hy]
        exact (List.contains_iff_mem.2 (List.getElem_mem hil)).symm
      have t1 : ((str x).toList == (str y).toList) = true := by rw [he]; simp
      have t3 : decide (str x = str y) = true := by rw [he]; simp
      clear he hy hil
      go_wp2_with fail
      go_ret
      exact ⟨rfl, _, rfl, HF.out⟩
    · have hne : str x ≠ str y := fun e => he (str_inj e)
      have t1 : ((str x).toList == (str y).toList) = false := by rw [beq_eq_false_iff_ne]; exact fun e => he (by rw [str_toList, str_toList] at e; exact e)
      have t3 : decide (str x = str y) = false := decide_eq_false hne
      have HAl2 : Hid (∀ j (hj : j < ls.length), j < i + 1 → ls[j] ≠ x) := fun j hj hji => by
        by_cases e : j = i
        · subst e; rw [hy]; exact fun e => he e.symm
        · exact HAll.out j hj (by omega)
      clear he hy hil hne
      go_wp2_with fail
      go_roundw
      case rel => exact ⟨i + 1, by omega, by go_num, trivial, HAl2.out⟩
      case measure => simp [iOf]; omega
theorem contains_calls (W : World) (g o c : Nat) (ls : List Nm) (hcs : ∀ j (hj : j < ls.length), W.cell? ⟨g, o + j, none⟩ = some (.string (str ls[j]))) (hl : ls.length ≤ 1000) (x : Nm) :
    Calls Tryz.prog 71 #[.slice (some ⟨g, o, none⟩) ls.length c, .string (str x)] W fun r W' => W' = W ∧ r = .returned (.bool (ls.contains x)) := by
  have HC := Lib.hid (index_calls W g o c ls hcs hl x)
  obtain ⟨n, hn⟩ : ∃ n, ls.length = n := ⟨_, rfl⟩
  obtain ⟨z, hz⟩ : ∃ z, ls.contains x = z := ⟨_, rfl⟩
  rw [hn, hz] at HC ⊢
  clear hcs hl hn hz
  go_enter Tryz.func71, Tryz.ntmps71
  go_wp2_with fail
  refine HC.out.mono ?_
  rintro r w2 ⟨rfl, k, rfl, hk⟩
  have HK := Lib.hid hk
  clear hk
  go_wp2_with fail
  go_ret
  exact ⟨rfl, by rw [← (HK.out : decide (0 ≤ k) = z)]; rfl⟩
/-- Texts laid for a call. -/
theorem lit_at (W : World) (ls : List Nm) : ∀ j (hj : j < ls.length), (W.alloc (.cells (ls.map sv).toArray stT)).cell? ⟨W.heap.size, 0 + j, none⟩ = some (.string (str ls[j])) := fun j hj => by
  have h := heap_alloc_new W (.cells (ls.map sv).toArray stT)
  unfold World.cell?
  simp only [h]
  simp [sv, hj]
def isPost (W : World) (z : Bool) (r : Ending) (W' : World) : Prop := r = .returned (.bool z) ∧ Below W.heap.size W W'
set_option maxHeartbeats 2000000 in
theorem is_calls (W : World) (b B : Nat) (P : Nat → Prop) (v : Value) (s : S) (d : Nat) (h : Rd W b B P v s d) (k : Nat) (g o c : Nat) (ls : List Nm) (hcs : ∀ j (hj : j < ls.length), W.cell? ⟨g, o + j, none⟩ = some (.string (str ls[j]))) (hl : ls.length ≤ 1000) :
    Calls Tryz.prog 53 #[.pointer (some ⟨b, 0, none⟩), .int .i64 (k : Int), .slice (some ⟨g, o, none⟩) ls.length c] W (isPost W (isM k ls s)) := by
  have HC : Hid (∀ j (hj : j < ls.length), W.cell? ⟨g, o + j, none⟩ = some (.string (str ls[j]))) := hcs
  have HX := Lib.hid (next_calls W b B P v s d h)
  obtain ⟨t, ht⟩ : ∃ t, nx s = t := ⟨_, rfl⟩
  have hz : isM k ls s = (decide (t.k = k) && ls.contains t.t) := by unfold isM; rw [ht]
  rw [ht] at HX
  rw [hz]
  obtain ⟨n, hn⟩ : ∃ n, ls.length = n := ⟨_, rfl⟩
  have HL : Hid (ls.length ≤ 1000) := hl
  rw [hn]
  have HN := Lib.hid hn
  clear hcs hl hn ht hz h
  by_cases hk : t.k = k
  · have e1 : ((t.k : Int) == (k : Int)) = true := by simp; omega
    have e3 : decide ((t.k : Int) = (k : Int)) = true := by simp; omega
    rw [decide_eq_true hk, Bool.true_and]
    clear hk
    go_enter Tryz.func53, Tryz.ntmps53
    go_wp2_with fail
    refine HX.out.mono ?_
    rintro r w2 ⟨rfl, hb2⟩
    have HB2 := Lib.hid hb2
    clear hb2
    unfold tkV
    go_upto_region 2 with fail
    obtain ⟨w3, N3, hw3, hN3, hn3, hb3, hz3⟩ := new_blk w2 #[.int .i64 (t.k : Int), .string (str t.t), .string (str t.b), .int .i64 (t.ln : Int)] tkT
    rw [hw3, hN3]
    have HB3 : Hid (Below W.heap.size W w3) := HB2.out.trans (hb3.mono (by have := HB2.out.size; omega))
    obtain ⟨⟨n0, n1, n2, n3⟩, q0, q1, q2, q3⟩ := tk_cells hn3
    clear hw3 hN3 hn3 hb3 hz3
    go_wp2_with fail
    have hc3 := contains_calls w3 g o c ls (fun j hj => cell_below HB3.out (Nat.le_refl _) (HC.out j hj)) HL.out t.t
    rw [HN.out] at hc3
    refine hc3.mono ?_
    rintro r w4 ⟨hw4, rfl⟩
    have HB4 : Hid (Below W.heap.size W w4) := by show Below _ _ _; rw [hw4]; exact HB3.out
    obtain ⟨z, hz⟩ : ∃ z, ls.contains t.t = z := ⟨_, rfl⟩
    rw [hz]
    have HZ := Lib.hid hz
    clear hc3 hw4 hz
    go_wp2_with fail
    go_ret
    exact ⟨by rw [HZ.out]; rfl, HB4.out⟩
  · have e1 : ((t.k : Int) == (k : Int)) = false := by simp; omega
    have e3 : decide ((t.k : Int) = (k : Int)) = false := by simp; omega
    rw [decide_eq_false hk, Bool.false_and]
    clear hk
    go_enter Tryz.func53, Tryz.ntmps53
    go_wp2_with fail
    refine HX.out.mono ?_
    rintro r w2 ⟨rfl, hb2⟩
    have HB2 := Lib.hid hb2
    clear hb2
    unfold tkV
    go_upto_region 2 with fail
    obtain ⟨w3, N3, hw3, hN3, hn3, hb3, hz3⟩ := new_blk w2 #[.int .i64 (t.k : Int), .string (str t.t), .string (str t.b), .int .i64 (t.ln : Int)] tkT
    rw [hw3, hN3]
    have HB3 : Hid (Below W.heap.size W w3) := HB2.out.trans (hb3.mono (by have := HB2.out.size; omega))
    obtain ⟨⟨n0, n1, n2, n3⟩, q0, q1, q2, q3⟩ := tk_cells hn3
    clear hw3 hN3 hn3 hb3 hz3
    go_wp2_with fail
    go_ret
    exact ⟨rfl, HB3.out⟩
theorem is_lit (W : World) (b B : Nat) (P : Nat → Prop) (v : Value) (s : S) (d : Nat) (h : Rd W b B P v s d) (k : Nat) (ls : List Nm) (hl : ls.length ≤ 1000) :
    Calls Tryz.prog 53 #[.pointer (some ⟨b, 0, none⟩), .int .i64 (k : Int), .slice (some ⟨W.heap.size, 0, none⟩) ls.length ls.length] (W.alloc (.cells (ls.map sv).toArray stT)) (isPost W (isM k ls s)) := by
  have hb := (Below.refl W.heap.size W).alloc (Nat.le_refl _) (.cells (ls.map sv).toArray stT)
  refine (is_calls _ b B P v s d (h.below hb) k W.heap.size 0 ls.length ls (lit_at W ls) hl).mono ?_
  rintro r w ⟨rfl, hw⟩
  exact ⟨rfl, hb.trans (hw.mono hb.size)⟩
theorem word_lit (W : World) (b B : Nat) (P : Nat → Prop) (v : Value) (s : S) (d : Nat) (h : Rd W b B P v s d) (ls : List Nm) (hl : ls.length ≤ 1000) :
    Calls Tryz.prog 96 #[.pointer (some ⟨b, 0, none⟩), .slice (some ⟨W.heap.size, 0, none⟩) ls.length ls.length] (W.alloc (.cells (ls.map sv).toArray stT)) (isPost W (isM 1 ls s)) := by
  have HC := Lib.hid (is_lit W b B P v s d h 1 ls hl)
  obtain ⟨z, hz⟩ : ∃ z, isM 1 ls s = z := ⟨_, rfl⟩
  rw [hz] at HC ⊢
  obtain ⟨w1, hw1⟩ : ∃ w1, W.alloc (.cells (ls.map sv).toArray stT) = w1 := ⟨_, rfl⟩
  rw [hw1] at HC ⊢
  obtain ⟨n, hn⟩ : ∃ n, ls.length = n := ⟨_, rfl⟩
  rw [hn] at HC ⊢
  obtain ⟨m, hm⟩ : ∃ m, W.heap.size = m := ⟨_, rfl⟩
  rw [hm] at HC ⊢
  clear hz hw1 hn hm h hl
  go_enter Tryz.func96, Tryz.ntmps96
  go_wp2_with fail
  refine HC.out.mono ?_
  rintro r w2 ⟨rfl, hb⟩
  have HB := Lib.hid hb
  clear hb
  go_wp2_with fail
  go_ret
  exact ⟨rfl, HB.out⟩
set_option maxHeartbeats 2000000 in
theorem need_lit (W : World) (b B : Nat) (P : Nat → Prop) (v : Value) (s : S) (d : Nat) (h : Rd W b B P v s d) (k : Nat) (ls : List Nm) (hl : ls.length ≤ 1000) :
    Calls Tryz.prog 151 #[.pointer (some ⟨b, 0, none⟩), .int .i64 (k : Int), .slice (some ⟨W.heap.size, 0, none⟩) ls.length ls.length] (W.alloc (.cells (ls.map sv).toArray stT)) (Post eU W b B P v d (needM k ls s)) := by
  have HC := Lib.hid (is_lit W b B P v s d h k ls hl)
  have HR := Lib.hid h
  obtain ⟨w1, hw1⟩ : ∃ w1, W.alloc (.cells (ls.map sv).toArray stT) = w1 := ⟨_, rfl⟩
  rw [hw1] at HC ⊢
  obtain ⟨n, hn⟩ : ∃ n, ls.length = n := ⟨_, rfl⟩
  rw [hn] at HC ⊢
  obtain ⟨m, hm⟩ : ∃ m, W.heap.size = m := ⟨_, rfl⟩
  rw [hm] at HC ⊢
  obtain ⟨z, hz⟩ : ∃ z, isM k ls s = z := ⟨_, rfl⟩
  have HX : Hid (needM k ls s = if z = true then .ok ((), tk s) else er 20 s) := by show _ = _; unfold needM; rw [hz]
  rw [hz] at HC
  obtain ⟨X, hX⟩ : ∃ X, needM k ls s = X := ⟨_, rfl⟩
  rw [hX] at HX ⊢
  clear hz hw1 hn hm h hl hX
  go_enter Tryz.func151, Tryz.ntmps151
  go_wp2_with fail
  refine HC.out.mono ?_
  rintro r w2 ⟨rfl, hb⟩
  have HR2 := Lib.hid (HR.out.below hb)
  have HB2 := Lib.hid hb
  clear hb
  cases z with
  | false =>
    go_wp2_with fail
    refine (fail_calls w2 b B P v s d HR2.out 20).mono ?_
    rintro r w3 ⟨rfl, hb3⟩
    refine ⟨rfl, ?_⟩
    rw [show X = er 20 s from HX.out]
    exact ⟨rfl, (HB2.out.trans (hb3.mono HB2.out.size)).mono HR.out.size⟩
  | true =>
    go_wp2_with fail
    refine (take_calls w2 b B P v s d HR2.out).mono ?_
    rintro r w3 ⟨rfl, ht3, hr3⟩
    have HF : Hid (Turn b v W v w3 ∧ Rd w3 b B P v (tk s) d) := ⟨(Turn.of_below HB2.out).trans ht3, hr3⟩
    clear ht3 hr3
    unfold tkV
    go_wp2_with fail
    refine bodyPost_end (v := .tuple #[]) (results_none rfl _ _ _) rfl ?_
    rw [show X = .ok ((), tk s) from HX.out]
    exact ⟨_, v, rfl, rfl, HF.out.1, HF.out.2⟩
end Go.Proofs.YtiklkhbfilbpeaaGreatDoor.Sx
set_option linter.unusedVariables false
set_option linter.unusedSimpArgs false
set_option maxRecDepth 100000
namespace Go.Proofs.YtiklkhbfilbpeaaGreatDoor.Sx
open Go.RowKit Base Lx Sy
theorem post_err {α : Type} {enc : α → Value → Prop} {W : World} {b B : Nat} {P : Nat → Prop} {v : Value} {d : Nat} {x : Sy.P α} {e : Int} {s : S} {W' : World} (hx : x = er e s) (h : Below B W W') : Post enc W b B P v d x (panY e (nx s).ln) W' := by subst hx; exact ⟨rfl, h⟩
theorem post_ok {α : Type} {enc : α → Value → Prop} {W : World} {b B : Nat} {P : Nat → Prop} {v v' : Value} {d : Nat} {x : Sy.P α} {a : α} {s : S} {u : Value} {W' : World} (hx : x = .ok (a, s)) (he : enc a u) (ht : Turn b v W v' W') (hr : Rd W' b B P v' s d) : Post enc W b B P v d x (.returned u) W' := by subst hx; exact ⟨u, v', rfl, he, ht, hr⟩
theorem nat_beq (k m : Nat) : ((k : Int) == (m : Int)) = decide (k = m) := by
  by_cases h : k = m
  · subst h; simp
  · rw [decide_eq_false h, beq_eq_false_iff_ne]; omega
set_option maxHeartbeats 2000000 in
theorem raw_calls (W : World) (b B : Nat) (P : Nat → Prop) (v : Value) (s : S) (d : Nat) (h : Rd W b B P v s d) : Calls Tryz.prog 134 #[.pointer (some ⟨b, 0, none⟩)] W (Post eS W b B P v d (rawM s)) := by
  have HC := Lib.hid (next_calls W b B P v s d h)
  have HR := Lib.hid h
  obtain ⟨X, hX⟩ : ∃ X, rawM s = X := ⟨_, rfl⟩
  have HX := Lib.hid hX
  rw [hX]
  clear h hX
  obtain ⟨t, ht⟩ : ∃ t, nx s = t := ⟨_, rfl⟩
  have HT := Lib.hid ht
  rw [ht] at HC
  clear ht
  have F0 := fld_tkV0 t
  have F1 := fld_tkV1 t
  go_enter Tryz.func134, Tryz.ntmps134
  go_wp2_with fail
  refine HC.out.mono ?_
  rintro r w2 ⟨rfl, hb⟩
  have HR2 := Lib.hid (HR.out.below hb)
  have HB2 := Lib.hid hb
  clear hb
  by_cases hk : t.k = 1
  · have e1 : ((t.k : Int) == 1) = true := by simp; omega
    have e2 : ((t.k : Int) != 1) = false := by simp; omega
    have e3 : decide ((t.k : Int) = 1) = true := by simp; omega
    have HX2 : Hid (X = .ok (t.t, tk s)) := by show _ = _; rw [← HX.out]; unfold rawM; rw [HT.out, if_pos hk]
    clear hk
    go_wp2_with fail
    refine (take_calls w2 b B P v s d HR2.out).mono ?_
    rintro r w3 ⟨rfl, ht3, hr3⟩
    rw [show nx s = t from HT.out]
    have HF : Hid (Turn b v W v w3 ∧ Rd w3 b B P v (tk s) d) := ⟨(Turn.of_below HB2.out).trans ht3, hr3⟩
    clear ht3 hr3
    go_wp2_with fail
    go_ret
    exact post_ok HX2.out rfl HF.out.1 HF.out.2
  · have e1 : ((t.k : Int) == 1) = false := by simp; omega
    have e2 : ((t.k : Int) != 1) = true := by simp; omega
    have e3 : decide ((t.k : Int) = 1) = false := by simp; omega
    have HX2 : Hid (X = er 20 s) := by show _ = _; rw [← HX.out]; unfold rawM; rw [HT.out, if_neg hk]
    clear hk
    go_wp2_with fail
    refine (fail_calls w2 b B P v s d HR2.out 20).mono ?_
    rintro r w3 ⟨rfl, hb3⟩
    exact ⟨rfl, post_err HX2.out ((HB2.out.trans (hb3.mono HB2.out.size)).mono HR.out.size)⟩
def tkLen (w : World) (b : Nat) : Nat := match w.cell? ⟨b, 1, none⟩ with | some (.slice _ n _) => n | _ => 0
theorem rd_len {W : World} {b B : Nat} {P : Nat → Prop} {v : Value} {s : S} {d : Nat} (h : Rd W b B P v s d) : tkLen W b = s.2.length := by
  obtain ⟨g, o, c, n, hn, _, _, _, hbx, _⟩ := h.head
  unfold tkLen
  rw [(yr_cells hbx).1.2.1, hn]
theorem dropL_no {t : Tok} {l : List Tok} (h : t.k ≠ 3) : dropL (t :: l) = t :: l := by rw [dropL, if_neg h]
theorem lns_no {s : S} (h : (nx s).k ≠ 3) : lns s = s := by
  obtain ⟨ns, ts⟩ := s
  cases ts with
  | nil => rfl
  | cons t l => have h : t.k ≠ 3 := h; show (ns, dropL (t :: l)) = _; rw [dropL_no h]
theorem lns_yes {s : S} (h : (nx s).k = 3) : lns s = lns (tk s) := by
  obtain ⟨ns, ts⟩ := s
  cases ts with
  | nil => exact absurd (show (4 : Nat) = 3 from h) (by decide)
  | cons t l =>
    have h : t.k = 3 := h
    have e : tk (ns, t :: l) = (ns, l) := by unfold tk; rw [if_neg (by show ¬ t.k = 4; omega)]; rfl
    rw [e]
    show (ns, dropL (t :: l)) = (ns, dropL l)
    rw [dropL, if_pos h]
set_option maxHeartbeats 2000000 in
theorem lines_calls (W : World) (b B : Nat) (P : Nat → Prop) (v : Value) (s : S) (d : Nat) (h : Rd W b B P v s d) : Calls Tryz.prog 50 #[.pointer (some ⟨b, 0, none⟩)] W fun r W' => r = .returned (.tuple #[]) ∧ Turn b v W v W' ∧ Rd W' b B P v (lns s) d := by
  have HR := Lib.hid h
  clear h
  obtain ⟨L, hL⟩ : ∃ L, lns s = L := ⟨_, rfl⟩
  have HL := Lib.hid hL
  rw [hL]
  clear hL
  go_enter Tryz.func50, Tryz.ntmps50
  go_wp2_with fail
  go_loopw [] (fun wr => ∃ s' : S, lns s' = L ∧ Rd wr b B P v s' d ∧ Turn b v W v wr) (fun wr => tkLen wr b)
  case atStart => exact ⟨s, HL.out, HR.out, Turn.refl _ _ _⟩
  case round =>
    obtain ⟨s', hl, hr, ht⟩ := hrel
    have HL2 := Lib.hid hl
    have HR2 := Lib.hid hr
    have HT2 := Lib.hid ht
    clear hl hr ht
    obtain ⟨t, ht⟩ : ∃ t, nx s' = t := ⟨_, rfl⟩
    have HT := Lib.hid ht
    clear ht
    have F0 := fld_tkV0 t
    go_wp2_with fail
    refine (next_calls wr b B P v s' d HR2.out).mono ?_
    rintro r w2 ⟨rfl, hb⟩
    rw [show nx s' = t from HT.out]
    have HR3 := Lib.hid (HR2.out.below hb)
    have HT3 := Lib.hid (HT2.out.trans (Turn.of_below hb))
    clear hb
    by_cases hk : t.k = 3
    · have e1 : ((t.k : Int) == 3) = true := by simp; omega
      have e3 : decide ((t.k : Int) = 3) = true := by simp; omega
      have hk' : (nx s').k = 3 := by rw [HT.out]; exact hk
      have HL3 : Hid (lns (tk s') = L) := by show _ = _; rw [← lns_yes hk']; exact HL2.out
      have HLt : Hid ((tk s').2.length < s'.2.length) := tk_lt (by omega)
      clear hk hk'
      go_wp2_with fail
      refine (take_calls w2 b B P v s' d HR3.out).mono ?_
      rintro r w3 ⟨rfl, ht4, hr4⟩
      have HR4 := Lib.hid hr4
      have HT4 := Lib.hid (HT3.out.trans ht4)
      clear ht4 hr4
      go_wp2_with fail
      go_roundw
      case rel => exact ⟨tk s', HL3.out, HR4.out, HT4.out⟩
      case measure => rw [rd_len HR4.out, rd_len HR2.out]; exact HLt.out
    · have e1 : ((t.k : Int) == 3) = false := by simp; omega
      have e3 : decide ((t.k : Int) = 3) = false := by simp; omega
      have hk' : (nx s').k ≠ 3 := by rw [HT.out]; exact hk
      have HF : Hid (Rd w2 b B P v L d) := by show Rd _ _ _ _ _ _ _; rw [← HL2.out, lns_no hk']; exact HR3.out
      clear hk hk'
      go_wp2_with fail
      refine bodyPost_end (v := .tuple #[]) (results_none rfl _ _ _) rfl ?_
      exact ⟨rfl, HT3.out, HF.out⟩
end Go.Proofs.YtiklkhbfilbpeaaGreatDoor.Sx
set_option linter.unusedVariables false
set_option linter.unusedSimpArgs false
set_option maxRecDepth 100000
namespace Go.Proofs.YtiklkhbfilbpeaaGreatDoor.Sx
open Go.RowKit Base Lx Sy
set_option maxHeartbeats 2000000 in
theorem redirects_calls (W : World) (b B : Nat) (P : Nat → Prop) (v : Value) (s : S) (d : Nat) (h : Rd W b B P v s d) : Calls Tryz.prog 132 #[.pointer (some ⟨b, 0, none⟩)] W (isPost W (redirects s)) := by
  have HC := Lib.hid (next_calls W b B P v s d h)
  have HR := Lib.hid h
  obtain ⟨t, ht⟩ : ∃ t, nx s = t := ⟨_, rfl⟩
  have HT := Lib.hid ht
  rw [ht] at HC
  obtain ⟨z, hz⟩ : ∃ z, redirects s = z := ⟨_, rfl⟩
  have HZ := Lib.hid hz
  rw [hz]
  clear ht hz h
  have F0 := fld_tkV0 t
  go_enter Tryz.func132, Tryz.ntmps132
  go_wp2_with fail
  refine HC.out.mono ?_
  rintro r w2 ⟨rfl, hb⟩
  have HR2 := Lib.hid (HR.out.below hb)
  have HB2 := Lib.hid hb
  clear hb
  by_cases hk : t.k = 5
  · have e1 : ((t.k : Int) == 5) = true := by simp; omega
    have e3 : decide ((t.k : Int) = 5) = true := by simp; omega
    have HF : Hid (z = true) := by show _ = _; rw [← HZ.out]; unfold redirects; rw [HT.out, decide_eq_true hk]; rfl
    clear hk
    go_wp2_with fail
    go_ret
    exact ⟨by rw [HF.out]; rfl, HB2.out⟩
  · have e1 : ((t.k : Int) == 5) = false := by simp; omega
    have e3 : decide ((t.k : Int) = 5) = false := by simp; omega
    have HF : Hid (isM 2 [[60], [62], [60, 60], [62, 62]] s = z) := by show _ = _; rw [← HZ.out]; unfold redirects; rw [HT.out, decide_eq_false hk]; rfl
    clear hk
    go_wp2_with fail
    refine (is_lit w2 b B P v s d HR2.out 2 [[60], [62], [60, 60], [62, 62]] (by decide)).mono ?_
    rintro r w3 ⟨rfl, hb3⟩
    rw [show isM 2 [[60], [62], [60, 60], [62, 62]] s = z from HF.out]
    have HB3 := Lib.hid (HB2.out.trans (hb3.mono HB2.out.size))
    clear hb3
    go_wp2_with fail
    go_ret
    exact ⟨rfl, HB3.out⟩
abbrev cmdL : List Nm := [[33], [123], [99, 97, 115, 101], [102, 111, 114], [105, 102], [117, 110, 116, 105, 108], [119, 104, 105, 108, 101]]
abbrev opL : List Nm := [[40], [60], [62], [60, 60], [62, 62]]
set_option maxHeartbeats 4000000 in
theorem begins_calls (W : World) (b B : Nat) (P : Nat → Prop) (v : Value) (s : S) (d : Nat) (h : Rd W b B P v s d) : Calls Tryz.prog 51 #[.pointer (some ⟨b, 0, none⟩)] W (isPost W (begins s)) := by
  have HC := Lib.hid (next_calls W b B P v s d h)
  have HR := Lib.hid h
  obtain ⟨t, ht⟩ : ∃ t, nx s = t := ⟨_, rfl⟩
  have HT := Lib.hid ht
  rw [ht] at HC
  obtain ⟨z, hz⟩ : ∃ z, begins s = z := ⟨_, rfl⟩
  have HZ := Lib.hid hz
  rw [hz]
  clear ht hz h
  go_enter Tryz.func51, Tryz.ntmps51
  go_wp2_with fail
  refine HC.out.mono ?_
  rintro r w2 ⟨rfl, hb⟩
  have HB2 := Lib.hid hb
  clear hb
  unfold tkV
  go_upto_region 2 with fail
  obtain ⟨w3, N3, hw3, hN3, hn3, hb3, hz3⟩ := new_blk w2 #[.int .i64 (t.k : Int), .string (str t.t), .string (str t.b), .int .i64 (t.ln : Int)] tkT
  rw [hw3, hN3]
  have HB3 : Hid (Below W.heap.size W w3) := HB2.out.trans (hb3.mono (by have := HB2.out.size; omega))
  have HN3 := Lib.hid hn3
  have HG := Lib.hid (HR.out.below HB3.out).gl
  obtain ⟨⟨n0, n1, n2, n3⟩, q0, q1, q2, q3⟩ := tk_cells hn3
  clear hw3 hN3 hn3 hb3 hz3
  by_cases hk : t.k = 1
  · have e1 : ((t.k : Int) == 1) = true := by simp; omega
    have e3 : decide ((t.k : Int) = 1) = true := by simp; omega
    have HF : Hid (z = (!resL.contains t.t || cmdL.contains t.t)) := by show _ = _; rw [← HZ.out]; unfold begins; rw [HT.out, if_pos hk]
    obtain ⟨g, o, c, hg1, hg2, hg3⟩ := HG.out.res
    have hl15 : resL.length = 15 := rfl
    have hct := contains_calls w3 g o c resL hg3 (by decide) t.t
    rw [hl15] at hct hg1
    have HCt := Lib.hid hct
    obtain ⟨y, hy⟩ : ∃ y, resL.contains t.t = y := ⟨_, rfl⟩
    rw [hy] at HF HCt
    clear hk hg3 hct hy
    go_wp2_with fail
    refine HCt.out.mono ?_
    rintro r w4 ⟨hw4, rfl⟩
    obtain rfl := hw4.symm
    cases y with
    | false =>
      have HF2 : Hid (z = true) := by show _ = _; rw [HF.out]; rfl
      go_wp2_with fail
      go_ret
      exact ⟨by rw [HF2.out]; rfl, HB3.out⟩
    | true =>
      have A1 := fun o => Lib.cell?_alloc_some (W := w3) o n1
      go_wp2_with fail
      have hlit := lit_at w3 cmdL
      obtain ⟨w5, hw5⟩ : ∃ w5, w3.alloc (.cells (cmdL.map sv).toArray stT) = w5 := ⟨_, rfl⟩
      have hb5 : Below w3.heap.size w3 w5 := by rw [← hw5]; exact (Below.refl _ _).alloc (Nat.le_refl _) _
      rw [hw5] at hlit
      have hct := contains_calls w5 w3.heap.size 0 cmdL.length cmdL hlit (by decide) t.t
      rw [← hw5] at hct
      refine hct.mono ?_
      rintro r w4 ⟨hw4, rfl⟩
      rw [hw5] at hw4
      have HB5 : Hid (Below W.heap.size W w4) := by show Below _ _ _; rw [hw4]; exact HB3.out.trans (hb5.mono HB3.out.size)
      have HF2 : Hid (cmdL.contains t.t = z) := by show _ = _; rw [HF.out]; rfl
      rw [show cmdL.contains t.t = z from HF2.out]
      clear hw5 hb5 hlit hct hw4 hg1 n0 n1 n2 n3 q0 q1 q2 q3
      go_wp2_with fail
      go_ret
      exact ⟨rfl, HB5.out⟩
  · have e1 : ((t.k : Int) == 1) = false := by simp; omega
    have e3 : decide ((t.k : Int) = 1) = false := by simp; omega
    by_cases hk2 : t.k = 2
    · have e4 : ((t.k : Int) == 2) = true := by simp; omega
      have e6 : decide ((t.k : Int) = 2) = true := by simp; omega
      have HF : Hid (z = opL.contains t.t) := by show _ = _; rw [← HZ.out]; unfold begins; rw [HT.out, if_neg hk, if_pos hk2]
      clear hk hk2
      have A1 := fun o => Lib.cell?_alloc_some (W := w3) o n1
      go_wp2_with fail
      have hlit := lit_at w3 opL
      obtain ⟨w5, hw5⟩ : ∃ w5, w3.alloc (.cells (opL.map sv).toArray stT) = w5 := ⟨_, rfl⟩
      have hb5 : Below w3.heap.size w3 w5 := by rw [← hw5]; exact (Below.refl _ _).alloc (Nat.le_refl _) _
      rw [hw5] at hlit
      have hct := contains_calls w5 w3.heap.size 0 opL.length opL hlit (by decide) t.t
      rw [← hw5] at hct
      refine hct.mono ?_
      rintro r w4 ⟨hw4, rfl⟩
      rw [hw5] at hw4
      have HB5 : Hid (Below W.heap.size W w4) := by show Below _ _ _; rw [hw4]; exact HB3.out.trans (hb5.mono HB3.out.size)
      rw [show opL.contains t.t = z from HF.out.symm]
      clear hw5 hb5 hlit hct hw4 n0 n1 n2 n3 q0 q1 q2 q3
      go_wp2_with fail
      go_ret
      exact ⟨rfl, HB5.out⟩
    · have e4 : ((t.k : Int) == 2) = false := by simp; omega
      have e6 : decide ((t.k : Int) = 2) = false := by simp; omega
      have HF : Hid (z = decide (t.k = 5)) := by show _ = _; rw [← HZ.out]; unfold begins; rw [HT.out, if_neg hk, if_neg hk2]
      clear hk hk2
      by_cases hk5 : t.k = 5
      · have e7 : ((t.k : Int) == 5) = true := by simp; omega
        have e9 : decide ((t.k : Int) = 5) = true := by simp; omega
        have HF2 : Hid (z = true) := by show _ = _; rw [HF.out, decide_eq_true hk5]
        clear hk5
        go_wp2_with fail
        go_ret
        exact ⟨by rw [HF2.out]; rfl, HB3.out⟩
      · have e7 : ((t.k : Int) == 5) = false := by simp; omega
        have e9 : decide ((t.k : Int) = 5) = false := by simp; omega
        have HF2 : Hid (z = false) := by show _ = _; rw [HF.out, decide_eq_false hk5]
        clear hk5
        go_wp2_with fail
        go_ret
        exact ⟨by rw [HF2.out]; rfl, HB3.out⟩
end Go.Proofs.YtiklkhbfilbpeaaGreatDoor.Sx
