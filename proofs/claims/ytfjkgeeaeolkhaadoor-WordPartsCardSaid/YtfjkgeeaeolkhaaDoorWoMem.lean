/-
  Word: what lies where while a raw word is read. Conditions: as each law says.
-/
import Derived.Test.YtfjkgeeaeolkhaaDoorWoPlain
import Derived.Test.YtfjkgeeaeolkhaaDoorSlRow
import Derived.Test.YtfjkgeeaeolkhaaDoorRegionP
import Derived.Deep.MidRow
set_option linter.unusedVariables false
set_option linter.unusedSimpArgs false
set_option maxRecDepth 100000
namespace Go.Proofs.YtfjkgeeaeolkhaaDoor
open Go.RowKit Base Wo

abbrev rdT : TypeId := 40
abbrev ptT : TypeId := 28
theorem info_pt : (Tryd.prog.info? ptT).map (fun i => (i.zero, i.size, i.bytes)) = some (some (.agg #[.int .i64 0, .string ⟨#[]⟩, .string ⟨#[]⟩, .bool false, .slice none 0 0]), 5, 72) := by kernel_rfl
theorem info_ptS : (Tryd.prog.info? ptT).map (fun i => i.size) = some 5 := by kernel_rfl
theorem und_pt : (Tryd.prog.underlying ptT).map TypeDesc.isRow = some true := by kernel_rfl
theorem info_rdS : (Tryd.prog.info? rdT).map (fun i => i.size) = some 3 := by kernel_rfl
theorem und_rd : (Tryd.prog.underlying rdT).map TypeDesc.isRow = some true := by kernel_rfl
/-- A part's cells; u: its word's row. -/
def cellsP (p : Prt) (u : Value) : List Value := [.int .i64 (p.k : Int), .string (str p.t), .string (str p.o), .bool p.q, u]
abbrev PV := Prt × Value
def cz (x : PV) : List Value := cellsP x.1 x.2
theorem cz_len (x : PV) : (cz x).length = 5 := rfl
/-- A tree of parts, all of whose rows lie in blocks of P. -/
def TreeH : Nat → (Nat → Prop) → World → Value → List Prt → Prop
  | 0, _, _, v, l => v = .slice none 0 0 ∧ l = []
  | n + 1, P, W, v, l => (∀ g, v.ownBlock = some g → P g) ∧ ∃ zs : List PV, zs.map (·.1) = l ∧ W.ownsRow 0 ptT 5 v l.length (zs.flatMap cz) ∧ ∀ x ∈ zs, TreeH n P W x.2 x.1.w
theorem ownsRow_slice' {w : World} {base : Nat} {e : TypeId} {k : Nat} {v : Value} {n : Nat} {xs : List Value} (h : w.ownsRow base e k v n xs) : ∃ a c, v = .slice a n c := by
  rcases h.2 with ⟨rfl, rfl⟩ | ⟨g, cap, cur, rfl, _⟩
  · exact ⟨_, _, rfl⟩
  · exact ⟨_, _, rfl⟩
theorem tree_slice {n : Nat} {P : Nat → Prop} {W : World} {v : Value} {l : List Prt} (h : TreeH n P W v l) : ∃ a c, v = .slice a l.length c := by
  cases n with
  | zero => obtain ⟨rfl, rfl⟩ := h; exact ⟨_, _, rfl⟩
  | succ n => obtain ⟨_, zs, _, h, _⟩ := h; exact ownsRow_slice' h
theorem own_base {w : World} {b1 b2 : Nat} {e : TypeId} {k : Nat} {v : Value} {n : Nat} {xs : List Value} (h : w.ownsRow b2 e k v n xs) (hb : b1 ≤ b2) : w.ownsRow b1 e k v n xs := by
  refine ⟨h.1, ?_⟩
  rcases h.2 with h2 | ⟨g, cap, cur, h1, h2, h3⟩
  · exact .inl h2
  · exact .inr ⟨g, cap, cur, h1, by omega, h3⟩
theorem own_keep {W W' : World} {base : Nat} {e : TypeId} {k n : Nat} {v : Value} {xs : List Value} (h : W.ownsRow base e k v n xs) (hk : ∀ g X, v.ownBlock = some g → W.heap[g]? = some (.cells X e) → W'.heap[g]? = W.heap[g]?) : W'.ownsRow base e k v n xs := by
  refine ⟨h.1, ?_⟩
  rcases h.2 with h2 | ⟨g, cap, cur, rfl, h2, h3, h4⟩
  · exact .inl h2
  · exact .inr ⟨g, cap, cur, rfl, h2, (hk g cur rfl h3).trans h3, h4⟩
theorem tree_keep {W W' : World} {P : Nat → Prop} (hk : ∀ g X, P g → W.heap[g]? = some (.cells X ptT) → W'.heap[g]? = W.heap[g]?) : ∀ {n : Nat} {v : Value} {l : List Prt}, TreeH n P W v l → TreeH n P W' v l
  | 0, v, l, h => h
  | n + 1, v, l, h => by
    obtain ⟨h1, zs, h2, h3, h4⟩ := h
    exact ⟨h1, zs, h2, own_keep h3 (fun g X hg hX => hk g X (h1 g hg) hX), fun x hx => tree_keep hk (h4 x hx)⟩
theorem tree_less {W : World} {P Q : Nat → Prop} (hk : ∀ g, P g → g < W.heap.size → Q g) : ∀ {n : Nat} {v : Value} {l : List Prt}, TreeH n P W v l → TreeH n Q W v l
  | 0, v, l, h => h
  | n + 1, v, l, h => by
    obtain ⟨h1, zs, h2, h3, h4⟩ := h
    exact ⟨fun g hg => hk g (h1 g hg) (h3.lt g hg).2, zs, h2, h3, fun x hx => tree_less hk (h4 x hx)⟩
theorem tree_below {W W' : World} {P : Nat → Prop} {n : Nat} {v : Value} {l : List Prt} (h : TreeH n P W v l) (hb : Below W.heap.size W W') : TreeH n P W' v l :=
  tree_keep (fun g X _ hX => hb.block g (Array.getElem?_eq_some_iff.1 hX).1) h
theorem tree_nil (P : Nat → Prop) (W : World) : ∀ n, TreeH n P W (.slice none 0 0) []
  | 0 => ⟨rfl, rfl⟩
  | n + 1 => ⟨fun g hg => (by cases hg), [], rfl, World.ownsRow_nil _ _ _ _, fun x hx => absurd hx List.not_mem_nil⟩
theorem tree_up {P : Nat → Prop} {W : World} : ∀ {n : Nat} {v : Value} {l : List Prt}, TreeH n P W v l → TreeH (n + 1) P W v l
  | 0, v, l, h => by obtain ⟨rfl, rfl⟩ := h; exact tree_nil P W 1
  | n + 1, v, l, h => by
    obtain ⟨h1, zs, h2, h3, h4⟩ := h
    exact ⟨h1, zs, h2, h3, fun x hx => tree_up (h4 x hx)⟩
/-- Where a reader's own parts, but for its row, may lie. -/
def Off (B : Nat) (v : Value) (g : Nat) : Prop := B ≤ g ∧ v.ownBlock ≠ some g
/-- A reader's own row. -/
def RowH (n B : Nat) (W : World) (v : Value) (l : List Prt) : Prop := ∃ zs : List PV, zs.map (·.1) = l ∧ W.ownsRow B ptT 5 v l.length (zs.flatMap cz) ∧ ∀ x ∈ zs, TreeH n (Off B v) W x.2 x.1.w
theorem row_tree {n B : Nat} {W : World} {v : Value} {l : List Prt} (h : RowH n B W v l) : TreeH (n + 1) (fun g => B ≤ g) W v l := by
  obtain ⟨zs, h1, h2, h3⟩ := h
  exact ⟨fun g hg => (h2.lt g hg).1, zs, h1, own_base h2 (Nat.zero_le _), fun x hx => tree_less (fun g hg _ => hg.1) (h3 x hx)⟩
theorem row_keep {n B : Nat} {W W' : World} {v : Value} {l : List Prt} (h : RowH n B W v l) (hk : ∀ (g : Nat) (X : Array Value), W.heap[g]? = some (.cells X ptT) → W'.heap[g]? = W.heap[g]?) : RowH n B W' v l := by
  obtain ⟨zs, h1, h2, h3⟩ := h
  exact ⟨zs, h1, own_keep h2 (fun g X _ hX => hk g X hX), fun x hx => tree_keep (fun g X _ hX => hk g X hX) (h3 x hx)⟩
theorem row_nil (n B : Nat) (W : World) : RowH n B W (.slice none 0 0) [] := ⟨[], rfl, World.ownsRow_nil _ _ _ _, fun x hx => absurd hx List.not_mem_nil⟩
/-- A reader. -/
structure Rd (W : World) (b B : Nat) (v : Value) (l : List Prt) (s : Nm) (d : Nat) : Prop where
  box : W.heap[b]? = some (.cells #[v, .string (str s), .int .i64 (d : Int)] rdT)
  bB : B ≤ b
  row : RowH (8 - d) B W v l
  dd : d ≤ 8
theorem Rd.lt {W : World} {b B : Nat} {v : Value} {l : List Prt} {s : Nm} {d : Nat} (h : Rd W b B v l s d) : b < W.heap.size := (Array.getElem?_eq_some_iff.1 h.box).1
theorem Rd.own {W : World} {b B : Nat} {v : Value} {l : List Prt} {s : Nm} {d : Nat} (h : Rd W b B v l s d) : ∀ g, v.ownBlock = some g → B ≤ g ∧ g < W.heap.size := by
  obtain ⟨zs, h1, h2, h3⟩ := h.row
  exact h2.lt
theorem Rd.slice {W : World} {b B : Nat} {v : Value} {l : List Prt} {s : Nm} {d : Nat} (h : Rd W b B v l s d) : ∃ a c, v = .slice a l.length c := by
  obtain ⟨zs, h1, h2, h3⟩ := h.row
  exact ownsRow_slice' h2
theorem Rd.below {W W' : World} {b B : Nat} {v : Value} {l : List Prt} {s : Nm} {d : Nat} (h : Rd W b B v l s d) (hb : Below W.heap.size W W') : Rd W' b B v l s d :=
  ⟨(hb.block b h.lt).trans h.box, h.bB, row_keep h.row (fun g X hX => hb.block g (Array.getElem?_eq_some_iff.1 hX).1), h.dd⟩
theorem rd_cells {W : World} {b : Nat} {c0 c1 c2 : Value} (h : W.heap[b]? = some (.cells #[c0, c1, c2] rdT)) :
    (W.cell? ⟨b, 0, none⟩ = some c0 ∧ W.cell? ⟨b, 1, none⟩ = some c1 ∧ W.cell? ⟨b, 2, none⟩ = some c2) ∧ W.frozen? ⟨b, 0, none⟩ = false ∧ W.frozen? ⟨b, 1, none⟩ = false ∧ W.frozen? ⟨b, 2, none⟩ = false := by
  simp [World.cell?, World.frozen?, h]
theorem pt_cells {W : World} {b : Nat} {c0 c1 c2 c3 c4 : Value} (h : W.heap[b]? = some (.cells #[c0, c1, c2, c3, c4] ptT)) :
    (W.cell? ⟨b, 0, none⟩ = some c0 ∧ W.cell? ⟨b, 1, none⟩ = some c1 ∧ W.cell? ⟨b, 2, none⟩ = some c2 ∧ W.cell? ⟨b, 3, none⟩ = some c3 ∧ W.cell? ⟨b, 4, none⟩ = some c4) ∧
    W.frozen? ⟨b, 0, none⟩ = false ∧ W.frozen? ⟨b, 1, none⟩ = false ∧ W.frozen? ⟨b, 2, none⟩ = false ∧ W.frozen? ⟨b, 3, none⟩ = false ∧ W.frozen? ⟨b, 4, none⟩ = false := by
  simp [World.cell?, World.frozen?, h]
/-- What a reader's step turns: its own block, its row; all else is new. -/
structure Turn (b : Nat) (o : Option Nat) (W W' : World) : Prop where
  os : W'.os = W.os
  tape : W'.tape = W.tape
  output : W'.output = W.output
  size : W.heap.size ≤ W'.heap.size
  block : ∀ k, k < W.heap.size → k ≠ b → some k ≠ o → W'.heap[k]? = W.heap[k]?
theorem Turn.of_below {b : Nat} {o : Option Nat} {W W' : World} (h : Below W.heap.size W W') : Turn b o W W' := ⟨h.os, h.tape, h.output, h.size, fun k hk _ _ => h.block k hk⟩
theorem Turn.refl (b : Nat) (o : Option Nat) (W : World) : Turn b o W W := .of_below (Below.refl _ _)
theorem Turn.of_grown {b : Nat} {o : Option Nat} {W W' : World} (h : W.grownBy W' o) : Turn b o W W' := ⟨h.os, h.tape, h.output, h.size, fun k hk _ hn => h.block k hk hn⟩
theorem Turn.of_box {b : Nat} {o : Option Nat} {W W' : World} (h : W.grownBy W' (some b)) : Turn b o W W' := ⟨h.os, h.tape, h.output, h.size, fun k hk hs _ => h.block k hk (fun e => hs (Option.some.inj e))⟩
theorem Turn.trans {b : Nat} {o o' : Option Nat} {W W1 W2 : World} (h : Turn b o W W1) (h' : Turn b o' W1 W2) (ho : ∀ g, o' = some g → g < W.heap.size → o = some g) : Turn b o W W2 :=
  ⟨h'.os.trans h.os, h'.tape.trans h.tape, h'.output.trans h.output, Nat.le_trans h.size h'.size, fun k hk h1 h3 => (h'.block k (Nat.lt_of_lt_of_le hk h.size) h1 (fun e => h3 (ho k e.symm hk).symm)).trans (h.block k hk h1 h3)⟩
theorem Turn.trans_same {b : Nat} {o : Option Nat} {W W1 W2 : World} (h : Turn b o W W1) (h' : Turn b o W1 W2) : Turn b o W W2 := h.trans h' (fun _ e _ => e)
theorem Turn.below {b B : Nat} {o : Option Nat} {W W' : World} (h : Turn b o W W') (hb : B ≤ b) (ho : ∀ g, o = some g → B ≤ g) (hB : B ≤ W.heap.size) : Below B W W' :=
  ⟨h.os, h.tape, h.output, h.size, fun k hk => h.block k (by omega) (by omega) (fun e => by have := ho k e.symm; omega)⟩
/-- A reader's text is another one. -/
theorem Rd.text {W : World} {b B : Nat} {v : Value} {l : List Prt} {s : Nm} {d : Nat} (h : Rd W b B v l s d) (s' : Nm) : Rd (W.setCell ⟨b, 1, none⟩ (.string (str s'))) b B v l s' d ∧ Turn b none W (W.setCell ⟨b, 1, none⟩ (.string (str s'))) := by
  have hg : W.grownBy (W.setCell ⟨b, 1, none⟩ (.string (str s'))) (some b) := Sl.setCells_grown b [.string (str s')] 1 W
  have hb := heap_setCell_same W b 1 _ _ (.string (str s')) h.box
  refine ⟨⟨hb, h.bB, row_keep h.row (fun g X hX => hg.block g (Array.getElem?_eq_some_iff.1 hX).1 (fun e => ?_)), h.dd⟩, Turn.of_box hg⟩
  obtain rfl := Option.some.inj e
  rw [h.box] at hX
  injection hX with hX
  injection hX with _ hT _
  exact absurd hT (by decide)
/-- What a panic with a number is. -/
def panEnd (e : Int) : Ending := .panicked [{ v := .iface 24 (.int .i64 e), recovered := false }]
end Go.Proofs.YtfjkgeeaeolkhaaDoor
