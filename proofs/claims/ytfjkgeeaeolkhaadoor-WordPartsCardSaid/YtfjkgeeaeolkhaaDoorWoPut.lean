/-
  Word: a part is put behind. Conditions: as each contract says.
-/
import Derived.Test.YtfjkgeeaeolkhaaDoorWoRead
import Derived.Test.YtfjkgeeaeolkhaaDoorRegionQ
import Derived.Deep.RegionLaw
import Derived.Deep.CutBlock
import Derived.Deep.DeepCutAuto
set_option linter.unusedVariables false
set_option linter.unusedSimpArgs false
set_option maxRecDepth 100000
namespace Go.Proofs.YtfjkgeeaeolkhaaDoor
open Go.RowKit Base Wo

def Cut (g : Nat) (cur : List Value) (t : TypeId) (W : World) : Prop := W.heap[g]? = some (.cells cur.toArray t)
theorem Cut.cell {g : Nat} {cur : List Value} {t : TypeId} {W : World} (h : Cut g cur t W) (j : Nat) : W.cell? ⟨g, j, none⟩ = cur[j]? := by
  unfold Cut at h
  simp [World.cell?, h]
theorem Cut.frozen {g : Nat} {cur : List Value} {t : TypeId} {W : World} (h : Cut g cur t W) (j : Nat) : W.frozen? ⟨g, j, none⟩ = false := by
  unfold Cut at h
  simp [World.frozen?, h]
theorem Cut.set {g : Nat} {cur : List Value} {t : TypeId} {W : World} (h : Cut g cur t W) (o : Nat) (u : Value) : Cut g (cur.set o u) t (W.setCell ⟨g, o, none⟩ u) := by
  unfold Cut at h ⊢
  rw [heap_setCell_same W g o cur.toArray t u h]
  simp
theorem Cut.lt {g : Nat} {cur : List Value} {t : TypeId} {W : World} (h : Cut g cur t W) : g < W.heap.size := (Array.getElem?_eq_some_iff.1 h).1
theorem Cut.below {g : Nat} {cur : List Value} {t : TypeId} {W W' : World} (h : Cut g cur t W) (hb : Below W.heap.size W W') : Cut g cur t W' := (hb.block g h.lt).trans h
theorem cut_there {w : World} {b : Nat} {us : List Value} {t : TypeId} (h : Cut b us t w) (o n : Nat) (hl : o + n ≤ us.length) : w.there b o n := fun j hj => ⟨by rw [h.cell, List.getElem?_eq_getElem (by omega)]; rfl, h.frozen _⟩
theorem load_pt {w : World} {b o : Nat} {cs : List Value} (hc : ∀ j v, cs[j]? = some v → w.cell? ⟨b, o + j, none⟩ = some v) (hl : cs.length = 5) : (Instr.loadAt ptT (.pointer (some ⟨b, o, none⟩))).run Tryd.prog w = .ok (.agg cs.toArray) w := by
  obtain ⟨d, hu, hr⟩ := Option.map_eq_some_iff.1 und_pt
  exact run_loadAt_mid w b o ptT cs d hc hu hr (by rw [hl]; exact info_ptS)
theorem load_pts {w : World} {ad : Addr} {v : Value} (h : w.cell? ad = some v) : (Instr.loadAt 23 (.pointer (some ad))).run Tryd.prog w = .ok v w := Ap.load_plainP (by simp [isAgg]) h
theorem load_str {w : World} {ad : Addr} {v : Value} (h : w.cell? ad = some v) : (Instr.loadAt 9 (.pointer (some ad))).run Tryd.prog w = .ok v w := Ap.load_plainP (by simp [isAgg]) h
theorem load_int {w : World} {ad : Addr} {v : Value} (h : w.cell? ad = some v) : (Instr.loadAt 3 (.pointer (some ad))).run Tryd.prog w = .ok v w := Ap.load_plainP (by simp [isAgg]) h
theorem idx_pt {g n c : Nat} (j : Nat) (hj : j < n) (kd : IntKind) (w' : World) : (Instr.indexAt 23 (.slice (some ⟨g, 0, none⟩) n c) (.int kd (j : Int))).run Tryd.prog w' = .ok (.pointer (some ⟨g, j * 5, none⟩)) w' := by
  obtain ⟨i, hi, _, hs, _⟩ := info_parts info_pt
  have he : Tryd.prog.elem 23 = ptT := by simp [Program.elem, Tryd.underlying23]
  rw [run_indexAt_slice w' 23 _ n c kd j (by rw [he]; exact Tryd.underlying23), if_pos ⟨by omega, by omega⟩, he]
  simp [sizeOf, typeInfo, hi, hs, Result.andThen, Addr.add_lit]
theorem fld_pt (b o k : Nat) (hk : k < 5) (w : World) : (Instr.fieldAt ptT (.pointer (some ⟨b, o, none⟩)) k).run Tryd.prog w = .ok (.pointer (some ⟨b, o + k, none⟩)) w := by
  match k, hk with
  | 0, _ => rfl
  | 1, _ => rfl
  | 2, _ => rfl
  | 3, _ => rfl
  | 4, _ => rfl
theorem fld_row (b o : Nat) (w : World) : (Instr.fieldAt 38 (.pointer (some ⟨b, o, none⟩)) 0).run Tryd.prog w = .ok (.pointer (some ⟨b, o, none⟩)) w := by rfl
theorem fld_rd (b o k : Nat) (hk : k < 3) (w : World) : (Instr.fieldAt rdT (.pointer (some ⟨b, o, none⟩)) k).run Tryd.prog w = .ok (.pointer (some ⟨b, o + k, none⟩)) w := by
  match k, hk with
  | 0, _ => rfl
  | 1, _ => rfl
  | 2, _ => rfl
theorem cz_flat_at (zs : List PV) (j : Nat) (h : j < zs.length) (i : Nat) (hi : i < 5) : (zs.flatMap cz)[j * 5 + i]? = (cz zs[j])[i]? := by
  have h1 := Sl.flat_drop (f := cz) (k := 5) cz_len zs j
  have h2 : ((zs.flatMap cz).drop (j * 5))[i]? = (zs.flatMap cz)[j * 5 + i]? := by rw [List.getElem?_drop]
  rw [← h2, h1, List.drop_eq_getElem_cons h, List.flatMap_cons, List.getElem?_append_left (by rw [cz_len]; exact hi)]
theorem cz_flat_len (zs : List PV) : (zs.flatMap cz).length = zs.length * 5 := by
  induction zs with
  | nil => rfl
  | cons x r ih => rw [List.flatMap_cons, List.length_append, cz_len, ih, List.length_cons]; omega
theorem cz_one (zs : List PV) (h : ∀ x ∈ zs, x.2.oneCell' = true) : ∀ u ∈ zs.flatMap cz, u.oneCell' = true := by
  intro u hu
  obtain ⟨x, hx, hu⟩ := List.mem_flatMap.1 hu
  simp only [cz, cellsP, List.mem_cons, List.not_mem_nil, or_false] at hu
  rcases hu with rfl | rfl | rfl | rfl | rfl
  · rfl
  · rfl
  · rfl
  · rfl
  · exact h x hx
theorem drewN_below (w : World) (n : Nat) : Below w.heap.size w (w.drewN n) := ⟨rfl, rfl, rfl, Nat.le_refl _, fun _ _ => rfl⟩
def PutPost (W : World) (b B : Nat) (v : Value) (l' : List Prt) (s : Nm) (d : Nat) (r : Ending) (W' : World) : Prop :=
  r = .returned (.tuple #[]) ∧ ∃ v', Rd W' b B v' l' s d ∧ Turn b v.ownBlock W W' ∧ (∀ g, v'.ownBlock = some g → g < W.heap.size → v.ownBlock = some g)
/-- A block with a new part, beside all that was there. -/
theorem new_pt (W : World) (p : Prt) (u : Value) : ∃ w1, W.alloc (.cells (cellsP p u).toArray ptT) = w1 ∧ Cut W.heap.size (cellsP p u) ptT w1 ∧ Below W.heap.size W w1 := ⟨_, rfl, heap_alloc_new W _, (Below.refl W.heap.size W).alloc (Nat.le_refl _) _⟩
/-- The last part's text is longer. -/
theorem put_mem {W : World} {b B : Nat} {s : Nm} {d : Nat} {g c : Nat} {cur : List Value} {zs : List PV} {x : PV} (h : Rd W b B (.slice (some ⟨g, 0, none⟩) (zs.length + 1) c) (zs.map (·.1) ++ [x.1]) s d)
    (hz : ∀ y ∈ zs ++ [x], TreeH (8 - d) (Off B (.slice (some ⟨g, 0, none⟩) (zs.length + 1) c)) W y.2 y.1.w) (hg : W.heap[g]? = some (.cells cur.toArray ptT)) (hc1 : zs.length + 1 ≤ c) (hc2 : c ≤ maxLen) (hcl : cur.length = c * 5) (hx : cur.take ((zs.length + 1) * 5) = (zs ++ [x]).flatMap cz) (hgB : B ≤ g) (t : Nm) :
    Rd (W.setCell ⟨g, zs.length * 5 + 1, none⟩ (.string (str (x.1.t ++ t)))) b B (.slice (some ⟨g, 0, none⟩) (zs.length + 1) c) (zs.map (·.1) ++ [.mk x.1.k (x.1.t ++ t) x.1.o x.1.q x.1.w]) s d ∧
      Turn b (some g) W (W.setCell ⟨g, zs.length * 5 + 1, none⟩ (.string (str (x.1.t ++ t)))) := by
  have hgr : W.grownBy (W.setCell ⟨g, zs.length * 5 + 1, none⟩ (.string (str (x.1.t ++ t)))) (some g) := Sl.setCells_grown g [.string (str (x.1.t ++ t))] _ W
  have hbg : b ≠ g := fun e => by
    have h1 := h.box
    rw [e, hg] at h1
    injection h1 with h1
    injection h1 with _ hT _
    exact absurd hT (by decide)
  have hset := heap_setCell_same W g (zs.length * 5 + 1) _ _ (.string (str (x.1.t ++ t))) hg
  refine ⟨⟨(hgr.block b h.lt (fun e => hbg (Option.some.inj e))).trans h.box, h.bB, ⟨zs ++ [(.mk x.1.k (x.1.t ++ t) x.1.o x.1.q x.1.w, x.2)], by simp, ?_, ?_⟩, h.dd⟩, Turn.of_grown hgr⟩
  · have hlen : (zs.map (·.1) ++ [Prt.mk x.1.k (x.1.t ++ t) x.1.o x.1.q x.1.w]).length = zs.length + 1 := by simp
    rw [hlen]
    refine Sl.own_mk (cur := cur.set (zs.length * 5 + 1) (.string (str (x.1.t ++ t)))) hgB (by rw [hset]; simp) hc1 hc2 (by rw [List.length_set]; exact hcl) ?_
    rw [List.take_set, hx]
    rw [List.flatMap_append, List.flatMap_append, List.set_append_right _ _ (by rw [cz_flat_len]; omega), cz_flat_len]
    congr 1
    rw [show zs.length * 5 + 1 - zs.length * 5 = 1 by omega]
    rfl
  · intro y hy
    have hkeep : ∀ {n : Nat} {u : Value} {l : List Prt}, TreeH n (Off B (.slice (some ⟨g, 0, none⟩) (zs.length + 1) c)) W u l → TreeH n (Off B (.slice (some ⟨g, 0, none⟩) (zs.length + 1) c)) (W.setCell ⟨g, zs.length * 5 + 1, none⟩ (.string (str (x.1.t ++ t)))) u l := fun h1 =>
      tree_keep (fun k X hk hX => hgr.block k (Array.getElem?_eq_some_iff.1 hX).1 (fun e => hk.2 (by rw [Option.some.inj e]; rfl))) h1
    rcases List.mem_append.1 hy with hy | hy
    · exact hkeep (hz y (List.mem_append.2 (.inl hy)))
    · obtain rfl := List.mem_singleton.1 hy
      exact hkeep (hz x (List.mem_append.2 (.inr List.mem_cons_self)))
theorem splice_len {cur vs : List Value} {o : Nat} (h : o + vs.length ≤ cur.length) : (splice cur o vs).length = cur.length := by
  unfold splice
  simp only [List.length_append, List.length_take, List.length_drop]
  omega
theorem tree_lt {W : World} {P : Nat → Prop} : ∀ {n : Nat} {v : Value} {l : List Prt}, TreeH n P W v l → TreeH n (fun g => P g ∧ g < W.heap.size) W v l
  | 0, v, l, h => h
  | n + 1, v, l, h => by
    obtain ⟨h1, zs, h2, h3, h4⟩ := h
    exact ⟨fun g hg => ⟨h1 g hg, (h3.lt g hg).2⟩, zs, h2, h3, fun x hx => tree_lt (h4 x hx)⟩
/-- Behind an append: its element, and the row itself, are laid, in either order. -/
structure Aft (W2 x : World) (b g : Nat) (v v' : Value) (s : Nm) (d : Nat) (cur : List Value) (o : Nat) (cs : List Value) (a c : Bool) : Prop where
  box : x.heap[b]? = some (.cells #[if c then v' else v, .string (str s), .int .i64 (d : Int)] rdT)
  row : x.heap[g]? = some (.cells (if a then splice cur o cs else cur).toArray ptT)
  os : x.os = W2.os
  tape : x.tape = W2.tape
  output : x.output = W2.output
  size : x.heap.size = W2.heap.size
  block : ∀ k, k < W2.heap.size → k ≠ b → k ≠ g → x.heap[k]? = W2.heap[k]?
theorem Aft.elem {W2 x : World} {b g : Nat} {v v' : Value} {s : Nm} {d : Nat} {cur : List Value} {o : Nat} {cs : List Value} {c : Bool} (h : Aft W2 x b g v v' s d cur o cs false c) (hbg : b ≠ g) (hl : o + cs.length ≤ cur.length) (hb : b < W2.heap.size) : Aft W2 (x.setCells g o cs) b g v v' s d cur o cs true c := by
  have hg := Sl.setCells_grown g cs o x
  have hset := Sl.heap_setCells g ptT cs o x cur h.row hl
  exact ⟨(hg.block b (by rw [h.size]; exact hb) (fun e => hbg (Option.some.inj e))).trans h.box, hset, hg.os.trans h.os, hg.tape.trans h.tape, hg.output.trans h.output, (Sl.size_setCells g cs o x).trans h.size,
    fun k hk h1 h2 => (hg.block k (by rw [h.size]; exact hk) (fun e => h2 (Option.some.inj e))).trans (h.block k hk h1 h2)⟩
theorem Aft.head {W2 x : World} {b g : Nat} {v v' : Value} {s : Nm} {d : Nat} {cur : List Value} {o : Nat} {cs : List Value} {a : Bool} (h : Aft W2 x b g v v' s d cur o cs a false) (hbg : b ≠ g) (hgl : g < W2.heap.size) : Aft W2 (x.setCell ⟨b, 0, none⟩ v') b g v v' s d cur o cs a true := by
  have hg : x.grownBy (x.setCell ⟨b, 0, none⟩ v') (some b) := Sl.setCells_grown b [v'] 0 x
  have hset := heap_setCell_same x b 0 _ _ v' h.box
  exact ⟨hset, (hg.block g (by rw [h.size]; exact hgl) (fun e => hbg (Option.some.inj e).symm)).trans h.row, hg.os.trans h.os, hg.tape.trans h.tape, hg.output.trans h.output, (Sl.size_setCells b [v'] 0 x).trans h.size,
    fun k hk h1 h2 => (hg.block k (by rw [h.size]; exact hk) (fun e => h1 (Option.some.inj e))).trans (h.block k hk h1 h2)⟩
theorem rd_row_apart {W : World} {b B : Nat} {v : Value} {l : List Prt} {s : Nm} {d : Nat} (h : Rd W b B v l s d) : v.ownBlock ≠ some b := fun e => by
  obtain ⟨ws, _, hw, _⟩ := h.row
  rcases hw.2 with ⟨h2, _⟩ | ⟨k, cp, cu, h2, _, h3, _⟩
  · rw [h2] at e; cases e
  · rw [h2] at e
    obtain rfl : k = b := Option.some.inj e
    rw [h.box] at h3
    injection h3 with h3
    injection h3 with _ hT _
    exact absurd hT (by decide)
/-- Before: where the row lies. -/
theorem app_start {W W1 W2 : World} {b B : Nat} {v : Value} {l : List Prt} {s : Nm} {d : Nat} {g : Nat} (h : Rd W b B v l s d) (hb : Below W.heap.size W W1) (hgr : W1.grownBy W2 v.ownBlock) (hnew : g < W1.heap.size → v.ownBlock = some g) :
    b ≠ g ∧ b < W2.heap.size ∧ W2.heap[b]? = some (.cells #[v, .string (str s), .int .i64 (d : Int)] rdT) := by
  have hbv := rd_row_apart h
  have hbg : b ≠ g := fun e => by
    subst e
    rcases Nat.lt_or_ge b W1.heap.size with h1 | h1
    · exact hbv (hnew h1)
    · have := h.lt; have := hb.size; omega
  have hbox2 : W2.heap[b]? = some (.cells #[v, .string (str s), .int .i64 (d : Int)] rdT) := ((hgr.block b (Nat.lt_of_lt_of_le h.lt hb.size) (fun e => hbv e.symm)).trans (hb.block b h.lt)).trans h.box
  exact ⟨hbg, (Array.getElem?_eq_some_iff.1 hbox2).1, hbox2⟩
/-- A part behind all. -/
theorem app_mem {W W1 W2 W4 : World} {b B : Nat} {v : Value} {l : List Prt} {s : Nm} {d : Nat} {g c : Nat} {p : Prt} {u : Value} (h : Rd W b B v l s d) (hu : TreeH (8 - d) (Off B v) W u p.w) (zs : List PV) (hzl : zs.map (·.1) = l) (hz : ∀ y ∈ zs, TreeH (8 - d) (Off B v) W y.2 y.1.w)
    (hb : Below W.heap.size W W1) {z5 cur : List Value} (hgb : B ≤ g) (hg : W2.heap[g]? = some (.cells cur.toArray ptT)) (hcn : l.length + 1 ≤ c) (hcm : c ≤ maxLen) (hcl : cur.length = c * 5) (hcx : cur.take ((l.length + 1) * 5) = zs.flatMap cz ++ z5) (hgr : W1.grownBy W2 v.ownBlock) (hnew : g < W1.heap.size → v.ownBlock = some g)
    (ha : Aft W2 W4 b g v (.slice (some ⟨g, 0, none⟩) (l.length + 1) c) s d cur (l.length * 5) (cellsP p u) true true) :
    PutPost W b B v (l ++ [p]) s d (.returned (.tuple #[])) W4 := by
  have hzn : zs.length = l.length := by rw [← hzl, List.length_map]
  have hlc : l.length * 5 + 5 ≤ cur.length := by rw [hcl]; omega
  have hW12 : Turn b v.ownBlock W W2 := (Turn.of_below hb).trans_same (Turn.of_grown hgr)
  obtain ⟨hbg, _, _⟩ := app_start h hb hgr hnew
  have hkeep : ∀ k, k < W.heap.size → k ≠ b → some k ≠ v.ownBlock → W4.heap[k]? = W.heap[k]? ∧ k ≠ g := by
    intro k hk h1 h2
    have hk1 : k < W1.heap.size := Nat.lt_of_lt_of_le hk hb.size
    have hk2 : k < W2.heap.size := Nat.lt_of_lt_of_le hk1 hgr.size
    have hkg : k ≠ g := fun e => by subst e; exact h2 (hnew hk1).symm
    exact ⟨(ha.block k hk2 h1 hkg).trans ((hgr.block k hk1 h2).trans (hb.block k hk)), hkg⟩
  have htree : ∀ {n : Nat} {w : Value} {q : List Prt}, TreeH n (Off B v) W w q → TreeH n (Off B (.slice (some ⟨g, 0, none⟩) (l.length + 1) c)) W4 w q := by
    intro n w q ht
    have hty : ∀ k X, W.heap[k]? = some (.cells X ptT) → k ≠ b := fun k X hX e => by
      rw [e, h.box] at hX
      injection hX with hX
      injection hX with _ hT _
      exact absurd hT (by decide)
    have h1 : TreeH n (fun k => Off B v k ∧ k ≠ b) W w q := by
      revert w q
      induction n with
      | zero => intro w q ht; exact ht
      | succ n ih =>
        intro w q ht
        obtain ⟨h1, ws, h2, h3, h4⟩ := ht
        refine ⟨fun k hk => ⟨h1 k hk, ?_⟩, ws, h2, h3, fun y hy => ih (h4 y hy)⟩
        rcases h3.2 with ⟨h5, _⟩ | ⟨k', cp, cu, h5, _, h6, _⟩
        · rw [h5] at hk; cases hk
        · rw [h5] at hk
          obtain rfl : k' = k := Option.some.inj hk
          exact hty _ _ h6
    have h2 := tree_keep (W' := W4) (fun k X hk hX => (hkeep k hk.2 hk.1.2 (fun e => hk.1.1.2 e.symm)).1) (tree_lt h1)
    exact tree_less (fun k hk _ => ⟨hk.1.1.1, fun e => (hkeep k hk.2 hk.1.2 (fun e => hk.1.1.2 e.symm)).2 (Option.some.inj e).symm⟩) h2
  refine ⟨rfl, _, ⟨ha.box, h.bB, ⟨zs ++ [(p, u)], by simp [hzl], ?_, ?_⟩, h.dd⟩, ⟨ha.os.trans hW12.os, ha.tape.trans hW12.tape, ha.output.trans hW12.output, ?_, fun k hk h1 h2 => (hkeep k hk h1 h2).1⟩, fun k hk hlt => ?_⟩
  · rw [show (l ++ [p]).length = l.length + 1 by simp]
    refine Sl.own_mk (cur := splice cur (l.length * 5) (cellsP p u)) hgb ha.row hcn hcm (by rw [splice_len hlc]; exact hcl) ?_
    have hfl : (zs.flatMap cz).length = l.length * 5 := by rw [cz_flat_len, hzn]
    have h1 : cur.take (l.length * 5) = zs.flatMap cz := by
      have h2 : (cur.take ((l.length + 1) * 5)).take (l.length * 5) = (zs.flatMap cz ++ z5).take (l.length * 5) := by rw [hcx]
      rw [List.take_take, Nat.min_eq_left (by omega)] at h2
      rw [h2]
      exact List.take_left' hfl
    unfold splice
    rw [h1, List.flatMap_append]
    rw [← List.append_assoc, List.take_left' (by rw [List.length_append, hfl]; show _ + 5 = _; omega)]
    simp [cz]
  · intro y hy
    rcases List.mem_append.1 hy with hy | hy
    · exact htree (hz y hy)
    · obtain rfl := List.mem_singleton.1 hy
      exact htree hu
  · rw [ha.size]; exact hW12.size
  · obtain rfl : g = k := Option.some.inj hk
    exact hnew (Nat.lt_of_lt_of_le hlt hb.size)
theorem cellsP_one (k : Int) (a b : ByteArray) (q : Bool) (u : Value) (hu : u.oneCell' = true) : ∀ v ∈ [Value.int .i64 k, .string a, .string b, .bool q, u], v.oneCell' = true := by
  intro v hv
  simp only [List.mem_cons, List.not_mem_nil, or_false] at hv
  rcases hv with rfl | rfl | rfl | rfl | rfl
  · rfl
  · rfl
  · rfl
  · rfl
  · exact hu
theorem box_there {W : World} {b : Nat} {c0 c1 c2 : Value} (h : W.heap[b]? = some (.cells #[c0, c1, c2] rdT)) : W.there b 0 1 := fun j hj => by
  obtain rfl : j = 0 := by omega
  exact ⟨by rw [Nat.zero_add, (rd_cells h).1.1]; rfl, (rd_cells h).2.1⟩
theorem put_new {l : List Prt} {p : Prt} (h : ∀ m x, l = m ++ [x] → ¬ (p.k ≤ 2 ∧ x.k = p.k)) : putP l p = l ++ [p] := by
  rcases snoc_cases l with rfl | ⟨m, x, rfl⟩
  · rfl
  · rw [put_snoc, if_neg (h m x rfl)]; simp
set_option maxHeartbeats 4000000 in
theorem put_calls (W : World) (b B : Nat) (v : Value) (l : List Prt) (s : Nm) (d : Nat) (h : Rd W b B v l s d) (p : Prt) (u : Value) (hu : TreeH (8 - d) (Off B v) W u p.w) (hw : wt l + wt [p] ≤ 1000000) (hl : l.length ≤ 1000000) (hBW : B ≤ W.heap.size) :
    Calls Tryd.prog 16 #[.pointer (some ⟨b, 0, none⟩), .agg (cellsP p u).toArray] W (PutPost W b B v (putP l p) s d) := by
  obtain ⟨i0, hi0, hz0, hz1, hz2⟩ := info_parts info_pt
  obtain ⟨w1, hw1, hc1, hb1⟩ := new_pt W p u
  obtain ⟨ua, uc, rfl⟩ := tree_slice hu
  obtain ⟨zs, hzl, hown, hzt⟩ := h.row
  have HH := Lib.hid h
  have HU := Lib.hid hu
  have HZl := Lib.hid hzl
  have HOw := Lib.hid hown
  have HZt := Lib.hid hzt
  have HC1 := Lib.hid hc1
  have HB1 := Lib.hid hb1
  have HWt : Hid (p.t.length ≤ 1000000 ∧ ∀ x ∈ l, x.t.length + p.t.length ≤ 1000000) := by
    have e : wt [p] = p.t.length + 1 := by simp [wt]
    refine ⟨by omega, fun x hx => ?_⟩
    have h2 : x.t.length + 1 ≤ wt l := by
      obtain ⟨m, n, rfl⟩ := List.append_of_mem hx
      rw [wt_append, wt_cons]; omega
    omega
  obtain ⟨pk, hpk⟩ : ∃ pk, p.k = pk := ⟨_, rfl⟩
  obtain ⟨pt, hpt⟩ : ∃ pt, p.t = pt := ⟨_, rfl⟩
  have hcp : Cut W.heap.size [.int .i64 (pk : Int), .string (str pt), .string (str p.o), .bool p.q, .slice ua p.w.length uc] ptT w1 := by rw [← hpk, ← hpt]; exact hc1
  have HCp := Lib.hid hcp
  have HW1 : Hid (W.alloc (.cells #[.int .i64 (pk : Int), .string (str pt), .string (str p.o), .bool p.q, .slice ua p.w.length uc] ptT) = w1) := by show _ = _; rw [← hpk, ← hpt]; exact hw1
  unfold cellsP
  rw [hpk, hpt]
  have HPk := Lib.hid hpk
  have HPt := Lib.hid hpt
  have hR1 := h.below hb1
  obtain ⟨⟨c0, c1, c2⟩, f0, f1, f2⟩ := rd_cells hR1.box
  have HR1 := Lib.hid hR1
  obtain ⟨tb, htb⟩ : ∃ tb, W.heap.size = tb := ⟨_, rfl⟩
  have HTb := Lib.hid htb
  rw [htb] at hcp
  have HCt := Lib.hid hcp
  have p0 : w1.cell? ⟨tb, 0, none⟩ = some (.int .i64 (pk : Int)) := hcp.cell 0
  have p1 : w1.cell? ⟨tb, 1, none⟩ = some (.string (str pt)) := hcp.cell 1
  clear h hu hzl hown hzt hc1 hb1 hpk hpt hw1 hcp hw hR1
  obtain ⟨av, cv, rfl⟩ := HH.out.slice
  go_enter Tryd.func16, Tryd.ntmps16
  go_upto_region 1 with fail
  rw [HW1.out]
  clear htb
  have hBb := HR1.out.bB
  by_cases hm : ∃ m x, l = m ++ [x] ∧ p.k ≤ 2 ∧ x.k = p.k
  case pos =>
    obtain ⟨m, x, rfl, hk2, hxk⟩ := hm
    have HPut : Hid (putP (m ++ [x]) p = m ++ [.mk x.k (x.t ++ p.t) x.o x.q x.w]) := by show _ = _; rw [put_snoc, if_pos ⟨hk2, hxk⟩]
    obtain ⟨zs0, y, hzs, hzm, hyx⟩ : ∃ zs0 y, zs = zs0 ++ [y] ∧ zs0.map (·.1) = m ∧ y.1 = x := by
      have hz := HZl.out
      rcases List.eq_nil_or_concat zs with h | ⟨zs0, y, h⟩
      · rw [h] at hz
        have := congrArg List.length hz
        simp at this
      · rw [List.concat_eq_append] at h
        subst h
        rw [List.map_append] at hz
        obtain ⟨h1, h2⟩ := List.append_inj' hz rfl
        exact ⟨zs0, y, rfl, h1, by simpa using h2⟩
    subst hzs
    subst hyx
    subst hzm
    have hle : (zs0.map (·.1) ++ [y.1]).length = zs0.length + 1 := by simp
    rw [hle] at HOw HH HU HR1 HZt c0 ⊢
    obtain ⟨g, cap, cur, hale, hgb, hg, hcn, hcm, hcl, hcx⟩ := Sl.own_row HOw.out (by omega)
    injection hale with e1 _ e3
    subst e1
    subst e3
    have hg1 : w1.heap[g]? = some (.cells cur.toArray ptT) := (HB1.out.block g (Array.getElem?_eq_some_iff.1 hg).1).trans hg
    have hcut : Cut g cur ptT w1 := hg1
    have hat : ∀ i, i < 5 → cur[zs0.length * 5 + i]? = (cz y)[i]? := fun i hi => by
      have h1 := cz_flat_at (zs0 ++ [y]) zs0.length (by simp) i hi
      rw [← hcx, List.getElem?_take, if_pos (by omega)] at h1
      simpa using h1
    have g0 : w1.cell? ⟨g, zs0.length * 5, none⟩ = some (.int .i64 (pk : Int)) := (hcut.cell _).trans ((hat 0 (by decide)).trans (by show some (Value.int .i64 ((y.1.k : Nat) : Int)) = _; rw [hxk, HPk.out]))
    have g1 : w1.cell? ⟨g, zs0.length * 5 + 1, none⟩ = some (.string (str y.1.t)) := (hcut.cell _).trans (hat 1 (by decide))
    have z1 : w1.frozen? ⟨g, zs0.length * 5 + 1, none⟩ = false := hcut.frozen _
    have hyl := HWt.out.2 y.1 (List.mem_append.2 (.inr List.mem_cons_self))
    rw [HPt.out] at hyl HWt
    have HMem := Lib.hid fun (W' : World) (hb : Below w1.heap.size w1 W') => put_mem (W := W') (HR1.out.below hb) (fun z hz => tree_below (HZt.out z hz) (HB1.out.trans (hb.mono HB1.out.size))) ((hb.block g hcut.lt).trans hg1) hcn hcm hcl hcx hgb pt
    obtain ⟨L, hL⟩ : ∃ L, zs0.length + 1 = L := ⟨_, rfl⟩
    have xI : ∀ (kd : IntKind) (w' : World), (Instr.indexAt 23 (.slice (some ⟨g, 0, none⟩) L cv) (.int kd ((L : Int) - 1))).run Tryd.prog w' = .ok (.pointer (some ⟨g, zs0.length * 5, none⟩)) w' := fun kd w' => by
      have := idx_pt (g := g) (n := L) (c := cv) zs0.length (by omega) kd w'
      rw [show (zs0.length : Int) = (L : Int) - 1 by omega] at this
      exact this
    have hLp : 0 < L := by omega
    have hLb : L ≤ 1000000 := by rw [← hL, ← hle]; exact hl
    obtain ⟨off, hoff⟩ : ∃ off, zs0.length * 5 = off := ⟨_, rfl⟩
    have HL := Lib.hid hL
    have HOf := Lib.hid hoff
    rw [hoff] at xI g0 g1 z1 HMem
    rw [hL] at c0 HMem HH ⊢
    have HPk2 : Hid (y.1.t.length + pt.length ≤ 1000000) := hyl
    have HCu := Lib.hid hcut
    have HX := Lib.hid xI
    have a1 : decide ((0 : Int) < (L : Int)) = true := decide_eq_true (by omega)
    have a2 : (0 : Int) < (L : Int) := by omega
    have k1 : decide ((pk : Int) ≤ 2) = true := decide_eq_true (by have := HPk.out; omega)
    have k2 : (pk : Int) ≤ 2 := by have := HPk.out; omega
    have k3 : ((pk : Int) == (pk : Int)) = true := beq_self_eq_true _
    clear hk2 hxk hle hgb hg hcn hcm hcl hcx hg1 hcut hat hL hoff hyl hl
    go_upto_region 2 with fail
    go_quiet (fail)
    go_upto_region 3 with fail
    generalize hw2 : w1.drewN nq = w2
    have hb2 : Below w1.heap.size w1 w2 := by rw [← hw2]; exact ⟨rfl, rfl, rfl, Nat.le_refl _, fun _ _ => rfl⟩
    have HB2 := Lib.hid hb2
    have HG1 := Lib.hid g1
    have HC0 := Lib.hid c0
    have HP1 := Lib.hid p1
    clear hw2 hb2 c0 c1 c2 f0 f1 f2 p0 p1 g0 g1 z1 xI a1 a2 k1 k2 k3
    refine Rg.wp_region_rgt 12 [] [Rg.Is (.pointer (some ⟨b, 0, none⟩)), Rg.Is (.pointer (some ⟨b, 0, none⟩)), Rg.Is (.pointer (some ⟨b, 0, none⟩)), Rg.Is (.slice (some ⟨g, 0, none⟩) L cv), Rg.Is (.int .i64 (L : Int)), Rg.Is (.int .i64 ((L : Int) - 1)), Rg.Is (.pointer (some ⟨g, off, none⟩)), Rg.Is (.pointer (some ⟨g, off + 1, none⟩)), Rg.Is (.string (str y.1.t)), Rg.Is (.pointer (some ⟨tb, 0 + 1, none⟩)), Rg.Is (.string (str pt)), Rg.Is (.string (str (y.1.t ++ pt)))] (by kernel_rfl) (by kernel_rfl) (of_decide_eq_true (by kernel_rfl)) (by kernel_rfl) (by kernel_rfl) ⟨Rg.st_is _, Rg.st_is _, Rg.st_is _, Rg.st_is _, Rg.st_is _, Rg.st_is _, Rg.st_is _, Rg.st_is _, Rg.st_is _, Rg.st_is _, Rg.st_is _, Rg.st_is _, trivial⟩ ⟨rfl, rfl, rfl, rfl, rfl, rfl, rfl, rfl, rfl, rfl, rfl, rfl, trivial⟩ ⟨?_, ?_, ?_, ?_, ?_, ?_, ?_, ?_, ?_, ?_, ?_, ?_, trivial⟩ ?_
    · intro _ a wx hb hk
      have h0 : a.eval (.tmp 0) = .pointer (some ⟨b, 0, none⟩) := Eq.mp (by kernel_rfl) (hk 0 (by decide))
      exact Rg.does_move ⟨Below.refl _ _, h0⟩
    · intro _ a wx hb hk
      have h31 : a.eval (.tmp 31) = .pointer (some ⟨b, 0, none⟩) := Eq.mp (by kernel_rfl) (hk 31 (by decide))
      exact Ap.does_nil _ h31 ⟨Below.refl _ _, rfl⟩
    · intro _ a wx hb hk
      have h32 : a.eval (.tmp 32) = .pointer (some ⟨b, 0, none⟩) := Eq.mp (by kernel_rfl) (hk 32 (by decide))
      exact Rs.does_field _ _ h32 (fld_row b 0 wx) ⟨Below.refl _ _, rfl⟩
    · intro _ a wx hb hk
      have h33 : a.eval (.tmp 33) = .pointer (some ⟨b, 0, none⟩) := Eq.mp (by kernel_rfl) (hk 33 (by decide))
      exact Rg.does_load _ _ h33 (load_pts (cell_below (HB2.out.trans (hb.mono HB2.out.size)) (Nat.le_refl _) HC0.out)) ⟨Below.refl _ _, rfl⟩
    · intro _ a wx hb hk
      have h4 : a.eval (.tmp 4) = .int .i64 (L : Int) := Eq.mp (by kernel_rfl) (hk 4 (by decide))
      exact Rg.does_move ⟨Below.refl _ _, h4⟩
    · intro _ a wx hb hk
      have h35 : a.eval (.tmp 35) = .int .i64 (L : Int) := Eq.mp (by kernel_rfl) (hk 35 (by decide))
      exact Rg.does_bin .i64 _ _ _ h35 rfl (Sw.run_minus (by omega) (by omega)) ⟨Below.refl _ _, rfl⟩
    · intro _ a wx hb hk
      have h34 : a.eval (.tmp 34) = .slice (some ⟨g, 0, none⟩) L cv := Eq.mp (by kernel_rfl) (hk 34 (by decide))
      have h36 : a.eval (.tmp 36) = .int .i64 ((L : Int) - 1) := Eq.mp (by kernel_rfl) (hk 36 (by decide))
      exact Rg.does_index _ _ _ h34 h36 (HX.out .i64 wx) ⟨Below.refl _ _, rfl⟩
    · intro _ a wx hb hk
      have h37 : a.eval (.tmp 37) = .pointer (some ⟨g, off, none⟩) := Eq.mp (by kernel_rfl) (hk 37 (by decide))
      exact Rs.does_field _ _ h37 (fld_pt g off 1 (by decide) wx) ⟨Below.refl _ _, rfl⟩
    · intro _ a wx hb hk
      have h38 : a.eval (.tmp 38) = .pointer (some ⟨g, off + 1, none⟩) := Eq.mp (by kernel_rfl) (hk 38 (by decide))
      exact Rg.does_load _ _ h38 (load_str (cell_below (HB2.out.trans (hb.mono HB2.out.size)) (Nat.le_refl _) HG1.out)) ⟨Below.refl _ _, rfl⟩
    · intro _ a wx hb hk
      have h3 : a.eval (.tmp 3) = .pointer (some ⟨tb, 0, none⟩) := Eq.mp (by kernel_rfl) (hk 3 (by decide))
      exact Rs.does_field _ _ h3 (fld_pt tb 0 1 (by decide) wx) ⟨Below.refl _ _, rfl⟩
    · intro _ a wx hb hk
      have h40 : a.eval (.tmp 40) = .pointer (some ⟨tb, 0 + 1, none⟩) := Eq.mp (by kernel_rfl) (hk 40 (by decide))
      exact Rg.does_load _ _ h40 (load_str (cell_below (HB2.out.trans (hb.mono HB2.out.size)) (Nat.le_refl _) HP1.out)) ⟨Below.refl _ _, rfl⟩
    · intro _ a wx hb hk
      have h39 : a.eval (.tmp 39) = .string (str y.1.t) := Eq.mp (by kernel_rfl) (hk 39 (by decide))
      have h41 : a.eval (.tmp 41) = .string (str pt) := Eq.mp (by kernel_rfl) (hk 41 (by decide))
      exact Sw.does_bin_str _ _ _ h39 h41 (Sw.run_cat (by have := HPk2.out; omega)) ⟨Below.refl _ _, rfl⟩
    intro vals wD hbD hL
    obtain ⟨g0, g1, g2, g3, g4, g5, g6, g7, g8, g9, g10, g11, _⟩ := hL
    have e3 : vals 3 = .slice (some ⟨g, 0, none⟩) L cv := g3
    have e5 : vals 5 = .int .i64 ((L : Int) - 1) := g5
    have e11 : vals 11 = .string (str (y.1.t ++ pt)) := g11
    simp only [Rg.putAll, List.take_succ_cons, List.take_zero, List.drop_succ_cons, List.drop_zero, List.setIfInBounds_toArray, List.set_cons_succ, List.set_cons_zero, e3, e5, e11]
    have HBD : Hid (Below w1.heap.size w1 wD) := HB2.out.trans (hbD.mono HB2.out.size)
    have HM := Lib.hid (HMem.out wD HBD.out)
    have xI := HX.out
    have g1 : wD.cell? ⟨g, off + 1, none⟩ = some (.string (str y.1.t)) := cell_below HBD.out (Nat.le_refl _) HG1.out
    have z1 : wD.frozen? ⟨g, off + 1, none⟩ = false := (HCu.out.below HBD.out).frozen _
    clear g0 g1 g2 g3 g4 g5 g6 g7 g8 g9 g10 g11 e3 e5 e11 hbD
    have g1 : wD.cell? ⟨g, off + 1, none⟩ = some (.string (str y.1.t)) := cell_below HBD.out (Nat.le_refl _) HG1.out
    go_wp2_with fail
    refine bodyPost_ret (results_none rfl _ _ _) rfl ?_
    refine ⟨rfl, .slice (some ⟨g, 0, none⟩) L cv, ?_, ?_, fun _ h _ => h⟩
    · rw [HPut.out, HPt.out]; exact HM.out.1
    · exact (Turn.of_below HB1.out).trans_same ((Turn.of_below HBD.out).trans_same HM.out.2)
  case neg =>
    have HNew : Hid (putP l p = l ++ [p]) := put_new fun m x e h => hm ⟨m, x, e, h⟩
    go_upto_region 2 with fail
    go_cut [30] (fun s30 wx => s30 = .bool false ∧ Below w1.heap.size w1 wx)
    case first =>
      by_cases h0 : l = []
      · subst h0
        have n1 : decide ((0 : Int) < 0) = false := rfl
        go_quiet (fail)
        go_wp2_with fail
        go_meet
        exact ⟨rfl, drewN_below _ _⟩
      · have hlp : 0 < l.length := by cases l with
          | nil => exact absurd rfl h0
          | cons x r => simp
        have HLp := Lib.hid hlp
        have a1 : decide ((0 : Int) < (l.length : Int)) = true := decide_eq_true (by omega)
        have a2 : (0 : Int) < (l.length : Int) := by omega
        by_cases hk : pk ≤ 2
        · have hx : ∃ m x, l = m ++ [x] ∧ x.k ≠ pk := by
            rcases snoc_cases l with h | ⟨m, x, h⟩
            · exact absurd h h0
            · exact ⟨m, x, h, fun e => hm ⟨m, x, h, by rw [HPk.out]; exact hk, by rw [HPk.out]; exact e⟩⟩
          obtain ⟨m, x, hlx, hxk⟩ := hx
          have hzn : zs.length = l.length := by have := congrArg List.length HZl.out; rw [List.length_map] at this; omega
          obtain ⟨g, cap, cur, hale, hgb, hg, hcn, hcm, hcl, hcx⟩ := Sl.own_row HOw.out HLp.out
          injection hale with e1 _ e3
          subst e1
          subst e3
          have hcut : Cut g cur ptT w1 := (HB1.out.block g (Array.getElem?_eq_some_iff.1 hg).1).trans hg
          have hxz : zs.map (·.1) = m ++ [x] := HZl.out.trans hlx
          have hat : cur[(l.length - 1) * 5]? = some (.int .i64 (x.k : Int)) := by
            have hj : l.length - 1 < zs.length := by omega
            have h1 := cz_flat_at zs (l.length - 1) hj 0 (by decide)
            rw [← hcx, List.getElem?_take, if_pos (by omega)] at h1
            refine h1.trans ?_
            have h2 : zs[l.length - 1].1 = x := by
              have h3 : (zs.map (·.1))[l.length - 1]'(by simpa using hj) = x := by
                have hml : m.length + 1 = l.length := by have := congrArg List.length hlx; simp at this; omega
                simp only [hxz]
                rw [List.getElem_append_right (by omega)]
                simp only [show l.length - 1 - m.length = 0 by omega, List.getElem_cons_zero]
              rw [List.getElem_map] at h3
              exact h3
            show some (Value.int .i64 ((zs[l.length - 1].1.k : Nat) : Int)) = _
            rw [h2]
          have g0 : w1.cell? ⟨g, (l.length - 1) * 5, none⟩ = some (.int .i64 (x.k : Int)) := (hcut.cell _).trans hat
          have xI : ∀ (kd : IntKind) (w' : World), (Instr.indexAt 23 (.slice (some ⟨g, 0, none⟩) l.length cv) (.int kd ((l.length : Int) - 1))).run Tryd.prog w' = .ok (.pointer (some ⟨g, (l.length - 1) * 5, none⟩)) w' := fun kd w' => by
            have := idx_pt (g := g) (n := l.length) (c := cv) (l.length - 1) (by omega) kd w'
            rw [show ((l.length - 1 : Nat) : Int) = (l.length : Int) - 1 by omega] at this
            exact this
          generalize (l.length - 1) * 5 = off at *
          have k1 : decide ((pk : Int) ≤ 2) = true := decide_eq_true (by omega)
          have k2 : (pk : Int) ≤ 2 := by omega
          have k3 : ((x.k : Int) == (pk : Int)) = false := by rw [beq_eq_false_iff_ne]; omega
          have hLb : l.length ≤ 1000000 := by omega
          generalize x.k = xk at *
          clear hk h0 hm hlx hxk hzn hgb hg hcn hcm hcl hcx hcut hxz hat
          go_quiet (fail)
          go_wp2_with fail
          go_meet
          exact ⟨rfl, drewN_below _ _⟩
        · have k1 : decide ((pk : Int) ≤ 2) = false := decide_eq_false (by omega)
          have k2 : ¬ (pk : Int) ≤ 2 := by omega
          clear hk h0 hm
          go_quiet (fail)
          go_wp2_with fail
          go_meet
          exact ⟨rfl, drewN_below _ _⟩
    case rest =>
      obtain ⟨rfl, hbx⟩ := hcut
      have HBx := Lib.hid hbx
      have HC0 := Lib.hid c0
      have HCp1 := Lib.hid (HCt.out.below hbx)
      clear hbx c0 c1 c2 f0 f1 f2 p0 p1 hm
      go_upto_region 4 with fail
      have HBW : Hid (Below W.heap.size W wc) := HB1.out.trans (HBx.out.mono HB1.out.size)
      have HOc := Lib.hid (ownsRow_below HOw.out HBW.out)
      have HLl : Hid (l.length ≤ 1000000) := hl
      clear hl
      have HZ5 : Hid ((Instr.buildSlice 23 1 #[(0, .agg #[.int .i64 0, .string ⟨#[]⟩, .string ⟨#[]⟩, .bool false, .slice none 0 0])]).run Tryd.prog = fun x => .ok (.slice (some ⟨x.heap.size, 0, none⟩) 1 1) (x.alloc (.cells #[.int .i64 0, .string ⟨#[]⟩, .string ⟨#[]⟩, .bool false, .slice none 0 0] ptT))) := by
        show _ = _
        funext x
        go_simp
      refine Rq.wp_region_rkx (fun _ _ => False) 8 [] [Rg.Is (.pointer (some ⟨b, 0, none⟩)), Rg.Is (.pointer (some ⟨b, 0, none⟩)), Rg.Is (.pointer (some ⟨b, 0, none⟩)), Rg.Is (.slice av l.length cv), Rg.Is (.agg #[.int .i64 (pk : Int), .string (str pt), .string (str p.o), .bool p.q, .slice ua p.w.length uc]), Rg.Is (.int .i64 (l.length : Int)), (fun y x' => ∃ q, y = .slice (some ⟨q, 0, none⟩) 1 1 ∧ wc.heap.size ≤ q ∧ x'.heap[q]? = some (.cells #[.int .i64 0, .string ⟨#[]⟩, .string ⟨#[]⟩, .bool false, .slice none 0 0] ptT)), (fun y x' => ∃ g c W1, y = .slice (some ⟨g, 0, none⟩) (l.length + 1) c ∧ Below wc.heap.size wc W1 ∧ x'.ownsRow B ptT 5 y (l.length + 1) (zs.flatMap cz ++ [.int .i64 0, .string ⟨#[]⟩, .string ⟨#[]⟩, .bool false, .slice none 0 0]) ∧ W1.grownBy x' (Value.ownBlock (.slice av l.length cv)) ∧ (g < W1.heap.size → (Value.slice av l.length cv).ownBlock = some g))] (fun _ _ => True) (fun ls x => ls 7 = false → Below wc.heap.size wc x) (fun k x y => if k = 7 then x.grownBy y (Value.ownBlock (.slice av l.length cv)) else Below x.heap.size x y) (by kernel_rfl) (by kernel_rfl) (of_decide_eq_true (by kernel_rfl)) (by kernel_rfl) (by kernel_rfl) trivial (fun _ => ⟨rfl, rfl, rfl, Nat.le_refl _, fun _ _ => rfl⟩) (fun ls ls' x e h1 h2 => h1 (by rw [e]; exact h2)) (fun _ _ _ _ _ => trivial) (fun i ls x _ h1 => by rw [show ([] : List Bool).getD i true = true from rfl] at h1; cases h1) ?_ ⟨rfl, rfl, rfl, rfl, rfl, rfl, rfl, rfl, trivial⟩ ⟨?_, ?_, ?_, ?_, ?_, ?_, ?_, ?_, trivial⟩ ?_ ?_
      · intro i k u x y hik _ h1 hK
        match i, h1, hik with
        | 0, h1, _ => exact h1
        | 1, h1, _ => exact h1
        | 2, h1, _ => exact h1
        | 3, h1, _ => exact h1
        | 4, h1, _ => exact h1
        | 5, h1, _ => exact h1
        | 6, h1, hik =>
          obtain ⟨q, h2, h3, h4⟩ := h1
          refine ⟨q, h2, h3, ?_⟩
          have hg := (Array.getElem?_eq_some_iff.1 h4).1
          by_cases hk : k = 7
          · subst hk
            rw [if_pos rfl] at hK
            exact (hK.block q hg (fun e => by have := (HOc.out.lt _ e.symm).2; omega)).trans h4
          · rw [if_neg hk] at hK
            exact (hK.block q hg).trans h4
        | 7, h1, hik =>
          rw [if_neg (fun e => hik e.symm)] at hK
          obtain ⟨g, c, W1, h2, h3, h4, h5, h6⟩ := h1
          exact ⟨g, c, W1, h2, h3, ownsRow_below h4 hK, ⟨hK.os.trans h5.os, hK.tape.trans h5.tape, hK.output.trans h5.output, Nat.le_trans h5.size hK.size, fun k hk hn => (hK.block k (Nat.lt_of_lt_of_le hk h5.size)).trans (h5.block k hk hn)⟩, h6⟩
        | _ + 8, _, _ => trivial
      · intro _ b9 x ls hR hS hself hup hdn hk
        have h0 : b9.eval (.tmp 0) = .pointer (some ⟨b, 0, none⟩) := Eq.mp (by kernel_rfl) (hk 0 (by decide))
        have lA : ls 7 = false := hdn [] 7 _ rfl (by kernel_rfl)
        have hb := hS lA
        refine Rp.doesX_of ?_
        exact Rg.does_move ⟨by rw [if_neg (by decide)]; exact Below.refl _ _, h0, fun hh => hS hh⟩
      · intro _ b9 x ls hR hS hself hup hdn hk
        have h45 : b9.eval (.tmp 45) = .pointer (some ⟨b, 0, none⟩) := Eq.mp (by kernel_rfl) (hk 45 (by decide))
        have lA : ls 7 = false := hdn [] 7 _ rfl (by kernel_rfl)
        have hb := hS lA
        refine Rp.doesX_of ?_
        exact Ap.does_nil _ h45 ⟨by rw [if_neg (by decide)]; exact Below.refl _ _, rfl, fun hh => hS hh⟩
      · intro _ b9 x ls hR hS hself hup hdn hk
        have h46 : b9.eval (.tmp 46) = .pointer (some ⟨b, 0, none⟩) := Eq.mp (by kernel_rfl) (hk 46 (by decide))
        have lA : ls 7 = false := hdn [] 7 _ rfl (by kernel_rfl)
        have hb := hS lA
        refine Rp.doesX_of ?_
        exact Rs.does_field _ _ h46 (fld_row b 0 x) ⟨by rw [if_neg (by decide)]; exact Below.refl _ _, rfl, fun hh => hS hh⟩
      · intro _ b9 x ls hR hS hself hup hdn hk
        have h47 : b9.eval (.tmp 47) = .pointer (some ⟨b, 0, none⟩) := Eq.mp (by kernel_rfl) (hk 47 (by decide))
        have lA : ls 7 = false := hdn [] 7 _ rfl (by kernel_rfl)
        have hb := hS lA
        refine Rp.doesX_of ?_
        exact Rg.does_load _ _ h47 (load_pts (cell_below (HBx.out.trans (hb.mono HBx.out.size)) (Nat.le_refl _) HC0.out)) ⟨by rw [if_neg (by decide)]; exact Below.refl _ _, rfl, fun hh => hS hh⟩
      · intro _ b9 x ls hR hS hself hup hdn hk
        have h3 : b9.eval (.tmp 3) = .pointer (some ⟨tb, 0, none⟩) := Eq.mp (by kernel_rfl) (hk 3 (by decide))
        have lA : ls 7 = false := hdn [] 7 _ rfl (by kernel_rfl)
        have hb := hS lA
        refine Rp.doesX_of ?_
        exact Rg.does_load _ _ h3 (load_pt (cs := [.int .i64 (pk : Int), .string (str pt), .string (str p.o), .bool p.q, .slice ua p.w.length uc]) (fun j v hv => by rw [Nat.zero_add, (HCp1.out.below hb).cell]; exact hv) rfl) ⟨by rw [if_neg (by decide)]; exact Below.refl _ _, rfl, fun hh => hS hh⟩
      · intro _ b9 x ls hR hS hself hup hdn hk
        have h48 : b9.eval (.tmp 48) = .slice av l.length cv := Eq.mp (by kernel_rfl) (hk 48 (by decide))
        have lA : ls 7 = false := hdn [] 7 _ rfl (by kernel_rfl)
        have hb := hS lA
        refine Rp.doesX_of ?_
        exact Rg.does_len _ _ _ Tryd.underlying23 h48 ⟨by rw [if_neg (by decide)]; exact Below.refl _ _, rfl, fun hh => hS hh⟩
      · intro _ b9 x ls hR hS hself hup hdn hk
        have lA : ls 7 = false := hdn [] 7 _ rfl (by kernel_rfl)
        have hb := hS lA
        refine Rp.doesX_of ?_
        have hal := (Below.refl x.heap.size x).alloc (Nat.le_refl _) (.cells #[.int .i64 0, .string ⟨#[]⟩, .string ⟨#[]⟩, .bool false, .slice none 0 0] ptT)
        exact Rg.does_build #[(0, .agg #[.int .i64 0, .string ⟨#[]⟩, .string ⟨#[]⟩, .bool false, .slice none 0 0])] _ (by simp [Act.eval]) (congrFun HZ5.out x) ⟨by rw [if_neg (by decide)]; exact hal, ⟨x.heap.size, rfl, hb.size, heap_alloc_new x _⟩, fun hh => hb.trans (hal.mono hb.size)⟩
      · intro _ b9 x ls hR hS hself hup hdn hk
        have h48 : b9.eval (.tmp 48) = .slice av l.length cv := Eq.mp (by kernel_rfl) (hk 48 (by decide))
        have h51 : (fun y x' => ∃ q, y = .slice (some ⟨q, 0, none⟩) 1 1 ∧ wc.heap.size ≤ q ∧ x'.heap[q]? = some (.cells #[.int .i64 0, .string ⟨#[]⟩, .string ⟨#[]⟩, .bool false, .slice none 0 0] ptT)) (b9.eval (.tmp 51)) x := Eq.mp (by kernel_rfl) (hk 51 (by decide))
        have hb := hS hself
        obtain ⟨q, hq0, hq1, hq2⟩ := h51
        refine Rp.doesX_of ?_
        obtain ⟨v', w', hrun, hown', hgr, hat⟩ := Ap.run_append_at (P := Tryd.prog) x B 23 23 23 ptT i0 _ 5 72 Tryd.underlying23 (append_side Tryd.underlying23) hi0 hz0 hz1 hz2 rfl (by decide) (by decide) (.slice av l.length cv) l.length (zs.flatMap cz) (ownsRow_below HOc.out hb) (b9.eval (.tmp 51)) 1 [.int .i64 0, .string ⟨#[]⟩, .string ⟨#[]⟩, .bool false, .slice none 0 0] (by rw [hq0]; exact src_cells (b := q) (off := 0) rfl (by intro u hu; simp at hu; rcases hu with rfl | rfl | rfl | rfl | rfl <;> rfl) (.inr rfl) (fun j u hj => by rw [Nat.zero_add]; simp only [World.cell?, hq2]; simpa using hj)) (by unfold maxLen; have := HLl.out; omega) (by have := HLl.out; omega) (by have := HBW.out.size; have := hb.size; omega)
        obtain ⟨g, cap, cur, hale, _⟩ := Sl.own_row hown' (by omega)
        subst hale
        exact Ap.does_append (.slice av l.length cv) _ _ w' h48 rfl hrun ⟨by rw [if_pos rfl]; exact hgr, ⟨g, cap, x, rfl, hb, hown', hgr, fun hlt => hat g rfl hlt⟩, fun hh => by simp [Rs.upd] at hh⟩
      · intro ch a' w' hdf hD
        exact hD.elim
      intro vals wD ls _ hSD _ hL
      obtain ⟨g0, g1, g2, g3, g4, g5, g6, g7, _⟩ := hL
      have e0 : vals 0 = .pointer (some ⟨b, 0, none⟩) := g0
      have e1 : vals 1 = .pointer (some ⟨b, 0, none⟩) := g1
      have e2 : vals 2 = .pointer (some ⟨b, 0, none⟩) := g2
      have e3 : vals 3 = .slice av l.length cv := g3
      have e4 : vals 4 = .agg #[.int .i64 (pk : Int), .string (str pt), .string (str p.o), .bool p.q, .slice ua p.w.length uc] := g4
      have e5 : vals 5 = .int .i64 (l.length : Int) := g5
      have e6 : ∃ q, vals 6 = .slice (some ⟨q, 0, none⟩) 1 1 ∧ wc.heap.size ≤ q ∧ wD.heap[q]? = some (.cells #[.int .i64 0, .string ⟨#[]⟩, .string ⟨#[]⟩, .bool false, .slice none 0 0] ptT) := g6
      have e7 : ∃ g c W1, vals 7 = .slice (some ⟨g, 0, none⟩) (l.length + 1) c ∧ Below wc.heap.size wc W1 ∧ wD.ownsRow B ptT 5 (vals 7) (l.length + 1) (zs.flatMap cz ++ [.int .i64 0, .string ⟨#[]⟩, .string ⟨#[]⟩, .bool false, .slice none 0 0]) ∧ W1.grownBy wD (Value.ownBlock (.slice av l.length cv)) ∧ (g < W1.heap.size → (Value.slice av l.length cv).ownBlock = some g) := g7
      obtain ⟨q, e6, hq1, hq2⟩ := e6
      obtain ⟨g, c, W1, e7, hW1, hown7, hgr7, hnew7⟩ := e7
      rw [e7] at hown7
      obtain ⟨g', cap, cur, hale, hgb, hg, hcn, hcm, hcl, hcx⟩ := Sl.own_row hown7 (by omega)
      injection hale with q1 _ q3
      injection q1 with q1
      injection q1 with q1 _ _
      subst q1
      subst q3
      have HW1b : Hid (Below W.heap.size W W1) := HB1.out.trans ((HBx.out.trans (hW1.mono HBx.out.size)).mono HB1.out.size)
      obtain ⟨hbg, hb2, hbox⟩ := app_start HH.out HW1b.out hgr7 hnew7
      have hglt : g < wD.heap.size := (Array.getElem?_eq_some_iff.1 hg).1
      have XI : Hid (∀ (kd : IntKind) (w' : World), (Instr.indexAt 23 (.slice (some ⟨g, 0, none⟩) (l.length + 1) c) (.int kd (l.length : Int))).run Tryd.prog w' = .ok (.pointer (some ⟨g, l.length * 5, none⟩)) w') := fun kd w' => idx_pt l.length (by omega) kd w'
      have HA0 : Hid (Aft wD wD b g (.slice av l.length cv) (.slice (some ⟨g, 0, none⟩) (l.length + 1) c) s d cur (l.length * 5) [.int .i64 (pk : Int), .string (str pt), .string (str p.o), .bool p.q, .slice ua p.w.length uc] false false) := ⟨hbox, hg, rfl, rfl, rfl, rfl, fun _ _ _ _ => rfl⟩
      simp only [Rg.putAll, List.take_succ_cons, List.take_zero, List.drop_succ_cons, List.drop_zero, List.setIfInBounds_toArray, List.set_cons_succ, List.set_cons_zero, e0, e1, e2, e3, e4, e5, e6, e7]
      clear g0 g1 g2 g3 g4 g5 g6 g7 e0 e1 e2 e3 e4 e5 e6 e7
      refine Rq.rest_list 8 [.pointer (some ⟨b, 0, none⟩), .pointer (some ⟨b, 0, none⟩), .pointer (some ⟨b, 0, none⟩), .slice av l.length cv, .agg #[.int .i64 (pk : Int), .string (str pt), .string (str p.o), .bool p.q, .slice ua p.w.length uc], .int .i64 (l.length : Int), .slice (some ⟨q, 0, none⟩) 1 1, .slice (some ⟨g, 0, none⟩) (l.length + 1) c] [Rg.Is (.pointer (some ⟨b, 0, none⟩)), Rg.Is (.pointer (some ⟨b, 0, none⟩)), Rg.Is (.pointer (some ⟨b, 0, none⟩)), Rg.Is (.slice av l.length cv), Rg.Is (.agg #[.int .i64 (pk : Int), .string (str pt), .string (str p.o), .bool p.q, .slice ua p.w.length uc]), Rg.Is (.int .i64 (l.length : Int)), Rg.Is (.slice (some ⟨q, 0, none⟩) 1 1), Rg.Is (.slice (some ⟨g, 0, none⟩) (l.length + 1) c), Rg.Is (.pointer (some ⟨g, l.length * 5, none⟩)), (fun _ _ => True), Rg.Is (.pointer (some ⟨b, 0, none⟩)), Rg.Is (.pointer (some ⟨b, 0, none⟩)), (fun _ _ => True)] (fun _ _ => True) (fun ls x => Aft wD x b g (.slice av l.length cv) (.slice (some ⟨g, 0, none⟩) (l.length + 1) c) s d cur (l.length * 5) [.int .i64 (pk : Int), .string (str pt), .string (str p.o), .bool p.q, .slice ua p.w.length uc] (ls 9) (ls 12)) (fun _ _ _ => True) (by kernel_rfl) (of_decide_eq_true (by kernel_rfl)) (by kernel_rfl) (by kernel_rfl) ⟨fun t h => by cases h; rfl, fun t h => by cases h; rfl, fun t h => by cases h; rfl, fun t h => by cases h; rfl, fun t h => by cases h; rfl, fun t h => by cases h; rfl, fun t h => by cases h; rfl, fun t h => by cases h; rfl, trivial⟩ ?_ ?_ (fun _ _ _ _ _ => trivial) ⟨?_, ?_, ?_, ?_, ?_, trivial⟩ ?_ ?_ trivial ?_
      · intro i hi
        match i, hi with
        | 0, _ => rfl
        | 1, _ => rfl
        | 2, _ => rfl
        | 3, _ => rfl
        | 4, _ => rfl
        | 5, _ => rfl
        | 6, _ => rfl
        | 7, _ => rfl
        | j + 8, hi => exact absurd hi (by omega)
      · intro i k u x y _ _ h1 _
        match i, h1 with
        | 0, h1 => exact h1
        | 1, h1 => exact h1
        | 2, h1 => exact h1
        | 3, h1 => exact h1
        | 4, h1 => exact h1
        | 5, h1 => exact h1
        | 6, h1 => exact h1
        | 7, h1 => exact h1
        | 8, h1 => exact h1
        | 9, h1 => exact h1
        | 10, h1 => exact h1
        | 11, h1 => exact h1
        | 12, h1 => exact h1
        | _ + 13, _ => trivial
      · intro b9 x ls _ hS hself hup hdn hk
        have h52 : b9.eval (.tmp 52) = .slice (some ⟨g, 0, none⟩) (l.length + 1) c := Eq.mp (by kernel_rfl) (hk 52 (by decide))
        have h50 : b9.eval (.tmp 50) = .int .i64 (l.length : Int) := Eq.mp (by kernel_rfl) (hk 50 (by decide))
        exact Rp.doesX_of (Rg.does_index _ _ _ h52 h50 (XI.out .i64 x) ⟨trivial, rfl, hS⟩)
      · intro b9 x ls _ hS hself hup hdn hk
        have h53 : b9.eval (.tmp 53) = .pointer (some ⟨g, l.length * 5, none⟩) := Eq.mp (by kernel_rfl) (hk 53 (by decide))
        have h49 : b9.eval (.tmp 49) = .agg #[.int .i64 (pk : Int), .string (str pt), .string (str p.o), .bool p.q, .slice ua p.w.length uc] := Eq.mp (by kernel_rfl) (hk 49 (by decide))
        rw [hself] at hS
        exact Rq.does_store_mid g (l.length * 5) _ h53 h49 (cut_there (show Cut g cur ptT x from hS.row) _ _ (by show _ + 5 ≤ _; rw [hcl]; omega)) info_ptS (all_oneCell_toArray (cellsP_one _ _ _ _ _ rfl)) ⟨trivial, trivial, hS.elem hbg (by show _ + 5 ≤ _; rw [hcl]; omega) hb2⟩
      · intro b9 x ls _ hS hself hup hdn hk
        have h45 : b9.eval (.tmp 45) = .pointer (some ⟨b, 0, none⟩) := Eq.mp (by kernel_rfl) (hk 45 (by decide))
        exact Rp.doesX_of (Ap.does_nil _ h45 ⟨trivial, rfl, hS⟩)
      · intro b9 x ls _ hS hself hup hdn hk
        have h54 : b9.eval (.tmp 54) = .pointer (some ⟨b, 0, none⟩) := Eq.mp (by kernel_rfl) (hk 54 (by decide))
        exact Rp.doesX_of (Rs.does_field _ _ h54 (fld_row b 0 x) ⟨trivial, rfl, hS⟩)
      · intro b9 x ls _ hS hself hup hdn hk
        have h55 : b9.eval (.tmp 55) = .pointer (some ⟨b, 0, none⟩) := Eq.mp (by kernel_rfl) (hk 55 (by decide))
        have h52 : b9.eval (.tmp 52) = .slice (some ⟨g, 0, none⟩) (l.length + 1) c := Eq.mp (by kernel_rfl) (hk 52 (by decide))
        rw [hself] at hS
        exact Rq.does_store_one b 0 _ h55 h52 rfl rfl (box_there hS.box) (by kernel_rfl) ⟨trivial, trivial, hS.head hbg hglt⟩
      · exact fun ls ls' x h hS => by rw [← h 9, ← h 12]; exact hS
      · intro vals wE ls _ hS hall hL
        rw [hall 9 (by decide), hall 12 (by decide)] at hS
        refine bodyPost_end (v := .tuple #[]) (results_none rfl _ _ _) rfl ?_
        rw [HNew.out]
        refine app_mem HH.out HU.out zs HZl.out HZt.out HW1b.out hgb hg hcn hcm hcl hcx hgr7 hnew7 ?_
        have e : cellsP p (.slice ua p.w.length uc) = [.int .i64 (pk : Int), .string (str pt), .string (str p.o), .bool p.q, .slice ua p.w.length uc] := by unfold cellsP; rw [HPk.out, HPt.out]
        rw [e]
        exact hS
      · exact HA0.out
end Go.Proofs.YtfjkgeeaeolkhaaDoor
