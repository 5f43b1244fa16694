/-
  Syntax: what lies where while the tree of two scripts is put together. Conditions: as each law says.
-/
import Derived.Test.YtknncfoaegmphaaGreatDoorSkSySame
set_option linter.unusedVariables false
set_option linter.unusedSimpArgs false
set_option maxRecDepth 100000
namespace Go.Proofs.YtknncfoaegmphaaGreatDoor.Sx
open Go.RowKit Base Lx Sy
/-- A row of nodes, and a list's node in a box of its own. -/
structure Tw (W : World) (B0 Lb : Nat) (vW vK : Value) (l : List Nd) (K : List Nat) : Prop where
  want : RowN W B0 (fun g => vK.ownBlock ≠ some g) vW l
  wne : vW.ownBlock ≠ some Lb
  box : W.heap[Lb]? = some (.cells #[.int .i64 5, .string ⟨#[]⟩, .bool false, .slice none 0 0, .int .i64 0, .slice none 0 0, vK, .int .i64 0] ndT)
  bB : B0 ≤ Lb
  kids : W.ownsRow B0 inT 1 vK K.length (K.map iv)
theorem Tw.below {W W' : World} {B0 Lb : Nat} {vW vK : Value} {l : List Nd} {K : List Nat} (h : Tw W B0 Lb vW vK l K) (hb : Below W.heap.size W W') : Tw W' B0 Lb vW vK l K :=
  ⟨h.want.keep (fun g X _ hX => hb.block g (Array.getElem?_eq_some_iff.1 hX).1) (fun g X t _ hX _ => hb.block g (Array.getElem?_eq_some_iff.1 hX).1), h.wne, (hb.block Lb (Array.getElem?_eq_some_iff.1 h.box).1).trans h.box, h.bB, ownsRow_below h.kids hb⟩
theorem Tw.lt {W : World} {B0 Lb : Nat} {vW vK : Value} {l : List Nd} {K : List Nat} (h : Tw W B0 Lb vW vK l K) : Lb < W.heap.size := (Array.getElem?_eq_some_iff.1 h.box).1
/-- A node more. -/
theorem Tw.put {W W1 : World} {B0 Lb : Nat} {vW vK v' : Value} {l : List Nd} {K : List Nat} {zs : List NV} {x : NV} (h : Tw W B0 Lb vW vK l K) (hzs : zs.map (·.1) = l) (hz : ∀ x ∈ zs, Rows W (fun g => vK.ownBlock ≠ some g) x.1 x.2.1 x.2.2.1 x.2.2.2)
    (hr : Rows W (fun g => vK.ownBlock ≠ some g) x.1 x.2.1 x.2.2.1 x.2.2.2) (hg : W.grownBy W1 vW.ownBlock) (ho : W1.ownsRow B0 ndT 8 v' (l.length + 1) (zs.flatMap nz ++ nz x)) (hat : ∀ g, v'.ownBlock = some g → g < W.heap.size → vW.ownBlock = some g) :
    Tw W1 B0 Lb v' vK (l ++ [x.1]) K := by
  obtain ⟨zs0, _, hown, _⟩ := h.want
  have hrow : ∀ (g : Nat) (X : Array Value) (t : TypeId), W.heap[g]? = some (.cells X t) → t ≠ ndT → W1.heap[g]? = W.heap[g]? := fun g X t hX hT =>
    hg.block g (Array.getElem?_eq_some_iff.1 hX).1 (fun e => own_ne (k' := 0) hown hX (fun e => hT e.symm) e.symm)
  have hrT : ∀ {t : TypeId}, rowT t → t ≠ ndT := fun ht e => by rw [e] at ht; exact rowT_no.1 ht
  refine ⟨⟨zs ++ [x], by rw [List.map_append, hzs]; rfl, ?_, fun y hy => ?_⟩, fun e => h.wne (hat Lb e h.lt), (hg.block Lb h.lt (fun e => h.wne e.symm)).trans h.box, h.bB, ?_⟩
  · rw [List.length_append, List.flatMap_append, List.flatMap_cons, List.flatMap_nil, List.append_nil]
    exact ho
  · rcases List.mem_append.1 hy with hy | hy
    · exact (hz y hy).keep fun g X t _ hX hT => hrow g X t hX (hrT hT)
    · obtain rfl := List.mem_singleton.1 hy
      exact hr.keep fun g X t _ hX hT => hrow g X t hX (hrT hT)
  · exact own_keep h.kids fun g X _ hX => hrow g X inT hX (by decide)
/-- The list's kids become more. -/
theorem Tw.more {W W1 : World} {B0 Lb : Nat} {vW vK v' : Value} {l : List Nd} {K K2 : List Nat} (h : Tw W B0 Lb vW vK l K) (hg : W.grownBy W1 vK.ownBlock) (ho : W1.ownsRow B0 inT 1 v' (K ++ K2).length ((K ++ K2).map iv)) (hat : ∀ g, v'.ownBlock = some g → g < W.heap.size → vK.ownBlock = some g) :
    Tw (W1.setCell ⟨Lb, 6, none⟩ v') B0 Lb vW v' l (K ++ K2) := by
  have hkL : vK.ownBlock ≠ some Lb := own_ne (k' := 0) h.kids h.box (by decide)
  have hbx1 : W1.heap[Lb]? = some (.cells #[.int .i64 5, .string ⟨#[]⟩, .bool false, .slice none 0 0, .int .i64 0, .slice none 0 0, vK, .int .i64 0] ndT) := (hg.block Lb h.lt (fun e => hkL e.symm)).trans h.box
  have hs := heap_setCell_same W1 Lb 6 _ _ v' hbx1
  have hgr : W1.grownBy (W1.setCell ⟨Lb, 6, none⟩ v') (some Lb) := Sl.setCells_grown Lb [v'] 6 W1
  have keep : ∀ (g : Nat) (X : Array Value) (t : TypeId), W.heap[g]? = some (.cells X t) → vK.ownBlock ≠ some g → g ≠ Lb → (W1.setCell ⟨Lb, 6, none⟩ v').heap[g]? = W.heap[g]? := fun g X t hX h1 h2 => by
    have hl := (Array.getElem?_eq_some_iff.1 hX).1
    exact (hgr.block g (Nat.lt_of_lt_of_le hl hg.size) (fun e => h2 (Option.some.inj e))).trans (hg.block g hl (fun e => h1 e.symm))
  obtain ⟨zs, hzs, hown, hz⟩ := h.want
  refine ⟨⟨zs, hzs, own_keep hown fun g X hgo hX => keep g X _ hX (own_ne (k' := 0) h.kids hX (by decide)) (fun e => h.wne (by rw [← e]; exact hgo)), fun x hx => ?_⟩, h.wne, hs, h.bB, ?_⟩
  · refine (((hz x hx).less (Q' := fun g => vK.ownBlock ≠ some g ∧ v'.ownBlock ≠ some g) fun g hP hgl => ⟨hP, fun e => hP (hat g e hgl)⟩).keep fun g X t hP hX hT => keep g X t hX hP.1 (fun e => ?_)).less fun g hP _ => hP.2
    subst e
    rw [h.box] at hX
    injection hX with hX
    injection hX with _ hT2 _
    rw [← hT2] at hT
    exact rowT_no.1 hT
  · refine own_keep ho fun g X hgo hX => hgr.block g (Array.getElem?_eq_some_iff.1 hX).1 (fun e => ?_)
    obtain rfl := Option.some.inj e
    rw [hbx1] at hX
    injection hX with hX
    injection hX with _ hT _
    exact absurd hT (by decide)
theorem flat_inv {α : Type} {f : α → List Value} {k : Nat} (hf : ∀ x, (f x).length = k) : ∀ (l : List α) (j : Nat) (u : Value), (l.flatMap f)[j]? = some u → ∃ i x r, l[i]? = some x ∧ (f x)[r]? = some u ∧ j = i * k + r
  | [], j, u, h => by cases h
  | x :: l, j, u, h => by
    rw [List.flatMap_cons] at h
    by_cases hj : j < (f x).length
    · rw [List.getElem?_append_left hj] at h
      exact ⟨0, x, j, rfl, h, by simp⟩
    · rw [List.getElem?_append_right (by omega)] at h
      obtain ⟨i, y, r, h1, h2, h3⟩ := flat_inv hf l _ u h
      rw [hf] at h3 hj
      exact ⟨i + 1, y, r, h1, h2, by rw [Nat.add_mul]; omega⟩
theorem src_rowN {α : Type} {f : α → List Value} {k : Nat} (hf : ∀ x, (f x).length = k) {P : Program} {w : World} {a : Option Addr} {n c : Nat} {l : List α} (h1 : ∀ x ∈ l, ∀ u ∈ f x, u.oneCell' = true) (h : RowOf (Ap.cellsAt f) k w a n c l) : Base.Src P w k (.slice a n c) n (l.flatMap f) := by
  obtain ⟨hn, _, _, b, off, ha, hc⟩ := h
  refine src_cells (b := b) (off := off) (by rw [Ap.flat_len hf, hn]) (fun u hu => ?_) ha fun j u hj => ?_
  · obtain ⟨x, hx, hu⟩ := List.mem_flatMap.1 hu
    exact h1 x hx u hu
  · obtain ⟨i, x, r, h2, h3, rfl⟩ := flat_inv hf l j u hj
    obtain ⟨hi, rfl⟩ := List.getElem?_eq_some_iff.1 h2
    have := hc i hi r u h3
    rw [← Nat.add_assoc]
    exact this
theorem nz_one {W : World} {P : Nat → Prop} {x : NV} (h : Rows W P x.1 x.2.1 x.2.2.1 x.2.2.2) : ∀ u ∈ nz x, u.oneCell' = true := by
  obtain ⟨⟨a1, c1, e1⟩, ⟨a2, c2, e2⟩, ⟨a3, c3, e3⟩⟩ := rowsum h
  exact ndC_one ⟨a1, _, c1, e1⟩ ⟨a2, _, c2, e2⟩ ⟨a3, _, c3, e3⟩
theorem nodes_take {W : World} {B : Nat} {P : Nat → Prop} {a : Option Addr} {n c : Nat} {l : List Nd} (h : RowN W B P (.slice a n c) l) (k : Nat) (hk : k ≤ n) (hn : l.length = n) : ∃ zs : List NV, zs.map (·.1) = l ∧ (∀ x ∈ zs, Rows W P x.1 x.2.1 x.2.2.1 x.2.2.2) ∧ ∃ a', (∀ w', (Instr.slice 23 (.slice a n c) none (some (.int .i64 (k : Int))) none).run Tryz.prog w' = .ok (.slice a' k c) w') ∧ Base.Src Tryz.prog W 8 (.slice a' k c) k ((zs.take k).flatMap nz) := by
  obtain ⟨i0, hi0, hz0, hz1, hz2⟩ := info_parts info_nd
  obtain ⟨zs, rfl, hown, hz⟩ := h
  rw [List.length_map] at hn
  rw [List.length_map, hn] at hown
  obtain ⟨a2, c2, hv, hr⟩ := Ap.own_cells (by decide) nz_len hown
  obtain ⟨rfl, _, rfl⟩ := Value.slice.inj hv
  obtain ⟨a', h1, h2⟩ := hr.sub (P := Tryz.prog) 0 k (Nat.zero_le _) hk
  refine ⟨zs, rfl, hz, a', fun w' => by simpa using (h2 23 ndT i0 Tryz.underlying23 hi0 hz1 w').2.1 rfl .i64, ?_⟩
  have h3 : RowOf (Ap.cellsAt nz) 8 W a' k c (zs.take k) := by simpa using h1
  exact src_rowN nz_len (fun x hx => nz_one (hz x (List.mem_of_mem_take hx))) h3
theorem ints_src {W : World} {B n : Nat} {v : Value} {l : List Nat} (h : W.ownsRow B inT 1 v n (l.map iv)) : Base.Src Tryz.prog W 1 v n (l.map iv) := by
  have hl := h.1
  obtain ⟨a, c, rfl, h3, h4, _, b, h5, h6⟩ := ownsRow_slice h
  refine src_cells (b := b) (off := 0) hl (fun u hu => ?_) h5 fun j u hj => by rw [Nat.zero_add]; exact h6 j u hj
  obtain ⟨x, _, rfl⟩ := List.mem_map.1 hu
  rfl
theorem grown_low {w w' : World} {B : Nat} {r : Option Nat} (h : w.grownBy w' r) (hr : ∀ j, r = some j → B ≤ j) (hB : B ≤ w.heap.size) : Below B w w' :=
  ⟨h.os, h.tape, h.output, h.size, fun k hk => h.block k (Nat.lt_of_lt_of_le hk hB) fun e => by have := hr k e.symm; omega⟩
theorem load_ik {w : World} {ad : Addr} {v : Value} (h : w.cell? ad = some v) : (Instr.loadAt 29 (.pointer (some ad))).run Tryz.prog w = .ok v w := Ap.load_plainP (by simp [isAgg]) h
/-- A row of nodes becomes one more. -/
theorem rowN_put {W W1 : World} {B : Nat} {P : Nat → Prop} {v v' : Value} {l : List Nd} {zs : List NV} {x : NV} (hzs : zs.map (·.1) = l) (hown : W.ownsRow B ndT 8 v l.length (zs.flatMap nz)) (hz : ∀ x ∈ zs, Rows W P x.1 x.2.1 x.2.2.1 x.2.2.2)
    (hr : Rows W P x.1 x.2.1 x.2.2.1 x.2.2.2) (hg : W.grownBy W1 v.ownBlock) (ho : W1.ownsRow B ndT 8 v' (l.length + 1) (zs.flatMap nz ++ nz x)) : RowN W1 B P v' (l ++ [x.1]) := by
  have hrow : ∀ (g : Nat) (X : Array Value) (t : TypeId), W.heap[g]? = some (.cells X t) → t ≠ ndT → W1.heap[g]? = W.heap[g]? := fun g X t hX hT =>
    hg.block g (Array.getElem?_eq_some_iff.1 hX).1 (fun e => own_ne (k' := 0) hown hX (fun e => hT e.symm) e.symm)
  have hrT : ∀ {t : TypeId}, rowT t → t ≠ ndT := fun ht e => by rw [e] at ht; exact rowT_no.1 ht
  refine ⟨zs ++ [x], by rw [List.map_append, hzs]; rfl, ?_, fun y hy => ?_⟩
  · rw [List.length_append, List.flatMap_append, List.flatMap_cons, List.flatMap_nil, List.append_nil]
    exact ho
  · rcases List.mem_append.1 hy with hy | hy
    · exact (hz y hy).keep fun g X t _ hX hT => hrow g X t hX (hrT hT)
    · obtain rfl := List.mem_singleton.1 hy
      exact hr.keep fun g X t _ hX hT => hrow g X t hX (hrT hT)
def kidV (n : Nat) (l : List Nat) : List Value := (l.map (· + n)).map iv
theorem kidV_next {n y : Nat} {l : List Nat} {k : Nat} (h : l[k]? = some y) : kidV n (l.take (k + 1)) = kidV n (l.take k) ++ [.int .i64 ((y : Int) + (n : Int))] := by
  obtain ⟨hk, rfl⟩ := List.getElem?_eq_some_iff.1 h
  unfold kidV
  rw [List.take_succ_eq_append_getElem hk, List.map_append, List.map_append]
  rfl
theorem kidV_nil (n : Nat) : kidV n [] = [] := rfl
end Go.Proofs.YtknncfoaegmphaaGreatDoor.Sx
