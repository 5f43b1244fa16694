/-
  Rows of pairs that the call owns: one put in ahead of the end where there is no room; whatever the room. Conditions: they are not too long.
-/
import Derived.Test.YtchmpkgjjkfjcaaDoorEnSlices
set_option linter.unusedVariables false
set_option maxRecDepth 100000
namespace Go.Proofs.YtchmpkgjjkfjcaaDoor
open Go.RowKit Base

set_option maxHeartbeats 4000000 in
theorem en_insert_grow (w : World) (base : Nat) (g cap : Nat) (cur : List Value) (l : List Vr) (i : Nat) (x : Vr) (vb : Nat) (hi : i < l.length) (hl : l.length ≤ 1000000) (hroom : cap < l.length + 1) (hnc : l.length ≤ cap) (hb : base ≤ w.heap.size)
    (hg : w.heap[g]? = some (.cells cur.toArray 36 (0, 0))) (hcl : cur.length = cap * 2) (hcx : cur.take (l.length * 2) = l.flatMap vrC)
    (hx : w.heap[vb]? = some (.cells (vrC x).toArray 36 (0, 0))) :
    Calls Tryd.prog 26 #[.slice (some ⟨g, 0, none⟩) l.length cap, .int .i64 (i : Int), .slice (some ⟨vb, 0, none⟩) 1 1] w (InsPost w base (.slice (some ⟨g, 0, none⟩) l.length cap) (l.insertIdx i x)) := by
  obtain ⟨i0, hi0, hz0, hz1, hz2⟩ := info_parts info_var
  have hsz : (Tryd.prog.info? 36).map (·.size) = some 2 := by rw [hi0]; simp [hz1]
  have hins := insert_flat l i x (by omega)
  have hil : (l.insertIdx i x).length = l.length + 1 := List.length_insertIdx_of_le_length (show i ≤ l.length by omega) x
  obtain ⟨xs, hxs⟩ : ∃ xs, xs = l.flatMap vrC := ⟨_, rfl⟩
  have hxl : xs.length = l.length * 2 := by rw [hxs, Ap.flat_len vrC_len]
  have hxo : ∀ u ∈ xs, u.oneCell' = true := by rw [hxs]; exact flat_one l
  rw [← hxs] at hcx hins
  obtain ⟨n, hn⟩ : ∃ n, n = l.length := ⟨_, rfl⟩
  rw [← hn] at hi hl hroom hnc hcx hil hxl ⊢
  obtain rfl : cap = n := by omega
  obtain ⟨cs, hcs⟩ : ∃ cs, cs = xs.drop (i * 2) := ⟨_, rfl⟩
  have hdl : cs.length = (cap - i) * 2 := by rw [hcs, List.length_drop, hxl]; omega
  have hco : ∀ u ∈ cs, u.oneCell' = true := by rw [hcs]; exact fun u hu => hxo u (List.mem_of_mem_drop hu)
  have hbw : g < w.heap.size := (Array.getElem?_eq_some_iff.1 hg).1
  have hvw : vb < w.heap.size := (Array.getElem?_eq_some_iff.1 hx).1
  have hold : (Builtin.firstCells i0.size i (.slice (some ⟨g, 0, none⟩) i cap)).run Tryd.prog w.drew = .ok (xs.take (i * 2)).toArray w.drew := by
    rw [hz1]
    exact run_firstCells_some w.drew 2 i ⟨g, 0, none⟩ i cap (xs.take (i * 2)) (by rw [List.length_take, hxl]; omega) (fun j v hj => by
      rw [Addr.add_lit, Nat.zero_add]
      show w.cell? _ = _
      rw [Sl.row_cell hg]
      rw [List.getElem?_take] at hj
      split at hj
      · rw [← hcx, List.getElem?_take] at hj
        split at hj
        · exact hj
        · cases hj
      · cases hj)
  obtain ⟨G, hG⟩ : ∃ G, G = grownCap w (cap + 1) cap 36 := ⟨_, rfl⟩
  obtain ⟨ROW, hROW⟩ : ∃ ROW : List Value, ROW = ((xs.take (i * 2)).toArray ++ Builtin.zeroCells (Value.agg #[.string ⟨#[]⟩, .string ⟨#[]⟩]).cells (cap + 1 - i) ++ Builtin.zeroCells (Value.agg #[.string ⟨#[]⟩, .string ⟨#[]⟩]).cells (G - (cap + 1))).toList := ⟨_, rfl⟩
  have hGn : cap + 1 ≤ G := by rw [hG]; exact grownCap_ge w _ _ _
  have hG63 : G ≤ maxLen := by
    rw [hG]; exact grownCap_le_maxLen w (cap + 1) cap _ (by unfold maxLen; omega)
  have hRl : ROW.length = G * 2 := by
    rw [hROW, Array.length_toList, Array.size_append, Array.size_append, size_zeroCells, size_zeroCells]
    show (xs.take (i * 2)).toArray.size + (cap + 1 - i) * 2 + (G - (cap + 1)) * 2 = _
    rw [List.size_toArray, List.length_take, hxl]
    omega
  have hRt : ROW.take (i * 2) = xs.take (i * 2) := by
    rw [hROW]
    simp only [Array.toList_append]
    rw [List.append_assoc, List.take_append_of_le_length (by rw [List.length_take, hxl]; omega), List.take_take, Nat.min_self]
  have hrz : ∀ ty, (Builtin.append_ #[25, 3] ty #[.slice (some ⟨g, 0, none⟩) i cap, .int .i64 ((cap : Int) + 1 - (i : Int))]).run Tryd.prog w = .ok (.slice (some ⟨w.heap.size, 0, none⟩) (cap + 1) G) (w.drew.alloc (.cells ROW.toArray 36)) := fun ty => by
    have h := Lib.run_append_grow_zeros (P := Tryd.prog) w 25 3 ty 36 i0 _ .i64 .i64 Tryd.underlying25 Tryd.underlying3 hi0 hz0 (some ⟨g, 0, none⟩) i cap (xs.take (i * 2)) hold (cap + 1 - i) (by omega) (by rw [hz1]; decide) (by omega) (by omega) (by rw [hz2]; omega) (by rw [hz2, show i + (cap + 1 - i) = cap + 1 by omega]; exact growslice_fits (by omega) (by omega))
    rw [show i + (cap + 1 - i) = cap + 1 by omega, ← hG] at h
    rw [show (cap : Int) + 1 - (i : Int) = ((cap + 1 - i : Nat) : Int) by omega, hROW]
    exact h
  obtain ⟨N, hNw⟩ : ∃ N, N = w.heap.size := ⟨_, rfl⟩
  obtain ⟨X1, hX1⟩ : ∃ X1, X1 = (w.alloc (.cells ROW.toArray 36)).drew := ⟨_, rfl⟩
  have hh1 : X1.heap[N]? = some (.cells ROW.toArray 36 (0, 0)) := by rw [hX1, hNw]; exact heap_alloc_new w _
  have hv1 : X1.heap[vb]? = some (.cells (vrC x).toArray 36 (0, 0)) := by
    rw [hX1]; exact (((Below.refl w.heap.size w).alloc (Nat.le_refl _) _).block vb hvw).trans hx
  have hg1 : X1.heap[g]? = some (.cells cur.toArray 36 (0, 0)) := by
    rw [hX1]; exact (((Below.refl w.heap.size w).alloc (Nat.le_refl _) _).block g hbw).trans hg
  have hcpA : ∀ ty dc, (Builtin.copy_ #[25, 25] ty #[.slice (some ⟨N, i * 2, none⟩) (cap + 1 - i) dc, .slice (some ⟨vb, 0, none⟩) 1 1]).run Tryd.prog X1 = .ok (goInt 1) (X1.setCells N (i * 2) (vrC x)) := fun ty dc => by
    have h := Sl.run_copy_k (P := Tryd.prog) X1 25 25 ty 36 2 N (i * 2) (cap + 1 - i) dc ⟨vb, 0, none⟩ 1 1 (vrC x) Tryd.underlying25 hsz (by rw [vrC_len, show Nat.min 1 (cap + 1 - i) = 1 by simp only [Nat.min_def]; split <;> omega])
      (fun j u hj => by rw [Addr.add_lit, Nat.zero_add, Sl.row_cell hv1]; exact hj)
      (fun j hj => Sl.row_some hh1 _ (by rw [hRl]; have : j < 2 := hj; omega)) (fun j hj => Sl.row_frozen hh1 _) (vrC_one x)
    rw [show Nat.min 1 (cap + 1 - i) = 1 by simp only [Nat.min_def]; split <;> omega] at h
    exact h
  obtain ⟨X2, hX2⟩ : ∃ X2, X2 = (X1.setCells N (i * 2) (vrC x)).drew := ⟨_, rfl⟩
  have hh2 : X2.heap[N]? = some (.cells (splice ROW (i * 2) (vrC x)).toArray 36 (0, 0)) := by
    rw [hX2]; exact Sl.heap_setCells N _ (vrC x) _ X1 ROW hh1 (by rw [vrC_len, hRl]; omega)
  have hl2 : (splice ROW (i * 2) (vrC x)).length = G * 2 := by rw [length_splice _ _ _ (by rw [vrC_len, hRl]; omega), hRl]
  have hg2 : X2.heap[g]? = some (.cells cur.toArray 36 (0, 0)) := by
    have h := Sl.setCells_grown N (vrC x) (i * 2) X1
    rw [hX2]
    exact (h.block g (Array.getElem?_eq_some_iff.1 hg1).1 (by simp; omega)).trans hg1
  have hcc : ∀ j u, cs[j]? = some u → X2.cell? ((⟨g, i * 2, none⟩ : Addr).add j) = some u := by
    intro j u hj
    rw [Addr.add_lit, Sl.row_cell hg2]
    rw [hcs, List.getElem?_drop, ← hcx, List.getElem?_take] at hj
    split at hj
    · exact hj
    · cases hj
  have hcpB : ∀ ty dc sc, (Builtin.copy_ #[25, 25] ty #[.slice (some ⟨N, (i + 1) * 2, none⟩) (cap - i) dc, .slice (some ⟨g, i * 2, none⟩) (cap - i) sc]).run Tryd.prog X2 = .ok (goInt ((cap - i : Nat) : Int)) (X2.setCells N ((i + 1) * 2) cs) := fun ty dc sc => by
    have h := Sl.run_copy_k (P := Tryd.prog) X2 25 25 ty 36 2 N ((i + 1) * 2) (cap - i) dc ⟨g, i * 2, none⟩ (cap - i) sc cs Tryd.underlying25 hsz (by rw [hdl]; simp only [Nat.min_def]; split <;> omega) hcc
      (fun j hj => Sl.row_some hh2 _ (by rw [hl2]; omega)) (fun j hj => Sl.row_frozen hh2 _) hco
    rw [show Nat.min (cap - i) (cap - i) = cap - i by simp only [Nat.min_def]; split <;> omega] at h
    exact h
  have hh3 : (X2.setCells N ((i + 1) * 2) cs).heap[N]? = some (.cells (splice (splice ROW (i * 2) (vrC x)) ((i + 1) * 2) cs).toArray 36 (0, 0)) := Sl.heap_setCells N _ cs _ X2 _ hh2 (by rw [hl2, hdl]; omega)
  have hend : (splice (splice ROW (i * 2) (vrC x)) ((i + 1) * 2) cs).take ((cap + 1) * 2) = xs.take (i * 2) ++ (vrC x ++ cs) := by
    have e1 : (splice ROW (i * 2) (vrC x)).take ((i + 1) * 2) = xs.take (i * 2) ++ vrC x := by
      unfold splice
      rw [hRt]
      generalize hys : xs.take (i * 2) = ys at *
      have e3 : ys.length = i * 2 := by rw [← hys, List.length_take, hxl]; omega
      rw [← List.append_assoc, List.take_append_of_le_length (by rw [List.length_append, e3, vrC_len]; omega), List.take_of_length_le (by rw [List.length_append, e3, vrC_len]; omega)]
    rw [show splice (splice ROW (i * 2) (vrC x)) ((i + 1) * 2) cs = (splice ROW (i * 2) (vrC x)).take ((i + 1) * 2) ++ (cs ++ (splice ROW (i * 2) (vrC x)).drop ((i + 1) * 2 + cs.length)) from rfl, e1]
    have e4 : (xs.take (i * 2) ++ vrC x).length = (i + 1) * 2 := by rw [List.length_append, List.length_take, hxl, vrC_len]; omega
    rw [← List.append_assoc (xs.take (i * 2))]
    generalize xs.take (i * 2) ++ vrC x = ys at *
    rw [← List.append_assoc, List.take_append_of_le_length (by rw [List.length_append, e4, hdl]; omega), List.take_of_length_le (by rw [List.length_append, e4, hdl]; omega)]
  have HFin : Hid (OwnV (X2.setCells N ((i + 1) * 2) cs) base (.slice (some ⟨N, 0, none⟩) (cap + 1) G) (l.insertIdx i x)) := by
    show World.ownsRow _ _ _ _ _ _ _
    rw [hil, hins]
    refine Sl.own_mk (by omega) hh3 hGn hG63 (by rw [length_splice _ _ _ (by rw [hl2, hdl]; omega), hl2]) ?_
    rw [hend, hcs]
  have HGr : Hid (w.grownBy (X2.setCells N ((i + 1) * 2) cs) (some g)) := by
    show World.grownBy _ _ _
    have h1 : Below w.heap.size w X1 := by
      rw [hX1]
      have := (Below.refl w.heap.size w).alloc (Nat.le_refl _) (.cells ROW.toArray 36)
      exact ⟨this.os, this.tape, this.output, this.size, this.block⟩
    have h2 := Sl.setCells_grown N (vrC x) (i * 2) X1
    have h3 := Sl.setCells_grown N cs ((i + 1) * 2) X2
    have h4 : Below w.heap.size w (X2.setCells N ((i + 1) * 2) cs) := by
      have h5 : Below w.heap.size w X2 := by
        rw [hX2]
        have := h1.grown h2 h1.size (fun j hj => by cases hj; omega)
        exact ⟨this.os, this.tape, this.output, this.size, this.block⟩
      exact h5.grown h3 h5.size (fun j hj => by cases hj; omega)
    exact Sl.grown_below h4 _
  have hin : i ≤ cap := by omega
  have hne : ¬ ((i : Int) = (cap : Int)) := by omega
  have hc2 : ¬ (cap = i) := by omega
  have hGi : ¬ (G = i) := by omega
  have hGi1 : ¬ (G = i + 1) := by omega
  have h01 : (0 : Int) ≤ (i : Int) + 1 := by omega
  have hi1 : i ≤ cap + 1 := by omega
  have hb3 : (i : Int) ≤ (cap : Int) + 1 := by omega
  have hb4 : (i : Int) ≤ (cap : Int) := by omega
  have hb5 : (0 : Int) ≤ (cap : Int) + 1 - (i : Int) := by omega
  have hw1 : IntKind.i64.wrap ((i : Int) + 1) = (i : Int) + 1 := by rw [IntKind.wrap_i64]; omega
  have htn : ((i : Int) + 1).toNat = i + 1 := by omega
  have HRZ := Lib.hid hrz
  have HA := Lib.hid hcpA
  have HB := Lib.hid hcpB
  unfold maxLen at hG63
  clear hins hil hx hg hcl hcx hxs hxl hxo hn hcs hdl hco hbw hvw hold hG hROW hRl hRt hrz hh1 hv1 hg1 hcpA hh2 hl2 hg2 hcc hcpB hh3 hend hsz hi0 hz0 hz1 hz2
  subst hX2
  subst hX1
  subst hNw
  go_enter Tryd.func26, Tryd.ntmps26
  go_wp2_with (first
    | (at_builtin; refine Sl.wpList_append_runS rfl _ _ _ _ rfl _ _ rfl rfl (HRZ.out _) ?_)
    | (refine Sl.wpList_copy_run rfl (.tmp 43) (.tmp 44) 25 25 rfl _ _ rfl rfl (HA.out _ _) ?_))
  go_region_law (refine Sl.step_copy_run rfl (.tmp 50) (.tmp 53) 25 25 rfl (.slice (some ⟨w.heap.size, (i + 1) * 2, none⟩) (cap - i) (G - (i + 1))) (.slice (some ⟨g, i * 2, none⟩) (cap - i) (cap - i)) (by simp [Act.eval, Act.put]) (by simp [Act.eval, Act.put]) (HB.out _ _ _) ?_)
  go_wp2_with fail
  go_ret
  exact ⟨_, rfl, HFin.out, HGr.out⟩
/-- One put in, whatever the room. -/
theorem en_insert_calls (w : World) (base : Nat) (v : Value) (l : List Vr) (i : Nat) (x : Vr) (vb : Nat) (hown : OwnV w base v l) (hi : i ≤ l.length) (hl : l.length ≤ 1000000) (hb : base ≤ w.heap.size) (hvb : v.ownBlock ≠ some vb)
    (hx : w.heap[vb]? = some (.cells (vrC x).toArray 36 (0, 0))) :
    Calls Tryd.prog 26 #[v, .int .i64 (i : Int), .slice (some ⟨vb, 0, none⟩) 1 1] w (InsPost w base v (l.insertIdx i x)) := by
  by_cases he : i = l.length
  · subst he
    exact en_insert_end w base v l x vb hown hl hb hx
  · have hlt : i < l.length := by omega
    obtain ⟨g, cap, cur, rfl, hbg, hg, hn, hm, hcl, hcx⟩ := Sl.own_row hown (by omega)
    by_cases hr : l.length + 1 ≤ cap
    · exact en_insert_shift w base g cap cur l i x vb hlt hl hr hm hg hbg hcl hcx (fun e => hvb (by rw [e]; rfl)) hx
    · exact en_insert_grow w base g cap cur l i x vb hlt hl (by omega) hn hb hg hcl hcx hx
end Go.Proofs.YtchmpkgjjkfjcaaDoor
