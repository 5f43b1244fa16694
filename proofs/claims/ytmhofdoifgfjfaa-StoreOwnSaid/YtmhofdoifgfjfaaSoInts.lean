/-
  Rows of ints that the call owns: one put in. Conditions: they are not too long. Printed by mkints.py from the walks of rows of pairs.
-/
import Derived.Test.YtmhofdoifgfjfaaSlRow
import Derived.Test.YtmhofdoifgfjfaaGReg
import Derived.Lib.SliceRun
import Derived.Lib.Overlaps
import Derived.Lib.AppendZerosOnto
import Derived.Laws.Externs
set_option linter.unusedVariables false
set_option maxRecDepth 100000
namespace Go.Proofs.Ytmhofdoifgfjfaa
open Go.RowKit Base

abbrev zv (z : Int) : Value := .int .i64 z
theorem ziv_len (x : Int) : [zv x].length = 1 := rfl
theorem ziv_one (x : Int) : ∀ u ∈ [zv x], u.oneCell' = true := by intro u hu; simp at hu; rw [hu]; rfl
theorem zinfo_i64 : (Try.prog.info? 3).map (fun i => (i.zero, i.size, i.bytes)) = some (some (.int .i64 0), 1, 8) := by kernel_rfl
abbrev OwnI (w : World) (base : Nat) (v : Value) (l : List Int) : Prop := w.ownsRow base 3 1 v l.length (l.map zv)
theorem zflat_one (l : List Int) : ∀ u ∈ l.map zv, u.oneCell' = true := by
  intro u hu
  obtain ⟨p, _, rfl⟩ := List.mem_map.1 hu
  rfl
theorem zappend_ints : ∃ d, Try.prog.underlying 41 = some d ∧ ∀ k, d ≠ .int k := append_side Try.underlying41
theorem zshape_row {w : World} {g : Nat} {cur : List Value} {t : TypeId} (h : w.heap[g]? = some (.cells cur.toArray t (0, 0))) : w.shape? g = some (t, cur.length) := by
  simp [World.shape?, h]
theorem zinsert_split {α : Type} (l : List α) (i : Nat) (x : α) (hi : i ≤ l.length) : l.insertIdx i x = l.take i ++ x :: l.drop i := by
  induction l generalizing i with
  | nil => simp at hi; subst hi; simp
  | cons y r ih =>
    cases i with
    | zero => simp
    | succ i => simp at hi; simp [ih i hi]
theorem zinsert_flat (l : List Int) (i : Nat) (x : Int) (hi : i ≤ l.length) : (l.insertIdx i x).map zv = (l.map zv).take i ++ ([zv x] ++ (l.map zv).drop i) := by
  rw [← List.map_take, ← List.map_drop, zinsert_split l i x hi, List.map_append, List.map_cons, List.singleton_append]
def zInsPost (w : World) (base : Nat) (v : Value) (l : List Int) (e : Ending) (w' : World) : Prop := ∃ v', e = .returned v' ∧ OwnI w' base v' l ∧ w.grownBy w' v.ownBlock ∧ ∀ g, v'.ownBlock = some g → g < w.heap.size → v.ownBlock = some g
set_option maxHeartbeats 4000000 in
/-- At the end. -/
theorem int_insert_end (w : World) (base : Nat) (v : Value) (l : List Int) (x : Int) (vb : Nat) (hown : OwnI w base v l) (hl : l.length ≤ 1000000) (hb : base ≤ w.heap.size)
    (hx : w.heap[vb]? = some (.cells [zv x].toArray 3 (0, 0))) :
    Calls Try.prog 17 #[v, .int .i64 (l.length : Int), .slice (some ⟨vb, 0, none⟩) 1 1] w (zInsPost w base v (l.insertIdx l.length x)) := by
  obtain ⟨i0, hi0, hz0, hz1, hz2⟩ := info_parts zinfo_i64
  have HS := Lib.hid (Ap.src_cellsAt (P := Try.prog) (f := fun z => [zv z]) ziv_len ziv_one hx 1)
  have HIx : Hid (∀ v' w', w'.ownsRow base 3 1 v' (l.length + 1) (l.map zv ++ [zv x]) → OwnI w' base v' (l.insertIdx l.length x)) := by
    show ∀ v' w', _ → _
    intro v' w' h
    show World.ownsRow _ _ _ _ _ _ _
    rw [zinsert_flat l _ x (Nat.le_refl _), List.length_insertIdx_of_le_length (Nat.le_refl _), List.take_of_length_le (by rw [List.length_map]; omega), List.drop_of_length_le (by rw [List.length_map]; omega), List.append_nil]
    exact h
  have HO := Lib.hid (show w.ownsRow base 3 1 v l.length (l.map zv) from hown)
  rcases hown.2 with ⟨rfl, h0⟩ | ⟨g, cap, cur, rfl, hbg, hg, hnc, hcm, _, _⟩
  · have hl0 : l = [] := List.eq_nil_of_length_eq_zero h0
    subst hl0
    clear hx h0 hown
    simp only [List.length_nil] at HIx ⊢
    go_enter Try.func17, Try.ntmps17
    go_wp2_with (at_builtin; refine Ap.wpList_append_at rfl (.tmp 23) (.tmp 24) 41 41 rfl base 3 i0 (.int .i64 0) 1 8 Try.underlying41 zappend_ints hi0 hz0 hz1 hz2 rfl (by decide) (by decide) _ 0 _ rfl HO.out _ 1 _ rfl HS.out ?_ ?_ ?_ ?_)
    case _ => unfold maxLen; omega
    case _ => omega
    case _ => exact hb
    intro v' w' h1 h2 h3
    have H1 := Lib.hid (HIx.out v' w' h1)
    have H2 := Lib.hid h2
    have H3 := Lib.hid h3
    clear h1 h2 h3
    go_wp2_with fail
    go_ret
    exact ⟨_, rfl, H1.out, H2.out, H3.out⟩
  · unfold maxLen at hcm
    generalize l.length = n at *
    clear hown hx hbg hg
    by_cases hcn : cap = n
    · subst hcn
      go_enter Try.func17, Try.ntmps17
      go_wp2_with (at_builtin; refine Ap.wpList_append_at rfl (.tmp 23) (.tmp 24) 41 41 rfl base 3 i0 (.int .i64 0) 1 8 Try.underlying41 zappend_ints hi0 hz0 hz1 hz2 rfl (by decide) (by decide) _ cap _ rfl HO.out _ 1 _ rfl HS.out ?_ ?_ ?_ ?_)
      case _ => unfold maxLen; omega
      case _ => omega
      case _ => exact hb
      intro v' w' h1 h2 h3
      have H1 := Lib.hid (HIx.out v' w' h1)
      have H2 := Lib.hid h2
      have H3 := Lib.hid h3
      clear h1 h2 h3
      go_wp2_with fail
      go_ret
      exact ⟨_, rfl, H1.out, H2.out, H3.out⟩
    · go_enter Try.func17, Try.ntmps17
      go_wp2_with (at_builtin; refine Ap.wpList_append_at rfl (.tmp 23) (.tmp 24) 41 41 rfl base 3 i0 (.int .i64 0) 1 8 Try.underlying41 zappend_ints hi0 hz0 hz1 hz2 rfl (by decide) (by decide) _ n _ rfl HO.out _ 1 _ rfl HS.out ?_ ?_ ?_ ?_)
      case _ => unfold maxLen; omega
      case _ => omega
      case _ => exact hb
      intro v' w' h1 h2 h3
      have H1 := Lib.hid (HIx.out v' w' h1)
      have H2 := Lib.hid h2
      have H3 := Lib.hid h3
      clear h1 h2 h3
      go_wp2_with fail
      go_ret
      exact ⟨_, rfl, H1.out, H2.out, H3.out⟩
set_option maxHeartbeats 4000000 in
/-- Ahead of the end, in place. -/
theorem int_insert_shift (w : World) (base : Nat) (g cap : Nat) (cur : List Value) (l : List Int) (i : Nat) (x : Int) (vb : Nat) (hi : i < l.length) (hl : l.length ≤ 1000000) (hroom : l.length + 1 ≤ cap) (hm : cap ≤ maxLen)
    (hg : w.heap[g]? = some (.cells cur.toArray 3 (0, 0))) (hbg : base ≤ g) (hcl : cur.length = cap) (hcx : cur.take l.length = l.map zv) (hvb : vb ≠ g)
    (hx : w.heap[vb]? = some (.cells [zv x].toArray 3 (0, 0))) :
    Calls Try.prog 17 #[.slice (some ⟨g, 0, none⟩) l.length cap, .int .i64 (i : Int), .slice (some ⟨vb, 0, none⟩) 1 1] w (zInsPost w base (.slice (some ⟨g, 0, none⟩) l.length cap) (l.insertIdx i x)) := by
  obtain ⟨i0, hi0, hz0, hz1, hz2⟩ := info_parts zinfo_i64
  have hsz : (Try.prog.info? 3).map (·.size) = some 1 := by rw [hi0]; simp [hz1]
  have hins := zinsert_flat l i x (by omega)
  have hil : (l.insertIdx i x).length = l.length + 1 := List.length_insertIdx_of_le_length (show i ≤ l.length by omega) x
  unfold maxLen at hm
  have hov : ∀ lb cb, (callFunc 25 #[.slice (some ⟨vb, 0, none⟩) 1 1, .slice (some ⟨g, i + 1, none⟩) lb cb]).run Try.prog w = .ok (.value (.bool false)) w := fun lb cb => by
    rw [run_callFunc_extern Try.func25 (by kernel_rfl) (by kernel_rfl) (by kernel_rfl) (e := Extern.SlicesOverlaps.overlaps #[41, 41] #[4]) (by kernel_rfl),
      Lib.run_overlaps_apart w 41 4 3 Try.underlying41 1 (fun w => by kernel_rfl) ⟨vb, 0, none⟩ ⟨g, i + 1, none⟩ 1 1 lb cb hvb _ _ _ _ (zshape_row hx) (zshape_row hg) (by rw [hcl]; omega) (Sl.row_frozen hx 0) (Sl.row_frozen hx _)]
    rfl
  obtain ⟨xs, hxs⟩ : ∃ xs, xs = l.map zv := ⟨_, rfl⟩
  have hxl : xs.length = l.length := by rw [hxs, List.length_map]
  have hxo : ∀ u ∈ xs, u.oneCell' = true := by rw [hxs]; exact zflat_one l
  rw [← hxs] at hcx hins
  obtain ⟨n, hn⟩ : ∃ n, n = l.length := ⟨_, rfl⟩
  rw [← hn] at hi hl hroom hcx hil hxl ⊢
  obtain ⟨cs, hcs⟩ : ∃ cs, cs = xs.drop i := ⟨_, rfl⟩
  have hdl : cs.length = (n - i) := by rw [hcs, List.length_drop, hxl]
  have hco : ∀ u ∈ cs, u.oneCell' = true := by rw [hcs]; exact fun u hu => hxo u (List.mem_of_mem_drop hu)
  have hgd : w.drew.heap[g]? = some (.cells cur.toArray 3 (0, 0)) := hg
  have hcc : ∀ j u, cs[j]? = some u → w.drew.cell? ((⟨g, i, none⟩ : Addr).add j) = some u := by
    intro j u hj
    rw [Addr.add_lit, Sl.row_cell hgd]
    rw [hcs, List.getElem?_drop, ← hcx, List.getElem?_take] at hj
    split at hj
    · exact hj
    · cases hj
  have hcp1 : ∀ ty dc sc, (Builtin.copy_ #[41, 41] ty #[.slice (some ⟨g, i + 1, none⟩) (n - i) dc, .slice (some ⟨g, i, none⟩) (n + 1 - i) sc]).run Try.prog w.drew = .ok (goInt ((n - i : Nat) : Int)) (w.drew.setCells g (i + 1) cs) := fun ty dc sc => by
    have h := Sl.run_copy_k (P := Try.prog) w.drew 41 41 ty 3 1 g (i + 1) (n - i) dc ⟨g, i, none⟩ (n + 1 - i) sc cs Try.underlying41 hsz (by rw [hdl]; simp only [Nat.min_def]; split <;> omega) hcc
      (fun j hj => Sl.row_some hgd _ (by rw [hcl]; omega)) (fun j hj => Sl.row_frozen hgd _) hco
    rw [show Nat.min (n + 1 - i) (n - i) = n - i by simp only [Nat.min_def]; split <;> omega] at h
    exact h
  obtain ⟨W1, hW1⟩ : ∃ W1, W1 = w.drew.setCells g (i + 1) cs := ⟨_, rfl⟩
  rw [← hW1] at hcp1
  have hg1 : W1.heap[g]? = some (.cells (splice cur (i + 1) cs).toArray 3 (0, 0)) := by
    rw [hW1]; exact Sl.heap_setCells g _ cs _ w.drew cur hgd (by rw [hdl, hcl]; omega)
  have hl1 : (splice cur (i + 1) cs).length = cap := by rw [length_splice _ _ _ (by rw [hdl, hcl]; omega), hcl]
  have hx1 : W1.heap[vb]? = some (.cells [zv x].toArray 3 (0, 0)) := by
    have hg' := Sl.setCells_grown g cs (i + 1) w.drew
    rw [← hW1] at hg'
    rw [hg'.block vb (Array.getElem?_eq_some_iff.1 hx).1 (by simpa using hvb)]
    exact hx
  have hcp2 : ∀ ty dc, (Builtin.copy_ #[41, 41] ty #[.slice (some ⟨g, i, none⟩) (n + 1 - i) dc, .slice (some ⟨vb, 0, none⟩) 1 1]).run Try.prog W1 = .ok (goInt 1) (W1.setCells g i [zv x]) := fun ty dc => by
    have h := Sl.run_copy_k (P := Try.prog) W1 41 41 ty 3 1 g i (n + 1 - i) dc ⟨vb, 0, none⟩ 1 1 [zv x] Try.underlying41 hsz (by rw [ziv_len, show Nat.min 1 (n + 1 - i) = 1 by simp only [Nat.min_def]; split <;> omega])
      (fun j u hj => by rw [Addr.add_lit, Nat.zero_add, Sl.row_cell hx1]; exact hj)
      (fun j hj => Sl.row_some hg1 _ (by rw [hl1]; have : j < 1 := hj; omega)) (fun j hj => Sl.row_frozen hg1 _) (ziv_one x)
    rw [show Nat.min 1 (n + 1 - i) = 1 by simp only [Nat.min_def]; split <;> omega] at h
    exact h
  have hg2 : (W1.setCells g i [zv x]).heap[g]? = some (.cells (splice (splice cur (i + 1) cs) i [zv x]).toArray 3 (0, 0)) := Sl.heap_setCells g _ [zv x] _ W1 _ hg1 (by rw [hl1, ziv_len]; omega)
  have hend : (splice (splice cur (i + 1) cs) i [zv x]).take (n + 1) = xs.take i ++ ([zv x] ++ cs) := by
    have e1 : (splice cur (i + 1) cs).take i = xs.take i := by
      unfold splice
      rw [List.take_append_of_le_length (by rw [List.length_take, hcl]; omega), List.take_take, Nat.min_eq_left (by omega), ← hcx, List.take_take, Nat.min_eq_left (by omega)]
    have e2 : ((splice cur (i + 1) cs).drop (i + [zv x].length)).take (n - i) = cs := by
      unfold splice
      rw [ziv_len, List.drop_append, List.drop_of_length_le (by rw [List.length_take, hcl]; omega), List.nil_append, List.length_take, hcl]
      rw [show i + 1 - min (i + 1) cap = 0 by omega, List.drop_zero, List.take_append_of_le_length (by rw [hdl]; omega), List.take_of_length_le (by rw [hdl]; omega)]
    rw [show splice (splice cur (i + 1) cs) i [zv x] = (splice cur (i + 1) cs).take i ++ ([zv x] ++ (splice cur (i + 1) cs).drop (i + [zv x].length)) from rfl, e1]
    have e3 : (xs.take i).length = i := by rw [List.length_take, hxl]; omega
    rw [ziv_len] at e2 ⊢
    generalize xs.take i = ys at *
    generalize (splice cur (i + 1) cs).drop (i + 1) = zs at *
    rw [List.take_append, e3, List.take_of_length_le (show ys.length ≤ n + 1 by omega), List.take_append, ziv_len, List.take_of_length_le (show [zv x].length ≤ n + 1 - i by rw [ziv_len]; omega), show n + 1 - i - 1 = (n - i) by omega, e2]
  have HFin : Hid (OwnI (W1.setCells g i [zv x]) base (.slice (some ⟨g, 0, none⟩) (n + 1) cap) (l.insertIdx i x)) := by
    show World.ownsRow _ _ _ _ _ _ _
    rw [hil, hins]
    refine Sl.own_mk hbg hg2 (by omega) (by unfold maxLen; omega) (by rw [length_splice _ _ _ (by rw [hl1, ziv_len]; omega), hl1, Nat.mul_one]) ?_
    rw [Nat.mul_one, hend, hcs]
  have HGr : Hid (w.grownBy (W1.setCells g i [zv x]) (some g)) := by
    show World.grownBy _ _ _
    refine Sl.grown_trans ?_ (Sl.setCells_grown g _ _ _)
    rw [hW1]
    exact Sl.grown_trans (Sl.grown_drew w _) (Sl.setCells_grown g _ _ _)
  have h63 : n < 9223372036854775807 := by omega
  have hin : i ≤ n := by omega
  have hne : ¬ ((i : Int) = (n : Int)) := by omega
  have hc1 : ¬ (cap = i + 1) := by omega
  have hc2 : ¬ (cap = i) := by omega
  have h01 : (0 : Int) ≤ (i : Int) + 1 := by omega
  have hi1 : i ≤ n + 1 := by omega
  have hdn : ¬ ((cap : Int) < (n : Int) + 1) := by omega
  have HC1 := Lib.hid hcp1
  have HC2 := Lib.hid hcp2
  have hw1 : IntKind.i64.wrap ((i : Int) + 1) = (i : Int) + 1 := by rw [IntKind.wrap_i64]; omega
  have htn : ((i : Int) + 1).toNat = i + 1 := by omega
  have hb3 : (i : Int) ≤ (n : Int) + 1 := by omega
  clear hins hil hx hg hcl hcx hxs hxl hxo hn hcs hdl hco hgd hcc hcp1 hW1 hg1 hl1 hx1 hcp2 hg2 hend hsz hi0 hz0 hz1 hz2 hvb
  go_enter Try.func17, Try.ntmps17
  go_wp2_with (simp only [hov])
  go_region_law (refine Sl.step_copy_run rfl (.tmp 73) (.tmp 76) 41 41 rfl (.slice (some ⟨g, i + 1, none⟩) (n - i) (cap - (i + 1))) (.slice (some ⟨g, i, none⟩) (n + 1 - i) (cap - i)) (by simp [Act.eval, Act.put]) (by simp [Act.eval, Act.put]) (HC1.out _ _ _) ?_)
  go_wp2_with (refine Sl.wpList_copy_run rfl (.tmp 80) (.tmp 81) 41 41 rfl _ _ rfl rfl (HC2.out _ _) ?_)
  go_ret
  exact ⟨_, rfl, HFin.out, HGr.out, fun j h _ => h⟩
set_option maxHeartbeats 4000000 in
theorem int_insert_grow (w : World) (base : Nat) (g cap : Nat) (cur : List Value) (l : List Int) (i : Nat) (x : Int) (vb : Nat) (hi : i < l.length) (hl : l.length ≤ 1000000) (hroom : cap < l.length + 1) (hnc : l.length ≤ cap) (hb : base ≤ w.heap.size)
    (hg : w.heap[g]? = some (.cells cur.toArray 3 (0, 0))) (hcl : cur.length = cap) (hcx : cur.take l.length = l.map zv)
    (hx : w.heap[vb]? = some (.cells [zv x].toArray 3 (0, 0))) :
    Calls Try.prog 17 #[.slice (some ⟨g, 0, none⟩) l.length cap, .int .i64 (i : Int), .slice (some ⟨vb, 0, none⟩) 1 1] w (zInsPost w base (.slice (some ⟨g, 0, none⟩) l.length cap) (l.insertIdx i x)) := by
  obtain ⟨i0, hi0, hz0, hz1, hz2⟩ := info_parts zinfo_i64
  have hsz : (Try.prog.info? 3).map (·.size) = some 1 := by rw [hi0]; simp [hz1]
  have hins := zinsert_flat l i x (by omega)
  have hil : (l.insertIdx i x).length = l.length + 1 := List.length_insertIdx_of_le_length (show i ≤ l.length by omega) x
  obtain ⟨xs, hxs⟩ : ∃ xs, xs = l.map zv := ⟨_, rfl⟩
  have hxl : xs.length = l.length := by rw [hxs, List.length_map]
  have hxo : ∀ u ∈ xs, u.oneCell' = true := by rw [hxs]; exact zflat_one l
  rw [← hxs] at hcx hins
  obtain ⟨n, hn⟩ : ∃ n, n = l.length := ⟨_, rfl⟩
  rw [← hn] at hi hl hroom hnc hcx hil hxl ⊢
  obtain rfl : cap = n := by omega
  obtain ⟨cs, hcs⟩ : ∃ cs, cs = xs.drop i := ⟨_, rfl⟩
  have hdl : cs.length = (cap - i) := by rw [hcs, List.length_drop, hxl]
  have hco : ∀ u ∈ cs, u.oneCell' = true := by rw [hcs]; exact fun u hu => hxo u (List.mem_of_mem_drop hu)
  have hbw : g < w.heap.size := (Array.getElem?_eq_some_iff.1 hg).1
  have hvw : vb < w.heap.size := (Array.getElem?_eq_some_iff.1 hx).1
  have hold : (Builtin.firstCells i0.size i (.slice (some ⟨g, 0, none⟩) i cap)).run Try.prog w.drew = .ok (xs.take i).toArray w.drew := by
    rw [hz1]
    exact run_firstCells_some w.drew 1 i ⟨g, 0, none⟩ i cap (xs.take i) (by rw [List.length_take, hxl]; omega) (fun j v hj => by
      rw [Addr.add_lit, Nat.zero_add]
      show w.cell? _ = _
      rw [Sl.row_cell hg]
      rw [List.getElem?_take] at hj
      split at hj
      · rw [← hcx, List.getElem?_take] at hj
        split at hj
        · exact hj
        · cases hj
      · cases hj)
  obtain ⟨G, hG⟩ : ∃ G, G = grownCap w (cap + 1) cap 3 := ⟨_, rfl⟩
  obtain ⟨ROW, hROW⟩ : ∃ ROW : List Value, ROW = ((xs.take i).toArray ++ Builtin.zeroCells (Value.int .i64 0).cells (cap + 1 - i) ++ Builtin.zeroCells (Value.int .i64 0).cells (G - (cap + 1))).toList := ⟨_, rfl⟩
  have hGn : cap + 1 ≤ G := by rw [hG]; exact grownCap_ge w _ _ _
  have hG63 : G ≤ maxLen := by
    rw [hG]; exact grownCap_le_maxLen w (cap + 1) cap _ (by unfold maxLen; omega)
  have hRl : ROW.length = G := by
    rw [hROW, Array.length_toList, Array.size_append, Array.size_append, size_zeroCells, size_zeroCells]
    show (xs.take i).toArray.size + (cap + 1 - i) * 1 + (G - (cap + 1)) * 1 = _
    rw [List.size_toArray, List.length_take, hxl]
    omega
  have hRt : ROW.take i = xs.take i := by
    rw [hROW]
    simp only [Array.toList_append]
    rw [List.append_assoc, List.take_append_of_le_length (by rw [List.length_take, hxl]; omega), List.take_take, Nat.min_self]
  have hrz : ∀ ty, (Builtin.append_ #[41, 3] ty #[.slice (some ⟨g, 0, none⟩) i cap, .int .i64 ((cap : Int) + 1 - (i : Int))]).run Try.prog w = .ok (.slice (some ⟨w.heap.size, 0, none⟩) (cap + 1) G) (w.drew.alloc (.cells ROW.toArray 3)) := fun ty => by
    have h := Lib.run_append_grow_zeros (P := Try.prog) w 41 3 ty 3 i0 _ .i64 .i64 Try.underlying41 Try.underlying3 hi0 hz0 (some ⟨g, 0, none⟩) i cap (xs.take i) hold (cap + 1 - i) (by omega) (by rw [hz1]; decide) (by omega) (by omega) (by rw [hz2]; omega) (by rw [hz2, show i + (cap + 1 - i) = cap + 1 by omega]; exact growslice_fits (by omega) (by omega))
    rw [show i + (cap + 1 - i) = cap + 1 by omega, ← hG] at h
    rw [show (cap : Int) + 1 - (i : Int) = ((cap + 1 - i : Nat) : Int) by omega, hROW]
    exact h
  obtain ⟨N, hNw⟩ : ∃ N, N = w.heap.size := ⟨_, rfl⟩
  obtain ⟨X1, hX1⟩ : ∃ X1, X1 = (w.alloc (.cells ROW.toArray 3)).drew := ⟨_, rfl⟩
  have hh1 : X1.heap[N]? = some (.cells ROW.toArray 3 (0, 0)) := by rw [hX1, hNw]; exact heap_alloc_new w _
  have hv1 : X1.heap[vb]? = some (.cells [zv x].toArray 3 (0, 0)) := by
    rw [hX1]; exact (((Below.refl w.heap.size w).alloc (Nat.le_refl _) _).block vb hvw).trans hx
  have hg1 : X1.heap[g]? = some (.cells cur.toArray 3 (0, 0)) := by
    rw [hX1]; exact (((Below.refl w.heap.size w).alloc (Nat.le_refl _) _).block g hbw).trans hg
  have hcpA : ∀ ty dc, (Builtin.copy_ #[41, 41] ty #[.slice (some ⟨N, i, none⟩) (cap + 1 - i) dc, .slice (some ⟨vb, 0, none⟩) 1 1]).run Try.prog X1 = .ok (goInt 1) (X1.setCells N i [zv x]) := fun ty dc => by
    have h := Sl.run_copy_k (P := Try.prog) X1 41 41 ty 3 1 N i (cap + 1 - i) dc ⟨vb, 0, none⟩ 1 1 [zv x] Try.underlying41 hsz (by rw [ziv_len, show Nat.min 1 (cap + 1 - i) = 1 by simp only [Nat.min_def]; split <;> omega])
      (fun j u hj => by rw [Addr.add_lit, Nat.zero_add, Sl.row_cell hv1]; exact hj)
      (fun j hj => Sl.row_some hh1 _ (by rw [hRl]; have : j < 1 := hj; omega)) (fun j hj => Sl.row_frozen hh1 _) (ziv_one x)
    rw [show Nat.min 1 (cap + 1 - i) = 1 by simp only [Nat.min_def]; split <;> omega] at h
    exact h
  obtain ⟨X2, hX2⟩ : ∃ X2, X2 = (X1.setCells N i [zv x]).drew := ⟨_, rfl⟩
  have hh2 : X2.heap[N]? = some (.cells (splice ROW i [zv x]).toArray 3 (0, 0)) := by
    rw [hX2]; exact Sl.heap_setCells N _ [zv x] _ X1 ROW hh1 (by rw [ziv_len, hRl]; omega)
  have hl2 : (splice ROW i [zv x]).length = G := by rw [length_splice _ _ _ (by rw [ziv_len, hRl]; omega), hRl]
  have hg2 : X2.heap[g]? = some (.cells cur.toArray 3 (0, 0)) := by
    have h := Sl.setCells_grown N [zv x] i X1
    rw [hX2]
    exact (h.block g (Array.getElem?_eq_some_iff.1 hg1).1 (by simp; omega)).trans hg1
  have hcc : ∀ j u, cs[j]? = some u → X2.cell? ((⟨g, i, none⟩ : Addr).add j) = some u := by
    intro j u hj
    rw [Addr.add_lit, Sl.row_cell hg2]
    rw [hcs, List.getElem?_drop, ← hcx, List.getElem?_take] at hj
    split at hj
    · exact hj
    · cases hj
  have hcpB : ∀ ty dc sc, (Builtin.copy_ #[41, 41] ty #[.slice (some ⟨N, i + 1, none⟩) (cap - i) dc, .slice (some ⟨g, i, none⟩) (cap - i) sc]).run Try.prog X2 = .ok (goInt ((cap - i : Nat) : Int)) (X2.setCells N (i + 1) cs) := fun ty dc sc => by
    have h := Sl.run_copy_k (P := Try.prog) X2 41 41 ty 3 1 N (i + 1) (cap - i) dc ⟨g, i, none⟩ (cap - i) sc cs Try.underlying41 hsz (by rw [hdl]; simp only [Nat.min_def]; split <;> omega) hcc
      (fun j hj => Sl.row_some hh2 _ (by rw [hl2]; omega)) (fun j hj => Sl.row_frozen hh2 _) hco
    rw [show Nat.min (cap - i) (cap - i) = cap - i by simp only [Nat.min_def]; split <;> omega] at h
    exact h
  have hh3 : (X2.setCells N (i + 1) cs).heap[N]? = some (.cells (splice (splice ROW i [zv x]) (i + 1) cs).toArray 3 (0, 0)) := Sl.heap_setCells N _ cs _ X2 _ hh2 (by rw [hl2, hdl]; omega)
  have hend : (splice (splice ROW i [zv x]) (i + 1) cs).take (cap + 1) = xs.take i ++ ([zv x] ++ cs) := by
    have e1 : (splice ROW i [zv x]).take (i + 1) = xs.take i ++ [zv x] := by
      unfold splice
      rw [hRt]
      generalize hys : xs.take i = ys at *
      have e3 : ys.length = i := by rw [← hys, List.length_take, hxl]; omega
      rw [← List.append_assoc, List.take_append_of_le_length (by rw [List.length_append, e3, ziv_len]; omega), List.take_of_length_le (by rw [List.length_append, e3, ziv_len]; omega)]
    rw [show splice (splice ROW i [zv x]) (i + 1) cs = (splice ROW i [zv x]).take (i + 1) ++ (cs ++ (splice ROW i [zv x]).drop (i + 1 + cs.length)) from rfl, e1]
    have e4 : (xs.take i ++ [zv x]).length = i + 1 := by rw [List.length_append, List.length_take, hxl, ziv_len]; omega
    rw [← List.append_assoc (xs.take i)]
    generalize xs.take i ++ [zv x] = ys at *
    rw [← List.append_assoc, List.take_append_of_le_length (by rw [List.length_append, e4, hdl]; omega), List.take_of_length_le (by rw [List.length_append, e4, hdl]; omega)]
  have HFin : Hid (OwnI (X2.setCells N (i + 1) cs) base (.slice (some ⟨N, 0, none⟩) (cap + 1) G) (l.insertIdx i x)) := by
    show World.ownsRow _ _ _ _ _ _ _
    rw [hil, hins]
    refine Sl.own_mk (by omega) hh3 hGn hG63 (by rw [length_splice _ _ _ (by rw [hl2, hdl]; omega), hl2, Nat.mul_one]) ?_
    rw [Nat.mul_one, hend, hcs]
  have HGr : Hid (w.grownBy (X2.setCells N (i + 1) cs) (some g)) := by
    show World.grownBy _ _ _
    have h1 : Below w.heap.size w X1 := by
      rw [hX1]
      have := (Below.refl w.heap.size w).alloc (Nat.le_refl _) (.cells ROW.toArray 3)
      exact ⟨this.os, this.tape, this.output, this.size, this.block⟩
    have h2 := Sl.setCells_grown N [zv x] i X1
    have h3 := Sl.setCells_grown N cs (i + 1) X2
    have h4 : Below w.heap.size w (X2.setCells N (i + 1) cs) := by
      have h5 : Below w.heap.size w X2 := by
        rw [hX2]
        have := h1.grown h2 h1.size (fun j hj => by cases hj; omega)
        exact ⟨this.os, this.tape, this.output, this.size, this.block⟩
      exact h5.grown h3 h5.size (fun j hj => by cases hj; omega)
    exact Sl.grown_below h4 _
  have hin : i ≤ cap := by omega
  have hne : ¬ ((i : Int) = (cap : Int)) := by omega
  have hc2 : ¬ (cap = i) := by omega
  have hGi : ¬ (G = i) := by omega
  have hGi1 : ¬ (G = i + 1) := by omega
  have h01 : (0 : Int) ≤ (i : Int) + 1 := by omega
  have hi1 : i ≤ cap + 1 := by omega
  have hb3 : (i : Int) ≤ (cap : Int) + 1 := by omega
  have hb4 : (i : Int) ≤ (cap : Int) := by omega
  have hb5 : (0 : Int) ≤ (cap : Int) + 1 - (i : Int) := by omega
  have hw1 : IntKind.i64.wrap ((i : Int) + 1) = (i : Int) + 1 := by rw [IntKind.wrap_i64]; omega
  have htn : ((i : Int) + 1).toNat = i + 1 := by omega
  have HRZ := Lib.hid hrz
  have HA := Lib.hid hcpA
  have HB := Lib.hid hcpB
  unfold maxLen at hG63
  clear hins hil hx hg hcl hcx hxs hxl hxo hn hcs hdl hco hbw hvw hold hG hROW hRl hRt hrz hh1 hv1 hg1 hcpA hh2 hl2 hg2 hcc hcpB hh3 hend hsz hi0 hz0 hz1 hz2
  subst hX2
  subst hX1
  subst hNw
  go_enter Try.func17, Try.ntmps17
  go_wp2_with (first
    | (at_builtin; refine Sl.wpList_append_runS rfl _ _ _ _ rfl _ _ rfl rfl (HRZ.out _) ?_)
    | (refine Sl.wpList_copy_run rfl (.tmp 43) (.tmp 44) 41 41 rfl _ _ rfl rfl (HA.out _ _) ?_))
  go_region_law (refine Sl.step_copy_run rfl (.tmp 50) (.tmp 53) 41 41 rfl (.slice (some ⟨w.heap.size, i + 1, none⟩) (cap - i) (G - (i + 1))) (.slice (some ⟨g, i, none⟩) (cap - i) (cap - i)) (by simp [Act.eval, Act.put]) (by simp [Act.eval, Act.put]) (HB.out _ _ _) ?_)
  go_wp2_with fail
  go_ret
  exact ⟨_, rfl, HFin.out, HGr.out, fun j h hl => absurd hl (by rw [← Option.some.inj h]; exact Nat.lt_irrefl _)⟩
/-- One put in, whatever the room. -/
theorem int_insert_calls (w : World) (base : Nat) (v : Value) (l : List Int) (i : Nat) (x : Int) (vb : Nat) (hown : OwnI w base v l) (hi : i ≤ l.length) (hl : l.length ≤ 1000000) (hb : base ≤ w.heap.size) (hvb : v.ownBlock ≠ some vb)
    (hx : w.heap[vb]? = some (.cells [zv x].toArray 3 (0, 0))) :
    Calls Try.prog 17 #[v, .int .i64 (i : Int), .slice (some ⟨vb, 0, none⟩) 1 1] w (zInsPost w base v (l.insertIdx i x)) := by
  by_cases he : i = l.length
  · subst he
    exact int_insert_end w base v l x vb hown hl hb hx
  · have hlt : i < l.length := by omega
    obtain ⟨g, cap, cur, rfl, hbg, hg, hn, hm, hcl, hcx⟩ := Sl.own_row hown (by omega)
    rw [Nat.mul_one] at hcl hcx
    by_cases hr : l.length + 1 ≤ cap
    · exact int_insert_shift w base g cap cur l i x vb hlt hl hr hm hg hbg hcl hcx (fun e => hvb (by rw [e]; rfl)) hx
    · exact int_insert_grow w base g cap cur l i x vb hlt hl (by omega) hn hb hg hcl hcx hx
/-- A row of ints that is owned, as it is read. -/
theorem own_ints {w : World} {base : Nat} {v : Value} {l : List Int} (h : OwnI w base v l) : ∃ a c, v = .slice a l.length c ∧ Ints .i64 w a l.length c l := by
  have hw : w.ownsRow base 3 1 v l.length (l.map zv) := h
  rcases hw.2 with ⟨rfl, h0⟩ | ⟨g, cap, cur, rfl, hg, hk, hn, hc, hcl, hx⟩
  · have hl : l = [] := List.eq_nil_of_length_eq_zero h0
    subst hl
    exact ⟨none, 0, rfl, RowOf.nil⟩
  · refine ⟨_, cap, rfl, rfl, hn, hc, g, 0, .inr rfl, fun k hk2 => ?_⟩
    show w.cell? _ = _
    rw [Sl.row_cell hk]
    have h2 : (cur.toList.take (l.length * 1))[k]? = some (zv l[k]) := by rw [hx, List.getElem?_map, List.getElem?_eq_getElem hk2]; rfl
    rw [List.getElem?_take] at h2
    split at h2
    · rw [Nat.zero_add, Nat.mul_one]; exact h2
    · cases h2
end Go.Proofs.Ytmhofdoifgfjfaa
