/-
  Rows of pairs that the call owns: cloned, one taken out, one put in. Conditions: they are not too long.
-/
import Derived.Test.YtchmpkgjjkfjcaaDoorSlRow
import Derived.Lib.SliceRun
import Derived.Lib.Overlaps
import Derived.Lib.AppendZerosOnto
import Derived.Laws.Externs
set_option linter.unusedVariables false
set_option maxRecDepth 100000
namespace Go.Proofs.YtchmpkgjjkfjcaaDoor
open Go.RowKit Base

abbrev Vr := List UInt8 × List UInt8
def vrC (p : Vr) : List Value := [.string (str p.1), .string (str p.2)]
theorem vrC_len (p : Vr) : (vrC p).length = 2 := rfl
theorem vrC_one (p : Vr) : ∀ u ∈ vrC p, u.oneCell' = true := by intro u hu; simp [vrC] at hu; rcases hu with rfl | rfl <;> rfl
theorem info_var : (Tryd.prog.info? 36).map (fun i => (i.zero, i.size, i.bytes)) = some (some (.agg #[.string ⟨#[]⟩, .string ⟨#[]⟩]), 2, 32) := by kernel_rfl
abbrev Vrs := RowOf (Ap.cellsAt vrC) 2
abbrev OwnV (w : World) (base : Nat) (v : Value) (l : List Vr) : Prop := w.ownsRow base 36 2 v l.length (l.flatMap vrC)
theorem flat_one (l : List Vr) : ∀ u ∈ l.flatMap vrC, u.oneCell' = true := by
  intro u hu
  obtain ⟨p, _, hp⟩ := List.mem_flatMap.1 hu
  exact vrC_one p u hp
theorem erase_flat (l : List Vr) (i : Nat) (hi : i < l.length) : (l.eraseIdx i).flatMap vrC = (l.flatMap vrC).take (i * 2) ++ (l.flatMap vrC).drop ((i + 1) * 2) := by
  rw [Sl.flat_take vrC_len, Sl.flat_drop vrC_len, List.eraseIdx_eq_take_drop_succ, List.flatMap_append]
set_option maxHeartbeats 2000000 in
theorem en_delete_calls (w : World) (base : Nat) (v : Value) (l : List Vr) (i : Nat) (hown : OwnV w base v l) (hi : i < l.length) (hl : l.length ≤ 1000000) :
    Calls Tryd.prog 31 #[v, .int .i64 (i : Int), .int .i64 ((i : Int) + 1)] w fun e w' => ∃ v', e = .returned v' ∧ OwnV w' base v' (l.eraseIdx i) ∧ w.grownBy w' v.ownBlock := by
  obtain ⟨i0, hi0, hz0, hz1, hz2⟩ := info_parts info_var
  obtain ⟨g, cap, cur, rfl, hb, hg, hn, hm, hcl, hx⟩ := Sl.own_row hown (by omega)
  have HE := Lib.hid (erase_flat l i hi)
  obtain ⟨M, hN⟩ : ∃ M, l.length = M + 1 := ⟨l.length - 1, by omega⟩
  have HN := Lib.hid hN
  rw [hN] at hown hi hn hx hl ⊢
  unfold maxLen at hm
  obtain ⟨news, hnews⟩ : ∃ news, news = (cur.take ((M + 1) * 2)).drop ((i + 1) * 2) := ⟨_, rfl⟩
  have hlen : news.length = (M - i) * 2 := by rw [hnews, List.length_drop, List.length_take, hcl]; omega
  have hone : ∀ u ∈ news, u.oneCell' = true := by
    intro u hu
    rw [hnews, hx] at hu
    exact flat_one l u (List.mem_of_mem_drop hu)
  obtain ⟨A, hA, hsrc⟩ : ∃ A : Addr, (if cap = i + 1 then (some ⟨g, 0, none⟩ : Option Addr) else some ⟨g, (i + 1) * 2, none⟩) = some A ∧ Hid (∀ j u, news[j]? = some u → w.drew.cell? (A.add j) = some u) := by
    by_cases h : cap = i + 1
    · refine ⟨⟨g, 0, none⟩, by simp [h], fun j u hu => ?_⟩
      have h0 : news.length = 0 := by rw [hlen]; omega
      rw [List.length_eq_zero_iff.1 h0] at hu
      simp at hu
    · refine ⟨⟨g, (i + 1) * 2, none⟩, by simp [h], fun j u hu => ?_⟩
      rw [Addr.add_lit]
      show w.cell? _ = _
      rw [Sl.row_cell hg]
      rw [hnews, List.getElem?_drop, List.getElem?_take] at hu
      split at hu
      · exact hu
      · cases hu
  obtain ⟨W1, hW1⟩ : ∃ W1, W1 = w.drew.setCells g (i * 2) news := ⟨_, rfl⟩
  have hgd : w.drew.heap[g]? = some (.cells cur.toArray 36 (0, 0)) := hg
  have hg1 : W1.heap[g]? = some (.cells (splice cur (i * 2) news).toArray 36 (0, 0)) := by
    rw [hW1]; exact Sl.heap_setCells g _ news (i * 2) w.drew cur hgd (by rw [hlen, hcl]; omega)
  have hsl : (splice cur (i * 2) news).length = cap * 2 := by rw [length_splice _ _ _ (by rw [hlen, hcl]; omega), hcl]
  have hrun : ∀ ty, (Builtin.append_ #[25, 25] ty #[.slice (some ⟨g, 0, none⟩) i cap, .slice (some A) (M - i) (cap - (i + 1))]).run Tryd.prog w.drew = .ok (.slice (some ⟨g, 0, none⟩) M cap) W1 := by
    intro ty
    have h1 := run_append_room_src (P := Tryd.prog) w.drew 25 25 ty 36 i0 Tryd.underlying25 hi0 g 0 i cap (.slice (some A) (M - i) (cap - (i + 1))) (M - i) news
      (by rw [hz1]; exact _root_.Go.Src.ofSlice w.drew Tryd.underlying25 A _ _ news hlen hsrc.out hone) (by omega)
      (fun j hj => by rw [hz1, Nat.zero_add]; exact Sl.row_some hgd _ (by rw [hcl]; omega)) (fun j hj => Sl.row_frozen hgd _)
    rw [hz1, Nat.zero_add, ← hW1, show i + (M - i) = M by omega] at h1
    exact h1
  have hclr : ∀ ty c, (Builtin.clear_ #[25] ty #[.slice (some ⟨g, M * 2, none⟩) 1 c]).run Tryd.prog W1 = .ok (.tuple #[]) (W1.setCells g (M * 2) [.string ⟨#[]⟩, .string ⟨#[]⟩]) := fun ty c =>
    Sl.run_clear_k W1 25 36 ty (.agg #[.string ⟨#[]⟩, .string ⟨#[]⟩]) _ Tryd.underlying25 (fun w => by kernel_rfl) rfl (by intro u hu; simp at hu; rw [hu]; rfl) g (M * 2) c
      (fun j hj => Sl.row_some hg1 _ (by rw [hsl]; have : j < 2 := hj; omega)) (fun j hj => Sl.row_frozen hg1 _)
  have hend : (splice (splice cur (i * 2) news) (M * 2) [Value.string ⟨#[]⟩, Value.string ⟨#[]⟩]).take (M * 2) = cur.take (i * 2) ++ news := by
    unfold splice
    rw [List.take_append_of_le_length (by simp; omega), List.take_take, Nat.min_self, ← List.append_assoc, List.take_append_of_le_length (by simp; omega), List.take_of_length_le (by simp; omega)]
  have hg2 : (W1.setCells g (M * 2) [.string ⟨#[]⟩, .string ⟨#[]⟩]).heap[g]? = some (.cells (splice (splice cur (i * 2) news) (M * 2) [Value.string ⟨#[]⟩, Value.string ⟨#[]⟩]).toArray 36 (0, 0)) := Sl.heap_setCells g _ _ _ W1 _ hg1 (by rw [hsl]; show M * 2 + 2 ≤ _; omega)
  have HFin : Hid (OwnV (W1.setCells g (M * 2) [.string ⟨#[]⟩, .string ⟨#[]⟩]) base (.slice (some ⟨g, 0, none⟩) M cap) (l.eraseIdx i)) := by
    have he : (l.eraseIdx i).length = M := by rw [List.length_eraseIdx, if_pos (by omega)]; omega
    show World.ownsRow _ _ _ _ _ _ _
    rw [he]
    refine Sl.own_mk hb hg2 (by omega) (by unfold maxLen; omega) (by rw [length_splice _ _ _ (by rw [hsl]; show M * 2 + 2 ≤ _; omega), hsl]) ?_
    rw [hend, HE.out, hnews, ← hx, List.take_take, Nat.min_eq_left (by omega)]
  have HGr : Hid (w.grownBy (W1.setCells g (M * 2) [.string ⟨#[]⟩, .string ⟨#[]⟩]) (some g)) := by
    show World.grownBy _ _ _
    refine Sl.grown_trans ?_ (Sl.setCells_grown g _ _ _)
    rw [hW1]
    exact Sl.grown_trans (Sl.grown_drew w _) (Sl.setCells_grown g _ _ _)
  have HRun := Lib.hid hrun
  have hic : i ≤ cap := by omega
  have hjc : i + 1 ≤ cap := by omega
  have hMc : M + 1 ≤ cap := hn
  have hcM : ¬ cap = M := by omega
  have h01 : (0 : Int) ≤ (i : Int) + 1 := by omega
  have hiM : i ≤ M := by omega
  clear hnews hlen hg hx hcl hW1 hN hown hgd hg1 hsl hrun hend hg2 hone
  go_enter Tryd.func31, Tryd.ntmps31
  go_wp2_with fail
  go_region_law (refine Sl.step_append_run rfl (.tmp 22) (.tmp 25) 25 25 rfl (.slice (some ⟨g, 0, none⟩) i cap) (.slice (some A) (M - i) (cap - (i + 1))) (by simp [Act.eval, Act.put]) (by simp [Act.eval, Act.put]) (HRun.out _) ?_)
  go_wp2_with (refine Sl.wpList_clear_run rfl (.tmp 31) 25 rfl _ rfl (hclr _ _) ?_)
  go_ret
  exact ⟨_, rfl, HFin.out, HGr.out⟩
theorem flat_get (l : List Vr) (j : Nat) (u : Value) (h : (l.flatMap vrC)[j]? = some u) : ∃ (i : Nat) (hi : i < l.length) (m : Nat), j = i * 2 + m ∧ (vrC l[i])[m]? = some u := by
  have hj : j < (l.flatMap vrC).length := (List.getElem?_eq_some_iff.1 h).1
  rw [Ap.flat_len vrC_len] at hj
  have hi : j / 2 < l.length := by omega
  have hm : j % 2 < (vrC l[j / 2]).length := by show _ < 2; omega
  refine ⟨j / 2, hi, j % 2, by omega, ?_⟩
  have h2 := Ap.flat_at vrC_len l (j / 2) _ (List.getElem?_eq_getElem hi) (j % 2) _ (List.getElem?_eq_getElem hm)
  rw [show j / 2 * 2 + j % 2 = j by omega, h] at h2
  rw [List.getElem?_eq_getElem hm, ← h2]
theorem src_vrs {P : Program} {w : World} {a : Option Addr} {n c : Nat} {l : List Vr} (h : Vrs w a n c l) : Base.Src P w 2 (.slice a n c) n (l.flatMap vrC) := by
  obtain ⟨h1, h2, h3, b, off, h4, h5⟩ := h
  refine src_cells (by rw [Ap.flat_len vrC_len, h1]) (flat_one l) h4 ?_
  intro j u hu
  obtain ⟨i, hi, m, rfl, hm⟩ := flat_get l j u hu
  have := h5 i hi m u hm
  rw [Nat.add_assoc] at this
  exact this
theorem append_var : ∃ d, Tryd.prog.underlying 25 = some d ∧ ∀ k, d ≠ .int k := append_side Tryd.underlying25
theorem append_var2 : ∃ d, Tryd.prog.underlying 25 = some d ∧ ∀ k, d ≠ .int k := append_side Tryd.underlying25
set_option maxHeartbeats 2000000 in
theorem en_clone_calls (w : World) (a : Option Addr) (n c : Nat) (l : List Vr) (h : Vrs w a n c l) (hl : l.length ≤ 1000000) :
    Calls Tryd.prog 30 #[.slice a n c] w fun e w' => ∃ v', e = .returned v' ∧ OwnV w' w.heap.size v' l ∧ Below w.heap.size w w' := by
  obtain ⟨i0, hi0, hz0, hz1, hz2⟩ := info_parts info_var
  obtain rfl := h.1
  have H := Lib.hid h
  clear h
  have q : ∀ (w : World) (a : Option Addr) (n c n' c' : Nat), (binOp .eql 25 (.slice a n c) (.slice none n' c')).run Tryd.prog w = .ok (.bool a.isNone) w := fun w a n c n' c' => Lib.run_eql_slice_nil w _ _ a n c n' c' Tryd.underlying25
  cases a with
  | none =>
    have hl0 : l = [] := by
      obtain ⟨_, _, _, b, off, h4, _⟩ := H.out
      rcases h4 with h4 | h4
      · exact List.eq_nil_of_length_eq_zero h4
      · cases h4
    subst hl0
    go_enter Tryd.func30, Tryd.ntmps30
    go_wp2_with fail
    go_ret
    exact ⟨_, rfl, World.ownsRow_nil _ _ _ _, Below.refl _ _⟩
  | some ad =>
    have hal : (w.alloc (.cells #[] 36)).heap[w.heap.size]? = some (.cells ([] : List Value).toArray 36 (0, 0)) := heap_alloc_new w _
    have hown : (w.alloc (.cells #[] 36)).ownsRow w.heap.size 36 2 (.slice (some ⟨w.heap.size, 0, none⟩) 0 0) 0 [] := Sl.own_mk (Nat.le_refl _) hal (Nat.le_refl _) (Nat.zero_le _) rfl rfl
    have hba := (Below.refl w.heap.size w).alloc (Nat.le_refl _) (.cells #[] 36)
    have hsrc := src_vrs (P := Tryd.prog) (H.out.below (Ap.stable_cellsAt vrC) hba)
    have hsz : w.heap.size ≤ (w.alloc (.cells #[] 36)).heap.size := hba.size
    have HO := Lib.hid hown
    have HB := Lib.hid hba
    have HS := Lib.hid hsrc
    have HZ := Lib.hid hsz
    clear hal hown hba hsrc hsz
    go_enter Tryd.func30, Tryd.ntmps30
    go_wp2_with (at_builtin; refine wpList_append_src rfl (.tmp 5) (.tmp 6) 25 25 rfl w.heap.size 36 i0 (.agg #[.string ⟨#[]⟩, .string ⟨#[]⟩]) 2 32 Tryd.underlying25 append_var hi0 hz0 hz1 hz2 rfl (by decide) (by decide) _ 0 _ rfl HO.out _ l.length _ rfl HS.out ?_ ?_ ?_ ?_)
    case _ => unfold maxLen; omega
    case _ => omega
    case _ => exact HZ.out
    intro v' w' h1 h2 _
    have hb' : Below w.heap.size w w' := HB.out.grown h2 HZ.out (fun j hj => by simp [Value.ownBlock] at hj; omega)
    have H1 := Lib.hid h1
    have HB' := Lib.hid hb'
    clear h1 h2 hb'
    go_wp2_with fail
    go_ret
    exact ⟨_, rfl, H1.out, HB'.out⟩
theorem shape_row {w : World} {g : Nat} {cur : List Value} {t : TypeId} (h : w.heap[g]? = some (.cells cur.toArray t (0, 0))) : w.shape? g = some (t, cur.length) := by
  simp [World.shape?, h]
theorem insert_split {α : Type} (l : List α) (i : Nat) (x : α) (hi : i ≤ l.length) : l.insertIdx i x = l.take i ++ x :: l.drop i := by
  induction l generalizing i with
  | nil => simp at hi; subst hi; simp
  | cons y r ih =>
    cases i with
    | zero => simp
    | succ i => simp at hi; simp [ih i hi]
theorem insert_flat (l : List Vr) (i : Nat) (x : Vr) (hi : i ≤ l.length) : (l.insertIdx i x).flatMap vrC = (l.flatMap vrC).take (i * 2) ++ (vrC x ++ (l.flatMap vrC).drop (i * 2)) := by
  rw [Sl.flat_take vrC_len, Sl.flat_drop vrC_len, insert_split l i x hi, List.flatMap_append, List.flatMap_cons]
def InsPost (w : World) (base : Nat) (v : Value) (l : List Vr) (e : Ending) (w' : World) : Prop := ∃ v', e = .returned v' ∧ OwnV w' base v' l ∧ w.grownBy w' v.ownBlock
set_option maxHeartbeats 4000000 in
/-- At the end. -/
theorem en_insert_end (w : World) (base : Nat) (v : Value) (l : List Vr) (x : Vr) (vb : Nat) (hown : OwnV w base v l) (hl : l.length ≤ 1000000) (hb : base ≤ w.heap.size)
    (hx : w.heap[vb]? = some (.cells (vrC x).toArray 36 (0, 0))) :
    Calls Tryd.prog 26 #[v, .int .i64 (l.length : Int), .slice (some ⟨vb, 0, none⟩) 1 1] w (InsPost w base v (l.insertIdx l.length x)) := by
  obtain ⟨i0, hi0, hz0, hz1, hz2⟩ := info_parts info_var
  have HS := Lib.hid (Ap.src_cellsAt (P := Tryd.prog) vrC_len vrC_one hx 1)
  have HIx : Hid (∀ v' w', w'.ownsRow base 36 2 v' (l.length + 1) (l.flatMap vrC ++ vrC x) → OwnV w' base v' (l.insertIdx l.length x)) := by
    show ∀ v' w', _ → _
    intro v' w' h
    show World.ownsRow _ _ _ _ _ _ _
    rw [insert_flat l _ x (Nat.le_refl _), List.length_insertIdx_of_le_length (Nat.le_refl _), List.take_of_length_le (by rw [Ap.flat_len vrC_len]; omega), List.drop_of_length_le (by rw [Ap.flat_len vrC_len]; omega), List.append_nil]
    exact h
  have HO := Lib.hid (show w.ownsRow base 36 2 v l.length (l.flatMap vrC) from hown)
  rcases hown.2 with ⟨rfl, h0⟩ | ⟨g, cap, cur, rfl, hbg, hg, hnc, hcm, _, _⟩
  · have hl0 : l = [] := List.eq_nil_of_length_eq_zero h0
    subst hl0
    clear hx h0 hown
    simp only [List.length_nil] at HIx ⊢
    go_enter Tryd.func26, Tryd.ntmps26
    go_wp2_with (at_builtin; refine wpList_append_src rfl (.tmp 23) (.tmp 24) 25 25 rfl base 36 i0 (.agg #[.string ⟨#[]⟩, .string ⟨#[]⟩]) 2 32 Tryd.underlying25 append_var2 hi0 hz0 hz1 hz2 rfl (by decide) (by decide) _ 0 _ rfl HO.out _ 1 _ rfl HS.out ?_ ?_ ?_ ?_)
    case _ => unfold maxLen; omega
    case _ => omega
    case _ => exact hb
    intro v' w' h1 h2 _
    have H1 := Lib.hid (HIx.out v' w' h1)
    have H2 := Lib.hid h2
    clear h1 h2
    go_wp2_with fail
    go_ret
    exact ⟨_, rfl, H1.out, H2.out⟩
  · unfold maxLen at hcm
    generalize l.length = n at *
    clear hown hx hbg hg
    by_cases hcn : cap = n
    · subst hcn
      go_enter Tryd.func26, Tryd.ntmps26
      go_wp2_with (at_builtin; refine wpList_append_src rfl (.tmp 23) (.tmp 24) 25 25 rfl base 36 i0 (.agg #[.string ⟨#[]⟩, .string ⟨#[]⟩]) 2 32 Tryd.underlying25 append_var2 hi0 hz0 hz1 hz2 rfl (by decide) (by decide) _ cap _ rfl HO.out _ 1 _ rfl HS.out ?_ ?_ ?_ ?_)
      case _ => unfold maxLen; omega
      case _ => omega
      case _ => exact hb
      intro v' w' h1 h2 _
      have H1 := Lib.hid (HIx.out v' w' h1)
      have H2 := Lib.hid h2
      clear h1 h2
      go_wp2_with fail
      go_ret
      exact ⟨_, rfl, H1.out, H2.out⟩
    · go_enter Tryd.func26, Tryd.ntmps26
      go_wp2_with (at_builtin; refine wpList_append_src rfl (.tmp 23) (.tmp 24) 25 25 rfl base 36 i0 (.agg #[.string ⟨#[]⟩, .string ⟨#[]⟩]) 2 32 Tryd.underlying25 append_var2 hi0 hz0 hz1 hz2 rfl (by decide) (by decide) _ n _ rfl HO.out _ 1 _ rfl HS.out ?_ ?_ ?_ ?_)
      case _ => unfold maxLen; omega
      case _ => omega
      case _ => exact hb
      intro v' w' h1 h2 _
      have H1 := Lib.hid (HIx.out v' w' h1)
      have H2 := Lib.hid h2
      clear h1 h2
      go_wp2_with fail
      go_ret
      exact ⟨_, rfl, H1.out, H2.out⟩
set_option maxHeartbeats 4000000 in
/-- Ahead of the end, in place. -/
theorem en_insert_shift (w : World) (base : Nat) (g cap : Nat) (cur : List Value) (l : List Vr) (i : Nat) (x : Vr) (vb : Nat) (hi : i < l.length) (hl : l.length ≤ 1000000) (hroom : l.length + 1 ≤ cap) (hm : cap ≤ maxLen)
    (hg : w.heap[g]? = some (.cells cur.toArray 36 (0, 0))) (hbg : base ≤ g) (hcl : cur.length = cap * 2) (hcx : cur.take (l.length * 2) = l.flatMap vrC) (hvb : vb ≠ g)
    (hx : w.heap[vb]? = some (.cells (vrC x).toArray 36 (0, 0))) :
    Calls Tryd.prog 26 #[.slice (some ⟨g, 0, none⟩) l.length cap, .int .i64 (i : Int), .slice (some ⟨vb, 0, none⟩) 1 1] w (InsPost w base (.slice (some ⟨g, 0, none⟩) l.length cap) (l.insertIdx i x)) := by
  obtain ⟨i0, hi0, hz0, hz1, hz2⟩ := info_parts info_var
  have hsz : (Tryd.prog.info? 36).map (·.size) = some 2 := by rw [hi0]; simp [hz1]
  have hins := insert_flat l i x (by omega)
  have hil : (l.insertIdx i x).length = l.length + 1 := List.length_insertIdx_of_le_length (show i ≤ l.length by omega) x
  unfold maxLen at hm
  have hov : ∀ lb cb, (callFunc 43 #[.slice (some ⟨vb, 0, none⟩) 1 1, .slice (some ⟨g, (i + 1) * 2, none⟩) lb cb]).run Tryd.prog w = .ok (.value (.bool false)) w := fun lb cb => by
    rw [run_callFunc_extern Tryd.func43 (by kernel_rfl) (by kernel_rfl) (by kernel_rfl) (e := Extern.SlicesOverlaps.overlaps #[25, 25] #[4]) (by kernel_rfl),
      Lib.run_overlaps_apart w 25 4 36 Tryd.underlying25 2 (fun w => by kernel_rfl) ⟨vb, 0, none⟩ ⟨g, (i + 1) * 2, none⟩ 1 1 lb cb hvb _ _ _ _ (shape_row hx) (shape_row hg) (by rw [hcl]; omega) (Sl.row_frozen hx 0) (Sl.row_frozen hx _)]
    rfl
  obtain ⟨xs, hxs⟩ : ∃ xs, xs = l.flatMap vrC := ⟨_, rfl⟩
  have hxl : xs.length = l.length * 2 := by rw [hxs, Ap.flat_len vrC_len]
  have hxo : ∀ u ∈ xs, u.oneCell' = true := by rw [hxs]; exact flat_one l
  rw [← hxs] at hcx hins
  obtain ⟨n, hn⟩ : ∃ n, n = l.length := ⟨_, rfl⟩
  rw [← hn] at hi hl hroom hcx hil hxl ⊢
  obtain ⟨cs, hcs⟩ : ∃ cs, cs = xs.drop (i * 2) := ⟨_, rfl⟩
  have hdl : cs.length = (n - i) * 2 := by rw [hcs, List.length_drop, hxl]; omega
  have hco : ∀ u ∈ cs, u.oneCell' = true := by rw [hcs]; exact fun u hu => hxo u (List.mem_of_mem_drop hu)
  have hgd : w.drew.heap[g]? = some (.cells cur.toArray 36 (0, 0)) := hg
  have hcc : ∀ j u, cs[j]? = some u → w.drew.cell? ((⟨g, i * 2, none⟩ : Addr).add j) = some u := by
    intro j u hj
    rw [Addr.add_lit, Sl.row_cell hgd]
    rw [hcs, List.getElem?_drop, ← hcx, List.getElem?_take] at hj
    split at hj
    · exact hj
    · cases hj
  have hcp1 : ∀ ty dc sc, (Builtin.copy_ #[25, 25] ty #[.slice (some ⟨g, (i + 1) * 2, none⟩) (n - i) dc, .slice (some ⟨g, i * 2, none⟩) (n + 1 - i) sc]).run Tryd.prog w.drew = .ok (goInt ((n - i : Nat) : Int)) (w.drew.setCells g ((i + 1) * 2) cs) := fun ty dc sc => by
    have h := Sl.run_copy_k (P := Tryd.prog) w.drew 25 25 ty 36 2 g ((i + 1) * 2) (n - i) dc ⟨g, i * 2, none⟩ (n + 1 - i) sc cs Tryd.underlying25 hsz (by rw [hdl]; simp only [Nat.min_def]; split <;> omega) hcc
      (fun j hj => Sl.row_some hgd _ (by rw [hcl]; omega)) (fun j hj => Sl.row_frozen hgd _) hco
    rw [show Nat.min (n + 1 - i) (n - i) = n - i by simp only [Nat.min_def]; split <;> omega] at h
    exact h
  obtain ⟨W1, hW1⟩ : ∃ W1, W1 = w.drew.setCells g ((i + 1) * 2) cs := ⟨_, rfl⟩
  rw [← hW1] at hcp1
  have hg1 : W1.heap[g]? = some (.cells (splice cur ((i + 1) * 2) cs).toArray 36 (0, 0)) := by
    rw [hW1]; exact Sl.heap_setCells g _ cs _ w.drew cur hgd (by rw [hdl, hcl]; omega)
  have hl1 : (splice cur ((i + 1) * 2) cs).length = cap * 2 := by rw [length_splice _ _ _ (by rw [hdl, hcl]; omega), hcl]
  have hx1 : W1.heap[vb]? = some (.cells (vrC x).toArray 36 (0, 0)) := by
    have hg' := Sl.setCells_grown g cs ((i + 1) * 2) w.drew
    rw [← hW1] at hg'
    rw [hg'.block vb (Array.getElem?_eq_some_iff.1 hx).1 (by simpa using hvb)]
    exact hx
  have hcp2 : ∀ ty dc, (Builtin.copy_ #[25, 25] ty #[.slice (some ⟨g, i * 2, none⟩) (n + 1 - i) dc, .slice (some ⟨vb, 0, none⟩) 1 1]).run Tryd.prog W1 = .ok (goInt 1) (W1.setCells g (i * 2) (vrC x)) := fun ty dc => by
    have h := Sl.run_copy_k (P := Tryd.prog) W1 25 25 ty 36 2 g (i * 2) (n + 1 - i) dc ⟨vb, 0, none⟩ 1 1 (vrC x) Tryd.underlying25 hsz (by rw [vrC_len, show Nat.min 1 (n + 1 - i) = 1 by simp only [Nat.min_def]; split <;> omega])
      (fun j u hj => by rw [Addr.add_lit, Nat.zero_add, Sl.row_cell hx1]; exact hj)
      (fun j hj => Sl.row_some hg1 _ (by rw [hl1]; have : j < 2 := hj; omega)) (fun j hj => Sl.row_frozen hg1 _) (vrC_one x)
    rw [show Nat.min 1 (n + 1 - i) = 1 by simp only [Nat.min_def]; split <;> omega] at h
    exact h
  have hg2 : (W1.setCells g (i * 2) (vrC x)).heap[g]? = some (.cells (splice (splice cur ((i + 1) * 2) cs) (i * 2) (vrC x)).toArray 36 (0, 0)) := Sl.heap_setCells g _ (vrC x) _ W1 _ hg1 (by rw [hl1, vrC_len]; omega)
  have hend : (splice (splice cur ((i + 1) * 2) cs) (i * 2) (vrC x)).take ((n + 1) * 2) = xs.take (i * 2) ++ (vrC x ++ cs) := by
    have e1 : (splice cur ((i + 1) * 2) cs).take (i * 2) = xs.take (i * 2) := by
      unfold splice
      rw [List.take_append_of_le_length (by rw [List.length_take, hcl]; omega), List.take_take, Nat.min_eq_left (by omega), ← hcx, List.take_take, Nat.min_eq_left (by omega)]
    have e2 : ((splice cur ((i + 1) * 2) cs).drop (i * 2 + (vrC x).length)).take ((n - i) * 2) = cs := by
      unfold splice
      rw [vrC_len, List.drop_append, List.drop_of_length_le (by rw [List.length_take, hcl]; omega), List.nil_append, List.length_take, hcl]
      rw [show i * 2 + 2 - min ((i + 1) * 2) (cap * 2) = 0 by omega, List.drop_zero, List.take_append_of_le_length (by rw [hdl]; omega), List.take_of_length_le (by rw [hdl]; omega)]
    rw [show splice (splice cur ((i + 1) * 2) cs) (i * 2) (vrC x) = (splice cur ((i + 1) * 2) cs).take (i * 2) ++ (vrC x ++ (splice cur ((i + 1) * 2) cs).drop (i * 2 + (vrC x).length)) from rfl, e1]
    have e3 : (xs.take (i * 2)).length = i * 2 := by rw [List.length_take, hxl]; omega
    rw [vrC_len] at e2 ⊢
    generalize xs.take (i * 2) = ys at *
    generalize (splice cur ((i + 1) * 2) cs).drop (i * 2 + 2) = zs at *
    rw [List.take_append, e3, List.take_of_length_le (show ys.length ≤ (n + 1) * 2 by omega), List.take_append, vrC_len, List.take_of_length_le (show (vrC x).length ≤ (n + 1) * 2 - i * 2 by rw [vrC_len]; omega), show (n + 1) * 2 - i * 2 - 2 = (n - i) * 2 by omega, e2]
  have HFin : Hid (OwnV (W1.setCells g (i * 2) (vrC x)) base (.slice (some ⟨g, 0, none⟩) (n + 1) cap) (l.insertIdx i x)) := by
    show World.ownsRow _ _ _ _ _ _ _
    rw [hil, hins]
    refine Sl.own_mk hbg hg2 (by omega) (by unfold maxLen; omega) (by rw [length_splice _ _ _ (by rw [hl1, vrC_len]; omega), hl1]) ?_
    rw [hend, hcs]
  have HGr : Hid (w.grownBy (W1.setCells g (i * 2) (vrC x)) (some g)) := by
    show World.grownBy _ _ _
    refine Sl.grown_trans ?_ (Sl.setCells_grown g _ _ _)
    rw [hW1]
    exact Sl.grown_trans (Sl.grown_drew w _) (Sl.setCells_grown g _ _ _)
  have h63 : n < 9223372036854775807 := by omega
  have hin : i ≤ n := by omega
  have hne : ¬ ((i : Int) = (n : Int)) := by omega
  have hc1 : ¬ (cap = i + 1) := by omega
  have hc2 : ¬ (cap = i) := by omega
  have h01 : (0 : Int) ≤ (i : Int) + 1 := by omega
  have hi1 : i ≤ n + 1 := by omega
  have hdn : ¬ ((cap : Int) < (n : Int) + 1) := by omega
  have HC1 := Lib.hid hcp1
  have HC2 := Lib.hid hcp2
  have hw1 : IntKind.i64.wrap ((i : Int) + 1) = (i : Int) + 1 := by rw [IntKind.wrap_i64]; omega
  have htn : ((i : Int) + 1).toNat = i + 1 := by omega
  have hb3 : (i : Int) ≤ (n : Int) + 1 := by omega
  clear hins hil hx hg hcl hcx hxs hxl hxo hn hcs hdl hco hgd hcc hcp1 hW1 hg1 hl1 hx1 hcp2 hg2 hend hsz hi0 hz0 hz1 hz2 hvb
  go_enter Tryd.func26, Tryd.ntmps26
  go_wp2_with (simp only [hov])
  go_region_law (refine Sl.step_copy_run rfl (.tmp 73) (.tmp 76) 25 25 rfl (.slice (some ⟨g, (i + 1) * 2, none⟩) (n - i) (cap - (i + 1))) (.slice (some ⟨g, i * 2, none⟩) (n + 1 - i) (cap - i)) (by simp [Act.eval, Act.put]) (by simp [Act.eval, Act.put]) (HC1.out _ _ _) ?_)
  go_wp2_with (refine Sl.wpList_copy_run rfl (.tmp 80) (.tmp 81) 25 25 rfl _ _ rfl rfl (HC2.out _ _) ?_)
  go_ret
  exact ⟨_, rfl, HFin.out, HGr.out⟩
end Go.Proofs.YtchmpkgjjkfjcaaDoor
