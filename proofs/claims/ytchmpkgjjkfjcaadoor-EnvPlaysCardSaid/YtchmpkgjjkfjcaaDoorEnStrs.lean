/-
  Rows of texts: read, cut, cloned. Conditions: they are not too long.
-/
import Derived.Test.YtchmpkgjjkfjcaaDoorEnWalks4
set_option linter.unusedVariables false
set_option maxRecDepth 100000
namespace Go.Proofs.YtchmpkgjjkfjcaaDoor
open Go.RowKit Base

def stC (p : Nm) : List Value := [.string (str p)]
theorem stC_len (p : Nm) : (stC p).length = 1 := rfl
theorem stC_one (p : Nm) : ∀ u ∈ stC p, u.oneCell' = true := by intro u hu; simp [stC] at hu; rcases hu with rfl; rfl
theorem info_str : (Tryd.prog.info? 9).map (fun i => (i.zero, i.size, i.bytes)) = some (some (.string ⟨#[]⟩), 1, 16) := by kernel_rfl
abbrev Sts := RowOf (Ap.cellsAt stC) 1
abbrev OwnS (w : World) (base : Nat) (v : Value) (l : List Nm) : Prop := w.ownsRow base 9 1 v l.length (l.flatMap stC)
theorem flat_oneS (l : List Nm) : ∀ u ∈ l.flatMap stC, u.oneCell' = true := by
  intro u hu
  obtain ⟨p, _, hp⟩ := List.mem_flatMap.1 hu
  exact stC_one p u hp
theorem flat_getS (l : List Nm) (j : Nat) (u : Value) (h : (l.flatMap stC)[j]? = some u) : ∃ (i : Nat) (hi : i < l.length) (m : Nat), j = i * 1 + m ∧ (stC l[i])[m]? = some u := by
  have hj : j < (l.flatMap stC).length := (List.getElem?_eq_some_iff.1 h).1
  rw [Ap.flat_len stC_len] at hj
  have hi : j / 1 < l.length := by omega
  have hm : j % 1 < (stC l[j / 1]).length := by show _ < 1; omega
  refine ⟨j / 1, hi, j % 1, by omega, ?_⟩
  have h2 := Ap.flat_at stC_len l (j / 1) _ (List.getElem?_eq_getElem hi) (j % 1) _ (List.getElem?_eq_getElem hm)
  rw [show j / 1 * 1 + j % 1 = j by omega, h] at h2
  rw [List.getElem?_eq_getElem hm, ← h2]
theorem src_sts {P : Program} {w : World} {a : Option Addr} {n c : Nat} {l : List Nm} (h : Sts w a n c l) : Base.Src P w 1 (.slice a n c) n (l.flatMap stC) := by
  obtain ⟨h1, h2, h3, b, off, h4, h5⟩ := h
  refine src_cells (by rw [Ap.flat_len stC_len, h1]) (flat_oneS l) h4 ?_
  intro j u hu
  obtain ⟨i, hi, m, rfl, hm⟩ := flat_getS l j u hu
  have := h5 i hi m u hm
  rw [Nat.add_assoc] at this
  exact this
theorem append_str : ∃ d, Tryd.prog.underlying 26 = some d ∧ ∀ k, d ≠ .int k := append_side Tryd.underlying26
set_option maxHeartbeats 2000000 in
theorem st_clone_calls (w : World) (a : Option Addr) (n c : Nat) (l : List Nm) (h : Sts w a n c l) (hl : l.length ≤ 1000000) :
    Calls Tryd.prog 35 #[.slice a n c] w fun e w' => ∃ v', e = .returned v' ∧ OwnS w' w.heap.size v' l ∧ Below w.heap.size w w' := by
  obtain ⟨i0, hi0, hz0, hz1, hz2⟩ := info_parts info_str
  obtain rfl := h.1
  have H := Lib.hid h
  clear h
  have q : ∀ (w : World) (a : Option Addr) (n c n' c' : Nat), (binOp .eql 26 (.slice a n c) (.slice none n' c')).run Tryd.prog w = .ok (.bool a.isNone) w := fun w a n c n' c' => Lib.run_eql_slice_nil w _ _ a n c n' c' Tryd.underlying26
  cases a with
  | none =>
    have hl0 : l = [] := by
      obtain ⟨_, _, _, b, off, h4, _⟩ := H.out
      rcases h4 with h4 | h4
      · exact List.eq_nil_of_length_eq_zero h4
      · cases h4
    subst hl0
    go_enter Tryd.func35, Tryd.ntmps35
    go_wp2_with fail
    go_ret
    exact ⟨_, rfl, World.ownsRow_nil _ _ _ _, Below.refl _ _⟩
  | some ad =>
    have hal : (w.alloc (.cells #[] 9)).heap[w.heap.size]? = some (.cells ([] : List Value).toArray 9 (0, 0)) := heap_alloc_new w _
    have hown : (w.alloc (.cells #[] 9)).ownsRow w.heap.size 9 1 (.slice (some ⟨w.heap.size, 0, none⟩) 0 0) 0 [] := Sl.own_mk (Nat.le_refl _) hal (Nat.le_refl _) (Nat.zero_le _) rfl rfl
    have hba := (Below.refl w.heap.size w).alloc (Nat.le_refl _) (.cells #[] 9)
    have hsrc := src_sts (P := Tryd.prog) (H.out.below (Ap.stable_cellsAt stC) hba)
    have hsz : w.heap.size ≤ (w.alloc (.cells #[] 9)).heap.size := hba.size
    have HO := Lib.hid hown
    have HB := Lib.hid hba
    have HS := Lib.hid hsrc
    have HZ := Lib.hid hsz
    clear hal hown hba hsrc hsz
    go_enter Tryd.func35, Tryd.ntmps35
    go_wp2_with (at_builtin; refine wpList_append_src rfl (.tmp 5) (.tmp 6) 26 26 rfl w.heap.size 9 i0 (.string ⟨#[]⟩) 1 16 Tryd.underlying26 append_str hi0 hz0 hz1 hz2 rfl (by decide) (by decide) _ 0 _ rfl HO.out _ l.length _ rfl HS.out ?_ ?_ ?_ ?_)
    case _ => unfold maxLen; omega
    case _ => omega
    case _ => exact HZ.out
    intro v' w' h1 h2 _
    have hb' : Below w.heap.size w w' := HB.out.grown h2 HZ.out (fun j hj => by simp [Value.ownBlock] at hj; omega)
    have H1 := Lib.hid h1
    have HB' := Lib.hid hb'
    clear h1 h2 hb'
    go_wp2_with fail
    go_ret
    exact ⟨_, rfl, H1.out, HB'.out⟩
theorem sts_of_own {w : World} {base : Nat} {v : Value} {l : List Nm} (h : OwnS w base v l) : ∃ a c, v = .slice a l.length c ∧ Sts w a l.length c l := Ap.own_cells (by decide) stC_len h
theorem sts_at {w : World} {a : Option Addr} {n cap : Nat} {L : List Nm} (h : Sts w a n cap L) : ∃ b off, (∀ k (hk : k < L.length), w.cell? ⟨b, off + k, none⟩ = some (.string (str L[k]))) ∧
    ∀ (t : TypeId) (ht : Tryd.prog.underlying t = some (.slice 9)) (kd : IntKind) (k : Nat) (w' : World), k < n → (Instr.indexAt t (.slice a n cap) (.int kd (k : Int))).run Tryd.prog w' = .ok (.pointer (some ⟨b, off + k, none⟩)) w' := by
  obtain ⟨i0, hi, _, hi2, _⟩ := info_parts info_str
  obtain ⟨b, off, h1, h2⟩ := h.at (P := Tryd.prog)
  exact ⟨b, off, fun k hk => by simpa using h1 k hk 0 _ rfl, fun t ht kd k w' hk => by simpa using h2 t 9 i0 ht hi hi2 kd k w' hk⟩
theorem sts_sub {w : World} {a : Option Addr} {n c : Nat} {L : List Nm} (h : Sts w a n c L) (k : Nat) (hk : k ≤ n) : ∃ a', Sts w a' (n - k) (c - k) (L.drop k) ∧ ∀ (k1 : IntKind) (w' : World), (Instr.slice 26 (.slice a n c) (some (.int k1 (k : Int))) none none).run Tryd.prog w' = .ok (.slice a' (n - k) (c - k)) w' := by
  obtain ⟨i0, hi, _, hi2, _⟩ := info_parts info_str
  obtain ⟨a', h1, h2⟩ := h.sub (P := Tryd.prog) k n hk (Nat.le_refl _)
  refine ⟨a', ?_, fun k1 w' => (h2 26 9 i0 Tryd.underlying26 hi hi2 w').2.2 rfl k1⟩
  rw [List.take_of_length_le (by rw [h.1]; exact Nat.le_refl _)] at h1
  exact h1
end Go.Proofs.YtchmpkgjjkfjcaaDoor
