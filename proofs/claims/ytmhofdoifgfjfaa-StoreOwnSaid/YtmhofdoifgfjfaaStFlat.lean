/-
  State: things of a few cells without rows: a text, a variable, a function, a trap, a pair; put and read. Conditions: as each contract says.
-/
import Derived.Test.YtmhofdoifgfjfaaStTruths
set_option linter.unusedVariables false
set_option maxRecDepth 100000
namespace Go.Proofs.Ytmhofdoifgfjfaa
open Go.RowKit Base

/-- The cells from off on of a block. -/
def CellsAt (W : World) (g off : Nat) (vs : List Value) : Prop := ∀ j (hj : j < vs.length), W.cell? ⟨g, off + j, none⟩ = some vs[j]
theorem CellsAt.below {W W' : World} {g off n : Nat} {vs : List Value} (h : CellsAt W g off vs) (hb : Below n W W') (hg : g < n) : CellsAt W' g off vs :=
  fun j hj => (hb.cell (p := ⟨g, off + j, none⟩) hg).trans (h j hj)
theorem CellsAt.left {W : World} {g off : Nat} {vs us : List Value} (h : CellsAt W g off (vs ++ us)) : CellsAt W g off vs := fun j hj => by
  have := h j (by rw [List.length_append]; omega)
  rwa [List.getElem_append_left hj] at this
theorem CellsAt.right {W : World} {g off k : Nat} {vs us : List Value} (h : CellsAt W g off (vs ++ us)) (hk : vs.length = k) : CellsAt W g (off + k) us := fun j hj => by
  subst hk
  have := h (vs.length + j) (by rw [List.length_append]; omega)
  rw [List.getElem_append_right (by omega)] at this
  rw [Nat.add_assoc, this]
  congr 2
  omega
abbrev varV (p : VarD) : List Value := [sv p.1, sv p.2]
abbrev fnV (p : FnD) : List Value := [sv p.1, iv p.2.1, iv p.2.2]
abbrev trapV (p : TrapD) : List Value := [iv p.1, sv p.2]
abbrev prV (p : PairD) : List Value := [iv p.1, iv p.2]
abbrev txtV (s : Nm) : List Value := [sv s]
abbrev numV (z : Int) : List Value := [iv z]
/-- A function that puts what lies in a few cells. -/
def PkOk {α : Type} (f : Nat) (c : Cd α) (V : α → List Value) (P : α → Prop) : Prop :=
  ∀ (W : World) (F : Nat) (v : Value) (o : Nm) (g off : Nat) (a : α), PkI F v o W → g < F → P a → CellsAt W g off (V a) → (o ++ c.enc a).length ≤ 100000000 →
    Calls Try.prog f #[.pointer (some ⟨F, 0, none⟩), .pointer (some ⟨g, off, none⟩)] W (PkPost F v o (c.enc a) W)
/-- A function that reads it. -/
def RkOk {α : Type} (f : Nat) (c : Cd α) (V : α → List Value) (z : α) : Prop :=
  ∀ (W : World) (F q : Nat) (l : Nm) (e : Int) (g off : Nat) (cur : List Value) (t : TypeId), RkI F q l e W → Cut g cur t W → (∀ j (hj : j < (V z).length), cur[off + j]? = some (V z)[j]) → F < g →
    Calls Try.prog f #[.pointer (some ⟨F, 0, none⟩), .pointer (some ⟨g, off, none⟩)] W (RkPost F q g off cur (V (c.dec l e).1) t (c.dec l e).2.1 (c.dec l e).2.2 W)
theorem pts1 (W : World) (g off : Nat) (t : TypeId) : Pts W.heap.size g off 1 t (W.alloc (.cells #[.pointer (some ⟨g, off, none⟩)] t)) :=
  ⟨⟨_, heap_alloc_new W _, fun j hj => by match j, hj with | 0, _ => rfl⟩⟩
theorem pts2 (W : World) (g off : Nat) (t : TypeId) : Pts W.heap.size g off 2 t (W.alloc (.cells #[.pointer (some ⟨g, off, none⟩), .pointer (some ⟨g, off + 1, none⟩)] t)) :=
  ⟨⟨_, heap_alloc_new W _, fun j hj => by match j, hj with | 0, _ => rfl | 1, _ => rfl⟩⟩
theorem num_pk : PkOk 45 numC numV I64 := fun W F v o g off z h hg hz hc hl => pk_int_calls W F v o g off z h (hc 0 Nat.zero_lt_one) hz (Nat.le_trans hl (by decide))
theorem num64_pk : PkOk 61 numC numV I64 := fun W F v o g off z h hg hz hc hl => pk_int64_calls W F v o g off z h (hc 0 Nat.zero_lt_one) hz (Nat.le_trans hl (by decide))
theorem num_rk : RkOk 45 numC numV 0 := fun W F q l e g off cur t h hc h0 hg => rk_int_calls W F q l e g off cur t h hc (h0 0 (by decide)) hg
theorem num64_rk : RkOk 61 numC numV 0 := fun W F q l e g off cur t h hc h0 hg => rk_int64_calls W F q l e g off cur t h hc (h0 0 (by decide)) hg
set_option maxHeartbeats 1000000 in
theorem text_pk : PkOk 39 txtC txtV TxtP := by
  intro W F v o g off s h hg hs hc hl
  have HP := Lib.hid h
  have HG := Lib.hid hg
  have HC := Lib.hid hc
  have HL := Lib.hid hl
  clear h hg hs hc hl
  go_enter Try.func39, Try.ntmps39
  go_wp2_with fail
  have hb := (Below.refl W.heap.size W).alloc (Nat.le_refl _) (.cells #[.pointer (some ⟨g, off, none⟩)] 134)
  have e1 : [s].flatMap txtB = txtC.enc s := by show _ = txtB s; simp
  refine (pk_texts_calls _ F v o g off [s] W.heap.size (HP.out.below hb) (pts1 W g off _) (by have := HP.out.lt; omega) HG.out (fun j hj => ?_) (by rw [e1]; exact HL.out) (by simp)).mono ?_
  · have h1 := HC.out j hj
    have h2 := (hb.cell (p := ⟨g, off + j, none⟩) (by have := HP.out.lt; have := HG.out; show g < _; omega)).trans h1
    match j, hj with
    | 0, _ => exact h2
  rintro e w' ⟨rfl, v', hp, hu⟩
  have HP' := Lib.hid hp
  have HU := Lib.hid ((WUp.of_below hb).trans hu)
  clear hp hu hb
  go_wp2_with fail
  refine bodyPost_end (v := .tuple #[]) (results_none rfl _ _ _) rfl ?_
  refine ⟨rfl, v', ?_, HU.out⟩
  have := HP'.out
  rwa [e1] at this
set_option maxHeartbeats 1000000 in
theorem text_rk : RkOk 39 txtC txtV [] := by
  intro W F q l e g off cur t h hc h0 hg
  have H := Lib.hid h
  have HC := Lib.hid hc
  have HZ := Lib.hid h0
  have HG := Lib.hid hg
  clear h hc h0 hg
  go_enter Try.func39, Try.ntmps39
  go_wp2_with fail
  have hb := (Below.refl W.heap.size W).alloc (Nat.le_refl _) (.cells #[.pointer (some ⟨g, off, none⟩)] 134)
  have hgw := HC.out.lt
  refine (rk_texts_calls _ F q l e g off 1 cur t W.heap.size (H.out.below hb) ((hb.block g hgw).trans HC.out) (fun j hj => ?_) HG.out (pts1 W g off _) H.out.F_lt (by omega) (by decide)).mono ?_
  · match j, hj with
    | 0, _ => exact HZ.out 0 (by decide)
  rintro r w' ⟨rfl, hr, hcu, hu⟩
  have HR := Lib.hid hr
  have HCu := Lib.hid hcu
  have HU := Lib.hid ((RUp.of_below hb).trans hu)
  clear hr hcu hu hb hgw
  go_wp2_with fail
  refine bodyPost_end (v := .tuple #[]) (results_none rfl _ _ _) rfl ?_
  exact ⟨rfl, HR.out, HCu.out, HU.out⟩
theorem CellsAt.up {F : Nat} {v v' : Value} {o : Nm} {W W' : World} {g off : Nat} {vs : List Value} (h : CellsAt W g off vs) (hp : PkI F v o W) (hu : WUp F v v' W W') (hg : g < F) : CellsAt W' g off vs :=
  fun j hj => ((hu.low hp.hi (Nat.le_refl F) (Nat.le_of_lt hp.lt)).cell (p := ⟨g, off + j, none⟩) hg).trans (h j hj)
theorem fld_var1 (g off : Nat) (w : World) : (Instr.fieldAt 155 (.pointer (some ⟨g, off, none⟩)) 1).run Try.prog w = .ok (.pointer (some ⟨g, off + 1, none⟩)) w := by rfl
theorem fld_var0 (g off : Nat) (w : World) : (Instr.fieldAt 155 (.pointer (some ⟨g, off, none⟩)) 0).run Try.prog w = .ok (.pointer (some ⟨g, off, none⟩)) w := by rfl
theorem fld_row1 (g off : Nat) (w : World) : (Instr.fieldAt 143 (.pointer (some ⟨g, off, none⟩)) 1).run Try.prog w = .ok (.pointer (some ⟨g, off + 1, none⟩)) w := by rfl
theorem fld_row0 (g off : Nat) (w : World) : (Instr.fieldAt 143 (.pointer (some ⟨g, off, none⟩)) 0).run Try.prog w = .ok (.pointer (some ⟨g, off, none⟩)) w := by rfl
set_option maxHeartbeats 1000000 in
theorem bound_pk : PkOk 70 varC varV VarP := by
  intro W F v o g off a h hg ha hc hl
  have HP := Lib.hid h
  have HG := Lib.hid hg
  have HC := Lib.hid hc
  have HL := Lib.hid hl
  clear h hg ha hc hl
  have e1 : [a.1, a.2].flatMap txtB = varC.enc a := by show _ = txtB a.1 ++ txtB a.2; simp
  go_enter Try.func70, Try.ntmps70
  refine Rt.wp_region_rkt 9 [] [Rg.Is (.pointer (some ⟨F, 0, none⟩)), Rg.Is (.pointer (some ⟨g, off, none⟩)), Rg.Is (.pointer (some ⟨g, off, none⟩)), Rg.Is (.pointer (some ⟨g, off, none⟩)), Rg.Is (.pointer (some ⟨g, off, none⟩)), Rg.Is (.pointer (some ⟨g, off, none⟩)), Rg.Is (.pointer (some ⟨g, off + 1, none⟩)), (fun u x => ∃ b, u = .slice (some ⟨b, 0, none⟩) 2 2 ∧ W.heap.size ≤ b ∧ x.heap[b]? = some (.cells #[.pointer (some ⟨g, off, none⟩), .pointer (some ⟨g, off + 1, none⟩)] 134)), (fun u x => u = .tuple #[] ∧ ∃ v', PkI F v' (o ++ varC.enc a) x ∧ WUp F v v' W x)] (fun _ _ => True) (fun ls x => ls 8 = false → Below W.heap.size W x) (fun k x y => if k = 8 then (∃ v', WUp F v v' x y) else Below x.heap.size x y) (by kernel_rfl) (by kernel_rfl) (of_decide_eq_true (by kernel_rfl)) (by kernel_rfl) (by kernel_rfl) trivial (fun _ => ⟨rfl, rfl, rfl, Nat.le_refl _, fun _ _ => rfl⟩) (fun ls ls' x e h1 h2 => h1 (by rw [e]; exact h2)) (fun _ _ _ _ _ => trivial) (fun i ls x _ h1 => by rw [show ([] : List Bool).getD i true = true from rfl] at h1; cases h1) ?_ ⟨rfl, rfl, rfl, rfl, rfl, rfl, rfl, rfl, rfl, trivial⟩ ⟨?_, ?_, ?_, ?_, ?_, ?_, ?_, ?_, ?_, trivial⟩ ?_
  · intro i k u x y hik _ h1 hK
    match i, h1, hik with
    | 0, h1, _ => exact h1
    | 1, h1, _ => exact h1
    | 2, h1, _ => exact h1
    | 3, h1, _ => exact h1
    | 4, h1, _ => exact h1
    | 5, h1, _ => exact h1
    | 6, h1, _ => exact h1
    | 7, h1, hik =>
      obtain ⟨b, h2, h4, h5⟩ := h1
      have hbs := (Array.getElem?_eq_some_iff.1 h5).1
      by_cases hk : k = 8
      · subst hk
        rw [if_pos rfl] at hK
        have h9 : y.heap[b]? = x.heap[b]? := by obtain ⟨v', hK⟩ := hK; exact hK.block b hbs (by have := HP.out.lt; omega) (fun e => by have := (HP.out.own.lt _ e).2; omega)
        exact ⟨b, h2, h4, h9.trans h5⟩
      · rw [if_neg hk] at hK
        exact ⟨b, h2, h4, (hK.block b hbs).trans h5⟩
    | 8, h1, hik =>
      rw [if_neg (fun e => hik e.symm)] at hK
      obtain ⟨h2, v', h3, h4⟩ := h1
      exact ⟨h2, v', h3.below hK, h4.trans (WUp.of_below hK)⟩
    | _ + 9, _, _ => trivial
  · intro _ b x ls hR hS hself hup hdn hk
    have h0 : b.eval (.tmp 0) = .pointer (some ⟨F, 0, none⟩) := Eq.mp (by kernel_rfl) (hk 0 (by decide))
    have lA : ls 8 = false := hdn [] 8 _ rfl (by kernel_rfl)
    have hb := hS lA
    exact Rg.does_move ⟨by rw [if_neg (by decide)]; exact Below.refl _ _, h0, fun hh => hS hh⟩
  · intro _ b x ls hR hS hself hup hdn hk
    have h1 : b.eval (.tmp 1) = .pointer (some ⟨g, off, none⟩) := Eq.mp (by kernel_rfl) (hk 1 (by decide))
    have lA : ls 8 = false := hdn [7, 3, 2] 8 _ rfl (by kernel_rfl)
    have hb := hS lA
    exact Rg.does_move ⟨by rw [if_neg (by decide)]; exact Below.refl _ _, h1, fun hh => hS hh⟩
  · intro _ b x ls hR hS hself hup hdn hk
    have h5 : b.eval (.tmp 5) = .pointer (some ⟨g, off, none⟩) := Eq.mp (by kernel_rfl) (hk 5 (by decide))
    have lA : ls 8 = false := hdn [7, 3] 8 _ rfl (by kernel_rfl)
    have hb := hS lA
    exact Ap.does_nil _ h5 ⟨by rw [if_neg (by decide)]; exact Below.refl _ _, rfl, fun hh => hS hh⟩
  · intro _ b x ls hR hS hself hup hdn hk
    have h6 : b.eval (.tmp 6) = .pointer (some ⟨g, off, none⟩) := Eq.mp (by kernel_rfl) (hk 6 (by decide))
    have lA : ls 8 = false := hdn [7] 8 _ rfl (by kernel_rfl)
    have hb := hS lA
    exact Rs.does_field _ _ h6 (fld_var0 g off x) ⟨by rw [if_neg (by decide)]; exact Below.refl _ _, rfl, fun hh => hS hh⟩
  · intro _ b x ls hR hS hself hup hdn hk
    have h1 : b.eval (.tmp 1) = .pointer (some ⟨g, off, none⟩) := Eq.mp (by kernel_rfl) (hk 1 (by decide))
    have lA : ls 8 = false := hdn [7, 6, 5] 8 _ rfl (by kernel_rfl)
    have hb := hS lA
    exact Rg.does_move ⟨by rw [if_neg (by decide)]; exact Below.refl _ _, h1, fun hh => hS hh⟩
  · intro _ b x ls hR hS hself hup hdn hk
    have h8 : b.eval (.tmp 8) = .pointer (some ⟨g, off, none⟩) := Eq.mp (by kernel_rfl) (hk 8 (by decide))
    have lA : ls 8 = false := hdn [7, 6] 8 _ rfl (by kernel_rfl)
    have hb := hS lA
    exact Ap.does_nil _ h8 ⟨by rw [if_neg (by decide)]; exact Below.refl _ _, rfl, fun hh => hS hh⟩
  · intro _ b x ls hR hS hself hup hdn hk
    have h9 : b.eval (.tmp 9) = .pointer (some ⟨g, off, none⟩) := Eq.mp (by kernel_rfl) (hk 9 (by decide))
    have lA : ls 8 = false := hdn [7] 8 _ rfl (by kernel_rfl)
    have hb := hS lA
    exact Rs.does_field _ _ h9 (fld_var1 g off x) ⟨by rw [if_neg (by decide)]; exact Below.refl _ _, rfl, fun hh => hS hh⟩
  · intro _ b x ls hR hS hself hup hdn hk
    have h7 : b.eval (.tmp 7) = .pointer (some ⟨g, off, none⟩) := Eq.mp (by kernel_rfl) (hk 7 (by decide))
    have h10 : b.eval (.tmp 10) = .pointer (some ⟨g, off + 1, none⟩) := Eq.mp (by kernel_rfl) (hk 10 (by decide))
    have lA : ls 8 = false := hdn [] 8 _ rfl (by kernel_rfl)
    have hb := hS lA
    have hal := (Below.refl x.heap.size x).alloc (Nat.le_refl _) (.cells #[.pointer (some ⟨g, off, none⟩), .pointer (some ⟨g, off + 1, none⟩)] 134)
    exact Rg.does_build #[(0, .pointer (some ⟨g, off, none⟩)), (1, .pointer (some ⟨g, off + 1, none⟩))] _ (by simp [h7, h10]) (by go_simp) ⟨by rw [if_neg (by decide)]; exact hal, ⟨x.heap.size, rfl, hb.size, heap_alloc_new x _⟩, fun hh => hb.trans (hal.mono hb.size)⟩
  · intro _ b x ls hR hS hself hup hdn hk
    have h4 : b.eval (.tmp 4) = .pointer (some ⟨F, 0, none⟩) := Eq.mp (by kernel_rfl) (hk 4 (by decide))
    have h11 : (fun u x => ∃ b, u = .slice (some ⟨b, 0, none⟩) 2 2 ∧ W.heap.size ≤ b ∧ x.heap[b]? = some (.cells #[.pointer (some ⟨g, off, none⟩), .pointer (some ⟨g, off + 1, none⟩)] 134)) (b.eval (.tmp 11)) x := Eq.mp (by kernel_rfl) (hk 11 (by decide))
    have hb := hS hself
    obtain ⟨b1, hq2, hq4, hq5⟩ := h11
    refine Rg.does_func #[.pointer (some ⟨F, 0, none⟩), .slice (some ⟨b1, 0, none⟩) 2 2] Try.func60 (by kernel_rfl) (by kernel_rfl) (by simp [h4, hq2]) (pk_texts_calls x F v o g off [a.1, a.2] b1 (HP.out.below hb) ⟨⟨_, hq5, fun j hj => by match j, hj with | 0, _ => rfl | 1, _ => rfl⟩⟩ (by have := HP.out.lt; omega) HG.out (fun j hj => by have h7 := (hb.cell (p := ⟨g, off + j, none⟩) (by have := HP.out.lt; have := HG.out; show g < _; omega)).trans (HC.out j (by match j, hj with | 0, _ => exact Nat.zero_lt_two | 1, _ => exact Nat.one_lt_two)); match j, hj with | 0, _ => exact h7 | 1, _ => exact h7) (by rw [e1]; exact HL.out) (by simp)) ?_
    rintro e w' ⟨rfl, v', hp, hu⟩
    rw [e1] at hp
    exact ⟨_, rfl, by rw [if_pos rfl]; exact ⟨v', hu⟩, ⟨rfl, v', hp, (WUp.of_below hb).trans hu⟩, fun hh => by simp [Rs.upd] at hh⟩
  · intro vals wD ls _ hSD _ hL
    obtain ⟨g0, g1, g2, g3, g4, g5, g6, g7, g8, _⟩ := hL
    obtain ⟨e8, v', hp, hu⟩ := g8
    have HP' := Lib.hid hp
    have HU := Lib.hid hu
    clear g0 g1 g2 g3 g4 g5 g6 g7 e8 hp hu
    simp only [Rg.putAll, List.take_succ_cons, List.take_zero, List.drop_succ_cons, List.drop_zero, List.setIfInBounds_toArray, List.set_cons_succ, List.set_cons_zero]
    go_wp2_with fail
    refine bodyPost_end (v := .tuple #[]) (results_none rfl _ _ _) rfl ?_
    exact ⟨rfl, v', HP'.out, HU.out⟩
set_option maxHeartbeats 1000000 in
theorem bound_rk : RkOk 70 varC varV ([], []) := by
  intro W F q l e g off cur t h hc h0 hg
  have H := Lib.hid h
  have HC := Lib.hid hc
  have HZ := Lib.hid h0
  have HG := Lib.hid hg
  clear h hc h0 hg
  go_enter Try.func70, Try.ntmps70
  refine Rt.wp_region_rkt 9 [] [Rg.Is (.pointer (some ⟨F, 0, none⟩)), Rg.Is (.pointer (some ⟨g, off, none⟩)), Rg.Is (.pointer (some ⟨g, off, none⟩)), Rg.Is (.pointer (some ⟨g, off, none⟩)), Rg.Is (.pointer (some ⟨g, off, none⟩)), Rg.Is (.pointer (some ⟨g, off, none⟩)), Rg.Is (.pointer (some ⟨g, off + 1, none⟩)), (fun u x => ∃ b, u = .slice (some ⟨b, 0, none⟩) 2 2 ∧ W.heap.size ≤ b ∧ x.heap[b]? = some (.cells #[.pointer (some ⟨g, off, none⟩), .pointer (some ⟨g, off + 1, none⟩)] 134)), (fun u x => u = .tuple #[] ∧ RkI F q (varC.dec l e).2.1 (varC.dec l e).2.2 x ∧ Cut g (splice cur off (varV (varC.dec l e).1)) t x ∧ RUp F q g W x)] (fun _ _ => True) (fun ls x => ls 8 = false → Below W.heap.size W x) (fun k x y => if k = 8 then (RUp F q g x y) else Below x.heap.size x y) (by kernel_rfl) (by kernel_rfl) (of_decide_eq_true (by kernel_rfl)) (by kernel_rfl) (by kernel_rfl) trivial (fun _ => ⟨rfl, rfl, rfl, Nat.le_refl _, fun _ _ => rfl⟩) (fun ls ls' x e h1 h2 => h1 (by rw [e]; exact h2)) (fun _ _ _ _ _ => trivial) (fun i ls x _ h1 => by rw [show ([] : List Bool).getD i true = true from rfl] at h1; cases h1) ?_ ⟨rfl, rfl, rfl, rfl, rfl, rfl, rfl, rfl, rfl, trivial⟩ ⟨?_, ?_, ?_, ?_, ?_, ?_, ?_, ?_, ?_, trivial⟩ ?_
  · intro i k u x y hik _ h1 hK
    match i, h1, hik with
    | 0, h1, _ => exact h1
    | 1, h1, _ => exact h1
    | 2, h1, _ => exact h1
    | 3, h1, _ => exact h1
    | 4, h1, _ => exact h1
    | 5, h1, _ => exact h1
    | 6, h1, _ => exact h1
    | 7, h1, hik =>
      obtain ⟨b, h2, h4, h5⟩ := h1
      have hbs := (Array.getElem?_eq_some_iff.1 h5).1
      by_cases hk : k = 8
      · subst hk
        rw [if_pos rfl] at hK
        have h9 : y.heap[b]? = x.heap[b]? := hK.block b hbs (by have := H.out.F_lt; omega) (by have := H.out.F_lt; have := H.out.lt; omega) (by have := HC.out.lt; omega)
        exact ⟨b, h2, h4, h9.trans h5⟩
      · rw [if_neg hk] at hK
        exact ⟨b, h2, h4, (hK.block b hbs).trans h5⟩
    | 8, h1, hik =>
      rw [if_neg (fun e => hik e.symm)] at hK
      obtain ⟨h2, h3, h4, h5⟩ := h1
      exact ⟨h2, h3.below hK, (hK.block g h4.lt).trans h4, h5.trans (RUp.of_below hK)⟩
    | _ + 9, _, _ => trivial
  · intro _ b x ls hR hS hself hup hdn hk
    have h0 : b.eval (.tmp 0) = .pointer (some ⟨F, 0, none⟩) := Eq.mp (by kernel_rfl) (hk 0 (by decide))
    have lA : ls 8 = false := hdn [] 8 _ rfl (by kernel_rfl)
    have hb := hS lA
    exact Rg.does_move ⟨by rw [if_neg (by decide)]; exact Below.refl _ _, h0, fun hh => hS hh⟩
  · intro _ b x ls hR hS hself hup hdn hk
    have h1 : b.eval (.tmp 1) = .pointer (some ⟨g, off, none⟩) := Eq.mp (by kernel_rfl) (hk 1 (by decide))
    have lA : ls 8 = false := hdn [7, 3, 2] 8 _ rfl (by kernel_rfl)
    have hb := hS lA
    exact Rg.does_move ⟨by rw [if_neg (by decide)]; exact Below.refl _ _, h1, fun hh => hS hh⟩
  · intro _ b x ls hR hS hself hup hdn hk
    have h5 : b.eval (.tmp 5) = .pointer (some ⟨g, off, none⟩) := Eq.mp (by kernel_rfl) (hk 5 (by decide))
    have lA : ls 8 = false := hdn [7, 3] 8 _ rfl (by kernel_rfl)
    have hb := hS lA
    exact Ap.does_nil _ h5 ⟨by rw [if_neg (by decide)]; exact Below.refl _ _, rfl, fun hh => hS hh⟩
  · intro _ b x ls hR hS hself hup hdn hk
    have h6 : b.eval (.tmp 6) = .pointer (some ⟨g, off, none⟩) := Eq.mp (by kernel_rfl) (hk 6 (by decide))
    have lA : ls 8 = false := hdn [7] 8 _ rfl (by kernel_rfl)
    have hb := hS lA
    exact Rs.does_field _ _ h6 (fld_var0 g off x) ⟨by rw [if_neg (by decide)]; exact Below.refl _ _, rfl, fun hh => hS hh⟩
  · intro _ b x ls hR hS hself hup hdn hk
    have h1 : b.eval (.tmp 1) = .pointer (some ⟨g, off, none⟩) := Eq.mp (by kernel_rfl) (hk 1 (by decide))
    have lA : ls 8 = false := hdn [7, 6, 5] 8 _ rfl (by kernel_rfl)
    have hb := hS lA
    exact Rg.does_move ⟨by rw [if_neg (by decide)]; exact Below.refl _ _, h1, fun hh => hS hh⟩
  · intro _ b x ls hR hS hself hup hdn hk
    have h8 : b.eval (.tmp 8) = .pointer (some ⟨g, off, none⟩) := Eq.mp (by kernel_rfl) (hk 8 (by decide))
    have lA : ls 8 = false := hdn [7, 6] 8 _ rfl (by kernel_rfl)
    have hb := hS lA
    exact Ap.does_nil _ h8 ⟨by rw [if_neg (by decide)]; exact Below.refl _ _, rfl, fun hh => hS hh⟩
  · intro _ b x ls hR hS hself hup hdn hk
    have h9 : b.eval (.tmp 9) = .pointer (some ⟨g, off, none⟩) := Eq.mp (by kernel_rfl) (hk 9 (by decide))
    have lA : ls 8 = false := hdn [7] 8 _ rfl (by kernel_rfl)
    have hb := hS lA
    exact Rs.does_field _ _ h9 (fld_var1 g off x) ⟨by rw [if_neg (by decide)]; exact Below.refl _ _, rfl, fun hh => hS hh⟩
  · intro _ b x ls hR hS hself hup hdn hk
    have h7 : b.eval (.tmp 7) = .pointer (some ⟨g, off, none⟩) := Eq.mp (by kernel_rfl) (hk 7 (by decide))
    have h10 : b.eval (.tmp 10) = .pointer (some ⟨g, off + 1, none⟩) := Eq.mp (by kernel_rfl) (hk 10 (by decide))
    have lA : ls 8 = false := hdn [] 8 _ rfl (by kernel_rfl)
    have hb := hS lA
    have hal := (Below.refl x.heap.size x).alloc (Nat.le_refl _) (.cells #[.pointer (some ⟨g, off, none⟩), .pointer (some ⟨g, off + 1, none⟩)] 134)
    exact Rg.does_build #[(0, .pointer (some ⟨g, off, none⟩)), (1, .pointer (some ⟨g, off + 1, none⟩))] _ (by simp [h7, h10]) (by go_simp) ⟨by rw [if_neg (by decide)]; exact hal, ⟨x.heap.size, rfl, hb.size, heap_alloc_new x _⟩, fun hh => hb.trans (hal.mono hb.size)⟩
  · intro _ b x ls hR hS hself hup hdn hk
    have h4 : b.eval (.tmp 4) = .pointer (some ⟨F, 0, none⟩) := Eq.mp (by kernel_rfl) (hk 4 (by decide))
    have h11 : (fun u x => ∃ b, u = .slice (some ⟨b, 0, none⟩) 2 2 ∧ W.heap.size ≤ b ∧ x.heap[b]? = some (.cells #[.pointer (some ⟨g, off, none⟩), .pointer (some ⟨g, off + 1, none⟩)] 134)) (b.eval (.tmp 11)) x := Eq.mp (by kernel_rfl) (hk 11 (by decide))
    have hb := hS hself
    obtain ⟨b1, hq2, hq4, hq5⟩ := h11
    refine Rg.does_func #[.pointer (some ⟨F, 0, none⟩), .slice (some ⟨b1, 0, none⟩) 2 2] Try.func60 (by kernel_rfl) (by kernel_rfl) (by simp [h4, hq2]) (rk_texts_calls x F q l e g off 2 cur t b1 (H.out.below hb) ((hb.block g HC.out.lt).trans HC.out) (fun j hj => by match j, hj with | 0, _ => exact HZ.out 0 (by decide) | 1, _ => exact HZ.out 1 (by decide)) HG.out ⟨⟨_, hq5, fun j hj => by match j, hj with | 0, _ => rfl | 1, _ => rfl⟩⟩ (by have := H.out.F_lt; omega) (by have := HC.out.lt; omega) (by decide)) ?_
    rintro e w' ⟨rfl, hr, hcu, hu⟩
    exact ⟨_, rfl, by rw [if_pos rfl]; exact hu, ⟨rfl, hr, hcu, (RUp.of_below hb).trans hu⟩, fun hh => by simp [Rs.upd] at hh⟩
  · intro vals wD ls _ hSD _ hL
    obtain ⟨g0, g1, g2, g3, g4, g5, g6, g7, g8, _⟩ := hL
    obtain ⟨e8, hr, hcu, hu⟩ := g8
    have HR := Lib.hid hr
    have HCu := Lib.hid hcu
    have HU := Lib.hid hu
    clear g0 g1 g2 g3 g4 g5 g6 g7 e8 hr hcu hu
    simp only [Rg.putAll, List.take_succ_cons, List.take_zero, List.drop_succ_cons, List.drop_zero, List.setIfInBounds_toArray, List.set_cons_succ, List.set_cons_zero]
    go_wp2_with fail
    refine bodyPost_end (v := .tuple #[]) (results_none rfl _ _ _) rfl ?_
    exact ⟨rfl, HR.out, HCu.out, HU.out⟩
set_option maxHeartbeats 1000000 in
theorem cell_pk : PkOk 64 varC varV VarP := by
  intro W F v o g off a h hg ha hc hl
  have HP := Lib.hid h
  have HG := Lib.hid hg
  have HC := Lib.hid hc
  have HL := Lib.hid hl
  clear h hg ha hc hl
  have e1 : [a.1, a.2].flatMap txtB = varC.enc a := by show _ = txtB a.1 ++ txtB a.2; simp
  go_enter Try.func64, Try.ntmps64
  refine Rt.wp_region_rkt 9 [] [Rg.Is (.pointer (some ⟨F, 0, none⟩)), Rg.Is (.pointer (some ⟨g, off, none⟩)), Rg.Is (.pointer (some ⟨g, off, none⟩)), Rg.Is (.pointer (some ⟨g, off, none⟩)), Rg.Is (.pointer (some ⟨g, off, none⟩)), Rg.Is (.pointer (some ⟨g, off, none⟩)), Rg.Is (.pointer (some ⟨g, off + 1, none⟩)), (fun u x => ∃ b, u = .slice (some ⟨b, 0, none⟩) 2 2 ∧ W.heap.size ≤ b ∧ x.heap[b]? = some (.cells #[.pointer (some ⟨g, off, none⟩), .pointer (some ⟨g, off + 1, none⟩)] 134)), (fun u x => u = .tuple #[] ∧ ∃ v', PkI F v' (o ++ varC.enc a) x ∧ WUp F v v' W x)] (fun _ _ => True) (fun ls x => ls 8 = false → Below W.heap.size W x) (fun k x y => if k = 8 then (∃ v', WUp F v v' x y) else Below x.heap.size x y) (by kernel_rfl) (by kernel_rfl) (of_decide_eq_true (by kernel_rfl)) (by kernel_rfl) (by kernel_rfl) trivial (fun _ => ⟨rfl, rfl, rfl, Nat.le_refl _, fun _ _ => rfl⟩) (fun ls ls' x e h1 h2 => h1 (by rw [e]; exact h2)) (fun _ _ _ _ _ => trivial) (fun i ls x _ h1 => by rw [show ([] : List Bool).getD i true = true from rfl] at h1; cases h1) ?_ ⟨rfl, rfl, rfl, rfl, rfl, rfl, rfl, rfl, rfl, trivial⟩ ⟨?_, ?_, ?_, ?_, ?_, ?_, ?_, ?_, ?_, trivial⟩ ?_
  · intro i k u x y hik _ h1 hK
    match i, h1, hik with
    | 0, h1, _ => exact h1
    | 1, h1, _ => exact h1
    | 2, h1, _ => exact h1
    | 3, h1, _ => exact h1
    | 4, h1, _ => exact h1
    | 5, h1, _ => exact h1
    | 6, h1, _ => exact h1
    | 7, h1, hik =>
      obtain ⟨b, h2, h4, h5⟩ := h1
      have hbs := (Array.getElem?_eq_some_iff.1 h5).1
      by_cases hk : k = 8
      · subst hk
        rw [if_pos rfl] at hK
        have h9 : y.heap[b]? = x.heap[b]? := by obtain ⟨v', hK⟩ := hK; exact hK.block b hbs (by have := HP.out.lt; omega) (fun e => by have := (HP.out.own.lt _ e).2; omega)
        exact ⟨b, h2, h4, h9.trans h5⟩
      · rw [if_neg hk] at hK
        exact ⟨b, h2, h4, (hK.block b hbs).trans h5⟩
    | 8, h1, hik =>
      rw [if_neg (fun e => hik e.symm)] at hK
      obtain ⟨h2, v', h3, h4⟩ := h1
      exact ⟨h2, v', h3.below hK, h4.trans (WUp.of_below hK)⟩
    | _ + 9, _, _ => trivial
  · intro _ b x ls hR hS hself hup hdn hk
    have h0 : b.eval (.tmp 0) = .pointer (some ⟨F, 0, none⟩) := Eq.mp (by kernel_rfl) (hk 0 (by decide))
    have lA : ls 8 = false := hdn [] 8 _ rfl (by kernel_rfl)
    have hb := hS lA
    exact Rg.does_move ⟨by rw [if_neg (by decide)]; exact Below.refl _ _, h0, fun hh => hS hh⟩
  · intro _ b x ls hR hS hself hup hdn hk
    have h1 : b.eval (.tmp 1) = .pointer (some ⟨g, off, none⟩) := Eq.mp (by kernel_rfl) (hk 1 (by decide))
    have lA : ls 8 = false := hdn [7, 3, 2] 8 _ rfl (by kernel_rfl)
    have hb := hS lA
    exact Rg.does_move ⟨by rw [if_neg (by decide)]; exact Below.refl _ _, h1, fun hh => hS hh⟩
  · intro _ b x ls hR hS hself hup hdn hk
    have h5 : b.eval (.tmp 5) = .pointer (some ⟨g, off, none⟩) := Eq.mp (by kernel_rfl) (hk 5 (by decide))
    have lA : ls 8 = false := hdn [7, 3] 8 _ rfl (by kernel_rfl)
    have hb := hS lA
    exact Ap.does_nil _ h5 ⟨by rw [if_neg (by decide)]; exact Below.refl _ _, rfl, fun hh => hS hh⟩
  · intro _ b x ls hR hS hself hup hdn hk
    have h6 : b.eval (.tmp 6) = .pointer (some ⟨g, off, none⟩) := Eq.mp (by kernel_rfl) (hk 6 (by decide))
    have lA : ls 8 = false := hdn [7] 8 _ rfl (by kernel_rfl)
    have hb := hS lA
    exact Rs.does_field _ _ h6 (fld_row0 g off x) ⟨by rw [if_neg (by decide)]; exact Below.refl _ _, rfl, fun hh => hS hh⟩
  · intro _ b x ls hR hS hself hup hdn hk
    have h1 : b.eval (.tmp 1) = .pointer (some ⟨g, off, none⟩) := Eq.mp (by kernel_rfl) (hk 1 (by decide))
    have lA : ls 8 = false := hdn [7, 6, 5] 8 _ rfl (by kernel_rfl)
    have hb := hS lA
    exact Rg.does_move ⟨by rw [if_neg (by decide)]; exact Below.refl _ _, h1, fun hh => hS hh⟩
  · intro _ b x ls hR hS hself hup hdn hk
    have h8 : b.eval (.tmp 8) = .pointer (some ⟨g, off, none⟩) := Eq.mp (by kernel_rfl) (hk 8 (by decide))
    have lA : ls 8 = false := hdn [7, 6] 8 _ rfl (by kernel_rfl)
    have hb := hS lA
    exact Ap.does_nil _ h8 ⟨by rw [if_neg (by decide)]; exact Below.refl _ _, rfl, fun hh => hS hh⟩
  · intro _ b x ls hR hS hself hup hdn hk
    have h9 : b.eval (.tmp 9) = .pointer (some ⟨g, off, none⟩) := Eq.mp (by kernel_rfl) (hk 9 (by decide))
    have lA : ls 8 = false := hdn [7] 8 _ rfl (by kernel_rfl)
    have hb := hS lA
    exact Rs.does_field _ _ h9 (fld_row1 g off x) ⟨by rw [if_neg (by decide)]; exact Below.refl _ _, rfl, fun hh => hS hh⟩
  · intro _ b x ls hR hS hself hup hdn hk
    have h7 : b.eval (.tmp 7) = .pointer (some ⟨g, off, none⟩) := Eq.mp (by kernel_rfl) (hk 7 (by decide))
    have h10 : b.eval (.tmp 10) = .pointer (some ⟨g, off + 1, none⟩) := Eq.mp (by kernel_rfl) (hk 10 (by decide))
    have lA : ls 8 = false := hdn [] 8 _ rfl (by kernel_rfl)
    have hb := hS lA
    have hal := (Below.refl x.heap.size x).alloc (Nat.le_refl _) (.cells #[.pointer (some ⟨g, off, none⟩), .pointer (some ⟨g, off + 1, none⟩)] 134)
    exact Rg.does_build #[(0, .pointer (some ⟨g, off, none⟩)), (1, .pointer (some ⟨g, off + 1, none⟩))] _ (by simp [h7, h10]) (by go_simp) ⟨by rw [if_neg (by decide)]; exact hal, ⟨x.heap.size, rfl, hb.size, heap_alloc_new x _⟩, fun hh => hb.trans (hal.mono hb.size)⟩
  · intro _ b x ls hR hS hself hup hdn hk
    have h4 : b.eval (.tmp 4) = .pointer (some ⟨F, 0, none⟩) := Eq.mp (by kernel_rfl) (hk 4 (by decide))
    have h11 : (fun u x => ∃ b, u = .slice (some ⟨b, 0, none⟩) 2 2 ∧ W.heap.size ≤ b ∧ x.heap[b]? = some (.cells #[.pointer (some ⟨g, off, none⟩), .pointer (some ⟨g, off + 1, none⟩)] 134)) (b.eval (.tmp 11)) x := Eq.mp (by kernel_rfl) (hk 11 (by decide))
    have hb := hS hself
    obtain ⟨b1, hq2, hq4, hq5⟩ := h11
    refine Rg.does_func #[.pointer (some ⟨F, 0, none⟩), .slice (some ⟨b1, 0, none⟩) 2 2] Try.func60 (by kernel_rfl) (by kernel_rfl) (by simp [h4, hq2]) (pk_texts_calls x F v o g off [a.1, a.2] b1 (HP.out.below hb) ⟨⟨_, hq5, fun j hj => by match j, hj with | 0, _ => rfl | 1, _ => rfl⟩⟩ (by have := HP.out.lt; omega) HG.out (fun j hj => by have h7 := (hb.cell (p := ⟨g, off + j, none⟩) (by have := HP.out.lt; have := HG.out; show g < _; omega)).trans (HC.out j (by match j, hj with | 0, _ => exact Nat.zero_lt_two | 1, _ => exact Nat.one_lt_two)); match j, hj with | 0, _ => exact h7 | 1, _ => exact h7) (by rw [e1]; exact HL.out) (by simp)) ?_
    rintro e w' ⟨rfl, v', hp, hu⟩
    rw [e1] at hp
    exact ⟨_, rfl, by rw [if_pos rfl]; exact ⟨v', hu⟩, ⟨rfl, v', hp, (WUp.of_below hb).trans hu⟩, fun hh => by simp [Rs.upd] at hh⟩
  · intro vals wD ls _ hSD _ hL
    obtain ⟨g0, g1, g2, g3, g4, g5, g6, g7, g8, _⟩ := hL
    obtain ⟨e8, v', hp, hu⟩ := g8
    have HP' := Lib.hid hp
    have HU := Lib.hid hu
    clear g0 g1 g2 g3 g4 g5 g6 g7 e8 hp hu
    simp only [Rg.putAll, List.take_succ_cons, List.take_zero, List.drop_succ_cons, List.drop_zero, List.setIfInBounds_toArray, List.set_cons_succ, List.set_cons_zero]
    go_wp2_with fail
    refine bodyPost_end (v := .tuple #[]) (results_none rfl _ _ _) rfl ?_
    exact ⟨rfl, v', HP'.out, HU.out⟩
set_option maxHeartbeats 1000000 in
theorem cell_rk : RkOk 64 varC varV ([], []) := by
  intro W F q l e g off cur t h hc h0 hg
  have H := Lib.hid h
  have HC := Lib.hid hc
  have HZ := Lib.hid h0
  have HG := Lib.hid hg
  clear h hc h0 hg
  go_enter Try.func64, Try.ntmps64
  refine Rt.wp_region_rkt 9 [] [Rg.Is (.pointer (some ⟨F, 0, none⟩)), Rg.Is (.pointer (some ⟨g, off, none⟩)), Rg.Is (.pointer (some ⟨g, off, none⟩)), Rg.Is (.pointer (some ⟨g, off, none⟩)), Rg.Is (.pointer (some ⟨g, off, none⟩)), Rg.Is (.pointer (some ⟨g, off, none⟩)), Rg.Is (.pointer (some ⟨g, off + 1, none⟩)), (fun u x => ∃ b, u = .slice (some ⟨b, 0, none⟩) 2 2 ∧ W.heap.size ≤ b ∧ x.heap[b]? = some (.cells #[.pointer (some ⟨g, off, none⟩), .pointer (some ⟨g, off + 1, none⟩)] 134)), (fun u x => u = .tuple #[] ∧ RkI F q (varC.dec l e).2.1 (varC.dec l e).2.2 x ∧ Cut g (splice cur off (varV (varC.dec l e).1)) t x ∧ RUp F q g W x)] (fun _ _ => True) (fun ls x => ls 8 = false → Below W.heap.size W x) (fun k x y => if k = 8 then (RUp F q g x y) else Below x.heap.size x y) (by kernel_rfl) (by kernel_rfl) (of_decide_eq_true (by kernel_rfl)) (by kernel_rfl) (by kernel_rfl) trivial (fun _ => ⟨rfl, rfl, rfl, Nat.le_refl _, fun _ _ => rfl⟩) (fun ls ls' x e h1 h2 => h1 (by rw [e]; exact h2)) (fun _ _ _ _ _ => trivial) (fun i ls x _ h1 => by rw [show ([] : List Bool).getD i true = true from rfl] at h1; cases h1) ?_ ⟨rfl, rfl, rfl, rfl, rfl, rfl, rfl, rfl, rfl, trivial⟩ ⟨?_, ?_, ?_, ?_, ?_, ?_, ?_, ?_, ?_, trivial⟩ ?_
  · intro i k u x y hik _ h1 hK
    match i, h1, hik with
    | 0, h1, _ => exact h1
    | 1, h1, _ => exact h1
    | 2, h1, _ => exact h1
    | 3, h1, _ => exact h1
    | 4, h1, _ => exact h1
    | 5, h1, _ => exact h1
    | 6, h1, _ => exact h1
    | 7, h1, hik =>
      obtain ⟨b, h2, h4, h5⟩ := h1
      have hbs := (Array.getElem?_eq_some_iff.1 h5).1
      by_cases hk : k = 8
      · subst hk
        rw [if_pos rfl] at hK
        have h9 : y.heap[b]? = x.heap[b]? := hK.block b hbs (by have := H.out.F_lt; omega) (by have := H.out.F_lt; have := H.out.lt; omega) (by have := HC.out.lt; omega)
        exact ⟨b, h2, h4, h9.trans h5⟩
      · rw [if_neg hk] at hK
        exact ⟨b, h2, h4, (hK.block b hbs).trans h5⟩
    | 8, h1, hik =>
      rw [if_neg (fun e => hik e.symm)] at hK
      obtain ⟨h2, h3, h4, h5⟩ := h1
      exact ⟨h2, h3.below hK, (hK.block g h4.lt).trans h4, h5.trans (RUp.of_below hK)⟩
    | _ + 9, _, _ => trivial
  · intro _ b x ls hR hS hself hup hdn hk
    have h0 : b.eval (.tmp 0) = .pointer (some ⟨F, 0, none⟩) := Eq.mp (by kernel_rfl) (hk 0 (by decide))
    have lA : ls 8 = false := hdn [] 8 _ rfl (by kernel_rfl)
    have hb := hS lA
    exact Rg.does_move ⟨by rw [if_neg (by decide)]; exact Below.refl _ _, h0, fun hh => hS hh⟩
  · intro _ b x ls hR hS hself hup hdn hk
    have h1 : b.eval (.tmp 1) = .pointer (some ⟨g, off, none⟩) := Eq.mp (by kernel_rfl) (hk 1 (by decide))
    have lA : ls 8 = false := hdn [7, 3, 2] 8 _ rfl (by kernel_rfl)
    have hb := hS lA
    exact Rg.does_move ⟨by rw [if_neg (by decide)]; exact Below.refl _ _, h1, fun hh => hS hh⟩
  · intro _ b x ls hR hS hself hup hdn hk
    have h5 : b.eval (.tmp 5) = .pointer (some ⟨g, off, none⟩) := Eq.mp (by kernel_rfl) (hk 5 (by decide))
    have lA : ls 8 = false := hdn [7, 3] 8 _ rfl (by kernel_rfl)
    have hb := hS lA
    exact Ap.does_nil _ h5 ⟨by rw [if_neg (by decide)]; exact Below.refl _ _, rfl, fun hh => hS hh⟩
  · intro _ b x ls hR hS hself hup hdn hk
    have h6 : b.eval (.tmp 6) = .pointer (some ⟨g, off, none⟩) := Eq.mp (by kernel_rfl) (hk 6 (by decide))
    have lA : ls 8 = false := hdn [7] 8 _ rfl (by kernel_rfl)
    have hb := hS lA
    exact Rs.does_field _ _ h6 (fld_row0 g off x) ⟨by rw [if_neg (by decide)]; exact Below.refl _ _, rfl, fun hh => hS hh⟩
  · intro _ b x ls hR hS hself hup hdn hk
    have h1 : b.eval (.tmp 1) = .pointer (some ⟨g, off, none⟩) := Eq.mp (by kernel_rfl) (hk 1 (by decide))
    have lA : ls 8 = false := hdn [7, 6, 5] 8 _ rfl (by kernel_rfl)
    have hb := hS lA
    exact Rg.does_move ⟨by rw [if_neg (by decide)]; exact Below.refl _ _, h1, fun hh => hS hh⟩
  · intro _ b x ls hR hS hself hup hdn hk
    have h8 : b.eval (.tmp 8) = .pointer (some ⟨g, off, none⟩) := Eq.mp (by kernel_rfl) (hk 8 (by decide))
    have lA : ls 8 = false := hdn [7, 6] 8 _ rfl (by kernel_rfl)
    have hb := hS lA
    exact Ap.does_nil _ h8 ⟨by rw [if_neg (by decide)]; exact Below.refl _ _, rfl, fun hh => hS hh⟩
  · intro _ b x ls hR hS hself hup hdn hk
    have h9 : b.eval (.tmp 9) = .pointer (some ⟨g, off, none⟩) := Eq.mp (by kernel_rfl) (hk 9 (by decide))
    have lA : ls 8 = false := hdn [7] 8 _ rfl (by kernel_rfl)
    have hb := hS lA
    exact Rs.does_field _ _ h9 (fld_row1 g off x) ⟨by rw [if_neg (by decide)]; exact Below.refl _ _, rfl, fun hh => hS hh⟩
  · intro _ b x ls hR hS hself hup hdn hk
    have h7 : b.eval (.tmp 7) = .pointer (some ⟨g, off, none⟩) := Eq.mp (by kernel_rfl) (hk 7 (by decide))
    have h10 : b.eval (.tmp 10) = .pointer (some ⟨g, off + 1, none⟩) := Eq.mp (by kernel_rfl) (hk 10 (by decide))
    have lA : ls 8 = false := hdn [] 8 _ rfl (by kernel_rfl)
    have hb := hS lA
    have hal := (Below.refl x.heap.size x).alloc (Nat.le_refl _) (.cells #[.pointer (some ⟨g, off, none⟩), .pointer (some ⟨g, off + 1, none⟩)] 134)
    exact Rg.does_build #[(0, .pointer (some ⟨g, off, none⟩)), (1, .pointer (some ⟨g, off + 1, none⟩))] _ (by simp [h7, h10]) (by go_simp) ⟨by rw [if_neg (by decide)]; exact hal, ⟨x.heap.size, rfl, hb.size, heap_alloc_new x _⟩, fun hh => hb.trans (hal.mono hb.size)⟩
  · intro _ b x ls hR hS hself hup hdn hk
    have h4 : b.eval (.tmp 4) = .pointer (some ⟨F, 0, none⟩) := Eq.mp (by kernel_rfl) (hk 4 (by decide))
    have h11 : (fun u x => ∃ b, u = .slice (some ⟨b, 0, none⟩) 2 2 ∧ W.heap.size ≤ b ∧ x.heap[b]? = some (.cells #[.pointer (some ⟨g, off, none⟩), .pointer (some ⟨g, off + 1, none⟩)] 134)) (b.eval (.tmp 11)) x := Eq.mp (by kernel_rfl) (hk 11 (by decide))
    have hb := hS hself
    obtain ⟨b1, hq2, hq4, hq5⟩ := h11
    refine Rg.does_func #[.pointer (some ⟨F, 0, none⟩), .slice (some ⟨b1, 0, none⟩) 2 2] Try.func60 (by kernel_rfl) (by kernel_rfl) (by simp [h4, hq2]) (rk_texts_calls x F q l e g off 2 cur t b1 (H.out.below hb) ((hb.block g HC.out.lt).trans HC.out) (fun j hj => by match j, hj with | 0, _ => exact HZ.out 0 (by decide) | 1, _ => exact HZ.out 1 (by decide)) HG.out ⟨⟨_, hq5, fun j hj => by match j, hj with | 0, _ => rfl | 1, _ => rfl⟩⟩ (by have := H.out.F_lt; omega) (by have := HC.out.lt; omega) (by decide)) ?_
    rintro e w' ⟨rfl, hr, hcu, hu⟩
    exact ⟨_, rfl, by rw [if_pos rfl]; exact hu, ⟨rfl, hr, hcu, (RUp.of_below hb).trans hu⟩, fun hh => by simp [Rs.upd] at hh⟩
  · intro vals wD ls _ hSD _ hL
    obtain ⟨g0, g1, g2, g3, g4, g5, g6, g7, g8, _⟩ := hL
    obtain ⟨e8, hr, hcu, hu⟩ := g8
    have HR := Lib.hid hr
    have HCu := Lib.hid hcu
    have HU := Lib.hid hu
    clear g0 g1 g2 g3 g4 g5 g6 g7 e8 hr hcu hu
    simp only [Rg.putAll, List.take_succ_cons, List.take_zero, List.drop_succ_cons, List.drop_zero, List.setIfInBounds_toArray, List.set_cons_succ, List.set_cons_zero]
    go_wp2_with fail
    refine bodyPost_end (v := .tuple #[]) (results_none rfl _ _ _) rfl ?_
    exact ⟨rfl, HR.out, HCu.out, HU.out⟩
end Go.Proofs.Ytmhofdoifgfjfaa
