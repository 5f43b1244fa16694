/-
  The fields of a row while it is split: end, separator, add. Conditions: as the contracts say.
-/
import Derived.Test.YtiemlgfcmldnoaaSpPlain
import Derived.Test.YtiemlgfcmldnoaaAppendAt
import Derived.Test.YtiemlgfcmldnoaaRegionT
import Derived.Deep.Cut
set_option linter.unusedVariables false
set_option maxRecDepth 100000
namespace Go.Proofs.Ytiemlgfcmldnoaa
open Go.RowKit Base

def rowCells (r : SRow) : List Value := [.string (str (textS r)), .string (str (maskS r))]
def rowV (r : SRow) : Value := .agg #[.string (str (textS r)), .string (str (maskS r))]
theorem rowCells_len (r : SRow) : (rowCells r).length = 2 := rfl
theorem info_row : (Try.prog.info? 23).map (fun i => (i.zero, i.size, i.bytes)) = some (some (.agg #[.string ⟨#[]⟩, .string ⟨#[]⟩]), 2, 32) := by kernel_rfl
abbrev SRows := RowOf (Ap.cellsAt rowCells) 2
/-- What a step on the fields turns: block F, and what is new, or the fields' own row, from B on. -/
structure Upd (F B : Nat) (w w' : World) : Prop where
  os : w'.os = w.os
  tape : w'.tape = w.tape
  output : w'.output = w.output
  size : w.heap.size ≤ w'.heap.size
  block : ∀ k, k < B → k ≠ F → w'.heap[k]? = w.heap[k]?
  others : KeepsOthers w w'
theorem Upd.refl (F B : Nat) (w : World) : Upd F B w w := ⟨rfl, rfl, rfl, Nat.le_refl _, fun _ _ _ => rfl, KeepsOthers.refl w⟩
theorem Upd.trans {F B : Nat} {w w1 w2 : World} (h : Upd F B w w1) (h2 : Upd F B w1 w2) : Upd F B w w2 :=
  ⟨h2.os.trans h.os, h2.tape.trans h.tape, h2.output.trans h.output, Nat.le_trans h.size h2.size, fun k hk hq => (h2.block k hk hq).trans (h.block k hk hq), h.others.trans h2.others⟩
theorem Upd.of_below {F B : Nat} {w w' : World} (hB : B ≤ w.heap.size) (h : Below w.heap.size w w') : Upd F B w w' :=
  ⟨h.os, h.tape, h.output, h.size, fun k hk _ => h.block k (Nat.lt_of_lt_of_le hk hB), ⟨h.size, fun k o hk _ => (h.block k (Array.getElem?_eq_some_iff.1 hk).1).trans hk⟩⟩
theorem Upd.of_grown {F B : Nat} {w w' : World} {row : Option Nat} (hB : B ≤ w.heap.size) (h : w.grownBy w' row) (hr : ∀ j, row = some j → B ≤ j) (hc : ∀ (j : Nat) (o : Obj), row = some j → w.heap[j]? = some o → o.isCells = true) : Upd F B w w' :=
  ⟨h.os, h.tape, h.output, h.size, fun k hk _ => h.block k (Nat.lt_of_lt_of_le hk hB) (fun e => by have := hr k e.symm; omega), KeepsOthers.of_grownBy h hc⟩
theorem set_other (w : World) (F j : Nat) (u : Value) (k : Nat) (hk : k ≠ F) : (w.setCell ⟨F, j, none⟩ u).heap[k]? = w.heap[k]? := Below.heap_setCell w ⟨F, j, none⟩ u k (by first | exact hk | exact hk.symm)
theorem Upd.set {F B : Nat} {w w' : World} (h : Upd F B w w') (j : Nat) (u : Value) : Upd F B w (w'.setCell ⟨F, j, none⟩ u) := by
  have hg := Ap.grown_set w' F j u
  exact ⟨hg.os.trans h.os, hg.tape.trans h.tape, hg.output.trans h.output, Nat.le_trans h.size hg.size, fun k hk hq => (set_other w' F j u k hq).trans (h.block k hk hq), h.others.trans (KeepsOthers.setCell _ _ _)⟩
theorem Upd.below {F B n : Nat} {w w' : World} (h : Upd F B w w') (hF : n ≤ F) (hB : n ≤ B) : Below n w w' :=
  ⟨h.os, h.tape, h.output, h.size, fun k hk => h.block k (Nat.lt_of_lt_of_le hk hB) (by omega)⟩
/-- The fields, at block F: their own row lies at B or beyond. -/
def FAt (x : World) (F B : Nat) (st : SpSt) (v : Value) : Prop :=
  x.heap[F]? = some (.cells #[v, .string (str (textS st.now)), .string (str (maskS st.now)), .bool st.begun, .bool st.blank] 44) ∧ x.ownsRow B 23 2 v st.l.length (st.l.flatMap rowCells)
theorem FAt.upd_below {x y : World} {F B : Nat} {st : SpSt} {v : Value} (h : FAt x F B st v) (hb : Below x.heap.size x y) : FAt y F B st v :=
  ⟨(hb.block F (Array.getElem?_eq_some_iff.1 h.1).1).trans h.1, ownsRow_below h.2 hb⟩
theorem FAt.grown {x y : World} {F B : Nat} {st : SpSt} {v : Value} (h : FAt x F B st v) {row : Option Nat} (hg : x.grownBy y row) (hF : row ≠ some F) (hc : v.ownBlock = none ∨ v.ownBlock ≠ row) : FAt y F B st v :=
  ⟨(hg.block F (Array.getElem?_eq_some_iff.1 h.1).1 (fun e => hF e.symm)).trans h.1, h.2.kept hg hc⟩
theorem FAt.cells {x : World} {F B : Nat} {st : SpSt} {v : Value} (h : FAt x F B st v) :
    (x.cell? ⟨F, 0, none⟩ = some v ∧ x.cell? ⟨F, 1, none⟩ = some (.string (str (textS st.now))) ∧ x.cell? ⟨F, 2, none⟩ = some (.string (str (maskS st.now))) ∧ x.cell? ⟨F, 3, none⟩ = some (.bool st.begun) ∧ x.cell? ⟨F, 4, none⟩ = some (.bool st.blank)) ∧
      x.frozen? ⟨F, 0, none⟩ = false ∧ x.frozen? ⟨F, 1, none⟩ = false ∧ x.frozen? ⟨F, 2, none⟩ = false ∧ x.frozen? ⟨F, 3, none⟩ = false ∧ x.frozen? ⟨F, 4, none⟩ = false := by
  have h1 := h.1
  refine ⟨⟨?_, ?_, ?_, ?_, ?_⟩, ?_, ?_, ?_, ?_, ?_⟩ <;> simp [World.cell?, World.frozen?, h1]
theorem set4 {w : World} {F : Nat} {t : TypeId} {a b c d e : Value} (x1 x2 x3 x4 : Value) (h : w.heap[F]? = some (.cells #[a, b, c, d, e] t)) :
    ((((w.setCell ⟨F, 1, none⟩ x1).setCell ⟨F, 2, none⟩ x2).setCell ⟨F, 3, none⟩ x3).setCell ⟨F, 4, none⟩ x4).heap[F]? = some (.cells #[a, x1, x2, x3, x4] t) :=
  heap_setCell_same _ F 4 _ _ _ (heap_setCell_same _ F 3 _ _ _ (heap_setCell_same _ F 2 _ _ _ (heap_setCell_same _ F 1 _ _ _ h)))
theorem set5 {w : World} {F : Nat} {t : TypeId} {a b c d e : Value} (x0 x1 x2 x3 x4 : Value) (h : w.heap[F]? = some (.cells #[a, b, c, d, e] t)) :
    (((((w.setCell ⟨F, 0, none⟩ x0).setCell ⟨F, 1, none⟩ x1).setCell ⟨F, 2, none⟩ x2).setCell ⟨F, 3, none⟩ x3).setCell ⟨F, 4, none⟩ x4).heap[F]? = some (.cells #[x0, x1, x2, x3, x4] t) :=
  set4 x1 x2 x3 x4 (heap_setCell_same _ F 0 _ _ _ h)
theorem own_setF {w : World} {F B j : Nat} {e : TypeId} {k : Nat} {v u : Value} {n : Nat} {xs : List Value} (h : w.ownsRow B e k v n xs) (hF : F < B) : (w.setCell ⟨F, j, none⟩ u).ownsRow B e k v n xs :=
  h.kept (Ap.grown_set w F j u) (by
    cases hv : v.ownBlock with
    | none => exact .inl rfl
    | some g => exact .inr (fun e => by cases e; have := (h.lt _ hv).1; omega))
theorem endS_begun {st : SpSt} (h : st.begun = true) (b : Bool) : endS st b = ⟨st.l ++ [st.now], [], false, b⟩ := by unfold endS; rw [if_pos h]
theorem endS_not {st : SpSt} (h : st.begun = false) (b : Bool) : endS st b = ⟨st.l, [], false, b⟩ := by unfold endS; rw [if_neg (by simp [h])]
theorem fields_f0 (b o : Nat) (w : World) : (Instr.fieldAt 44 (.pointer (some ⟨b, o, none⟩)) 0).run Try.prog w = .ok (.pointer (some ⟨b, o, none⟩)) w := by rfl
theorem fields_f1 (b o : Nat) (w : World) : (Instr.fieldAt 44 (.pointer (some ⟨b, o, none⟩)) 1).run Try.prog w = .ok (.pointer (some ⟨b, o + 1, none⟩)) w := by rfl
theorem row_f0 (b o : Nat) (w : World) : (Instr.fieldAt 23 (.pointer (some ⟨b, o, none⟩)) 0).run Try.prog w = .ok (.pointer (some ⟨b, o, none⟩)) w := by rfl
theorem row_f1 (b o : Nat) (w : World) : (Instr.fieldAt 23 (.pointer (some ⟨b, o, none⟩)) 1).run Try.prog w = .ok (.pointer (some ⟨b, o + 1, none⟩)) w := by rfl
theorem load_sp_rows {w : World} {ad : Addr} {v : Value} (h : w.cell? ad = some v) : (Instr.loadAt 25 (.pointer (some ad))).run Try.prog w = .ok v w := Ap.load_plainP (by simp [isAgg]) h
theorem load_sp_str {w : World} {ad : Addr} {v : Value} (h : w.cell? ad = some v) : (Instr.loadAt 9 (.pointer (some ad))).run Try.prog w = .ok v w := Ap.load_plainP (by simp [isAgg]) h
theorem load_row {w : World} {b o : Nat} {x y : Value} (h0 : w.cell? ⟨b, o, none⟩ = some x) (h1 : w.cell? ⟨b, o + 1, none⟩ = some y) : (Instr.loadAt 23 (.pointer (some ⟨b, o, none⟩))).run Try.prog w = .ok (.agg #[x, y]) w := by
  go_simp
def EndPost (F B : Nat) (st : SpSt) (w : World) (e : Ending) (w' : World) : Prop := e = .returned (.tuple #[]) ∧ (∃ v, FAt w' F B st v) ∧ Upd F B w w'
set_option maxHeartbeats 2000000 in
theorem sp_end_calls (w : World) (F B : Nat) (st : SpSt) (v : Value) (b : Bool) (h : FAt w F B st v) (hFB : F < B) (hBw : B ≤ w.heap.size) (hs : st.l.length ≤ 1000000) :
    Calls Try.prog 21 #[.pointer (some ⟨F, 0, none⟩), .bool b] w (EndPost F B (endS st b) w) := by
  obtain ⟨i0, hi, hi1, hi2, hi3⟩ := info_parts info_row
  obtain ⟨⟨c0, c1, c2, c3, c4⟩, f0, f1, f2, f3, f4⟩ := h.cells
  have HF := Lib.hid h
  clear h
  by_cases hbeg : st.begun = true
  rotate_left
  · have hb' : st.begun = false := by simpa using hbeg
    have HE := Lib.hid (endS_not hb' b)
    rw [hb'] at c3
    clear hbeg
    have HX := Lib.hid hb'
    clear hb'
    go_enter Try.func21, Try.ntmps21
    go_wp2_with fail
    refine bodyPost_end (v := .tuple #[]) (results_none rfl _ _ _) rfl ?_
    refine ⟨rfl, ⟨v, ?_⟩, ((((Upd.refl F B w).set 1 _).set 2 _).set 3 _).set 4 _⟩
    rw [HE.out]
    exact ⟨set4 _ _ _ _ HF.out.1, own_setF (own_setF (own_setF (own_setF HF.out.2 hFB) hFB) hFB) hFB⟩
  have HE := Lib.hid (endS_begun hbeg b)
  rw [hbeg] at c3
  clear hbeg
  have HFs : Hid (F < w.heap.size) := Nat.lt_of_lt_of_le hFB hBw
  have HOw : Hid (∀ j, v.ownBlock = some j → B ≤ j ∧ j < w.heap.size) := fun j hj => HF.out.2.lt j hj
  have K0 := Lib.hid c0; have K1 := Lib.hid c1; have K2 := Lib.hid c2
  go_enter Try.func21, Try.ntmps21
  go_upto_region 1 with fail
  clear c0 c1 c2 c3 c4 f0 f1 f2 f3 f4
  refine Rt.wp_region_rkt 11 [] [Rg.Is (.pointer (some ⟨F, 0, none⟩)), Rg.Is (.pointer (some ⟨F, 0, none⟩)), Rg.Is (.pointer (some ⟨F, 0, none⟩)), Rg.Is (.pointer (some ⟨F, 0, none⟩)), Rg.Is (v), Rg.Is (.pointer (some ⟨F, 0, none⟩)), Rg.Is (.pointer (some ⟨F, 0, none⟩)), Rg.Is (.pointer (some ⟨F, 1, none⟩)), Rg.Is (rowV st.now), (fun u x => ∃ g, u = .slice (some ⟨g, 0, none⟩) 1 1 ∧ w.heap.size ≤ g ∧ x.heap[g]? = some (.cells (rowCells st.now).toArray 23)), (fun u x => x.ownsRow B 23 2 u (st.l.length + 1) (st.l.flatMap rowCells ++ rowCells st.now) ∧ Upd F B w x ∧ x.heap[F]? = w.heap[F]?)] (fun _ _ => True) (fun ls x => ls 10 = false → Below w.heap.size w x) (fun k x y => if k = 10 then x.grownBy y (Value.ownBlock (v)) else Below x.heap.size x y) (by kernel_rfl) (by kernel_rfl) (of_decide_eq_true (by kernel_rfl)) (by kernel_rfl) (by kernel_rfl) trivial (fun _ => ⟨rfl, rfl, rfl, Nat.le_refl _, fun _ _ => rfl⟩) (fun ls ls' x e h1 h2 => h1 (by rw [e]; exact h2)) (fun _ _ _ _ _ => trivial) (fun i ls x _ h1 => by rw [show ([] : List Bool).getD i true = true from rfl] at h1; cases h1) ?_ ⟨rfl, rfl, rfl, rfl, rfl, rfl, rfl, rfl, rfl, rfl, rfl, trivial⟩ ⟨?_, ?_, ?_, ?_, ?_, ?_, ?_, ?_, ?_, ?_, ?_, trivial⟩ ?_
  · intro i k u x y hik _ h1 hK
    match i, h1, hik with
    | 0, h1, _ => exact h1
    | 1, h1, _ => exact h1
    | 2, h1, _ => exact h1
    | 3, h1, _ => exact h1
    | 4, h1, _ => exact h1
    | 5, h1, _ => exact h1
    | 6, h1, _ => exact h1
    | 7, h1, _ => exact h1
    | 8, h1, _ => exact h1
    | 9, h1, hik =>
      obtain ⟨g, h2, h3, h4⟩ := h1
      refine ⟨g, h2, h3, ?_⟩
      have hg := (Array.getElem?_eq_some_iff.1 h4).1
      by_cases hk : k = 10
      · subst hk
        rw [if_pos rfl] at hK
        exact (hK.block g hg (fun e => by have := (HOw.out _ e.symm).2; omega)).trans h4
      · rw [if_neg hk] at hK
        exact (hK.block g hg).trans h4
    | 10, h1, hik =>
      rw [if_neg (fun e => hik e.symm)] at hK
      exact ⟨ownsRow_below h1.1 hK, h1.2.1.trans (Upd.of_below (by have := h1.2.1.size; omega) hK), (hK.block F (Nat.lt_of_lt_of_le HFs.out h1.2.1.size)).trans h1.2.2⟩
    | _ + 11, _, _ => trivial
  · intro _ b x ls hR hS hself hup hdn hk
    have h0 : b.eval (.tmp 0) = .pointer (some ⟨F, 0, none⟩) := Eq.mp (by kernel_rfl) (hk 0 (by decide))
    exact Rg.does_move ⟨by rw [if_neg (by decide)]; exact Below.refl _ _, h0, fun hh => hS hh⟩
  · intro _ b x ls hR hS hself hup hdn hk
    have h0 : b.eval (.tmp 0) = .pointer (some ⟨F, 0, none⟩) := Eq.mp (by kernel_rfl) (hk 0 (by decide))
    have lA : ls 10 = false := hdn [4, 3, 2] 10 _ rfl (by kernel_rfl)
    have hb := hS lA
    exact Rg.does_move ⟨by rw [if_neg (by decide)]; exact Below.refl _ _, h0, fun hh => hS hh⟩
  · intro _ b x ls hR hS hself hup hdn hk
    have h9 : b.eval (.tmp 9) = .pointer (some ⟨F, 0, none⟩) := Eq.mp (by kernel_rfl) (hk 9 (by decide))
    have lA : ls 10 = false := hdn [4, 3] 10 _ rfl (by kernel_rfl)
    have hb := hS lA
    exact Ap.does_nil _ h9 ⟨by rw [if_neg (by decide)]; exact Below.refl _ _, rfl, fun hh => hS hh⟩
  · intro _ b x ls hR hS hself hup hdn hk
    have h10 : b.eval (.tmp 10) = .pointer (some ⟨F, 0, none⟩) := Eq.mp (by kernel_rfl) (hk 10 (by decide))
    have lA : ls 10 = false := hdn [4] 10 _ rfl (by kernel_rfl)
    have hb := hS lA
    exact Rs.does_field _ _ h10 (fields_f0 F 0 x) ⟨by rw [if_neg (by decide)]; exact Below.refl _ _, rfl, fun hh => hS hh⟩
  · intro _ b x ls hR hS hself hup hdn hk
    have h11 : b.eval (.tmp 11) = .pointer (some ⟨F, 0, none⟩) := Eq.mp (by kernel_rfl) (hk 11 (by decide))
    have lA : ls 10 = false := hdn [] 10 _ rfl (by kernel_rfl)
    have hb := hS lA
    exact Rg.does_load _ _ h11 (load_sp_rows (cell_below hb (Nat.le_refl _) K0.out)) ⟨by rw [if_neg (by decide)]; exact Below.refl _ _, rfl, fun hh => hS hh⟩
  · intro _ b x ls hR hS hself hup hdn hk
    have h0 : b.eval (.tmp 0) = .pointer (some ⟨F, 0, none⟩) := Eq.mp (by kernel_rfl) (hk 0 (by decide))
    have lA : ls 10 = false := hdn [9, 8, 7, 6] 10 _ rfl (by kernel_rfl)
    have hb := hS lA
    exact Rg.does_move ⟨by rw [if_neg (by decide)]; exact Below.refl _ _, h0, fun hh => hS hh⟩
  · intro _ b x ls hR hS hself hup hdn hk
    have h13 : b.eval (.tmp 13) = .pointer (some ⟨F, 0, none⟩) := Eq.mp (by kernel_rfl) (hk 13 (by decide))
    have lA : ls 10 = false := hdn [9, 8, 7] 10 _ rfl (by kernel_rfl)
    have hb := hS lA
    exact Ap.does_nil _ h13 ⟨by rw [if_neg (by decide)]; exact Below.refl _ _, rfl, fun hh => hS hh⟩
  · intro _ b x ls hR hS hself hup hdn hk
    have h14 : b.eval (.tmp 14) = .pointer (some ⟨F, 0, none⟩) := Eq.mp (by kernel_rfl) (hk 14 (by decide))
    have lA : ls 10 = false := hdn [9, 8] 10 _ rfl (by kernel_rfl)
    have hb := hS lA
    exact Rs.does_field _ _ h14 (fields_f1 F 0 x) ⟨by rw [if_neg (by decide)]; exact Below.refl _ _, rfl, fun hh => hS hh⟩
  · intro _ b x ls hR hS hself hup hdn hk
    have h15 : b.eval (.tmp 15) = .pointer (some ⟨F, 1, none⟩) := Eq.mp (by kernel_rfl) (hk 15 (by decide))
    have lA : ls 10 = false := hdn [9] 10 _ rfl (by kernel_rfl)
    have hb := hS lA
    exact Rg.does_load _ _ h15 (load_row (cell_below hb (Nat.le_refl _) K1.out) (cell_below hb (Nat.le_refl _) K2.out)) ⟨by rw [if_neg (by decide)]; exact Below.refl _ _, rfl, fun hh => hS hh⟩
  · intro _ b x ls hR hS hself hup hdn hk
    have h16 : b.eval (.tmp 16) = rowV st.now := Eq.mp (by kernel_rfl) (hk 16 (by decide))
    have lA : ls 10 = false := hdn [] 10 _ rfl (by kernel_rfl)
    have hb := hS lA
    have hal := (Below.refl x.heap.size x).alloc (Nat.le_refl _) (.cells (rowCells st.now).toArray 23)
    exact Rg.does_build #[(0, rowV st.now)] _ (by simp [h16]) (by unfold rowV; go_simp; rfl) ⟨by rw [if_neg (by decide)]; exact hal, ⟨x.heap.size, rfl, hb.size, heap_alloc_new x _⟩, fun hh => hb.trans (hal.mono hb.size)⟩
  · intro _ b x ls hR hS hself hup hdn hk
    have h12 : b.eval (.tmp 12) = v := Eq.mp (by kernel_rfl) (hk 12 (by decide))
    have h17 : (fun u x => ∃ g, u = .slice (some ⟨g, 0, none⟩) 1 1 ∧ w.heap.size ≤ g ∧ x.heap[g]? = some (.cells (rowCells st.now).toArray 23)) (b.eval (.tmp 17)) x := Eq.mp (by kernel_rfl) (hk 17 (by decide))
    have hb := hS hself
    obtain ⟨g, h2, h3, h4⟩ := h17
    have hown : x.ownsRow B 23 2 v st.l.length (st.l.flatMap rowCells) := ownsRow_below HF.out.2 hb
    obtain ⟨v', w', hrun, hown', hgr, hat⟩ := Ap.run_append_at (P := Try.prog) x B 25 25 25 23 i0 _ 2 32 Try.underlying25 (append_side Try.underlying25) hi hi1 hi2 hi3 rfl (by omega) (by omega) v _ _ hown (b.eval (.tmp 17)) 1 (rowCells st.now) (by rw [h2]; exact Ap.src_cellsAt rowCells_len (fun r u hu => by simp [rowCells] at hu; rcases hu with rfl | rfl <;> rfl) h4 1) (by unfold maxLen; omega) (by omega) (by have := hb.size; omega)
    have hup : Upd F B x w' := Upd.of_grown (by have := hb.size; omega) hgr (fun j hj => (HOw.out j hj).1) (fun j o hj ho => by
      rcases hown.2 with ⟨h7, _⟩ | ⟨g7, cap7, cur7, h7, _, h8, _⟩
      · rw [h7] at hj; cases hj
      · rw [h7] at hj; cases hj; rw [h8] at ho; cases ho; rfl)
    exact Ap.does_append v _ v' w' h12 rfl hrun ⟨by rw [if_pos rfl]; exact hgr, ⟨hown', (Upd.of_below hBw hb).trans hup, (hgr.block F (Nat.lt_of_lt_of_le HFs.out hb.size) (fun e => by have := (HOw.out F e.symm).1; omega)).trans (hb.block F HFs.out)⟩, fun hh => by simp [Rs.upd] at hh⟩
  · intro vals wD ls _ hSD _ hL
    obtain ⟨g0, g1, g2, g3, g4, g5, g6, g7, g8, g9, g10, _⟩ := hL
    obtain ⟨hown, hup, hF⟩ : wD.ownsRow B 23 2 (vals 10) (st.l.length + 1) (st.l.flatMap rowCells ++ rowCells st.now) ∧ Upd F B w wD ∧ wD.heap[F]? = w.heap[F]? := g10
    have g0' : vals 0 = .pointer (some ⟨F, 0, none⟩) := g0
    clear g0 g1 g2 g3 g4 g5 g6 g7 g8 g9
    simp only [Rg.putAll, List.take_succ_cons, List.take_zero, List.drop_succ_cons, List.drop_zero, List.setIfInBounds_toArray, List.set_cons_succ, List.set_cons_zero, g0']
    clear g0'
    generalize vals 10 = u at *
    have HFD := Lib.hid (hF.trans HF.out.1)
    have c0 : wD.cell? ⟨F, 0, none⟩ = some v := by have := HFD.out; simp [World.cell?, this]
    have c1 : wD.cell? ⟨F, 1, none⟩ = some (.string (str (textS st.now))) := by have := HFD.out; simp [World.cell?, this]
    have c2 : wD.cell? ⟨F, 2, none⟩ = some (.string (str (maskS st.now))) := by have := HFD.out; simp [World.cell?, this]
    have c3 : wD.cell? ⟨F, 3, none⟩ = some (.bool st.begun) := by have := HFD.out; simp [World.cell?, this]
    have c4 : wD.cell? ⟨F, 4, none⟩ = some (.bool st.blank) := by have := HFD.out; simp [World.cell?, this]
    have f0 : wD.frozen? ⟨F, 0, none⟩ = false := by have := HFD.out; simp [World.frozen?, this]
    have f1 : wD.frozen? ⟨F, 1, none⟩ = false := by have := HFD.out; simp [World.frozen?, this]
    have f2 : wD.frozen? ⟨F, 2, none⟩ = false := by have := HFD.out; simp [World.frozen?, this]
    have f3 : wD.frozen? ⟨F, 3, none⟩ = false := by have := HFD.out; simp [World.frozen?, this]
    have f4 : wD.frozen? ⟨F, 4, none⟩ = false := by have := HFD.out; simp [World.frozen?, this]
    obtain ⟨au, cu, rfl, _, _, _, _⟩ := ownsRow_slice hown
    have HO := Lib.hid hown
    have HU := Lib.hid hup
    clear hown hup hF
    go_wp2_with fail
    refine bodyPost_end (v := .tuple #[]) (results_none rfl _ _ _) rfl ?_
    refine ⟨rfl, ⟨.slice au (st.l.length + 1) cu, ?_⟩, ((((HU.out.set 0 _).set 1 _).set 2 _).set 3 _).set 4 _⟩
    rw [HE.out]
    refine ⟨set5 _ _ _ _ _ HFD.out, ?_⟩
    have h1 := own_setF (j := 4) (u := .bool b) (own_setF (j := 3) (u := .bool false) (own_setF (j := 2) (u := .string ⟨#[]⟩) (own_setF (j := 1) (u := .string ⟨#[]⟩) (own_setF (j := 0) (u := .slice au (st.l.length + 1) cu) HO.out hFB) hFB) hFB) hFB) hFB
    show World.ownsRow _ B _ 2 (.slice au (st.l.length + 1) cu) (st.l ++ [st.now]).length ((st.l ++ [st.now]).flatMap rowCells)
    rw [List.length_append, List.flatMap_append]
    simpa using h1
end Go.Proofs.Ytiemlgfcmldnoaa
