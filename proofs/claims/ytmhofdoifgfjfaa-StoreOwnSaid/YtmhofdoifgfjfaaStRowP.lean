/-
  State: rows, put. Conditions: zs each contract says.
-/
import Derived.Test.YtmhofdoifgfjfaaStFlat3
set_option linter.unusedVariables false
set_option maxRecDepth 100000
namespace Go.Proofs.Ytmhofdoifgfjfaa
open Go.RowKit Base

/-- What lies where, in blocks below n alone. -/
structure Lies {α : Type} (R : Nat → World → Nat → Nat → α → Prop) : Prop where
  lt : ∀ {n W g off a}, R n W g off a → g < n
  below : ∀ {n W W' g off a}, R n W g off a → Below n W W' → R n W' g off a
def FlatR {α : Type} (V : α → List Value) (n : Nat) (W : World) (g off : Nat) (a : α) : Prop := g < n ∧ CellsAt W g off (V a)
theorem flat_lies {α : Type} (V : α → List Value) : Lies (FlatR V) := ⟨fun h => h.1, fun h hb => ⟨h.1, h.2.below hb h.1⟩⟩
/-- A function that puts what lies so. -/
def PkR {α : Type} (f : Nat) (c : Cd α) (R : Nat → World → Nat → Nat → α → Prop) (P : α → Prop) : Prop :=
  ∀ (W : World) (F : Nat) (v : Value) (o : Nm) (g off : Nat) (a : α), PkI F v o W → P a → R F W g off a → (o ++ c.enc a).length ≤ 100000000 →
    Calls Try.prog f #[.pointer (some ⟨F, 0, none⟩), .pointer (some ⟨g, off, none⟩)] W (PkPost F v o (c.enc a) W)
theorem PkOk.r {α : Type} {f : Nat} {c : Cd α} {V : α → List Value} {P : α → Prop} (h : PkOk f c V P) : PkR f c (FlatR V) P := fun W F v o g off a hp ha hr hl => h W F v o g off a hp hr.1 ha hr.2 hl
/-- A row of such, its slice in a cell. -/
def RowV {α : Type} (k : Nat) (R : Nat → World → Nat → Nat → α → Prop) (n : Nat) (W : World) (u : Value) (zs : List α) : Prop :=
  ∃ (p : Option Addr) (cap : Nat), u = .slice p zs.length cap ∧ (zs = [] ∨ ∃ b o, p = some ⟨b, o, none⟩ ∧ ∀ j (hj : j < zs.length), R n W b (o + j * k) zs[j])
def RowR {α : Type} (k : Nat) (R : Nat → World → Nat → Nat → α → Prop) (n : Nat) (W : World) (g off : Nat) (zs : List α) : Prop :=
  g < n ∧ ∃ u, W.cell? ⟨g, off, none⟩ = some u ∧ RowV k R n W u zs
theorem row_lies {α : Type} {k : Nat} {R : Nat → World → Nat → Nat → α → Prop} (h : Lies R) : Lies (RowR k R) := by
  refine ⟨fun h => h.1, ?_⟩
  rintro n W W' g off zs ⟨h1, u, h2, p, cap, h3, h4⟩ hb
  refine ⟨h1, u, (hb.cell (p := ⟨g, off, none⟩) h1).trans h2, p, cap, h3, h4.imp id ?_⟩
  rintro ⟨b, o, e, h5⟩
  exact ⟨b, o, e, fun j hj => h.below (h5 j hj) hb⟩
theorem row_idx {t e : TypeId} (ht : Try.prog.underlying t = some (.slice e)) (k : Nat) (he : (Try.prog.info? e).map (fun i => i.size) = some k) (b o m cap j : Nat) (hj : j < m) (w' : World) :
    (Instr.indexAt t (.slice (some ⟨b, o, none⟩) m cap) (.int .i64 (j : Int))).run Try.prog w' = .ok (.pointer (some ⟨b, o + j * k, none⟩)) w' := by
  obtain ⟨i, hi, hs⟩ := Option.map_eq_some_iff.1 he
  have h2 : Try.prog.elem t = e := by simp [Program.elem, ht]
  rw [run_indexAt_slice w' t _ m cap .i64 j (by rw [h2]; exact ht), if_pos ⟨by omega, by omega⟩, h2]
  simp [sizeOf, typeInfo, hi, hs, Result.andThen, Addr.add_lit]
theorem encs_snoc {α : Type} (c : Cd α) (l : List α) (x : α) : encs c (l ++ [x]) = encs c l ++ c.enc x := by unfold encs; rw [List.flatMap_append]; simp
theorem encs_take {α : Type} (c : Cd α) (l : List α) (k : Nat) : (encs c (l.take k)).length ≤ (encs c l).length := by
  conv => rhs; rw [← List.take_append_drop k l]
  unfold encs
  rw [List.flatMap_append, List.length_append]
  omega
theorem info_el_string : (Try.prog.info? 9).map (fun i => i.size) = some 1 := by kernel_rfl
theorem load_sl_string {w : World} {ad : Addr} {v : Value} (h : w.cell? ad = some v) : (Instr.loadAt 27 (.pointer (some ad))).run Try.prog w = .ok v w := Ap.load_plainP (by simp [isAgg]) h
set_option maxHeartbeats 1000000 in
theorem row_string_pk0 (W : World) (F : Nat) (v : Value) (o : Nm) (g off : Nat) (zs : List Nm) (h : PkI F v o W) (ha : zs.length ≤ 100000 ∧ ∀ a ∈ zs, TxtP a) (hg : ∀ v' W', WUp F v v' W W' → W'.cell? ⟨g, off, none⟩ = W.cell? ⟨g, off, none⟩)
    (hr : ∃ u, W.cell? ⟨g, off, none⟩ = some u ∧ RowV 1 (FlatR txtV) F W u zs) (hl : (o ++ (rowC txtC).enc zs).length ≤ 100000000) :
    Calls Try.prog 38 #[.pointer (some ⟨F, 0, none⟩), .pointer (some ⟨g, off, none⟩), .func (.func 39) #[] #[]] W (PkPost F v o ((rowC txtC).enc zs) W) := by
  obtain ⟨u, hu, p, cap, rfl, hel⟩ := hr
  have HP := Lib.hid h
  have HA := Lib.hid ha
  have HG := Lib.hid hg
  have HCu := Lib.hid hu
  have HEl := Lib.hid hel
  have HL : Hid ((o ++ (intB (zs.length : Int) ++ encs txtC zs)).length ≤ 100000000) := hl
  have hn := ha.1
  clear h ha hg hel hl
  go_enter Try.func38, Try.ntmps38
  go_upto_region 1 with fail
  clear hu
  obtain ⟨nb, w2, hw2, hnbe, hk4, hbb⟩ : ∃ nb w2, W.alloc (.cells #[.int .i64 (zs.length : Int)] 3) = w2 ∧ W.heap.size = nb ∧ w2.heap[nb]? = some (.cells #[.int .i64 (zs.length : Int)] 3) ∧ Below W.heap.size W w2 :=
    ⟨_, _, rfl, rfl, heap_alloc_new W _, (Below.refl W.heap.size W).alloc (Nat.le_refl _) _⟩
  have HBb := Lib.hid hbb
  have HK4 := Lib.hid hk4
  have HP3 := Lib.hid (HP.out.below hbb)
  have HNl : Hid (nb < w2.heap.size) := (Array.getElem?_eq_some_iff.1 hk4).1
  have HNe : Hid (nb ≠ F) := by have := HP.out.lt; show _ ≠ _; omega
  rw [hw2, hnbe]
  clear hbb hk4 hw2 hnbe
  go_wp2_with fail
  refine (pk_int_calls w2 F v o nb 0 (zs.length : Int) HP3.out (one_cell HK4.out).1 (len_i64 hn) (by have := HL.out; rw [List.length_append] at this ⊢; rw [List.length_append] at this; omega)).mono ?_
  rintro e w3 ⟨rfl, v3, hp3, hu3⟩
  have HP4 := Lib.hid hp3
  have HU4 := Lib.hid ((WUp.of_below HBb.out).trans hu3)
  have HK5 := Lib.hid ((hu3.block nb HNl.out HNe.out (own_apart HP3.out.own HK4.out (by decide))).trans HK4.out)
  clear hp3 hu3
  obtain ⟨⟨c0, c1, c2⟩, f0, f1, f2⟩ := three HP4.out.k
  obtain ⟨y0, y1⟩ := one_cell HK5.out
  go_wp2_with fail
  clear c0 c1 c2 f0 f1 f2 y0 y1
  go_loopw [7] (fun v7 wr => ∃ (k : Nat) (v' : Value), k ≤ zs.length ∧ v7 = .int .i64 k ∧ PkI F v' (o ++ intB (zs.length : Int) ++ encs txtC (zs.take k)) wr ∧ WUp F v v' W wr ∧ wr.heap[nb]? = some (.cells #[.int .i64 (zs.length : Int)] 3)) (fun v7 _ => zs.length - (intOf v7).toNat)
  case atStart => exact ⟨0, v3, Nat.zero_le _, rfl, by rw [List.take_zero, show encs txtC [] = [] from rfl, List.append_nil]; exact HP4.out, HU4.out, HK5.out⟩
  case round =>
    obtain ⟨k, v', hk, rfl, hp, hu, hnk⟩ := hrel
    have HP2 := Lib.hid hp
    have HU := Lib.hid hu
    have HK := Lib.hid hnk
    obtain ⟨⟨c0, c1, c2⟩, f0, f1, f2⟩ := three hp.k
    obtain ⟨y0, y1⟩ := one_cell hnk
    clear hp hu hnk
    have hlow := HU.out.low HP.out.hi (Nat.le_refl F) (Nat.le_of_lt HP.out.lt)
    have cu := (HG.out _ _ HU.out).trans HCu.out
    have HLow := Lib.hid hlow
    clear hlow
    by_cases hlt : k < zs.length
    · obtain ⟨b, ro, rfl, hel⟩ := HEl.out.resolve_left (fun e => by rw [e] at hlt; exact absurd hlt (Nat.not_lt_zero _))
      have HX : Hid ((FlatR txtV) F wr b (ro + k) (zs[k]'hlt)) := by
        have h9 := (flat_lies txtV).below (hel k hlt) HLow.out
        show (FlatR txtV) F wr b (ro + k) (zs[k]'hlt)
        first | exact h9 | (rw [Nat.mul_one] at h9; exact h9)
      have HPz : Hid (TxtP zs[k]) := HA.out.2 _ (List.getElem_mem hlt)
      have hx := fun W => row_idx Try.underlying27 1 info_el_string b ro zs.length cap k hlt W
      have HT := Lib.hid (List.take_succ_eq_append_getElem hlt)
      have HL2 : Hid ((o ++ intB (zs.length : Int) ++ encs txtC (zs.take k) ++ (txtC).enc (zs[k]'hlt)).length ≤ 100000000) := by
        show _ ≤ _
        refine Nat.le_trans ?_ HL.out
        rw [List.append_assoc, ← encs_snoc, ← List.take_succ_eq_append_getElem hlt, List.append_assoc, List.length_append, List.length_append, List.length_append, List.length_append]
        have := encs_take txtC zs (k + 1)
        omega
      clear hel
      generalize zs[k]'hlt = z at *
      obtain ⟨o2, ho2⟩ : ∃ o2, o ++ intB (zs.length : Int) ++ encs txtC (zs.take k) = o2 := ⟨_, rfl⟩
      have HO2 := Lib.hid ho2
      rw [ho2] at HP2 HL2
      clear ho2
      have u3 : decide (k < zs.length) = true := decide_eq_true (by omega)
      have u1 : decide ((k : Int) < (zs.length : Int)) = true := decide_eq_true (by omega)
      have u2 : (k : Int) < (zs.length : Int) := by omega
      go_wp2_with fail
      refine (wrong_calls wr F 0 c2).mono ?_
      rintro r w' ⟨rfl, rfl⟩
      rw [show decide ((0 : Int) ≠ 0) = false from rfl]
      go_wp2_with fail
      refine (text_pk.r wr F v' o2 b _ z HP2.out HPz.out HX.out HL2.out).mono ?_
      rintro e w4 ⟨rfl, v4, hp4, hu4⟩
      have HP5 := Lib.hid hp4
      have HU5 := Lib.hid (HU.out.trans hu4)
      have HK6 := Lib.hid ((hu4.block nb (Array.getElem?_eq_some_iff.1 HK.out).1 HNe.out (own_apart HP2.out.own HK.out (by decide))).trans HK.out)
      clear hp4 hu4 c0 c1 c2 f0 f1 f2 y0 y1 cu hx
      go_wp2_with fail
      go_roundw
      case rel => exact ⟨k + 1, v4, by omega, by go_num, by rw [HT.out, encs_snoc, ← List.append_assoc, HO2.out]; exact HP5.out, HU5.out, HK6.out⟩
      case measure => simp [intOf]; omega
    · obtain rfl : k = zs.length := by omega
      rw [List.take_length] at HP2
      have u3 : decide (zs.length < zs.length) = false := decide_eq_false (by omega)
      have u1 : decide ((zs.length : Int) < (zs.length : Int)) = false := decide_eq_false (by omega)
      have u2 : ¬ ((zs.length : Int) < (zs.length : Int)) := by omega
      go_wp2_with fail
      refine bodyPost_end (v := .tuple #[]) (results_none rfl _ _ _) rfl ?_
      refine ⟨rfl, v', ?_, HU.out⟩
      have := HP2.out
      rwa [List.append_assoc] at this
theorem row_string_pk (W : World) (F : Nat) (v : Value) (o : Nm) (g off : Nat) (zs : List Nm) (h : PkI F v o W) (ha : zs.length ≤ 100000 ∧ ∀ a ∈ zs, TxtP a) (hr : RowR 1 (FlatR txtV) F W g off zs) (hl : (o ++ (rowC txtC).enc zs).length ≤ 100000000) :
    Calls Try.prog 38 #[.pointer (some ⟨F, 0, none⟩), .pointer (some ⟨g, off, none⟩), .func (.func 39) #[] #[]] W (PkPost F v o ((rowC txtC).enc zs) W) :=
  row_string_pk0 W F v o g off zs h ha (fun v' W' hu => ((hu.low h.hi (Nat.le_refl F) (Nat.le_of_lt h.lt)).cell (p := ⟨g, off, none⟩) hr.1)) hr.2 hl

theorem info_el_var : (Try.prog.info? 155).map (fun i => i.size) = some 2 := by kernel_rfl
theorem load_sl_var {w : World} {ad : Addr} {v : Value} (h : w.cell? ad = some v) : (Instr.loadAt 26 (.pointer (some ad))).run Try.prog w = .ok v w := Ap.load_plainP (by simp [isAgg]) h
set_option maxHeartbeats 1000000 in
theorem row_var_pk0 (W : World) (F : Nat) (v : Value) (o : Nm) (g off : Nat) (zs : List VarD) (h : PkI F v o W) (ha : zs.length ≤ 100000 ∧ ∀ a ∈ zs, VarP a) (hg : ∀ v' W', WUp F v v' W W' → W'.cell? ⟨g, off, none⟩ = W.cell? ⟨g, off, none⟩)
    (hr : ∃ u, W.cell? ⟨g, off, none⟩ = some u ∧ RowV 2 (FlatR varV) F W u zs) (hl : (o ++ (rowC varC).enc zs).length ≤ 100000000) :
    Calls Try.prog 69 #[.pointer (some ⟨F, 0, none⟩), .pointer (some ⟨g, off, none⟩), .func (.func 70) #[] #[]] W (PkPost F v o ((rowC varC).enc zs) W) := by
  obtain ⟨u, hu, p, cap, rfl, hel⟩ := hr
  have HP := Lib.hid h
  have HA := Lib.hid ha
  have HG := Lib.hid hg
  have HCu := Lib.hid hu
  have HEl := Lib.hid hel
  have HL : Hid ((o ++ (intB (zs.length : Int) ++ encs varC zs)).length ≤ 100000000) := hl
  have hn := ha.1
  clear h ha hg hel hl
  go_enter Try.func69, Try.ntmps69
  go_upto_region 1 with fail
  clear hu
  obtain ⟨nb, w2, hw2, hnbe, hk4, hbb⟩ : ∃ nb w2, W.alloc (.cells #[.int .i64 (zs.length : Int)] 3) = w2 ∧ W.heap.size = nb ∧ w2.heap[nb]? = some (.cells #[.int .i64 (zs.length : Int)] 3) ∧ Below W.heap.size W w2 :=
    ⟨_, _, rfl, rfl, heap_alloc_new W _, (Below.refl W.heap.size W).alloc (Nat.le_refl _) _⟩
  have HBb := Lib.hid hbb
  have HK4 := Lib.hid hk4
  have HP3 := Lib.hid (HP.out.below hbb)
  have HNl : Hid (nb < w2.heap.size) := (Array.getElem?_eq_some_iff.1 hk4).1
  have HNe : Hid (nb ≠ F) := by have := HP.out.lt; show _ ≠ _; omega
  rw [hw2, hnbe]
  clear hbb hk4 hw2 hnbe
  go_wp2_with fail
  refine (pk_int_calls w2 F v o nb 0 (zs.length : Int) HP3.out (one_cell HK4.out).1 (len_i64 hn) (by have := HL.out; rw [List.length_append] at this ⊢; rw [List.length_append] at this; omega)).mono ?_
  rintro e w3 ⟨rfl, v3, hp3, hu3⟩
  have HP4 := Lib.hid hp3
  have HU4 := Lib.hid ((WUp.of_below HBb.out).trans hu3)
  have HK5 := Lib.hid ((hu3.block nb HNl.out HNe.out (own_apart HP3.out.own HK4.out (by decide))).trans HK4.out)
  clear hp3 hu3
  obtain ⟨⟨c0, c1, c2⟩, f0, f1, f2⟩ := three HP4.out.k
  obtain ⟨y0, y1⟩ := one_cell HK5.out
  go_wp2_with fail
  clear c0 c1 c2 f0 f1 f2 y0 y1
  go_loopw [7] (fun v7 wr => ∃ (k : Nat) (v' : Value), k ≤ zs.length ∧ v7 = .int .i64 k ∧ PkI F v' (o ++ intB (zs.length : Int) ++ encs varC (zs.take k)) wr ∧ WUp F v v' W wr ∧ wr.heap[nb]? = some (.cells #[.int .i64 (zs.length : Int)] 3)) (fun v7 _ => zs.length - (intOf v7).toNat)
  case atStart => exact ⟨0, v3, Nat.zero_le _, rfl, by rw [List.take_zero, show encs varC [] = [] from rfl, List.append_nil]; exact HP4.out, HU4.out, HK5.out⟩
  case round =>
    obtain ⟨k, v', hk, rfl, hp, hu, hnk⟩ := hrel
    have HP2 := Lib.hid hp
    have HU := Lib.hid hu
    have HK := Lib.hid hnk
    obtain ⟨⟨c0, c1, c2⟩, f0, f1, f2⟩ := three hp.k
    obtain ⟨y0, y1⟩ := one_cell hnk
    clear hp hu hnk
    have hlow := HU.out.low HP.out.hi (Nat.le_refl F) (Nat.le_of_lt HP.out.lt)
    have cu := (HG.out _ _ HU.out).trans HCu.out
    have HLow := Lib.hid hlow
    clear hlow
    by_cases hlt : k < zs.length
    · obtain ⟨b, ro, rfl, hel⟩ := HEl.out.resolve_left (fun e => by rw [e] at hlt; exact absurd hlt (Nat.not_lt_zero _))
      have HX : Hid ((FlatR varV) F wr b (ro + k * 2) (zs[k]'hlt)) := by
        have h9 := (flat_lies varV).below (hel k hlt) HLow.out
        show (FlatR varV) F wr b (ro + k * 2) (zs[k]'hlt)
        first | exact h9 | (rw [Nat.mul_one] at h9; exact h9)
      have HPz : Hid (VarP zs[k]) := HA.out.2 _ (List.getElem_mem hlt)
      have hx := fun W => row_idx Try.underlying26 2 info_el_var b ro zs.length cap k hlt W
      have HT := Lib.hid (List.take_succ_eq_append_getElem hlt)
      have HL2 : Hid ((o ++ intB (zs.length : Int) ++ encs varC (zs.take k) ++ (varC).enc (zs[k]'hlt)).length ≤ 100000000) := by
        show _ ≤ _
        refine Nat.le_trans ?_ HL.out
        rw [List.append_assoc, ← encs_snoc, ← List.take_succ_eq_append_getElem hlt, List.append_assoc, List.length_append, List.length_append, List.length_append, List.length_append]
        have := encs_take varC zs (k + 1)
        omega
      clear hel
      generalize zs[k]'hlt = z at *
      obtain ⟨o2, ho2⟩ : ∃ o2, o ++ intB (zs.length : Int) ++ encs varC (zs.take k) = o2 := ⟨_, rfl⟩
      have HO2 := Lib.hid ho2
      rw [ho2] at HP2 HL2
      clear ho2
      have u3 : decide (k < zs.length) = true := decide_eq_true (by omega)
      have u1 : decide ((k : Int) < (zs.length : Int)) = true := decide_eq_true (by omega)
      have u2 : (k : Int) < (zs.length : Int) := by omega
      go_wp2_with fail
      refine (wrong_calls wr F 0 c2).mono ?_
      rintro r w' ⟨rfl, rfl⟩
      rw [show decide ((0 : Int) ≠ 0) = false from rfl]
      go_wp2_with fail
      refine (bound_pk.r wr F v' o2 b _ z HP2.out HPz.out HX.out HL2.out).mono ?_
      rintro e w4 ⟨rfl, v4, hp4, hu4⟩
      have HP5 := Lib.hid hp4
      have HU5 := Lib.hid (HU.out.trans hu4)
      have HK6 := Lib.hid ((hu4.block nb (Array.getElem?_eq_some_iff.1 HK.out).1 HNe.out (own_apart HP2.out.own HK.out (by decide))).trans HK.out)
      clear hp4 hu4 c0 c1 c2 f0 f1 f2 y0 y1 cu hx
      go_wp2_with fail
      go_roundw
      case rel => exact ⟨k + 1, v4, by omega, by go_num, by rw [HT.out, encs_snoc, ← List.append_assoc, HO2.out]; exact HP5.out, HU5.out, HK6.out⟩
      case measure => simp [intOf]; omega
    · obtain rfl : k = zs.length := by omega
      rw [List.take_length] at HP2
      have u3 : decide (zs.length < zs.length) = false := decide_eq_false (by omega)
      have u1 : decide ((zs.length : Int) < (zs.length : Int)) = false := decide_eq_false (by omega)
      have u2 : ¬ ((zs.length : Int) < (zs.length : Int)) := by omega
      go_wp2_with fail
      refine bodyPost_end (v := .tuple #[]) (results_none rfl _ _ _) rfl ?_
      refine ⟨rfl, v', ?_, HU.out⟩
      have := HP2.out
      rwa [List.append_assoc] at this
theorem row_var_pk (W : World) (F : Nat) (v : Value) (o : Nm) (g off : Nat) (zs : List VarD) (h : PkI F v o W) (ha : zs.length ≤ 100000 ∧ ∀ a ∈ zs, VarP a) (hr : RowR 2 (FlatR varV) F W g off zs) (hl : (o ++ (rowC varC).enc zs).length ≤ 100000000) :
    Calls Try.prog 69 #[.pointer (some ⟨F, 0, none⟩), .pointer (some ⟨g, off, none⟩), .func (.func 70) #[] #[]] W (PkPost F v o ((rowC varC).enc zs) W) :=
  row_var_pk0 W F v o g off zs h ha (fun v' W' hu => ((hu.low h.hi (Nat.le_refl F) (Nat.le_of_lt h.lt)).cell (p := ⟨g, off, none⟩) hr.1)) hr.2 hl

theorem info_el_fn : (Try.prog.info? 121).map (fun i => i.size) = some 3 := by kernel_rfl
theorem load_sl_fn {w : World} {ad : Addr} {v : Value} (h : w.cell? ad = some v) : (Instr.loadAt 30 (.pointer (some ad))).run Try.prog w = .ok v w := Ap.load_plainP (by simp [isAgg]) h
set_option maxHeartbeats 1000000 in
theorem row_fn_pk0 (W : World) (F : Nat) (v : Value) (o : Nm) (g off : Nat) (zs : List FnD) (h : PkI F v o W) (ha : zs.length ≤ 100000 ∧ ∀ a ∈ zs, FnP a) (hg : ∀ v' W', WUp F v v' W W' → W'.cell? ⟨g, off, none⟩ = W.cell? ⟨g, off, none⟩)
    (hr : ∃ u, W.cell? ⟨g, off, none⟩ = some u ∧ RowV 3 (FlatR fnV) F W u zs) (hl : (o ++ (rowC fnC).enc zs).length ≤ 100000000) :
    Calls Try.prog 54 #[.pointer (some ⟨F, 0, none⟩), .pointer (some ⟨g, off, none⟩), .func (.func 55) #[] #[]] W (PkPost F v o ((rowC fnC).enc zs) W) := by
  obtain ⟨u, hu, p, cap, rfl, hel⟩ := hr
  have HP := Lib.hid h
  have HA := Lib.hid ha
  have HG := Lib.hid hg
  have HCu := Lib.hid hu
  have HEl := Lib.hid hel
  have HL : Hid ((o ++ (intB (zs.length : Int) ++ encs fnC zs)).length ≤ 100000000) := hl
  have hn := ha.1
  clear h ha hg hel hl
  go_enter Try.func54, Try.ntmps54
  go_upto_region 1 with fail
  clear hu
  obtain ⟨nb, w2, hw2, hnbe, hk4, hbb⟩ : ∃ nb w2, W.alloc (.cells #[.int .i64 (zs.length : Int)] 3) = w2 ∧ W.heap.size = nb ∧ w2.heap[nb]? = some (.cells #[.int .i64 (zs.length : Int)] 3) ∧ Below W.heap.size W w2 :=
    ⟨_, _, rfl, rfl, heap_alloc_new W _, (Below.refl W.heap.size W).alloc (Nat.le_refl _) _⟩
  have HBb := Lib.hid hbb
  have HK4 := Lib.hid hk4
  have HP3 := Lib.hid (HP.out.below hbb)
  have HNl : Hid (nb < w2.heap.size) := (Array.getElem?_eq_some_iff.1 hk4).1
  have HNe : Hid (nb ≠ F) := by have := HP.out.lt; show _ ≠ _; omega
  rw [hw2, hnbe]
  clear hbb hk4 hw2 hnbe
  go_wp2_with fail
  refine (pk_int_calls w2 F v o nb 0 (zs.length : Int) HP3.out (one_cell HK4.out).1 (len_i64 hn) (by have := HL.out; rw [List.length_append] at this ⊢; rw [List.length_append] at this; omega)).mono ?_
  rintro e w3 ⟨rfl, v3, hp3, hu3⟩
  have HP4 := Lib.hid hp3
  have HU4 := Lib.hid ((WUp.of_below HBb.out).trans hu3)
  have HK5 := Lib.hid ((hu3.block nb HNl.out HNe.out (own_apart HP3.out.own HK4.out (by decide))).trans HK4.out)
  clear hp3 hu3
  obtain ⟨⟨c0, c1, c2⟩, f0, f1, f2⟩ := three HP4.out.k
  obtain ⟨y0, y1⟩ := one_cell HK5.out
  go_wp2_with fail
  clear c0 c1 c2 f0 f1 f2 y0 y1
  go_loopw [7] (fun v7 wr => ∃ (k : Nat) (v' : Value), k ≤ zs.length ∧ v7 = .int .i64 k ∧ PkI F v' (o ++ intB (zs.length : Int) ++ encs fnC (zs.take k)) wr ∧ WUp F v v' W wr ∧ wr.heap[nb]? = some (.cells #[.int .i64 (zs.length : Int)] 3)) (fun v7 _ => zs.length - (intOf v7).toNat)
  case atStart => exact ⟨0, v3, Nat.zero_le _, rfl, by rw [List.take_zero, show encs fnC [] = [] from rfl, List.append_nil]; exact HP4.out, HU4.out, HK5.out⟩
  case round =>
    obtain ⟨k, v', hk, rfl, hp, hu, hnk⟩ := hrel
    have HP2 := Lib.hid hp
    have HU := Lib.hid hu
    have HK := Lib.hid hnk
    obtain ⟨⟨c0, c1, c2⟩, f0, f1, f2⟩ := three hp.k
    obtain ⟨y0, y1⟩ := one_cell hnk
    clear hp hu hnk
    have hlow := HU.out.low HP.out.hi (Nat.le_refl F) (Nat.le_of_lt HP.out.lt)
    have cu := (HG.out _ _ HU.out).trans HCu.out
    have HLow := Lib.hid hlow
    clear hlow
    by_cases hlt : k < zs.length
    · obtain ⟨b, ro, rfl, hel⟩ := HEl.out.resolve_left (fun e => by rw [e] at hlt; exact absurd hlt (Nat.not_lt_zero _))
      have HX : Hid ((FlatR fnV) F wr b (ro + k * 3) (zs[k]'hlt)) := by
        have h9 := (flat_lies fnV).below (hel k hlt) HLow.out
        show (FlatR fnV) F wr b (ro + k * 3) (zs[k]'hlt)
        first | exact h9 | (rw [Nat.mul_one] at h9; exact h9)
      have HPz : Hid (FnP zs[k]) := HA.out.2 _ (List.getElem_mem hlt)
      have hx := fun W => row_idx Try.underlying30 3 info_el_fn b ro zs.length cap k hlt W
      have HT := Lib.hid (List.take_succ_eq_append_getElem hlt)
      have HL2 : Hid ((o ++ intB (zs.length : Int) ++ encs fnC (zs.take k) ++ (fnC).enc (zs[k]'hlt)).length ≤ 100000000) := by
        show _ ≤ _
        refine Nat.le_trans ?_ HL.out
        rw [List.append_assoc, ← encs_snoc, ← List.take_succ_eq_append_getElem hlt, List.append_assoc, List.length_append, List.length_append, List.length_append, List.length_append]
        have := encs_take fnC zs (k + 1)
        omega
      clear hel
      generalize zs[k]'hlt = z at *
      obtain ⟨o2, ho2⟩ : ∃ o2, o ++ intB (zs.length : Int) ++ encs fnC (zs.take k) = o2 := ⟨_, rfl⟩
      have HO2 := Lib.hid ho2
      rw [ho2] at HP2 HL2
      clear ho2
      have u3 : decide (k < zs.length) = true := decide_eq_true (by omega)
      have u1 : decide ((k : Int) < (zs.length : Int)) = true := decide_eq_true (by omega)
      have u2 : (k : Int) < (zs.length : Int) := by omega
      go_wp2_with fail
      refine (wrong_calls wr F 0 c2).mono ?_
      rintro r w' ⟨rfl, rfl⟩
      rw [show decide ((0 : Int) ≠ 0) = false from rfl]
      go_wp2_with fail
      refine (fn_pk.r wr F v' o2 b _ z HP2.out HPz.out HX.out HL2.out).mono ?_
      rintro e w4 ⟨rfl, v4, hp4, hu4⟩
      have HP5 := Lib.hid hp4
      have HU5 := Lib.hid (HU.out.trans hu4)
      have HK6 := Lib.hid ((hu4.block nb (Array.getElem?_eq_some_iff.1 HK.out).1 HNe.out (own_apart HP2.out.own HK.out (by decide))).trans HK.out)
      clear hp4 hu4 c0 c1 c2 f0 f1 f2 y0 y1 cu hx
      go_wp2_with fail
      go_roundw
      case rel => exact ⟨k + 1, v4, by omega, by go_num, by rw [HT.out, encs_snoc, ← List.append_assoc, HO2.out]; exact HP5.out, HU5.out, HK6.out⟩
      case measure => simp [intOf]; omega
    · obtain rfl : k = zs.length := by omega
      rw [List.take_length] at HP2
      have u3 : decide (zs.length < zs.length) = false := decide_eq_false (by omega)
      have u1 : decide ((zs.length : Int) < (zs.length : Int)) = false := decide_eq_false (by omega)
      have u2 : ¬ ((zs.length : Int) < (zs.length : Int)) := by omega
      go_wp2_with fail
      refine bodyPost_end (v := .tuple #[]) (results_none rfl _ _ _) rfl ?_
      refine ⟨rfl, v', ?_, HU.out⟩
      have := HP2.out
      rwa [List.append_assoc] at this
theorem row_fn_pk (W : World) (F : Nat) (v : Value) (o : Nm) (g off : Nat) (zs : List FnD) (h : PkI F v o W) (ha : zs.length ≤ 100000 ∧ ∀ a ∈ zs, FnP a) (hr : RowR 3 (FlatR fnV) F W g off zs) (hl : (o ++ (rowC fnC).enc zs).length ≤ 100000000) :
    Calls Try.prog 54 #[.pointer (some ⟨F, 0, none⟩), .pointer (some ⟨g, off, none⟩), .func (.func 55) #[] #[]] W (PkPost F v o ((rowC fnC).enc zs) W) :=
  row_fn_pk0 W F v o g off zs h ha (fun v' W' hu => ((hu.low h.hi (Nat.le_refl F) (Nat.le_of_lt h.lt)).cell (p := ⟨g, off, none⟩) hr.1)) hr.2 hl

theorem info_el_trap : (Try.prog.info? 126).map (fun i => i.size) = some 2 := by kernel_rfl
theorem load_sl_trap {w : World} {ad : Addr} {v : Value} (h : w.cell? ad = some v) : (Instr.loadAt 31 (.pointer (some ad))).run Try.prog w = .ok v w := Ap.load_plainP (by simp [isAgg]) h
set_option maxHeartbeats 1000000 in
theorem row_trap_pk0 (W : World) (F : Nat) (v : Value) (o : Nm) (g off : Nat) (zs : List TrapD) (h : PkI F v o W) (ha : zs.length ≤ 100000 ∧ ∀ a ∈ zs, TrapP a) (hg : ∀ v' W', WUp F v v' W W' → W'.cell? ⟨g, off, none⟩ = W.cell? ⟨g, off, none⟩)
    (hr : ∃ u, W.cell? ⟨g, off, none⟩ = some u ∧ RowV 2 (FlatR trapV) F W u zs) (hl : (o ++ (rowC trapC).enc zs).length ≤ 100000000) :
    Calls Try.prog 56 #[.pointer (some ⟨F, 0, none⟩), .pointer (some ⟨g, off, none⟩), .func (.func 57) #[] #[]] W (PkPost F v o ((rowC trapC).enc zs) W) := by
  obtain ⟨u, hu, p, cap, rfl, hel⟩ := hr
  have HP := Lib.hid h
  have HA := Lib.hid ha
  have HG := Lib.hid hg
  have HCu := Lib.hid hu
  have HEl := Lib.hid hel
  have HL : Hid ((o ++ (intB (zs.length : Int) ++ encs trapC zs)).length ≤ 100000000) := hl
  have hn := ha.1
  clear h ha hg hel hl
  go_enter Try.func56, Try.ntmps56
  go_upto_region 1 with fail
  clear hu
  obtain ⟨nb, w2, hw2, hnbe, hk4, hbb⟩ : ∃ nb w2, W.alloc (.cells #[.int .i64 (zs.length : Int)] 3) = w2 ∧ W.heap.size = nb ∧ w2.heap[nb]? = some (.cells #[.int .i64 (zs.length : Int)] 3) ∧ Below W.heap.size W w2 :=
    ⟨_, _, rfl, rfl, heap_alloc_new W _, (Below.refl W.heap.size W).alloc (Nat.le_refl _) _⟩
  have HBb := Lib.hid hbb
  have HK4 := Lib.hid hk4
  have HP3 := Lib.hid (HP.out.below hbb)
  have HNl : Hid (nb < w2.heap.size) := (Array.getElem?_eq_some_iff.1 hk4).1
  have HNe : Hid (nb ≠ F) := by have := HP.out.lt; show _ ≠ _; omega
  rw [hw2, hnbe]
  clear hbb hk4 hw2 hnbe
  go_wp2_with fail
  refine (pk_int_calls w2 F v o nb 0 (zs.length : Int) HP3.out (one_cell HK4.out).1 (len_i64 hn) (by have := HL.out; rw [List.length_append] at this ⊢; rw [List.length_append] at this; omega)).mono ?_
  rintro e w3 ⟨rfl, v3, hp3, hu3⟩
  have HP4 := Lib.hid hp3
  have HU4 := Lib.hid ((WUp.of_below HBb.out).trans hu3)
  have HK5 := Lib.hid ((hu3.block nb HNl.out HNe.out (own_apart HP3.out.own HK4.out (by decide))).trans HK4.out)
  clear hp3 hu3
  obtain ⟨⟨c0, c1, c2⟩, f0, f1, f2⟩ := three HP4.out.k
  obtain ⟨y0, y1⟩ := one_cell HK5.out
  go_wp2_with fail
  clear c0 c1 c2 f0 f1 f2 y0 y1
  go_loopw [7] (fun v7 wr => ∃ (k : Nat) (v' : Value), k ≤ zs.length ∧ v7 = .int .i64 k ∧ PkI F v' (o ++ intB (zs.length : Int) ++ encs trapC (zs.take k)) wr ∧ WUp F v v' W wr ∧ wr.heap[nb]? = some (.cells #[.int .i64 (zs.length : Int)] 3)) (fun v7 _ => zs.length - (intOf v7).toNat)
  case atStart => exact ⟨0, v3, Nat.zero_le _, rfl, by rw [List.take_zero, show encs trapC [] = [] from rfl, List.append_nil]; exact HP4.out, HU4.out, HK5.out⟩
  case round =>
    obtain ⟨k, v', hk, rfl, hp, hu, hnk⟩ := hrel
    have HP2 := Lib.hid hp
    have HU := Lib.hid hu
    have HK := Lib.hid hnk
    obtain ⟨⟨c0, c1, c2⟩, f0, f1, f2⟩ := three hp.k
    obtain ⟨y0, y1⟩ := one_cell hnk
    clear hp hu hnk
    have hlow := HU.out.low HP.out.hi (Nat.le_refl F) (Nat.le_of_lt HP.out.lt)
    have cu := (HG.out _ _ HU.out).trans HCu.out
    have HLow := Lib.hid hlow
    clear hlow
    by_cases hlt : k < zs.length
    · obtain ⟨b, ro, rfl, hel⟩ := HEl.out.resolve_left (fun e => by rw [e] at hlt; exact absurd hlt (Nat.not_lt_zero _))
      have HX : Hid ((FlatR trapV) F wr b (ro + k * 2) (zs[k]'hlt)) := by
        have h9 := (flat_lies trapV).below (hel k hlt) HLow.out
        show (FlatR trapV) F wr b (ro + k * 2) (zs[k]'hlt)
        first | exact h9 | (rw [Nat.mul_one] at h9; exact h9)
      have HPz : Hid (TrapP zs[k]) := HA.out.2 _ (List.getElem_mem hlt)
      have hx := fun W => row_idx Try.underlying31 2 info_el_trap b ro zs.length cap k hlt W
      have HT := Lib.hid (List.take_succ_eq_append_getElem hlt)
      have HL2 : Hid ((o ++ intB (zs.length : Int) ++ encs trapC (zs.take k) ++ (trapC).enc (zs[k]'hlt)).length ≤ 100000000) := by
        show _ ≤ _
        refine Nat.le_trans ?_ HL.out
        rw [List.append_assoc, ← encs_snoc, ← List.take_succ_eq_append_getElem hlt, List.append_assoc, List.length_append, List.length_append, List.length_append, List.length_append]
        have := encs_take trapC zs (k + 1)
        omega
      clear hel
      generalize zs[k]'hlt = z at *
      obtain ⟨o2, ho2⟩ : ∃ o2, o ++ intB (zs.length : Int) ++ encs trapC (zs.take k) = o2 := ⟨_, rfl⟩
      have HO2 := Lib.hid ho2
      rw [ho2] at HP2 HL2
      clear ho2
      have u3 : decide (k < zs.length) = true := decide_eq_true (by omega)
      have u1 : decide ((k : Int) < (zs.length : Int)) = true := decide_eq_true (by omega)
      have u2 : (k : Int) < (zs.length : Int) := by omega
      go_wp2_with fail
      refine (wrong_calls wr F 0 c2).mono ?_
      rintro r w' ⟨rfl, rfl⟩
      rw [show decide ((0 : Int) ≠ 0) = false from rfl]
      go_wp2_with fail
      refine (trap_pk.r wr F v' o2 b _ z HP2.out HPz.out HX.out HL2.out).mono ?_
      rintro e w4 ⟨rfl, v4, hp4, hu4⟩
      have HP5 := Lib.hid hp4
      have HU5 := Lib.hid (HU.out.trans hu4)
      have HK6 := Lib.hid ((hu4.block nb (Array.getElem?_eq_some_iff.1 HK.out).1 HNe.out (own_apart HP2.out.own HK.out (by decide))).trans HK.out)
      clear hp4 hu4 c0 c1 c2 f0 f1 f2 y0 y1 cu hx
      go_wp2_with fail
      go_roundw
      case rel => exact ⟨k + 1, v4, by omega, by go_num, by rw [HT.out, encs_snoc, ← List.append_assoc, HO2.out]; exact HP5.out, HU5.out, HK6.out⟩
      case measure => simp [intOf]; omega
    · obtain rfl : k = zs.length := by omega
      rw [List.take_length] at HP2
      have u3 : decide (zs.length < zs.length) = false := decide_eq_false (by omega)
      have u1 : decide ((zs.length : Int) < (zs.length : Int)) = false := decide_eq_false (by omega)
      have u2 : ¬ ((zs.length : Int) < (zs.length : Int)) := by omega
      go_wp2_with fail
      refine bodyPost_end (v := .tuple #[]) (results_none rfl _ _ _) rfl ?_
      refine ⟨rfl, v', ?_, HU.out⟩
      have := HP2.out
      rwa [List.append_assoc] at this
theorem row_trap_pk (W : World) (F : Nat) (v : Value) (o : Nm) (g off : Nat) (zs : List TrapD) (h : PkI F v o W) (ha : zs.length ≤ 100000 ∧ ∀ a ∈ zs, TrapP a) (hr : RowR 2 (FlatR trapV) F W g off zs) (hl : (o ++ (rowC trapC).enc zs).length ≤ 100000000) :
    Calls Try.prog 56 #[.pointer (some ⟨F, 0, none⟩), .pointer (some ⟨g, off, none⟩), .func (.func 57) #[] #[]] W (PkPost F v o ((rowC trapC).enc zs) W) :=
  row_trap_pk0 W F v o g off zs h ha (fun v' W' hu => ((hu.low h.hi (Nat.le_refl F) (Nat.le_of_lt h.lt)).cell (p := ⟨g, off, none⟩) hr.1)) hr.2 hl

theorem info_el_pair : (Try.prog.info? 131).map (fun i => i.size) = some 2 := by kernel_rfl
theorem load_sl_pair {w : World} {ad : Addr} {v : Value} (h : w.cell? ad = some v) : (Instr.loadAt 32 (.pointer (some ad))).run Try.prog w = .ok v w := Ap.load_plainP (by simp [isAgg]) h
set_option maxHeartbeats 1000000 in
theorem row_pair_pk0 (W : World) (F : Nat) (v : Value) (o : Nm) (g off : Nat) (zs : List PairD) (h : PkI F v o W) (ha : zs.length ≤ 100000 ∧ ∀ a ∈ zs, PairP a) (hg : ∀ v' W', WUp F v v' W W' → W'.cell? ⟨g, off, none⟩ = W.cell? ⟨g, off, none⟩)
    (hr : ∃ u, W.cell? ⟨g, off, none⟩ = some u ∧ RowV 2 (FlatR prV) F W u zs) (hl : (o ++ (rowC prC).enc zs).length ≤ 100000000) :
    Calls Try.prog 58 #[.pointer (some ⟨F, 0, none⟩), .pointer (some ⟨g, off, none⟩), .func (.func 59) #[] #[]] W (PkPost F v o ((rowC prC).enc zs) W) := by
  obtain ⟨u, hu, p, cap, rfl, hel⟩ := hr
  have HP := Lib.hid h
  have HA := Lib.hid ha
  have HG := Lib.hid hg
  have HCu := Lib.hid hu
  have HEl := Lib.hid hel
  have HL : Hid ((o ++ (intB (zs.length : Int) ++ encs prC zs)).length ≤ 100000000) := hl
  have hn := ha.1
  clear h ha hg hel hl
  go_enter Try.func58, Try.ntmps58
  go_upto_region 1 with fail
  clear hu
  obtain ⟨nb, w2, hw2, hnbe, hk4, hbb⟩ : ∃ nb w2, W.alloc (.cells #[.int .i64 (zs.length : Int)] 3) = w2 ∧ W.heap.size = nb ∧ w2.heap[nb]? = some (.cells #[.int .i64 (zs.length : Int)] 3) ∧ Below W.heap.size W w2 :=
    ⟨_, _, rfl, rfl, heap_alloc_new W _, (Below.refl W.heap.size W).alloc (Nat.le_refl _) _⟩
  have HBb := Lib.hid hbb
  have HK4 := Lib.hid hk4
  have HP3 := Lib.hid (HP.out.below hbb)
  have HNl : Hid (nb < w2.heap.size) := (Array.getElem?_eq_some_iff.1 hk4).1
  have HNe : Hid (nb ≠ F) := by have := HP.out.lt; show _ ≠ _; omega
  rw [hw2, hnbe]
  clear hbb hk4 hw2 hnbe
  go_wp2_with fail
  refine (pk_int_calls w2 F v o nb 0 (zs.length : Int) HP3.out (one_cell HK4.out).1 (len_i64 hn) (by have := HL.out; rw [List.length_append] at this ⊢; rw [List.length_append] at this; omega)).mono ?_
  rintro e w3 ⟨rfl, v3, hp3, hu3⟩
  have HP4 := Lib.hid hp3
  have HU4 := Lib.hid ((WUp.of_below HBb.out).trans hu3)
  have HK5 := Lib.hid ((hu3.block nb HNl.out HNe.out (own_apart HP3.out.own HK4.out (by decide))).trans HK4.out)
  clear hp3 hu3
  obtain ⟨⟨c0, c1, c2⟩, f0, f1, f2⟩ := three HP4.out.k
  obtain ⟨y0, y1⟩ := one_cell HK5.out
  go_wp2_with fail
  clear c0 c1 c2 f0 f1 f2 y0 y1
  go_loopw [7] (fun v7 wr => ∃ (k : Nat) (v' : Value), k ≤ zs.length ∧ v7 = .int .i64 k ∧ PkI F v' (o ++ intB (zs.length : Int) ++ encs prC (zs.take k)) wr ∧ WUp F v v' W wr ∧ wr.heap[nb]? = some (.cells #[.int .i64 (zs.length : Int)] 3)) (fun v7 _ => zs.length - (intOf v7).toNat)
  case atStart => exact ⟨0, v3, Nat.zero_le _, rfl, by rw [List.take_zero, show encs prC [] = [] from rfl, List.append_nil]; exact HP4.out, HU4.out, HK5.out⟩
  case round =>
    obtain ⟨k, v', hk, rfl, hp, hu, hnk⟩ := hrel
    have HP2 := Lib.hid hp
    have HU := Lib.hid hu
    have HK := Lib.hid hnk
    obtain ⟨⟨c0, c1, c2⟩, f0, f1, f2⟩ := three hp.k
    obtain ⟨y0, y1⟩ := one_cell hnk
    clear hp hu hnk
    have hlow := HU.out.low HP.out.hi (Nat.le_refl F) (Nat.le_of_lt HP.out.lt)
    have cu := (HG.out _ _ HU.out).trans HCu.out
    have HLow := Lib.hid hlow
    clear hlow
    by_cases hlt : k < zs.length
    · obtain ⟨b, ro, rfl, hel⟩ := HEl.out.resolve_left (fun e => by rw [e] at hlt; exact absurd hlt (Nat.not_lt_zero _))
      have HX : Hid ((FlatR prV) F wr b (ro + k * 2) (zs[k]'hlt)) := by
        have h9 := (flat_lies prV).below (hel k hlt) HLow.out
        show (FlatR prV) F wr b (ro + k * 2) (zs[k]'hlt)
        first | exact h9 | (rw [Nat.mul_one] at h9; exact h9)
      have HPz : Hid (PairP zs[k]) := HA.out.2 _ (List.getElem_mem hlt)
      have hx := fun W => row_idx Try.underlying32 2 info_el_pair b ro zs.length cap k hlt W
      have HT := Lib.hid (List.take_succ_eq_append_getElem hlt)
      have HL2 : Hid ((o ++ intB (zs.length : Int) ++ encs prC (zs.take k) ++ (prC).enc (zs[k]'hlt)).length ≤ 100000000) := by
        show _ ≤ _
        refine Nat.le_trans ?_ HL.out
        rw [List.append_assoc, ← encs_snoc, ← List.take_succ_eq_append_getElem hlt, List.append_assoc, List.length_append, List.length_append, List.length_append, List.length_append]
        have := encs_take prC zs (k + 1)
        omega
      clear hel
      generalize zs[k]'hlt = z at *
      obtain ⟨o2, ho2⟩ : ∃ o2, o ++ intB (zs.length : Int) ++ encs prC (zs.take k) = o2 := ⟨_, rfl⟩
      have HO2 := Lib.hid ho2
      rw [ho2] at HP2 HL2
      clear ho2
      have u3 : decide (k < zs.length) = true := decide_eq_true (by omega)
      have u1 : decide ((k : Int) < (zs.length : Int)) = true := decide_eq_true (by omega)
      have u2 : (k : Int) < (zs.length : Int) := by omega
      go_wp2_with fail
      refine (wrong_calls wr F 0 c2).mono ?_
      rintro r w' ⟨rfl, rfl⟩
      rw [show decide ((0 : Int) ≠ 0) = false from rfl]
      go_wp2_with fail
      refine (pair_pk.r wr F v' o2 b _ z HP2.out HPz.out HX.out HL2.out).mono ?_
      rintro e w4 ⟨rfl, v4, hp4, hu4⟩
      have HP5 := Lib.hid hp4
      have HU5 := Lib.hid (HU.out.trans hu4)
      have HK6 := Lib.hid ((hu4.block nb (Array.getElem?_eq_some_iff.1 HK.out).1 HNe.out (own_apart HP2.out.own HK.out (by decide))).trans HK.out)
      clear hp4 hu4 c0 c1 c2 f0 f1 f2 y0 y1 cu hx
      go_wp2_with fail
      go_roundw
      case rel => exact ⟨k + 1, v4, by omega, by go_num, by rw [HT.out, encs_snoc, ← List.append_assoc, HO2.out]; exact HP5.out, HU5.out, HK6.out⟩
      case measure => simp [intOf]; omega
    · obtain rfl : k = zs.length := by omega
      rw [List.take_length] at HP2
      have u3 : decide (zs.length < zs.length) = false := decide_eq_false (by omega)
      have u1 : decide ((zs.length : Int) < (zs.length : Int)) = false := decide_eq_false (by omega)
      have u2 : ¬ ((zs.length : Int) < (zs.length : Int)) := by omega
      go_wp2_with fail
      refine bodyPost_end (v := .tuple #[]) (results_none rfl _ _ _) rfl ?_
      refine ⟨rfl, v', ?_, HU.out⟩
      have := HP2.out
      rwa [List.append_assoc] at this
theorem row_pair_pk (W : World) (F : Nat) (v : Value) (o : Nm) (g off : Nat) (zs : List PairD) (h : PkI F v o W) (ha : zs.length ≤ 100000 ∧ ∀ a ∈ zs, PairP a) (hr : RowR 2 (FlatR prV) F W g off zs) (hl : (o ++ (rowC prC).enc zs).length ≤ 100000000) :
    Calls Try.prog 58 #[.pointer (some ⟨F, 0, none⟩), .pointer (some ⟨g, off, none⟩), .func (.func 59) #[] #[]] W (PkPost F v o ((rowC prC).enc zs) W) :=
  row_pair_pk0 W F v o g off zs h ha (fun v' W' hu => ((hu.low h.hi (Nat.le_refl F) (Nat.le_of_lt h.lt)).cell (p := ⟨g, off, none⟩) hr.1)) hr.2 hl

theorem info_el_int64 : (Try.prog.info? 2).map (fun i => i.size) = some 1 := by kernel_rfl
theorem load_sl_int64 {w : World} {ad : Addr} {v : Value} (h : w.cell? ad = some v) : (Instr.loadAt 93 (.pointer (some ad))).run Try.prog w = .ok v w := Ap.load_plainP (by simp [isAgg]) h
set_option maxHeartbeats 1000000 in
theorem row_int64_pk0 (W : World) (F : Nat) (v : Value) (o : Nm) (g off : Nat) (zs : List Int) (h : PkI F v o W) (ha : zs.length ≤ 100000 ∧ ∀ a ∈ zs, I64 a) (hg : ∀ v' W', WUp F v v' W W' → W'.cell? ⟨g, off, none⟩ = W.cell? ⟨g, off, none⟩)
    (hr : ∃ u, W.cell? ⟨g, off, none⟩ = some u ∧ RowV 1 (FlatR numV) F W u zs) (hl : (o ++ (rowC numC).enc zs).length ≤ 100000000) :
    Calls Try.prog 62 #[.pointer (some ⟨F, 0, none⟩), .pointer (some ⟨g, off, none⟩), .func (.func 61) #[] #[]] W (PkPost F v o ((rowC numC).enc zs) W) := by
  obtain ⟨u, hu, p, cap, rfl, hel⟩ := hr
  have HP := Lib.hid h
  have HA := Lib.hid ha
  have HG := Lib.hid hg
  have HCu := Lib.hid hu
  have HEl := Lib.hid hel
  have HL : Hid ((o ++ (intB (zs.length : Int) ++ encs numC zs)).length ≤ 100000000) := hl
  have hn := ha.1
  clear h ha hg hel hl
  go_enter Try.func62, Try.ntmps62
  go_upto_region 1 with fail
  clear hu
  obtain ⟨nb, w2, hw2, hnbe, hk4, hbb⟩ : ∃ nb w2, W.alloc (.cells #[.int .i64 (zs.length : Int)] 3) = w2 ∧ W.heap.size = nb ∧ w2.heap[nb]? = some (.cells #[.int .i64 (zs.length : Int)] 3) ∧ Below W.heap.size W w2 :=
    ⟨_, _, rfl, rfl, heap_alloc_new W _, (Below.refl W.heap.size W).alloc (Nat.le_refl _) _⟩
  have HBb := Lib.hid hbb
  have HK4 := Lib.hid hk4
  have HP3 := Lib.hid (HP.out.below hbb)
  have HNl : Hid (nb < w2.heap.size) := (Array.getElem?_eq_some_iff.1 hk4).1
  have HNe : Hid (nb ≠ F) := by have := HP.out.lt; show _ ≠ _; omega
  rw [hw2, hnbe]
  clear hbb hk4 hw2 hnbe
  go_wp2_with fail
  refine (pk_int_calls w2 F v o nb 0 (zs.length : Int) HP3.out (one_cell HK4.out).1 (len_i64 hn) (by have := HL.out; rw [List.length_append] at this ⊢; rw [List.length_append] at this; omega)).mono ?_
  rintro e w3 ⟨rfl, v3, hp3, hu3⟩
  have HP4 := Lib.hid hp3
  have HU4 := Lib.hid ((WUp.of_below HBb.out).trans hu3)
  have HK5 := Lib.hid ((hu3.block nb HNl.out HNe.out (own_apart HP3.out.own HK4.out (by decide))).trans HK4.out)
  clear hp3 hu3
  obtain ⟨⟨c0, c1, c2⟩, f0, f1, f2⟩ := three HP4.out.k
  obtain ⟨y0, y1⟩ := one_cell HK5.out
  go_wp2_with fail
  clear c0 c1 c2 f0 f1 f2 y0 y1
  go_loopw [7] (fun v7 wr => ∃ (k : Nat) (v' : Value), k ≤ zs.length ∧ v7 = .int .i64 k ∧ PkI F v' (o ++ intB (zs.length : Int) ++ encs numC (zs.take k)) wr ∧ WUp F v v' W wr ∧ wr.heap[nb]? = some (.cells #[.int .i64 (zs.length : Int)] 3)) (fun v7 _ => zs.length - (intOf v7).toNat)
  case atStart => exact ⟨0, v3, Nat.zero_le _, rfl, by rw [List.take_zero, show encs numC [] = [] from rfl, List.append_nil]; exact HP4.out, HU4.out, HK5.out⟩
  case round =>
    obtain ⟨k, v', hk, rfl, hp, hu, hnk⟩ := hrel
    have HP2 := Lib.hid hp
    have HU := Lib.hid hu
    have HK := Lib.hid hnk
    obtain ⟨⟨c0, c1, c2⟩, f0, f1, f2⟩ := three hp.k
    obtain ⟨y0, y1⟩ := one_cell hnk
    clear hp hu hnk
    have hlow := HU.out.low HP.out.hi (Nat.le_refl F) (Nat.le_of_lt HP.out.lt)
    have cu := (HG.out _ _ HU.out).trans HCu.out
    have HLow := Lib.hid hlow
    clear hlow
    by_cases hlt : k < zs.length
    · obtain ⟨b, ro, rfl, hel⟩ := HEl.out.resolve_left (fun e => by rw [e] at hlt; exact absurd hlt (Nat.not_lt_zero _))
      have HX : Hid ((FlatR numV) F wr b (ro + k) (zs[k]'hlt)) := by
        have h9 := (flat_lies numV).below (hel k hlt) HLow.out
        show (FlatR numV) F wr b (ro + k) (zs[k]'hlt)
        first | exact h9 | (rw [Nat.mul_one] at h9; exact h9)
      have HPz : Hid (I64 zs[k]) := HA.out.2 _ (List.getElem_mem hlt)
      have hx := fun W => row_idx Try.underlying93 1 info_el_int64 b ro zs.length cap k hlt W
      have HT := Lib.hid (List.take_succ_eq_append_getElem hlt)
      have HL2 : Hid ((o ++ intB (zs.length : Int) ++ encs numC (zs.take k) ++ (numC).enc (zs[k]'hlt)).length ≤ 100000000) := by
        show _ ≤ _
        refine Nat.le_trans ?_ HL.out
        rw [List.append_assoc, ← encs_snoc, ← List.take_succ_eq_append_getElem hlt, List.append_assoc, List.length_append, List.length_append, List.length_append, List.length_append]
        have := encs_take numC zs (k + 1)
        omega
      clear hel
      generalize zs[k]'hlt = z at *
      obtain ⟨o2, ho2⟩ : ∃ o2, o ++ intB (zs.length : Int) ++ encs numC (zs.take k) = o2 := ⟨_, rfl⟩
      have HO2 := Lib.hid ho2
      rw [ho2] at HP2 HL2
      clear ho2
      have u3 : decide (k < zs.length) = true := decide_eq_true (by omega)
      have u1 : decide ((k : Int) < (zs.length : Int)) = true := decide_eq_true (by omega)
      have u2 : (k : Int) < (zs.length : Int) := by omega
      go_wp2_with fail
      refine (wrong_calls wr F 0 c2).mono ?_
      rintro r w' ⟨rfl, rfl⟩
      rw [show decide ((0 : Int) ≠ 0) = false from rfl]
      go_wp2_with fail
      refine (num64_pk.r wr F v' o2 b _ z HP2.out HPz.out HX.out HL2.out).mono ?_
      rintro e w4 ⟨rfl, v4, hp4, hu4⟩
      have HP5 := Lib.hid hp4
      have HU5 := Lib.hid (HU.out.trans hu4)
      have HK6 := Lib.hid ((hu4.block nb (Array.getElem?_eq_some_iff.1 HK.out).1 HNe.out (own_apart HP2.out.own HK.out (by decide))).trans HK.out)
      clear hp4 hu4 c0 c1 c2 f0 f1 f2 y0 y1 cu hx
      go_wp2_with fail
      go_roundw
      case rel => exact ⟨k + 1, v4, by omega, by go_num, by rw [HT.out, encs_snoc, ← List.append_assoc, HO2.out]; exact HP5.out, HU5.out, HK6.out⟩
      case measure => simp [intOf]; omega
    · obtain rfl : k = zs.length := by omega
      rw [List.take_length] at HP2
      have u3 : decide (zs.length < zs.length) = false := decide_eq_false (by omega)
      have u1 : decide ((zs.length : Int) < (zs.length : Int)) = false := decide_eq_false (by omega)
      have u2 : ¬ ((zs.length : Int) < (zs.length : Int)) := by omega
      go_wp2_with fail
      refine bodyPost_end (v := .tuple #[]) (results_none rfl _ _ _) rfl ?_
      refine ⟨rfl, v', ?_, HU.out⟩
      have := HP2.out
      rwa [List.append_assoc] at this
theorem row_int64_pk (W : World) (F : Nat) (v : Value) (o : Nm) (g off : Nat) (zs : List Int) (h : PkI F v o W) (ha : zs.length ≤ 100000 ∧ ∀ a ∈ zs, I64 a) (hr : RowR 1 (FlatR numV) F W g off zs) (hl : (o ++ (rowC numC).enc zs).length ≤ 100000000) :
    Calls Try.prog 62 #[.pointer (some ⟨F, 0, none⟩), .pointer (some ⟨g, off, none⟩), .func (.func 61) #[] #[]] W (PkPost F v o ((rowC numC).enc zs) W) :=
  row_int64_pk0 W F v o g off zs h ha (fun v' W' hu => ((hu.low h.hi (Nat.le_refl F) (Nat.le_of_lt h.lt)).cell (p := ⟨g, off, none⟩) hr.1)) hr.2 hl

theorem info_el_cell : (Try.prog.info? 143).map (fun i => i.size) = some 2 := by kernel_rfl
theorem load_sl_cell {w : World} {ad : Addr} {v : Value} (h : w.cell? ad = some v) : (Instr.loadAt 94 (.pointer (some ad))).run Try.prog w = .ok v w := Ap.load_plainP (by simp [isAgg]) h
set_option maxHeartbeats 1000000 in
theorem row_cell_pk0 (W : World) (F : Nat) (v : Value) (o : Nm) (g off : Nat) (zs : List VarD) (h : PkI F v o W) (ha : zs.length ≤ 100000 ∧ ∀ a ∈ zs, VarP a) (hg : ∀ v' W', WUp F v v' W W' → W'.cell? ⟨g, off, none⟩ = W.cell? ⟨g, off, none⟩)
    (hr : ∃ u, W.cell? ⟨g, off, none⟩ = some u ∧ RowV 2 (FlatR varV) F W u zs) (hl : (o ++ (rowC varC).enc zs).length ≤ 100000000) :
    Calls Try.prog 63 #[.pointer (some ⟨F, 0, none⟩), .pointer (some ⟨g, off, none⟩), .func (.func 64) #[] #[]] W (PkPost F v o ((rowC varC).enc zs) W) := by
  obtain ⟨u, hu, p, cap, rfl, hel⟩ := hr
  have HP := Lib.hid h
  have HA := Lib.hid ha
  have HG := Lib.hid hg
  have HCu := Lib.hid hu
  have HEl := Lib.hid hel
  have HL : Hid ((o ++ (intB (zs.length : Int) ++ encs varC zs)).length ≤ 100000000) := hl
  have hn := ha.1
  clear h ha hg hel hl
  go_enter Try.func63, Try.ntmps63
  go_upto_region 1 with fail
  clear hu
  obtain ⟨nb, w2, hw2, hnbe, hk4, hbb⟩ : ∃ nb w2, W.alloc (.cells #[.int .i64 (zs.length : Int)] 3) = w2 ∧ W.heap.size = nb ∧ w2.heap[nb]? = some (.cells #[.int .i64 (zs.length : Int)] 3) ∧ Below W.heap.size W w2 :=
    ⟨_, _, rfl, rfl, heap_alloc_new W _, (Below.refl W.heap.size W).alloc (Nat.le_refl _) _⟩
  have HBb := Lib.hid hbb
  have HK4 := Lib.hid hk4
  have HP3 := Lib.hid (HP.out.below hbb)
  have HNl : Hid (nb < w2.heap.size) := (Array.getElem?_eq_some_iff.1 hk4).1
  have HNe : Hid (nb ≠ F) := by have := HP.out.lt; show _ ≠ _; omega
  rw [hw2, hnbe]
  clear hbb hk4 hw2 hnbe
  go_wp2_with fail
  refine (pk_int_calls w2 F v o nb 0 (zs.length : Int) HP3.out (one_cell HK4.out).1 (len_i64 hn) (by have := HL.out; rw [List.length_append] at this ⊢; rw [List.length_append] at this; omega)).mono ?_
  rintro e w3 ⟨rfl, v3, hp3, hu3⟩
  have HP4 := Lib.hid hp3
  have HU4 := Lib.hid ((WUp.of_below HBb.out).trans hu3)
  have HK5 := Lib.hid ((hu3.block nb HNl.out HNe.out (own_apart HP3.out.own HK4.out (by decide))).trans HK4.out)
  clear hp3 hu3
  obtain ⟨⟨c0, c1, c2⟩, f0, f1, f2⟩ := three HP4.out.k
  obtain ⟨y0, y1⟩ := one_cell HK5.out
  go_wp2_with fail
  clear c0 c1 c2 f0 f1 f2 y0 y1
  go_loopw [7] (fun v7 wr => ∃ (k : Nat) (v' : Value), k ≤ zs.length ∧ v7 = .int .i64 k ∧ PkI F v' (o ++ intB (zs.length : Int) ++ encs varC (zs.take k)) wr ∧ WUp F v v' W wr ∧ wr.heap[nb]? = some (.cells #[.int .i64 (zs.length : Int)] 3)) (fun v7 _ => zs.length - (intOf v7).toNat)
  case atStart => exact ⟨0, v3, Nat.zero_le _, rfl, by rw [List.take_zero, show encs varC [] = [] from rfl, List.append_nil]; exact HP4.out, HU4.out, HK5.out⟩
  case round =>
    obtain ⟨k, v', hk, rfl, hp, hu, hnk⟩ := hrel
    have HP2 := Lib.hid hp
    have HU := Lib.hid hu
    have HK := Lib.hid hnk
    obtain ⟨⟨c0, c1, c2⟩, f0, f1, f2⟩ := three hp.k
    obtain ⟨y0, y1⟩ := one_cell hnk
    clear hp hu hnk
    have hlow := HU.out.low HP.out.hi (Nat.le_refl F) (Nat.le_of_lt HP.out.lt)
    have cu := (HG.out _ _ HU.out).trans HCu.out
    have HLow := Lib.hid hlow
    clear hlow
    by_cases hlt : k < zs.length
    · obtain ⟨b, ro, rfl, hel⟩ := HEl.out.resolve_left (fun e => by rw [e] at hlt; exact absurd hlt (Nat.not_lt_zero _))
      have HX : Hid ((FlatR varV) F wr b (ro + k * 2) (zs[k]'hlt)) := by
        have h9 := (flat_lies varV).below (hel k hlt) HLow.out
        show (FlatR varV) F wr b (ro + k * 2) (zs[k]'hlt)
        first | exact h9 | (rw [Nat.mul_one] at h9; exact h9)
      have HPz : Hid (VarP zs[k]) := HA.out.2 _ (List.getElem_mem hlt)
      have hx := fun W => row_idx Try.underlying94 2 info_el_cell b ro zs.length cap k hlt W
      have HT := Lib.hid (List.take_succ_eq_append_getElem hlt)
      have HL2 : Hid ((o ++ intB (zs.length : Int) ++ encs varC (zs.take k) ++ (varC).enc (zs[k]'hlt)).length ≤ 100000000) := by
        show _ ≤ _
        refine Nat.le_trans ?_ HL.out
        rw [List.append_assoc, ← encs_snoc, ← List.take_succ_eq_append_getElem hlt, List.append_assoc, List.length_append, List.length_append, List.length_append, List.length_append]
        have := encs_take varC zs (k + 1)
        omega
      clear hel
      generalize zs[k]'hlt = z at *
      obtain ⟨o2, ho2⟩ : ∃ o2, o ++ intB (zs.length : Int) ++ encs varC (zs.take k) = o2 := ⟨_, rfl⟩
      have HO2 := Lib.hid ho2
      rw [ho2] at HP2 HL2
      clear ho2
      have u3 : decide (k < zs.length) = true := decide_eq_true (by omega)
      have u1 : decide ((k : Int) < (zs.length : Int)) = true := decide_eq_true (by omega)
      have u2 : (k : Int) < (zs.length : Int) := by omega
      go_wp2_with fail
      refine (wrong_calls wr F 0 c2).mono ?_
      rintro r w' ⟨rfl, rfl⟩
      rw [show decide ((0 : Int) ≠ 0) = false from rfl]
      go_wp2_with fail
      refine (cell_pk.r wr F v' o2 b _ z HP2.out HPz.out HX.out HL2.out).mono ?_
      rintro e w4 ⟨rfl, v4, hp4, hu4⟩
      have HP5 := Lib.hid hp4
      have HU5 := Lib.hid (HU.out.trans hu4)
      have HK6 := Lib.hid ((hu4.block nb (Array.getElem?_eq_some_iff.1 HK.out).1 HNe.out (own_apart HP2.out.own HK.out (by decide))).trans HK.out)
      clear hp4 hu4 c0 c1 c2 f0 f1 f2 y0 y1 cu hx
      go_wp2_with fail
      go_roundw
      case rel => exact ⟨k + 1, v4, by omega, by go_num, by rw [HT.out, encs_snoc, ← List.append_assoc, HO2.out]; exact HP5.out, HU5.out, HK6.out⟩
      case measure => simp [intOf]; omega
    · obtain rfl : k = zs.length := by omega
      rw [List.take_length] at HP2
      have u3 : decide (zs.length < zs.length) = false := decide_eq_false (by omega)
      have u1 : decide ((zs.length : Int) < (zs.length : Int)) = false := decide_eq_false (by omega)
      have u2 : ¬ ((zs.length : Int) < (zs.length : Int)) := by omega
      go_wp2_with fail
      refine bodyPost_end (v := .tuple #[]) (results_none rfl _ _ _) rfl ?_
      refine ⟨rfl, v', ?_, HU.out⟩
      have := HP2.out
      rwa [List.append_assoc] at this
theorem row_cell_pk (W : World) (F : Nat) (v : Value) (o : Nm) (g off : Nat) (zs : List VarD) (h : PkI F v o W) (ha : zs.length ≤ 100000 ∧ ∀ a ∈ zs, VarP a) (hr : RowR 2 (FlatR varV) F W g off zs) (hl : (o ++ (rowC varC).enc zs).length ≤ 100000000) :
    Calls Try.prog 63 #[.pointer (some ⟨F, 0, none⟩), .pointer (some ⟨g, off, none⟩), .func (.func 64) #[] #[]] W (PkPost F v o ((rowC varC).enc zs) W) :=
  row_cell_pk0 W F v o g off zs h ha (fun v' W' hu => ((hu.low h.hi (Nat.le_refl F) (Nat.le_of_lt h.lt)).cell (p := ⟨g, off, none⟩) hr.1)) hr.2 hl

theorem info_el_int : (Try.prog.info? 3).map (fun i => i.size) = some 1 := by kernel_rfl
theorem load_sl_int {w : World} {ad : Addr} {v : Value} (h : w.cell? ad = some v) : (Instr.loadAt 41 (.pointer (some ad))).run Try.prog w = .ok v w := Ap.load_plainP (by simp [isAgg]) h
set_option maxHeartbeats 1000000 in
theorem row_int_pk0 (W : World) (F : Nat) (v : Value) (o : Nm) (g off : Nat) (zs : List Int) (h : PkI F v o W) (ha : zs.length ≤ 100000 ∧ ∀ a ∈ zs, I64 a) (hg : ∀ v' W', WUp F v v' W W' → W'.cell? ⟨g, off, none⟩ = W.cell? ⟨g, off, none⟩)
    (hr : ∃ u, W.cell? ⟨g, off, none⟩ = some u ∧ RowV 1 (FlatR numV) F W u zs) (hl : (o ++ (rowC numC).enc zs).length ≤ 100000000) :
    Calls Try.prog 44 #[.pointer (some ⟨F, 0, none⟩), .pointer (some ⟨g, off, none⟩), .func (.func 45) #[] #[]] W (PkPost F v o ((rowC numC).enc zs) W) := by
  obtain ⟨u, hu, p, cap, rfl, hel⟩ := hr
  have HP := Lib.hid h
  have HA := Lib.hid ha
  have HG := Lib.hid hg
  have HCu := Lib.hid hu
  have HEl := Lib.hid hel
  have HL : Hid ((o ++ (intB (zs.length : Int) ++ encs numC zs)).length ≤ 100000000) := hl
  have hn := ha.1
  clear h ha hg hel hl
  go_enter Try.func44, Try.ntmps44
  go_upto_region 1 with fail
  clear hu
  obtain ⟨nb, w2, hw2, hnbe, hk4, hbb⟩ : ∃ nb w2, W.alloc (.cells #[.int .i64 (zs.length : Int)] 3) = w2 ∧ W.heap.size = nb ∧ w2.heap[nb]? = some (.cells #[.int .i64 (zs.length : Int)] 3) ∧ Below W.heap.size W w2 :=
    ⟨_, _, rfl, rfl, heap_alloc_new W _, (Below.refl W.heap.size W).alloc (Nat.le_refl _) _⟩
  have HBb := Lib.hid hbb
  have HK4 := Lib.hid hk4
  have HP3 := Lib.hid (HP.out.below hbb)
  have HNl : Hid (nb < w2.heap.size) := (Array.getElem?_eq_some_iff.1 hk4).1
  have HNe : Hid (nb ≠ F) := by have := HP.out.lt; show _ ≠ _; omega
  rw [hw2, hnbe]
  clear hbb hk4 hw2 hnbe
  go_wp2_with fail
  refine (pk_int_calls w2 F v o nb 0 (zs.length : Int) HP3.out (one_cell HK4.out).1 (len_i64 hn) (by have := HL.out; rw [List.length_append] at this ⊢; rw [List.length_append] at this; omega)).mono ?_
  rintro e w3 ⟨rfl, v3, hp3, hu3⟩
  have HP4 := Lib.hid hp3
  have HU4 := Lib.hid ((WUp.of_below HBb.out).trans hu3)
  have HK5 := Lib.hid ((hu3.block nb HNl.out HNe.out (own_apart HP3.out.own HK4.out (by decide))).trans HK4.out)
  clear hp3 hu3
  obtain ⟨⟨c0, c1, c2⟩, f0, f1, f2⟩ := three HP4.out.k
  obtain ⟨y0, y1⟩ := one_cell HK5.out
  go_wp2_with fail
  clear c0 c1 c2 f0 f1 f2 y0 y1
  go_loopw [7] (fun v7 wr => ∃ (k : Nat) (v' : Value), k ≤ zs.length ∧ v7 = .int .i64 k ∧ PkI F v' (o ++ intB (zs.length : Int) ++ encs numC (zs.take k)) wr ∧ WUp F v v' W wr ∧ wr.heap[nb]? = some (.cells #[.int .i64 (zs.length : Int)] 3)) (fun v7 _ => zs.length - (intOf v7).toNat)
  case atStart => exact ⟨0, v3, Nat.zero_le _, rfl, by rw [List.take_zero, show encs numC [] = [] from rfl, List.append_nil]; exact HP4.out, HU4.out, HK5.out⟩
  case round =>
    obtain ⟨k, v', hk, rfl, hp, hu, hnk⟩ := hrel
    have HP2 := Lib.hid hp
    have HU := Lib.hid hu
    have HK := Lib.hid hnk
    obtain ⟨⟨c0, c1, c2⟩, f0, f1, f2⟩ := three hp.k
    obtain ⟨y0, y1⟩ := one_cell hnk
    clear hp hu hnk
    have hlow := HU.out.low HP.out.hi (Nat.le_refl F) (Nat.le_of_lt HP.out.lt)
    have cu := (HG.out _ _ HU.out).trans HCu.out
    have HLow := Lib.hid hlow
    clear hlow
    by_cases hlt : k < zs.length
    · obtain ⟨b, ro, rfl, hel⟩ := HEl.out.resolve_left (fun e => by rw [e] at hlt; exact absurd hlt (Nat.not_lt_zero _))
      have HX : Hid ((FlatR numV) F wr b (ro + k) (zs[k]'hlt)) := by
        have h9 := (flat_lies numV).below (hel k hlt) HLow.out
        show (FlatR numV) F wr b (ro + k) (zs[k]'hlt)
        first | exact h9 | (rw [Nat.mul_one] at h9; exact h9)
      have HPz : Hid (I64 zs[k]) := HA.out.2 _ (List.getElem_mem hlt)
      have hx := fun W => row_idx Try.underlying41 1 info_el_int b ro zs.length cap k hlt W
      have HT := Lib.hid (List.take_succ_eq_append_getElem hlt)
      have HL2 : Hid ((o ++ intB (zs.length : Int) ++ encs numC (zs.take k) ++ (numC).enc (zs[k]'hlt)).length ≤ 100000000) := by
        show _ ≤ _
        refine Nat.le_trans ?_ HL.out
        rw [List.append_assoc, ← encs_snoc, ← List.take_succ_eq_append_getElem hlt, List.append_assoc, List.length_append, List.length_append, List.length_append, List.length_append]
        have := encs_take numC zs (k + 1)
        omega
      clear hel
      generalize zs[k]'hlt = z at *
      obtain ⟨o2, ho2⟩ : ∃ o2, o ++ intB (zs.length : Int) ++ encs numC (zs.take k) = o2 := ⟨_, rfl⟩
      have HO2 := Lib.hid ho2
      rw [ho2] at HP2 HL2
      clear ho2
      have u3 : decide (k < zs.length) = true := decide_eq_true (by omega)
      have u1 : decide ((k : Int) < (zs.length : Int)) = true := decide_eq_true (by omega)
      have u2 : (k : Int) < (zs.length : Int) := by omega
      go_wp2_with fail
      refine (wrong_calls wr F 0 c2).mono ?_
      rintro r w' ⟨rfl, rfl⟩
      rw [show decide ((0 : Int) ≠ 0) = false from rfl]
      go_wp2_with fail
      refine (num_pk.r wr F v' o2 b _ z HP2.out HPz.out HX.out HL2.out).mono ?_
      rintro e w4 ⟨rfl, v4, hp4, hu4⟩
      have HP5 := Lib.hid hp4
      have HU5 := Lib.hid (HU.out.trans hu4)
      have HK6 := Lib.hid ((hu4.block nb (Array.getElem?_eq_some_iff.1 HK.out).1 HNe.out (own_apart HP2.out.own HK.out (by decide))).trans HK.out)
      clear hp4 hu4 c0 c1 c2 f0 f1 f2 y0 y1 cu hx
      go_wp2_with fail
      go_roundw
      case rel => exact ⟨k + 1, v4, by omega, by go_num, by rw [HT.out, encs_snoc, ← List.append_assoc, HO2.out]; exact HP5.out, HU5.out, HK6.out⟩
      case measure => simp [intOf]; omega
    · obtain rfl : k = zs.length := by omega
      rw [List.take_length] at HP2
      have u3 : decide (zs.length < zs.length) = false := decide_eq_false (by omega)
      have u1 : decide ((zs.length : Int) < (zs.length : Int)) = false := decide_eq_false (by omega)
      have u2 : ¬ ((zs.length : Int) < (zs.length : Int)) := by omega
      go_wp2_with fail
      refine bodyPost_end (v := .tuple #[]) (results_none rfl _ _ _) rfl ?_
      refine ⟨rfl, v', ?_, HU.out⟩
      have := HP2.out
      rwa [List.append_assoc] at this
theorem row_int_pk (W : World) (F : Nat) (v : Value) (o : Nm) (g off : Nat) (zs : List Int) (h : PkI F v o W) (ha : zs.length ≤ 100000 ∧ ∀ a ∈ zs, I64 a) (hr : RowR 1 (FlatR numV) F W g off zs) (hl : (o ++ (rowC numC).enc zs).length ≤ 100000000) :
    Calls Try.prog 44 #[.pointer (some ⟨F, 0, none⟩), .pointer (some ⟨g, off, none⟩), .func (.func 45) #[] #[]] W (PkPost F v o ((rowC numC).enc zs) W) :=
  row_int_pk0 W F v o g off zs h ha (fun v' W' hu => ((hu.low h.hi (Nat.le_refl F) (Nat.le_of_lt h.lt)).cell (p := ⟨g, off, none⟩) hr.1)) hr.2 hl

end Go.Proofs.Ytmhofdoifgfjfaa
