/-
  Store: the reference's Keep, walked. Conditions: as each contract says.
-/
import Derived.Test.YtmhofdoifgfjfaaSoRef
set_option linter.unusedVariables false
set_option maxRecDepth 100000
namespace Go.Proofs.Ytmhofdoifgfjfaa
open Go.RowKit Base

/-- What has been gathered of some first places. -/
def rlL (p : Int) (l : List Int) : List Int := l.filter (fun x => decide (x < p)) ++ ((if l.any (fun x => decide (p < x)) then [p] else []) ++ l.filter (fun x => decide (p < x)))
def anyL (p : Int) (l : List Int) : Bool := l.any (fun x => decide (p < x))
theorem filter_gt_nil {p : Int} {l : List Int} (h : anyL p l = false) : l.filter (fun x => decide (p < x)) = [] := by
  rw [List.filter_eq_nil_iff]
  intro x hx hpx
  have : anyL p l = true := List.any_eq_true.2 ⟨x, hx, hpx⟩
  rw [h] at this; cases this
theorem rlL_gt {p x : Int} {l : List Int} (h : p < x) : rlL p (l ++ [x]) = (if anyL p l then rlL p l else rlL p l ++ [p]) ++ [x] ∧ anyL p (l ++ [x]) = true := by
  have ha : anyL p (l ++ [x]) = true := by unfold anyL; rw [List.any_append]; simp [h]
  refine ⟨?_, ha⟩
  unfold rlL
  rw [show (l ++ [x]).any (fun x => decide (p < x)) = true from ha, if_pos rfl, List.filter_append, List.filter_append, List.filter_cons_of_neg (by simp; omega), List.filter_cons_of_pos (by simpa using h), List.filter_nil, List.filter_nil, List.append_nil]
  cases hl : anyL p l with
  | true =>
    rw [show l.any (fun x => decide (p < x)) = true from hl, if_pos rfl, if_pos rfl]
    simp
  | false =>
    rw [show l.any (fun x => decide (p < x)) = false from hl, filter_gt_nil hl]
    simp
theorem rlL_lt {p x : Int} {l : List Int} (hu : Up (l ++ [x])) (h : x < p) : rlL p (l ++ [x]) = rlL p l ++ [x] ∧ anyL p (l ++ [x]) = false ∧ anyL p l = false := by
  have hl : anyL p l = false := by
    unfold anyL
    rw [List.any_eq_false]
    intro z hz
    have := (List.pairwise_append.1 hu).2.2 z hz x (by simp)
    simp; omega
  have ha : anyL p (l ++ [x]) = false := by
    unfold anyL at hl ⊢
    rw [List.any_append, hl]
    simp; omega
  refine ⟨?_, ha, hl⟩
  unfold rlL
  rw [show (l ++ [x]).any (fun x => decide (p < x)) = false from ha, show l.any (fun x => decide (p < x)) = false from hl, if_neg (by simp), List.filter_append, List.filter_append, List.filter_cons_of_pos (by simpa using h), List.filter_cons_of_neg (by simp; omega), List.filter_nil, List.filter_nil, filter_gt_nil hl]
  simp
theorem rlL_end (p : Int) (l : List Int) : (if anyL p l then rlL p l else rlL p l ++ [p]) = ins l p := by
  unfold rlL ins
  cases hl : anyL p l with
  | true => rw [show l.any (fun x => decide (p < x)) = true from hl, if_pos rfl, if_pos rfl]; simp
  | false => rw [show l.any (fun x => decide (p < x)) = false from hl, if_neg (by simp), if_neg (by simp), filter_gt_nil hl]; simp
theorem rlL_len (p : Int) (l : List Int) : (rlL p l).length ≤ l.length + l.length + 1 := by
  unfold rlL
  rw [List.length_append, List.length_append]
  have h1 := List.length_filter_le (fun x => decide (x < p)) l
  have h2 := List.length_filter_le (fun x => decide (p < x)) l
  split <;> simp <;> omega
/-- The best of so many numbers, and its gap. -/
def bst (q : List Int) : Nat → Int × Int
  | 0 => (-1, 0)
  | c + 1 => ((bestTo q c : Int), gapL q (bestTo q c))
def RefPost (W : World) (b0 : Nat) (u : Value) (ev mo : Int) (q : List Int) (r : Ending) (W' : World) : Prop :=
  ∃ u', r = .returned (.agg #[.int .i64 ev, .int .i64 mo, u']) ∧ OwnI W' b0 u' q ∧ (u' = u ∨ ∀ b, u'.ownBlock = some b → W.heap.size ≤ b) ∧ Below W.heap.size W W'
set_option maxHeartbeats 4000000 in
theorem ref_keep_calls (W : World) (b0 : Nat) (u : Value) (ev mo : Int) (pl : List Int) (p : Int) (hown : OwnI W b0 u pl) (hb0 : b0 ≤ W.heap.size) (hu : Up pl) (hl : pl.length ≤ 1000) (hev : 1 ≤ ev) (hmo : 1 ≤ mo) (hle : (pl.length : Int) ≤ mo) (hlo : ∀ x ∈ pl, 0 ≤ x ∧ x ≤ 1000000) (hp : I64 p) (hp6 : p ≤ 1000000) :
    Calls Try.prog 13 #[.agg #[.int .i64 ev, .int .i64 mo, u], .int .i64 p] W (RefPost W b0 u ev mo (keepB ev mo pl p)) := by
  obtain ⟨i0, hi0, hz0, hz1, hz2⟩ := info_parts zinfo_i64
  obtain ⟨ua, uc, rfl, hints⟩ := own_ints hown
  have hlo2 : -9223372036854775808 ≤ p := hp.1
  obtain ⟨B, hB⟩ : ∃ B, W.heap.size = B := ⟨_, rfl⟩
  obtain ⟨w1, hw1, hcA, hcB, hbA, hsz⟩ : ∃ w1, (W.alloc (.cells #[.int .i64 ev, .int .i64 mo, .slice ua pl.length uc] rfT)).alloc (.cells #[.int .i64 0, .int .i64 0, .slice none 0 0] rfT) = w1 ∧ Cut B [.int .i64 ev, .int .i64 mo, .slice ua pl.length uc] rfT w1 ∧ Cut (B + 1) [.int .i64 0, .int .i64 0, .slice none 0 0] rfT w1 ∧ Below B W w1 ∧ w1.heap.size = B + 2 := by
    have h1 : (W.alloc (.cells #[.int .i64 ev, .int .i64 mo, .slice ua pl.length uc] rfT)).heap.size = B + 1 := by rw [World.size_alloc, hB]
    have b1 := (Below.refl W.heap.size W).alloc (Nat.le_refl _) (.cells #[.int .i64 ev, .int .i64 mo, .slice ua pl.length uc] rfT)
    have c1 := heap_alloc_new W (.cells #[.int .i64 ev, .int .i64 mo, .slice ua pl.length uc] rfT)
    have c2 := heap_alloc_new (W.alloc (.cells #[.int .i64 ev, .int .i64 mo, .slice ua pl.length uc] rfT)) (.cells #[.int .i64 0, .int .i64 0, .slice none 0 0] rfT)
    rw [h1] at c2
    rw [hB] at c1 b1
    refine ⟨_, rfl, ?_, c2, b1.alloc (by omega) _, by rw [World.size_alloc, h1]⟩
    exact (Below.heap_alloc _ _ _ (by omega)).trans c1
  have hints1 := hints.below (stable_intAt _) (hB ▸ hbA)
  have hown1 : OwnI w1 b0 (.slice ua pl.length uc) pl := ownsRow_below hown (hB ▸ hbA)
  obtain ⟨bb, o, hc, hix⟩ := at_ints hints1
  obtain ⟨dd, hdu, hdr⟩ := Option.map_eq_some_iff.1 und_rf
  have HDu := Lib.hid hdu
  have HDr := Lib.hid hdr
  have HW1 := Lib.hid hw1
  have HCA := Lib.hid hcA
  have HCB := Lib.hid hcB
  have HBA := Lib.hid hbA
  have HSz := Lib.hid hsz
  have HBe := Lib.hid hB
  have HOw := Lib.hid hown1
  have HC := Lib.hid hc
  have HI := Lib.hid hix
  have HUp := Lib.hid hu
  have HLo := Lib.hid hlo
  have HB0 : Hid (b0 ≤ B) := by show _ ≤ _; omega
  obtain ⟨⟨y0, y1, y2⟩, f0, f1, f2⟩ := cell3 hcA
  have HY := Lib.hid (And.intro y0 (And.intro y1 y2))
  clear hown hb0 hints hints1 hown1 hc hix hu hlo hp hw1 hcA hcB hbA hsz hdu hdr
  go_enter Try.func13, Try.ntmps13
  go_upto_region 1 with fail
  rw [HW1.out]
  by_cases hneg : p < 0
  · have u1 : decide (p < 0) = true := decide_eq_true hneg
    have HK : Hid (keepB ev mo pl p = pl) := by show _ = _; unfold keepB; rw [if_pos (.inl (.inl hneg))]
    have HcA := Lib.hid HCA.out
    have HcB := Lib.hid HCB.out
    have HbW := Lib.hid HBA.out
    have HO := Lib.hid HOw.out
    go_wp2_with (first
      | (refine wpList_load_g (by kernel_rfl) rfT (.tmp 2) rfl B 0 rfl [.int .i64 ev, .int .i64 mo, .slice ua pl.length uc] dd (cut_range HcA.out) HDu.out HDr.out info_rf ?_)
      | (refine wpList_store_mid rfl rfT (.tmp 4) (.tmp 23) rfl (B + 1) 0 ([.int .i64 ev, .int .i64 mo, .slice ua pl.length uc] : List Value).toArray rfl rfl (there_cut HcB.out _ (Nat.le_refl _)) info_rf (all_oneCell_toArray (by intro v hv; simp at hv; rcases hv with rfl | rfl | rfl <;> rfl)) ?_; (obtain ⟨wL, hwL⟩ : ∃ x, w1.setCells (B + 1) 0 ([.int .i64 ev, .int .i64 mo, .slice ua pl.length uc] : List Value).toArray.toList = x := ⟨_, rfl⟩); have HWL := Lib.hid hwL; (refine (congrArg (wpList _ _ _ _ _) hwL).mpr ?_); clear hwL))
    have hgL := Sl.setCells_grown (B + 1) [.int .i64 ev, .int .i64 mo, .slice ua pl.length uc] 0 w1
    have hcL : Cut (B + 1) [.int .i64 ev, .int .i64 mo, .slice ua pl.length uc] rfT (w1.setCells (B + 1) 0 [.int .i64 ev, .int .i64 mo, .slice ua pl.length uc]) := set_cut HcB.out rfl
    have HWL2 : Hid (w1.setCells (B + 1) 0 [.int .i64 ev, .int .i64 mo, .slice ua pl.length uc] = wL) := HWL.out
    rw [HWL2.out] at hgL hcL
    have hoL : OwnI wL b0 (.slice ua pl.length uc) pl := own_other HO.out hgL (fun j hj => by obtain rfl := Option.some.inj hj; exact own_apart HO.out HcB.out (by decide))
    have hbL : Below B W wL := HbW.out.grown hgL (by have := HcB.out.lt; omega) (fun j hj => by have := Option.some.inj hj; omega)
    refine bodyPost_ret (results_cell1 rfl _ _ _ (B + 1) (.agg ([.int .i64 ev, .int .i64 mo, .slice ua pl.length uc] : List Value).toArray) rfl (loadv_cut hcL und_rf info_rf)) rfl ?_
    refine ⟨.slice ua pl.length uc, rfl, ?_, ?_, ?_⟩
    · rw [HK.out]; exact hoL
    · exact .inl rfl
    · rw [HBe.out]; exact hbL
  have u1 : decide (p < 0) = false := decide_eq_false hneg
  have hev0 : ¬ ev = 0 := by omega
  have htm : p.tmod ev = p % ev := Int.tmod_eq_emod_of_nonneg (by omega)
  by_cases hr : p % ev = 0
  case neg =>
    have u2 : (p % ev == 0) = false := by rw [beq_eq_false_iff_ne]; exact hr
    have u3 : (p % ev != 0) = true := by rw [bne, u2]; rfl
    have u4 : decide (p % ev = 0) = false := decide_eq_false hr
    have HK : Hid (keepB ev mo pl p = pl) := by show _ = _; unfold keepB; rw [if_pos (.inl (.inr hr))]
    have HcA := Lib.hid HCA.out
    have HcB := Lib.hid HCB.out
    have HbW := Lib.hid HBA.out
    have HO := Lib.hid HOw.out
    go_wp2_with (first
      | (refine wpList_load_g (by kernel_rfl) rfT (.tmp 2) rfl B 0 rfl [.int .i64 ev, .int .i64 mo, .slice ua pl.length uc] dd (cut_range HcA.out) HDu.out HDr.out info_rf ?_)
      | (refine wpList_store_mid rfl rfT (.tmp 4) (.tmp 23) rfl (B + 1) 0 ([.int .i64 ev, .int .i64 mo, .slice ua pl.length uc] : List Value).toArray rfl rfl (there_cut HcB.out _ (Nat.le_refl _)) info_rf (all_oneCell_toArray (by intro v hv; simp at hv; rcases hv with rfl | rfl | rfl <;> rfl)) ?_; (obtain ⟨wL, hwL⟩ : ∃ x, w1.setCells (B + 1) 0 ([.int .i64 ev, .int .i64 mo, .slice ua pl.length uc] : List Value).toArray.toList = x := ⟨_, rfl⟩); have HWL := Lib.hid hwL; (refine (congrArg (wpList _ _ _ _ _) hwL).mpr ?_); clear hwL))
    have hgL := Sl.setCells_grown (B + 1) [.int .i64 ev, .int .i64 mo, .slice ua pl.length uc] 0 w1
    have hcL : Cut (B + 1) [.int .i64 ev, .int .i64 mo, .slice ua pl.length uc] rfT (w1.setCells (B + 1) 0 [.int .i64 ev, .int .i64 mo, .slice ua pl.length uc]) := set_cut HcB.out rfl
    have HWL2 : Hid (w1.setCells (B + 1) 0 [.int .i64 ev, .int .i64 mo, .slice ua pl.length uc] = wL) := HWL.out
    rw [HWL2.out] at hgL hcL
    have hoL : OwnI wL b0 (.slice ua pl.length uc) pl := own_other HO.out hgL (fun j hj => by obtain rfl := Option.some.inj hj; exact own_apart HO.out HcB.out (by decide))
    have hbL : Below B W wL := HbW.out.grown hgL (by have := HcB.out.lt; omega) (fun j hj => by have := Option.some.inj hj; omega)
    refine bodyPost_ret (results_cell1 rfl _ _ _ (B + 1) (.agg ([.int .i64 ev, .int .i64 mo, .slice ua pl.length uc] : List Value).toArray) rfl (loadv_cut hcL und_rf info_rf)) rfl ?_
    refine ⟨.slice ua pl.length uc, rfl, ?_, ?_, ?_⟩
    · rw [HK.out]; exact hoL
    · exact .inl rfl
    · rw [HBe.out]; exact hbL
  have u2 : (p % ev == 0) = true := by rw [beq_iff_eq]; exact hr
  have u3 : (p % ev != 0) = false := by rw [bne, u2]; rfl
  have HAw : Hid (¬ away ev p) := fun h => h.elim hneg (fun h => h hr)
  go_wp2_with fail
  clear u1 u2 u3 htm y0 y1 y2 f0 f1 f2
  go_loopw [5, 6, 7] (fun v5 v6 v7 wr => ∃ (k : Nat) (v : Value), k ≤ pl.length ∧ v7 = .int .i64 (k : Int) ∧ v = v5 ∧ v6 = .bool (anyL p (pl.take k)) ∧ OwnI wr (B + 2) v (rlL p (pl.take k)) ∧ p ∉ pl.take k ∧ Below w1.heap.size w1 wr) (fun _ _ v7 _ => pl.length - (intOf v7).toNat)
  case atStart => exact ⟨0, _, Nat.zero_le _, rfl, rfl, rfl, World.ownsRow_nil _ _ _ _, by simp, Below.refl _ _⟩
  case round =>
    obtain ⟨k, v, hk, rfl, rfl, rfl, hown, hnk, hbr⟩ := hrel
    have HO5 := Lib.hid hown
    have HBr := Lib.hid hbr
    have y0 := cell_below hbr (Nat.le_refl _) HY.out.1
    have y1 := cell_below hbr (Nat.le_refl _) HY.out.2.1
    have y2 := cell_below hbr (Nat.le_refl _) HY.out.2.2
    have HNk := Lib.hid hnk
    clear hown hnk
    by_cases hlt : k < pl.length
    · have e0 := cell_below hbr (Nat.le_refl _) (HC.out k hlt)
      have x0 := fun kd w' => HI.out kd k w' hlt
      have HE0 : Hid (∀ w', Below w1.heap.size w1 w' → w'.cell? ⟨bb, o + k, none⟩ = some (.int .i64 pl[k])) := fun w' hb => cell_below hb (Nat.le_refl _) (HC.out k hlt)
      have HX0 := Lib.hid x0
      have HT := Lib.hid (List.take_succ_eq_append_getElem hlt)
      have HMm : Hid (pl[k] ∈ pl) := List.getElem_mem hlt
      have HUk : Hid (Up (pl.take k ++ [pl[k]])) := by show Up _; rw [← List.take_succ_eq_append_getElem hlt]; exact HUp.out.sublist (List.take_sublist _ _)
      have hrl := rlL_len p (pl.take k)
      have htk : (pl.take k).length = k := by rw [List.length_take]; omega
      rw [htk] at hrl
      have u3 : decide (k < pl.length) = true := decide_eq_true (by omega)
      have u1 : decide ((k : Int) < (pl.length : Int)) = true := decide_eq_true (by omega)
      have u2 : (k : Int) < (pl.length : Int) := by omega
      clear hbr
      generalize pl[k] = x at *
      by_cases hxp : x = p
      · subst hxp
        have v1 : (x == x) = true := by simp
        have v2 : decide (x = x) = true := decide_eq_true rfl
        have HK : Hid (keepB ev mo pl x = pl) := by show _ = _; unfold keepB; rw [if_pos (.inr HMm.out)]
        have HcA := Lib.hid (cut_below HCA.out HBr.out)
        have HcB := Lib.hid (cut_below HCB.out HBr.out)
        have HbW : Hid (Below B W wr) := HBA.out.trans (HBr.out.mono (by have := HSz.out; omega))
        have HO : Hid (OwnI wr b0 (.slice ua pl.length uc) pl) := ownsRow_below HOw.out HBr.out
        go_wp2_with (first
          | (refine wpList_load_g (by kernel_rfl) rfT (.tmp 2) rfl B 0 rfl [.int .i64 ev, .int .i64 mo, .slice ua pl.length uc] dd (cut_range HcA.out) HDu.out HDr.out info_rf ?_)
          | (refine wpList_store_mid rfl rfT (.tmp 4) (.tmp 38) rfl (B + 1) 0 ([.int .i64 ev, .int .i64 mo, .slice ua pl.length uc] : List Value).toArray rfl rfl (there_cut HcB.out _ (Nat.le_refl _)) info_rf (all_oneCell_toArray (by intro v hv; simp at hv; rcases hv with rfl | rfl | rfl <;> rfl)) ?_; (obtain ⟨wL, hwL⟩ : ∃ x, wr.setCells (B + 1) 0 ([.int .i64 ev, .int .i64 mo, .slice ua pl.length uc] : List Value).toArray.toList = x := ⟨_, rfl⟩); have HWL := Lib.hid hwL; (refine (congrArg (wpList _ _ _ _ _) hwL).mpr ?_); clear hwL))
        have hgL := Sl.setCells_grown (B + 1) [.int .i64 ev, .int .i64 mo, .slice ua pl.length uc] 0 wr
        have hcL : Cut (B + 1) [.int .i64 ev, .int .i64 mo, .slice ua pl.length uc] rfT (wr.setCells (B + 1) 0 [.int .i64 ev, .int .i64 mo, .slice ua pl.length uc]) := set_cut HcB.out rfl
        have HWL2 : Hid (wr.setCells (B + 1) 0 [.int .i64 ev, .int .i64 mo, .slice ua pl.length uc] = wL) := HWL.out
        rw [HWL2.out] at hgL hcL
        have hoL : OwnI wL b0 (.slice ua pl.length uc) pl := own_other HO.out hgL (fun j hj => by obtain rfl := Option.some.inj hj; exact own_apart HO.out HcB.out (by decide))
        have hbL : Below B W wL := HbW.out.grown hgL (by have := HcB.out.lt; omega) (fun j hj => by have := Option.some.inj hj; omega)
        refine bodyPost_ret (results_cell1 rfl _ _ _ (B + 1) (.agg ([.int .i64 ev, .int .i64 mo, .slice ua pl.length uc] : List Value).toArray) rfl (loadv_cut hcL und_rf info_rf)) rfl ?_
        refine ⟨.slice ua pl.length uc, rfl, ?_, ?_, ?_⟩
        · rw [HK.out]; exact hoL
        · exact .inl rfl
        · rw [HBe.out]; exact hbL
      · have v1 : (x == p) = false := by rw [beq_eq_false_iff_ne]; exact hxp
        have v2 : decide (x = p) = false := decide_eq_false hxp
        obtain ⟨L0, hL0⟩ : ∃ L0, rlL p (pl.take k) = L0 := ⟨_, rfl⟩
        have HL0 := Lib.hid hL0
        rw [hL0] at HO5 hrl
        obtain ⟨an, han⟩ : ∃ an, anyL p (pl.take k) = an := ⟨_, rfl⟩
        have HAn := Lib.hid han
        rw [han]
        have HXp := Lib.hid hxp
        clear hL0 han
        have HNk2 : Hid (p ∉ pl.take k ++ [x]) := fun h => by
          rcases List.mem_append.1 h with h | h
          · exact HNk.out h
          · exact HXp.out (by simpa using h : p = x).symm
        by_cases hgt : p < x
        · have v3 : decide (p < x) = true := decide_eq_true hgt
          obtain ⟨g1, g2⟩ := rlL_gt (l := pl.take k) hgt
          rw [HAn.out, HL0.out] at g1
          cases an with
          | true =>
            have HG1 : Hid (rlL p (pl.take k ++ [x]) = L0 ++ [x]) := g1
            have HG2 := Lib.hid g2
            clear g1 g2
            have HA : Hid ((wr.alloc (.cells #[.int .i64 x] 3)).ownsRow (B + 2) 3 1 v L0.length (L0.map zv)) := by
              have h1 : wr.ownsRow (B + 2) 3 1 v L0.length (L0.map zv) := HO5.out
              exact h1.alloc _
            have HAz : Hid (B + 2 ≤ (wr.alloc (.cells #[.int .i64 x] 3)).heap.size) := by have := HBr.out.size; have := HSz.out; show _ ≤ _; rw [World.size_alloc]; omega
            have HAb := Lib.hid ((Below.refl wr.heap.size wr).alloc (Nat.le_refl _) (.cells #[.int .i64 x] 3))
            go_wp2_with (at_builtin; refine wpList_append_src rfl (.tmp 54) (.tmp 60) 41 41 rfl (B + 2) 3 i0 (.int .i64 0) 1 8 Try.underlying41 zappend_ints hi0 hz0 hz1 hz2 rfl (by decide) (by decide) v L0.length (L0.map zv) rfl HA.out _ 1 [zv x] rfl (src_new wr [zv x] 3 1 1 rfl (by simp [Value.oneCell']) _) ?_ ?_ ?_ ?_)
            case _ => unfold maxLen; omega
            case _ => omega
            case _ => first | exact HAz.out | (have h9 := HAz.out; rw [World.size_alloc] at h9; omega)
            intro v3 w3 hown hgr _
            have HO7 : Hid (OwnI w3 (B + 2) v3 (L0 ++ [x])) := by
              show World.ownsRow _ _ _ _ _ _ _
              rw [List.map_append, List.length_append, List.length_singleton]
              exact hown
            have HB7 : Hid (Below w1.heap.size w1 w3) := (HBr.out.trans (HAb.out.mono HBr.out.size)).grown hgr (by have := HSz.out; have := HAz.out; omega) (fun i hi => by have := (HA.out.lt i hi).1; have := HSz.out; omega)
            clear hown hgr
            go_wp2_with fail
            go_roundw
            case rel => exact ⟨k + 1, v3, by omega, by go_num, rfl, by rw [HT.out, HG2.out], by rw [HT.out, HG1.out]; exact HO7.out, by rw [HT.out]; exact HNk2.out, HB7.out⟩
            case measure => simp [intOf]; omega
          | false =>
            have HG1 : Hid (rlL p (pl.take k ++ [x]) = (L0 ++ [p]) ++ [x]) := g1
            have HG2 := Lib.hid g2
            clear g1 g2
            have HA : Hid ((wr.alloc (.cells #[.int .i64 p] 3)).ownsRow (B + 2) 3 1 v L0.length (L0.map zv)) := by
              have h1 : wr.ownsRow (B + 2) 3 1 v L0.length (L0.map zv) := HO5.out
              exact h1.alloc _
            have HAz : Hid (B + 2 ≤ (wr.alloc (.cells #[.int .i64 p] 3)).heap.size) := by have := HBr.out.size; have := HSz.out; show _ ≤ _; rw [World.size_alloc]; omega
            have HAb := Lib.hid ((Below.refl wr.heap.size wr).alloc (Nat.le_refl _) (.cells #[.int .i64 p] 3))
            go_wp2_with (at_builtin; refine wpList_append_src rfl (.tmp 50) (.tmp 52) 41 41 rfl (B + 2) 3 i0 (.int .i64 0) 1 8 Try.underlying41 zappend_ints hi0 hz0 hz1 hz2 rfl (by decide) (by decide) v L0.length (L0.map zv) rfl HA.out _ 1 [zv p] rfl (src_new wr [zv p] 3 1 1 rfl (by simp [Value.oneCell']) _) ?_ ?_ ?_ ?_)
            case _ => unfold maxLen; omega
            case _ => omega
            case _ => first | exact HAz.out | (have h9 := HAz.out; rw [World.size_alloc] at h9; omega)
            intro v2 w2 hown hgr _
            have HO6 : Hid (OwnI w2 (B + 2) v2 (L0 ++ [p])) := by
              show World.ownsRow _ _ _ _ _ _ _
              rw [List.map_append, List.length_append, List.length_singleton]
              exact hown
            have HB6 : Hid (Below w1.heap.size w1 w2) := (HBr.out.trans (HAb.out.mono HBr.out.size)).grown hgr (by have := HSz.out; have := HAz.out; omega) (fun i hi => by have := (HA.out.lt i hi).1; have := HSz.out; omega)
            clear hown hgr
            clear y0 y1 y2 e0
            have y2 := cell_below HB6.out (Nat.le_refl _) HY.out.2.2
            have e0 := HE0.out w2 HB6.out
            obtain ⟨L1, hL1⟩ : ∃ L1, L0 ++ [p] = L1 := ⟨_, rfl⟩
            have hrl1 : L1.length ≤ 3000 := by rw [← hL1]; simp; omega
            rw [hL1] at HG1 HO6
            clear hL1 HA HAz HAb
            have HA : Hid ((w2.alloc (.cells #[.int .i64 x] 3)).ownsRow (B + 2) 3 1 v2 L1.length (L1.map zv)) := by
              have h1 : w2.ownsRow (B + 2) 3 1 v2 L1.length (L1.map zv) := HO6.out
              exact h1.alloc _
            have HAz : Hid (B + 2 ≤ (w2.alloc (.cells #[.int .i64 x] 3)).heap.size) := by have := HB6.out.size; have := HSz.out; show _ ≤ _; rw [World.size_alloc]; omega
            have HAb := Lib.hid ((Below.refl w2.heap.size w2).alloc (Nat.le_refl _) (.cells #[.int .i64 x] 3))
            go_wp2_with (at_builtin; refine wpList_append_src rfl (.tmp 54) (.tmp 60) 41 41 rfl (B + 2) 3 i0 (.int .i64 0) 1 8 Try.underlying41 zappend_ints hi0 hz0 hz1 hz2 rfl (by decide) (by decide) v2 L1.length (L1.map zv) rfl HA.out _ 1 [zv x] rfl (src_new w2 [zv x] 3 1 1 rfl (by simp [Value.oneCell']) _) ?_ ?_ ?_ ?_)
            case _ => unfold maxLen; omega
            case _ => omega
            case _ => first | exact HAz.out | (have h9 := HAz.out; rw [World.size_alloc] at h9; omega)
            intro v3 w3 hown hgr _
            have HO7 : Hid (OwnI w3 (B + 2) v3 (L1 ++ [x])) := by
              show World.ownsRow _ _ _ _ _ _ _
              rw [List.map_append, List.length_append, List.length_singleton]
              exact hown
            have HB7 : Hid (Below w1.heap.size w1 w3) := (HB6.out.trans (HAb.out.mono HB6.out.size)).grown hgr (by have := HSz.out; have := HAz.out; omega) (fun i hi => by have := (HA.out.lt i hi).1; have := HSz.out; omega)
            clear hown hgr
            go_wp2_with fail
            go_roundw
            case rel => exact ⟨k + 1, v3, by omega, by go_num, rfl, by rw [HT.out, HG2.out], by rw [HT.out, HG1.out]; exact HO7.out, by rw [HT.out]; exact HNk2.out, HB7.out⟩
            case measure => simp [intOf]; omega
        · have hlt2 : x < p := by omega
          have v3 : decide (p < x) = false := decide_eq_false hgt
          obtain ⟨g1, g2, g3⟩ := rlL_lt HUk.out hlt2
          rw [HL0.out] at g1
          have ga : an = false := HAn.out.symm.trans g3
          subst ga
          have HG1 := Lib.hid g1
          have HG2 := Lib.hid g2
          clear g1 g2 g3
          have HA : Hid ((wr.alloc (.cells #[.int .i64 x] 3)).ownsRow (B + 2) 3 1 v L0.length (L0.map zv)) := by
            have h1 : wr.ownsRow (B + 2) 3 1 v L0.length (L0.map zv) := HO5.out
            exact h1.alloc _
          have HAz : Hid (B + 2 ≤ (wr.alloc (.cells #[.int .i64 x] 3)).heap.size) := by have := HBr.out.size; have := HSz.out; show _ ≤ _; rw [World.size_alloc]; omega
          have HAb := Lib.hid ((Below.refl wr.heap.size wr).alloc (Nat.le_refl _) (.cells #[.int .i64 x] 3))
          go_wp2_with (at_builtin; refine wpList_append_src rfl (.tmp 54) (.tmp 60) 41 41 rfl (B + 2) 3 i0 (.int .i64 0) 1 8 Try.underlying41 zappend_ints hi0 hz0 hz1 hz2 rfl (by decide) (by decide) v L0.length (L0.map zv) rfl HA.out _ 1 [zv x] rfl (src_new wr [zv x] 3 1 1 rfl (by simp [Value.oneCell']) _) ?_ ?_ ?_ ?_)
          case _ => unfold maxLen; omega
          case _ => omega
          case _ => first | exact HAz.out | (have h9 := HAz.out; rw [World.size_alloc] at h9; omega)
          intro v3 w3 hown hgr _
          have HO7 : Hid (OwnI w3 (B + 2) v3 (L0 ++ [x])) := by
            show World.ownsRow _ _ _ _ _ _ _
            rw [List.map_append, List.length_append, List.length_singleton]
            exact hown
          have HB7 : Hid (Below w1.heap.size w1 w3) := (HBr.out.trans (HAb.out.mono HBr.out.size)).grown hgr (by have := HSz.out; have := HAz.out; omega) (fun i hi => by have := (HA.out.lt i hi).1; have := HSz.out; omega)
          clear hown hgr
          go_wp2_with fail
          go_roundw
          case rel => exact ⟨k + 1, v3, by omega, by go_num, rfl, by rw [HT.out, HG2.out], by rw [HT.out, HG1.out]; exact HO7.out, by rw [HT.out]; exact HNk2.out, HB7.out⟩
          case measure => simp [intOf]; omega
    · obtain rfl : k = pl.length := by omega
      rw [List.take_length] at HO5 HNk ⊢
      obtain ⟨an, han⟩ : ∃ an, anyL p pl = an := ⟨_, rfl⟩
      have HAn := Lib.hid han
      obtain ⟨q, hq⟩ : ∃ q, ins pl p = q := ⟨_, rfl⟩
      have HQe := Lib.hid hq
      have HEnd := Lib.hid (rlL_end p pl)
      rw [hq, han] at HEnd
      rw [han]
      obtain ⟨L0, hL0⟩ : ∃ L0, rlL p pl = L0 := ⟨_, rfl⟩
      have hrl := rlL_len p pl
      rw [hL0] at HEnd HO5 hrl
      have u3 : decide (pl.length < pl.length) = false := decide_eq_false (by omega)
      have u1 : decide ((pl.length : Int) < (pl.length : Int)) = false := decide_eq_false (by omega)
      have u2 : ¬ ((pl.length : Int) < (pl.length : Int)) := by omega
      clear han hq hL0 hbr
      go_upto_if 63 with fail
      go_cut [5, 6] (fun s5 s6 wx => ∃ v, v = s5 ∧ OwnI wx (B + 2) v q ∧ Below w1.heap.size w1 wx)
      case first =>
        cases an with
        | true =>
          go_wp2_with fail
          go_meet
          exact ⟨v, rfl, by have h1 : L0 = q := HEnd.out; rw [← h1]; exact HO5.out, HBr.out⟩
        | false =>
          have HA : Hid ((wr.alloc (.cells #[.int .i64 p] 3)).ownsRow (B + 2) 3 1 v L0.length (L0.map zv)) := by
            have h1 : wr.ownsRow (B + 2) 3 1 v L0.length (L0.map zv) := HO5.out
            exact h1.alloc _
          have HAz : Hid (B + 2 ≤ (wr.alloc (.cells #[.int .i64 p] 3)).heap.size) := by have := HBr.out.size; have := HSz.out; show _ ≤ _; rw [World.size_alloc]; omega
          have HAb := Lib.hid ((Below.refl wr.heap.size wr).alloc (Nat.le_refl _) (.cells #[.int .i64 p] 3))
          go_wp2_with (at_builtin; refine wpList_append_src rfl (.tmp 64) (.tmp 66) 41 41 rfl (B + 2) 3 i0 (.int .i64 0) 1 8 Try.underlying41 zappend_ints hi0 hz0 hz1 hz2 rfl (by decide) (by decide) v L0.length (L0.map zv) rfl HA.out _ 1 [zv p] rfl (src_new wr [zv p] 3 1 1 rfl (by simp [Value.oneCell']) _) ?_ ?_ ?_ ?_)
          case _ => unfold maxLen; omega
          case _ => omega
          case _ => first | exact HAz.out | (have h9 := HAz.out; rw [World.size_alloc] at h9; omega)
          intro v2 w2 hown hgr _
          have HO6 : Hid (OwnI w2 (B + 2) v2 (L0 ++ [p])) := by
            show World.ownsRow _ _ _ _ _ _ _
            rw [List.map_append, List.length_append, List.length_singleton]
            exact hown
          have HB6 : Hid (Below w1.heap.size w1 w2) := (HBr.out.trans (HAb.out.mono HBr.out.size)).grown hgr (by have := HSz.out; have := HAz.out; omega) (fun i hi => by have := (HA.out.lt i hi).1; have := HSz.out; omega)
          clear hown hgr
          go_wp2_with fail
          go_meet
          exact ⟨v2, rfl, by have h1 : L0 ++ [p] = q := HEnd.out; rw [← h1]; exact HO6.out, HB6.out⟩
      case rest =>
        obtain ⟨vq, rfl, hoq, hbq⟩ := hcut
        have hql : q.length = pl.length + 1 := by rw [← HQe.out]; exact ins_len HUp.out HNk.out
        have hqu : Up q := by rw [← HQe.out]; exact ins_up HUp.out p
        have hqlo : ∀ x ∈ q, 0 ≤ x ∧ x ≤ 1000000 := fun x hx => by
          rw [← HQe.out] at hx
          rcases ins_mem hx with h | rfl
          · exact HLo.out x h
          · omega
        have HKe : Hid (keepB ev mo pl p = trim mo q) := by
          show _ = _
          unfold keepB
          rw [if_neg (fun h => h.elim HAw.out HNk.out), HQe.out]
        obtain ⟨al, cl, rfl, hli⟩ := own_ints hoq
        have HOq := Lib.hid hoq
        have HBq := Lib.hid hbq
        have HQl := Lib.hid hql
        have HQlo := Lib.hid hqlo
        have hqb : q.length ≤ 1001 := by omega
        clear y0 y1 y2
        have y0 := cell_below hbq (Nat.le_refl _) HY.out.1
        have y1 := cell_below hbq (Nat.le_refl _) HY.out.2.1
        have y2 := cell_below hbq (Nat.le_refl _) HY.out.2.2
        have fA2 : wc.frozen? ⟨B, 2, none⟩ = false := (cut_below HCA.out hbq).frozen 2
        clear hoq hbq hql hqu hqlo hli u1 u2 u3
        by_cases hle2 : (q.length : Int) ≤ mo
        · have u1 : decide ((q.length : Int) ≤ mo) = true := decide_eq_true hle2
          have HK : Hid (keepB ev mo pl p = q) := by show _ = _; rw [HKe.out]; unfold trim; rw [if_pos hle2]
          obtain ⟨w2, hw2⟩ : ∃ w2, wc.setCell ⟨B, 2, none⟩ (.slice al q.length cl) = w2 := ⟨_, rfl⟩
          have hg2 : wc.grownBy w2 (some B) := by rw [← hw2]; exact Sl.setCells_grown B [.slice al q.length cl] 2 wc
          have HcA : Hid (Cut B [.int .i64 ev, .int .i64 mo, .slice al q.length cl] rfT w2) := by show Cut _ _ _ _; rw [← hw2]; exact (cut_below HCA.out HBq.out).set 2 _
          have hcB := cut_below HCB.out HBq.out
          have HcB : Hid (Cut (B + 1) [.int .i64 0, .int .i64 0, .slice none 0 0] rfT w2) := (hg2.block (B + 1) hcB.lt (by simp)).trans hcB
          have HbW : Hid (Below B W w2) := (HBA.out.trans (HBq.out.mono (by have := HSz.out; omega))).grown hg2 (by have := hcB.lt; omega) (fun j hj => by have := Option.some.inj hj; omega)
          have HO : Hid (OwnI w2 b0 (.slice al q.length cl) q) := own_other (own_base HOq.out (by have := HB0.out; omega)) hg2 (fun j hj => by obtain rfl := Option.some.inj hj; intro e; have := (HOq.out.lt _ e).1; omega)
          have HFr : Hid (∀ b, (Value.slice al q.length cl).ownBlock = some b → W.heap.size ≤ b) := fun b hb => by have := (HOq.out.lt b hb).1; have := HBe.out; omega
          have HW2 := Lib.hid hw2
          clear hw2 hg2 hcB
          go_upto_region 18 with fail
          rw [HW2.out]
          clear y0 y1 y2
          go_wp2_with (first
            | (refine wpList_load_g (by kernel_rfl) rfT (.tmp 2) rfl B 0 rfl [.int .i64 ev, .int .i64 mo, .slice al q.length cl] dd (cut_range HcA.out) HDu.out HDr.out info_rf ?_)
            | (refine wpList_store_mid rfl rfT (.tmp 4) (.tmp 75) rfl (B + 1) 0 ([.int .i64 ev, .int .i64 mo, .slice al q.length cl] : List Value).toArray rfl rfl (there_cut HcB.out _ (Nat.le_refl _)) info_rf (all_oneCell_toArray (by intro v hv; simp at hv; rcases hv with rfl | rfl | rfl <;> rfl)) ?_; (obtain ⟨wL, hwL⟩ : ∃ x, w2.setCells (B + 1) 0 ([.int .i64 ev, .int .i64 mo, .slice al q.length cl] : List Value).toArray.toList = x := ⟨_, rfl⟩); have HWL := Lib.hid hwL; (refine (congrArg (wpList _ _ _ _ _) hwL).mpr ?_); clear hwL))
          have hgL := Sl.setCells_grown (B + 1) [.int .i64 ev, .int .i64 mo, .slice al q.length cl] 0 w2
          have hcL : Cut (B + 1) [.int .i64 ev, .int .i64 mo, .slice al q.length cl] rfT (w2.setCells (B + 1) 0 [.int .i64 ev, .int .i64 mo, .slice al q.length cl]) := set_cut HcB.out rfl
          have HWL2 : Hid (w2.setCells (B + 1) 0 [.int .i64 ev, .int .i64 mo, .slice al q.length cl] = wL) := HWL.out
          rw [HWL2.out] at hgL hcL
          have hoL : OwnI wL b0 (.slice al q.length cl) q := own_other HO.out hgL (fun j hj => by obtain rfl := Option.some.inj hj; exact own_apart HO.out HcB.out (by decide))
          have hbL : Below B W wL := HbW.out.grown hgL (by have := HcB.out.lt; omega) (fun j hj => by have := Option.some.inj hj; omega)
          refine bodyPost_ret (results_cell1 rfl _ _ _ (B + 1) (.agg ([.int .i64 ev, .int .i64 mo, .slice al q.length cl] : List Value).toArray) rfl (loadv_cut hcL und_rf info_rf)) rfl ?_
          refine ⟨.slice al q.length cl, rfl, ?_, ?_, ?_⟩
          · rw [HK.out]; exact hoL
          · exact .inr HFr.out
          · rw [HBe.out]; exact hbL
        · have u1 : decide ((q.length : Int) ≤ mo) = false := decide_eq_false hle2
          have hqm : (q.length : Int) = mo + 1 := by have := HQl.out; omega
          obtain ⟨K, hK⟩ : ∃ K, lastOf mo q = K := ⟨_, rfl⟩
          have hK1 : 1 ≤ K ∧ K + 1 ≤ q.length ∧ (mo = 1 → K + 1 = q.length) ∧ (mo ≠ 1 → K + 2 = q.length) := by
            unfold lastOf at hK
            split at hK
            · rename_i h1; exact ⟨by omega, by omega, fun _ => by omega, fun h => absurd h1 h⟩
            · rename_i h1; exact ⟨by omega, by omega, fun h => absurd h h1, fun _ => by omega⟩
          obtain ⟨hk1, hk2, hk3, hk4⟩ := hK1
          have HKE := Lib.hid hK
          have HK3 := Lib.hid hk3
          have HK4 := Lib.hid hk4
          have HQm := Lib.hid hqm
          have hq2 : 2 ≤ q.length := by omega
          have hm2 : q.length = 2 ∨ mo ≠ 1 := by omega
          have HY1 := Lib.hid y1
          have HFA := Lib.hid fA2
          obtain ⟨lli, hlli⟩ : ∃ x, x = own_ints HOq.out := ⟨_, rfl⟩
          clear lli hlli
          have HLi : Hid (Ints .i64 wc al q.length cl q) := by
            obtain ⟨a9, c9, h9, h10⟩ := own_ints HOq.out
            injection h9 with e1 e2 e3
            show Ints .i64 wc al q.length cl q
            rw [e1, e3]
            exact h10
          obtain ⟨lb, lo, hlc, hlx⟩ := at_ints HLi.out
          have HLc := Lib.hid hlc
          have HLx := Lib.hid hlx
          clear hk3 hk4 hK hqm hlc hlx fA2 y0 y2
          go_wp2_with fail
          clear u1 y1
          go_loopw [8, 9, 10] (fun v8 v9 v10 wr => ∃ j : Nat, j + 1 ≤ q.length ∧ v10 = .int .i64 ((j : Int) + 1) ∧ v8 = .int .i64 (bst q (min j K)).1 ∧ v9 = .int .i64 (bst q (min j K)).2 ∧ Below wc.heap.size wc wr) (fun _ _ v10 _ => q.length - (intOf v10).toNat)
          case atStart => exact ⟨0, by omega, rfl, by rw [Nat.zero_min]; rfl, by rw [Nat.zero_min]; rfl, Below.refl _ _⟩
          case round =>
            obtain ⟨j, hj, rfl, rfl, rfl, hbr⟩ := hrel
            have HBr := Lib.hid hbr
            have y1 := cell_below hbr (Nat.le_refl _) HY1.out
            by_cases hlt : j + 1 < q.length
            · have eA := cell_below hbr (Nat.le_refl _) (HLc.out j (by omega))
              have eB := cell_below hbr (Nat.le_refl _) (HLc.out (j + 1) hlt)
              have xA := fun kd w' => HLx.out kd j w' (by omega)
              have xB := fun kd w' => HLx.out kd (j + 1) w' hlt
              push_cast at xB
              have lA := HQlo.out q[j] (List.getElem_mem _)
              have lB := HQlo.out q[j + 1] (List.getElem_mem _)
              have e5 : (j : Int) + 1 - 1 = (j : Int) := by omega
              have u1 : decide ((j : Int) + 1 < (q.length : Int)) = true := decide_eq_true (by omega)
              have u2 : (j : Int) + 1 < (q.length : Int) := by omega
              have hgA : q.getD j 0 = q[j] := by rw [List.getD_eq_getElem?_getD, List.getElem?_eq_getElem (by omega)]; rfl
              have hgB : q.getD (j + 1) 0 = q[j + 1] := by rw [List.getD_eq_getElem?_getD, List.getElem?_eq_getElem hlt]; rfl
              clear hbr
              by_cases hlast : j + 1 + 1 = q.length
              · have t1 : ((j : Int) + 1 == (q.length : Int) - 1) = true := by rw [beq_iff_eq]; omega
                have t2 : decide ((j : Int) + 1 = (q.length : Int) - 1) = true := decide_eq_true (by omega)
                have t3 : (j : Int) + 1 = (q.length : Int) - 1 := by omega
                by_cases hm1 : mo = 1
                · have hj0 : j = 0 := by have := HK3.out hm1; omega
                  have hK0 : K = 1 := by have := HK3.out hm1; omega
                  have HG : Hid (bst q (min (j + 1) K) = (((j : Int) + 1), q[j + 1] - q[j])) := by
                    show _ = _
                    have hgp : gapL q (j + 1) = q[j + 1] - q[j] := by
                      unfold gapL
                      rw [if_pos hlast, Nat.add_sub_cancel, hgA, hgB]
                    rw [← hgp, hK0, hj0]
                    rfl
                  have HB0 : Hid (bst q (min j K) = (-1, 0)) := by show _ = _; rw [hj0, Nat.zero_min]; rfl
                  have v1 : decide (1 < mo) = false := decide_eq_false (by omega)
                  rw [HB0.out]
                  generalize q[j] = zA at *
                  generalize q[j + 1] = zB at *
                  clear t3 hlast hj0 hgA hgB
                  go_wp2_with fail
                  go_roundw
                  case rel => exact ⟨j + 1, by omega, by go_num, by rw [HG.out], by rw [HG.out], HBr.out⟩
                  case measure => simp [intOf]; omega
                · have hKj : K = j := by have := HK4.out hm1; omega
                  have v1 : decide (1 < mo) = true := decide_eq_true (by omega)
                  have hmin : min (j + 1) K = min j K := by omega
                  clear t3 hlast
                  go_wp2_with fail
                  go_roundw
                  case rel => exact ⟨j + 1, by omega, by go_num, by rw [hmin], by rw [hmin], HBr.out⟩
                  case measure => simp [intOf]; omega
              · have h2 : j + 1 + 1 < q.length := by omega
                have t1 : ((j : Int) + 1 == (q.length : Int) - 1) = false := by rw [beq_eq_false_iff_ne]; omega
                have t2 : decide ((j : Int) + 1 = (q.length : Int) - 1) = false := decide_eq_false (by omega)
                have t3 : ¬ (j : Int) + 1 = (q.length : Int) - 1 := by omega
                have eC := cell_below HBr.out (Nat.le_refl _) (HLc.out (j + 1 + 1) h2)
                have xC := fun kd w' => HLx.out kd (j + 1 + 1) w' h2
                push_cast at xC
                have xD : ∀ (kd : IntKind) (w' : World), (Instr.indexAt 41 (.slice al q.length cl) (.int kd ((j : Int) + 2))).run Try.prog w' = .ok (.pointer (some ⟨lb, lo + (j + 1 + 1), none⟩)) w' := fun kd w' => by
                  have := HLx.out kd (j + 1 + 1) w' h2
                  rw [show ((j + 1 + 1 : Nat) : Int) = (j : Int) + 2 by omega] at this
                  exact this
                have lC := HQlo.out q[j + 1 + 1] (List.getElem_mem _)
                have hgp : gapL q (j + 1) = q[j + 1 + 1] - q[j] := by
                  unfold gapL
                  rw [if_neg (by omega), Nat.add_sub_cancel, hgA, List.getD_eq_getElem?_getD, List.getElem?_eq_getElem h2]
                  rfl
                have hmk : min (j + 1) K = j + 1 ∧ min j K = j := by
                  have := HK3.out
                  have := HK4.out
                  by_cases hm1 : mo = 1
                  · have := HK3.out hm1; omega
                  · have := HK4.out hm1; omega
                rw [hmk.2]
                have HMk := Lib.hid hmk.1
                clear hgA hgB hmk
                generalize q[j] = zA at *
                generalize q[j + 1] = zB at *
                generalize q[j + 1 + 1] = zC at *
                rcases Nat.eq_zero_or_pos j with hj0 | hjp
                · have HG : Hid (bst q (min (j + 1) K) = (((j : Int) + 1), zC - zA)) := by
                    show _ = _
                    rw [HMk.out, ← hgp, hj0]
                    rfl
                  have HB0 : Hid (bst q j = (-1, 0)) := by show _ = _; rw [hj0]; rfl
                  rw [HB0.out]
                  clear t3 hj0 hgp
                  go_wp2_with fail
                  go_roundw
                  case rel => exact ⟨j + 1, by omega, by go_num, by rw [HG.out], by rw [HG.out], HBr.out⟩
                  case measure => simp [intOf]; omega
                · obtain ⟨c, hc⟩ : ∃ c, j = c + 1 := ⟨j - 1, by omega⟩
                  have HB0 : Hid (bst q j = ((bestTo q c : Int), gapL q (bestTo q c))) := by show _ = _; rw [hc]; rfl
                  have HG : Hid (bst q (min (j + 1) K) = if zC - zA < gapL q (bestTo q c) then (((j : Int) + 1), zC - zA) else ((bestTo q c : Int), gapL q (bestTo q c))) := by
                    show _ = _
                    rw [HMk.out, ← hgp]
                    subst hc
                    show ((bestTo q (c + 1) : Int), gapL q (bestTo q (c + 1))) = _
                    rw [bestTo_succ]
                    by_cases hlt9 : gapL q (c + 2) < gapL q (bestTo q c)
                    · rw [if_pos hlt9, if_pos hlt9]; rfl
                    · rw [if_neg hlt9, if_neg hlt9]
                  rw [HB0.out]
                  have hbc := bestTo_ge q c
                  generalize gapL q (bestTo q c) = g0 at *
                  generalize bestTo q c = bc at *
                  have w1 : decide ((bc : Int) < 0) = false := decide_eq_false (by omega)
                  have w2 : ¬ (bc : Int) < 0 := by omega
                  clear t3 hc hgp hjp hbc
                  by_cases hlt9 : zC - zA < g0
                  · rw [if_pos hlt9] at HG
                    have w3 : decide (zC - zA < g0) = true := decide_eq_true hlt9
                    go_wp2_with fail
                    go_roundw
                    case rel => exact ⟨j + 1, by omega, by go_num, by rw [HG.out], by rw [HG.out], HBr.out⟩
                    case measure => simp [intOf]; omega
                  · rw [if_neg hlt9] at HG
                    have w3 : decide (zC - zA < g0) = false := decide_eq_false hlt9
                    go_wp2_with fail
                    go_roundw
                    case rel => exact ⟨j + 1, by omega, by go_num, by rw [HG.out], by rw [HG.out], HBr.out⟩
                    case measure => simp [intOf]; omega
            · have hje : j + 1 = q.length := by omega
              have hje2 : (j : Int) + 1 = (q.length : Int) := by omega
              obtain ⟨k0, hk0⟩ : ∃ k0, K = k0 + 1 := ⟨K - 1, by omega⟩
              obtain ⟨b, hb⟩ : ∃ b, bestTo q k0 = b := ⟨_, rfl⟩
              have hbb := bestTo_ge q k0
              rw [hb] at hbb
              have hbs : bst q (min j K) = ((b : Int), gapL q b) := by
                rw [show min j K = k0 + 1 by omega, ← hb]
                rfl
              rw [hbs, hje2]
              have HKp : Hid (keepB ev mo pl p = q.eraseIdx b) := by
                show _ = _
                rw [HKe.out]
                unfold trim
                rw [if_neg (by omega), HKE.out, hk0, Nat.add_sub_cancel, hb]
              have hown2 : OwnI wr (B + 2) (.slice al q.length cl) q := ownsRow_below HOq.out HBr.out
              obtain ⟨g, cap, cur, hale, hgb, hg, hcn, hcm, hcl, hcx⟩ := Sl.own_row hown2 (by omega)
              injection hale with e1 e2 e3
              subst e1
              subst e3
              rw [Nat.mul_one] at hcl hcx
              have hgl : g < wr.heap.size := (Array.getElem?_eq_some_iff.1 hg).1
              have u1 : decide ((q.length : Int) < (q.length : Int)) = false := decide_eq_false (by omega)
              have u2 : ¬ (q.length : Int) < (q.length : Int) := by omega
              have hbl : b + 1 ≤ q.length := by omega
              have hcells : ∀ w', Below wr.heap.size wr w' → ∀ i, i < q.length → w'.cell? ⟨g, i, none⟩ = some (zv (q.getD i 0)) := fun w' hb i hi => by
                have h1 : w'.heap[g]? = some (.cells cur.toArray 3 (0, 0)) := (hb.block g hgl).trans hg
                rw [Sl.row_cell h1]
                have h2 : (cur.take q.length)[i]? = some (zv (q.getD i 0)) := by rw [hcx, List.getElem?_map, List.getD_eq_getElem?_getD, List.getElem?_eq_getElem hi]; rfl
                rwa [List.getElem?_take, if_pos hi] at h2
              have HCl := Lib.hid hcells
              have HSr : Hid (Base.Src Try.prog wr 1 (.slice (some ⟨g, 0, none⟩) b cl) b ((q.take b).map zv)) := by
                refine src_cells (b := g) (off := 0) (by rw [List.length_map, List.length_take]; omega) (fun u hu => by obtain ⟨z, _, rfl⟩ := List.mem_map.1 hu; rfl) (.inr rfl) (fun i u hu => ?_)
                rw [List.getElem?_map, List.getElem?_take] at hu
                split at hu
                · rename_i hib
                  rw [Nat.zero_add, HCl.out wr (Below.refl _ _) i (by omega)]
                  rw [List.getElem?_eq_getElem (by omega)] at hu
                  rw [List.getD_eq_getElem?_getD, List.getElem?_eq_getElem (by omega)]
                  exact hu
                · cases hu
              have HN0 : Hid (wr.ownsRow wr.heap.size 3 1 (.slice none 0 0) 0 []) := World.ownsRow_nil _ _ _ _
              have hbc : b ≤ cl := by omega
              have hbc1 : b + 1 ≤ cl := by omega
              unfold maxLen at hcm
              have HGl := Lib.hid hgl
              have HCn := Lib.hid hcn
              clear hbs hown2 hg hgb hcl hcx hcells hgl hb hk0 hbr
              go_wp2_with (at_builtin; refine wpList_append_src rfl (.tmp 125) (.tmp 128) 41 41 rfl wr.heap.size 3 i0 (.int .i64 0) 1 8 Try.underlying41 zappend_ints hi0 hz0 hz1 hz2 rfl (by decide) (by decide) (.slice none 0 0) 0 [] rfl HN0.out _ b ((q.take b).map zv) rfl HSr.out ?_ ?_ ?_ ?_)
              case _ => unfold maxLen; omega
              case _ => omega
              intro v6 w6 hown6 hgr6 _
              have hb6 : Below wr.heap.size wr w6 := (Below.refl wr.heap.size wr).grown hgr6 (Nat.le_refl _) (fun i hi => by cases hi)
              have HO6 : Hid (w6.ownsRow wr.heap.size 3 1 v6 b ((q.take b).map zv)) := by
                show World.ownsRow _ _ _ _ _ _ _
                rw [List.map_take]
                exact hown6
              have HB6 := Lib.hid hb6
              obtain ⟨A, hA, hsrc⟩ : ∃ A : Addr, (if cl = b + 1 then (some ⟨g, 0, none⟩ : Option Addr) else some ⟨g, b + 1, none⟩) = some A ∧ Hid (Base.Src Try.prog w6 1 (.slice (some A) (q.length - (b + 1)) (cl - (b + 1))) (q.length - (b + 1)) ((q.drop (b + 1)).map zv)) := by
                by_cases hcb : cl = b + 1
                · refine ⟨⟨g, 0, none⟩, by rw [if_pos hcb], ?_⟩
                  have h0 : q.length - (b + 1) = 0 := by have := HCn.out; omega
                  show Base.Src _ _ _ _ _ _
                  have h1 : (q.drop (b + 1)).map zv = [] := by rw [List.drop_of_length_le (by omega)]; rfl
                  rw [h0, h1]
                  exact src_cells (b := g) (off := 0) rfl (fun u hu => by cases hu) (.inr rfl) (fun i u hu => by simp at hu)
                · refine ⟨⟨g, b + 1, none⟩, by rw [if_neg hcb], ?_⟩
                  show Base.Src _ _ _ _ _ _
                  refine src_cells (b := g) (off := b + 1) (by rw [List.length_map, List.length_drop]; omega) (fun u hu => by obtain ⟨z, _, rfl⟩ := List.mem_map.1 hu; rfl) (.inr rfl) (fun i u hu => ?_)
                  rw [List.getElem?_map, List.getElem?_drop] at hu
                  have hil : b + 1 + i < q.length := by
                    rcases Nat.lt_or_ge (b + 1 + i) q.length with h | h
                    · exact h
                    · rw [List.getElem?_eq_none h] at hu; cases hu
                  rw [HCl.out w6 HB6.out _ hil, List.getD_eq_getElem?_getD]
                  rw [List.getElem?_eq_getElem hil] at hu ⊢
                  exact hu
              have h01 : (0 : Int) ≤ (b : Int) + 1 := by omega
              have h02 : (b : Int) + 1 ≤ (q.length : Int) := by omega
              have htn : ((b : Int) + 1).toNat = b + 1 := by omega
              clear hown6 hgr6 hb6
              go_wp2_with (at_builtin; refine wpList_append_src rfl (.tmp 130) (.tmp 134) 41 41 rfl wr.heap.size 3 i0 (.int .i64 0) 1 8 Try.underlying41 zappend_ints hi0 hz0 hz1 hz2 rfl (by decide) (by decide) v6 b ((q.take b).map zv) rfl HO6.out _ (q.length - (b + 1)) ((q.drop (b + 1)).map zv) rfl hsrc.out ?_ ?_ ?_ ?_)
              case _ => unfold maxLen; omega
              case _ => omega
              case _ => exact HB6.out.size
              intro v8 w8 hown8 hgr8 _
              have hel : (q.eraseIdx b).length = b + (q.length - (b + 1)) := by rw [List.length_eraseIdx, if_pos (by omega)]; omega
              have ho8 : OwnI w8 wr.heap.size v8 (q.eraseIdx b) := by
                show World.ownsRow _ _ _ _ _ _ _
                rw [hel, List.eraseIdx_eq_take_drop_succ, List.map_append, List.map_take, List.map_drop]
                exact hown8
              have hb8 : Below wr.heap.size wr w8 := HB6.out.grown hgr8 HB6.out.size (fun i hi => (HO6.out.lt i hi).1)
              obtain ⟨a8, c8, rfl, _⟩ := own_ints ho8
              obtain ⟨n8, hn8⟩ : ∃ n8, (q.eraseIdx b).length = n8 := ⟨_, rfl⟩
              rw [hn8] at ho8 ⊢
              have hbw : Below w1.heap.size w1 w8 := (HBq.out.trans (HBr.out.mono HBq.out.size)).trans (hb8.mono (by have := HBq.out.size; have := HBr.out.size; omega))
              obtain ⟨w9, hw9⟩ : ∃ w9, w8.setCell ⟨B, 2, none⟩ (.slice a8 n8 c8) = w9 := ⟨_, rfl⟩
              have hg9 : w8.grownBy w9 (some B) := by rw [← hw9]; exact Sl.setCells_grown B [.slice a8 n8 c8] 2 w8
              have HcA : Hid (Cut B [.int .i64 ev, .int .i64 mo, .slice a8 n8 c8] rfT w9) := by show Cut _ _ _ _; rw [← hw9]; exact (cut_below HCA.out hbw).set 2 _
              have hcB := cut_below HCB.out hbw
              have HcB : Hid (Cut (B + 1) [.int .i64 0, .int .i64 0, .slice none 0 0] rfT w9) := (hg9.block (B + 1) hcB.lt (by simp)).trans hcB
              have HbW : Hid (Below B W w9) := (HBA.out.trans (hbw.mono (by have := HSz.out; omega))).grown hg9 (by have := hcB.lt; omega) (fun j hj => by have := Option.some.inj hj; omega)
              have hwrB : B + 2 ≤ wr.heap.size := by have := HSz.out; have := HBq.out.size; have := HBr.out.size; omega
              have HO : Hid (OwnI w9 b0 (.slice a8 n8 c8) (q.eraseIdx b)) := own_other (own_base ho8 (by have := HB0.out; omega)) hg9 (fun j hj => by obtain rfl := Option.some.inj hj; intro e; have := (ho8.lt _ e).1; omega)
              have HFr : Hid (∀ b, (Value.slice a8 n8 c8).ownBlock = some b → W.heap.size ≤ b) := fun b hb => by have := (ho8.lt b hb).1; have := HBe.out; omega
              have HW9 := Lib.hid hw9
              have cA := (cut_below HCA.out hbw)
              have y2 : w8.cell? ⟨B, 2, none⟩ = some (.slice ua pl.length uc) := cA.cell 2
              have f2 : w8.frozen? ⟨B, 2, none⟩ = false := cA.frozen 2
              clear hown8 hgr8 hel ho8 hb8 hn8 hbw hw9 hg9 hcB cA hA hsrc
              go_upto_region 36 with fail
              rw [HW9.out]
              clear y2 f2
              go_wp2_with (first
                | (refine wpList_load_g (by kernel_rfl) rfT (.tmp 2) rfl B 0 rfl [.int .i64 ev, .int .i64 mo, .slice a8 n8 c8] dd (cut_range HcA.out) HDu.out HDr.out info_rf ?_)
                | (refine wpList_store_mid rfl rfT (.tmp 4) (.tmp 138) rfl (B + 1) 0 ([.int .i64 ev, .int .i64 mo, .slice a8 n8 c8] : List Value).toArray rfl rfl (there_cut HcB.out _ (Nat.le_refl _)) info_rf (all_oneCell_toArray (by intro v hv; simp at hv; rcases hv with rfl | rfl | rfl <;> rfl)) ?_; (obtain ⟨wL, hwL⟩ : ∃ x, w9.setCells (B + 1) 0 ([.int .i64 ev, .int .i64 mo, .slice a8 n8 c8] : List Value).toArray.toList = x := ⟨_, rfl⟩); have HWL := Lib.hid hwL; (refine (congrArg (wpList _ _ _ _ _) hwL).mpr ?_); clear hwL))
              have hgL := Sl.setCells_grown (B + 1) [.int .i64 ev, .int .i64 mo, .slice a8 n8 c8] 0 w9
              have hcL : Cut (B + 1) [.int .i64 ev, .int .i64 mo, .slice a8 n8 c8] rfT (w9.setCells (B + 1) 0 [.int .i64 ev, .int .i64 mo, .slice a8 n8 c8]) := set_cut HcB.out rfl
              have HWL2 : Hid (w9.setCells (B + 1) 0 [.int .i64 ev, .int .i64 mo, .slice a8 n8 c8] = wL) := HWL.out
              rw [HWL2.out] at hgL hcL
              have hoL : OwnI wL b0 (.slice a8 n8 c8) (q.eraseIdx b) := own_other HO.out hgL (fun j hj => by obtain rfl := Option.some.inj hj; exact own_apart HO.out HcB.out (by decide))
              have hbL : Below B W wL := HbW.out.grown hgL (by have := HcB.out.lt; omega) (fun j hj => by have := Option.some.inj hj; omega)
              refine bodyPost_ret (results_cell1 rfl _ _ _ (B + 1) (.agg ([.int .i64 ev, .int .i64 mo, .slice a8 n8 c8] : List Value).toArray) rfl (loadv_cut hcL und_rf info_rf)) rfl ?_
              refine ⟨.slice a8 n8 c8, rfl, ?_, ?_, ?_⟩
              · rw [HKp.out]; exact hoL
              · exact .inr HFr.out
              · rw [HBe.out]; exact hbL
end Go.Proofs.Ytmhofdoifgfjfaa
