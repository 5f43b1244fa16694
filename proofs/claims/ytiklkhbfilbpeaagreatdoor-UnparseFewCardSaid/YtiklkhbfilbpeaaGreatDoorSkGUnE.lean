/-
  Unparse: a tree is shown, a node in a line. Conditions: as each contract says.
  Unparse: a node in a line; the document's example. Conditions: as each contract says.
  Unparse: what is known of a script's tree that is shown. Conditions: as each law says.
-/
import Derived.Test.YtiklkhbfilbpeaaGreatDoorSkGUnD
import Derived.Test.YtiklkhbfilbpeaaGreatDoorSkLxRead
import Derived.Test.YtiklkhbfilbpeaaGreatDoorSkGSyC
import Derived.Test.YtiklkhbfilbpeaaGreatDoorSkGSyG
import Derived.Test.YtiklkhbfilbpeaaGreatDoorSkGUnA
import Derived.Test.YtiklkhbfilbpeaaGreatDoorSkSyGood
set_option linter.unusedVariables false
set_option linter.unusedSimpArgs false
set_option maxRecDepth 100000
namespace Go.Proofs.YtiklkhbfilbpeaaGreatDoor.Ux
open Go.RowKit Base Lx Sy Sx Un
/-- No node is so far behind. -/
theorem node_high (l : List Nd) (b B : Nat) (tv : Value) (k : Nat) (h : l.length ≤ k) (hk : k ≤ 1000000) : KidC l b B tv (k : Int) (fun s => s) 0 := by
  intro W bv s hp ht hl
  obtain ⟨ta, tc, htv, b1, off, hnd, hix⟩ := nodes_at ht.row
  obtain ⟨L, hL⟩ : ∃ L, l.length = L := ⟨_, rfl⟩
  rw [hL] at htv h
  subst htv
  obtain ⟨aa, haa⟩ := hp.any
  have p0 := (pr_cells haa.box).1.1
  have HP := Lib.hid hp
  clear hp ht hl hnd hix haa hL
  have a1 : decide ((k : Int) < (0 : Int)) = false := decide_eq_false (by omega)
  have a2 : ¬ ((k : Int) < (0 : Int)) := by omega
  have d3 : decide (L ≤ k) = true := decide_eq_true (by omega)
  have d1 : decide ((L : Int) ≤ (k : Int)) = true := decide_eq_true (by omega)
  have d2 : (L : Int) ≤ (k : Int) := by omega
  go_enter Tryz.func14, Tryz.ntmps14
  go_wp2_with fail
  go_end0
  exact ⟨bv, rfl, Sx.Turn.refl _ _ _, HP.out⟩
/-- A printer is made. -/
theorem pr_new {W : World} {tv : Value} : ∃ w1 b, W.alloc (.cells #[tv, .pointer none, .slice none 0 0, .string ⟨#[]⟩] prT) = w1 ∧ W.heap.size = b ∧ Pr w1 b W.heap.size tv (.slice none 0 0) ([], []) ∧ Below W.heap.size W w1 := by
  obtain ⟨w1, N, h1, h2, h3, h4, h5⟩ := new_blk W #[tv, .pointer none, .slice none 0 0, .string ⟨#[]⟩] prT
  refine ⟨w1, N, h1, h2, .inl ⟨h3, by omega, ?_⟩, by rw [h2]; exact h4⟩
  exact ⟨rfl, .inl ⟨rfl, rfl⟩⟩
/-- What is asked of a tree that is shown. -/
structure TreeOk (l : List Nd) : Prop where
  tr : Tr l
  few : l.length ≤ 50000
  small : ∀ n ∈ l, NSmall n
  cost : (l.map (accL.nodeC l)).sum ≤ big
theorem tree_nil : TreeOk [] := ⟨⟨fun j h => absurd h (Nat.not_lt_zero _), fun n h => absurd h List.not_mem_nil, fun i h => absurd h (Nat.not_lt_zero _)⟩, by decide, fun n h => absurd h List.not_mem_nil, by decide⟩
set_option maxHeartbeats 1000000 in
theorem show_calls (W : World) (B0 : Nat) (P0 : Nat → Prop) (tv : Value) (l : List Nd) (hr : RowN W B0 P0 tv l) (hP : ∀ g, P0 g → g < W.heap.size) (hl : TreeOk l) : Calls Tryz.prog 7 #[.agg #[tv]] W fun r W' => r = .returned (.string (str (showL l))) ∧ Below W.heap.size W W' := by
  have htr : TrAt W W.heap.size tv l := by
    refine ⟨(hr.mono (Nat.zero_le _)).less (fun g h1 h2 => h2), fun g hg => ?_⟩
    obtain ⟨zs, _, h2, _⟩ := hr
    exact (h2.lt g hg).2
  obtain ⟨ta, tc, htv, _⟩ := nodes_at hr
  obtain ⟨L, hL⟩ : ∃ L, l.length = L := ⟨_, rfl⟩
  rw [hL] at htv
  subst htv
  obtain ⟨wa, T, hwa, hT, hxa, hba, hsa⟩ := new_blk W #[.slice ta L tc] 25
  obtain ⟨w1, b, hw1, hb1, hp1, hbb⟩ := pr_new (W := wa) (tv := .slice ta L tc)
  have HP1 := Lib.hid hp1
  have HB1 : Hid (Below W.heap.size W w1) := by show Below _ _ _; rw [hT]; exact hba.trans (hbb.mono (by omega))
  have HTr1 : Hid (TrAt w1 wa.heap.size (.slice ta L tc) l) := by
    have h1 : TrAt w1 W.heap.size (.slice ta L tc) l := htr.below HB1.out
    have hsz : W.heap.size ≤ wa.heap.size := by omega
    exact ⟨h1.row.less (fun g h2 _ => by omega), fun g hg => by have := h1.low g hg; omega⟩
  have hx1 : w1.heap[T]? = some (.cells #[.slice ta L tc] 25) := (hbb.block T (Array.getElem?_eq_some_iff.1 hxa).1).trans hxa
  obtain ⟨m0, n0⟩ := cell_of hx1
  obtain ⟨ma, na⟩ := cell_of hxa
  have hLn : L ≤ 50000 := by rw [← hL]; exact hl.few
  have HL := Lib.hid hL
  have HOk := Lib.hid hl
  have HRoot := Lib.hid (root_calls w1 ta L tc (by omega))
  have HSz : Hid (W.heap.size ≤ wa.heap.size) := by show _ ≤ _; omega
  clear hr hP htr hxa hba hsa hp1 hbb hl hL hx1
  go_enter Tryz.func7, Tryz.ntmps7
  go_wp2_with fail
  refine HRoot.out.mono ?_
  rintro r w2 ⟨rfl, hb2⟩
  have HP2 : Hid (Pr w2 b wa.heap.size (.slice ta L tc) (.slice none 0 0) ([], [])) := HP1.out.below hb2
  have HTr2 : Hid (TrAt w2 wa.heap.size (.slice ta L tc) l) := HTr1.out.below (hb2.mono HP1.out.size)
  have HB2 : Hid (Below W.heap.size W w2) := HB1.out.trans (hb2.mono HB1.out.size)
  have HKid : Hid (Calls Tryz.prog 14 #[.pointer (some ⟨b, 0, none⟩), .int .i64 ((L : Int) - 1)] w2 fun r W' => ∃ bv' s', r = .returned (.tuple #[]) ∧ Sx.Turn b (.slice none 0 0) w2 bv' W' ∧ Pr W' b wa.heap.size (.slice ta L tc) bv' s' ∧ s'.1 = showL l) := by
    by_cases hz : L = 0
    · have hnil : l = [] := List.eq_nil_of_length_eq_zero (HL.out.trans hz)
      have h1 := node_neg l b wa.heap.size (.slice ta L tc) w2 (.slice none 0 0) ([], []) HP2.out HTr2.out (by decide)
      have e : (L : Int) - 1 = -1 := by omega
      rw [e]
      refine h1.mono ?_
      rintro r W' ⟨bv', h2, h3, h4⟩
      exact ⟨bv', _, h2, h3, h4, by rw [hnil]; rfl⟩
    · have hln : l ≠ [] := fun e => hz (by rw [← HL.out, e]; rfl)
      have h1 := kid_all l b wa.heap.size (.slice ta L tc) HOk.out.tr HOk.out.few HOk.out.small (L - 1) (by rw [HL.out]; omega) w2 (.slice none 0 0) ([], []) HP2.out HTr2.out (by
        have := tree_sum (c := accL.nodeC l) HOk.out.tr hln
        rw [HL.out] at this
        rw [this]
        have h2 := HOk.out.cost
        show 0 + _ ≤ big
        omega)
      have e : (L : Int) - 1 = ((L - 1 : Nat) : Int) := by omega
      rw [e]
      refine h1.mono ?_
      rintro r W' ⟨bv', h2, h3, h4⟩
      refine ⟨bv', _, h2, h3, h4, ?_⟩
      unfold showL
      rw [if_neg hln, HL.out]
  clear hb2 m0 n0 ma na hw1 hwa
  go_wp2_with fail
  refine HKid.out.mono ?_
  rintro r w3 ⟨bv3, s3, rfl, ht3, hp3, hs3⟩
  have HB3 : Hid (Below W.heap.size W w3) := HB2.out.trans ((turn_low HP2.out ht3).mono HSz.out)
  have HStr := Lib.hid (string_calls w3 b wa.heap.size (.slice ta L tc) bv3 s3 hp3)
  rw [hs3] at HStr
  clear ht3 hp3 hs3
  go_wp2_with fail
  refine HStr.out.mono ?_
  rintro r w4 ⟨rfl, hb4⟩
  have HB4 : Hid (Below W.heap.size W w4) := HB3.out.trans (hb4.mono HSz.out)
  clear hb4
  go_wp2
  go_ret
  exact ⟨rfl, HB4.out⟩
end Go.Proofs.YtiklkhbfilbpeaaGreatDoor.Ux
set_option linter.unusedVariables false
set_option linter.unusedSimpArgs false
set_option maxRecDepth 100000
namespace Go.Proofs.YtiklkhbfilbpeaaGreatDoor.Ux
open Go.RowKit Base Lx Sy Sx Un
def lineOf (t : Nm) : Nm := match cutAt 10 t with
  | none => t
  | some x => x.1
set_option maxHeartbeats 1000000 in
theorem lineN_calls (W : World) (B0 : Nat) (P0 : Nat → Prop) (tv : Value) (l : List Nd) (hr : RowN W B0 P0 tv l) (hP : ∀ g, P0 g → g < W.heap.size) (hL5 : l.length ≤ 50000) (k : Nat) (f : PS → PS) (c : Nat) (hc : c ≤ 1000000) (hk : ∀ (b B : Nat), KidC l b B tv (k : Int) f c) (hlen : (f ([], [])).1.length ≤ 1000000) : Calls Tryz.prog 10 #[.agg #[tv], .int .i64 (k : Int)] W fun r W' => r = .returned (.string (str (lineOf (f ([], [])).1))) ∧ Below W.heap.size W W' := by
  have htr : TrAt W W.heap.size tv l := by
    refine ⟨(hr.mono (Nat.zero_le _)).less (fun g h1 h2 => h2), fun g hg => ?_⟩
    obtain ⟨zs, _, h2, _⟩ := hr
    exact (h2.lt g hg).2
  have HK := Lib.hid hk
  obtain ⟨ta, tc, htv, _⟩ := nodes_at hr
  obtain ⟨L, hL⟩ : ∃ L, l.length = L := ⟨_, rfl⟩
  rw [hL] at htv
  subst htv
  obtain ⟨wa, T, hwa, hT, hxa, hba, hsa⟩ := new_blk W #[.slice ta L tc] 25
  obtain ⟨w1, b, hw1, hb1, hp1, hbb⟩ := pr_new (W := wa) (tv := .slice ta L tc)
  have HP1 := Lib.hid hp1
  have HB1 : Hid (Below W.heap.size W w1) := by show Below _ _ _; rw [hT]; exact hba.trans (hbb.mono (by omega))
  have HTr1 : Hid (TrAt w1 wa.heap.size (.slice ta L tc) l) := by
    have h1 : TrAt w1 W.heap.size (.slice ta L tc) l := htr.below HB1.out
    have hsz : W.heap.size ≤ wa.heap.size := by omega
    exact ⟨h1.row.less (fun g h2 _ => by omega), fun g hg => by have := h1.low g hg; omega⟩
  have hx1 : w1.heap[T]? = some (.cells #[.slice ta L tc] 25) := (hbb.block T (Array.getElem?_eq_some_iff.1 hxa).1).trans hxa
  obtain ⟨m0, n0⟩ := cell_of hx1
  obtain ⟨ma, na⟩ := cell_of hxa
  have HSz : Hid (W.heap.size ≤ wa.heap.size) := by show _ ≤ _; omega
  have HLen := Lib.hid hlen
  have HKid := Lib.hid (hk b wa.heap.size w1 (.slice none 0 0) ([], []) HP1.out HTr1.out (by show 0 + c ≤ big; unfold big; omega))
  clear hr hP htr hxa hba hsa hp1 hbb hL hx1 hk hlen hL5
  go_enter Tryz.func10, Tryz.ntmps10
  go_wp2_with fail
  refine HKid.out.mono ?_
  rintro r w3 ⟨bv3, rfl, ht3, hp3⟩
  have HB3 : Hid (Below W.heap.size W w3) := HB1.out.trans ((turn_low HP1.out ht3).mono HSz.out)
  have HStr := Lib.hid (string_calls w3 b wa.heap.size (.slice ta L tc) bv3 _ hp3)
  clear ht3 hp3 m0 n0 ma na hw1 hwa
  go_wp2_with fail
  refine HStr.out.mono ?_
  rintro r w4 ⟨rfl, hb4⟩
  have HB4 : Hid (Below W.heap.size W w4) := HB3.out.trans (hb4.mono HSz.out)
  obtain ⟨o, ho⟩ : ∃ o, (f ([], [])).1 = o := ⟨_, rfl⟩
  have hol : o.length ≤ 1000000 := by rw [← ho]; exact HLen.out
  have HCut := Lib.hid (cut_calls w4 o 10 hol)
  have HO := Lib.hid ho
  rw [ho]
  clear hb4 ho
  cases hcut : cutAt 10 o with
  | none =>
    rw [hcut] at HCut
    go_wp2_with fail
    refine HCut.out.mono ?_
    rintro r w5 ⟨rfl, q, hq⟩
    have HB5 : Hid (Below W.heap.size W w5) := by show Below _ _ _; rw [hq]; exact ⟨HB4.out.os, HB4.out.tape, HB4.out.output, HB4.out.size, HB4.out.block⟩
    clear hq
    go_wp2
    go_ret
    refine ⟨?_, HB5.out⟩
    rw [HO.out]
    unfold lineOf
    rw [hcut]
    rfl
  | some x =>
    rw [hcut] at HCut
    go_wp2_with fail
    refine HCut.out.mono ?_
    rintro r w5 ⟨rfl, q, hq⟩
    have HB5 : Hid (Below W.heap.size W w5) := by show Below _ _ _; rw [hq]; exact ⟨HB4.out.os, HB4.out.tape, HB4.out.output, HB4.out.size, HB4.out.block⟩
    clear hq
    go_wp2
    go_ret
    refine ⟨?_, HB5.out⟩
    rw [HO.out]
    unfold lineOf
    rw [hcut]
    rfl
abbrev awl : List Nd := [{ k := 1, ws := [[97]], ln := 1 }, { k := 1, ws := [[98]], rs := [⟨1, [62], [102], []⟩], ln := 1 }, { k := 5, ks := [0, 1], ln := 1 }]
theorem aw_p : parseM [97, 59, 98, 32, 62, 102] = .ok awl := by rfl
theorem aw_tr : TreeOk awl where
  tr := {
    kids := by
      intro j hj k hk
      match j, hj with
      | 0, _ => cases hk
      | 1, _ => cases hk
      | 2, _ => simp at hk; rcases hk with rfl | rfl <;> decide
    fits := by
      intro n hn
      simp only [List.mem_cons, List.not_mem_nil, or_false] at hn
      rcases hn with rfl | rfl | rfl <;> (unfold KidN; simp)
    one := by
      intro i hi
      match i, hi with
      | 0, _ => rfl
      | 1, _ => rfl
      | 2, _ => rfl }
  few := by decide
  small := by
    intro n hn
    simp only [List.mem_cons, List.not_mem_nil, or_false] at hn
    rcases hn with rfl | rfl | rfl <;> (constructor <;> simp)
  cost := by decide +kernel
theorem aw_show : showL awl = [97, 10, 49, 62, 102, 32, 98, 10] := by decide +kernel
theorem aw_line : showAt awl 1 ([], []) = ([49, 62, 102, 32, 98], []) := by decide +kernel
theorem aw_lineOf : lineOf [49, 62, 102, 32, 98] = [49, 62, 102, 32, 98] := by decide +kernel
theorem aw_nil : showL [] = [] := rfl
theorem aw_cost : wAt (accL.nodeC awl) awl 1 ≤ 1000000 := by decide +kernel
set_option maxHeartbeats 4000000 in
theorem awake8_calls (W : World) (hO : Gl W) : Calls Tryz.prog 5 #[] W fun e w' => e = .returned (.bool true) ∧ Below W.heap.size W w' := by
  have HO := Lib.hid hO
  have e1 : ((str [97, 10, 49, 62, 102, 32, 98, 10]).toList == [97, 10, 49, 62, 102, 32, 98, 10]) = true := by rw [str_tl0]; rfl
  have e2 : ((str [49, 62, 102, 32, 98]).toList == [49, 62, 102, 32, 98]) = true := by rw [str_tl0]; rfl
  have e3 : ((str []).toList == []) = true := by rw [str_tl0]; rfl
  clear hO
  go_enter Tryz.func5, Tryz.ntmps5
  go_wp2_with fail
  refine (parse_calls W [97, 59, 98, 32, 62, 102] (by decide) HO.out.sig HO.out.glb).mono ?_
  rintro r w1 ⟨hb1, hr⟩
  rw [aw_p] at hr
  obtain ⟨v, rfl, hrow⟩ := hr
  obtain ⟨a, c, hv, _⟩ := nodes_at hrow
  subst hv
  have hl3 : awl.length = 3 := rfl
  rw [hl3] at hrow ⊢
  obtain ⟨w2, M, hw2, hM, hx2, hb2, hs2⟩ := new_blk w1 #[.slice a 3 c] trT
  have HB2 : Hid (Below W.heap.size W w2) := hb1.trans (hb2.mono (by have := hb1.size; omega))
  obtain ⟨m0, n0⟩ := cell_of hx2
  have hrow2 : RowN w2 0 (fun g => g < w2.heap.size) (.slice a 3 c) awl := by
    have h1 : TrAt w1 w1.heap.size (.slice a 3 c) awl := by
      refine ⟨(hrow.mono (Nat.zero_le _)).less (fun g h1 h2 => h2), fun g hg => ?_⟩
      obtain ⟨zs, _, h2, _⟩ := hrow
      exact (h2.lt g hg).2
    have h2 := h1.below (by rw [hM]; exact hb2)
    exact h2.row.less (fun g h1 h2 => h2)
  have HX2 := Lib.hid hx2
  have HShow := Lib.hid (show_calls w2 0 _ _ awl hrow2 (fun g h => h) aw_tr)
  rw [aw_show] at HShow
  have HRow2 := Lib.hid hrow2
  clear hb1 hrow hb2 hx2 hrow2
  go_wp2_with fail
  refine HShow.out.mono ?_
  rintro r w3 ⟨rfl, hb3⟩
  have hx3 := (hb3.block M (Array.getElem?_eq_some_iff.1 HX2.out).1).trans HX2.out
  obtain ⟨m3, n3⟩ := cell_of hx3
  have hrow3 : RowN w3 0 (fun g => g < w3.heap.size) (.slice a 3 c) awl := by
    have h1 : TrAt w2 w2.heap.size (.slice a 3 c) awl := by
      refine ⟨HRow2.out, fun g hg => ?_⟩
      obtain ⟨zs, _, h2, _⟩ := HRow2.out
      exact (h2.lt g hg).2
    exact (h1.below hb3).row.less (fun g h1 h2 => h2)
  have HRow3 := Lib.hid hrow3
  have HX3 := Lib.hid hx3
  have HB3 : Hid (Below W.heap.size W w3) := HB2.out.trans (hb3.mono HB2.out.size)
  have HLine : Hid (Calls Tryz.prog 10 #[.agg #[.slice a 3 c], .int .i64 1] w3 fun r W' => r = .returned (.string (str [49, 62, 102, 32, 98])) ∧ Below w3.heap.size w3 W') := by
    have h1 := lineN_calls w3 0 _ (.slice a 3 c) awl hrow3 (fun g h => h) (by decide) 1 (showAt awl 1) (wAt (accL.nodeC awl) awl 1) aw_cost (fun b B => kid_all awl b B _ aw_tr.tr aw_tr.few aw_tr.small 1 (by decide)) (by rw [aw_line]; decide)
    rw [aw_line, aw_lineOf] at h1
    exact h1
  clear hb3 hrow3 hx3 m0 n0 hw2 hM
  go_wp2_with fail
  refine HLine.out.mono ?_
  rintro r w4 ⟨rfl, hb4⟩
  have hx4 := (hb4.block M (Array.getElem?_eq_some_iff.1 HX3.out).1).trans HX3.out
  obtain ⟨m4, n4⟩ := cell_of hx4
  have hrow4 : RowN w4 0 (fun g => g < w4.heap.size) (.slice a 3 c) awl := by
    have h1 : TrAt w3 w3.heap.size (.slice a 3 c) awl := by
      refine ⟨HRow3.out, fun g hg => ?_⟩
      obtain ⟨zs, _, h2, _⟩ := HRow3.out
      exact (h2.lt g hg).2
    exact (h1.below hb4).row.less (fun g h1 h2 => h2)
  have HB4 : Hid (Below W.heap.size W w4) := HB3.out.trans (hb4.mono HB3.out.size)
  have HLine2 : Hid (Calls Tryz.prog 10 #[.agg #[.slice a 3 c], .int .i64 9] w4 fun r W' => r = .returned (.string (str [])) ∧ Below w4.heap.size w4 W') :=
    lineN_calls w4 0 _ (.slice a 3 c) awl hrow4 (fun g h => h) (by decide) 9 (fun s => s) 0 (by decide) (fun b B => node_high awl b B _ 9 (by decide) (by decide)) (by decide)
  clear hb4 hrow4 hx4 m3 n3
  go_wp2_with fail
  refine HLine2.out.mono ?_
  rintro r w5 ⟨rfl, hb5⟩
  have HB5 : Hid (Below W.heap.size W w5) := HB4.out.trans (hb5.mono HB4.out.size)
  have HShow2 := Lib.hid (show_calls w5 0 (fun g => g < w5.heap.size) (.slice none 0 0) [] ⟨[], rfl, World.ownsRow_nil _ _ _ _, fun x hx => absurd hx List.not_mem_nil⟩ (fun g h => h) tree_nil)
  rw [aw_nil] at HShow2
  clear hb5 m4 n4
  go_wp2_with fail
  refine HShow2.out.mono ?_
  rintro r w6 ⟨rfl, hb6⟩
  have HB6 : Hid (Below W.heap.size W w6) := HB5.out.trans (hb6.mono HB5.out.size)
  clear hb6
  go_wp2
  go_ret
  exact ⟨rfl, HB6.out⟩
end Go.Proofs.YtiklkhbfilbpeaaGreatDoor.Ux
set_option linter.unusedVariables false
set_option linter.unusedSimpArgs false
set_option maxRecDepth 100000
namespace Go.Proofs.YtiklkhbfilbpeaaGreatDoor.Ux
open Go.RowKit Base Lx Sy Sx Un
theorem kidN_of {n : Nd} (h : Fits n) : KidN n := by
  unfold Fits at h
  unfold KidN
  rcases h with ⟨h1, h2, _⟩ | ⟨h1, _⟩ | ⟨h1, h2⟩ | ⟨h1, h2⟩ | ⟨h1, h2⟩ | h1
  · exact ⟨fun h => by omega, fun h => by omega, fun h => by omega, ⟨by omega, fun _ => h2⟩, by omega⟩
  · exact ⟨fun h => by omega, fun h => by omega, fun h => by omega, ⟨by omega, fun h => by omega⟩, by omega⟩
  · exact ⟨fun h => by omega, fun h => h2, fun h => by omega, ⟨by omega, fun h => by omega⟩, by omega⟩
  · exact ⟨fun h => h2, fun h => by omega, fun h => by omega, ⟨by omega, fun h => by omega⟩, by omega⟩
  · exact ⟨fun h => by omega, fun h => by omega, fun h => h2, ⟨by omega, fun h => by omega⟩, by omega⟩
  · exact ⟨fun h => by omega, fun h => by omega, fun h => by omega, ⟨by omega, fun h => by omega⟩, by omega⟩
theorem tr_of {l : List Nd} (h : Sx.Good l) : Tr l := ⟨h.kids, fun n hn => kidN_of (h.fits n hn), h.one⟩
theorem list_last2 {nest : S → P Nat} {em : Bool} {s : S} {y : Nat × S} (e : listM nest em s = .ok y) : ∃ ns n, y.2.1 = ns ++ [n] ∧ n.k = 5 ∧ n.rs = [] := by
  unfold listM at e
  obtain ⟨ks, t, h1, h2⟩ := bd_inv e
  split at h2
  · cases h2
  · injection h2 with h2
    subst h2
    exact ⟨_, _, rfl, rfl, rfl⟩
theorem parse_last {s : Nm} {l : List Nd} (h : parseM s = .ok l) : l ≠ [] ∧ ∀ n, l[l.length - 1]? = some n → n.k = 5 ∧ n.rs = [] := by
  unfold parseM at h
  split at h
  · cases h
  · split at h
    · cases h
    · rename_i x hx
      split at h
      · cases h
      · injection h with h
        obtain ⟨ns, n, h1, h2, h3⟩ := list_last2 hx
        rw [← h, h1]
        refine ⟨by simp, fun m hm => ?_⟩
        rw [List.length_append, List.length_singleton, Nat.add_sub_cancel, List.getElem?_append_right (Nat.le_refl _), Nat.sub_self] at hm
        injection hm with hm
        subst hm
        exact ⟨h2, h3⟩
/-- What is known. -/
structure Known (l : List Nd) : Prop where
  ok : TreeOk l
  lines : (l.map cntS).sum ≤ nl (showL l)
  ends : (showL l = [] ∧ (l.map cntS).sum = 0) ∨ ((showL l).getLast? = some 10 ∧ 0 < (l.map cntS).sum)
  len : (showL l).length ≤ 8000000000000
theorem known_nil : Known [] := ⟨tree_nil, Nat.le_refl _, .inl ⟨rfl, rfl⟩, Nat.zero_le _⟩
theorem tree_of {s : Nm} {l : List Nd} (hs : s.length ≤ 4096) (h : parseM s = .ok l) : TreeOk l ∧ (showL l).length ≤ 8000000000000 := by
  have hg := good_parse hs h
  have ht := tr_of hg
  have hlen := parse_len hs h
  obtain ⟨L, hL⟩ : ∃ L, allM s = .ok L := by
    unfold parseM at h
    split at h
    · cases h
    · rename_i L hL; exact ⟨L, hL⟩
  have hnp := parse_np hL h
  have hM : L.length ≤ 5001 := by
    have := ((all_toks hs).1 L hL).2
    omega
  have hT : ∀ t, TT s.length t → t.t.length + t.b.length ≤ s.length := fun t h => h
  have hwb := whole_bound hT hM hs ht hlen hnp
  refine ⟨⟨ht, hlen, fun n hn => ?_, by unfold big; omega⟩, ?_⟩
  · have h1 := hnp n hn
    have h2 := kids_few ht hn
    refine ⟨by have := h1.wl; omega, by have := h1.rl; omega, fun x hx => ?_, by omega⟩
    have h3 := rd_bound hT hs h1 x hx
    exact ⟨h3.2.1, by have := h3.2.2.2.1; omega⟩
  · by_cases hn : l = []
    · subst hn; exact Nat.zero_le _
    · have h1 : lenS (showAt l (l.length - 1) ([], [])) ≤ lenS ([], []) + (l.map (accL.nodeC l)).sum := accL.whole ht hn ([], [])
      unfold showL
      rw [if_neg hn]
      have h2 := fst_le (showAt l (l.length - 1) ([], []))
      have h3 : lenS (([], []) : PS) = 0 := rfl
      omega
theorem known_of {s : Nm} {l : List Nd} (hs : s.length ≤ 4096) (h : parseM s = .ok l) : Known l := by
  obtain ⟨h1, h2⟩ := tree_of hs h
  obtain ⟨h3, h4⟩ := parse_last h
  exact ⟨h1, show_lines h1.tr, show_ends h1.tr h3 h4, h2⟩
end Go.Proofs.YtiklkhbfilbpeaaGreatDoor.Ux
