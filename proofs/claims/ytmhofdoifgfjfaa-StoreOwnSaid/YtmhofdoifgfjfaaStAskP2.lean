/-
  State: an answer put. Conditions: as each contract says.
-/
import Derived.Test.YtmhofdoifgfjfaaStAskP
set_option linter.unusedVariables false
set_option maxRecDepth 100000
namespace Go.Proofs.Ytmhofdoifgfjfaa
open Go.RowKit Base

abbrev num2V (p : Int × Int) : List Value := [iv p.1, iv p.2]
def AnsR (n : Nat) (W : World) (g off : Nat) (a : AnsD) : Prop :=
  FlatR num2V n W g off a.1 ∧ FlatR numV n W g (off + 2) a.2.1 ∧ FlatR numV n W g (off + 3) a.2.2.1 ∧ FlatR txtV n W g (off + 4) a.2.2.2.1 ∧ RowR 1 (FlatR txtV) n W g (off + 5) a.2.2.2.2.1 ∧ FlatR numV n W g (off + 6) a.2.2.2.2.2
theorem ans_lies : Lies AnsR := by
  refine ⟨fun h => h.1.1, fun h hb => ?_⟩
  obtain ⟨h1, h2, h3, h4, h5, h6⟩ := h
  exact ⟨(flat_lies _).below h1 hb, (flat_lies _).below h2 hb, (flat_lies _).below h3 hb, (flat_lies _).below h4 hb, (row_lies (flat_lies _)).below h5 hb, (flat_lies _).below h6 hb⟩
theorem fld_ans0 (g off : Nat) (w : World) : (Instr.fieldAt 40 (.pointer (some ⟨g, off, none⟩)) 0).run Try.prog w = .ok (.pointer (some ⟨g, off, none⟩)) w := by rfl
theorem fld_ans1 (g off : Nat) (w : World) : (Instr.fieldAt 40 (.pointer (some ⟨g, off, none⟩)) 1).run Try.prog w = .ok (.pointer (some ⟨g, off + 1, none⟩)) w := by rfl
set_option maxHeartbeats 1000000 in
theorem answer_pk : PkR 43 ansC AnsR AnsP := by
  intro W F v o g off a h ha hr hl
  obtain ⟨r1, r2, r3, r4, r5, r6⟩ := hr
  obtain ⟨p1, p2, p3, p4, p5, p6⟩ := ha
  have l0 : (o ++ ((pairC numC numC).enc a.1 ++ ((numC).enc a.2.1 ++ ((numC).enc a.2.2.1 ++ ((txtC).enc a.2.2.2.1 ++ ((rowC txtC).enc a.2.2.2.2.1 ++ ((numC).enc a.2.2.2.2.2))))))).length ≤ 100000000 := hl
  obtain ⟨l1, k1⟩ := cat_le (b := (numC).enc a.2.1 ++ ((numC).enc a.2.2.1 ++ ((txtC).enc a.2.2.2.1 ++ ((rowC txtC).enc a.2.2.2.2.1 ++ ((numC).enc a.2.2.2.2.2))))) l0
  obtain ⟨l2, k2⟩ := cat_le (b := (numC).enc a.2.2.1 ++ ((txtC).enc a.2.2.2.1 ++ ((rowC txtC).enc a.2.2.2.2.1 ++ ((numC).enc a.2.2.2.2.2)))) k1
  obtain ⟨l3, k3⟩ := cat_le (b := (txtC).enc a.2.2.2.1 ++ ((rowC txtC).enc a.2.2.2.2.1 ++ ((numC).enc a.2.2.2.2.2))) k2
  obtain ⟨l4, k4⟩ := cat_le (b := (rowC txtC).enc a.2.2.2.2.1 ++ ((numC).enc a.2.2.2.2.2)) k3
  obtain ⟨l5, k5⟩ := cat_le (b := (numC).enc a.2.2.2.2.2) k4
  have l6 := k5
  have HP := Lib.hid h
  have R1 := Lib.hid r1
  have P1 := Lib.hid p1
  have L1 := Lib.hid l1
  have R2 := Lib.hid r2
  have P2 := Lib.hid p2
  have L2 := Lib.hid l2
  have R3 := Lib.hid r3
  have P3 := Lib.hid p3
  have L3 := Lib.hid l3
  have R4 := Lib.hid r4
  have P4 := Lib.hid p4
  have L4 := Lib.hid l4
  have R5 := Lib.hid r5
  have P5 := Lib.hid p5
  have L5 := Lib.hid l5
  have R6 := Lib.hid r6
  have P6 := Lib.hid p6
  have L6 := Lib.hid l6
  clear h hl r1 p1 l1 r2 p2 l2 r3 p3 l3 r4 p4 l4 r5 p5 l5 r6 p6 l6 l0 k1 k2 k3 k4 k5
  go_enter Try.func43, Try.ntmps43
  go_upto_region 0 with fail
  have e10 : [a.1.1, a.1.2].flatMap intB = (pairC numC numC).enc a.1 := by show _ = intB a.1.1 ++ (intB a.1.2); simp
  have RN : Hid (CellsAt W g off ([a.1.1, a.1.2].map iv)) := (R1.out).2
  have PN : Hid (∀ z ∈ [a.1.1, a.1.2], I64 z) := by
    obtain ⟨q0, q1⟩ := P1.out
    show ∀ z ∈ _, _
    simp only [List.mem_cons, List.not_mem_nil, or_false]
    rintro z (rfl | rfl)
    all_goals assumption
  refine Rt.wp_region_rkt 9 [] [Rg.Is (.pointer (some ⟨F, 0, none⟩)), Rg.Is (.pointer (some ⟨g, off, none⟩)), Rg.Is (.pointer (some ⟨g, off, none⟩)), Rg.Is (.pointer (some ⟨g, off, none⟩)), Rg.Is (.pointer (some ⟨g, off, none⟩)), Rg.Is (.pointer (some ⟨g, off, none⟩)), Rg.Is (.pointer (some ⟨g, off + 1, none⟩)), (fun u x => ∃ b, u = .slice (some ⟨b, 0, none⟩) 2 2 ∧ W.heap.size ≤ b ∧ x.heap[b]? = some (.cells #[.pointer (some ⟨g, off, none⟩), .pointer (some ⟨g, off + 1, none⟩)] 107)), (fun u x => u = .tuple #[] ∧ ∃ v', PkI F v' (o ++ (pairC numC numC).enc a.1) x ∧ WUp F v v' W x)] (fun _ _ => True) (fun ls x => ls 8 = false → Below W.heap.size W x) (fun k x y => if k = 8 then (∃ v', WUp F v v' x y) else Below x.heap.size x y) (by kernel_rfl) (by kernel_rfl) (of_decide_eq_true (by kernel_rfl)) (by kernel_rfl) (by kernel_rfl) trivial (fun _ => ⟨rfl, rfl, rfl, Nat.le_refl _, fun _ _ => rfl⟩) (fun ls ls' x e h1 h2 => h1 (by rw [e]; exact h2)) (fun _ _ _ _ _ => trivial) (fun i ls x _ h1 => by rw [show ([] : List Bool).getD i true = true from rfl] at h1; cases h1) ?_ ⟨rfl, rfl, rfl, rfl, rfl, rfl, rfl, rfl, rfl, trivial⟩ ⟨?_, ?_, ?_, ?_, ?_, ?_, ?_, ?_, ?_, trivial⟩ ?_
  · intro i k u x y hik _ h1 hK
    match i, h1, hik with
    | 0, h1, _ => exact h1
    | 1, h1, _ => exact h1
    | 2, h1, _ => exact h1
    | 3, h1, _ => exact h1
    | 4, h1, _ => exact h1
    | 5, h1, _ => exact h1
    | 6, h1, _ => exact h1
    | 7, h1, hik =>
      obtain ⟨b, h2, h4, h5⟩ := h1
      have hbs := (Array.getElem?_eq_some_iff.1 h5).1
      by_cases hk : k = 8
      · subst hk
        rw [if_pos rfl] at hK
        have h9 : y.heap[b]? = x.heap[b]? := by obtain ⟨v', hK⟩ := hK; exact hK.block b hbs (by have := HP.out.lt; omega) (fun e => by have := (HP.out.own.lt _ e).2; omega)
        exact ⟨b, h2, h4, h9.trans h5⟩
      · rw [if_neg hk] at hK
        exact ⟨b, h2, h4, (hK.block b hbs).trans h5⟩
    | 8, h1, hik =>
      rw [if_neg (fun e => hik e.symm)] at hK
      obtain ⟨h2, v', h3, h4⟩ := h1
      exact ⟨h2, v', h3.below hK, h4.trans (WUp.of_below hK)⟩
    | _ + 9, _, _ => trivial
  · intro _ b x ls hR hS hself hup hdn hk
    have h0 : b.eval (.tmp 0) = .pointer (some ⟨F, 0, none⟩) := Eq.mp (by kernel_rfl) (hk 0 (by decide))
    have lA : ls 8 = false := hdn [] 8 _ rfl (by kernel_rfl)
    have hb := hS lA
    exact Rg.does_move ⟨by rw [if_neg (by decide)]; exact Below.refl _ _, h0, fun hh => hS hh⟩
  · intro _ b x ls hR hS hself hup hdn hk
    have h1 : b.eval (.tmp 1) = .pointer (some ⟨g, off, none⟩) := Eq.mp (by kernel_rfl) (hk 1 (by decide))
    have lA : ls 8 = false := hdn [7, 3, 2] 8 _ rfl (by kernel_rfl)
    have hb := hS lA
    exact Rg.does_move ⟨by rw [if_neg (by decide)]; exact Below.refl _ _, h1, fun hh => hS hh⟩
  · intro _ b x ls hR hS hself hup hdn hk
    have h5 : b.eval (.tmp 5) = .pointer (some ⟨g, off, none⟩) := Eq.mp (by kernel_rfl) (hk 5 (by decide))
    have lA : ls 8 = false := hdn [7, 3] 8 _ rfl (by kernel_rfl)
    have hb := hS lA
    exact Ap.does_nil _ h5 ⟨by rw [if_neg (by decide)]; exact Below.refl _ _, rfl, fun hh => hS hh⟩
  · intro _ b x ls hR hS hself hup hdn hk
    have h6 : b.eval (.tmp 6) = .pointer (some ⟨g, off, none⟩) := Eq.mp (by kernel_rfl) (hk 6 (by decide))
    have lA : ls 8 = false := hdn [7] 8 _ rfl (by kernel_rfl)
    have hb := hS lA
    exact Rs.does_field _ _ h6 (fld_ans0 g off x) ⟨by rw [if_neg (by decide)]; exact Below.refl _ _, rfl, fun hh => hS hh⟩
  · intro _ b x ls hR hS hself hup hdn hk
    have h1 : b.eval (.tmp 1) = .pointer (some ⟨g, off, none⟩) := Eq.mp (by kernel_rfl) (hk 1 (by decide))
    have lA : ls 8 = false := hdn [7, 6, 5] 8 _ rfl (by kernel_rfl)
    have hb := hS lA
    exact Rg.does_move ⟨by rw [if_neg (by decide)]; exact Below.refl _ _, h1, fun hh => hS hh⟩
  · intro _ b x ls hR hS hself hup hdn hk
    have h8 : b.eval (.tmp 8) = .pointer (some ⟨g, off, none⟩) := Eq.mp (by kernel_rfl) (hk 8 (by decide))
    have lA : ls 8 = false := hdn [7, 6] 8 _ rfl (by kernel_rfl)
    have hb := hS lA
    exact Ap.does_nil _ h8 ⟨by rw [if_neg (by decide)]; exact Below.refl _ _, rfl, fun hh => hS hh⟩
  · intro _ b x ls hR hS hself hup hdn hk
    have h9 : b.eval (.tmp 9) = .pointer (some ⟨g, off, none⟩) := Eq.mp (by kernel_rfl) (hk 9 (by decide))
    have lA : ls 8 = false := hdn [7] 8 _ rfl (by kernel_rfl)
    have hb := hS lA
    exact Rs.does_field _ _ h9 (fld_ans1 g off x) ⟨by rw [if_neg (by decide)]; exact Below.refl _ _, rfl, fun hh => hS hh⟩
  · intro _ b x ls hR hS hself hup hdn hk
    have h7 : b.eval (.tmp 7) = .pointer (some ⟨g, off, none⟩) := Eq.mp (by kernel_rfl) (hk 7 (by decide))
    have h10 : b.eval (.tmp 10) = .pointer (some ⟨g, off + 1, none⟩) := Eq.mp (by kernel_rfl) (hk 10 (by decide))
    have lA : ls 8 = false := hdn [] 8 _ rfl (by kernel_rfl)
    have hb := hS lA
    have hal := (Below.refl x.heap.size x).alloc (Nat.le_refl _) (.cells #[.pointer (some ⟨g, off, none⟩), .pointer (some ⟨g, off + 1, none⟩)] 107)
    exact Rg.does_build #[(0, .pointer (some ⟨g, off, none⟩)), (1, .pointer (some ⟨g, off + 1, none⟩))] _ (by simp [h7, h10]) (by go_simp) ⟨by rw [if_neg (by decide)]; exact hal, ⟨x.heap.size, rfl, hb.size, heap_alloc_new x _⟩, fun hh => hb.trans (hal.mono hb.size)⟩
  · intro _ b x ls hR hS hself hup hdn hk
    have h4 : b.eval (.tmp 4) = .pointer (some ⟨F, 0, none⟩) := Eq.mp (by kernel_rfl) (hk 4 (by decide))
    have h11 : (fun u x => ∃ b, u = .slice (some ⟨b, 0, none⟩) 2 2 ∧ W.heap.size ≤ b ∧ x.heap[b]? = some (.cells #[.pointer (some ⟨g, off, none⟩), .pointer (some ⟨g, off + 1, none⟩)] 107)) (b.eval (.tmp 11)) x := Eq.mp (by kernel_rfl) (hk 11 (by decide))
    have hb := hS hself
    obtain ⟨b1, hq2, hq4, hq5⟩ := h11
    refine Rg.does_func #[.pointer (some ⟨F, 0, none⟩), .slice (some ⟨b1, 0, none⟩) 2 2] Try.func46 (by kernel_rfl) (by kernel_rfl) (by simp [h4, hq2]) (pk_numbers_calls x F v _ g off [a.1.1, a.1.2] b1 (HP.out.below hb) ⟨⟨_, hq5, fun j hj => by match j, hj with | 0, _ => rfl | 1, _ => rfl⟩⟩ (by have := HP.out.lt; omega) R1.out.1 (fun j hj => by have h7 := (hb.cell (p := ⟨g, off + j, none⟩) (by have := HP.out.lt; have := R1.out.1; show g < _; omega)).trans (RN.out j (by rw [List.length_map]; exact hj)); rw [List.getElem_map] at h7; exact h7) PN.out (by rw [e10]; exact Nat.le_trans L1.out (by decide)) (by simp)) ?_
    rintro e w' ⟨rfl, v', hp, hu⟩
    rw [e10] at hp
    exact ⟨_, rfl, by rw [if_pos rfl]; exact ⟨v', hu⟩, ⟨rfl, v', hp, (WUp.of_below hb).trans hu⟩, fun hh => by simp [Rs.upd] at hh⟩
  · intro vals w1 ls _ hSD _ hL
    obtain ⟨g0, g1, g2, g3, g4, g5, g6, g7, g8, _⟩ := hL
    obtain ⟨e8, v1, hp, hu⟩ := g8
    have HP1 := Lib.hid hp
    have HU1 := Lib.hid hu
    have q0 := g0; have q1 := g1
    simp only [Rg.putAll, List.take_succ_cons, List.take_zero, List.drop_succ_cons, List.drop_zero, List.setIfInBounds_toArray, List.set_cons_succ, List.set_cons_zero]
    clear g0 g1 g2 g3 g4 g5 g6 g7 e8 hp hu q0 q1
    go_wp2_with fail
    refine (num64_pk.r w1 F v1 _ g (off + 2) a.2.1 HP1.out P2.out ((flat_lies _).below R2.out (up_low HP.out HU1.out)) L2.out).mono ?_
    rintro e w2 ⟨rfl, v2, hp, hu⟩
    have HP2 := Lib.hid hp
    have HU2 := Lib.hid (HU1.out.trans hu)
    clear hp hu
    go_wp2_with fail
    refine (num64_pk.r w2 F v2 _ g (off + 3) a.2.2.1 HP2.out P3.out ((flat_lies _).below R3.out (up_low HP.out HU2.out)) L3.out).mono ?_
    rintro e w3 ⟨rfl, v3, hp, hu⟩
    have HP3 := Lib.hid hp
    have HU3 := Lib.hid (HU2.out.trans hu)
    clear hp hu
    go_wp2_with fail
    refine (txt1_pk w3 F v3 _ g (off + 4) a.2.2.2.1 HP3.out ((flat_lies _).below R4.out (up_low HP.out HU3.out)).1 ((flat_lies _).below R4.out (up_low HP.out HU3.out)).2 L4.out).mono ?_
    rintro e w4 ⟨rfl, v4, hp, hu⟩
    have HP4 := Lib.hid hp
    have HU4 := Lib.hid (HU3.out.trans hu)
    clear hp hu
    go_wp2_with fail
    refine (row_string_pk w4 F v4 _ g (off + 5) a.2.2.2.2.1 HP4.out P5.out ((row_lies (flat_lies _)).below R5.out (up_low HP.out HU4.out)) L5.out).mono ?_
    rintro e w5 ⟨rfl, v5, hp, hu⟩
    have HP5 := Lib.hid hp
    have HU5 := Lib.hid (HU4.out.trans hu)
    clear hp hu
    go_wp2_with fail
    refine (num_pk.r w5 F v5 _ g (off + 6) a.2.2.2.2.2 HP5.out P6.out ((flat_lies _).below R6.out (up_low HP.out HU5.out)) L6.out).mono ?_
    rintro e w6 ⟨rfl, v6, hp, hu⟩
    have HP6 := Lib.hid hp
    have HU6 := Lib.hid (HU5.out.trans hu)
    clear hp hu
    go_wp2_with fail
    refine bodyPost_end (v := .tuple #[]) (results_none rfl _ _ _) rfl ?_
    refine ⟨rfl, v6, ?_, HU6.out⟩
    have := HP6.out
    rwa [List.append_assoc, List.append_assoc, List.append_assoc, List.append_assoc, List.append_assoc] at this
end Go.Proofs.Ytmhofdoifgfjfaa
