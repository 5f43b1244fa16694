/-
  The reference's answers out of bytes: Told is walked. Conditions: the text is short.
-/
import Derived.Test.YtgbnfipbedlmhaaEvReads4
set_option linter.unusedVariables false
namespace Go.Proofs.Ytgbnfipbedlmhaa
open Go.RowKit Base

theorem tell_same (b : List UInt8) (h : toldE b = 0) : toldA b = ⟨((t1 b).1 : Int), ((t2 b).1 : Int), VarPlain.zag (t3 b).1, VarPlain.zag (t4 b).1, (t5 b).1, if (t6 b).1.1 = false then [] else (t6 b).1.2, ((t7 b).1 : Int)⟩ := by
  have h2 := (tell_ok b h).2
  unfold toldA
  rw [if_pos h, h2]
  simp
theorem tell_bad (b : List UInt8) (h : toldE b = 0) : rightT b = true := (tell_ok b h).1

set_option maxHeartbeats 8000000 in
set_option maxRecDepth 100000 in
theorem ref_told_calls_at (w : World) (b : List UInt8) (hb : b.length ≤ 100000) :
    Calls Try.prog 35 #[.string (str b)] w fun r w' => ∃ a1 c1, r = .returned (.tuple #[ansV (toldA b) a1 c1, .int .i64 (toldE b)]) ∧ Strs w' a1 (toldA b).list.length c1 (toldA b).list ∧ Below w.heap.size w w' ∧ (∀ ad, a1 = some ad → w.heap.size ≤ ad.block) := by
  have HBA := Lib.hid ((Below.refl w.heap.size w).alloc (Nat.le_refl _) (Obj.cells #[.int .i64 0, .int .i64 0, .int .i64 0, .int .i64 0, .string ⟨#[]⟩, .slice none 0 0, .int .i64 0] 34))
  have HG0 : Hid ((w.alloc (Obj.cells #[.int .i64 0, .int .i64 0, .int .i64 0, .int .i64 0, .string ⟨#[]⟩, .slice none 0 0, .int .i64 0] 34)).heap[w.heap.size]? = some (Obj.cells #[.int .i64 0, .int .i64 0, .int .i64 0, .int .i64 0, .string ⟨#[]⟩, .slice none 0 0, .int .i64 0] 34)) := heap_alloc_new w _
  have HRd := Lib.hid (ref_read_calls (w.alloc (Obj.cells #[.int .i64 0, .int .i64 0, .int .i64 0, .int .i64 0, .string ⟨#[]⟩, .slice none 0 0, .int .i64 0] 34)) b 4 true (by omega) (by decide))
  rw [read_tell] at HRd
  simp only [] at HRd
  have HE := Lib.hid (tell_right b)
  have HQ := Lib.hid (tell_same b)
  have HQB := Lib.hid (@toldA_bad b)
  have HNE := Lib.hid (tell_bad b)
  have HRT : Hid (rightT b = (decide (0 < (t1 b).1) && (decide ((t1 b).1 < 12) && (decide ((t2 b).1 < 256) && ((t6 b).1.1 && decide ((t7 b).1 < 65)))))) := rfl
  have H0 := Lib.hid (show Lt64 (t1 b).1 from next_lt64 _ _)
  have H1 := Lib.hid (show Lt64 (t2 b).1 from next_lt64 _ _)
  have H2 := Lib.hid (show Lt64 (t3 b).1 from next_lt64 _ _)
  have H3 := Lib.hid (show Lt64 (t4 b).1 from next_lt64 _ _)
  generalize (if (t6 b).1.1 = false then [] else (t6 b).1.2) = row at *
  generalize rightT b = rt at *
  generalize toldE b = ev at *
  generalize toldA b = qq at *
  generalize (t1 b).1 = x0 at *
  generalize (t2 b).1 = x1 at *
  generalize (t3 b).1 = x2 at *
  generalize (t4 b).1 = x3 at *
  generalize (t7 b).1 = x4 at *
  generalize (t5 b).1 = tx at *
  generalize (t7 b).2.1 = l at *
  generalize (t7 b).2.2 = e at *
  generalize (t6 b).1.1 = fl at *
  cases fl
  case false =>
    simp only [if_true, Bool.not_true, Bool.not_false, Bool.and_false, Bool.false_and] at HRd HE HRT
    go_enter Try.func35, Try.ntmps35
    go_wp2_with fail
    refine HRd.out.mono ?_
    rintro r w1 ⟨vn, vr, rfl, hown, hrow, hb1⟩
    have hown : w1.ownsRow (w.alloc (Obj.cells #[.int .i64 0, .int .i64 0, .int .i64 0, .int .i64 0, .string ⟨#[]⟩, .slice none 0 0, .int .i64 0] 34)).heap.size 62 1 vn 4 ([x0, x1, x2, x3].map nv) := hown
    have Hrow := Lib.hid hrow
    obtain ⟨an, cn, rfl, hu⟩ := u64s_own hown
    obtain ⟨ar, cr, rfl, _, _, _, _⟩ := ownsRow_slice Hrow.out
    have HB1 : Hid (Below w.heap.size w w1) := HBA.out.trans (hb1.mono HBA.out.size)
    have HG1 : Hid (w1.heap[w.heap.size]? = some (Obj.cells #[.int .i64 0, .int .i64 0, .int .i64 0, .int .i64 0, .string ⟨#[]⟩, .slice none 0 0, .int .i64 0] 34)) := heap_low hb1 HG0.out
    have hz1 : w.heap.size < w1.heap.size := by have := hb1.size; simp at this; omega
    have hba := (Below.refl w1.heap.size w1).alloc (Nat.le_refl _) (LC l e (.slice an 4 cn) tx (.slice ar row.length cr) true)
    have HL2 : Hid ((w1.alloc (LC l e (.slice an 4 cn) tx (.slice ar row.length cr) true)).heap[w1.heap.size]? = some (LC l e (.slice an 4 cn) tx (.slice ar row.length cr) true)) := heap_alloc_new w1 _
    have HB2 : Hid (Below w.heap.size w (w1.alloc (LC l e (.slice an 4 cn) tx (.slice ar row.length cr) true))) := HB1.out.trans (hba.mono HB1.out.size)
    have HG2 := Lib.hid (heap_low hba HG1.out)
    have Hrow2 := Lib.hid (ownsRow_below Hrow.out hba)
    obtain ⟨bn, on, hcell, hidx⟩ := at_u64s (hu.below stable_u64At hba)
    have HC0 : Hid ((w1.alloc (LC l e (.slice an 4 cn) tx (.slice ar row.length cr) true)).cell? ⟨bn, on, none⟩ = some (.int .u64 (x0 : Int))) := hcell 0 (by simp)
    have HI0 : Hid (∀ wx, (Instr.indexAt 102 (.slice an 4 cn) (.int .i64 0)).run Try.prog wx = .ok (.pointer (some ⟨bn, on, none⟩)) wx) := fun wx => hidx .i64 0 wx (by decide)
    have HC1 : Hid ((w1.alloc (LC l e (.slice an 4 cn) tx (.slice ar row.length cr) true)).cell? ⟨bn, on + 1, none⟩ = some (.int .u64 (x1 : Int))) := hcell 1 (by simp)
    have HI1 : Hid (∀ wx, (Instr.indexAt 102 (.slice an 4 cn) (.int .i64 1)).run Try.prog wx = .ok (.pointer (some ⟨bn, on + 1, none⟩)) wx) := fun wx => hidx .i64 1 wx (by decide)
    have HC2 : Hid ((w1.alloc (LC l e (.slice an 4 cn) tx (.slice ar row.length cr) true)).cell? ⟨bn, on + 2, none⟩ = some (.int .u64 (x2 : Int))) := hcell 2 (by simp)
    have HI2 : Hid (∀ wx, (Instr.indexAt 102 (.slice an 4 cn) (.int .i64 2)).run Try.prog wx = .ok (.pointer (some ⟨bn, on + 2, none⟩)) wx) := fun wx => hidx .i64 2 wx (by decide)
    have HC3 : Hid ((w1.alloc (LC l e (.slice an 4 cn) tx (.slice ar row.length cr) true)).cell? ⟨bn, on + 3, none⟩ = some (.int .u64 (x3 : Int))) := hcell 3 (by simp)
    have HI3 : Hid (∀ wx, (Instr.indexAt 102 (.slice an 4 cn) (.int .i64 3)).run Try.prog wx = .ok (.pointer (some ⟨bn, on + 3, none⟩)) wx) := fun wx => hidx .i64 3 wx (by decide)
    clear hown hrow hu hb1 hba hcell hidx HBA HG0 HRd HB1 HG1 Hrow
    unfold lV
    go_upto_region 2 with fail
    have hz2 : w.heap.size < w1.heap.size := hz1
    generalize hp : w1.heap.size = p at *
    generalize hW2 : (w1.alloc (Obj.cells #[.string (str l), .int .i64 e, .slice an 4 cn, .string (str tx), .slice ar row.length cr, .bool true] 104)) = w2
    have hW2' : (w1.alloc (LC l e (.slice an 4 cn) tx (.slice ar row.length cr) true)) = w2 := hW2
    rw [hW2'] at HL2 HB2 HG2 Hrow2 HC0 HC1 HC2 HC3
    have hz2' : p < w2.heap.size := (Array.getElem?_eq_some_iff.1 HL2.out).1
    clear hW2 hW2' hp
    obtain ⟨k0, k1, k2, k3, k4, k5⟩ := LC_cells HL2.out
    have K2 := Lib.hid k2; have K3 := Lib.hid k3; have K4 := Lib.hid k4
    clear k0 k1 k2 k3 k4 k5
    refine Rg.wp_region_rgt 16 [] [Rg.Is (.pointer (some ⟨p, 2, none⟩)), Rg.Is (.slice an 4 cn), Rg.Is (.pointer (some ⟨bn, on + 2, none⟩)), Rg.Is (.int .u64 (x2 : Int)), Rg.Is (.int .i64 (VarPlain.zag x2)), Rg.Is (.pointer (some ⟨p, 2, none⟩)), Rg.Is (.slice an 4 cn), Rg.Is (.pointer (some ⟨bn, on + 3, none⟩)), Rg.Is (.int .u64 (x3 : Int)), Rg.Is (.int .i64 (VarPlain.zag x3)), Rg.Is (.pointer (some ⟨p, 3, none⟩)), Rg.Is (.string (str tx)), Rg.Is (.pointer (some ⟨p, 4, none⟩)), Rg.Is (.slice ar row.length cr), Rg.Is (.agg #[.int .i64 0, .int .i64 0, .int .i64 (VarPlain.zag x2), .int .i64 (VarPlain.zag x3), .string (str tx), .slice ar row.length cr, .int .i64 0]), (fun v w => ∃ q, v = .pointer (some ⟨q, 0, none⟩) ∧ w2.heap.size ≤ q ∧ w.heap[q]? = some (Obj.cells #[.int .i64 0, .int .i64 0, .int .i64 0, .int .i64 0, .string ⟨#[]⟩, .slice none 0 0, .int .i64 0] 34))] (by kernel_rfl) (by kernel_rfl) (of_decide_eq_true (by kernel_rfl)) (by kernel_rfl) (by kernel_rfl) ⟨Rg.st_is _, Rg.st_is _, Rg.st_is _, Rg.st_is _, Rg.st_is _, Rg.st_is _, Rg.st_is _, Rg.st_is _, Rg.st_is _, Rg.st_is _, Rg.st_is _, Rg.st_is _, Rg.st_is _, Rg.st_is _, Rg.st_is _, fun v w w' h hb => by obtain ⟨q, hv, hq, hc⟩ := h; exact ⟨q, hv, hq, heap_low hb hc⟩, trivial⟩ ⟨rfl, rfl, rfl, rfl, rfl, rfl, rfl, rfl, rfl, rfl, rfl, rfl, rfl, rfl, rfl, rfl, trivial⟩ ⟨?_, ?_, ?_, ?_, ?_, ?_, ?_, ?_, ?_, ?_, ?_, ?_, ?_, ?_, ?_, ?_, trivial⟩ ?_
    · intro _ a wx hb hk
      have h4 : a.eval (.tmp 4) = .pointer (some ⟨p, 0, none⟩) := Eq.mp (by kernel_rfl) (hk 4 (by decide))
      exact Rs.does_field _ _ h4 (l_f1 _ _) ⟨Below.refl _ _, rfl⟩
    · intro _ a wx hb hk
      have h10 : a.eval (.tmp 10) = .pointer (some ⟨p, 2, none⟩) := Eq.mp (by kernel_rfl) (hk 10 (by decide))
      exact Rg.does_load _ _ h10 (load_uns (cell_below hb (Nat.le_refl _) K2.out)) ⟨Below.refl _ _, rfl⟩
    · intro _ a wx hb hk
      have h11 : a.eval (.tmp 11) = .slice an 4 cn := Eq.mp (by kernel_rfl) (hk 11 (by decide))
      exact Rg.does_index _ _ _ h11 rfl (HI2.out wx) ⟨Below.refl _ _, rfl⟩
    · intro _ a wx hb hk
      have h12 : a.eval (.tmp 12) = .pointer (some ⟨bn, on + 2, none⟩) := Eq.mp (by kernel_rfl) (hk 12 (by decide))
      exact Rg.does_load _ _ h12 (load_un (cell_below hb (Nat.le_refl _) HC2.out)) ⟨Below.refl _ _, rfl⟩
    · intro _ a wx hb hk
      have h13 : a.eval (.tmp 13) = .int .u64 (x2 : Int) := Eq.mp (by kernel_rfl) (hk 13 (by decide))
      refine Rg.does_func #[.int .u64 (x2 : Int)] Try.func59 (by kernel_rfl) (by kernel_rfl) (by simp [h13]) (ref_zag_calls wx x2 H2.out) ?_
      rintro e' w' ⟨rfl, rfl⟩
      exact ⟨_, rfl, Below.refl _ _, rfl⟩
    · intro _ a wx hb hk
      have h4 : a.eval (.tmp 4) = .pointer (some ⟨p, 0, none⟩) := Eq.mp (by kernel_rfl) (hk 4 (by decide))
      exact Rs.does_field _ _ h4 (l_f1 _ _) ⟨Below.refl _ _, rfl⟩
    · intro _ a wx hb hk
      have h15 : a.eval (.tmp 15) = .pointer (some ⟨p, 2, none⟩) := Eq.mp (by kernel_rfl) (hk 15 (by decide))
      exact Rg.does_load _ _ h15 (load_uns (cell_below hb (Nat.le_refl _) K2.out)) ⟨Below.refl _ _, rfl⟩
    · intro _ a wx hb hk
      have h16 : a.eval (.tmp 16) = .slice an 4 cn := Eq.mp (by kernel_rfl) (hk 16 (by decide))
      exact Rg.does_index _ _ _ h16 rfl (HI3.out wx) ⟨Below.refl _ _, rfl⟩
    · intro _ a wx hb hk
      have h17 : a.eval (.tmp 17) = .pointer (some ⟨bn, on + 3, none⟩) := Eq.mp (by kernel_rfl) (hk 17 (by decide))
      exact Rg.does_load _ _ h17 (load_un (cell_below hb (Nat.le_refl _) HC3.out)) ⟨Below.refl _ _, rfl⟩
    · intro _ a wx hb hk
      have h18 : a.eval (.tmp 18) = .int .u64 (x3 : Int) := Eq.mp (by kernel_rfl) (hk 18 (by decide))
      refine Rg.does_func #[.int .u64 (x3 : Int)] Try.func59 (by kernel_rfl) (by kernel_rfl) (by simp [h18]) (ref_zag_calls wx x3 H3.out) ?_
      rintro e' w' ⟨rfl, rfl⟩
      exact ⟨_, rfl, Below.refl _ _, rfl⟩
    · intro _ a wx hb hk
      have h4 : a.eval (.tmp 4) = .pointer (some ⟨p, 0, none⟩) := Eq.mp (by kernel_rfl) (hk 4 (by decide))
      exact Rs.does_field _ _ h4 (l_f2 _ _) ⟨Below.refl _ _, rfl⟩
    · intro _ a wx hb hk
      have h20 : a.eval (.tmp 20) = .pointer (some ⟨p, 3, none⟩) := Eq.mp (by kernel_rfl) (hk 20 (by decide))
      exact Rg.does_load _ _ h20 (load_string (cell_below hb (Nat.le_refl _) K3.out)) ⟨Below.refl _ _, rfl⟩
    · intro _ a wx hb hk
      have h4 : a.eval (.tmp 4) = .pointer (some ⟨p, 0, none⟩) := Eq.mp (by kernel_rfl) (hk 4 (by decide))
      exact Rs.does_field _ _ h4 (l_f3 _ _) ⟨Below.refl _ _, rfl⟩
    · intro _ a wx hb hk
      have h22 : a.eval (.tmp 22) = .pointer (some ⟨p, 4, none⟩) := Eq.mp (by kernel_rfl) (hk 22 (by decide))
      exact Rg.does_load _ _ h22 (load_strs (cell_below hb (Nat.le_refl _) K4.out)) ⟨Below.refl _ _, rfl⟩
    · intro _ a wx hb hk
      have h14 : a.eval (.tmp 14) = .int .i64 (VarPlain.zag x2) := Eq.mp (by kernel_rfl) (hk 14 (by decide))
      have h19 : a.eval (.tmp 19) = .int .i64 (VarPlain.zag x3) := Eq.mp (by kernel_rfl) (hk 19 (by decide))
      have h21 : a.eval (.tmp 21) = .string (str tx) := Eq.mp (by kernel_rfl) (hk 21 (by decide))
      have h23 : a.eval (.tmp 23) = .slice ar row.length cr := Eq.mp (by kernel_rfl) (hk 23 (by decide))
      exact does_buildS #[(2, .int .i64 (VarPlain.zag x2)), (3, .int .i64 (VarPlain.zag x3)), (4, .string (str tx)), (5, .slice ar row.length cr)] _ (by simp [h14, h19, h21, h23]) (build_ans wx _ _ _ _ _ _) ⟨Below.refl _ _, rfl⟩
    · intro _ a wx hb hk
      exact does_alloc _ (alloc_ans wx) ⟨(Below.refl _ _).alloc (Nat.le_refl _) _, _, rfl, hb.size, heap_alloc_new wx _⟩
    intro vals wD hbD hL
    obtain ⟨g0, g1, g2, g3, g4, g5, g6, g7, g8, g9, g10, g11, g12, g13, g14, g15, _⟩ := hL
    have g14' : vals 14 = .agg #[.int .i64 0, .int .i64 0, .int .i64 (VarPlain.zag x2), .int .i64 (VarPlain.zag x3), .string (str tx), .slice ar row.length cr, .int .i64 0] := g14
    obtain ⟨pr, g15', hq2, hq3⟩ := g15
    have hb3 : Below w2.heap.size w2 (((((((wD.setCell ⟨pr, 0, none⟩ (.int .i64 0)).setCell ⟨pr, 1, none⟩ (.int .i64 0)).setCell ⟨pr, 2, none⟩ (.int .i64 (VarPlain.zag x2))).setCell ⟨pr, 3, none⟩ (.int .i64 (VarPlain.zag x3))).setCell ⟨pr, 4, none⟩ (.string (str tx))).setCell ⟨pr, 5, none⟩ (.slice ar row.length cr)).setCell ⟨pr, 6, none⟩ (.int .i64 0)) := ((((((hbD.setCell hq2 _).setCell hq2 _).setCell hq2 _).setCell hq2 _).setCell hq2 _).setCell hq2 _).setCell hq2 _
    have HLD := Lib.hid (heap_low hb3 HL2.out)
    have HGD := Lib.hid (heap_low hb3 HG2.out)
    have HrowD := Lib.hid (ownsRow_below Hrow2.out hb3)
    have HD0 := Lib.hid (cell_below hb3 (Nat.le_refl _) HC0.out)
    have HBN0 : Hid (bn < w2.heap.size) := World.block_lt_of_cell? _ _ HC0.out
    have HD1 := Lib.hid (cell_below hb3 (Nat.le_refl _) HC1.out)
    have HBN1 : Hid (bn < w2.heap.size) := World.block_lt_of_cell? _ _ HC1.out
    have HRD : Hid ((((((((wD.setCell ⟨pr, 0, none⟩ (.int .i64 0)).setCell ⟨pr, 1, none⟩ (.int .i64 0)).setCell ⟨pr, 2, none⟩ (.int .i64 (VarPlain.zag x2))).setCell ⟨pr, 3, none⟩ (.int .i64 (VarPlain.zag x3))).setCell ⟨pr, 4, none⟩ (.string (str tx))).setCell ⟨pr, 5, none⟩ (.slice ar row.length cr)).setCell ⟨pr, 6, none⟩ (.int .i64 0)).heap[pr]? = some (Obj.cells #[.int .i64 0, .int .i64 0, .int .i64 (VarPlain.zag x2), .int .i64 (VarPlain.zag x3), .string (str tx), .slice ar row.length cr, .int .i64 0] 34)) := heap_setCell_same _ pr 6 _ _ _ (heap_setCell_same _ pr 5 _ _ _ (heap_setCell_same _ pr 4 _ _ _ (heap_setCell_same _ pr 3 _ _ _ (heap_setCell_same _ pr 2 _ _ _ (heap_setCell_same _ pr 1 _ _ _ (heap_setCell_same _ pr 0 _ _ _ hq3))))))
    have HB3 : Hid (Below w.heap.size w (((((((wD.setCell ⟨pr, 0, none⟩ (.int .i64 0)).setCell ⟨pr, 1, none⟩ (.int .i64 0)).setCell ⟨pr, 2, none⟩ (.int .i64 (VarPlain.zag x2))).setCell ⟨pr, 3, none⟩ (.int .i64 (VarPlain.zag x3))).setCell ⟨pr, 4, none⟩ (.string (str tx))).setCell ⟨pr, 5, none⟩ (.slice ar row.length cr)).setCell ⟨pr, 6, none⟩ (.int .i64 0))) := HB2.out.trans (hb3.mono (by omega))
    have hrp : Hid (∀ j, Value.ownBlock (.slice ar row.length cr) = some j → j < pr) := fun j hj => Nat.lt_of_lt_of_le (Hrow2.out.lt j hj).2 hq2
    have hpr : p < pr := Nat.lt_of_lt_of_le hz2' hq2
    have hbp : bn < pr := Nat.lt_of_lt_of_le HBN0.out hq2
    have q0 : wD.cell? ⟨pr, 0, none⟩ = some (.int .i64 0) := by simp [World.cell?, hq3]
    have u0 : wD.frozen? ⟨pr, 0, none⟩ = false := by simp [World.frozen?, hq3]
    have q1 : wD.cell? ⟨pr, 1, none⟩ = some (.int .i64 0) := by simp [World.cell?, hq3]
    have u1 : wD.frozen? ⟨pr, 1, none⟩ = false := by simp [World.frozen?, hq3]
    have q2 : wD.cell? ⟨pr, 2, none⟩ = some (.int .i64 0) := by simp [World.cell?, hq3]
    have u2 : wD.frozen? ⟨pr, 2, none⟩ = false := by simp [World.frozen?, hq3]
    have q3 : wD.cell? ⟨pr, 3, none⟩ = some (.int .i64 0) := by simp [World.cell?, hq3]
    have u3 : wD.frozen? ⟨pr, 3, none⟩ = false := by simp [World.frozen?, hq3]
    have q4 : wD.cell? ⟨pr, 4, none⟩ = some (.string ⟨#[]⟩) := by simp [World.cell?, hq3]
    have u4 : wD.frozen? ⟨pr, 4, none⟩ = false := by simp [World.frozen?, hq3]
    have q5 : wD.cell? ⟨pr, 5, none⟩ = some (.slice none 0 0) := by simp [World.cell?, hq3]
    have u5 : wD.frozen? ⟨pr, 5, none⟩ = false := by simp [World.frozen?, hq3]
    have q6 : wD.cell? ⟨pr, 6, none⟩ = some (.int .i64 0) := by simp [World.cell?, hq3]
    have u6 : wD.frozen? ⟨pr, 6, none⟩ = false := by simp [World.frozen?, hq3]
    clear g0 g1 g2 g3 g4 g5 g6 g7 g8 g9 g10 g11 g12 g13 g14 hbD hb3 hq2 hq3 HL2 HG2 Hrow2 HC0 HC1 HC2 HC3 HI2 HI3 HB2 K2 K3 K4 H1 H2 H3 HBN0 HBN1
    simp only [Rg.putAll, List.take_succ_cons, List.take_zero, List.drop_succ_cons, List.drop_zero, List.setIfInBounds_toArray, List.set_cons_succ, List.set_cons_zero, g14', g15']
    clear g14' g15'
    go_upto_region 3 with fail
    clear q0 u0 q1 u1 q2 u2 q3 u3 q4 u4 q5 u5 q6 u6
    generalize hX : (((((((wD.setCell ⟨pr, 0, none⟩ (.int .i64 0)).setCell ⟨pr, 1, none⟩ (.int .i64 0)).setCell ⟨pr, 2, none⟩ (.int .i64 (VarPlain.zag x2))).setCell ⟨pr, 3, none⟩ (.int .i64 (VarPlain.zag x3))).setCell ⟨pr, 4, none⟩ (.string (str tx))).setCell ⟨pr, 5, none⟩ (.slice ar row.length cr)).setCell ⟨pr, 6, none⟩ (.int .i64 0)) = w3 at *
    clear hX
    obtain ⟨k0, k1, k2, k3, k4, k5⟩ := LC_cells HLD.out
    have i0 := HI0.out; have i1 := HI1.out
    have e0 := HD0.out; have e1 := HD1.out
    by_cases h10 : 0 < x0
    · have d0 : decide ((0 : Int) < (x0 : Int)) = true := by simp; omega
      have d0' : (0 : Int) < (x0 : Int) := by omega
      by_cases h11 : x0 < 12
      · have d1 : decide ((x0 : Int) < 12) = true := by simp; omega
        have d1' : (x0 : Int) < 12 := by omega
        by_cases h12 : x1 < 256
        · have d2 : decide ((x1 : Int) < 256) = true := by simp; omega
          have d2' : (x1 : Int) < 256 := by omega
          have hrt : rt = false := by first | (rw [HRT.out]; done) | (rw [HRT.out]; simp; done) | (rw [HRT.out]; simp; omega)
          have HEb : Hid (endR (!true && false) l e = ev) := by
            have := HE.out
            skip
            exact this
          have hE : ev ≠ 0 := by
            intro h
            have := HNE.out h
            rw [hrt] at this
            cases this
          have HV := Lib.hid (HQB.out hE)
          go_wp2_with fail
          refine (ref_fault_calls w3 l e an ar 4 cn row.length cr tx true false).mono ?_
          rintro r wF ⟨rfl, hbF⟩
          have HGF := Lib.hid (heap_low hbF HGD.out)
          have hz4 : w.heap.size < w3.heap.size := (Array.getElem?_eq_some_iff.1 HGD.out).1
          have HBF : Hid (Below w.heap.size w wF) := HB3.out.trans (hbF.mono HB3.out.size)
          clear k0 k1 k2 k3 k4 k5 i0 i1 e0 e1 hbF HGD HLD HRD HrowD HB3
          rw [HEb.out]
          have z0 : wF.cell? ⟨w.heap.size, 0, none⟩ = some (.int .i64 0) := by have := HGF.out; simp [World.cell?, this]
          have y0 : wF.frozen? ⟨w.heap.size, 0, none⟩ = false := by have := HGF.out; simp [World.frozen?, this]
          have z1 : wF.cell? ⟨w.heap.size, 1, none⟩ = some (.int .i64 0) := by have := HGF.out; simp [World.cell?, this]
          have y1 : wF.frozen? ⟨w.heap.size, 1, none⟩ = false := by have := HGF.out; simp [World.frozen?, this]
          have z2 : wF.cell? ⟨w.heap.size, 2, none⟩ = some (.int .i64 0) := by have := HGF.out; simp [World.cell?, this]
          have y2 : wF.frozen? ⟨w.heap.size, 2, none⟩ = false := by have := HGF.out; simp [World.frozen?, this]
          have z3 : wF.cell? ⟨w.heap.size, 3, none⟩ = some (.int .i64 0) := by have := HGF.out; simp [World.cell?, this]
          have y3 : wF.frozen? ⟨w.heap.size, 3, none⟩ = false := by have := HGF.out; simp [World.frozen?, this]
          have z4 : wF.cell? ⟨w.heap.size, 4, none⟩ = some (.string ⟨#[]⟩) := by have := HGF.out; simp [World.cell?, this]
          have y4 : wF.frozen? ⟨w.heap.size, 4, none⟩ = false := by have := HGF.out; simp [World.frozen?, this]
          have z5 : wF.cell? ⟨w.heap.size, 5, none⟩ = some (.slice none 0 0) := by have := HGF.out; simp [World.cell?, this]
          have y5 : wF.frozen? ⟨w.heap.size, 5, none⟩ = false := by have := HGF.out; simp [World.frozen?, this]
          have z6 : wF.cell? ⟨w.heap.size, 6, none⟩ = some (.int .i64 0) := by have := HGF.out; simp [World.cell?, this]
          have y6 : wF.frozen? ⟨w.heap.size, 6, none⟩ = false := by have := HGF.out; simp [World.frozen?, this]
          have t1 : (ev == 0) = false := by rw [beq_eq_false_iff_ne]; exact hE
          have t2 : (ev != 0) = true := by rw [bne_iff_ne]; exact hE
          go_wp2_with fail
          refine bodyPost_ret (v := .tuple #[.agg #[.int .i64 0, .int .i64 0, .int .i64 0, .int .i64 0, .string ⟨#[]⟩, .slice none 0 0, .int .i64 0], .int .i64 ev]) (by simp [results, Try.results35, go_sem, z0, z1, z2, z3, z4, z5, z6]) rfl ?_
          refine ⟨none, 0, by rw [HV.out]; rfl, ?_, ?_, fun ad h => by cases h⟩
          · rw [HV.out]; exact RowOf.nil
          · exact (((((((HBF.out.setCell (Nat.le_refl _) _).setCell (Nat.le_refl _) _).setCell (Nat.le_refl _) _).setCell (Nat.le_refl _) _).setCell (Nat.le_refl _) _).setCell (Nat.le_refl _) _).setCell (Nat.le_refl _) _)
        · have d2 : decide ((x1 : Int) < 256) = false := by simp; omega
          have d2' : ¬ (x1 : Int) < 256 := by omega
          have hrt : rt = false := by first | (rw [HRT.out]; done) | (rw [HRT.out]; simp; done) | (rw [HRT.out]; simp; omega)
          have HEb : Hid (endR (!true && false) l e = ev) := by
            have := HE.out
            skip
            exact this
          have hE : ev ≠ 0 := by
            intro h
            have := HNE.out h
            rw [hrt] at this
            cases this
          have HV := Lib.hid (HQB.out hE)
          go_wp2_with fail
          refine (ref_fault_calls w3 l e an ar 4 cn row.length cr tx true false).mono ?_
          rintro r wF ⟨rfl, hbF⟩
          have HGF := Lib.hid (heap_low hbF HGD.out)
          have hz4 : w.heap.size < w3.heap.size := (Array.getElem?_eq_some_iff.1 HGD.out).1
          have HBF : Hid (Below w.heap.size w wF) := HB3.out.trans (hbF.mono HB3.out.size)
          clear k0 k1 k2 k3 k4 k5 i0 i1 e0 e1 hbF HGD HLD HRD HrowD HB3
          rw [HEb.out]
          have z0 : wF.cell? ⟨w.heap.size, 0, none⟩ = some (.int .i64 0) := by have := HGF.out; simp [World.cell?, this]
          have y0 : wF.frozen? ⟨w.heap.size, 0, none⟩ = false := by have := HGF.out; simp [World.frozen?, this]
          have z1 : wF.cell? ⟨w.heap.size, 1, none⟩ = some (.int .i64 0) := by have := HGF.out; simp [World.cell?, this]
          have y1 : wF.frozen? ⟨w.heap.size, 1, none⟩ = false := by have := HGF.out; simp [World.frozen?, this]
          have z2 : wF.cell? ⟨w.heap.size, 2, none⟩ = some (.int .i64 0) := by have := HGF.out; simp [World.cell?, this]
          have y2 : wF.frozen? ⟨w.heap.size, 2, none⟩ = false := by have := HGF.out; simp [World.frozen?, this]
          have z3 : wF.cell? ⟨w.heap.size, 3, none⟩ = some (.int .i64 0) := by have := HGF.out; simp [World.cell?, this]
          have y3 : wF.frozen? ⟨w.heap.size, 3, none⟩ = false := by have := HGF.out; simp [World.frozen?, this]
          have z4 : wF.cell? ⟨w.heap.size, 4, none⟩ = some (.string ⟨#[]⟩) := by have := HGF.out; simp [World.cell?, this]
          have y4 : wF.frozen? ⟨w.heap.size, 4, none⟩ = false := by have := HGF.out; simp [World.frozen?, this]
          have z5 : wF.cell? ⟨w.heap.size, 5, none⟩ = some (.slice none 0 0) := by have := HGF.out; simp [World.cell?, this]
          have y5 : wF.frozen? ⟨w.heap.size, 5, none⟩ = false := by have := HGF.out; simp [World.frozen?, this]
          have z6 : wF.cell? ⟨w.heap.size, 6, none⟩ = some (.int .i64 0) := by have := HGF.out; simp [World.cell?, this]
          have y6 : wF.frozen? ⟨w.heap.size, 6, none⟩ = false := by have := HGF.out; simp [World.frozen?, this]
          have t1 : (ev == 0) = false := by rw [beq_eq_false_iff_ne]; exact hE
          have t2 : (ev != 0) = true := by rw [bne_iff_ne]; exact hE
          go_wp2_with fail
          refine bodyPost_ret (v := .tuple #[.agg #[.int .i64 0, .int .i64 0, .int .i64 0, .int .i64 0, .string ⟨#[]⟩, .slice none 0 0, .int .i64 0], .int .i64 ev]) (by simp [results, Try.results35, go_sem, z0, z1, z2, z3, z4, z5, z6]) rfl ?_
          refine ⟨none, 0, by rw [HV.out]; rfl, ?_, ?_, fun ad h => by cases h⟩
          · rw [HV.out]; exact RowOf.nil
          · exact (((((((HBF.out.setCell (Nat.le_refl _) _).setCell (Nat.le_refl _) _).setCell (Nat.le_refl _) _).setCell (Nat.le_refl _) _).setCell (Nat.le_refl _) _).setCell (Nat.le_refl _) _).setCell (Nat.le_refl _) _)
      · have d1 : decide ((x0 : Int) < 12) = false := by simp; omega
        have d1' : ¬ (x0 : Int) < 12 := by omega
        have hrt : rt = false := by first | (rw [HRT.out]; done) | (rw [HRT.out]; simp; done) | (rw [HRT.out]; simp; omega)
        have HEb : Hid (endR (!true && false) l e = ev) := by
          have := HE.out
          skip
          exact this
        have hE : ev ≠ 0 := by
          intro h
          have := HNE.out h
          rw [hrt] at this
          cases this
        have HV := Lib.hid (HQB.out hE)
        go_wp2_with fail
        refine (ref_fault_calls w3 l e an ar 4 cn row.length cr tx true false).mono ?_
        rintro r wF ⟨rfl, hbF⟩
        have HGF := Lib.hid (heap_low hbF HGD.out)
        have hz4 : w.heap.size < w3.heap.size := (Array.getElem?_eq_some_iff.1 HGD.out).1
        have HBF : Hid (Below w.heap.size w wF) := HB3.out.trans (hbF.mono HB3.out.size)
        clear k0 k1 k2 k3 k4 k5 i0 i1 e0 e1 hbF HGD HLD HRD HrowD HB3
        rw [HEb.out]
        have z0 : wF.cell? ⟨w.heap.size, 0, none⟩ = some (.int .i64 0) := by have := HGF.out; simp [World.cell?, this]
        have y0 : wF.frozen? ⟨w.heap.size, 0, none⟩ = false := by have := HGF.out; simp [World.frozen?, this]
        have z1 : wF.cell? ⟨w.heap.size, 1, none⟩ = some (.int .i64 0) := by have := HGF.out; simp [World.cell?, this]
        have y1 : wF.frozen? ⟨w.heap.size, 1, none⟩ = false := by have := HGF.out; simp [World.frozen?, this]
        have z2 : wF.cell? ⟨w.heap.size, 2, none⟩ = some (.int .i64 0) := by have := HGF.out; simp [World.cell?, this]
        have y2 : wF.frozen? ⟨w.heap.size, 2, none⟩ = false := by have := HGF.out; simp [World.frozen?, this]
        have z3 : wF.cell? ⟨w.heap.size, 3, none⟩ = some (.int .i64 0) := by have := HGF.out; simp [World.cell?, this]
        have y3 : wF.frozen? ⟨w.heap.size, 3, none⟩ = false := by have := HGF.out; simp [World.frozen?, this]
        have z4 : wF.cell? ⟨w.heap.size, 4, none⟩ = some (.string ⟨#[]⟩) := by have := HGF.out; simp [World.cell?, this]
        have y4 : wF.frozen? ⟨w.heap.size, 4, none⟩ = false := by have := HGF.out; simp [World.frozen?, this]
        have z5 : wF.cell? ⟨w.heap.size, 5, none⟩ = some (.slice none 0 0) := by have := HGF.out; simp [World.cell?, this]
        have y5 : wF.frozen? ⟨w.heap.size, 5, none⟩ = false := by have := HGF.out; simp [World.frozen?, this]
        have z6 : wF.cell? ⟨w.heap.size, 6, none⟩ = some (.int .i64 0) := by have := HGF.out; simp [World.cell?, this]
        have y6 : wF.frozen? ⟨w.heap.size, 6, none⟩ = false := by have := HGF.out; simp [World.frozen?, this]
        have t1 : (ev == 0) = false := by rw [beq_eq_false_iff_ne]; exact hE
        have t2 : (ev != 0) = true := by rw [bne_iff_ne]; exact hE
        go_wp2_with fail
        refine bodyPost_ret (v := .tuple #[.agg #[.int .i64 0, .int .i64 0, .int .i64 0, .int .i64 0, .string ⟨#[]⟩, .slice none 0 0, .int .i64 0], .int .i64 ev]) (by simp [results, Try.results35, go_sem, z0, z1, z2, z3, z4, z5, z6]) rfl ?_
        refine ⟨none, 0, by rw [HV.out]; rfl, ?_, ?_, fun ad h => by cases h⟩
        · rw [HV.out]; exact RowOf.nil
        · exact (((((((HBF.out.setCell (Nat.le_refl _) _).setCell (Nat.le_refl _) _).setCell (Nat.le_refl _) _).setCell (Nat.le_refl _) _).setCell (Nat.le_refl _) _).setCell (Nat.le_refl _) _).setCell (Nat.le_refl _) _)
    · have d0 : decide ((0 : Int) < (x0 : Int)) = false := by simp; omega
      have d0' : ¬ (0 : Int) < (x0 : Int) := by omega
      have hrt : rt = false := by first | (rw [HRT.out]; done) | (rw [HRT.out]; simp; done) | (rw [HRT.out]; simp; omega)
      have HEb : Hid (endR (!true && false) l e = ev) := by
        have := HE.out
        skip
        exact this
      have hE : ev ≠ 0 := by
        intro h
        have := HNE.out h
        rw [hrt] at this
        cases this
      have HV := Lib.hid (HQB.out hE)
      go_wp2_with fail
      refine (ref_fault_calls w3 l e an ar 4 cn row.length cr tx true false).mono ?_
      rintro r wF ⟨rfl, hbF⟩
      have HGF := Lib.hid (heap_low hbF HGD.out)
      have hz4 : w.heap.size < w3.heap.size := (Array.getElem?_eq_some_iff.1 HGD.out).1
      have HBF : Hid (Below w.heap.size w wF) := HB3.out.trans (hbF.mono HB3.out.size)
      clear k0 k1 k2 k3 k4 k5 i0 i1 e0 e1 hbF HGD HLD HRD HrowD HB3
      rw [HEb.out]
      have z0 : wF.cell? ⟨w.heap.size, 0, none⟩ = some (.int .i64 0) := by have := HGF.out; simp [World.cell?, this]
      have y0 : wF.frozen? ⟨w.heap.size, 0, none⟩ = false := by have := HGF.out; simp [World.frozen?, this]
      have z1 : wF.cell? ⟨w.heap.size, 1, none⟩ = some (.int .i64 0) := by have := HGF.out; simp [World.cell?, this]
      have y1 : wF.frozen? ⟨w.heap.size, 1, none⟩ = false := by have := HGF.out; simp [World.frozen?, this]
      have z2 : wF.cell? ⟨w.heap.size, 2, none⟩ = some (.int .i64 0) := by have := HGF.out; simp [World.cell?, this]
      have y2 : wF.frozen? ⟨w.heap.size, 2, none⟩ = false := by have := HGF.out; simp [World.frozen?, this]
      have z3 : wF.cell? ⟨w.heap.size, 3, none⟩ = some (.int .i64 0) := by have := HGF.out; simp [World.cell?, this]
      have y3 : wF.frozen? ⟨w.heap.size, 3, none⟩ = false := by have := HGF.out; simp [World.frozen?, this]
      have z4 : wF.cell? ⟨w.heap.size, 4, none⟩ = some (.string ⟨#[]⟩) := by have := HGF.out; simp [World.cell?, this]
      have y4 : wF.frozen? ⟨w.heap.size, 4, none⟩ = false := by have := HGF.out; simp [World.frozen?, this]
      have z5 : wF.cell? ⟨w.heap.size, 5, none⟩ = some (.slice none 0 0) := by have := HGF.out; simp [World.cell?, this]
      have y5 : wF.frozen? ⟨w.heap.size, 5, none⟩ = false := by have := HGF.out; simp [World.frozen?, this]
      have z6 : wF.cell? ⟨w.heap.size, 6, none⟩ = some (.int .i64 0) := by have := HGF.out; simp [World.cell?, this]
      have y6 : wF.frozen? ⟨w.heap.size, 6, none⟩ = false := by have := HGF.out; simp [World.frozen?, this]
      have t1 : (ev == 0) = false := by rw [beq_eq_false_iff_ne]; exact hE
      have t2 : (ev != 0) = true := by rw [bne_iff_ne]; exact hE
      go_wp2_with fail
      refine bodyPost_ret (v := .tuple #[.agg #[.int .i64 0, .int .i64 0, .int .i64 0, .int .i64 0, .string ⟨#[]⟩, .slice none 0 0, .int .i64 0], .int .i64 ev]) (by simp [results, Try.results35, go_sem, z0, z1, z2, z3, z4, z5, z6]) rfl ?_
      refine ⟨none, 0, by rw [HV.out]; rfl, ?_, ?_, fun ad h => by cases h⟩
      · rw [HV.out]; exact RowOf.nil
      · exact (((((((HBF.out.setCell (Nat.le_refl _) _).setCell (Nat.le_refl _) _).setCell (Nat.le_refl _) _).setCell (Nat.le_refl _) _).setCell (Nat.le_refl _) _).setCell (Nat.le_refl _) _).setCell (Nat.le_refl _) _)
  case true =>
    simp only [if_false, Bool.true_eq_false, Bool.not_true, Bool.not_false, Bool.true_and] at HRd HE HRT
    go_enter Try.func35, Try.ntmps35
    go_wp2_with fail
    refine HRd.out.mono ?_
    rintro r w1 ⟨vn, vr, rfl, hown, hrow, hb1⟩
    have hown : w1.ownsRow (w.alloc (Obj.cells #[.int .i64 0, .int .i64 0, .int .i64 0, .int .i64 0, .string ⟨#[]⟩, .slice none 0 0, .int .i64 0] 34)).heap.size 62 1 vn 5 ([x0, x1, x2, x3, x4].map nv) := hown
    have Hrow := Lib.hid hrow
    obtain ⟨an, cn, rfl, hu⟩ := u64s_own hown
    obtain ⟨ar, cr, rfl, _, _, _, _⟩ := ownsRow_slice Hrow.out
    have HB1 : Hid (Below w.heap.size w w1) := HBA.out.trans (hb1.mono HBA.out.size)
    have HG1 : Hid (w1.heap[w.heap.size]? = some (Obj.cells #[.int .i64 0, .int .i64 0, .int .i64 0, .int .i64 0, .string ⟨#[]⟩, .slice none 0 0, .int .i64 0] 34)) := heap_low hb1 HG0.out
    have hz1 : w.heap.size < w1.heap.size := by have := hb1.size; simp at this; omega
    have hba := (Below.refl w1.heap.size w1).alloc (Nat.le_refl _) (LC l e (.slice an 5 cn) tx (.slice ar row.length cr) false)
    have HL2 : Hid ((w1.alloc (LC l e (.slice an 5 cn) tx (.slice ar row.length cr) false)).heap[w1.heap.size]? = some (LC l e (.slice an 5 cn) tx (.slice ar row.length cr) false)) := heap_alloc_new w1 _
    have HB2 : Hid (Below w.heap.size w (w1.alloc (LC l e (.slice an 5 cn) tx (.slice ar row.length cr) false))) := HB1.out.trans (hba.mono HB1.out.size)
    have HG2 := Lib.hid (heap_low hba HG1.out)
    have Hrow2 := Lib.hid (ownsRow_below Hrow.out hba)
    obtain ⟨bn, on, hcell, hidx⟩ := at_u64s (hu.below stable_u64At hba)
    have HC0 : Hid ((w1.alloc (LC l e (.slice an 5 cn) tx (.slice ar row.length cr) false)).cell? ⟨bn, on, none⟩ = some (.int .u64 (x0 : Int))) := hcell 0 (by simp)
    have HI0 : Hid (∀ wx, (Instr.indexAt 102 (.slice an 5 cn) (.int .i64 0)).run Try.prog wx = .ok (.pointer (some ⟨bn, on, none⟩)) wx) := fun wx => hidx .i64 0 wx (by decide)
    have HC1 : Hid ((w1.alloc (LC l e (.slice an 5 cn) tx (.slice ar row.length cr) false)).cell? ⟨bn, on + 1, none⟩ = some (.int .u64 (x1 : Int))) := hcell 1 (by simp)
    have HI1 : Hid (∀ wx, (Instr.indexAt 102 (.slice an 5 cn) (.int .i64 1)).run Try.prog wx = .ok (.pointer (some ⟨bn, on + 1, none⟩)) wx) := fun wx => hidx .i64 1 wx (by decide)
    have HC2 : Hid ((w1.alloc (LC l e (.slice an 5 cn) tx (.slice ar row.length cr) false)).cell? ⟨bn, on + 2, none⟩ = some (.int .u64 (x2 : Int))) := hcell 2 (by simp)
    have HI2 : Hid (∀ wx, (Instr.indexAt 102 (.slice an 5 cn) (.int .i64 2)).run Try.prog wx = .ok (.pointer (some ⟨bn, on + 2, none⟩)) wx) := fun wx => hidx .i64 2 wx (by decide)
    have HC3 : Hid ((w1.alloc (LC l e (.slice an 5 cn) tx (.slice ar row.length cr) false)).cell? ⟨bn, on + 3, none⟩ = some (.int .u64 (x3 : Int))) := hcell 3 (by simp)
    have HI3 : Hid (∀ wx, (Instr.indexAt 102 (.slice an 5 cn) (.int .i64 3)).run Try.prog wx = .ok (.pointer (some ⟨bn, on + 3, none⟩)) wx) := fun wx => hidx .i64 3 wx (by decide)
    have HC4 : Hid ((w1.alloc (LC l e (.slice an 5 cn) tx (.slice ar row.length cr) false)).cell? ⟨bn, on + 4, none⟩ = some (.int .u64 (x4 : Int))) := hcell 4 (by simp)
    have HI4 : Hid (∀ wx, (Instr.indexAt 102 (.slice an 5 cn) (.int .i64 4)).run Try.prog wx = .ok (.pointer (some ⟨bn, on + 4, none⟩)) wx) := fun wx => hidx .i64 4 wx (by decide)
    clear hown hrow hu hb1 hba hcell hidx HBA HG0 HRd HB1 HG1 Hrow
    unfold lV
    go_upto_region 2 with fail
    have hz2 : w.heap.size < w1.heap.size := hz1
    generalize hp : w1.heap.size = p at *
    generalize hW2 : (w1.alloc (Obj.cells #[.string (str l), .int .i64 e, .slice an 5 cn, .string (str tx), .slice ar row.length cr, .bool false] 104)) = w2
    have hW2' : (w1.alloc (LC l e (.slice an 5 cn) tx (.slice ar row.length cr) false)) = w2 := hW2
    rw [hW2'] at HL2 HB2 HG2 Hrow2 HC0 HC1 HC2 HC3 HC4
    have hz2' : p < w2.heap.size := (Array.getElem?_eq_some_iff.1 HL2.out).1
    clear hW2 hW2' hp
    obtain ⟨k0, k1, k2, k3, k4, k5⟩ := LC_cells HL2.out
    have K2 := Lib.hid k2; have K3 := Lib.hid k3; have K4 := Lib.hid k4
    clear k0 k1 k2 k3 k4 k5
    refine Rg.wp_region_rgt 16 [] [Rg.Is (.pointer (some ⟨p, 2, none⟩)), Rg.Is (.slice an 5 cn), Rg.Is (.pointer (some ⟨bn, on + 2, none⟩)), Rg.Is (.int .u64 (x2 : Int)), Rg.Is (.int .i64 (VarPlain.zag x2)), Rg.Is (.pointer (some ⟨p, 2, none⟩)), Rg.Is (.slice an 5 cn), Rg.Is (.pointer (some ⟨bn, on + 3, none⟩)), Rg.Is (.int .u64 (x3 : Int)), Rg.Is (.int .i64 (VarPlain.zag x3)), Rg.Is (.pointer (some ⟨p, 3, none⟩)), Rg.Is (.string (str tx)), Rg.Is (.pointer (some ⟨p, 4, none⟩)), Rg.Is (.slice ar row.length cr), Rg.Is (.agg #[.int .i64 0, .int .i64 0, .int .i64 (VarPlain.zag x2), .int .i64 (VarPlain.zag x3), .string (str tx), .slice ar row.length cr, .int .i64 0]), (fun v w => ∃ q, v = .pointer (some ⟨q, 0, none⟩) ∧ w2.heap.size ≤ q ∧ w.heap[q]? = some (Obj.cells #[.int .i64 0, .int .i64 0, .int .i64 0, .int .i64 0, .string ⟨#[]⟩, .slice none 0 0, .int .i64 0] 34))] (by kernel_rfl) (by kernel_rfl) (of_decide_eq_true (by kernel_rfl)) (by kernel_rfl) (by kernel_rfl) ⟨Rg.st_is _, Rg.st_is _, Rg.st_is _, Rg.st_is _, Rg.st_is _, Rg.st_is _, Rg.st_is _, Rg.st_is _, Rg.st_is _, Rg.st_is _, Rg.st_is _, Rg.st_is _, Rg.st_is _, Rg.st_is _, Rg.st_is _, fun v w w' h hb => by obtain ⟨q, hv, hq, hc⟩ := h; exact ⟨q, hv, hq, heap_low hb hc⟩, trivial⟩ ⟨rfl, rfl, rfl, rfl, rfl, rfl, rfl, rfl, rfl, rfl, rfl, rfl, rfl, rfl, rfl, rfl, trivial⟩ ⟨?_, ?_, ?_, ?_, ?_, ?_, ?_, ?_, ?_, ?_, ?_, ?_, ?_, ?_, ?_, ?_, trivial⟩ ?_
    · intro _ a wx hb hk
      have h4 : a.eval (.tmp 4) = .pointer (some ⟨p, 0, none⟩) := Eq.mp (by kernel_rfl) (hk 4 (by decide))
      exact Rs.does_field _ _ h4 (l_f1 _ _) ⟨Below.refl _ _, rfl⟩
    · intro _ a wx hb hk
      have h10 : a.eval (.tmp 10) = .pointer (some ⟨p, 2, none⟩) := Eq.mp (by kernel_rfl) (hk 10 (by decide))
      exact Rg.does_load _ _ h10 (load_uns (cell_below hb (Nat.le_refl _) K2.out)) ⟨Below.refl _ _, rfl⟩
    · intro _ a wx hb hk
      have h11 : a.eval (.tmp 11) = .slice an 5 cn := Eq.mp (by kernel_rfl) (hk 11 (by decide))
      exact Rg.does_index _ _ _ h11 rfl (HI2.out wx) ⟨Below.refl _ _, rfl⟩
    · intro _ a wx hb hk
      have h12 : a.eval (.tmp 12) = .pointer (some ⟨bn, on + 2, none⟩) := Eq.mp (by kernel_rfl) (hk 12 (by decide))
      exact Rg.does_load _ _ h12 (load_un (cell_below hb (Nat.le_refl _) HC2.out)) ⟨Below.refl _ _, rfl⟩
    · intro _ a wx hb hk
      have h13 : a.eval (.tmp 13) = .int .u64 (x2 : Int) := Eq.mp (by kernel_rfl) (hk 13 (by decide))
      refine Rg.does_func #[.int .u64 (x2 : Int)] Try.func59 (by kernel_rfl) (by kernel_rfl) (by simp [h13]) (ref_zag_calls wx x2 H2.out) ?_
      rintro e' w' ⟨rfl, rfl⟩
      exact ⟨_, rfl, Below.refl _ _, rfl⟩
    · intro _ a wx hb hk
      have h4 : a.eval (.tmp 4) = .pointer (some ⟨p, 0, none⟩) := Eq.mp (by kernel_rfl) (hk 4 (by decide))
      exact Rs.does_field _ _ h4 (l_f1 _ _) ⟨Below.refl _ _, rfl⟩
    · intro _ a wx hb hk
      have h15 : a.eval (.tmp 15) = .pointer (some ⟨p, 2, none⟩) := Eq.mp (by kernel_rfl) (hk 15 (by decide))
      exact Rg.does_load _ _ h15 (load_uns (cell_below hb (Nat.le_refl _) K2.out)) ⟨Below.refl _ _, rfl⟩
    · intro _ a wx hb hk
      have h16 : a.eval (.tmp 16) = .slice an 5 cn := Eq.mp (by kernel_rfl) (hk 16 (by decide))
      exact Rg.does_index _ _ _ h16 rfl (HI3.out wx) ⟨Below.refl _ _, rfl⟩
    · intro _ a wx hb hk
      have h17 : a.eval (.tmp 17) = .pointer (some ⟨bn, on + 3, none⟩) := Eq.mp (by kernel_rfl) (hk 17 (by decide))
      exact Rg.does_load _ _ h17 (load_un (cell_below hb (Nat.le_refl _) HC3.out)) ⟨Below.refl _ _, rfl⟩
    · intro _ a wx hb hk
      have h18 : a.eval (.tmp 18) = .int .u64 (x3 : Int) := Eq.mp (by kernel_rfl) (hk 18 (by decide))
      refine Rg.does_func #[.int .u64 (x3 : Int)] Try.func59 (by kernel_rfl) (by kernel_rfl) (by simp [h18]) (ref_zag_calls wx x3 H3.out) ?_
      rintro e' w' ⟨rfl, rfl⟩
      exact ⟨_, rfl, Below.refl _ _, rfl⟩
    · intro _ a wx hb hk
      have h4 : a.eval (.tmp 4) = .pointer (some ⟨p, 0, none⟩) := Eq.mp (by kernel_rfl) (hk 4 (by decide))
      exact Rs.does_field _ _ h4 (l_f2 _ _) ⟨Below.refl _ _, rfl⟩
    · intro _ a wx hb hk
      have h20 : a.eval (.tmp 20) = .pointer (some ⟨p, 3, none⟩) := Eq.mp (by kernel_rfl) (hk 20 (by decide))
      exact Rg.does_load _ _ h20 (load_string (cell_below hb (Nat.le_refl _) K3.out)) ⟨Below.refl _ _, rfl⟩
    · intro _ a wx hb hk
      have h4 : a.eval (.tmp 4) = .pointer (some ⟨p, 0, none⟩) := Eq.mp (by kernel_rfl) (hk 4 (by decide))
      exact Rs.does_field _ _ h4 (l_f3 _ _) ⟨Below.refl _ _, rfl⟩
    · intro _ a wx hb hk
      have h22 : a.eval (.tmp 22) = .pointer (some ⟨p, 4, none⟩) := Eq.mp (by kernel_rfl) (hk 22 (by decide))
      exact Rg.does_load _ _ h22 (load_strs (cell_below hb (Nat.le_refl _) K4.out)) ⟨Below.refl _ _, rfl⟩
    · intro _ a wx hb hk
      have h14 : a.eval (.tmp 14) = .int .i64 (VarPlain.zag x2) := Eq.mp (by kernel_rfl) (hk 14 (by decide))
      have h19 : a.eval (.tmp 19) = .int .i64 (VarPlain.zag x3) := Eq.mp (by kernel_rfl) (hk 19 (by decide))
      have h21 : a.eval (.tmp 21) = .string (str tx) := Eq.mp (by kernel_rfl) (hk 21 (by decide))
      have h23 : a.eval (.tmp 23) = .slice ar row.length cr := Eq.mp (by kernel_rfl) (hk 23 (by decide))
      exact does_buildS #[(2, .int .i64 (VarPlain.zag x2)), (3, .int .i64 (VarPlain.zag x3)), (4, .string (str tx)), (5, .slice ar row.length cr)] _ (by simp [h14, h19, h21, h23]) (build_ans wx _ _ _ _ _ _) ⟨Below.refl _ _, rfl⟩
    · intro _ a wx hb hk
      exact does_alloc _ (alloc_ans wx) ⟨(Below.refl _ _).alloc (Nat.le_refl _) _, _, rfl, hb.size, heap_alloc_new wx _⟩
    intro vals wD hbD hL
    obtain ⟨g0, g1, g2, g3, g4, g5, g6, g7, g8, g9, g10, g11, g12, g13, g14, g15, _⟩ := hL
    have g14' : vals 14 = .agg #[.int .i64 0, .int .i64 0, .int .i64 (VarPlain.zag x2), .int .i64 (VarPlain.zag x3), .string (str tx), .slice ar row.length cr, .int .i64 0] := g14
    obtain ⟨pr, g15', hq2, hq3⟩ := g15
    have hb3 : Below w2.heap.size w2 (((((((wD.setCell ⟨pr, 0, none⟩ (.int .i64 0)).setCell ⟨pr, 1, none⟩ (.int .i64 0)).setCell ⟨pr, 2, none⟩ (.int .i64 (VarPlain.zag x2))).setCell ⟨pr, 3, none⟩ (.int .i64 (VarPlain.zag x3))).setCell ⟨pr, 4, none⟩ (.string (str tx))).setCell ⟨pr, 5, none⟩ (.slice ar row.length cr)).setCell ⟨pr, 6, none⟩ (.int .i64 0)) := ((((((hbD.setCell hq2 _).setCell hq2 _).setCell hq2 _).setCell hq2 _).setCell hq2 _).setCell hq2 _).setCell hq2 _
    have HLD := Lib.hid (heap_low hb3 HL2.out)
    have HGD := Lib.hid (heap_low hb3 HG2.out)
    have HrowD := Lib.hid (ownsRow_below Hrow2.out hb3)
    have HD0 := Lib.hid (cell_below hb3 (Nat.le_refl _) HC0.out)
    have HBN0 : Hid (bn < w2.heap.size) := World.block_lt_of_cell? _ _ HC0.out
    have HD1 := Lib.hid (cell_below hb3 (Nat.le_refl _) HC1.out)
    have HBN1 : Hid (bn < w2.heap.size) := World.block_lt_of_cell? _ _ HC1.out
    have HD4 := Lib.hid (cell_below hb3 (Nat.le_refl _) HC4.out)
    have HBN4 : Hid (bn < w2.heap.size) := World.block_lt_of_cell? _ _ HC4.out
    have HRD : Hid ((((((((wD.setCell ⟨pr, 0, none⟩ (.int .i64 0)).setCell ⟨pr, 1, none⟩ (.int .i64 0)).setCell ⟨pr, 2, none⟩ (.int .i64 (VarPlain.zag x2))).setCell ⟨pr, 3, none⟩ (.int .i64 (VarPlain.zag x3))).setCell ⟨pr, 4, none⟩ (.string (str tx))).setCell ⟨pr, 5, none⟩ (.slice ar row.length cr)).setCell ⟨pr, 6, none⟩ (.int .i64 0)).heap[pr]? = some (Obj.cells #[.int .i64 0, .int .i64 0, .int .i64 (VarPlain.zag x2), .int .i64 (VarPlain.zag x3), .string (str tx), .slice ar row.length cr, .int .i64 0] 34)) := heap_setCell_same _ pr 6 _ _ _ (heap_setCell_same _ pr 5 _ _ _ (heap_setCell_same _ pr 4 _ _ _ (heap_setCell_same _ pr 3 _ _ _ (heap_setCell_same _ pr 2 _ _ _ (heap_setCell_same _ pr 1 _ _ _ (heap_setCell_same _ pr 0 _ _ _ hq3))))))
    have HB3 : Hid (Below w.heap.size w (((((((wD.setCell ⟨pr, 0, none⟩ (.int .i64 0)).setCell ⟨pr, 1, none⟩ (.int .i64 0)).setCell ⟨pr, 2, none⟩ (.int .i64 (VarPlain.zag x2))).setCell ⟨pr, 3, none⟩ (.int .i64 (VarPlain.zag x3))).setCell ⟨pr, 4, none⟩ (.string (str tx))).setCell ⟨pr, 5, none⟩ (.slice ar row.length cr)).setCell ⟨pr, 6, none⟩ (.int .i64 0))) := HB2.out.trans (hb3.mono (by omega))
    have hrp : Hid (∀ j, Value.ownBlock (.slice ar row.length cr) = some j → j < pr) := fun j hj => Nat.lt_of_lt_of_le (Hrow2.out.lt j hj).2 hq2
    have hpr : p < pr := Nat.lt_of_lt_of_le hz2' hq2
    have hbp : bn < pr := Nat.lt_of_lt_of_le HBN0.out hq2
    have q0 : wD.cell? ⟨pr, 0, none⟩ = some (.int .i64 0) := by simp [World.cell?, hq3]
    have u0 : wD.frozen? ⟨pr, 0, none⟩ = false := by simp [World.frozen?, hq3]
    have q1 : wD.cell? ⟨pr, 1, none⟩ = some (.int .i64 0) := by simp [World.cell?, hq3]
    have u1 : wD.frozen? ⟨pr, 1, none⟩ = false := by simp [World.frozen?, hq3]
    have q2 : wD.cell? ⟨pr, 2, none⟩ = some (.int .i64 0) := by simp [World.cell?, hq3]
    have u2 : wD.frozen? ⟨pr, 2, none⟩ = false := by simp [World.frozen?, hq3]
    have q3 : wD.cell? ⟨pr, 3, none⟩ = some (.int .i64 0) := by simp [World.cell?, hq3]
    have u3 : wD.frozen? ⟨pr, 3, none⟩ = false := by simp [World.frozen?, hq3]
    have q4 : wD.cell? ⟨pr, 4, none⟩ = some (.string ⟨#[]⟩) := by simp [World.cell?, hq3]
    have u4 : wD.frozen? ⟨pr, 4, none⟩ = false := by simp [World.frozen?, hq3]
    have q5 : wD.cell? ⟨pr, 5, none⟩ = some (.slice none 0 0) := by simp [World.cell?, hq3]
    have u5 : wD.frozen? ⟨pr, 5, none⟩ = false := by simp [World.frozen?, hq3]
    have q6 : wD.cell? ⟨pr, 6, none⟩ = some (.int .i64 0) := by simp [World.cell?, hq3]
    have u6 : wD.frozen? ⟨pr, 6, none⟩ = false := by simp [World.frozen?, hq3]
    clear g0 g1 g2 g3 g4 g5 g6 g7 g8 g9 g10 g11 g12 g13 g14 hbD hb3 hq2 hq3 HL2 HG2 Hrow2 HC0 HC1 HC2 HC3 HC4 HI2 HI3 HB2 K2 K3 K4 H1 H2 H3 HBN0 HBN1
    simp only [Rg.putAll, List.take_succ_cons, List.take_zero, List.drop_succ_cons, List.drop_zero, List.setIfInBounds_toArray, List.set_cons_succ, List.set_cons_zero, g14', g15']
    clear g14' g15'
    go_upto_region 3 with fail
    clear q0 u0 q1 u1 q2 u2 q3 u3 q4 u4 q5 u5 q6 u6
    generalize hX : (((((((wD.setCell ⟨pr, 0, none⟩ (.int .i64 0)).setCell ⟨pr, 1, none⟩ (.int .i64 0)).setCell ⟨pr, 2, none⟩ (.int .i64 (VarPlain.zag x2))).setCell ⟨pr, 3, none⟩ (.int .i64 (VarPlain.zag x3))).setCell ⟨pr, 4, none⟩ (.string (str tx))).setCell ⟨pr, 5, none⟩ (.slice ar row.length cr)).setCell ⟨pr, 6, none⟩ (.int .i64 0)) = w3 at *
    clear hX
    obtain ⟨k0, k1, k2, k3, k4, k5⟩ := LC_cells HLD.out
    have i0 := HI0.out; have i1 := HI1.out
    have e0 := HD0.out; have e1 := HD1.out
    have i4 := HI4.out; have e4 := HD4.out
    by_cases h10 : 0 < x0
    · have d0 : decide ((0 : Int) < (x0 : Int)) = true := by simp; omega
      have d0' : (0 : Int) < (x0 : Int) := by omega
      by_cases h11 : x0 < 12
      · have d1 : decide ((x0 : Int) < 12) = true := by simp; omega
        have d1' : (x0 : Int) < 12 := by omega
        by_cases h12 : x1 < 256
        · have d2 : decide ((x1 : Int) < 256) = true := by simp; omega
          have d2' : (x1 : Int) < 256 := by omega
          by_cases h13 : x4 < 65
          · have d3 : decide ((x4 : Int) < 65) = true := by simp; omega
            have d3' : (x4 : Int) < 65 := by omega
            have hrt : rt = true := by first | (rw [HRT.out]; done) | (rw [HRT.out]; simp; done) | (rw [HRT.out]; simp; omega)
            have HEb : Hid (endR (!false && true) l e = ev) := by
              have := HE.out
              rw [hrt] at this
              exact this
            have q0 : w3.cell? ⟨pr, 0, none⟩ = some (.int .i64 0) := by have := HRD.out; simp [World.cell?, this]
            have u0 : w3.frozen? ⟨pr, 0, none⟩ = false := by have := HRD.out; simp [World.frozen?, this]
            have q1 : w3.cell? ⟨pr, 1, none⟩ = some (.int .i64 0) := by have := HRD.out; simp [World.cell?, this]
            have u1 : w3.frozen? ⟨pr, 1, none⟩ = false := by have := HRD.out; simp [World.frozen?, this]
            have q6 : w3.cell? ⟨pr, 6, none⟩ = some (.int .i64 0) := by have := HRD.out; simp [World.cell?, this]
            have u6 : w3.frozen? ⟨pr, 6, none⟩ = false := by have := HRD.out; simp [World.frozen?, this]
            go_upto_region 8 with fail
            have hg4 : w3.grownBy (((w3.setCell ⟨pr, 0, none⟩ (.int .i64 (x0 : Int))).setCell ⟨pr, 1, none⟩ (.int .i64 (x1 : Int))).setCell ⟨pr, 6, none⟩ (.int .i64 (x4 : Int))) (some pr) := grownBy_trans (grownBy_trans (grown_set _ _ _ _) (grown_set _ _ _ _)) (grown_set _ _ _ _)
            have HL4 := Lib.hid (heap_apart hg4 HLD.out (fun j hj => by cases hj; omega))
            have HG4 := Lib.hid (heap_apart hg4 HGD.out (fun j hj => by cases hj; omega))
            have HR4 : Hid ((((w3.setCell ⟨pr, 0, none⟩ (.int .i64 (x0 : Int))).setCell ⟨pr, 1, none⟩ (.int .i64 (x1 : Int))).setCell ⟨pr, 6, none⟩ (.int .i64 (x4 : Int))).heap[pr]? = some (Obj.cells #[.int .i64 (x0 : Int), .int .i64 (x1 : Int), .int .i64 (VarPlain.zag x2), .int .i64 (VarPlain.zag x3), .string (str tx), .slice ar row.length cr, .int .i64 (x4 : Int)] 34)) := heap_setCell_same _ pr 6 _ _ _ (heap_setCell_same _ pr 1 _ _ _ (heap_setCell_same _ pr 0 _ _ _ HRD.out))
            have Hrow4 := Lib.hid (HrowD.out.kept hg4 (by
              cases hv : Value.ownBlock (.slice ar row.length cr) with
              | none => exact .inl rfl
              | some j => exact .inr fun e => by cases e; have := hrp.out pr hv; omega))
            have HB4 : Hid (Below w.heap.size w (((w3.setCell ⟨pr, 0, none⟩ (.int .i64 (x0 : Int))).setCell ⟨pr, 1, none⟩ (.int .i64 (x1 : Int))).setCell ⟨pr, 6, none⟩ (.int .i64 (x4 : Int)))) := HB3.out.grown hg4 (by have := (Array.getElem?_eq_some_iff.1 HGD.out).1; omega) (fun j hj => by cases hj; omega)
            clear k0 k1 k2 k3 k4 k5 i0 i1 e0 e1 i4 e4 hg4 HGD HLD HRD HrowD HB3 q0 u0 q1 u1 q6 u6
            generalize hX4 : (((w3.setCell ⟨pr, 0, none⟩ (.int .i64 (x0 : Int))).setCell ⟨pr, 1, none⟩ (.int .i64 (x1 : Int))).setCell ⟨pr, 6, none⟩ (.int .i64 (x4 : Int))) = w4 at *
            clear hX4
            obtain ⟨k0, k1, k2, k3, k4, k5⟩ := LC_cells HL4.out
            go_wp2_with fail
            refine (ref_fault_calls w4 l e an ar 5 cn row.length cr tx false true).mono ?_
            rintro r wF ⟨rfl, hbF⟩
            have HGF := Lib.hid (heap_low hbF HG4.out)
            have HRF := Lib.hid (heap_low hbF HR4.out)
            have HrowF := Lib.hid (ownsRow_below Hrow4.out hbF)
            have hz4 : w.heap.size < w4.heap.size := (Array.getElem?_eq_some_iff.1 HG4.out).1
            have HBF : Hid (Below w.heap.size w wF) := HB4.out.trans (hbF.mono HB4.out.size)
            clear k0 k1 k2 k3 k4 k5 hbF HL4 HG4 HR4 Hrow4 HB4
            rw [HEb.out]
            have z0 : wF.cell? ⟨w.heap.size, 0, none⟩ = some (.int .i64 0) := by have := HGF.out; simp [World.cell?, this]
            have y0 : wF.frozen? ⟨w.heap.size, 0, none⟩ = false := by have := HGF.out; simp [World.frozen?, this]
            have z1 : wF.cell? ⟨w.heap.size, 1, none⟩ = some (.int .i64 0) := by have := HGF.out; simp [World.cell?, this]
            have y1 : wF.frozen? ⟨w.heap.size, 1, none⟩ = false := by have := HGF.out; simp [World.frozen?, this]
            have z2 : wF.cell? ⟨w.heap.size, 2, none⟩ = some (.int .i64 0) := by have := HGF.out; simp [World.cell?, this]
            have y2 : wF.frozen? ⟨w.heap.size, 2, none⟩ = false := by have := HGF.out; simp [World.frozen?, this]
            have z3 : wF.cell? ⟨w.heap.size, 3, none⟩ = some (.int .i64 0) := by have := HGF.out; simp [World.cell?, this]
            have y3 : wF.frozen? ⟨w.heap.size, 3, none⟩ = false := by have := HGF.out; simp [World.frozen?, this]
            have z4 : wF.cell? ⟨w.heap.size, 4, none⟩ = some (.string ⟨#[]⟩) := by have := HGF.out; simp [World.cell?, this]
            have y4 : wF.frozen? ⟨w.heap.size, 4, none⟩ = false := by have := HGF.out; simp [World.frozen?, this]
            have z5 : wF.cell? ⟨w.heap.size, 5, none⟩ = some (.slice none 0 0) := by have := HGF.out; simp [World.cell?, this]
            have y5 : wF.frozen? ⟨w.heap.size, 5, none⟩ = false := by have := HGF.out; simp [World.frozen?, this]
            have z6 : wF.cell? ⟨w.heap.size, 6, none⟩ = some (.int .i64 0) := by have := HGF.out; simp [World.cell?, this]
            have y6 : wF.frozen? ⟨w.heap.size, 6, none⟩ = false := by have := HGF.out; simp [World.frozen?, this]
            by_cases hE : ev = 0
            · have HV := Lib.hid (HQ.out hE)
              subst hE
              have r0 : wF.cell? ⟨pr, 0, none⟩ = some (.int .i64 (x0 : Int)) := by have := HRF.out; simp [World.cell?, this]
              have r1 : wF.cell? ⟨pr, 1, none⟩ = some (.int .i64 (x1 : Int)) := by have := HRF.out; simp [World.cell?, this]
              have r2 : wF.cell? ⟨pr, 2, none⟩ = some (.int .i64 (VarPlain.zag x2)) := by have := HRF.out; simp [World.cell?, this]
              have r3 : wF.cell? ⟨pr, 3, none⟩ = some (.int .i64 (VarPlain.zag x3)) := by have := HRF.out; simp [World.cell?, this]
              have r4 : wF.cell? ⟨pr, 4, none⟩ = some (.string (str tx)) := by have := HRF.out; simp [World.cell?, this]
              have r5 : wF.cell? ⟨pr, 5, none⟩ = some (.slice ar row.length cr) := by have := HRF.out; simp [World.cell?, this]
              have r6 : wF.cell? ⟨pr, 6, none⟩ = some (.int .i64 (x4 : Int)) := by have := HRF.out; simp [World.cell?, this]
              go_wp2_with fail
              refine bodyPost_ret (v := .tuple #[.agg #[.int .i64 (x0 : Int), .int .i64 (x1 : Int), .int .i64 (VarPlain.zag x2), .int .i64 (VarPlain.zag x3), .string (str tx), .slice ar row.length cr, .int .i64 (x4 : Int)], .int .i64 0]) (by simp [results, Try.results35, go_sem, z0, z1, z2, z3, z4, z5, z6]) rfl ?_
              refine ⟨ar, cr, by rw [HV.out]; rfl, ?_, ?_, fun ad h => by subst h; have := (HrowF.out.lt ad.block rfl).1; simp at this; omega⟩
              · rw [HV.out]
                refine strs_sets (q := w.heap.size) HrowF.out (by simp) ?_
                exact grownBy_trans (grownBy_trans (grownBy_trans (grownBy_trans (grownBy_trans (grownBy_trans (grownBy_trans (World.grownBy.refl _ _) (grown_set _ _ _ _)) (grown_set _ _ _ _)) (grown_set _ _ _ _)) (grown_set _ _ _ _)) (grown_set _ _ _ _)) (grown_set _ _ _ _)) (grown_set _ _ _ _)
              · exact (((((((HBF.out.setCell (Nat.le_refl _) _).setCell (Nat.le_refl _) _).setCell (Nat.le_refl _) _).setCell (Nat.le_refl _) _).setCell (Nat.le_refl _) _).setCell (Nat.le_refl _) _).setCell (Nat.le_refl _) _)
            · have HV := Lib.hid (HQB.out hE)
              have t1 : (ev == 0) = false := by rw [beq_eq_false_iff_ne]; exact hE
              have t2 : (ev != 0) = true := by rw [bne_iff_ne]; exact hE
              go_wp2_with fail
              refine bodyPost_ret (v := .tuple #[.agg #[.int .i64 0, .int .i64 0, .int .i64 0, .int .i64 0, .string ⟨#[]⟩, .slice none 0 0, .int .i64 0], .int .i64 ev]) (by simp [results, Try.results35, go_sem, z0, z1, z2, z3, z4, z5, z6]) rfl ?_
              refine ⟨none, 0, by rw [HV.out]; rfl, ?_, ?_, fun ad h => by cases h⟩
              · rw [HV.out]; exact RowOf.nil
              · exact (((((((HBF.out.setCell (Nat.le_refl _) _).setCell (Nat.le_refl _) _).setCell (Nat.le_refl _) _).setCell (Nat.le_refl _) _).setCell (Nat.le_refl _) _).setCell (Nat.le_refl _) _).setCell (Nat.le_refl _) _)
          · have d3 : decide ((x4 : Int) < 65) = false := by simp; omega
            have d3' : ¬ (x4 : Int) < 65 := by omega
            have hrt : rt = false := by first | (rw [HRT.out]; done) | (rw [HRT.out]; simp; done) | (rw [HRT.out]; simp; omega)
            have HEb : Hid (endR (!false && false) l e = ev) := by
              have := HE.out
              rw [hrt] at this
              exact this
            have hE : ev ≠ 0 := by
              intro h
              have := HNE.out h
              rw [hrt] at this
              cases this
            have HV := Lib.hid (HQB.out hE)
            go_wp2_with fail
            refine (ref_fault_calls w3 l e an ar 5 cn row.length cr tx false false).mono ?_
            rintro r wF ⟨rfl, hbF⟩
            have HGF := Lib.hid (heap_low hbF HGD.out)
            have hz4 : w.heap.size < w3.heap.size := (Array.getElem?_eq_some_iff.1 HGD.out).1
            have HBF : Hid (Below w.heap.size w wF) := HB3.out.trans (hbF.mono HB3.out.size)
            clear k0 k1 k2 k3 k4 k5 i0 i1 e0 e1 i4 e4 hbF HGD HLD HRD HrowD HB3
            rw [HEb.out]
            have z0 : wF.cell? ⟨w.heap.size, 0, none⟩ = some (.int .i64 0) := by have := HGF.out; simp [World.cell?, this]
            have y0 : wF.frozen? ⟨w.heap.size, 0, none⟩ = false := by have := HGF.out; simp [World.frozen?, this]
            have z1 : wF.cell? ⟨w.heap.size, 1, none⟩ = some (.int .i64 0) := by have := HGF.out; simp [World.cell?, this]
            have y1 : wF.frozen? ⟨w.heap.size, 1, none⟩ = false := by have := HGF.out; simp [World.frozen?, this]
            have z2 : wF.cell? ⟨w.heap.size, 2, none⟩ = some (.int .i64 0) := by have := HGF.out; simp [World.cell?, this]
            have y2 : wF.frozen? ⟨w.heap.size, 2, none⟩ = false := by have := HGF.out; simp [World.frozen?, this]
            have z3 : wF.cell? ⟨w.heap.size, 3, none⟩ = some (.int .i64 0) := by have := HGF.out; simp [World.cell?, this]
            have y3 : wF.frozen? ⟨w.heap.size, 3, none⟩ = false := by have := HGF.out; simp [World.frozen?, this]
            have z4 : wF.cell? ⟨w.heap.size, 4, none⟩ = some (.string ⟨#[]⟩) := by have := HGF.out; simp [World.cell?, this]
            have y4 : wF.frozen? ⟨w.heap.size, 4, none⟩ = false := by have := HGF.out; simp [World.frozen?, this]
            have z5 : wF.cell? ⟨w.heap.size, 5, none⟩ = some (.slice none 0 0) := by have := HGF.out; simp [World.cell?, this]
            have y5 : wF.frozen? ⟨w.heap.size, 5, none⟩ = false := by have := HGF.out; simp [World.frozen?, this]
            have z6 : wF.cell? ⟨w.heap.size, 6, none⟩ = some (.int .i64 0) := by have := HGF.out; simp [World.cell?, this]
            have y6 : wF.frozen? ⟨w.heap.size, 6, none⟩ = false := by have := HGF.out; simp [World.frozen?, this]
            have t1 : (ev == 0) = false := by rw [beq_eq_false_iff_ne]; exact hE
            have t2 : (ev != 0) = true := by rw [bne_iff_ne]; exact hE
            go_wp2_with fail
            refine bodyPost_ret (v := .tuple #[.agg #[.int .i64 0, .int .i64 0, .int .i64 0, .int .i64 0, .string ⟨#[]⟩, .slice none 0 0, .int .i64 0], .int .i64 ev]) (by simp [results, Try.results35, go_sem, z0, z1, z2, z3, z4, z5, z6]) rfl ?_
            refine ⟨none, 0, by rw [HV.out]; rfl, ?_, ?_, fun ad h => by cases h⟩
            · rw [HV.out]; exact RowOf.nil
            · exact (((((((HBF.out.setCell (Nat.le_refl _) _).setCell (Nat.le_refl _) _).setCell (Nat.le_refl _) _).setCell (Nat.le_refl _) _).setCell (Nat.le_refl _) _).setCell (Nat.le_refl _) _).setCell (Nat.le_refl _) _)
        · have d2 : decide ((x1 : Int) < 256) = false := by simp; omega
          have d2' : ¬ (x1 : Int) < 256 := by omega
          have hrt : rt = false := by first | (rw [HRT.out]; done) | (rw [HRT.out]; simp; done) | (rw [HRT.out]; simp; omega)
          have HEb : Hid (endR (!false && false) l e = ev) := by
            have := HE.out
            rw [hrt] at this
            exact this
          have hE : ev ≠ 0 := by
            intro h
            have := HNE.out h
            rw [hrt] at this
            cases this
          have HV := Lib.hid (HQB.out hE)
          go_wp2_with fail
          refine (ref_fault_calls w3 l e an ar 5 cn row.length cr tx false false).mono ?_
          rintro r wF ⟨rfl, hbF⟩
          have HGF := Lib.hid (heap_low hbF HGD.out)
          have hz4 : w.heap.size < w3.heap.size := (Array.getElem?_eq_some_iff.1 HGD.out).1
          have HBF : Hid (Below w.heap.size w wF) := HB3.out.trans (hbF.mono HB3.out.size)
          clear k0 k1 k2 k3 k4 k5 i0 i1 e0 e1 i4 e4 hbF HGD HLD HRD HrowD HB3
          rw [HEb.out]
          have z0 : wF.cell? ⟨w.heap.size, 0, none⟩ = some (.int .i64 0) := by have := HGF.out; simp [World.cell?, this]
          have y0 : wF.frozen? ⟨w.heap.size, 0, none⟩ = false := by have := HGF.out; simp [World.frozen?, this]
          have z1 : wF.cell? ⟨w.heap.size, 1, none⟩ = some (.int .i64 0) := by have := HGF.out; simp [World.cell?, this]
          have y1 : wF.frozen? ⟨w.heap.size, 1, none⟩ = false := by have := HGF.out; simp [World.frozen?, this]
          have z2 : wF.cell? ⟨w.heap.size, 2, none⟩ = some (.int .i64 0) := by have := HGF.out; simp [World.cell?, this]
          have y2 : wF.frozen? ⟨w.heap.size, 2, none⟩ = false := by have := HGF.out; simp [World.frozen?, this]
          have z3 : wF.cell? ⟨w.heap.size, 3, none⟩ = some (.int .i64 0) := by have := HGF.out; simp [World.cell?, this]
          have y3 : wF.frozen? ⟨w.heap.size, 3, none⟩ = false := by have := HGF.out; simp [World.frozen?, this]
          have z4 : wF.cell? ⟨w.heap.size, 4, none⟩ = some (.string ⟨#[]⟩) := by have := HGF.out; simp [World.cell?, this]
          have y4 : wF.frozen? ⟨w.heap.size, 4, none⟩ = false := by have := HGF.out; simp [World.frozen?, this]
          have z5 : wF.cell? ⟨w.heap.size, 5, none⟩ = some (.slice none 0 0) := by have := HGF.out; simp [World.cell?, this]
          have y5 : wF.frozen? ⟨w.heap.size, 5, none⟩ = false := by have := HGF.out; simp [World.frozen?, this]
          have z6 : wF.cell? ⟨w.heap.size, 6, none⟩ = some (.int .i64 0) := by have := HGF.out; simp [World.cell?, this]
          have y6 : wF.frozen? ⟨w.heap.size, 6, none⟩ = false := by have := HGF.out; simp [World.frozen?, this]
          have t1 : (ev == 0) = false := by rw [beq_eq_false_iff_ne]; exact hE
          have t2 : (ev != 0) = true := by rw [bne_iff_ne]; exact hE
          go_wp2_with fail
          refine bodyPost_ret (v := .tuple #[.agg #[.int .i64 0, .int .i64 0, .int .i64 0, .int .i64 0, .string ⟨#[]⟩, .slice none 0 0, .int .i64 0], .int .i64 ev]) (by simp [results, Try.results35, go_sem, z0, z1, z2, z3, z4, z5, z6]) rfl ?_
          refine ⟨none, 0, by rw [HV.out]; rfl, ?_, ?_, fun ad h => by cases h⟩
          · rw [HV.out]; exact RowOf.nil
          · exact (((((((HBF.out.setCell (Nat.le_refl _) _).setCell (Nat.le_refl _) _).setCell (Nat.le_refl _) _).setCell (Nat.le_refl _) _).setCell (Nat.le_refl _) _).setCell (Nat.le_refl _) _).setCell (Nat.le_refl _) _)
      · have d1 : decide ((x0 : Int) < 12) = false := by simp; omega
        have d1' : ¬ (x0 : Int) < 12 := by omega
        have hrt : rt = false := by first | (rw [HRT.out]; done) | (rw [HRT.out]; simp; done) | (rw [HRT.out]; simp; omega)
        have HEb : Hid (endR (!false && false) l e = ev) := by
          have := HE.out
          rw [hrt] at this
          exact this
        have hE : ev ≠ 0 := by
          intro h
          have := HNE.out h
          rw [hrt] at this
          cases this
        have HV := Lib.hid (HQB.out hE)
        go_wp2_with fail
        refine (ref_fault_calls w3 l e an ar 5 cn row.length cr tx false false).mono ?_
        rintro r wF ⟨rfl, hbF⟩
        have HGF := Lib.hid (heap_low hbF HGD.out)
        have hz4 : w.heap.size < w3.heap.size := (Array.getElem?_eq_some_iff.1 HGD.out).1
        have HBF : Hid (Below w.heap.size w wF) := HB3.out.trans (hbF.mono HB3.out.size)
        clear k0 k1 k2 k3 k4 k5 i0 i1 e0 e1 i4 e4 hbF HGD HLD HRD HrowD HB3
        rw [HEb.out]
        have z0 : wF.cell? ⟨w.heap.size, 0, none⟩ = some (.int .i64 0) := by have := HGF.out; simp [World.cell?, this]
        have y0 : wF.frozen? ⟨w.heap.size, 0, none⟩ = false := by have := HGF.out; simp [World.frozen?, this]
        have z1 : wF.cell? ⟨w.heap.size, 1, none⟩ = some (.int .i64 0) := by have := HGF.out; simp [World.cell?, this]
        have y1 : wF.frozen? ⟨w.heap.size, 1, none⟩ = false := by have := HGF.out; simp [World.frozen?, this]
        have z2 : wF.cell? ⟨w.heap.size, 2, none⟩ = some (.int .i64 0) := by have := HGF.out; simp [World.cell?, this]
        have y2 : wF.frozen? ⟨w.heap.size, 2, none⟩ = false := by have := HGF.out; simp [World.frozen?, this]
        have z3 : wF.cell? ⟨w.heap.size, 3, none⟩ = some (.int .i64 0) := by have := HGF.out; simp [World.cell?, this]
        have y3 : wF.frozen? ⟨w.heap.size, 3, none⟩ = false := by have := HGF.out; simp [World.frozen?, this]
        have z4 : wF.cell? ⟨w.heap.size, 4, none⟩ = some (.string ⟨#[]⟩) := by have := HGF.out; simp [World.cell?, this]
        have y4 : wF.frozen? ⟨w.heap.size, 4, none⟩ = false := by have := HGF.out; simp [World.frozen?, this]
        have z5 : wF.cell? ⟨w.heap.size, 5, none⟩ = some (.slice none 0 0) := by have := HGF.out; simp [World.cell?, this]
        have y5 : wF.frozen? ⟨w.heap.size, 5, none⟩ = false := by have := HGF.out; simp [World.frozen?, this]
        have z6 : wF.cell? ⟨w.heap.size, 6, none⟩ = some (.int .i64 0) := by have := HGF.out; simp [World.cell?, this]
        have y6 : wF.frozen? ⟨w.heap.size, 6, none⟩ = false := by have := HGF.out; simp [World.frozen?, this]
        have t1 : (ev == 0) = false := by rw [beq_eq_false_iff_ne]; exact hE
        have t2 : (ev != 0) = true := by rw [bne_iff_ne]; exact hE
        go_wp2_with fail
        refine bodyPost_ret (v := .tuple #[.agg #[.int .i64 0, .int .i64 0, .int .i64 0, .int .i64 0, .string ⟨#[]⟩, .slice none 0 0, .int .i64 0], .int .i64 ev]) (by simp [results, Try.results35, go_sem, z0, z1, z2, z3, z4, z5, z6]) rfl ?_
        refine ⟨none, 0, by rw [HV.out]; rfl, ?_, ?_, fun ad h => by cases h⟩
        · rw [HV.out]; exact RowOf.nil
        · exact (((((((HBF.out.setCell (Nat.le_refl _) _).setCell (Nat.le_refl _) _).setCell (Nat.le_refl _) _).setCell (Nat.le_refl _) _).setCell (Nat.le_refl _) _).setCell (Nat.le_refl _) _).setCell (Nat.le_refl _) _)
    · have d0 : decide ((0 : Int) < (x0 : Int)) = false := by simp; omega
      have d0' : ¬ (0 : Int) < (x0 : Int) := by omega
      have hrt : rt = false := by first | (rw [HRT.out]; done) | (rw [HRT.out]; simp; done) | (rw [HRT.out]; simp; omega)
      have HEb : Hid (endR (!false && false) l e = ev) := by
        have := HE.out
        rw [hrt] at this
        exact this
      have hE : ev ≠ 0 := by
        intro h
        have := HNE.out h
        rw [hrt] at this
        cases this
      have HV := Lib.hid (HQB.out hE)
      go_wp2_with fail
      refine (ref_fault_calls w3 l e an ar 5 cn row.length cr tx false false).mono ?_
      rintro r wF ⟨rfl, hbF⟩
      have HGF := Lib.hid (heap_low hbF HGD.out)
      have hz4 : w.heap.size < w3.heap.size := (Array.getElem?_eq_some_iff.1 HGD.out).1
      have HBF : Hid (Below w.heap.size w wF) := HB3.out.trans (hbF.mono HB3.out.size)
      clear k0 k1 k2 k3 k4 k5 i0 i1 e0 e1 i4 e4 hbF HGD HLD HRD HrowD HB3
      rw [HEb.out]
      have z0 : wF.cell? ⟨w.heap.size, 0, none⟩ = some (.int .i64 0) := by have := HGF.out; simp [World.cell?, this]
      have y0 : wF.frozen? ⟨w.heap.size, 0, none⟩ = false := by have := HGF.out; simp [World.frozen?, this]
      have z1 : wF.cell? ⟨w.heap.size, 1, none⟩ = some (.int .i64 0) := by have := HGF.out; simp [World.cell?, this]
      have y1 : wF.frozen? ⟨w.heap.size, 1, none⟩ = false := by have := HGF.out; simp [World.frozen?, this]
      have z2 : wF.cell? ⟨w.heap.size, 2, none⟩ = some (.int .i64 0) := by have := HGF.out; simp [World.cell?, this]
      have y2 : wF.frozen? ⟨w.heap.size, 2, none⟩ = false := by have := HGF.out; simp [World.frozen?, this]
      have z3 : wF.cell? ⟨w.heap.size, 3, none⟩ = some (.int .i64 0) := by have := HGF.out; simp [World.cell?, this]
      have y3 : wF.frozen? ⟨w.heap.size, 3, none⟩ = false := by have := HGF.out; simp [World.frozen?, this]
      have z4 : wF.cell? ⟨w.heap.size, 4, none⟩ = some (.string ⟨#[]⟩) := by have := HGF.out; simp [World.cell?, this]
      have y4 : wF.frozen? ⟨w.heap.size, 4, none⟩ = false := by have := HGF.out; simp [World.frozen?, this]
      have z5 : wF.cell? ⟨w.heap.size, 5, none⟩ = some (.slice none 0 0) := by have := HGF.out; simp [World.cell?, this]
      have y5 : wF.frozen? ⟨w.heap.size, 5, none⟩ = false := by have := HGF.out; simp [World.frozen?, this]
      have z6 : wF.cell? ⟨w.heap.size, 6, none⟩ = some (.int .i64 0) := by have := HGF.out; simp [World.cell?, this]
      have y6 : wF.frozen? ⟨w.heap.size, 6, none⟩ = false := by have := HGF.out; simp [World.frozen?, this]
      have t1 : (ev == 0) = false := by rw [beq_eq_false_iff_ne]; exact hE
      have t2 : (ev != 0) = true := by rw [bne_iff_ne]; exact hE
      go_wp2_with fail
      refine bodyPost_ret (v := .tuple #[.agg #[.int .i64 0, .int .i64 0, .int .i64 0, .int .i64 0, .string ⟨#[]⟩, .slice none 0 0, .int .i64 0], .int .i64 ev]) (by simp [results, Try.results35, go_sem, z0, z1, z2, z3, z4, z5, z6]) rfl ?_
      refine ⟨none, 0, by rw [HV.out]; rfl, ?_, ?_, fun ad h => by cases h⟩
      · rw [HV.out]; exact RowOf.nil
      · exact (((((((HBF.out.setCell (Nat.le_refl _) _).setCell (Nat.le_refl _) _).setCell (Nat.le_refl _) _).setCell (Nat.le_refl _) _).setCell (Nat.le_refl _) _).setCell (Nat.le_refl _) _).setCell (Nat.le_refl _) _)

theorem ref_told_calls (w : World) (b : List UInt8) (hb : b.length ≤ 100000) :
    Calls Try.prog 35 #[.string (str b)] w fun r w' => ∃ a1 c1, r = .returned (.tuple #[ansV (toldA b) a1 c1, .int .i64 (toldE b)]) ∧ Strs w' a1 (toldA b).list.length c1 (toldA b).list ∧ Below w.heap.size w w' :=
  (ref_told_calls_at w b hb).mono fun _ _ ⟨a1, c1, hr, hs, hb, _⟩ => ⟨a1, c1, hr, hs, hb⟩

end Go.Proofs.Ytgbnfipbedlmhaa
