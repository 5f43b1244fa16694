/-
  The reference's requests out of bytes: Asked is walked. Conditions: the text is short.
-/
import Derived.Test.YtbbnopikinlcdaaDoorEvReads2
import Derived.Test.YtbbnopikinlcdaaDoorEvReads3
set_option linter.unusedVariables false
namespace Go.Proofs.YtbbnopikinlcdaaDoor
open Go.RowKit Base

theorem l_f1 (p : Nat) (w : World) : (Instr.fieldAt 76 (.pointer (some ⟨p, 0, none⟩)) 1).run Tryd.prog w = .ok (.pointer (some ⟨p, 2, none⟩)) w := by kernel_rfl
theorem l_f2 (p : Nat) (w : World) : (Instr.fieldAt 76 (.pointer (some ⟨p, 0, none⟩)) 2).run Tryd.prog w = .ok (.pointer (some ⟨p, 3, none⟩)) w := by kernel_rfl
theorem l_f3 (p : Nat) (w : World) : (Instr.fieldAt 76 (.pointer (some ⟨p, 0, none⟩)) 3).run Tryd.prog w = .ok (.pointer (some ⟨p, 4, none⟩)) w := by kernel_rfl
theorem load_un {w : World} {ad : Addr} {v : Value} (h : w.cell? ad = some v) : (Instr.loadAt 56 (.pointer (some ad))).run Tryd.prog w = .ok v w := load_plain (by simp [isAgg, run_underlying Tryd.underlying56]) h
theorem load_uns {w : World} {ad : Addr} {v : Value} (h : w.cell? ad = some v) : (Instr.loadAt 74 (.pointer (some ad))).run Tryd.prog w = .ok v w := load_plain (by simp [isAgg, run_underlying Tryd.underlying74]) h
theorem u64s_own {w : World} {base : Nat} {v : Value} {n : Nat} {l : List Nat} (h : w.ownsRow base 56 1 v n (l.map nv)) : ∃ a cap, v = .slice a n cap ∧ U64s w a n cap l :=
  ownsRow_row h (fun _ _ _ hx => hx)
theorem alloc_req (w : World) : (Instr.alloc 24 true (.tuple #[])).run Tryd.prog w = .ok (.pointer (some ⟨w.heap.size, 0, none⟩)) (w.alloc (.cells #[.int .i64 0, .int .i64 0, .int .i64 0, .string ⟨#[]⟩, .slice none 0 0] 24)) := by
  kernel_rfl
theorem build_req (w : World) (n m : Int) (s : ByteArray) (a : Option Addr) (k c : Nat) : (Instr.build 24 #[(1, .int .i64 n), (2, .int .i64 m), (3, .string s), (4, .slice a k c)]).run Tryd.prog w = .ok (.agg #[.int .i64 0, .int .i64 n, .int .i64 m, .string s, .slice a k c]) w := by
  refine run_build w _ _ _ ?_
  kernel_rfl
theorem alloc_ans (w : World) : (Instr.alloc 26 true (.tuple #[])).run Tryd.prog w = .ok (.pointer (some ⟨w.heap.size, 0, none⟩)) (w.alloc (.cells #[.int .i64 0, .int .i64 0, .int .i64 0, .int .i64 0, .string ⟨#[]⟩, .slice none 0 0, .int .i64 0] 26)) := by
  kernel_rfl
theorem build_ans (w : World) (n m : Int) (s : ByteArray) (a : Option Addr) (k c : Nat) : (Instr.build 26 #[(2, .int .i64 n), (3, .int .i64 m), (4, .string s), (5, .slice a k c)]).run Tryd.prog w = .ok (.agg #[.int .i64 0, .int .i64 0, .int .i64 n, .int .i64 m, .string s, .slice a k c, .int .i64 0]) w := by
  refine run_build w _ _ _ ?_
  kernel_rfl
theorem does_alloc {P : Program} {a : Act} {w w' : World} {post : Value → World → Prop} {dst : Option Tmp} {t : TypeId} {ty : TypeId} {pos : String} {after : Array Edge} {guard : Option (Nat × Bool)} (u : Value)
    (hr : (Instr.alloc t true (.tuple #[])).run P w = .ok u w') (hp : post u w') : Rg.does P { dst, op := .alloc t, type := ty, pos, after, guard } a w post := by
  refine Rg.does_value (v := u) (w' := w') ?_ hp
  simp [execOp, hr, Result.andThen]
theorem does_buildS {P : Program} {a : Act} {w w' : World} {post : Value → World → Prop} {dst : Option Tmp} {t : TypeId} {parts : Array (Nat × Operand)} {ty : TypeId} {pos : String} {after : Array Edge} {guard : Option (Nat × Bool)} (vals : Array (Nat × Value)) (u : Value)
    (hv : (parts.map fun (i, x) => (i, a.eval x)) = vals) (hr : (Instr.build t vals).run P w = .ok u w') (hp : post u w') : Rg.does P { dst, op := .build t parts, type := ty, pos, after, guard } a w post := by
  refine Rg.does_value (v := u) (w' := w') ?_ hp
  simp [execOp, hv, hr, Result.andThen]

set_option maxHeartbeats 4000000 in
set_option maxRecDepth 100000 in
theorem ref_asked_calls (w : World) (b : List UInt8) (hb : b.length ≤ 3000) :
    Calls Tryd.prog 23 #[.string (str b)] w fun r w' => ∃ a1 c1, r = .returned (.tuple #[reqV (askedQ b) a1 c1, .int .i64 (askedE b)]) ∧ Strs w' a1 (askedQ b).list.length c1 (askedQ b).list ∧ Below w.heap.size w w' := by
  have HBA := Lib.hid ((Below.refl w.heap.size w).alloc (Nat.le_refl _) (Obj.cells #[.int .i64 0, .int .i64 0, .int .i64 0, .string ⟨#[]⟩, .slice none 0 0] 24))
  have HG0 : Hid ((w.alloc (Obj.cells #[.int .i64 0, .int .i64 0, .int .i64 0, .string ⟨#[]⟩, .slice none 0 0] 24)).heap[w.heap.size]? = some (Obj.cells #[.int .i64 0, .int .i64 0, .int .i64 0, .string ⟨#[]⟩, .slice none 0 0] 24)) := heap_alloc_new w _
  have HRd := Lib.hid (ref_read_calls (w.alloc (Obj.cells #[.int .i64 0, .int .i64 0, .int .i64 0, .string ⟨#[]⟩, .slice none 0 0] 24)) b 3 false (by omega) (by decide))
  rw [read_ask] at HRd
  simp only [] at HRd
  have HE := Lib.hid (ask_right b)
  have HQ := Lib.hid (ask_same b)
  have HQB := Lib.hid (@askedQ_bad b)
  have H0 := Lib.hid (show Lt64 (q1 b).1 from next_lt64 _ _)
  have H1 := Lib.hid (show Lt64 (q2 b).1 from next_lt64 _ _)
  have H2 := Lib.hid (show Lt64 (q3 b).1 from next_lt64 _ _)
  generalize (if (q5 b).1.1 = false then [] else (q5 b).1.2) = row at *
  generalize (!(q5 b).1.1) = lg at *
  generalize askedE b = ev at *
  generalize askedQ b = qq at *
  generalize (q1 b).1 = x0 at *
  generalize (q2 b).1 = x1 at *
  generalize (q3 b).1 = x2 at *
  generalize (q4 b).1 = tx at *
  generalize (q5 b).2.1 = l at *
  generalize (q5 b).2.2 = e at *
  go_enter Tryd.func23, Tryd.ntmps23
  go_wp2_with fail
  refine HRd.out.mono ?_
  rintro r w1 ⟨vn, vr, rfl, hown, hrow, hb1⟩
  have hown : w1.ownsRow (w.alloc (Obj.cells #[.int .i64 0, .int .i64 0, .int .i64 0, .string ⟨#[]⟩, .slice none 0 0] 24)).heap.size 56 1 vn 3 ([x0, x1, x2].map nv) := hown
  have Hrow := Lib.hid hrow
  obtain ⟨an, cn, rfl, hu⟩ := u64s_own hown
  obtain ⟨ar, cr, rfl, _, _, _, _⟩ := ownsRow_slice Hrow.out
  have HB1 : Hid (Below w.heap.size w w1) := HBA.out.trans (hb1.mono HBA.out.size)
  have HG1 : Hid (w1.heap[w.heap.size]? = some (Obj.cells #[.int .i64 0, .int .i64 0, .int .i64 0, .string ⟨#[]⟩, .slice none 0 0] 24)) := heap_low hb1 HG0.out
  have hz1 : w.heap.size < w1.heap.size := by have := hb1.size; simp at this; omega
  have hba := (Below.refl w1.heap.size w1).alloc (Nat.le_refl _) (LC l e (.slice an 3 cn) tx (.slice ar row.length cr) lg)
  have HL2 : Hid ((w1.alloc (LC l e (.slice an 3 cn) tx (.slice ar row.length cr) lg)).heap[w1.heap.size]? = some (LC l e (.slice an 3 cn) tx (.slice ar row.length cr) lg)) := heap_alloc_new w1 _
  have HB2 : Hid (Below w.heap.size w (w1.alloc (LC l e (.slice an 3 cn) tx (.slice ar row.length cr) lg))) := HB1.out.trans (hba.mono HB1.out.size)
  have HG2 := Lib.hid (heap_low hba HG1.out)
  have Hrow2 := Lib.hid (ownsRow_below Hrow.out hba)
  obtain ⟨bn, on, hcell, hidx⟩ := at_u64s (hu.below stable_u64At hba)
  have HC0 := Lib.hid (hcell 0 (by simp))
  have HC1 := Lib.hid (hcell 1 (by simp))
  have HC2 := Lib.hid (hcell 2 (by simp))
  simp only [List.getElem_cons_zero, List.getElem_cons_succ, Nat.add_zero] at HC0 HC1 HC2
  have HI0 : Hid (∀ wx, (Instr.indexAt 74 (.slice an 3 cn) (.int .i64 0)).run Tryd.prog wx = .ok (.pointer (some ⟨bn, on, none⟩)) wx) := fun wx => hidx .i64 0 wx (by decide)
  have HI1 : Hid (∀ wx, (Instr.indexAt 74 (.slice an 3 cn) (.int .i64 1)).run Tryd.prog wx = .ok (.pointer (some ⟨bn, on + 1, none⟩)) wx) := fun wx => hidx .i64 1 wx (by decide)
  have HI2 : Hid (∀ wx, (Instr.indexAt 74 (.slice an 3 cn) (.int .i64 2)).run Tryd.prog wx = .ok (.pointer (some ⟨bn, on + 2, none⟩)) wx) := fun wx => hidx .i64 2 wx (by decide)
  clear hown hrow hu hb1 hba hcell hidx HBA HG0 HRd HB1 HG1 Hrow
  unfold lV
  go_upto_region 2 with fail
  have hz2 : w.heap.size < w1.heap.size := hz1
  generalize hp : w1.heap.size = p at *
  generalize hW2 : (w1.alloc (Obj.cells #[.string (str l), .int .i64 e, .slice an 3 cn, .string (str tx), .slice ar row.length cr, .bool lg] 76)) = w2
  have hW2' : (w1.alloc (LC l e (.slice an 3 cn) tx (.slice ar row.length cr) lg)) = w2 := hW2
  rw [hW2'] at HL2 HB2 HG2 Hrow2 HC0 HC1 HC2
  have hz2' : p < w2.heap.size := (Array.getElem?_eq_some_iff.1 HL2.out).1
  clear hW2 hW2' hp
  obtain ⟨k0, k1, k2, k3, k4, k5⟩ := LC_cells HL2.out
  have K2 := Lib.hid k2; have K3 := Lib.hid k3; have K4 := Lib.hid k4
  clear k0 k1 k2 k3 k4 k5
  refine Rg.wp_region_rgt 16 [] [Rg.Is (.pointer (some ⟨p, 2, none⟩)), Rg.Is (.slice an 3 cn), Rg.Is (.pointer (some ⟨bn, on + 1, none⟩)), Rg.Is (.int .u64 (x1 : Int)), Rg.Is (.int .i64 (VarPlain.zag x1)), Rg.Is (.pointer (some ⟨p, 2, none⟩)), Rg.Is (.slice an 3 cn), Rg.Is (.pointer (some ⟨bn, on + 2, none⟩)), Rg.Is (.int .u64 (x2 : Int)), Rg.Is (.int .i64 (VarPlain.zag x2)), Rg.Is (.pointer (some ⟨p, 3, none⟩)), Rg.Is (.string (str tx)), Rg.Is (.pointer (some ⟨p, 4, none⟩)), Rg.Is (.slice ar row.length cr), Rg.Is (.agg #[.int .i64 0, .int .i64 (VarPlain.zag x1), .int .i64 (VarPlain.zag x2), .string (str tx), .slice ar row.length cr]), (fun v w => ∃ q, v = .pointer (some ⟨q, 0, none⟩) ∧ w2.heap.size ≤ q ∧ w.heap[q]? = some (Obj.cells #[.int .i64 0, .int .i64 0, .int .i64 0, .string ⟨#[]⟩, .slice none 0 0] 24))] (by kernel_rfl) (by kernel_rfl) (of_decide_eq_true (by kernel_rfl)) (by kernel_rfl) (by kernel_rfl) ⟨Rg.st_is _, Rg.st_is _, Rg.st_is _, Rg.st_is _, Rg.st_is _, Rg.st_is _, Rg.st_is _, Rg.st_is _, Rg.st_is _, Rg.st_is _, Rg.st_is _, Rg.st_is _, Rg.st_is _, Rg.st_is _, Rg.st_is _, fun v w w' h hb => by obtain ⟨q, hv, hq, hc⟩ := h; exact ⟨q, hv, hq, heap_low hb hc⟩, trivial⟩ ⟨rfl, rfl, rfl, rfl, rfl, rfl, rfl, rfl, rfl, rfl, rfl, rfl, rfl, rfl, rfl, rfl, trivial⟩ ⟨?_, ?_, ?_, ?_, ?_, ?_, ?_, ?_, ?_, ?_, ?_, ?_, ?_, ?_, ?_, ?_, trivial⟩ ?_
  · intro _ a wx hb hk
    have h4 : a.eval (.tmp 4) = .pointer (some ⟨p, 0, none⟩) := Eq.mp (by kernel_rfl) (hk 4 (by decide))
    exact Rs.does_field _ _ h4 (l_f1 _ _) ⟨Below.refl _ _, rfl⟩
  · intro _ a wx hb hk
    have h9 : a.eval (.tmp 9) = .pointer (some ⟨p, 2, none⟩) := Eq.mp (by kernel_rfl) (hk 9 (by decide))
    exact Rg.does_load _ _ h9 (load_uns (cell_below hb (Nat.le_refl _) K2.out)) ⟨Below.refl _ _, rfl⟩
  · intro _ a wx hb hk
    have h10 : a.eval (.tmp 10) = .slice an 3 cn := Eq.mp (by kernel_rfl) (hk 10 (by decide))
    exact Rg.does_index _ _ _ h10 rfl (HI1.out wx) ⟨Below.refl _ _, rfl⟩
  · intro _ a wx hb hk
    have h11 : a.eval (.tmp 11) = .pointer (some ⟨bn, on + 1, none⟩) := Eq.mp (by kernel_rfl) (hk 11 (by decide))
    exact Rg.does_load _ _ h11 (load_un (cell_below hb (Nat.le_refl _) HC1.out)) ⟨Below.refl _ _, rfl⟩
  · intro _ a wx hb hk
    have h12 : a.eval (.tmp 12) = .int .u64 (x1 : Int) := Eq.mp (by kernel_rfl) (hk 12 (by decide))
    refine Rg.does_func #[.int .u64 (x1 : Int)] Tryd.func47 (by kernel_rfl) (by kernel_rfl) (by simp [h12]) (ref_zag_calls wx x1 H1.out) ?_
    rintro e' w' ⟨rfl, rfl⟩
    exact ⟨_, rfl, Below.refl _ _, rfl⟩
  · intro _ a wx hb hk
    have h4 : a.eval (.tmp 4) = .pointer (some ⟨p, 0, none⟩) := Eq.mp (by kernel_rfl) (hk 4 (by decide))
    exact Rs.does_field _ _ h4 (l_f1 _ _) ⟨Below.refl _ _, rfl⟩
  · intro _ a wx hb hk
    have h14 : a.eval (.tmp 14) = .pointer (some ⟨p, 2, none⟩) := Eq.mp (by kernel_rfl) (hk 14 (by decide))
    exact Rg.does_load _ _ h14 (load_uns (cell_below hb (Nat.le_refl _) K2.out)) ⟨Below.refl _ _, rfl⟩
  · intro _ a wx hb hk
    have h15 : a.eval (.tmp 15) = .slice an 3 cn := Eq.mp (by kernel_rfl) (hk 15 (by decide))
    exact Rg.does_index _ _ _ h15 rfl (HI2.out wx) ⟨Below.refl _ _, rfl⟩
  · intro _ a wx hb hk
    have h16 : a.eval (.tmp 16) = .pointer (some ⟨bn, on + 2, none⟩) := Eq.mp (by kernel_rfl) (hk 16 (by decide))
    exact Rg.does_load _ _ h16 (load_un (cell_below hb (Nat.le_refl _) HC2.out)) ⟨Below.refl _ _, rfl⟩
  · intro _ a wx hb hk
    have h17 : a.eval (.tmp 17) = .int .u64 (x2 : Int) := Eq.mp (by kernel_rfl) (hk 17 (by decide))
    refine Rg.does_func #[.int .u64 (x2 : Int)] Tryd.func47 (by kernel_rfl) (by kernel_rfl) (by simp [h17]) (ref_zag_calls wx x2 H2.out) ?_
    rintro e' w' ⟨rfl, rfl⟩
    exact ⟨_, rfl, Below.refl _ _, rfl⟩
  · intro _ a wx hb hk
    have h4 : a.eval (.tmp 4) = .pointer (some ⟨p, 0, none⟩) := Eq.mp (by kernel_rfl) (hk 4 (by decide))
    exact Rs.does_field _ _ h4 (l_f2 _ _) ⟨Below.refl _ _, rfl⟩
  · intro _ a wx hb hk
    have h19 : a.eval (.tmp 19) = .pointer (some ⟨p, 3, none⟩) := Eq.mp (by kernel_rfl) (hk 19 (by decide))
    exact Rg.does_load _ _ h19 (load_string (cell_below hb (Nat.le_refl _) K3.out)) ⟨Below.refl _ _, rfl⟩
  · intro _ a wx hb hk
    have h4 : a.eval (.tmp 4) = .pointer (some ⟨p, 0, none⟩) := Eq.mp (by kernel_rfl) (hk 4 (by decide))
    exact Rs.does_field _ _ h4 (l_f3 _ _) ⟨Below.refl _ _, rfl⟩
  · intro _ a wx hb hk
    have h21 : a.eval (.tmp 21) = .pointer (some ⟨p, 4, none⟩) := Eq.mp (by kernel_rfl) (hk 21 (by decide))
    exact Rg.does_load _ _ h21 (load_strs (cell_below hb (Nat.le_refl _) K4.out)) ⟨Below.refl _ _, rfl⟩
  · intro _ a wx hb hk
    have h13 : a.eval (.tmp 13) = .int .i64 (VarPlain.zag x1) := Eq.mp (by kernel_rfl) (hk 13 (by decide))
    have h18 : a.eval (.tmp 18) = .int .i64 (VarPlain.zag x2) := Eq.mp (by kernel_rfl) (hk 18 (by decide))
    have h20 : a.eval (.tmp 20) = .string (str tx) := Eq.mp (by kernel_rfl) (hk 20 (by decide))
    have h22 : a.eval (.tmp 22) = .slice ar row.length cr := Eq.mp (by kernel_rfl) (hk 22 (by decide))
    exact does_buildS #[(1, .int .i64 (VarPlain.zag x1)), (2, .int .i64 (VarPlain.zag x2)), (3, .string (str tx)), (4, .slice ar row.length cr)] _ (by simp [h13, h18, h20, h22]) (build_req wx _ _ _ _ _ _) ⟨Below.refl _ _, rfl⟩
  · intro _ a wx hb hk
    exact does_alloc _ (alloc_req wx) ⟨(Below.refl _ _).alloc (Nat.le_refl _) _, _, rfl, hb.size, heap_alloc_new wx _⟩
  intro vals wD hbD hL
  obtain ⟨g0, g1, g2, g3, g4, g5, g6, g7, g8, g9, g10, g11, g12, g13, g14, g15, _⟩ := hL
  have g14' : vals 14 = .agg #[.int .i64 0, .int .i64 (VarPlain.zag x1), .int .i64 (VarPlain.zag x2), .string (str tx), .slice ar row.length cr] := g14
  obtain ⟨pr, g15', hq2, hq3⟩ := g15
  have hb3 : Below w2.heap.size w2 (((((wD.setCell ⟨pr, 0, none⟩ (.int .i64 0)).setCell ⟨pr, 1, none⟩ (.int .i64 (VarPlain.zag x1))).setCell ⟨pr, 2, none⟩ (.int .i64 (VarPlain.zag x2))).setCell ⟨pr, 3, none⟩ (.string (str tx))).setCell ⟨pr, 4, none⟩ (.slice ar row.length cr)) := ((((hbD.setCell hq2 _).setCell hq2 _).setCell hq2 _).setCell hq2 _).setCell hq2 _
  have HLD := Lib.hid (heap_low hb3 HL2.out)
  have HGD := Lib.hid (heap_low hb3 HG2.out)
  have HrowD := Lib.hid (ownsRow_below Hrow2.out hb3)
  have HCD := Lib.hid (cell_below hb3 (Nat.le_refl _) HC0.out)
  have HRD : Hid ((((((wD.setCell ⟨pr, 0, none⟩ (.int .i64 0)).setCell ⟨pr, 1, none⟩ (.int .i64 (VarPlain.zag x1))).setCell ⟨pr, 2, none⟩ (.int .i64 (VarPlain.zag x2))).setCell ⟨pr, 3, none⟩ (.string (str tx))).setCell ⟨pr, 4, none⟩ (.slice ar row.length cr)).heap[pr]? = some (Obj.cells #[.int .i64 0, .int .i64 (VarPlain.zag x1), .int .i64 (VarPlain.zag x2), .string (str tx), .slice ar row.length cr] 24)) := heap_setCell_same _ pr 4 _ _ _ (heap_setCell_same _ pr 3 _ _ _ (heap_setCell_same _ pr 2 _ _ _ (heap_setCell_same _ pr 1 _ _ _ (heap_setCell_same _ pr 0 _ _ _ hq3))))
  have HB3 : Hid (Below w.heap.size w (((((wD.setCell ⟨pr, 0, none⟩ (.int .i64 0)).setCell ⟨pr, 1, none⟩ (.int .i64 (VarPlain.zag x1))).setCell ⟨pr, 2, none⟩ (.int .i64 (VarPlain.zag x2))).setCell ⟨pr, 3, none⟩ (.string (str tx))).setCell ⟨pr, 4, none⟩ (.slice ar row.length cr))) := HB2.out.trans (hb3.mono (by omega))
  have hrp : Hid (∀ j, Value.ownBlock (.slice ar row.length cr) = some j → j < pr) := fun j hj => Nat.lt_of_lt_of_le (Hrow2.out.lt j hj).2 hq2
  have hpr : p < pr := Nat.lt_of_lt_of_le hz2' hq2
  have q0 : wD.cell? ⟨pr, 0, none⟩ = some (.int .i64 0) := by simp [World.cell?, hq3]
  have q1 : wD.cell? ⟨pr, 1, none⟩ = some (.int .i64 0) := by simp [World.cell?, hq3]
  have q2 : wD.cell? ⟨pr, 2, none⟩ = some (.int .i64 0) := by simp [World.cell?, hq3]
  have q3 : wD.cell? ⟨pr, 3, none⟩ = some (.string ⟨#[]⟩) := by simp [World.cell?, hq3]
  have q4 : wD.cell? ⟨pr, 4, none⟩ = some (.slice none 0 0) := by simp [World.cell?, hq3]
  have u0 : wD.frozen? ⟨pr, 0, none⟩ = false := by simp [World.frozen?, hq3]
  have u1 : wD.frozen? ⟨pr, 1, none⟩ = false := by simp [World.frozen?, hq3]
  have u2 : wD.frozen? ⟨pr, 2, none⟩ = false := by simp [World.frozen?, hq3]
  have u3 : wD.frozen? ⟨pr, 3, none⟩ = false := by simp [World.frozen?, hq3]
  have u4 : wD.frozen? ⟨pr, 4, none⟩ = false := by simp [World.frozen?, hq3]
  clear g0 g1 g2 g3 g4 g5 g6 g7 g8 g9 g10 g11 g12 g13 g14 hbD hb3 hq2 hq3 HL2 HG2 Hrow2 HC0 HC1 HC2 HI1 HI2 HB2 K2 K3 K4 H1 H2
  simp only [Rg.putAll, List.take_succ_cons, List.take_zero, List.drop_succ_cons, List.drop_zero, List.setIfInBounds_toArray, List.set_cons_succ, List.set_cons_zero, g14', g15']
  clear g14' g15'
  go_upto_region 3 with fail
  clear q0 q1 q2 q3 q4 u0 u1 u2 u3 u4
  generalize hX : (((((wD.setCell ⟨pr, 0, none⟩ (.int .i64 0)).setCell ⟨pr, 1, none⟩ (.int .i64 (VarPlain.zag x1))).setCell ⟨pr, 2, none⟩ (.int .i64 (VarPlain.zag x2))).setCell ⟨pr, 3, none⟩ (.string (str tx))).setCell ⟨pr, 4, none⟩ (.slice ar row.length cr)) = w3 at *
  clear hX
  have i0 := HI0.out
  have hc0 := HCD.out
  obtain ⟨k0, k1, k2, k3, k4, k5⟩ := LC_cells HLD.out
  have hr0 : w3.cell? ⟨pr, 0, none⟩ = some (.int .i64 0) := by have := HRD.out; simp [World.cell?, this]
  have hf0 : w3.frozen? ⟨pr, 0, none⟩ = false := by have := HRD.out; simp [World.frozen?, this]
  have Hne : Hid (Value.ownBlock (.slice ar row.length cr) ≠ some pr) := by
    intro h
    have := hrp.out pr h
    omega
  by_cases h12 : x0 < 12
  · have d1 : decide ((x0 : Int) < 12) = true := by simp; omega
    have d2 : (x0 : Int) < 12 := by omega
    have HK : Hid (kindR x0 = x0) := by show _ = _; unfold kindR; rw [if_pos h12]
    go_upto_region 5 with fail
    have HL4 : Hid ((w3.setCell ⟨pr, 0, none⟩ (.int .i64 (x0 : Int))).heap[p]? = some (LC l e (.slice an 3 cn) tx (.slice ar row.length cr) lg)) := by show _ = _; rw [heap_setCell_other _ _ _ _ (by simp; omega)]; exact HLD.out
    have HG4 : Hid ((w3.setCell ⟨pr, 0, none⟩ (.int .i64 (x0 : Int))).heap[w.heap.size]? = some (Obj.cells #[.int .i64 0, .int .i64 0, .int .i64 0, .string ⟨#[]⟩, .slice none 0 0] 24)) := by show _ = _; rw [heap_setCell_other _ _ _ _ (by simp; omega)]; exact HGD.out
    have HR4 : Hid ((w3.setCell ⟨pr, 0, none⟩ (.int .i64 (x0 : Int))).heap[pr]? = some (Obj.cells #[.int .i64 (x0 : Int), .int .i64 (VarPlain.zag x1), .int .i64 (VarPlain.zag x2), .string (str tx), .slice ar row.length cr] 24)) := heap_setCell_same _ pr 0 _ _ _ HRD.out
    have Hrow4 : Hid ((w3.setCell ⟨pr, 0, none⟩ (.int .i64 (x0 : Int))).ownsRow _ _ _ _ _ _) := HrowD.out.kept (grown_set _ _ _ _) (by
      cases hv : Value.ownBlock (.slice ar row.length cr) with
      | none => exact .inl rfl
      | some j => exact .inr fun e => by cases e; exact absurd hv (Hne.out))
    have HB4 := Lib.hid (HB3.out.setCell (p := ⟨pr, 0, none⟩) (by simp; omega) (.int .i64 (x0 : Int)))
    clear k0 k1 k2 k3 k4 k5 hr0 hf0 i0 hc0 HLD HGD HRD HrowD HB3 HCD d1 d2
    generalize hw4 : w3.setCell ⟨pr, 0, none⟩ (.int .i64 (x0 : Int)) = w4 at *
    clear hw4
    by_cases h0 : 0 < x0
    · have HEb : Hid (endR (!lg && true) l e = ev) := by
        have := HE.out
        rw [HK.out, decide_eq_true h0] at this
        exact this
      have d3 : decide ((0 : Int) < (x0 : Int)) = true := by simp; omega
      have d4 : (0 : Int) < (x0 : Int) := by omega
      obtain ⟨k0, k1, k2, k3, k4, k5⟩ := LC_cells HL4.out
      have hr0 : w4.cell? ⟨pr, 0, none⟩ = some (.int .i64 (x0 : Int)) := by have := HR4.out; simp [World.cell?, this]
      go_wp2_with fail
      refine (ref_fault_calls w4 l e an ar 3 cn row.length cr tx lg true).mono ?_
      rintro r wF ⟨rfl, hbF⟩
      have HGF := Lib.hid (heap_low hbF HG4.out)
      have HRF := Lib.hid (heap_low hbF HR4.out)
      have HrowF := Lib.hid (ownsRow_below Hrow4.out hbF)
      have hz4 : w.heap.size < w4.heap.size := (Array.getElem?_eq_some_iff.1 HG4.out).1
      have HBF : Hid (Below w.heap.size w wF) := HB4.out.trans (hbF.mono HB4.out.size)
      clear k0 k1 k2 k3 k4 k5 hr0 hbF HL4 HG4 HR4 Hrow4 HB4
      rw [HEb.out]
      have z0 : wF.cell? ⟨w.heap.size, 0, none⟩ = some (.int .i64 0) := by have := HGF.out; simp [World.cell?, this]
      have y0 : wF.frozen? ⟨w.heap.size, 0, none⟩ = false := by have := HGF.out; simp [World.frozen?, this]
      have z1 : wF.cell? ⟨w.heap.size, 1, none⟩ = some (.int .i64 0) := by have := HGF.out; simp [World.cell?, this]
      have y1 : wF.frozen? ⟨w.heap.size, 1, none⟩ = false := by have := HGF.out; simp [World.frozen?, this]
      have z2 : wF.cell? ⟨w.heap.size, 2, none⟩ = some (.int .i64 0) := by have := HGF.out; simp [World.cell?, this]
      have y2 : wF.frozen? ⟨w.heap.size, 2, none⟩ = false := by have := HGF.out; simp [World.frozen?, this]
      have z3 : wF.cell? ⟨w.heap.size, 3, none⟩ = some (.string ⟨#[]⟩) := by have := HGF.out; simp [World.cell?, this]
      have y3 : wF.frozen? ⟨w.heap.size, 3, none⟩ = false := by have := HGF.out; simp [World.frozen?, this]
      have z4 : wF.cell? ⟨w.heap.size, 4, none⟩ = some (.slice none 0 0) := by have := HGF.out; simp [World.cell?, this]
      have y4 : wF.frozen? ⟨w.heap.size, 4, none⟩ = false := by have := HGF.out; simp [World.frozen?, this]
      by_cases hE : ev = 0
      · have HV := Lib.hid (HQ.out hE)
        subst hE
        have r0 : wF.cell? ⟨pr, 0, none⟩ = some (.int .i64 (x0 : Int)) := by have := HRF.out; simp [World.cell?, this]
        have r1 : wF.cell? ⟨pr, 1, none⟩ = some (.int .i64 (VarPlain.zag x1)) := by have := HRF.out; simp [World.cell?, this]
        have r2 : wF.cell? ⟨pr, 2, none⟩ = some (.int .i64 (VarPlain.zag x2)) := by have := HRF.out; simp [World.cell?, this]
        have r3 : wF.cell? ⟨pr, 3, none⟩ = some (.string (str tx)) := by have := HRF.out; simp [World.cell?, this]
        have r4 : wF.cell? ⟨pr, 4, none⟩ = some (.slice ar row.length cr) := by have := HRF.out; simp [World.cell?, this]
        go_wp2_with fail
        refine bodyPost_ret (v := .tuple #[.agg #[.int .i64 (x0 : Int), .int .i64 (VarPlain.zag x1), .int .i64 (VarPlain.zag x2), .string (str tx), .slice ar row.length cr], .int .i64 0]) (by simp [results, Tryd.results23, go_sem, z0, z1, z2, z3, z4]) rfl ?_
        refine ⟨ar, cr, by rw [HV.out, HK.out]; rfl, ?_, ?_⟩
        · rw [HV.out]
          refine strs_sets (q := w.heap.size) HrowF.out (by simp) ?_
          exact grownBy_trans (grownBy_trans (grownBy_trans (grownBy_trans (grownBy_trans (World.grownBy.refl _ _) (grown_set _ _ _ _)) (grown_set _ _ _ _)) (grown_set _ _ _ _)) (grown_set _ _ _ _)) (grown_set _ _ _ _)
        · exact (((((HBF.out.setCell (Nat.le_refl _) _).setCell (Nat.le_refl _) _).setCell (Nat.le_refl _) _).setCell (Nat.le_refl _) _).setCell (Nat.le_refl _) _)
      · have HV := Lib.hid (HQB.out hE)
        have t1 : (ev == 0) = false := by rw [beq_eq_false_iff_ne]; exact hE
        have t2 : (ev != 0) = true := by rw [bne_iff_ne]; exact hE
        go_wp2_with fail
        refine bodyPost_ret (v := .tuple #[.agg #[.int .i64 0, .int .i64 0, .int .i64 0, .string ⟨#[]⟩, .slice none 0 0], .int .i64 ev]) (by simp [results, Tryd.results23, go_sem, z0, z1, z2, z3, z4]) rfl ?_
        refine ⟨none, 0, by rw [HV.out]; rfl, ?_, ?_⟩
        · rw [HV.out]; exact RowOf.nil
        · exact (((((HBF.out.setCell (Nat.le_refl _) _).setCell (Nat.le_refl _) _).setCell (Nat.le_refl _) _).setCell (Nat.le_refl _) _).setCell (Nat.le_refl _) _)
    · have HEb : Hid (endR (!lg && false) l e = ev) := by
        have := HE.out
        rw [HK.out, decide_eq_false h0] at this
        exact this
      have d3 : decide ((0 : Int) < (x0 : Int)) = false := by simp; omega
      have d4 : ¬ (0 : Int) < (x0 : Int) := by omega
      obtain ⟨k0, k1, k2, k3, k4, k5⟩ := LC_cells HL4.out
      have hr0 : w4.cell? ⟨pr, 0, none⟩ = some (.int .i64 (x0 : Int)) := by have := HR4.out; simp [World.cell?, this]
      go_wp2_with fail
      refine (ref_fault_calls w4 l e an ar 3 cn row.length cr tx lg false).mono ?_
      rintro r wF ⟨rfl, hbF⟩
      have HGF := Lib.hid (heap_low hbF HG4.out)
      have HRF := Lib.hid (heap_low hbF HR4.out)
      have HrowF := Lib.hid (ownsRow_below Hrow4.out hbF)
      have hz4 : w.heap.size < w4.heap.size := (Array.getElem?_eq_some_iff.1 HG4.out).1
      have HBF : Hid (Below w.heap.size w wF) := HB4.out.trans (hbF.mono HB4.out.size)
      clear k0 k1 k2 k3 k4 k5 hr0 hbF HL4 HG4 HR4 Hrow4 HB4
      rw [HEb.out]
      have z0 : wF.cell? ⟨w.heap.size, 0, none⟩ = some (.int .i64 0) := by have := HGF.out; simp [World.cell?, this]
      have y0 : wF.frozen? ⟨w.heap.size, 0, none⟩ = false := by have := HGF.out; simp [World.frozen?, this]
      have z1 : wF.cell? ⟨w.heap.size, 1, none⟩ = some (.int .i64 0) := by have := HGF.out; simp [World.cell?, this]
      have y1 : wF.frozen? ⟨w.heap.size, 1, none⟩ = false := by have := HGF.out; simp [World.frozen?, this]
      have z2 : wF.cell? ⟨w.heap.size, 2, none⟩ = some (.int .i64 0) := by have := HGF.out; simp [World.cell?, this]
      have y2 : wF.frozen? ⟨w.heap.size, 2, none⟩ = false := by have := HGF.out; simp [World.frozen?, this]
      have z3 : wF.cell? ⟨w.heap.size, 3, none⟩ = some (.string ⟨#[]⟩) := by have := HGF.out; simp [World.cell?, this]
      have y3 : wF.frozen? ⟨w.heap.size, 3, none⟩ = false := by have := HGF.out; simp [World.frozen?, this]
      have z4 : wF.cell? ⟨w.heap.size, 4, none⟩ = some (.slice none 0 0) := by have := HGF.out; simp [World.cell?, this]
      have y4 : wF.frozen? ⟨w.heap.size, 4, none⟩ = false := by have := HGF.out; simp [World.frozen?, this]
      by_cases hE : ev = 0
      · have HV := Lib.hid (HQ.out hE)
        subst hE
        have r0 : wF.cell? ⟨pr, 0, none⟩ = some (.int .i64 (x0 : Int)) := by have := HRF.out; simp [World.cell?, this]
        have r1 : wF.cell? ⟨pr, 1, none⟩ = some (.int .i64 (VarPlain.zag x1)) := by have := HRF.out; simp [World.cell?, this]
        have r2 : wF.cell? ⟨pr, 2, none⟩ = some (.int .i64 (VarPlain.zag x2)) := by have := HRF.out; simp [World.cell?, this]
        have r3 : wF.cell? ⟨pr, 3, none⟩ = some (.string (str tx)) := by have := HRF.out; simp [World.cell?, this]
        have r4 : wF.cell? ⟨pr, 4, none⟩ = some (.slice ar row.length cr) := by have := HRF.out; simp [World.cell?, this]
        go_wp2_with fail
        refine bodyPost_ret (v := .tuple #[.agg #[.int .i64 (x0 : Int), .int .i64 (VarPlain.zag x1), .int .i64 (VarPlain.zag x2), .string (str tx), .slice ar row.length cr], .int .i64 0]) (by simp [results, Tryd.results23, go_sem, z0, z1, z2, z3, z4]) rfl ?_
        refine ⟨ar, cr, by rw [HV.out, HK.out]; rfl, ?_, ?_⟩
        · rw [HV.out]
          refine strs_sets (q := w.heap.size) HrowF.out (by simp) ?_
          exact grownBy_trans (grownBy_trans (grownBy_trans (grownBy_trans (grownBy_trans (World.grownBy.refl _ _) (grown_set _ _ _ _)) (grown_set _ _ _ _)) (grown_set _ _ _ _)) (grown_set _ _ _ _)) (grown_set _ _ _ _)
        · exact (((((HBF.out.setCell (Nat.le_refl _) _).setCell (Nat.le_refl _) _).setCell (Nat.le_refl _) _).setCell (Nat.le_refl _) _).setCell (Nat.le_refl _) _)
      · have HV := Lib.hid (HQB.out hE)
        have t1 : (ev == 0) = false := by rw [beq_eq_false_iff_ne]; exact hE
        have t2 : (ev != 0) = true := by rw [bne_iff_ne]; exact hE
        go_wp2_with fail
        refine bodyPost_ret (v := .tuple #[.agg #[.int .i64 0, .int .i64 0, .int .i64 0, .string ⟨#[]⟩, .slice none 0 0], .int .i64 ev]) (by simp [results, Tryd.results23, go_sem, z0, z1, z2, z3, z4]) rfl ?_
        refine ⟨none, 0, by rw [HV.out]; rfl, ?_, ?_⟩
        · rw [HV.out]; exact RowOf.nil
        · exact (((((HBF.out.setCell (Nat.le_refl _) _).setCell (Nat.le_refl _) _).setCell (Nat.le_refl _) _).setCell (Nat.le_refl _) _).setCell (Nat.le_refl _) _)
  · have d1 : decide ((x0 : Int) < 12) = false := by simp; omega
    have d2 : ¬ (x0 : Int) < 12 := by omega
    have HK : Hid (kindR x0 = 0) := by show _ = _; unfold kindR; rw [if_neg h12]
    have HEb : Hid (endR (!lg && false) l e = ev) := by
      have := HE.out
      rw [HK.out] at this
      exact this
    go_upto_region 5 with fail
    have HL4 := HLD; have HG4 := HGD; have HR4 := HRD; have Hrow4 := HrowD; have HB4 := HB3
    clear k0 k1 k2 k3 k4 k5 hr0 hf0 i0 hc0 HLD HGD HRD HrowD HB3 HCD d1 d2
    generalize hw4 : w3 = w4 at *
    clear hw4
    obtain ⟨k0, k1, k2, k3, k4, k5⟩ := LC_cells HL4.out
    have hr0 : w4.cell? ⟨pr, 0, none⟩ = some (.int .i64 0) := by have := HR4.out; simp [World.cell?, this]
    go_wp2_with fail
    refine (ref_fault_calls w4 l e an ar 3 cn row.length cr tx lg false).mono ?_
    rintro r wF ⟨rfl, hbF⟩
    have HGF := Lib.hid (heap_low hbF HG4.out)
    have HRF := Lib.hid (heap_low hbF HR4.out)
    have HrowF := Lib.hid (ownsRow_below Hrow4.out hbF)
    have hz4 : w.heap.size < w4.heap.size := (Array.getElem?_eq_some_iff.1 HG4.out).1
    have HBF : Hid (Below w.heap.size w wF) := HB4.out.trans (hbF.mono HB4.out.size)
    clear k0 k1 k2 k3 k4 k5 hr0 hbF HL4 HG4 HR4 Hrow4 HB4
    rw [HEb.out]
    have z0 : wF.cell? ⟨w.heap.size, 0, none⟩ = some (.int .i64 0) := by have := HGF.out; simp [World.cell?, this]
    have y0 : wF.frozen? ⟨w.heap.size, 0, none⟩ = false := by have := HGF.out; simp [World.frozen?, this]
    have z1 : wF.cell? ⟨w.heap.size, 1, none⟩ = some (.int .i64 0) := by have := HGF.out; simp [World.cell?, this]
    have y1 : wF.frozen? ⟨w.heap.size, 1, none⟩ = false := by have := HGF.out; simp [World.frozen?, this]
    have z2 : wF.cell? ⟨w.heap.size, 2, none⟩ = some (.int .i64 0) := by have := HGF.out; simp [World.cell?, this]
    have y2 : wF.frozen? ⟨w.heap.size, 2, none⟩ = false := by have := HGF.out; simp [World.frozen?, this]
    have z3 : wF.cell? ⟨w.heap.size, 3, none⟩ = some (.string ⟨#[]⟩) := by have := HGF.out; simp [World.cell?, this]
    have y3 : wF.frozen? ⟨w.heap.size, 3, none⟩ = false := by have := HGF.out; simp [World.frozen?, this]
    have z4 : wF.cell? ⟨w.heap.size, 4, none⟩ = some (.slice none 0 0) := by have := HGF.out; simp [World.cell?, this]
    have y4 : wF.frozen? ⟨w.heap.size, 4, none⟩ = false := by have := HGF.out; simp [World.frozen?, this]
    by_cases hE : ev = 0
    · have HV := Lib.hid (HQ.out hE)
      subst hE
      have r0 : wF.cell? ⟨pr, 0, none⟩ = some (.int .i64 0) := by have := HRF.out; simp [World.cell?, this]
      have r1 : wF.cell? ⟨pr, 1, none⟩ = some (.int .i64 (VarPlain.zag x1)) := by have := HRF.out; simp [World.cell?, this]
      have r2 : wF.cell? ⟨pr, 2, none⟩ = some (.int .i64 (VarPlain.zag x2)) := by have := HRF.out; simp [World.cell?, this]
      have r3 : wF.cell? ⟨pr, 3, none⟩ = some (.string (str tx)) := by have := HRF.out; simp [World.cell?, this]
      have r4 : wF.cell? ⟨pr, 4, none⟩ = some (.slice ar row.length cr) := by have := HRF.out; simp [World.cell?, this]
      go_wp2_with fail
      refine bodyPost_ret (v := .tuple #[.agg #[.int .i64 0, .int .i64 (VarPlain.zag x1), .int .i64 (VarPlain.zag x2), .string (str tx), .slice ar row.length cr], .int .i64 0]) (by simp [results, Tryd.results23, go_sem, z0, z1, z2, z3, z4]) rfl ?_
      refine ⟨ar, cr, by rw [HV.out, HK.out]; rfl, ?_, ?_⟩
      · rw [HV.out]
        refine strs_sets (q := w.heap.size) HrowF.out (by simp) ?_
        exact grownBy_trans (grownBy_trans (grownBy_trans (grownBy_trans (grownBy_trans (World.grownBy.refl _ _) (grown_set _ _ _ _)) (grown_set _ _ _ _)) (grown_set _ _ _ _)) (grown_set _ _ _ _)) (grown_set _ _ _ _)
      · exact (((((HBF.out.setCell (Nat.le_refl _) _).setCell (Nat.le_refl _) _).setCell (Nat.le_refl _) _).setCell (Nat.le_refl _) _).setCell (Nat.le_refl _) _)
    · have HV := Lib.hid (HQB.out hE)
      have t1 : (ev == 0) = false := by rw [beq_eq_false_iff_ne]; exact hE
      have t2 : (ev != 0) = true := by rw [bne_iff_ne]; exact hE
      go_wp2_with fail
      refine bodyPost_ret (v := .tuple #[.agg #[.int .i64 0, .int .i64 0, .int .i64 0, .string ⟨#[]⟩, .slice none 0 0], .int .i64 ev]) (by simp [results, Tryd.results23, go_sem, z0, z1, z2, z3, z4]) rfl ?_
      refine ⟨none, 0, by rw [HV.out]; rfl, ?_, ?_⟩
      · rw [HV.out]; exact RowOf.nil
      · exact (((((HBF.out.setCell (Nat.le_refl _) _).setCell (Nat.le_refl _) _).setCell (Nat.le_refl _) _).setCell (Nat.le_refl _) _).setCell (Nat.le_refl _) _)

end Go.Proofs.YtbbnopikinlcdaaDoor
