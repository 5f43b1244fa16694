/-
  State: the stack of frames, and a state, put. Conditions: as each contract says.
-/
import Derived.Test.YtmhofdoifgfjfaaStFrameP
set_option linter.unusedVariables false
set_option maxRecDepth 100000
namespace Go.Proofs.Ytmhofdoifgfjfaa
open Go.RowKit Base

theorem info_el_frame : (Try.prog.info? 96).map (fun i => i.size) = some 19 := by kernel_rfl
theorem load_sl_frame {w : World} {ad : Addr} {v : Value} (h : w.cell? ad = some v) : (Instr.loadAt 36 (.pointer (some ad))).run Try.prog w = .ok v w := Ap.load_plainP (by simp [isAgg]) h
set_option maxHeartbeats 1000000 in
theorem row_frame_pk0 (W : World) (F : Nat) (v : Value) (o : Nm) (g off : Nat) (zs : List FrameD) (h : PkI F v o W) (ha : zs.length ≤ 100000 ∧ ∀ a ∈ zs, FrameP a) (hg : ∀ v' W', WUp F v v' W W' → W'.cell? ⟨g, off, none⟩ = W.cell? ⟨g, off, none⟩)
    (hr : ∃ u, W.cell? ⟨g, off, none⟩ = some u ∧ RowV 19 (FrameR) F W u zs) (hl : (o ++ (rowC frameC).enc zs).length ≤ 100000000) :
    Calls Try.prog 40 #[.pointer (some ⟨F, 0, none⟩), .pointer (some ⟨g, off, none⟩), .func (.func 41) #[] #[]] W (PkPost F v o ((rowC frameC).enc zs) W) := by
  obtain ⟨u, hu, p, cap, rfl, hel⟩ := hr
  have HP := Lib.hid h
  have HA := Lib.hid ha
  have HG := Lib.hid hg
  have HCu := Lib.hid hu
  have HEl := Lib.hid hel
  have HL : Hid ((o ++ (intB (zs.length : Int) ++ encs frameC zs)).length ≤ 100000000) := hl
  have hn := ha.1
  clear h ha hg hel hl
  go_enter Try.func40, Try.ntmps40
  go_upto_region 1 with fail
  clear hu
  obtain ⟨nb, w2, hw2, hnbe, hk4, hbb⟩ : ∃ nb w2, W.alloc (.cells #[.int .i64 (zs.length : Int)] 3) = w2 ∧ W.heap.size = nb ∧ w2.heap[nb]? = some (.cells #[.int .i64 (zs.length : Int)] 3) ∧ Below W.heap.size W w2 :=
    ⟨_, _, rfl, rfl, heap_alloc_new W _, (Below.refl W.heap.size W).alloc (Nat.le_refl _) _⟩
  have HBb := Lib.hid hbb
  have HK4 := Lib.hid hk4
  have HP3 := Lib.hid (HP.out.below hbb)
  have HNl : Hid (nb < w2.heap.size) := (Array.getElem?_eq_some_iff.1 hk4).1
  have HNe : Hid (nb ≠ F) := by have := HP.out.lt; show _ ≠ _; omega
  rw [hw2, hnbe]
  clear hbb hk4 hw2 hnbe
  go_wp2_with fail
  refine (pk_int_calls w2 F v o nb 0 (zs.length : Int) HP3.out (one_cell HK4.out).1 (len_i64 hn) (by have := HL.out; rw [List.length_append] at this ⊢; rw [List.length_append] at this; omega)).mono ?_
  rintro e w3 ⟨rfl, v3, hp3, hu3⟩
  have HP4 := Lib.hid hp3
  have HU4 := Lib.hid ((WUp.of_below HBb.out).trans hu3)
  have HK5 := Lib.hid ((hu3.block nb HNl.out HNe.out (own_apart HP3.out.own HK4.out (by decide))).trans HK4.out)
  clear hp3 hu3
  obtain ⟨⟨c0, c1, c2⟩, f0, f1, f2⟩ := three HP4.out.k
  obtain ⟨y0, y1⟩ := one_cell HK5.out
  go_wp2_with fail
  clear c0 c1 c2 f0 f1 f2 y0 y1
  go_loopw [7] (fun v7 wr => ∃ (k : Nat) (v' : Value), k ≤ zs.length ∧ v7 = .int .i64 k ∧ PkI F v' (o ++ intB (zs.length : Int) ++ encs frameC (zs.take k)) wr ∧ WUp F v v' W wr ∧ wr.heap[nb]? = some (.cells #[.int .i64 (zs.length : Int)] 3)) (fun v7 _ => zs.length - (intOf v7).toNat)
  case atStart => exact ⟨0, v3, Nat.zero_le _, rfl, by rw [List.take_zero, show encs frameC [] = [] from rfl, List.append_nil]; exact HP4.out, HU4.out, HK5.out⟩
  case round =>
    obtain ⟨k, v', hk, rfl, hp, hu, hnk⟩ := hrel
    have HP2 := Lib.hid hp
    have HU := Lib.hid hu
    have HK := Lib.hid hnk
    obtain ⟨⟨c0, c1, c2⟩, f0, f1, f2⟩ := three hp.k
    obtain ⟨y0, y1⟩ := one_cell hnk
    clear hp hu hnk
    have hlow := HU.out.low HP.out.hi (Nat.le_refl F) (Nat.le_of_lt HP.out.lt)
    have cu := (HG.out _ _ HU.out).trans HCu.out
    have HLow := Lib.hid hlow
    clear hlow
    by_cases hlt : k < zs.length
    · obtain ⟨b, ro, rfl, hel⟩ := HEl.out.resolve_left (fun e => by rw [e] at hlt; exact absurd hlt (Nat.not_lt_zero _))
      have HX : Hid ((FrameR) F wr b (ro + k * 19) (zs[k]'hlt)) := by
        have h9 := (frame_lies).below (hel k hlt) HLow.out
        show (FrameR) F wr b (ro + k * 19) (zs[k]'hlt)
        first | exact h9 | (rw [Nat.mul_one] at h9; exact h9)
      have HPz : Hid (FrameP zs[k]) := HA.out.2 _ (List.getElem_mem hlt)
      have hx := fun W => row_idx Try.underlying36 19 info_el_frame b ro zs.length cap k hlt W
      have HT := Lib.hid (List.take_succ_eq_append_getElem hlt)
      have HL2 : Hid ((o ++ intB (zs.length : Int) ++ encs frameC (zs.take k) ++ (frameC).enc (zs[k]'hlt)).length ≤ 100000000) := by
        show _ ≤ _
        refine Nat.le_trans ?_ HL.out
        rw [List.append_assoc, ← encs_snoc, ← List.take_succ_eq_append_getElem hlt, List.append_assoc, List.length_append, List.length_append, List.length_append, List.length_append]
        have := encs_take frameC zs (k + 1)
        omega
      clear hel
      generalize zs[k]'hlt = z at *
      obtain ⟨o2, ho2⟩ : ∃ o2, o ++ intB (zs.length : Int) ++ encs frameC (zs.take k) = o2 := ⟨_, rfl⟩
      have HO2 := Lib.hid ho2
      rw [ho2] at HP2 HL2
      clear ho2
      have u3 : decide (k < zs.length) = true := decide_eq_true (by omega)
      have u1 : decide ((k : Int) < (zs.length : Int)) = true := decide_eq_true (by omega)
      have u2 : (k : Int) < (zs.length : Int) := by omega
      go_wp2_with fail
      refine (wrong_calls wr F 0 c2).mono ?_
      rintro r w' ⟨rfl, rfl⟩
      rw [show decide ((0 : Int) ≠ 0) = false from rfl]
      go_wp2_with fail
      refine (frame_pk wr F v' o2 b _ z HP2.out HPz.out HX.out HL2.out).mono ?_
      rintro e w4 ⟨rfl, v4, hp4, hu4⟩
      have HP5 := Lib.hid hp4
      have HU5 := Lib.hid (HU.out.trans hu4)
      have HK6 := Lib.hid ((hu4.block nb (Array.getElem?_eq_some_iff.1 HK.out).1 HNe.out (own_apart HP2.out.own HK.out (by decide))).trans HK.out)
      clear hp4 hu4 c0 c1 c2 f0 f1 f2 y0 y1 cu hx
      go_wp2_with fail
      go_roundw
      case rel => exact ⟨k + 1, v4, by omega, by go_num, by rw [HT.out, encs_snoc, ← List.append_assoc, HO2.out]; exact HP5.out, HU5.out, HK6.out⟩
      case measure => simp [intOf]; omega
    · obtain rfl : k = zs.length := by omega
      rw [List.take_length] at HP2
      have u3 : decide (zs.length < zs.length) = false := decide_eq_false (by omega)
      have u1 : decide ((zs.length : Int) < (zs.length : Int)) = false := decide_eq_false (by omega)
      have u2 : ¬ ((zs.length : Int) < (zs.length : Int)) := by omega
      go_wp2_with fail
      refine bodyPost_end (v := .tuple #[]) (results_none rfl _ _ _) rfl ?_
      refine ⟨rfl, v', ?_, HU.out⟩
      have := HP2.out
      rwa [List.append_assoc] at this
theorem row_frame_pk (W : World) (F : Nat) (v : Value) (o : Nm) (g off : Nat) (zs : List FrameD) (h : PkI F v o W) (ha : zs.length ≤ 100000 ∧ ∀ a ∈ zs, FrameP a) (hr : RowR 19 (FrameR) F W g off zs) (hl : (o ++ (rowC frameC).enc zs).length ≤ 100000000) :
    Calls Try.prog 40 #[.pointer (some ⟨F, 0, none⟩), .pointer (some ⟨g, off, none⟩), .func (.func 41) #[] #[]] W (PkPost F v o ((rowC frameC).enc zs) W) :=
  row_frame_pk0 W F v o g off zs h ha (fun v' W' hu => ((hu.low h.hi (Nat.le_refl F) (Nat.le_of_lt h.lt)).cell (p := ⟨g, off, none⟩) hr.1)) hr.2 hl

theorem numE_pk : PkOk 48 numC numV I64 := fun W F v o g off z h hg hz hc hl => pk_errno_calls W F v o g off z h (hc 0 Nat.zero_lt_one) hz (Nat.le_trans hl (by decide))
abbrev num3V (p : Int × Int × Int) : List Value := [iv p.1, iv p.2.1, iv p.2.2]
abbrev bit3V (p : Bool × Bool × Bool) : List Value := [.bool p.1, .bool p.2.1, .bool p.2.2]
def BitsR (n : Nat) (W : World) (g off : Nat) (b : Bool × Bool × Bool) : Prop := FlatR bit3V n W g off b ∧ ∀ j, j < 3 → W.frozen? ⟨g, off + j, none⟩ = false
theorem bits_lies : Lies BitsR := ⟨fun h => h.1.1, fun h hb => ⟨(flat_lies _).below h.1 hb, fun j hj => (hb.frozen (p := ⟨_, _, none⟩) h.1.1).trans (h.2 j hj)⟩⟩
def StateR (n : Nat) (W : World) (g off : Nat) (a : StateD) : Prop :=
  KeepR n W g off a.1 ∧ RowR 1 (FlatR txtV) n W g (off + 7) a.2.1 ∧ RowR 19 FrameR n W g (off + 8) a.2.2.1 ∧ ReqR n W g (off + 9) a.2.2.2.1 ∧ AnsR n W g (off + 14) a.2.2.2.2.1 ∧
  RowR 1 (FlatR numV) n W g (off + 21) a.2.2.2.2.2.1 ∧ FlatR num3V n W g (off + 22) a.2.2.2.2.2.2.1 ∧ BitsR n W g (off + 25) a.2.2.2.2.2.2.2.1 ∧ FlatR numV n W g (off + 28) a.2.2.2.2.2.2.2.2
theorem state_lies : Lies StateR := by
  refine ⟨fun h => h.1.1.1.1, fun h hb => ?_⟩
  obtain ⟨h1, h2, h3, h4, h5, h6, h7, h8, h9⟩ := h
  exact ⟨keep_lies.below h1 hb, (row_lies (flat_lies _)).below h2 hb, (row_lies frame_lies).below h3 hb, req_lies.below h4 hb, ans_lies.below h5 hb, (row_lies (flat_lies _)).below h6 hb, (flat_lies _).below h7 hb, bits_lies.below h8 hb, (flat_lies _).below h9 hb⟩
theorem fld_st6 (g off : Nat) (w : World) : (Instr.fieldAt 44 (.pointer (some ⟨g, off, none⟩)) 6).run Try.prog w = .ok (.pointer (some ⟨g, off + 22, none⟩)) w := by rfl
theorem fld_st7 (g off : Nat) (w : World) : (Instr.fieldAt 44 (.pointer (some ⟨g, off, none⟩)) 7).run Try.prog w = .ok (.pointer (some ⟨g, off + 23, none⟩)) w := by rfl
theorem fld_st8 (g off : Nat) (w : World) : (Instr.fieldAt 44 (.pointer (some ⟨g, off, none⟩)) 8).run Try.prog w = .ok (.pointer (some ⟨g, off + 24, none⟩)) w := by rfl
theorem fld_st9 (g off : Nat) (w : World) : (Instr.fieldAt 44 (.pointer (some ⟨g, off, none⟩)) 9).run Try.prog w = .ok (.pointer (some ⟨g, off + 25, none⟩)) w := by rfl
theorem fld_st10 (g off : Nat) (w : World) : (Instr.fieldAt 44 (.pointer (some ⟨g, off, none⟩)) 10).run Try.prog w = .ok (.pointer (some ⟨g, off + 26, none⟩)) w := by rfl
theorem fld_st11 (g off : Nat) (w : World) : (Instr.fieldAt 44 (.pointer (some ⟨g, off, none⟩)) 11).run Try.prog w = .ok (.pointer (some ⟨g, off + 27, none⟩)) w := by rfl
set_option maxHeartbeats 1000000 in
theorem all_pk : PkR 27 stateC StateR StateP := by
  intro W F v o g off a h ha hr hl
  obtain ⟨r1, r2, r3, r4, r5, r6, r7, r8, r9⟩ := hr
  obtain ⟨p1, p2, p3, p4, p5, p6, p7, p8, p9⟩ := ha
  have l0 : (o ++ ((keepC).enc a.1 ++ ((rowC txtC).enc a.2.1 ++ ((rowC frameC).enc a.2.2.1 ++ ((reqC).enc a.2.2.2.1 ++ ((ansC).enc a.2.2.2.2.1 ++ ((rowC numC).enc a.2.2.2.2.2.1 ++ ((pairC numC (pairC numC numC)).enc a.2.2.2.2.2.2.1 ++ ((pairC bitC (pairC bitC bitC)).enc a.2.2.2.2.2.2.2.1 ++ ((numC).enc a.2.2.2.2.2.2.2.2)))))))))).length ≤ 100000000 := hl
  obtain ⟨l1, k1⟩ := cat_le (b := (rowC txtC).enc a.2.1 ++ ((rowC frameC).enc a.2.2.1 ++ ((reqC).enc a.2.2.2.1 ++ ((ansC).enc a.2.2.2.2.1 ++ ((rowC numC).enc a.2.2.2.2.2.1 ++ ((pairC numC (pairC numC numC)).enc a.2.2.2.2.2.2.1 ++ ((pairC bitC (pairC bitC bitC)).enc a.2.2.2.2.2.2.2.1 ++ ((numC).enc a.2.2.2.2.2.2.2.2)))))))) l0
  obtain ⟨l2, k2⟩ := cat_le (b := (rowC frameC).enc a.2.2.1 ++ ((reqC).enc a.2.2.2.1 ++ ((ansC).enc a.2.2.2.2.1 ++ ((rowC numC).enc a.2.2.2.2.2.1 ++ ((pairC numC (pairC numC numC)).enc a.2.2.2.2.2.2.1 ++ ((pairC bitC (pairC bitC bitC)).enc a.2.2.2.2.2.2.2.1 ++ ((numC).enc a.2.2.2.2.2.2.2.2))))))) k1
  obtain ⟨l3, k3⟩ := cat_le (b := (reqC).enc a.2.2.2.1 ++ ((ansC).enc a.2.2.2.2.1 ++ ((rowC numC).enc a.2.2.2.2.2.1 ++ ((pairC numC (pairC numC numC)).enc a.2.2.2.2.2.2.1 ++ ((pairC bitC (pairC bitC bitC)).enc a.2.2.2.2.2.2.2.1 ++ ((numC).enc a.2.2.2.2.2.2.2.2)))))) k2
  obtain ⟨l4, k4⟩ := cat_le (b := (ansC).enc a.2.2.2.2.1 ++ ((rowC numC).enc a.2.2.2.2.2.1 ++ ((pairC numC (pairC numC numC)).enc a.2.2.2.2.2.2.1 ++ ((pairC bitC (pairC bitC bitC)).enc a.2.2.2.2.2.2.2.1 ++ ((numC).enc a.2.2.2.2.2.2.2.2))))) k3
  obtain ⟨l5, k5⟩ := cat_le (b := (rowC numC).enc a.2.2.2.2.2.1 ++ ((pairC numC (pairC numC numC)).enc a.2.2.2.2.2.2.1 ++ ((pairC bitC (pairC bitC bitC)).enc a.2.2.2.2.2.2.2.1 ++ ((numC).enc a.2.2.2.2.2.2.2.2)))) k4
  obtain ⟨l6, k6⟩ := cat_le (b := (pairC numC (pairC numC numC)).enc a.2.2.2.2.2.2.1 ++ ((pairC bitC (pairC bitC bitC)).enc a.2.2.2.2.2.2.2.1 ++ ((numC).enc a.2.2.2.2.2.2.2.2))) k5
  obtain ⟨l7, k7⟩ := cat_le (b := (pairC bitC (pairC bitC bitC)).enc a.2.2.2.2.2.2.2.1 ++ ((numC).enc a.2.2.2.2.2.2.2.2)) k6
  obtain ⟨l8, k8⟩ := cat_le (b := (numC).enc a.2.2.2.2.2.2.2.2) k7
  have l9 := k8
  have HP := Lib.hid h
  have R1 := Lib.hid r1
  have P1 := Lib.hid p1
  have L1 := Lib.hid l1
  have R2 := Lib.hid r2
  have P2 := Lib.hid p2
  have L2 := Lib.hid l2
  have R3 := Lib.hid r3
  have P3 := Lib.hid p3
  have L3 := Lib.hid l3
  have R4 := Lib.hid r4
  have P4 := Lib.hid p4
  have L4 := Lib.hid l4
  have R5 := Lib.hid r5
  have P5 := Lib.hid p5
  have L5 := Lib.hid l5
  have R6 := Lib.hid r6
  have P6 := Lib.hid p6
  have L6 := Lib.hid l6
  have R7 := Lib.hid r7
  have P7 := Lib.hid p7
  have L7 := Lib.hid l7
  have R8 := Lib.hid r8
  have P8 := Lib.hid p8
  have L8 := Lib.hid l8
  have R9 := Lib.hid r9
  have P9 := Lib.hid p9
  have L9 := Lib.hid l9
  clear h hl r1 p1 l1 r2 p2 l2 r3 p3 l3 r4 p4 l4 r5 p5 l5 r6 p6 l6 r7 p7 l7 r8 p8 l8 r9 p9 l9 l0 k1 k2 k3 k4 k5 k6 k7 k8
  go_enter Try.func27, Try.ntmps27
  go_wp2_with fail
  refine (keep_pk W F v o g off a.1 HP.out P1.out R1.out L1.out).mono ?_
  rintro e w1 ⟨rfl, v1, hp, hu⟩
  have HP1 := Lib.hid hp
  have HU1 := Lib.hid hu
  clear hp hu
  go_wp2_with fail
  refine (row_string_pk w1 F v1 _ g (off + 7) a.2.1 HP1.out P2.out ((row_lies (flat_lies _)).below R2.out (up_low HP.out HU1.out)) L2.out).mono ?_
  rintro e w2 ⟨rfl, v2, hp, hu⟩
  have HP2 := Lib.hid hp
  have HU2 := Lib.hid (HU1.out.trans hu)
  clear hp hu
  go_wp2_with fail
  refine (row_frame_pk w2 F v2 _ g (off + 8) a.2.2.1 HP2.out P3.out ((row_lies frame_lies).below R3.out (up_low HP.out HU2.out)) L3.out).mono ?_
  rintro e w3 ⟨rfl, v3, hp, hu⟩
  have HP3 := Lib.hid hp
  have HU3 := Lib.hid (HU2.out.trans hu)
  clear hp hu
  go_wp2_with fail
  refine (request_pk w3 F v3 _ g (off + 9) a.2.2.2.1 HP3.out P4.out ((req_lies).below R4.out (up_low HP.out HU3.out)) L4.out).mono ?_
  rintro e w4 ⟨rfl, v4, hp, hu⟩
  have HP4 := Lib.hid hp
  have HU4 := Lib.hid (HU3.out.trans hu)
  clear hp hu
  go_wp2_with fail
  refine (answer_pk w4 F v4 _ g (off + 14) a.2.2.2.2.1 HP4.out P5.out ((ans_lies).below R5.out (up_low HP.out HU4.out)) L5.out).mono ?_
  rintro e w5 ⟨rfl, v5, hp, hu⟩
  have HP5 := Lib.hid hp
  have HU5 := Lib.hid (HU4.out.trans hu)
  clear hp hu
  go_wp2_with fail
  refine (row_int_pk w5 F v5 _ g (off + 21) a.2.2.2.2.2.1 HP5.out P6.out ((row_lies (flat_lies _)).below R6.out (up_low HP.out HU5.out)) L6.out).mono ?_
  rintro e w6 ⟨rfl, v6, hp, hu⟩
  have HP6 := Lib.hid hp
  have HU6 := Lib.hid (HU5.out.trans hu)
  clear hp hu
  go_upto_region 6 with fail
  have e16 : [a.2.2.2.2.2.2.1.1, a.2.2.2.2.2.2.1.2.1, a.2.2.2.2.2.2.1.2.2].flatMap intB = (pairC numC (pairC numC numC)).enc a.2.2.2.2.2.2.1 := by show _ = intB a.2.2.2.2.2.2.1.1 ++ (intB a.2.2.2.2.2.2.1.2.1 ++ (intB a.2.2.2.2.2.2.1.2.2)); simp
  have RN6 : Hid (CellsAt w6 g (off + 22) ([a.2.2.2.2.2.2.1.1, a.2.2.2.2.2.2.1.2.1, a.2.2.2.2.2.2.1.2.2].map iv)) := (((flat_lies _).below R7.out (up_low HP.out HU6.out))).2
  have PN6 : Hid (∀ z ∈ [a.2.2.2.2.2.2.1.1, a.2.2.2.2.2.2.1.2.1, a.2.2.2.2.2.2.1.2.2], I64 z) := by
    obtain ⟨q0, q1, q2⟩ := P7.out
    show ∀ z ∈ _, _
    simp only [List.mem_cons, List.not_mem_nil, or_false]
    rintro z (rfl | rfl | rfl)
    all_goals assumption
  refine Rt.wp_region_rkt 12 [] [Rg.Is (.pointer (some ⟨F, 0, none⟩)), Rg.Is (.pointer (some ⟨g, off, none⟩)), Rg.Is (.pointer (some ⟨g, off, none⟩)), Rg.Is (.pointer (some ⟨g, off + 22, none⟩)), Rg.Is (.pointer (some ⟨g, off, none⟩)), Rg.Is (.pointer (some ⟨g, off, none⟩)), Rg.Is (.pointer (some ⟨g, off + 23, none⟩)), Rg.Is (.pointer (some ⟨g, off, none⟩)), Rg.Is (.pointer (some ⟨g, off, none⟩)), Rg.Is (.pointer (some ⟨g, off + 24, none⟩)), (fun u x => ∃ b, u = .slice (some ⟨b, 0, none⟩) 3 3 ∧ w6.heap.size ≤ b ∧ x.heap[b]? = some (.cells #[.pointer (some ⟨g, off + 22, none⟩), .pointer (some ⟨g, off + 23, none⟩), .pointer (some ⟨g, off + 24, none⟩)] 107)), (fun u x => u = .tuple #[] ∧ ∃ v', PkI F v' (((((((o ++ (keepC).enc a.1) ++ (rowC txtC).enc a.2.1) ++ (rowC frameC).enc a.2.2.1) ++ (reqC).enc a.2.2.2.1) ++ (ansC).enc a.2.2.2.2.1) ++ (rowC numC).enc a.2.2.2.2.2.1) ++ (pairC numC (pairC numC numC)).enc a.2.2.2.2.2.2.1) x ∧ WUp F v6 v' w6 x)] (fun _ _ => True) (fun ls x => ls 11 = false → Below w6.heap.size w6 x) (fun k x y => if k = 11 then (∃ v', WUp F v6 v' x y) else Below x.heap.size x y) (by kernel_rfl) (by kernel_rfl) (of_decide_eq_true (by kernel_rfl)) (by kernel_rfl) (by kernel_rfl) trivial (fun _ => ⟨rfl, rfl, rfl, Nat.le_refl _, fun _ _ => rfl⟩) (fun ls ls' x e h1 h2 => h1 (by rw [e]; exact h2)) (fun _ _ _ _ _ => trivial) (fun i ls x _ h1 => by rw [show ([] : List Bool).getD i true = true from rfl] at h1; cases h1) ?_ ⟨rfl, rfl, rfl, rfl, rfl, rfl, rfl, rfl, rfl, rfl, rfl, rfl, trivial⟩ ⟨?_, ?_, ?_, ?_, ?_, ?_, ?_, ?_, ?_, ?_, ?_, ?_, trivial⟩ ?_
  · intro i k u x y hik _ h1 hK
    match i, h1, hik with
    | 0, h1, _ => exact h1
    | 1, h1, _ => exact h1
    | 2, h1, _ => exact h1
    | 3, h1, _ => exact h1
    | 4, h1, _ => exact h1
    | 5, h1, _ => exact h1
    | 6, h1, _ => exact h1
    | 7, h1, _ => exact h1
    | 8, h1, _ => exact h1
    | 9, h1, _ => exact h1
    | 10, h1, hik =>
      obtain ⟨b, h2, h4, h5⟩ := h1
      have hbs := (Array.getElem?_eq_some_iff.1 h5).1
      by_cases hk : k = 11
      · subst hk
        rw [if_pos rfl] at hK
        have h9 : y.heap[b]? = x.heap[b]? := by obtain ⟨v', hK⟩ := hK; exact hK.block b hbs (by have := HP6.out.lt; omega) (fun e => by have := (HP6.out.own.lt _ e).2; omega)
        exact ⟨b, h2, h4, h9.trans h5⟩
      · rw [if_neg hk] at hK
        exact ⟨b, h2, h4, (hK.block b hbs).trans h5⟩
    | 11, h1, hik =>
      rw [if_neg (fun e => hik e.symm)] at hK
      obtain ⟨h2, v', h3, h4⟩ := h1
      exact ⟨h2, v', h3.below hK, h4.trans (WUp.of_below hK)⟩
    | _ + 12, _, _ => trivial
  · intro _ b x ls hR hS hself hup hdn hk
    have h0 : b.eval (.tmp 0) = .pointer (some ⟨F, 0, none⟩) := Eq.mp (by kernel_rfl) (hk 0 (by decide))
    have lA : ls 11 = false := hdn [] 11 _ rfl (by kernel_rfl)
    have hb := hS lA
    exact Rg.does_move ⟨by rw [if_neg (by decide)]; exact Below.refl _ _, h0, fun hh => hS hh⟩
  · intro _ b x ls hR hS hself hup hdn hk
    have h1 : b.eval (.tmp 1) = .pointer (some ⟨g, off, none⟩) := Eq.mp (by kernel_rfl) (hk 1 (by decide))
    have lA : ls 11 = false := hdn [10, 3, 2] 11 _ rfl (by kernel_rfl)
    have hb := hS lA
    exact Rg.does_move ⟨by rw [if_neg (by decide)]; exact Below.refl _ _, h1, fun hh => hS hh⟩
  · intro _ b x ls hR hS hself hup hdn hk
    have h35 : b.eval (.tmp 35) = .pointer (some ⟨g, off, none⟩) := Eq.mp (by kernel_rfl) (hk 35 (by decide))
    have lA : ls 11 = false := hdn [10, 3] 11 _ rfl (by kernel_rfl)
    have hb := hS lA
    exact Ap.does_nil _ h35 ⟨by rw [if_neg (by decide)]; exact Below.refl _ _, rfl, fun hh => hS hh⟩
  · intro _ b x ls hR hS hself hup hdn hk
    have h36 : b.eval (.tmp 36) = .pointer (some ⟨g, off, none⟩) := Eq.mp (by kernel_rfl) (hk 36 (by decide))
    have lA : ls 11 = false := hdn [10] 11 _ rfl (by kernel_rfl)
    have hb := hS lA
    exact Rs.does_field _ _ h36 (fld_st6 g off x) ⟨by rw [if_neg (by decide)]; exact Below.refl _ _, rfl, fun hh => hS hh⟩
  · intro _ b x ls hR hS hself hup hdn hk
    have h1 : b.eval (.tmp 1) = .pointer (some ⟨g, off, none⟩) := Eq.mp (by kernel_rfl) (hk 1 (by decide))
    have lA : ls 11 = false := hdn [10, 6, 5] 11 _ rfl (by kernel_rfl)
    have hb := hS lA
    exact Rg.does_move ⟨by rw [if_neg (by decide)]; exact Below.refl _ _, h1, fun hh => hS hh⟩
  · intro _ b x ls hR hS hself hup hdn hk
    have h38 : b.eval (.tmp 38) = .pointer (some ⟨g, off, none⟩) := Eq.mp (by kernel_rfl) (hk 38 (by decide))
    have lA : ls 11 = false := hdn [10, 6] 11 _ rfl (by kernel_rfl)
    have hb := hS lA
    exact Ap.does_nil _ h38 ⟨by rw [if_neg (by decide)]; exact Below.refl _ _, rfl, fun hh => hS hh⟩
  · intro _ b x ls hR hS hself hup hdn hk
    have h39 : b.eval (.tmp 39) = .pointer (some ⟨g, off, none⟩) := Eq.mp (by kernel_rfl) (hk 39 (by decide))
    have lA : ls 11 = false := hdn [10] 11 _ rfl (by kernel_rfl)
    have hb := hS lA
    exact Rs.does_field _ _ h39 (fld_st7 g off x) ⟨by rw [if_neg (by decide)]; exact Below.refl _ _, rfl, fun hh => hS hh⟩
  · intro _ b x ls hR hS hself hup hdn hk
    have h1 : b.eval (.tmp 1) = .pointer (some ⟨g, off, none⟩) := Eq.mp (by kernel_rfl) (hk 1 (by decide))
    have lA : ls 11 = false := hdn [10, 9, 8] 11 _ rfl (by kernel_rfl)
    have hb := hS lA
    exact Rg.does_move ⟨by rw [if_neg (by decide)]; exact Below.refl _ _, h1, fun hh => hS hh⟩
  · intro _ b x ls hR hS hself hup hdn hk
    have h41 : b.eval (.tmp 41) = .pointer (some ⟨g, off, none⟩) := Eq.mp (by kernel_rfl) (hk 41 (by decide))
    have lA : ls 11 = false := hdn [10, 9] 11 _ rfl (by kernel_rfl)
    have hb := hS lA
    exact Ap.does_nil _ h41 ⟨by rw [if_neg (by decide)]; exact Below.refl _ _, rfl, fun hh => hS hh⟩
  · intro _ b x ls hR hS hself hup hdn hk
    have h42 : b.eval (.tmp 42) = .pointer (some ⟨g, off, none⟩) := Eq.mp (by kernel_rfl) (hk 42 (by decide))
    have lA : ls 11 = false := hdn [10] 11 _ rfl (by kernel_rfl)
    have hb := hS lA
    exact Rs.does_field _ _ h42 (fld_st8 g off x) ⟨by rw [if_neg (by decide)]; exact Below.refl _ _, rfl, fun hh => hS hh⟩
  · intro _ b x ls hR hS hself hup hdn hk
    have h37 : b.eval (.tmp 37) = .pointer (some ⟨g, off + 22, none⟩) := Eq.mp (by kernel_rfl) (hk 37 (by decide))
    have h40 : b.eval (.tmp 40) = .pointer (some ⟨g, off + 23, none⟩) := Eq.mp (by kernel_rfl) (hk 40 (by decide))
    have h43 : b.eval (.tmp 43) = .pointer (some ⟨g, off + 24, none⟩) := Eq.mp (by kernel_rfl) (hk 43 (by decide))
    have lA : ls 11 = false := hdn [] 11 _ rfl (by kernel_rfl)
    have hb := hS lA
    have hal := (Below.refl x.heap.size x).alloc (Nat.le_refl _) (.cells #[.pointer (some ⟨g, off + 22, none⟩), .pointer (some ⟨g, off + 23, none⟩), .pointer (some ⟨g, off + 24, none⟩)] 107)
    exact Rg.does_build #[(0, .pointer (some ⟨g, off + 22, none⟩)), (1, .pointer (some ⟨g, off + 23, none⟩)), (2, .pointer (some ⟨g, off + 24, none⟩))] _ (by simp [h37, h40, h43]) (by go_simp) ⟨by rw [if_neg (by decide)]; exact hal, ⟨x.heap.size, rfl, hb.size, heap_alloc_new x _⟩, fun hh => hb.trans (hal.mono hb.size)⟩
  · intro _ b x ls hR hS hself hup hdn hk
    have h34 : b.eval (.tmp 34) = .pointer (some ⟨F, 0, none⟩) := Eq.mp (by kernel_rfl) (hk 34 (by decide))
    have h44 : (fun u x => ∃ b, u = .slice (some ⟨b, 0, none⟩) 3 3 ∧ w6.heap.size ≤ b ∧ x.heap[b]? = some (.cells #[.pointer (some ⟨g, off + 22, none⟩), .pointer (some ⟨g, off + 23, none⟩), .pointer (some ⟨g, off + 24, none⟩)] 107)) (b.eval (.tmp 44)) x := Eq.mp (by kernel_rfl) (hk 44 (by decide))
    have hb := hS hself
    obtain ⟨b1, hq2, hq4, hq5⟩ := h44
    refine Rg.does_func #[.pointer (some ⟨F, 0, none⟩), .slice (some ⟨b1, 0, none⟩) 3 3] Try.func46 (by kernel_rfl) (by kernel_rfl) (by simp [h34, hq2]) (pk_numbers_calls x F v6 _ g (off + 22) [a.2.2.2.2.2.2.1.1, a.2.2.2.2.2.2.1.2.1, a.2.2.2.2.2.2.1.2.2] b1 (HP6.out.below hb) ⟨⟨_, hq5, fun j hj => by match j, hj with | 0, _ => rfl | 1, _ => rfl | 2, _ => rfl⟩⟩ (by have := HP6.out.lt; omega) R7.out.1 (fun j hj => by have h7 := (hb.cell (p := ⟨g, (off + 22) + j, none⟩) (by have := HP6.out.lt; have := R7.out.1; show g < _; omega)).trans (RN6.out j (by rw [List.length_map]; exact hj)); rw [List.getElem_map] at h7; exact h7) PN6.out (by rw [e16]; exact Nat.le_trans L7.out (by decide)) (by simp)) ?_
    rintro e w' ⟨rfl, v', hp, hu⟩
    rw [e16] at hp
    exact ⟨_, rfl, by rw [if_pos rfl]; exact ⟨v', hu⟩, ⟨rfl, v', hp, (WUp.of_below hb).trans hu⟩, fun hh => by simp [Rs.upd] at hh⟩
  · intro vals w7 ls _ hSD _ hL
    obtain ⟨g0, g1, g2, g3, g4, g5, g6, g7, g8, g9, g10, g11, _⟩ := hL
    obtain ⟨e8, v7, hp, hu⟩ := g11
    have HP7 := Lib.hid hp
    have HU7 := Lib.hid (HU6.out.trans hu)
    have q0 := g0; have q1 := g1
    simp only [Rg.putAll, List.take_succ_cons, List.take_zero, List.drop_succ_cons, List.drop_zero, List.setIfInBounds_toArray, List.set_cons_succ, List.set_cons_zero]
    clear g0 g1 g2 g3 g4 g5 g6 g7 g8 g9 g10 e8 hp hu q0 q1
    go_upto_region 7 with fail
    have e17 : [a.2.2.2.2.2.2.2.1.1, a.2.2.2.2.2.2.2.1.2.1, a.2.2.2.2.2.2.2.1.2.2].flatMap bitC.enc = (pairC bitC (pairC bitC bitC)).enc a.2.2.2.2.2.2.2.1 := by show _ = bitC.enc a.2.2.2.2.2.2.2.1.1 ++ (bitC.enc a.2.2.2.2.2.2.2.1.2.1 ++ (bitC.enc a.2.2.2.2.2.2.2.1.2.2)); simp
    have RN7 : Hid (CellsAt w7 g (off + 25) ([a.2.2.2.2.2.2.2.1.1, a.2.2.2.2.2.2.2.1.2.1, a.2.2.2.2.2.2.2.1.2.2].map bv1)) := (((bits_lies).below R8.out (up_low HP.out HU7.out))).1.2
    have FN7 : Hid (∀ j, j < 3 → w7.frozen? ⟨g, (off + 25) + j, none⟩ = false) := (((bits_lies).below R8.out (up_low HP.out HU7.out))).2
    refine Rt.wp_region_rkt 12 [] [Rg.Is (.pointer (some ⟨F, 0, none⟩)), Rg.Is (.pointer (some ⟨g, off, none⟩)), Rg.Is (.pointer (some ⟨g, off, none⟩)), Rg.Is (.pointer (some ⟨g, off + 25, none⟩)), Rg.Is (.pointer (some ⟨g, off, none⟩)), Rg.Is (.pointer (some ⟨g, off, none⟩)), Rg.Is (.pointer (some ⟨g, off + 26, none⟩)), Rg.Is (.pointer (some ⟨g, off, none⟩)), Rg.Is (.pointer (some ⟨g, off, none⟩)), Rg.Is (.pointer (some ⟨g, off + 27, none⟩)), (fun u x => ∃ b, u = .slice (some ⟨b, 0, none⟩) 3 3 ∧ w7.heap.size ≤ b ∧ x.heap[b]? = some (.cells #[.pointer (some ⟨g, off + 25, none⟩), .pointer (some ⟨g, off + 26, none⟩), .pointer (some ⟨g, off + 27, none⟩)] 109)), (fun u x => u = .tuple #[] ∧ ∃ v', PkI F v' ((((((((o ++ (keepC).enc a.1) ++ (rowC txtC).enc a.2.1) ++ (rowC frameC).enc a.2.2.1) ++ (reqC).enc a.2.2.2.1) ++ (ansC).enc a.2.2.2.2.1) ++ (rowC numC).enc a.2.2.2.2.2.1) ++ (pairC numC (pairC numC numC)).enc a.2.2.2.2.2.2.1) ++ (pairC bitC (pairC bitC bitC)).enc a.2.2.2.2.2.2.2.1) x ∧ WUp F v7 v' w7 x)] (fun _ _ => True) (fun ls x => ls 11 = false → Below w7.heap.size w7 x) (fun k x y => if k = 11 then (∃ v', WUp F v7 v' x y) else Below x.heap.size x y) (by kernel_rfl) (by kernel_rfl) (of_decide_eq_true (by kernel_rfl)) (by kernel_rfl) (by kernel_rfl) trivial (fun _ => ⟨rfl, rfl, rfl, Nat.le_refl _, fun _ _ => rfl⟩) (fun ls ls' x e h1 h2 => h1 (by rw [e]; exact h2)) (fun _ _ _ _ _ => trivial) (fun i ls x _ h1 => by rw [show ([] : List Bool).getD i true = true from rfl] at h1; cases h1) ?_ ⟨rfl, rfl, rfl, rfl, rfl, rfl, rfl, rfl, rfl, rfl, rfl, rfl, trivial⟩ ⟨?_, ?_, ?_, ?_, ?_, ?_, ?_, ?_, ?_, ?_, ?_, ?_, trivial⟩ ?_
    · intro i k u x y hik _ h1 hK
      match i, h1, hik with
      | 0, h1, _ => exact h1
      | 1, h1, _ => exact h1
      | 2, h1, _ => exact h1
      | 3, h1, _ => exact h1
      | 4, h1, _ => exact h1
      | 5, h1, _ => exact h1
      | 6, h1, _ => exact h1
      | 7, h1, _ => exact h1
      | 8, h1, _ => exact h1
      | 9, h1, _ => exact h1
      | 10, h1, hik =>
        obtain ⟨b, h2, h4, h5⟩ := h1
        have hbs := (Array.getElem?_eq_some_iff.1 h5).1
        by_cases hk : k = 11
        · subst hk
          rw [if_pos rfl] at hK
          have h9 : y.heap[b]? = x.heap[b]? := by obtain ⟨v', hK⟩ := hK; exact hK.block b hbs (by have := HP7.out.lt; omega) (fun e => by have := (HP7.out.own.lt _ e).2; omega)
          exact ⟨b, h2, h4, h9.trans h5⟩
        · rw [if_neg hk] at hK
          exact ⟨b, h2, h4, (hK.block b hbs).trans h5⟩
      | 11, h1, hik =>
        rw [if_neg (fun e => hik e.symm)] at hK
        obtain ⟨h2, v', h3, h4⟩ := h1
        exact ⟨h2, v', h3.below hK, h4.trans (WUp.of_below hK)⟩
      | _ + 12, _, _ => trivial
    · intro _ b x ls hR hS hself hup hdn hk
      have h0 : b.eval (.tmp 0) = .pointer (some ⟨F, 0, none⟩) := Eq.mp (by kernel_rfl) (hk 0 (by decide))
      have lA : ls 11 = false := hdn [] 11 _ rfl (by kernel_rfl)
      have hb := hS lA
      exact Rg.does_move ⟨by rw [if_neg (by decide)]; exact Below.refl _ _, h0, fun hh => hS hh⟩
    · intro _ b x ls hR hS hself hup hdn hk
      have h1 : b.eval (.tmp 1) = .pointer (some ⟨g, off, none⟩) := Eq.mp (by kernel_rfl) (hk 1 (by decide))
      have lA : ls 11 = false := hdn [10, 3, 2] 11 _ rfl (by kernel_rfl)
      have hb := hS lA
      exact Rg.does_move ⟨by rw [if_neg (by decide)]; exact Below.refl _ _, h1, fun hh => hS hh⟩
    · intro _ b x ls hR hS hself hup hdn hk
      have h47 : b.eval (.tmp 47) = .pointer (some ⟨g, off, none⟩) := Eq.mp (by kernel_rfl) (hk 47 (by decide))
      have lA : ls 11 = false := hdn [10, 3] 11 _ rfl (by kernel_rfl)
      have hb := hS lA
      exact Ap.does_nil _ h47 ⟨by rw [if_neg (by decide)]; exact Below.refl _ _, rfl, fun hh => hS hh⟩
    · intro _ b x ls hR hS hself hup hdn hk
      have h48 : b.eval (.tmp 48) = .pointer (some ⟨g, off, none⟩) := Eq.mp (by kernel_rfl) (hk 48 (by decide))
      have lA : ls 11 = false := hdn [10] 11 _ rfl (by kernel_rfl)
      have hb := hS lA
      exact Rs.does_field _ _ h48 (fld_st9 g off x) ⟨by rw [if_neg (by decide)]; exact Below.refl _ _, rfl, fun hh => hS hh⟩
    · intro _ b x ls hR hS hself hup hdn hk
      have h1 : b.eval (.tmp 1) = .pointer (some ⟨g, off, none⟩) := Eq.mp (by kernel_rfl) (hk 1 (by decide))
      have lA : ls 11 = false := hdn [10, 6, 5] 11 _ rfl (by kernel_rfl)
      have hb := hS lA
      exact Rg.does_move ⟨by rw [if_neg (by decide)]; exact Below.refl _ _, h1, fun hh => hS hh⟩
    · intro _ b x ls hR hS hself hup hdn hk
      have h50 : b.eval (.tmp 50) = .pointer (some ⟨g, off, none⟩) := Eq.mp (by kernel_rfl) (hk 50 (by decide))
      have lA : ls 11 = false := hdn [10, 6] 11 _ rfl (by kernel_rfl)
      have hb := hS lA
      exact Ap.does_nil _ h50 ⟨by rw [if_neg (by decide)]; exact Below.refl _ _, rfl, fun hh => hS hh⟩
    · intro _ b x ls hR hS hself hup hdn hk
      have h51 : b.eval (.tmp 51) = .pointer (some ⟨g, off, none⟩) := Eq.mp (by kernel_rfl) (hk 51 (by decide))
      have lA : ls 11 = false := hdn [10] 11 _ rfl (by kernel_rfl)
      have hb := hS lA
      exact Rs.does_field _ _ h51 (fld_st10 g off x) ⟨by rw [if_neg (by decide)]; exact Below.refl _ _, rfl, fun hh => hS hh⟩
    · intro _ b x ls hR hS hself hup hdn hk
      have h1 : b.eval (.tmp 1) = .pointer (some ⟨g, off, none⟩) := Eq.mp (by kernel_rfl) (hk 1 (by decide))
      have lA : ls 11 = false := hdn [10, 9, 8] 11 _ rfl (by kernel_rfl)
      have hb := hS lA
      exact Rg.does_move ⟨by rw [if_neg (by decide)]; exact Below.refl _ _, h1, fun hh => hS hh⟩
    · intro _ b x ls hR hS hself hup hdn hk
      have h53 : b.eval (.tmp 53) = .pointer (some ⟨g, off, none⟩) := Eq.mp (by kernel_rfl) (hk 53 (by decide))
      have lA : ls 11 = false := hdn [10, 9] 11 _ rfl (by kernel_rfl)
      have hb := hS lA
      exact Ap.does_nil _ h53 ⟨by rw [if_neg (by decide)]; exact Below.refl _ _, rfl, fun hh => hS hh⟩
    · intro _ b x ls hR hS hself hup hdn hk
      have h54 : b.eval (.tmp 54) = .pointer (some ⟨g, off, none⟩) := Eq.mp (by kernel_rfl) (hk 54 (by decide))
      have lA : ls 11 = false := hdn [10] 11 _ rfl (by kernel_rfl)
      have hb := hS lA
      exact Rs.does_field _ _ h54 (fld_st11 g off x) ⟨by rw [if_neg (by decide)]; exact Below.refl _ _, rfl, fun hh => hS hh⟩
    · intro _ b x ls hR hS hself hup hdn hk
      have h49 : b.eval (.tmp 49) = .pointer (some ⟨g, off + 25, none⟩) := Eq.mp (by kernel_rfl) (hk 49 (by decide))
      have h52 : b.eval (.tmp 52) = .pointer (some ⟨g, off + 26, none⟩) := Eq.mp (by kernel_rfl) (hk 52 (by decide))
      have h55 : b.eval (.tmp 55) = .pointer (some ⟨g, off + 27, none⟩) := Eq.mp (by kernel_rfl) (hk 55 (by decide))
      have lA : ls 11 = false := hdn [] 11 _ rfl (by kernel_rfl)
      have hb := hS lA
      have hal := (Below.refl x.heap.size x).alloc (Nat.le_refl _) (.cells #[.pointer (some ⟨g, off + 25, none⟩), .pointer (some ⟨g, off + 26, none⟩), .pointer (some ⟨g, off + 27, none⟩)] 109)
      exact Rg.does_build #[(0, .pointer (some ⟨g, off + 25, none⟩)), (1, .pointer (some ⟨g, off + 26, none⟩)), (2, .pointer (some ⟨g, off + 27, none⟩))] _ (by simp [h49, h52, h55]) (by go_simp) ⟨by rw [if_neg (by decide)]; exact hal, ⟨x.heap.size, rfl, hb.size, heap_alloc_new x _⟩, fun hh => hb.trans (hal.mono hb.size)⟩
    · intro _ b x ls hR hS hself hup hdn hk
      have h46 : b.eval (.tmp 46) = .pointer (some ⟨F, 0, none⟩) := Eq.mp (by kernel_rfl) (hk 46 (by decide))
      have h56 : (fun u x => ∃ b, u = .slice (some ⟨b, 0, none⟩) 3 3 ∧ w7.heap.size ≤ b ∧ x.heap[b]? = some (.cells #[.pointer (some ⟨g, off + 25, none⟩), .pointer (some ⟨g, off + 26, none⟩), .pointer (some ⟨g, off + 27, none⟩)] 109)) (b.eval (.tmp 56)) x := Eq.mp (by kernel_rfl) (hk 56 (by decide))
      have hb := hS hself
      obtain ⟨b1, hq2, hq4, hq5⟩ := h56
      refine Rg.does_func #[.pointer (some ⟨F, 0, none⟩), .slice (some ⟨b1, 0, none⟩) 3 3] Try.func47 (by kernel_rfl) (by kernel_rfl) (by simp [h46, hq2]) (pk_truths_calls x F v7 _ g (off + 25) [a.2.2.2.2.2.2.2.1.1, a.2.2.2.2.2.2.2.1.2.1, a.2.2.2.2.2.2.2.1.2.2] b1 (HP7.out.below hb) ⟨⟨_, hq5, fun j hj => by match j, hj with | 0, _ => rfl | 1, _ => rfl | 2, _ => rfl⟩⟩ (by have := HP7.out.lt; omega) R8.out.1.1 (fun j hj => by have h7 := (hb.cell (p := ⟨g, (off + 25) + j, none⟩) (by have := HP7.out.lt; have := R8.out.1.1; show g < _; omega)).trans (RN7.out j (by rw [List.length_map]; exact hj)); rw [List.getElem_map] at h7; exact h7) (fun j hj => (hb.frozen (p := ⟨g, (off + 25) + j, none⟩) (by have := HP7.out.lt; have := R8.out.1.1; show g < _; omega)).trans (FN7.out j hj)) (by rw [e17]; exact Nat.le_trans L8.out (by decide)) (by simp)) ?_
      rintro e w' ⟨rfl, v', hp, hu⟩
      rw [e17] at hp
      exact ⟨_, rfl, by rw [if_pos rfl]; exact ⟨v', hu⟩, ⟨rfl, v', hp, (WUp.of_below hb).trans hu⟩, fun hh => by simp [Rs.upd] at hh⟩
    · intro vals w8 ls _ hSD _ hL
      obtain ⟨g0, g1, g2, g3, g4, g5, g6, g7, g8, g9, g10, g11, _⟩ := hL
      obtain ⟨e8, v8, hp, hu⟩ := g11
      have HP8 := Lib.hid hp
      have HU8 := Lib.hid (HU7.out.trans hu)
      have q0 := g0; have q1 := g1
      simp only [Rg.putAll, List.take_succ_cons, List.take_zero, List.drop_succ_cons, List.drop_zero, List.setIfInBounds_toArray, List.set_cons_succ, List.set_cons_zero]
      clear g0 g1 g2 g3 g4 g5 g6 g7 g8 g9 g10 e8 hp hu q0 q1
      go_wp2_with fail
      refine (numE_pk.r w8 F v8 _ g (off + 28) a.2.2.2.2.2.2.2.2 HP8.out P9.out ((flat_lies _).below R9.out (up_low HP.out HU8.out)) L9.out).mono ?_
      rintro e w9 ⟨rfl, v9, hp, hu⟩
      have HP9 := Lib.hid hp
      have HU9 := Lib.hid (HU8.out.trans hu)
      clear hp hu
      go_wp2_with fail
      refine bodyPost_end (v := .tuple #[]) (results_none rfl _ _ _) rfl ?_
      refine ⟨rfl, v9, ?_, HU9.out⟩
      have := HP9.out
      rwa [List.append_assoc, List.append_assoc, List.append_assoc, List.append_assoc, List.append_assoc, List.append_assoc, List.append_assoc, List.append_assoc] at this
end Go.Proofs.Ytmhofdoifgfjfaa
