/-
  State: a request put. Conditions: as each contract says.
-/
import Derived.Test.YtmhofdoifgfjfaaStKeepP
set_option linter.unusedVariables false
set_option maxRecDepth 100000
namespace Go.Proofs.Ytmhofdoifgfjfaa
open Go.RowKit Base

def ReqR (n : Nat) (W : World) (g off : Nat) (a : ReqD) : Prop :=
  FlatR numV n W g off a.1 ∧ FlatR numV n W g (off + 1) a.2.1 ∧ FlatR numV n W g (off + 2) a.2.2.1 ∧ FlatR txtV n W g (off + 3) a.2.2.2.1 ∧ RowR 1 (FlatR txtV) n W g (off + 4) a.2.2.2.2
theorem req_lies : Lies ReqR := by
  refine ⟨fun h => h.1.1, fun h hb => ?_⟩
  obtain ⟨h1, h2, h3, h4, h5⟩ := h
  exact ⟨(flat_lies _).below h1 hb, (flat_lies _).below h2 hb, (flat_lies _).below h3 hb, (flat_lies _).below h4 hb, (row_lies (flat_lies _)).below h5 hb⟩
set_option maxHeartbeats 1000000 in
theorem request_pk : PkR 42 reqC ReqR ReqP := by
  intro W F v o g off a h ha hr hl
  obtain ⟨r1, r2, r3, r4, r5⟩ := hr
  obtain ⟨p1, p2, p3, p4, p5⟩ := ha
  have l0 : (o ++ ((numC).enc a.1 ++ ((numC).enc a.2.1 ++ ((numC).enc a.2.2.1 ++ ((txtC).enc a.2.2.2.1 ++ ((rowC txtC).enc a.2.2.2.2)))))).length ≤ 100000000 := hl
  obtain ⟨l1, k1⟩ := cat_le (b := (numC).enc a.2.1 ++ ((numC).enc a.2.2.1 ++ ((txtC).enc a.2.2.2.1 ++ ((rowC txtC).enc a.2.2.2.2)))) l0
  obtain ⟨l2, k2⟩ := cat_le (b := (numC).enc a.2.2.1 ++ ((txtC).enc a.2.2.2.1 ++ ((rowC txtC).enc a.2.2.2.2))) k1
  obtain ⟨l3, k3⟩ := cat_le (b := (txtC).enc a.2.2.2.1 ++ ((rowC txtC).enc a.2.2.2.2)) k2
  obtain ⟨l4, k4⟩ := cat_le (b := (rowC txtC).enc a.2.2.2.2) k3
  have l5 := k4
  have HP := Lib.hid h
  have R1 := Lib.hid r1
  have P1 := Lib.hid p1
  have L1 := Lib.hid l1
  have R2 := Lib.hid r2
  have P2 := Lib.hid p2
  have L2 := Lib.hid l2
  have R3 := Lib.hid r3
  have P3 := Lib.hid p3
  have L3 := Lib.hid l3
  have R4 := Lib.hid r4
  have P4 := Lib.hid p4
  have L4 := Lib.hid l4
  have R5 := Lib.hid r5
  have P5 := Lib.hid p5
  have L5 := Lib.hid l5
  clear h hl r1 p1 l1 r2 p2 l2 r3 p3 l3 r4 p4 l4 r5 p5 l5 l0 k1 k2 k3 k4
  go_enter Try.func42, Try.ntmps42
  go_wp2_with fail
  refine (num_pk.r W F v o g off a.1 HP.out P1.out R1.out L1.out).mono ?_
  rintro e w1 ⟨rfl, v1, hp, hu⟩
  have HP1 := Lib.hid hp
  have HU1 := Lib.hid hu
  clear hp hu
  go_wp2_with fail
  refine (num64_pk.r w1 F v1 _ g (off + 1) a.2.1 HP1.out P2.out ((flat_lies _).below R2.out (up_low HP.out HU1.out)) L2.out).mono ?_
  rintro e w2 ⟨rfl, v2, hp, hu⟩
  have HP2 := Lib.hid hp
  have HU2 := Lib.hid (HU1.out.trans hu)
  clear hp hu
  go_wp2_with fail
  refine (num64_pk.r w2 F v2 _ g (off + 2) a.2.2.1 HP2.out P3.out ((flat_lies _).below R3.out (up_low HP.out HU2.out)) L3.out).mono ?_
  rintro e w3 ⟨rfl, v3, hp, hu⟩
  have HP3 := Lib.hid hp
  have HU3 := Lib.hid (HU2.out.trans hu)
  clear hp hu
  go_wp2_with fail
  refine (txt1_pk w3 F v3 _ g (off + 3) a.2.2.2.1 HP3.out ((flat_lies _).below R4.out (up_low HP.out HU3.out)).1 ((flat_lies _).below R4.out (up_low HP.out HU3.out)).2 L4.out).mono ?_
  rintro e w4 ⟨rfl, v4, hp, hu⟩
  have HP4 := Lib.hid hp
  have HU4 := Lib.hid (HU3.out.trans hu)
  clear hp hu
  go_wp2_with fail
  refine (row_string_pk w4 F v4 _ g (off + 4) a.2.2.2.2 HP4.out P5.out ((row_lies (flat_lies _)).below R5.out (up_low HP.out HU4.out)) L5.out).mono ?_
  rintro e w5 ⟨rfl, v5, hp, hu⟩
  have HP5 := Lib.hid hp
  have HU5 := Lib.hid (HU4.out.trans hu)
  clear hp hu
  go_wp2_with fail
  refine bodyPost_end (v := .tuple #[]) (results_none rfl _ _ _) rfl ?_
  refine ⟨rfl, v5, ?_, HU5.out⟩
  have := HP5.out
  rwa [List.append_assoc, List.append_assoc, List.append_assoc, List.append_assoc] at this
end Go.Proofs.Ytmhofdoifgfjfaa
