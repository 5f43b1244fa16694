/-
  State: an environment, and a keep, put. Conditions: as each contract says.
-/
import Derived.Test.YtmhofdoifgfjfaaStRowP
set_option linter.unusedVariables false
set_option maxRecDepth 100000
namespace Go.Proofs.Ytmhofdoifgfjfaa
open Go.RowKit Base

def EnvR (n : Nat) (W : World) (g off : Nat) (a : EnvD) : Prop :=
  RowR 2 (FlatR varV) n W g off a.1 ∧ RowR 1 (FlatR txtV) n W g (off + 1) a.2.1 ∧ FlatR numV n W g (off + 2) a.2.2.1 ∧ FlatR txtV n W g (off + 3) a.2.2.2
def KeepR (n : Nat) (W : World) (g off : Nat) (a : KeepD) : Prop :=
  EnvR n W g off a.1 ∧ RowR 3 (FlatR fnV) n W g (off + 4) a.2.1 ∧ RowR 2 (FlatR trapV) n W g (off + 5) a.2.2.1 ∧ RowR 2 (FlatR prV) n W g (off + 6) a.2.2.2 ∧ W.frozen? ⟨g, off + 6, none⟩ = false
theorem env_lies : Lies EnvR := by
  refine ⟨fun h => h.1.1, fun h hb => ?_⟩
  obtain ⟨h1, h2, h3, h4⟩ := h
  exact ⟨(row_lies (flat_lies _)).below h1 hb, (row_lies (flat_lies _)).below h2 hb, (flat_lies _).below h3 hb, (flat_lies _).below h4 hb⟩
theorem keep_lies : Lies KeepR := by
  refine ⟨fun h => h.1.1.1, fun h hb => ?_⟩
  obtain ⟨h1, h2, h3, h4, h5⟩ := h
  exact ⟨env_lies.below h1 hb, (row_lies (flat_lies _)).below h2 hb, (row_lies (flat_lies _)).below h3 hb, (row_lies (flat_lies _)).below h4 hb, (hb.frozen (p := ⟨_, _, none⟩) h1.1.1).trans h5⟩
theorem up_low {F : Nat} {v v' : Value} {o : Nm} {W W' : World} (hp : PkI F v o W) (hu : WUp F v v' W W') : Below F W W' := hu.low hp.hi (Nat.le_refl F) (Nat.le_of_lt hp.lt)
theorem cat_le {o a b : Nm} {m : Nat} (h : (o ++ (a ++ b)).length ≤ m) : (o ++ a).length ≤ m ∧ ((o ++ a) ++ b).length ≤ m := by
  rw [← List.append_assoc] at h
  refine ⟨?_, h⟩
  rw [List.length_append] at h
  omega
set_option maxHeartbeats 1000000 in
theorem around_pk : PkR 53 envC EnvR EnvP := by
  intro W F v o g off a h ha hr hl
  obtain ⟨r1, r2, r3, r4⟩ := hr
  obtain ⟨l1, l2⟩ := cat_le (b := (rowC txtC).enc a.2.1 ++ (numC.enc a.2.2.1 ++ txtC.enc a.2.2.2)) hl
  obtain ⟨l2, l3⟩ := cat_le l2
  obtain ⟨l3, l4⟩ := cat_le l3
  have HP := Lib.hid h
  have HA := Lib.hid ha
  have R1 := Lib.hid r1
  have R2 := Lib.hid r2
  have R3 := Lib.hid r3
  have R4 := Lib.hid r4
  have L1 := Lib.hid l1
  have L2 := Lib.hid l2
  have L3 := Lib.hid l3
  have L4 := Lib.hid l4
  clear h ha r1 r2 r3 r4 hl l1 l2 l3 l4
  go_enter Try.func53, Try.ntmps53
  go_wp2_with fail
  refine (row_var_pk W F v o g off a.1 HP.out HA.out.1 R1.out L1.out).mono ?_
  rintro e w1 ⟨rfl, v1, hp, hu⟩
  have HP1 := Lib.hid hp
  have HU1 := Lib.hid hu
  clear hp hu
  go_wp2_with fail
  refine (row_string_pk w1 F v1 _ g (off + 1) a.2.1 HP1.out HA.out.2.1 ((row_lies (flat_lies _)).below R2.out (up_low HP.out HU1.out)) L2.out).mono ?_
  rintro e w2 ⟨rfl, v2, hp, hu⟩
  have HP2 := Lib.hid hp
  have HU2 := Lib.hid (HU1.out.trans hu)
  clear hp hu
  go_wp2_with fail
  refine (num_pk.r w2 F v2 _ g (off + 2) a.2.2.1 HP2.out HA.out.2.2.1 ((flat_lies _).below R3.out (up_low HP.out HU2.out)) L3.out).mono ?_
  rintro e w3 ⟨rfl, v3, hp, hu⟩
  have HP3 := Lib.hid hp
  have HU3 := Lib.hid (HU2.out.trans hu)
  clear hp hu
  go_wp2_with fail
  refine (txt1_pk w3 F v3 _ g (off + 3) a.2.2.2 HP3.out R4.out.1 ((flat_lies _).below R4.out (up_low HP.out HU3.out)).2 L4.out).mono ?_
  rintro e w4 ⟨rfl, v4, hp, hu⟩
  have HP4 := Lib.hid hp
  have HU4 := Lib.hid (HU3.out.trans hu)
  clear hp hu
  go_wp2_with fail
  refine bodyPost_end (v := .tuple #[]) (results_none rfl _ _ _) rfl ?_
  refine ⟨rfl, v4, ?_, HU4.out⟩
  have := HP4.out
  rwa [List.append_assoc, List.append_assoc, List.append_assoc] at this
theorem load_fdt {w : World} {ad : Addr} {v : Value} (h : w.cell? ad = some v) : (Instr.loadAt 33 (.pointer (some ad))).run Try.prog w = .ok v w := Ap.load_plainP (by simp [isAgg]) h
set_option maxHeartbeats 1000000 in
theorem keep_pk : PkR 37 keepC KeepR KeepP := by
  intro W F v o g off a h ha hr hl
  obtain ⟨r1, r2, r3, r4, r5⟩ := hr
  obtain ⟨l1, l2⟩ := cat_le (b := (rowC fnC).enc a.2.1 ++ ((rowC trapC).enc a.2.2.1 ++ (rowC prC).enc a.2.2.2)) hl
  obtain ⟨l2, l3⟩ := cat_le l2
  obtain ⟨l3, l4⟩ := cat_le l3
  have HP := Lib.hid h
  have HA := Lib.hid ha
  have R1 := Lib.hid r1
  have R2 := Lib.hid r2
  have R3 := Lib.hid r3
  have R4 := Lib.hid r4
  have R5 := Lib.hid r5
  have L1 := Lib.hid l1
  have L2 := Lib.hid l2
  have L3 := Lib.hid l3
  have L4 := Lib.hid l4
  clear h ha r1 r2 r3 r4 r5 hl l1 l2 l3 l4
  go_enter Try.func37, Try.ntmps37
  go_wp2_with fail
  refine (around_pk W F v o g off a.1 HP.out HA.out.1 R1.out L1.out).mono ?_
  rintro e w1 ⟨rfl, v1, hp, hu⟩
  have HP1 := Lib.hid hp
  have HU1 := Lib.hid hu
  clear hp hu
  go_wp2_with fail
  refine (row_fn_pk w1 F v1 _ g (off + 4) a.2.1 HP1.out HA.out.2.1 ((row_lies (flat_lies _)).below R2.out (up_low HP.out HU1.out)) L2.out).mono ?_
  rintro e w2 ⟨rfl, v2, hp, hu⟩
  have HP2 := Lib.hid hp
  have HU2 := Lib.hid (HU1.out.trans hu)
  clear hp hu
  go_wp2_with fail
  refine (row_trap_pk w2 F v2 _ g (off + 5) a.2.2.1 HP2.out HA.out.2.2.1 ((row_lies (flat_lies _)).below R3.out (up_low HP.out HU2.out)) L3.out).mono ?_
  rintro e w3 ⟨rfl, v3, hp, hu⟩
  have HP3 := Lib.hid hp
  have HU3 := Lib.hid (HU2.out.trans hu)
  clear hp hu
  have hr4 := (row_lies (flat_lies _)).below R4.out (up_low HP.out HU3.out)
  obtain ⟨hg, u, hcu, p, cap, rfl, hel⟩ := hr4
  have HEl := Lib.hid hel
  have HCu := Lib.hid hcu
  have HG := Lib.hid hg
  clear hel hg
  go_upto_region 4 with fail
  clear hcu
  obtain ⟨nb, w4, hw4, hnbe, hk4, hbb⟩ : ∃ nb w4, w3.alloc (.cells #[.slice p a.2.2.2.length cap] 32) = w4 ∧ w3.heap.size = nb ∧ w4.heap[nb]? = some (.cells #[.slice p a.2.2.2.length cap] 32) ∧ Below w3.heap.size w3 w4 :=
    ⟨_, _, rfl, rfl, heap_alloc_new w3 _, (Below.refl w3.heap.size w3).alloc (Nat.le_refl _) _⟩
  have HBb := Lib.hid hbb
  have HK4 := Lib.hid hk4
  have HP4 := Lib.hid (HP3.out.below hbb)
  have HNl : Hid (nb < w4.heap.size) := (Array.getElem?_eq_some_iff.1 hk4).1
  have HNe : Hid (nb ≠ F) := by have := HP3.out.lt; show _ ≠ _; omega
  have HNo : Hid (v3.ownBlock ≠ some nb) := own_apart HP4.out.own hk4 (by decide)
  rw [hw4, hnbe]
  clear hbb hk4 hw4 hnbe
  go_wp2_with fail
  refine (row_pair_pk0 w4 F v3 _ nb 0 a.2.2.2 HP4.out HA.out.2.2.2 (fun v' W' hu => World.cell?_of_block (hu.block nb HNl.out HNe.out HNo.out)) ⟨_, (one_cell HK4.out).1, p, cap, rfl, HEl.out.imp id (by
    rintro ⟨b, o, e, h5⟩
    exact ⟨b, o, e, fun j hj => (flat_lies _).below (h5 j hj) (HBb.out.mono (Nat.le_of_lt HP3.out.lt))⟩)⟩ L4.out).mono ?_
  rintro e w5 ⟨rfl, v5, hp, hu⟩
  have HP5 := Lib.hid hp
  have HU5 := Lib.hid ((HU3.out.trans (WUp.of_below HBb.out)).trans hu)
  have HLo := Lib.hid (up_low HP3.out ((WUp.of_below HBb.out).trans hu))
  have hk5 := (hu.block nb HNl.out HNe.out HNo.out).trans HK4.out
  clear hp hu
  obtain ⟨y0, y1⟩ := one_cell hk5
  have x0 : w5.cell? ⟨g, off + 6, none⟩ = some (.slice p a.2.2.2.length cap) := (HLo.out.cell (p := ⟨g, off + 6, none⟩) HG.out).trans HCu.out
  have x1 : w5.frozen? ⟨g, off + 6, none⟩ = false := (HLo.out.frozen (p := ⟨g, off + 6, none⟩) HG.out).trans (((up_low HP.out HU3.out).frozen (p := ⟨g, off + 6, none⟩) HG.out).trans R5.out)
  have HX0 := Lib.hid x0
  go_wp2_with fail
  rw [set_same HX0.out]
  refine bodyPost_end (v := .tuple #[]) (results_none rfl _ _ _) rfl ?_
  refine ⟨rfl, v5, ?_, HU5.out⟩
  have := HP5.out
  rwa [List.append_assoc, List.append_assoc, List.append_assoc] at this
end Go.Proofs.Ytmhofdoifgfjfaa
