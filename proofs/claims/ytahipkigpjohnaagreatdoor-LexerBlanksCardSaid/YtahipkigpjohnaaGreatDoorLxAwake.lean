/-
  Lexer: the document's example. Conditions: as the contract says.
-/
import Derived.Test.YtahipkigpjohnaaGreatDoorLxAll
import Derived.Test.YtahipkigpjohnaaGreatDoorLxName
set_option linter.unusedVariables false
set_option linter.unusedSimpArgs false
set_option maxRecDepth 100000
namespace Go.Proofs.YtahipkigpjohnaaGreatDoor
open Go.RowKit Base Lx

abbrev aw1 : List Tok := [⟨1, [97], [], 1⟩, ⟨5, [50], [], 1⟩, ⟨2, [62], [], 1⟩, ⟨1, [98], [], 1⟩, ⟨4, [], [], 1⟩]
theorem aw_1 : allM [97, 32, 50, 62, 98] = .ok aw1 := by rfl
theorem aw_2 : allM [97, 10, 10, 32, 39, 98] = .error (20, 3) := by rfl
theorem aw_3 : bare [39, 97, 39, 34, 98, 34, 92, 99] = [97, 98, 99] := by rfl
theorem aw_4 : setsM [120, 61, 49, 61, 50] = ([120], [49, 61, 50], true) := by decide
set_option maxHeartbeats 4000000 in
theorem awake_calls (W : World) (hO : SigT W) : Calls Tryz.prog 9 #[] W fun e w' => e = .returned (.bool true) ∧ Below W.heap.size W w' := by
  have HO := Lib.hid hO
  clear hO
  go_enter Tryz.func9, Tryz.ntmps9
  go_wp2_with fail
  refine (all_calls W [97, 32, 50, 62, 98] (by decide) HO.out).mono ?_
  rintro r w1 ⟨hb1, hr⟩
  rw [aw_1] at hr
  obtain ⟨v, rfl, hown⟩ := hr
  have hl5 : aw1.length = 5 := rfl
  obtain ⟨a, c, hv, b1, off, hcs, hix⟩ := toks_at hown
  subst hv
  rw [hl5] at hix
  have HC := Lib.hid hcs
  have HIx := Lib.hid hix
  have HB1 := Lib.hid hb1
  have HO1 := Lib.hid (HO.out.below hb1 HO.out.lt)
  clear hb1 hown hcs hix
  rw [hl5]
  go_wp2_with fail
  refine (all_calls w1 [97, 10, 10, 32, 39, 98] (by decide) HO1.out).mono ?_
  rintro r w2 ⟨hb2, hr⟩
  rw [aw_2] at hr
  obtain rfl := hr
  have HB2 := Lib.hid hb2
  clear hb2
  go_wp2_with fail
  refine (bare_calls w2 [39, 97, 39, 34, 98, 34, 92, 99] (by decide)).mono ?_
  rintro r w3 ⟨rfl, hb3⟩
  rw [aw_3, show decide (([97, 98, 99] : Nm) ≠ [39, 97, 39, 34, 98, 34, 92, 99]) = true by decide]
  have HB3 := Lib.hid hb3
  clear hb3
  go_wp2_with fail
  refine (sets_calls w3 [120, 61, 49, 61, 50] (by decide)).mono ?_
  rintro r w4 ⟨rfl, hb4⟩
  rw [aw_4]
  have hbb : Below w1.heap.size w1 w4 := (HB2.out.trans (HB3.out.mono HB2.out.size)).trans (hb4.mono (Nat.le_trans HB2.out.size HB3.out.size))
  have HBB := Lib.hid (HB1.out.trans (hbb.mono HB1.out.size))
  have g : ∀ (k j : Nat) (hk : k < 5) (u : Value), (tkC aw1[k])[j]? = some u → w4.cell? ⟨b1, off + k * 4 + j, none⟩ = some u := fun k j hk u hu => cell_below hbb (Nat.le_refl _) (HC.out k hk j u hu)
  have g10 : w4.cell? ⟨b1, off + 4, none⟩ = some (.int .i64 5) := g 1 0 (by decide) _ rfl
  have g11 : w4.cell? ⟨b1, off + 4 + 1, none⟩ = some (.string (str [50])) := g 1 1 (by decide) _ rfl
  have g20 : w4.cell? ⟨b1, off + 8, none⟩ = some (.int .i64 2) := g 2 0 (by decide) _ rfl
  have g31 : w4.cell? ⟨b1, off + 12 + 1, none⟩ = some (.string (str [98])) := g 3 1 (by decide) _ rfl
  have g40 : w4.cell? ⟨b1, off + 16, none⟩ = some (.int .i64 4) := g 4 0 (by decide) _ rfl
  have i1 : ∀ w, (Instr.indexAt 28 (.slice a 5 c) (.int .i64 1)).run Tryz.prog w = .ok (.pointer (some ⟨b1, off + 4, none⟩)) w := fun w => HIx.out 1 w (by decide)
  have i2 : ∀ w, (Instr.indexAt 28 (.slice a 5 c) (.int .i64 2)).run Tryz.prog w = .ok (.pointer (some ⟨b1, off + 8, none⟩)) w := fun w => HIx.out 2 w (by decide)
  have i3 : ∀ w, (Instr.indexAt 28 (.slice a 5 c) (.int .i64 3)).run Tryz.prog w = .ok (.pointer (some ⟨b1, off + 12, none⟩)) w := fun w => HIx.out 3 w (by decide)
  have i4 : ∀ w, (Instr.indexAt 28 (.slice a 5 c) (.int .i64 4)).run Tryz.prog w = .ok (.pointer (some ⟨b1, off + 16, none⟩)) w := fun w => HIx.out 4 w (by decide)
  have t1 : ((str [50]).toList == [50]) = true := by rw [str_tl2]; rfl
  have t2 : ((str [98]).toList == [98]) = true := by rw [str_tl2]; rfl
  have t3 : ((str [97, 98, 99]).toList == [97, 98, 99]) = true := by rw [str_tl2]; rfl
  have t4 : ((str [120]).toList == [120]) = true := by rw [str_tl2]; rfl
  have t5 : ((str [49, 61, 50]).toList == [49, 61, 50]) = true := by rw [str_tl2]; rfl
  clear hb4 hbb g
  go_wp2_with fail
  refine (name_calls w4 [95, 97, 49] (by decide)).mono ?_
  rintro r w5 ⟨rfl, hw5⟩
  obtain rfl := hw5
  rw [show nameB [95, 97, 49] = true by decide]
  go_wp2_with fail
  refine (name_calls w4 [49, 97] (by decide)).mono ?_
  rintro r w6 ⟨rfl, hw6⟩
  obtain rfl := hw6
  rw [show nameB [49, 97] = false by decide]
  go_wp2_with fail
  go_ret
  exact ⟨rfl, HBB.out⟩
end Go.Proofs.YtahipkigpjohnaaGreatDoor
