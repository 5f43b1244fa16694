/-
  Tables: the document's example. Conditions: the library's table of powers reads as it is laid.
-/
import Derived.Test.YtghjmhhchhgppaaDoorFdRefs4
set_option linter.unusedVariables false
set_option maxRecDepth 100000
namespace Go.Proofs.YtghjmhhchhgppaaDoor
open Go.RowKit Base

theorem str_toList (l : List UInt8) : (str l).toList = l := by rw [ByteArray.toList_eq, str_data]
theorem aw_with : withB 1 7 firstB = [(0, 0), (1, 7), (2, 2)] := by rfl
theorem aw_without : withoutB [(0, 0), (1, 7), (2, 2)] 1 = [(0, 0), (2, 2)] := by rfl
theorem aw_show : showB [(0, 0), (1, 7), (2, 2)] = [48, 61, 48, 32, 49, 61, 55, 32, 50, 61, 50] := by
  have i : ∀ u : Nat, u < 10 → Lib.itoa (u : Int) = [dig u] := fun u h => by rw [itoa_nat, dec_small h]
  have i0 : Lib.itoa 0 = [48] := i 0 (by decide)
  have i1 : Lib.itoa 1 = [49] := i 1 (by decide)
  have i2 : Lib.itoa 2 = [50] := i 2 (by decide)
  have i7 : Lib.itoa 7 = [55] := i 7 (by decide)
  unfold showB pairT
  simp only [List.map_cons, List.map_nil, i0, i1, i2, i7]
  rfl
theorem aw_get : getB [(0, 0), (1, 7), (2, 2)] 1 = some 7 := by rfl
theorem aw_has : hasB [(0, 0), (1, 7), (2, 2)] 1 = true := by rfl
theorem aw_not : hasB [(0, 0), (2, 2)] 1 = false := by rfl
/-- What With and Without hand back reads as a table. -/
def TabIn (w : World) (l : List Pr) (e : Ending) (w' : World) : Prop := ∃ a c, e = .returned (.slice a l.length c) ∧ Prs w' a l.length c l ∧ Below w.heap.size w w'
theorem tabIn {w : World} {l : List Pr} {e : Ending} {w' : World} (h : TabPost w l e w') : TabIn w l e w' := by
  obtain ⟨v, rfl, ho, hb⟩ := h
  obtain ⟨a, c, rfl, hr⟩ := prs_of_own ho
  exact ⟨a, c, rfl, hr, hb⟩
theorem refIn {w : World} {l : List Pr} {e : Ending} {w' : World} (h : RefPost w l e w') : TabIn w l e w' := by
  obtain ⟨v, rfl, ho, hb⟩ := h
  obtain ⟨a, c, rfl, hr⟩ := refp_of_own ho
  exact ⟨a, c, rfl, hr, hb⟩
set_option maxHeartbeats 2000000 in
theorem awake_calls (w : World) (ht : Tb w) : Calls Tryd.prog 5 #[] w fun e w' => e = .returned (.bool true) ∧ Below w.heap.size w w' := by
  have HT := Lib.hid ht
  clear ht
  have HR3 : Hid (Rises [(0, 0), (1, 7), (2, 2)]) := by show Rises _; unfold Rises; simp
  have HR2 : Hid (Rises [(0, 0), (2, 2)]) := by show Rises _; unfold Rises; simp
  have HS3 : Hid (Smalls [(0, 0), (1, 7), (2, 2)]) := by show Smalls _; unfold Smalls I64n; simp
  go_enter Tryd.func5, Tryd.ntmps5
  go_wp2_with fail
  refine (fd_first_calls w).mono ?_
  rintro e w1 hp
  obtain ⟨a1, c1, rfl, hr1, hb1⟩ := tabIn hp
  have HB1 := Lib.hid hb1
  have HW := Lib.hid (fd_with_calls w1 a1 _ c1 firstB 1 7 hr1 rises_first (by decide))
  rw [aw_with] at HW
  clear hp hr1 hb1
  rw [show firstB.length = 3 from rfl] at HW ⊢
  go_wp2_with fail
  refine HW.out.mono ?_
  rintro e w2 hp
  obtain ⟨a2, c2, rfl, hr2, hb2⟩ := tabIn hp
  have HB2 := Lib.hid (HB1.out.trans (hb2.mono HB1.out.size))
  have HP2 := Lib.hid hr2
  have HG := Lib.hid (fd_get_calls w2 a2 _ c2 _ 1 hr2 HR3.out (by decide))
  rw [aw_get, aw_has, Option.getD_some] at HG
  clear hp hr2 hb2 HW
  rw [show ([(0, 0), (1, 7), (2, 2)] : List Pr).length = 3 from rfl] at HG HP2 ⊢
  go_wp2_with fail
  refine HG.out.mono ?_
  rintro e w3 ⟨rfl, hb3⟩
  have HB3 := Lib.hid (HB2.out.trans (hb3.mono HB2.out.size))
  have HP3 := Lib.hid (HP2.out.below (Ap.stable_cellsAt prC) hb3)
  have HWo := Lib.hid (fd_without_calls w3 a2 _ c2 _ 1 HP3.out HR3.out (by decide))
  rw [aw_without] at HWo
  clear hb3 HG HP2
  go_wp2_with fail
  refine HWo.out.mono ?_
  rintro e w4 hp
  obtain ⟨a4, c4, rfl, hr4, hb4⟩ := tabIn hp
  have HB4 := Lib.hid (HB3.out.trans (hb4.mono HB3.out.size))
  have HP4 := Lib.hid (HP3.out.below (Ap.stable_cellsAt prC) hb4)
  have HG := Lib.hid (fd_get_calls w4 a4 _ c4 _ 1 hr4 HR2.out (by decide))
  rw [aw_not] at HG
  clear hp hr4 hb4 HWo HP3
  rw [show ([(0, 0), (2, 2)] : List Pr).length = 2 from rfl] at HG ⊢
  generalize (getB [(0, 0), (2, 2)] 1).getD 0 = z at HG
  go_wp2_with fail
  refine HG.out.mono ?_
  rintro e w5 ⟨rfl, hb5⟩
  have HB5 := Lib.hid (HB4.out.trans (hb5.mono HB4.out.size))
  have HP5 := Lib.hid (HP4.out.below (Ap.stable_cellsAt prC) hb5)
  have HSh := Lib.hid (fd_show_calls w5 a2 _ c2 _ HP5.out HS3.out (HT.out.below HB5.out) (by decide))
  rw [aw_show] at HSh
  clear hb5 HG HP4
  have t6 : ((str [48, 61, 48, 32, 49, 61, 55, 32, 50, 61, 50]).toList == [48, 61, 48, 32, 49, 61, 55, 32, 50, 61, 50]) = true := by rw [str_toList]; rfl
  have t5 : (str [48, 61, 48, 32, 49, 61, 55, 32, 50, 61, 50]).toList = [48, 61, 48, 32, 49, 61, 55, 32, 50, 61, 50] := str_toList _
  go_wp2_with fail
  refine HSh.out.mono ?_
  rintro e w6 ⟨rfl, hb6⟩
  have HB6 := Lib.hid (HB5.out.trans (hb6.mono HB5.out.size))
  clear hb6 HSh
  go_wp2_with fail
  go_ret
  exact ⟨rfl, HB6.out⟩
end Go.Proofs.YtghjmhhchhgppaaDoor
