/-
  Split: the document's example.
-/
import Derived.Test.YtiemlgfcmldnoaaSpEq
import Derived.Test.YtiemlgfcmldnoaaSpRefs4
set_option linter.unusedVariables false
set_option maxRecDepth 100000
namespace Go.Proofs.Ytiemlgfcmldnoaa
open Go.RowKit Base

theorem pairs_lit (W : World) (l : List Pair) (e : TypeId) (hl : l.length ≤ maxLen) : SPairs (W.alloc (.cells (l.flatMap pairC).toArray e)) (some ⟨W.heap.size, 0, none⟩) l.length l.length l := by
  refine ⟨rfl, Nat.le_refl _, hl, W.heap.size, 0, .inr rfl, fun k hk j u hu => ?_⟩
  have hh := heap_alloc_new W (.cells (l.flatMap pairC).toArray e)
  have h2 := Ap.flat_at (k := 2) (fun p => rfl) l k _ (List.getElem?_eq_getElem hk) j u hu
  unfold World.cell?
  simp only [hh, Nat.zero_add]
  simpa using h2
theorem str_toList (l : List UInt8) : (str l).toList = l := by rw [ByteArray.toList_eq, str_data]
theorem awake_split : splitB [32, 58] ([97, 32, 98, 58, 58, 99].zip (List.replicate 6 115)) = [[(97, 115)], [(98, 115)], [], [(99, 115)]] := by rfl
theorem info_rowI : ∃ i, Try.prog.info? 23 = some i ∧ i.size = 2 := ⟨_, rfl, rfl⟩
set_option maxHeartbeats 2000000 in
theorem awake_calls (w : World) : Calls Try.prog 8 #[] w fun e w' => e = .returned (.bool true) ∧ Below w.heap.size w w' := by
  have HO1 := Lib.hid fun W => sp_of_calls W [97, 32, 98, 58, 58, 99] 115 (by decide)
  have HO2 := Lib.hid fun W => sp_of_calls W [120] 113 (by decide)
  have HO3 := Lib.hid fun W => sp_of_calls W [121] 101 (by decide)
  have HO4 := Lib.hid fun W => sp_of_calls W [122] 108 (by decide)
  have HSp := Lib.hid fun W => sp_split_calls W [97, 32, 98, 58, 58, 99] (List.replicate 6 115) [32, 58] (by decide) (by decide)
  rw [awake_split] at HSp
  unfold rowV at HO1 HO2 HO3 HO4
  rw [ofS_text, ofS_mask] at HO1 HO2 HO3 HO4
  have heq : ∀ W, Sem.run Try.prog (Op.equalIn 10000 23 (.agg #[.string (str [99]), .string (str [115])]) (.agg #[.string ⟨#[99]⟩, .string ⟨#[115]⟩])) W = .ok true W := fun W => by
    rw [show (⟨#[99]⟩ : ByteArray) = str [99] from rfl, show (⟨#[115]⟩ : ByteArray) = str [115] from rfl, eq_row]
    simp
  have t1 : (str [97]).toList = [97] := str_toList _
  have t2 : (str []).toList = [] := str_toList _
  have t3 : ((str [97]).toList == [97]) = true := by rw [str_toList]; rfl
  have t4 : (str []).toList.isEmpty = true := by rw [str_toList]; rfl
  go_enter Try.func8, Try.ntmps8
  go_wp2_with fail
  refine (HO1.out w).mono ?_
  rintro e w1 ⟨rfl, hb1⟩
  have HB1 := Lib.hid hb1
  clear hb1
  go_wp2_with fail
  refine (HSp.out w1).mono ?_
  rintro e w2 ⟨v, rfl, hown, hb2⟩
  have HB2 := Lib.hid (HB1.out.trans (hb2.mono HB1.out.size))
  obtain ⟨a, c, rfl, hrow⟩ := Ap.own_cells (f := rowCells) (by decide) rowCells_len hown
  obtain ⟨bb, off, hcells, hidx⟩ := hrow.at (P := Try.prog)
  obtain ⟨i0, hi, hi2⟩ := info_rowI
  have hix := fun k W h => hidx 25 23 i0 Try.underlying25 hi hi2 .i64 k W h
  have x0 : ∀ W, Sem.run Try.prog (Instr.indexAt 25 (.slice a 4 c) (.int .i64 0)) W = .ok (.pointer (some ⟨bb, off, none⟩)) W := fun W => hix 0 W (by decide)
  have x2 : ∀ W, Sem.run Try.prog (Instr.indexAt 25 (.slice a 4 c) (.int .i64 2)) W = .ok (.pointer (some ⟨bb, off + 4, none⟩)) W := fun W => hix 2 W (by decide)
  have x3 : ∀ W, Sem.run Try.prog (Instr.indexAt 25 (.slice a 4 c) (.int .i64 3)) W = .ok (.pointer (some ⟨bb, off + 6, none⟩)) W := fun W => hix 3 W (by decide)
  have c0 : w2.cell? ⟨bb, off, none⟩ = some (.string (str [97])) := hcells 0 (by decide) 0 _ rfl
  have c2 : w2.cell? ⟨bb, off + 4, none⟩ = some (.string (str [])) := hcells 2 (by decide) 0 _ rfl
  have c3 : w2.cell? ⟨bb, off + 6, none⟩ = some (.string (str [99])) := hcells 3 (by decide) 0 _ rfl
  have c4 : w2.cell? ⟨bb, off + 6 + 1, none⟩ = some (.string (str [115])) := hcells 3 (by decide) 1 _ rfl
  clear hcells hidx hix hown hb2 hrow
  go_wp2_with fail
  refine (HO2.out w2).mono ?_
  rintro e w3 ⟨rfl, hb3⟩
  have HB3 := Lib.hid (HB2.out.trans (hb3.mono HB2.out.size))
  clear hb3 c0 c2 c3 c4 x0 x2 x3
  go_wp2_with fail
  refine (HO3.out w3).mono ?_
  rintro e w4 ⟨rfl, hb4⟩
  have HB4 := Lib.hid (HB3.out.trans (hb4.mono HB3.out.size))
  clear hb4
  go_wp2_with fail
  refine (HO4.out w4).mono ?_
  rintro e w5 ⟨rfl, hb5⟩
  have HB5 := Lib.hid (HB4.out.trans (hb5.mono HB4.out.size))
  clear hb5
  go_wp2_with fail
  have hal := (Below.refl w5.heap.size w5).alloc (Nat.le_refl _) (.cells #[.string (str [120]), .string (str [113]), .string (str [121]), .string (str [101]), .string (str [122]), .string (str [108])] 23)
  refine (sp_join_calls _ (some ⟨w5.heap.size, 0, none⟩) 3 3 [([120], [113]), ([121], [101]), ([122], [108])] (pairs_lit w5 [([120], [113]), ([121], [101]), ([122], [108])] 23 (by decide)) (by decide) (by decide)).mono ?_
  rintro e w6 ⟨rfl, hb6⟩
  have HB6 := Lib.hid (HB5.out.trans ((hal.trans (hb6.mono hal.size)).mono HB5.out.size))
  clear hal hb6
  rw [show rowV (joinP [([120], [113]), ([121], [101]), ([122], [108])]) = .agg #[.string (str [120, 121, 122]), .string (str [113, 101, 108])] from rfl]
  go_wp2_with fail
  refine (sp_bare_calls w6 [120, 121, 122] [113, 101, 108] (by decide) (by decide)).mono ?_
  rintro e w7 ⟨rfl, hb7⟩
  have HB7 := Lib.hid (HB6.out.trans (hb7.mono HB6.out.size))
  clear hb7
  rw [show bareS ([120, 121, 122].zip [113, 101, 108]) = [120, 122] from rfl]
  have t5 : (str [120, 122]).toList = [120, 122] := str_toList _
  have t6 : ((str [120, 122]).toList == [120, 122]) = true := by rw [str_toList]; rfl
  go_wp2_with fail
  go_ret
  exact ⟨rfl, HB7.out⟩
end Go.Proofs.Ytiemlgfcmldnoaa
