/-
  Syntax: SyntaxQuoted answers true. Conditions: what must lie there lies there.
-/
import Derived.Test.YtknncfoaegmphaaGreatDoorGSyG
import Derived.Test.YtknncfoaegmphaaGreatDoorSyQuoted
import Derived.Test.YtknncfoaegmphaaGreatDoorStrWords
set_option linter.unusedVariables false
set_option linter.unusedSimpArgs false
set_option maxRecDepth 100000
namespace Go.Proofs.YtknncfoaegmphaaGreatDoor.Sx
open Go.RowKit Base Lx Sy

set_option maxHeartbeats 8000000 in
theorem quoted_calls (W : World) (which how : UInt8) (hO : Gl W) : Calls Tryz.prog 8 #[.int .u8 (which.toNat : Int), .int .u8 (how.toNat : Int)] W fun r W' => r = .returned (.bool true) ∧ Below W.heap.size W W' := by
  have HO := Lib.hid hO
  have hwl : which.toNat < 256 := which.toNat_lt
  have hhl : how.toNat < 256 := how.toNat_lt
  obtain ⟨k, hk⟩ : ∃ k, which.toNat = k := ⟨_, rfl⟩
  obtain ⟨m, hm⟩ : ∃ m, how.toNat = m := ⟨_, rfl⟩
  rw [hk] at hwl
  rw [hm] at hhl
  rw [hk, hm]
  clear hk hm hO
  go_enter Tryz.func8, Tryz.ntmps8
  go_wp2_with fail
  refine (awake_calls W HO.out).mono ?_
  rintro r w1 ⟨rfl, hb1⟩
  have HB1 := Lib.hid hb1
  have HO1 := Lib.hid (HO.out.below hb1)
  clear hb1
  go_upto_region 5 with fail
  obtain ⟨M, hM⟩ : ∃ M, w1.heap.size = M := ⟨_, rfl⟩
  have hk16 : k % 16 < 16 := Nat.mod_lt _ (by decide)
  have hm3 : m % 3 < 3 := Nat.mod_lt _ (by decide)
  obtain ⟨w, hw⟩ : ∃ w, qWords[k % 16]? = some w := ⟨_, List.getElem?_eq_getElem (by show k % 16 < 16; omega)⟩
  have hwm : w ∈ qWords := List.mem_of_getElem? hw
  have hwlen : w.length ≤ 6 := by rcases q_forms hwm with rfl | rfl | rfl | rfl | rfl | rfl | rfl | rfl | rfl | rfl | rfl | rfl | rfl | rfl | rfl | rfl <;> decide
  obtain ⟨raw, hraw⟩ : ∃ raw, (qRaws w)[m % 3]? = some raw := ⟨_, List.getElem?_eq_getElem (by show m % 3 < 3; omega)⟩
  have hrm : raw ∈ qRaws w := List.mem_of_getElem? hraw
  have hrlen : raw.length ≤ 8 := by
    have hr : raw = 39 :: w ++ [39] ∨ raw = 92 :: w ∨ raw = 34 :: w ++ [34] := by simpa only [qRaws, List.mem_cons, List.not_mem_nil, or_false] using hrm
    rcases hr with rfl | rfl | rfl <;> simp <;> omega
  obtain ⟨w2, hw2⟩ : ∃ w2, w1.alloc (.cells (qWords.map sv).toArray stT) = w2 := ⟨_, rfl⟩
  have hx2 : w2.heap[M]? = some (.cells (qWords.map sv).toArray stT) := by rw [← hw2, ← hM]; exact heap_alloc_new _ _
  have hb2 : Below w1.heap.size w1 w2 := by rw [← hw2]; exact (Below.refl _ _).alloc (Nat.le_refl _) _
  have g2 : w2.cell? ⟨M, k % 16, none⟩ = some (.string (str w)) := by
    unfold World.cell?
    rw [hx2]
    simp only [List.getElem?_toArray, List.getElem?_map, hw]
    rfl
  have hw2' : w1.alloc (.cells #[.string ⟨#[33]⟩, .string ⟨#[123]⟩, .string ⟨#[125]⟩, .string ⟨#[99, 97, 115, 101]⟩, .string ⟨#[100, 111]⟩, .string ⟨#[100, 111, 110, 101]⟩, .string ⟨#[101, 108, 105, 102]⟩, .string ⟨#[101, 108, 115, 101]⟩, .string ⟨#[101, 115, 97, 99]⟩, .string ⟨#[102, 105]⟩, .string ⟨#[102, 111, 114]⟩, .string ⟨#[105, 102]⟩, .string ⟨#[116, 104, 101, 110]⟩, .string ⟨#[117, 110, 116, 105, 108]⟩, .string ⟨#[119, 104, 105, 108, 101]⟩, .string ⟨#[105, 110]⟩] stT) = w2 := hw2
  rw [hw2', hM]
  have HO2 := Lib.hid (HO1.out.below hb2)
  have HB2 := Lib.hid (HB1.out.trans (hb2.mono HB1.out.size))
  obtain ⟨M3, hM3⟩ : ∃ M3, w2.heap.size = M3 := ⟨_, rfl⟩
  have e1 : (⟨#[39]⟩ : ByteArray) ++ str w = str (39 :: w) := str_append [39] w
  have e2 : str (39 :: w) ++ ⟨#[39]⟩ = str (39 :: (w ++ [39])) := str_append (39 :: w) [39]
  have e3 : (⟨#[92]⟩ : ByteArray) ++ str w = str (92 :: w) := str_append [92] w
  have e4 : (⟨#[34]⟩ : ByteArray) ++ str w = str (34 :: w) := str_append [34] w
  have e5 : str (34 :: w) ++ ⟨#[34]⟩ = str (34 :: (w ++ [34])) := str_append (34 :: w) [34]
  have z1 : 1 + (str w).size ≤ 9223372036854775807 := by rw [str_size]; omega
  have z2 : (str (39 :: w)).size + 1 ≤ 9223372036854775807 := by rw [str_size]; simp; omega
  have z5 : (str (34 :: w)).size + 1 ≤ 9223372036854775807 := by rw [str_size]; simp; omega
  obtain ⟨w3, hw3⟩ : ∃ w3, w2.alloc (.cells #[.string (str (39 :: (w ++ [39]))), .string (str (92 :: w)), .string (str (34 :: (w ++ [34])))] stT) = w3 := ⟨_, rfl⟩
  have hx3 : w3.heap[M3]? = some (.cells ((qRaws w).map sv).toArray stT) := by rw [← hw3, ← hM3]; exact heap_alloc_new _ _
  have hb3 : Below w2.heap.size w2 w3 := by rw [← hw3]; exact (Below.refl _ _).alloc (Nat.le_refl _) _
  have g3 : w3.cell? ⟨M3, m % 3, none⟩ = some (.string (str raw)) := by
    unfold World.cell?
    rw [hx3]
    simp only [List.getElem?_toArray, List.getElem?_map, hraw]
    rfl
  have HO3 := Lib.hid (HO2.out.below hb3)
  have HB3 := Lib.hid (HB2.out.trans (hb3.mono HB2.out.size))
  have e6 : str raw ++ ⟨#[32, 120]⟩ = str (raw ++ [32, 120]) := str_append raw [32, 120]
  have z6 : (str raw).size + 2 ≤ 9223372036854775807 := by rw [str_size]; omega
  have HWm := Lib.hid hwm
  have HRm := Lib.hid hrm
  have HWl := Lib.hid hwlen
  have HRl := Lib.hid hrlen
  clear hw2 hw2' hx2 hb2 hx3 hb3 hwm hrm hraw hw hM
  go_wp2_with fail
  refine (parse_calls w3 (raw ++ [32, 120]) (by have := HRl.out; simp; omega) HO3.out.sig HO3.out.glb).mono ?_
  rintro r w4 ⟨hbw, hr⟩
  rw [q_a HWm.out HRm.out] at hr
  obtain ⟨v1, rfl, hrow⟩ := hr
  obtain ⟨a1, c1, hv, b1, o1, hcs, hix⟩ := nodes_at hrow
  rw [show (qA raw).length = 2 from rfl] at hv hix
  subst hv
  obtain ⟨uw1, ur1, uk1, hnd⟩ := hcs 0 _ rfl
  go_upto_region 8 with fail
  obtain ⟨T1, hT1⟩ : ∃ T1, w4.heap.size = T1 := ⟨_, rfl⟩
  obtain ⟨w5, hwt⟩ : ∃ w5, w4.alloc (.cells #[.slice a1 2 c1] trT) = w5 := ⟨_, rfl⟩
  have hbt : Below w4.heap.size w4 w5 := by rw [← hwt]; exact (Below.refl _ _).alloc (Nat.le_refl _) _
  have hxt : w5.heap[T1]? = some (.cells #[.slice a1 2 c1] trT) := by rw [← hwt, ← hT1]; exact heap_alloc_new _ _
  have HN1 := Lib.hid (hnd.below hbt)
  have HT1 := Lib.hid hxt
  have HIx1 := Lib.hid hix
  have hbp : Below w3.heap.size w3 w5 := hbw.trans (hbt.mono hbw.size)
  have HO5 := Lib.hid (HO3.out.below hbp)
  have HB5 := Lib.hid (HB3.out.trans (hbp.mono HB3.out.size))
  have HBp1 := Lib.hid hbp
  rw [hwt, hT1]
  clear hwt hbt hxt hnd hix hcs hrow hbw hbp hT1
  have e7 : (⟨#[120, 32]⟩ : ByteArray) ++ str w = str (120 :: 32 :: w) := str_append [120, 32] w
  have z7 : 2 + (str w).size ≤ 9223372036854775807 := by rw [str_size]; have := HWl.out; omega
  go_wp2_with fail
  refine (parse_calls w5 (120 :: 32 :: w) (by have := HWl.out; simp; omega) HO5.out.sig HO5.out.glb).mono ?_
  rintro r w6 ⟨hbw, hr⟩
  rw [q_b HWm.out] at hr
  obtain ⟨v2, rfl, hrow⟩ := hr
  obtain ⟨a2, c2, hv, b2, o2, hcs, hix⟩ := nodes_at hrow
  rw [show (qB w).length = 2 from rfl] at hv hix
  subst hv
  obtain ⟨uw2, ur2, uk2, hnd⟩ := hcs 0 _ rfl
  go_upto_region 9 with fail
  obtain ⟨T2, hT2⟩ : ∃ T2, w6.heap.size = T2 := ⟨_, rfl⟩
  obtain ⟨w7, hwt⟩ : ∃ w7, w6.alloc (.cells #[.slice a2 2 c2] trT) = w7 := ⟨_, rfl⟩
  have hbt : Below w6.heap.size w6 w7 := by rw [← hwt]; exact (Below.refl _ _).alloc (Nat.le_refl _) _
  have hxt : w7.heap[T2]? = some (.cells #[.slice a2 2 c2] trT) := by rw [← hwt, ← hT2]; exact heap_alloc_new _ _
  have HN2 := Lib.hid (hnd.below hbt)
  have HT2 := Lib.hid hxt
  have HIx2 := Lib.hid hix
  have hbp : Below w5.heap.size w5 w7 := hbw.trans (hbt.mono hbw.size)
  have HO7 := Lib.hid (HO5.out.below hbp)
  have HB7 := Lib.hid (HB5.out.trans (hbp.mono HB5.out.size))
  have HBp2 := Lib.hid hbp
  rw [hwt, hT2]
  clear hwt hbt hxt hnd hix hcs hrow hbw hbp hT2
  have e8 : (⟨#[121, 61, 49, 32]⟩ : ByteArray) ++ str w = str (121 :: 61 :: 49 :: 32 :: w) := str_append [121, 61, 49, 32] w
  have e9 : str (121 :: 61 :: 49 :: 32 :: w) ++ ⟨#[32, 62]⟩ = str (121 :: 61 :: 49 :: 32 :: (w ++ [32, 62])) := str_append (121 :: 61 :: 49 :: 32 :: w) [32, 62]
  have e10 : str (121 :: 61 :: 49 :: 32 :: (w ++ [32, 62])) ++ str w = str (121 :: 61 :: 49 :: 32 :: (w ++ 32 :: 62 :: w)) := by rw [str_append]; simp
  have z8 : 4 + (str w).size ≤ 9223372036854775807 := by rw [str_size]; have := HWl.out; omega
  have z9 : (str (121 :: 61 :: 49 :: 32 :: w)).size + 2 ≤ 9223372036854775807 := by rw [str_size]; have := HWl.out; simp; omega
  have z10 : (str (121 :: 61 :: 49 :: 32 :: (w ++ [32, 62]))).size + (str w).size ≤ 9223372036854775807 := by rw [str_size, str_size]; have := HWl.out; simp; omega
  go_wp2_with fail
  refine (parse_calls w7 (121 :: 61 :: 49 :: 32 :: (w ++ 32 :: 62 :: w)) (by have := HWl.out; simp; omega) HO7.out.sig HO7.out.glb).mono ?_
  rintro r w8 ⟨hbw, hr⟩
  rw [q_c HWm.out] at hr
  obtain ⟨v3, rfl, hrow⟩ := hr
  obtain ⟨a3, c3, hv, b3, o3, hcs, hix⟩ := nodes_at hrow
  rw [show (qC w).length = 2 from rfl] at hv hix
  subst hv
  obtain ⟨uw3, ur3, uk3, hnd⟩ := hcs 0 _ rfl
  go_upto_region 10 with fail
  obtain ⟨T3, hT3⟩ : ∃ T3, w8.heap.size = T3 := ⟨_, rfl⟩
  obtain ⟨w9, hwt⟩ : ∃ w9, w8.alloc (.cells #[.slice a3 2 c3] trT) = w9 := ⟨_, rfl⟩
  have hbt : Below w8.heap.size w8 w9 := by rw [← hwt]; exact (Below.refl _ _).alloc (Nat.le_refl _) _
  have hxt : w9.heap[T3]? = some (.cells #[.slice a3 2 c3] trT) := by rw [← hwt, ← hT3]; exact heap_alloc_new _ _
  have HN3 := Lib.hid (hnd.below hbt)
  have HT3 := Lib.hid hxt
  have HIx3 := Lib.hid hix
  have hbp : Below w7.heap.size w7 w9 := hbw.trans (hbt.mono hbw.size)
  have HO9 := Lib.hid (HO7.out.below hbp)
  have HB9 := Lib.hid (HB7.out.trans (hbp.mono HB7.out.size))
  have HBp3 := Lib.hid hbp
  rw [hwt, hT3]
  clear hwt hbt hxt hnd hix hcs hrow hbw hbp hT3
  have h57 := HBp2.out
  have h79 := HBp3.out
  have h59 : Below w5.heap.size w5 w9 := h57.trans (h79.mono h57.size)
  have n1 := HN1.out.below h59
  have n2 := HN2.out.below h79
  have n3 := HN3.out
  obtain ⟨m1, _⟩ := cell_of ((h59.block T1 (Array.getElem?_eq_some_iff.1 HT1.out).1).trans HT1.out)
  obtain ⟨m2, _⟩ := cell_of ((h79.block T2 (Array.getElem?_eq_some_iff.1 HT2.out).1).trans HT2.out)
  obtain ⟨m3, _⟩ := cell_of HT3.out
  obtain ⟨aw1, cw1, hv1, p1, q1, hcw1, hiw1⟩ := words_at (l := [raw, [120]]) n1.rows.w
  subst hv1
  obtain ⟨aw2, cw2, hv2, p2, q2, hcw2, hiw2⟩ := words_at (l := [[120], w]) n2.rows.w
  subst hv2
  obtain ⟨aw3, cw3, hv3, p3, q3, hcw3, hiw3⟩ := words_at (l := [[121, 61, 49], w]) n3.rows.w
  subst hv3
  obtain ⟨ar3, cr3, hv4, p4, q4, hcr3, hir3⟩ := redirs_at (l := [⟨1, [62], w, []⟩]) n3.rows.r
  subst hv4
  have x13 : w9.cell? ⟨b1, o1 + 3, none⟩ = some (.slice aw1 2 cw1) := n1.cells 3 _ rfl
  have x23 : w9.cell? ⟨b2, o2 + 3, none⟩ = some (.slice aw2 2 cw2) := n2.cells 3 _ rfl
  have x33 : w9.cell? ⟨b3, o3 + 3, none⟩ = some (.slice aw3 2 cw3) := n3.cells 3 _ rfl
  have x34 : w9.cell? ⟨b3, o3 + 4, none⟩ = some (.int .i64 1) := n3.cells 4 _ rfl
  have x35 : w9.cell? ⟨b3, o3 + 5, none⟩ = some (.slice ar3 1 cr3) := n3.cells 5 _ rfl
  have y1 : w9.cell? ⟨p1, q1, none⟩ = some (.string (str raw)) := hcw1 0 _ rfl
  have y2 : w9.cell? ⟨p2, q2 + 1, none⟩ = some (.string (str w)) := hcw2 1 _ rfl
  have y4 : w9.cell? ⟨p4, q4 + 2, none⟩ = some (.string (str w)) := hcr3 0 _ rfl 2 _ rfl
  have i1 : ∀ w, (Instr.indexAt 30 (.slice aw1 2 cw1) (.int .i64 0)).run Tryz.prog w = .ok (.pointer (some ⟨p1, q1, none⟩)) w := fun w => hiw1 0 w (by simp)
  have i2 : ∀ w, (Instr.indexAt 30 (.slice aw2 2 cw2) (.int .i64 1)).run Tryz.prog w = .ok (.pointer (some ⟨p2, q2 + 1, none⟩)) w := fun w => hiw2 1 w (by simp)
  have i4 : ∀ w, (Instr.indexAt 31 (.slice ar3 1 cr3) (.int .i64 0)).run Tryz.prog w = .ok (.pointer (some ⟨p4, q4, none⟩)) w := fun w => hir3 0 w (by simp)
  have j1 : ∀ w, (Instr.indexAt 23 (.slice a1 2 c1) (.int .i64 0)).run Tryz.prog w = .ok (.pointer (some ⟨b1, o1, none⟩)) w := fun w => HIx1.out 0 w (by decide)
  have j2 : ∀ w, (Instr.indexAt 23 (.slice a2 2 c2) (.int .i64 0)).run Tryz.prog w = .ok (.pointer (some ⟨b2, o2, none⟩)) w := fun w => HIx2.out 0 w (by decide)
  have j3 : ∀ w, (Instr.indexAt 23 (.slice a3 2 c3) (.int .i64 0)).run Tryz.prog w = .ok (.pointer (some ⟨b3, o3, none⟩)) w := fun w => HIx3.out 0 w (by decide)
  have t1 : ((str raw).toList == (str raw).toList) = true := by simp
  have t2 : ((str w).toList == (str w).toList) = true := by simp
  have HF := Lib.hid HB9.out
  clear h57 h79 h59 n1 n2 n3 hcw1 hiw1 hcw2 hiw2 hcw3 hiw3 hcr3 hir3
  go_wp2_with fail
  go_ret
  exact ⟨rfl, HF.out⟩
end Go.Proofs.YtknncfoaegmphaaGreatDoor.Sx
