/-
  The walk of the statement EventReads: the request, and the answer, of any bytes, or the error, are the document's: true; nothing that was there turns. Conditions: the argument can be read; the names stand where they were laid.
-/
import Derived.Test.YtbbnopikinlcdaaDoorEvReads5
import Derived.Test.YtbbnopikinlcdaaDoorEvAwake
set_option linter.unusedVariables false
namespace Go.Proofs.YtbbnopikinlcdaaDoor
open Go.RowKit Base

set_option maxHeartbeats 8000000 in
set_option maxRecDepth 100000 in
theorem ev_reads_law (w : World) (a0 : Option Addr) (n cap : Nat) (b : List UInt8) (h0 : Bytes w a0 n cap b) (hn : NamesAt w) :
    Calls Tryd.prog 4 #[.slice a0 n cap] w fun e w' => e = .returned (.bool true) ∧ Below w.heap.size w w' := by
  have hc0 := h0.2.2.1
  have hn0 := h0.2.1
  unfold maxLen at hc0
  have Haw := Lib.hid (ev_awake_calls w hn)
  clear hn
  have Hn0 := Lib.hid h0.1
  have H0 := Lib.hid h0; clear h0
  by_cases hbig : 3000 < n
  · have hb' : decide ((3000 : Int) < (n : Int)) = true := by simp; omega
    go_enter Tryd.func4, Tryd.ntmps4
    go_wp2_with fail
    refine Haw.out.mono ?_
    rintro e w1 ⟨rfl, hb1⟩
    go_wp2_with fail
    go_ret
    exact ⟨rfl, hb1⟩
  have hb0 : decide ((3000 : Int) < (n : Int)) = false := by simp; omega
  have hbl : b.length ≤ 3000 := by have := Hn0.out; omega
  have HBL := Lib.hid hbl; clear hbl
  go_enter Tryd.func4, Tryd.ntmps4
  go_wp2_with fail
  refine Haw.out.mono ?_
  rintro e w1 ⟨rfl, hb1⟩
  have HB := Lib.hid hb1; clear hb1
  go_wp2_with fail
  refine (asked_calls _ a0 n cap b (H0.out.below stable_byteAt HB.out) (by omega)).mono ?_
  rintro e v1 ⟨a1, c1, rfl, hs, hb⟩
  have HB := Lib.hid (HB.out.trans (hb.mono HB.out.size))
  have HS1 := Lib.hid hs
  unfold reqV
  have hal := (Below.refl v1.heap.size v1).alloc (Nat.le_refl _) (.cells #[.int .i64 (askedQ b).kind, .int .i64 (askedQ b).n, .int .i64 (askedQ b).m, .string (str (askedQ b).text), .slice a1 (askedQ b).list.length c1] 24)
  have HO1 : Hid ((v1.alloc (.cells #[.int .i64 (askedQ b).kind, .int .i64 (askedQ b).n, .int .i64 (askedQ b).m, .string (str (askedQ b).text), .slice a1 (askedQ b).list.length c1] 24)).heap[v1.heap.size]? = some (.cells #[.int .i64 (askedQ b).kind, .int .i64 (askedQ b).n, .int .i64 (askedQ b).m, .string (str (askedQ b).text), .slice a1 (askedQ b).list.length c1] 24)) := heap_alloc_new v1 _
  have HB := Lib.hid (HB.out.trans (hal.mono HB.out.size))
  have HS1 := Lib.hid (HS1.out.below stable_strAt hal)
  clear hs hb hal
  have hstr := str_bytes (H0.out.below stable_byteAt HB.out)
  go_wp2_with fail
  clear hstr
  refine (ref_asked_calls _ b HBL.out).mono ?_
  rintro e v2 ⟨a2, c2, rfl, hs, hb⟩
  have HB := Lib.hid (HB.out.trans (hb.mono HB.out.size))
  have HS2 := Lib.hid hs
  have HO1 := Lib.hid (heap_low hb HO1.out)
  have HS1 := Lib.hid (HS1.out.below stable_strAt hb)
  unfold reqV
  have hal := (Below.refl v2.heap.size v2).alloc (Nat.le_refl _) (.cells #[.int .i64 (askedQ b).kind, .int .i64 (askedQ b).n, .int .i64 (askedQ b).m, .string (str (askedQ b).text), .slice a2 (askedQ b).list.length c2] 24)
  have HO2 : Hid ((v2.alloc (.cells #[.int .i64 (askedQ b).kind, .int .i64 (askedQ b).n, .int .i64 (askedQ b).m, .string (str (askedQ b).text), .slice a2 (askedQ b).list.length c2] 24)).heap[v2.heap.size]? = some (.cells #[.int .i64 (askedQ b).kind, .int .i64 (askedQ b).n, .int .i64 (askedQ b).m, .string (str (askedQ b).text), .slice a2 (askedQ b).list.length c2] 24)) := heap_alloc_new v2 _
  have HB := Lib.hid (HB.out.trans (hal.mono HB.out.size))
  have HO1 := Lib.hid (heap_low hal HO1.out)
  have HS1 := Lib.hid (HS1.out.below stable_strAt hal)
  have HS2 := Lib.hid (HS2.out.below stable_strAt hal)
  clear hs hb hal
  go_wp2_with fail
  refine (told_calls _ a0 n cap b (H0.out.below stable_byteAt HB.out) (by omega)).mono ?_
  rintro e v3 ⟨a3, c3, rfl, hs, hb⟩
  have HB := Lib.hid (HB.out.trans (hb.mono HB.out.size))
  have HS3 := Lib.hid hs
  have HO1 := Lib.hid (heap_low hb HO1.out)
  have HS1 := Lib.hid (HS1.out.below stable_strAt hb)
  have HO2 := Lib.hid (heap_low hb HO2.out)
  have HS2 := Lib.hid (HS2.out.below stable_strAt hb)
  unfold ansV
  have hal := (Below.refl v3.heap.size v3).alloc (Nat.le_refl _) (.cells #[.int .i64 (toldA b).kind, .int .i64 (toldA b).err, .int .i64 (toldA b).n, .int .i64 (toldA b).m, .string (str (toldA b).text), .slice a3 (toldA b).list.length c3, .int .i64 (toldA b).sig] 26)
  have HO3 : Hid ((v3.alloc (.cells #[.int .i64 (toldA b).kind, .int .i64 (toldA b).err, .int .i64 (toldA b).n, .int .i64 (toldA b).m, .string (str (toldA b).text), .slice a3 (toldA b).list.length c3, .int .i64 (toldA b).sig] 26)).heap[v3.heap.size]? = some (.cells #[.int .i64 (toldA b).kind, .int .i64 (toldA b).err, .int .i64 (toldA b).n, .int .i64 (toldA b).m, .string (str (toldA b).text), .slice a3 (toldA b).list.length c3, .int .i64 (toldA b).sig] 26)) := heap_alloc_new v3 _
  have HB := Lib.hid (HB.out.trans (hal.mono HB.out.size))
  have HO1 := Lib.hid (heap_low hal HO1.out)
  have HS1 := Lib.hid (HS1.out.below stable_strAt hal)
  have HO2 := Lib.hid (heap_low hal HO2.out)
  have HS2 := Lib.hid (HS2.out.below stable_strAt hal)
  have HS3 := Lib.hid (HS3.out.below stable_strAt hal)
  clear hs hb hal
  have hstr := str_bytes (H0.out.below stable_byteAt HB.out)
  go_wp2_with fail
  clear hstr
  refine (ref_told_calls _ b HBL.out).mono ?_
  rintro e v4 ⟨a4, c4, rfl, hs, hb⟩
  have HB := Lib.hid (HB.out.trans (hb.mono HB.out.size))
  have HS4 := Lib.hid hs
  have HO1 := Lib.hid (heap_low hb HO1.out)
  have HS1 := Lib.hid (HS1.out.below stable_strAt hb)
  have HO2 := Lib.hid (heap_low hb HO2.out)
  have HS2 := Lib.hid (HS2.out.below stable_strAt hb)
  have HO3 := Lib.hid (heap_low hb HO3.out)
  have HS3 := Lib.hid (HS3.out.below stable_strAt hb)
  unfold ansV
  have hal := (Below.refl v4.heap.size v4).alloc (Nat.le_refl _) (.cells #[.int .i64 (toldA b).kind, .int .i64 (toldA b).err, .int .i64 (toldA b).n, .int .i64 (toldA b).m, .string (str (toldA b).text), .slice a4 (toldA b).list.length c4, .int .i64 (toldA b).sig] 26)
  have HO4 : Hid ((v4.alloc (.cells #[.int .i64 (toldA b).kind, .int .i64 (toldA b).err, .int .i64 (toldA b).n, .int .i64 (toldA b).m, .string (str (toldA b).text), .slice a4 (toldA b).list.length c4, .int .i64 (toldA b).sig] 26)).heap[v4.heap.size]? = some (.cells #[.int .i64 (toldA b).kind, .int .i64 (toldA b).err, .int .i64 (toldA b).n, .int .i64 (toldA b).m, .string (str (toldA b).text), .slice a4 (toldA b).list.length c4, .int .i64 (toldA b).sig] 26)) := heap_alloc_new v4 _
  have HB := Lib.hid (HB.out.trans (hal.mono HB.out.size))
  have HO1 := Lib.hid (heap_low hal HO1.out)
  have HS1 := Lib.hid (HS1.out.below stable_strAt hal)
  have HO2 := Lib.hid (heap_low hal HO2.out)
  have HS2 := Lib.hid (HS2.out.below stable_strAt hal)
  have HO3 := Lib.hid (heap_low hal HO3.out)
  have HS3 := Lib.hid (HS3.out.below stable_strAt hal)
  have HS4 := Lib.hid (HS4.out.below stable_strAt hal)
  clear hs hb hal
  go_upto_region 10 with fail
  generalize v1.heap.size = p1 at *
  generalize v2.heap.size = p2 at *
  generalize v3.heap.size = p3 at *
  generalize v4.heap.size = p4 at *
  generalize hX : v4.alloc (.cells #[.int .i64 (toldA b).kind, .int .i64 (toldA b).err, .int .i64 (toldA b).n, .int .i64 (toldA b).m, .string (str (toldA b).text), .slice a4 (toldA b).list.length c4, .int .i64 (toldA b).sig] 26) = w9 at *
  clear hX
  have HF := Lib.hid (sameB_self (askedQ b))
  have HG := Lib.hid (sameAB_self (toldA b))
  have r10 : w9.cell? ⟨p1, 0, none⟩ = some (.int .i64 (askedQ b).kind) := by have := HO1.out; simp [World.cell?, this]
  have r11 : w9.cell? ⟨p1, 1, none⟩ = some (.int .i64 (askedQ b).n) := by have := HO1.out; simp [World.cell?, this]
  have r12 : w9.cell? ⟨p1, 2, none⟩ = some (.int .i64 (askedQ b).m) := by have := HO1.out; simp [World.cell?, this]
  have r13 : w9.cell? ⟨p1, 3, none⟩ = some (.string (str (askedQ b).text)) := by have := HO1.out; simp [World.cell?, this]
  have r14 : w9.cell? ⟨p1, 4, none⟩ = some (.slice a1 (askedQ b).list.length c1) := by have := HO1.out; simp [World.cell?, this]
  have r20 : w9.cell? ⟨p2, 0, none⟩ = some (.int .i64 (askedQ b).kind) := by have := HO2.out; simp [World.cell?, this]
  have r21 : w9.cell? ⟨p2, 1, none⟩ = some (.int .i64 (askedQ b).n) := by have := HO2.out; simp [World.cell?, this]
  have r22 : w9.cell? ⟨p2, 2, none⟩ = some (.int .i64 (askedQ b).m) := by have := HO2.out; simp [World.cell?, this]
  have r23 : w9.cell? ⟨p2, 3, none⟩ = some (.string (str (askedQ b).text)) := by have := HO2.out; simp [World.cell?, this]
  have r24 : w9.cell? ⟨p2, 4, none⟩ = some (.slice a2 (askedQ b).list.length c2) := by have := HO2.out; simp [World.cell?, this]
  go_wp2_with fail
  refine (ev_ref_same_calls w9 (askedQ b) (askedQ b) a1 a2 c1 c2 HS1.out HS2.out).mono ?_
  rintro e wA ⟨rfl, hbA⟩
  rw [HF.out]
  have HO3 := Lib.hid (heap_low hbA HO3.out)
  have HO4 := Lib.hid (heap_low hbA HO4.out)
  have HS3 := Lib.hid (HS3.out.below stable_strAt hbA)
  have HS4 := Lib.hid (HS4.out.below stable_strAt hbA)
  have HB := Lib.hid (HB.out.trans (hbA.mono HB.out.size))
  clear hbA r10 r11 r12 r13 r14 r20 r21 r22 r23 r24
  have r30 : wA.cell? ⟨p3, 0, none⟩ = some (.int .i64 (toldA b).kind) := by have := HO3.out; simp [World.cell?, this]
  have r31 : wA.cell? ⟨p3, 1, none⟩ = some (.int .i64 (toldA b).err) := by have := HO3.out; simp [World.cell?, this]
  have r32 : wA.cell? ⟨p3, 2, none⟩ = some (.int .i64 (toldA b).n) := by have := HO3.out; simp [World.cell?, this]
  have r33 : wA.cell? ⟨p3, 3, none⟩ = some (.int .i64 (toldA b).m) := by have := HO3.out; simp [World.cell?, this]
  have r34 : wA.cell? ⟨p3, 4, none⟩ = some (.string (str (toldA b).text)) := by have := HO3.out; simp [World.cell?, this]
  have r35 : wA.cell? ⟨p3, 5, none⟩ = some (.slice a3 (toldA b).list.length c3) := by have := HO3.out; simp [World.cell?, this]
  have r36 : wA.cell? ⟨p3, 6, none⟩ = some (.int .i64 (toldA b).sig) := by have := HO3.out; simp [World.cell?, this]
  have r40 : wA.cell? ⟨p4, 0, none⟩ = some (.int .i64 (toldA b).kind) := by have := HO4.out; simp [World.cell?, this]
  have r41 : wA.cell? ⟨p4, 1, none⟩ = some (.int .i64 (toldA b).err) := by have := HO4.out; simp [World.cell?, this]
  have r42 : wA.cell? ⟨p4, 2, none⟩ = some (.int .i64 (toldA b).n) := by have := HO4.out; simp [World.cell?, this]
  have r43 : wA.cell? ⟨p4, 3, none⟩ = some (.int .i64 (toldA b).m) := by have := HO4.out; simp [World.cell?, this]
  have r44 : wA.cell? ⟨p4, 4, none⟩ = some (.string (str (toldA b).text)) := by have := HO4.out; simp [World.cell?, this]
  have r45 : wA.cell? ⟨p4, 5, none⟩ = some (.slice a4 (toldA b).list.length c4) := by have := HO4.out; simp [World.cell?, this]
  have r46 : wA.cell? ⟨p4, 6, none⟩ = some (.int .i64 (toldA b).sig) := by have := HO4.out; simp [World.cell?, this]
  go_wp2_with fail
  refine (ev_ref_sameans_calls wA (toldA b) (toldA b) a3 a4 c3 c4 HS3.out HS4.out).mono ?_
  rintro e wB ⟨rfl, hbB⟩
  rw [HG.out]
  have HB := Lib.hid (HB.out.trans (hbB.mono HB.out.size))
  go_wp2_with fail
  go_ret
  exact ⟨rfl, HB.out⟩

end Go.Proofs.YtbbnopikinlcdaaDoor
