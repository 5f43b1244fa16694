/-
  The document's example of chapter 4: 'awake' answers true. Conditions: the names stand where they were laid.
-/
import Derived.Test.YtbbnopikinlcdaaDoorEvWalks7
import Derived.Test.YtbbnopikinlcdaaDoorEvWalks8
set_option linter.unusedVariables false
namespace Go.Proofs.YtbbnopikinlcdaaDoor
open Go.RowKit Base

theorem heap_below {w w' : World} (hb : Below w.heap.size w w') {k : Nat} {o : Obj} (h : w.heap[k]? = some o) : w'.heap[k]? = some o := by
  rw [hb.block k (Array.getElem?_eq_some_iff.1 h).1]; exact h
def reqX : Req := ⟨8, 0, 0, [], []⟩
def ansX : Ans := ⟨1, 0, 0, 0, [120], [], 2⟩
theorem reqX_fine : reqX.Fine := ⟨by unfold I64 reqX; simp, by unfold I64 reqX; simp, by unfold Lt64 reqX; simp, by simp [reqX]⟩
theorem ansX_fine : ansX.Fine := ⟨by unfold I64 ansX; simp, by unfold I64 ansX; simp, by unfold Lt64 ansX; simp, by simp [ansX]⟩
theorem reqX_right : rightB reqX = true := by decide
theorem ansX_fits : fitsB 1 ansX = true := by decide
theorem reqX_bytes : askBOut reqX = [8, 0, 0, 0, 0] := by
  unfold askBOut
  rw [if_pos reqX_right]
  simp [askB, reqX, VarPlain.zig, textB, rowB, texts, VarPlain.num_small]
theorem ansX_bytes : tellBOut ansX = [1, 0, 0, 0, 1, 120, 0, 2] := by
  unfold tellBOut
  rw [if_pos (show fitsB ansX.kind ansX = true from ansX_fits)]
  simp [tellB, ansX, VarPlain.zig, textB, rowB, texts, VarPlain.num_small]
theorem reqX_back : askedE [8, 0, 0, 0, 0] = 0 ∧ askedQ [8, 0, 0, 0, 0] = reqX := by
  have := asked_back reqX reqX_fine reqX_right
  have e : askB reqX = [8, 0, 0, 0, 0] := by rw [← reqX_bytes, askBOut, if_pos reqX_right]
  rwa [e] at this
theorem ansX_back : toldE [1, 0, 0, 0, 1, 120, 0, 2] = 0 ∧ toldA [1, 0, 0, 0, 1, 120, 0, 2] = ansX := by
  have := told_back ansX ansX_fine ansX_fits
  have e : tellB ansX = [1, 0, 0, 0, 1, 120, 0, 2] := by rw [← ansX_bytes, tellBOut, if_pos (show fitsB ansX.kind ansX = true from ansX_fits)]
  rwa [e] at this

set_option maxHeartbeats 2000000 in
set_option maxRecDepth 100000 in
theorem ev_awake_calls (w : World) (hn : NamesAt w) : Calls Tryd.prog 8 #[] w fun e w' => e = .returned (.bool true) ∧ Below w.heap.size w w' := by
  have HN := Lib.hid hn; clear hn
  have Hask := Lib.hid (ev_ask_calls w reqX none 0 RowOf.nil (by unfold I64 reqX; simp) (by unfold I64 reqX; simp) (by simp [reqX]) (by simp [reqX, texts]))
  rw [reqX_bytes] at Hask
  go_enter Tryd.func8, Tryd.ntmps8
  go_wp2_with fail
  refine Hask.out.mono ?_
  rintro e w1 ⟨v1, rfl, hown1, hb1⟩
  obtain ⟨av, cv, rfl, hrow1⟩ := ownsRow_bytes hown1
  have HB1 := Lib.hid hb1
  have Hown1 := Lib.hid hown1
  have Hrd := Lib.hid (asked_calls w1 av 5 cv _ hrow1 (by decide))
  rw [reqX_back.1, reqX_back.2] at Hrd
  clear hown1 hb1 hrow1 Hask
  go_wp2_with fail
  refine Hrd.out.mono ?_
  rintro e w2 ⟨aq, cq, rfl, hsq, hb2⟩
  have HB2 : Hid (Below w.heap.size w w2) := HB1.out.trans (hb2.mono HB1.out.size)
  have Hown2 := Lib.hid (ownsRow_below Hown1.out hb2)
  have Hsq := Lib.hid hsq
  clear hsq hb2 Hrd HB1 Hown1
  unfold reqV
  simp only [reqX, show str [] = ⟨#[]⟩ from rfl, List.length_nil] at Hsq ⊢
  have Htell := Lib.hid (ev_tell_calls (w2.alloc (.cells #[.int .i64 8, .int .i64 0, .int .i64 0, .string ⟨#[]⟩, .slice aq 0 cq] 24)) ansX none 0 RowOf.nil (by unfold I64 ansX; simp) (by unfold I64 ansX; simp) (by simp [ansX]) (by simp [ansX, texts]))
  rw [ansX_bytes] at Htell
  have HQ2 : Hid ((w2.alloc (.cells #[.int .i64 8, .int .i64 0, .int .i64 0, .string ⟨#[]⟩, .slice aq 0 cq] 24)).heap[w2.heap.size]? = some (.cells #[.int .i64 8, .int .i64 0, .int .i64 0, .string ⟨#[]⟩, .slice aq 0 cq] 24)) := heap_alloc_new w2 _
  go_wp2_with fail
  refine Htell.out.mono ?_
  rintro e w3 ⟨v3, rfl, hown3, hb3⟩
  obtain ⟨a3, c3, rfl, hrow3⟩ := ownsRow_bytes hown3
  have hbq := (Below.refl w2.heap.size w2).alloc (Nat.le_refl _) (.cells #[.int .i64 8, .int .i64 0, .int .i64 0, .string ⟨#[]⟩, .slice aq 0 cq] 24)
  have hb23 : Below w2.heap.size w2 w3 := hbq.trans (hb3.mono (by simp))
  have HB3 : Hid (Below w.heap.size w w3) := HB2.out.trans (hb23.mono HB2.out.size)
  have Hown4 := Lib.hid (ownsRow_below Hown2.out hb23)
  have HQ3 := Lib.hid (heap_below hb3 HQ2.out)
  have Hsq3 := Lib.hid (Hsq.out.below stable_strAt hb23)
  have hz3 : w2.heap.size < w3.heap.size := by have := hb3.size; simp at this; omega
  have Hrt := Lib.hid (told_calls w3 a3 8 c3 _ hrow3 (by decide))
  rw [ansX_back.1, ansX_back.2] at Hrt
  clear hown3 hrow3 hb3 hbq hb23 HB2 Hown2 HQ2 Hsq Htell
  go_wp2_with fail
  refine Hrt.out.mono ?_
  rintro e w4 ⟨aa, ca, rfl, hsa, hb4⟩
  have HB4 : Hid (Below w.heap.size w w4) := HB3.out.trans (hb4.mono HB3.out.size)
  have Hown5 := Lib.hid (ownsRow_below Hown4.out hb4)
  have HQ4 := Lib.hid (heap_below hb4 HQ3.out)
  have Hsq4 := Lib.hid (Hsq3.out.below stable_strAt hb4)
  have Hsa := Lib.hid hsa
  have hz4 : w2.heap.size < w4.heap.size := by have := hb4.size; omega
  clear hsa hb4 HB3 Hown4 HQ3 Hsq3 Hrt
  unfold ansV
  simp only [ansX, List.length_nil] at Hsa ⊢
  -- behind both variables: the world w5
  have hal := (Below.refl w4.heap.size w4).alloc (Nat.le_refl _) (.cells #[.int .i64 1, .int .i64 0, .int .i64 0, .int .i64 0, .string (str [120]), .slice aa 0 ca, .int .i64 2] 26)
  have HA5 : Hid ((w4.alloc (.cells #[.int .i64 1, .int .i64 0, .int .i64 0, .int .i64 0, .string (str [120]), .slice aa 0 ca, .int .i64 2] 26)).heap[w4.heap.size]? = some (.cells #[.int .i64 1, .int .i64 0, .int .i64 0, .int .i64 0, .string (str [120]), .slice aa 0 ca, .int .i64 2] 26)) := heap_alloc_new w4 _
  have HQ5 := Lib.hid (heap_below hal HQ4.out)
  have HB5 : Hid (Below w.heap.size w (w4.alloc (.cells #[.int .i64 1, .int .i64 0, .int .i64 0, .int .i64 0, .string (str [120]), .slice aa 0 ca, .int .i64 2] 26))) := HB4.out.trans (hal.mono HB4.out.size)
  have hrow5 : Bytes (w4.alloc (.cells #[.int .i64 1, .int .i64 0, .int .i64 0, .int .i64 0, .string (str [120]), .slice aa 0 ca, .int .i64 2] 26)) av 5 cv [8, 0, 0, 0, 0] := by
    obtain ⟨a', c', he, hr⟩ := ownsRow_bytes (l := [8, 0, 0, 0, 0]) (ownsRow_below Hown5.out hal)
    simp at he
    obtain ⟨rfl, rfl⟩ := he
    exact hr
  have hstr5 : (convert 33 9 (.slice av 5 cv)).run Tryd.prog (w4.alloc (.cells #[.int .i64 1, .int .i64 0, .int .i64 0, .int .i64 0, .string (str [120]), .slice aa 0 ca, .int .i64 2] 26)) = .ok (.string ⟨#[8, 0, 0, 0, 0]⟩) (w4.alloc (.cells #[.int .i64 1, .int .i64 0, .int .i64 0, .int .i64 0, .string (str [120]), .slice aa 0 ca, .int .i64 2] 26)) := str_bytes hrow5
  have Hsq5 := Lib.hid (Hsq4.out.below stable_strAt hal)
  clear hrow5
  have k0 : (w4.alloc (.cells #[.int .i64 1, .int .i64 0, .int .i64 0, .int .i64 0, .string (str [120]), .slice aa 0 ca, .int .i64 2] 26)).cell? ⟨w2.heap.size, 0, none⟩ = some (.int .i64 8) := by have := HQ5.out; simp [World.cell?, this]
  have k1 : (w4.alloc (.cells #[.int .i64 1, .int .i64 0, .int .i64 0, .int .i64 0, .string (str [120]), .slice aa 0 ca, .int .i64 2] 26)).cell? ⟨w2.heap.size, 1, none⟩ = some (.int .i64 0) := by have := HQ5.out; simp [World.cell?, this]
  have k2 : (w4.alloc (.cells #[.int .i64 1, .int .i64 0, .int .i64 0, .int .i64 0, .string (str [120]), .slice aa 0 ca, .int .i64 2] 26)).cell? ⟨w2.heap.size, 2, none⟩ = some (.int .i64 0) := by have := HQ5.out; simp [World.cell?, this]
  have k3 : (w4.alloc (.cells #[.int .i64 1, .int .i64 0, .int .i64 0, .int .i64 0, .string (str [120]), .slice aa 0 ca, .int .i64 2] 26)).cell? ⟨w2.heap.size, 3, none⟩ = some (.string ⟨#[]⟩) := by have := HQ5.out; simp [World.cell?, this]
  have k4 : (w4.alloc (.cells #[.int .i64 1, .int .i64 0, .int .i64 0, .int .i64 0, .string (str [120]), .slice aa 0 ca, .int .i64 2] 26)).cell? ⟨w2.heap.size, 4, none⟩ = some (.slice aq 0 cq) := by have := HQ5.out; simp [World.cell?, this]
  have kq0 : w4.cell? ⟨w2.heap.size, 0, none⟩ = some (.int .i64 8) := by have := HQ4.out; simp [World.cell?, this]
  have kq1 : w4.cell? ⟨w2.heap.size, 1, none⟩ = some (.int .i64 0) := by have := HQ4.out; simp [World.cell?, this]
  have kq2 : w4.cell? ⟨w2.heap.size, 2, none⟩ = some (.int .i64 0) := by have := HQ4.out; simp [World.cell?, this]
  have kq3 : w4.cell? ⟨w2.heap.size, 3, none⟩ = some (.string ⟨#[]⟩) := by have := HQ4.out; simp [World.cell?, this]
  have kq4 : w4.cell? ⟨w2.heap.size, 4, none⟩ = some (.slice aq 0 cq) := by have := HQ4.out; simp [World.cell?, this]
  have Hsame := Lib.hid (ev_same_calls _ reqX reqX aq none cq 0 Hsq5.out RowOf.nil)
  rw [sameB_self] at Hsame
  go_wp2_with fail
  refine Hsame.out.mono ?_
  rintro e w6 ⟨rfl, hb6⟩
  have HB6 : Hid (Below w.heap.size w w6) := HB5.out.trans (hb6.mono HB5.out.size)
  have HA6 := Lib.hid (heap_below hb6 HA5.out)
  have HQ6 := Lib.hid (heap_below hb6 HQ5.out)
  clear hal HA5 HQ5 HB5 hstr5 Hsq5 Hsame k0 k1 k2 k3 k4 kq0 kq1 kq2 kq3 kq4 hb6
  have m0 : w6.cell? ⟨w4.heap.size, 0, none⟩ = some (.int .i64 1) := by have := HA6.out; simp [World.cell?, this]
  have m1 : w6.cell? ⟨w4.heap.size, 1, none⟩ = some (.int .i64 0) := by have := HA6.out; simp [World.cell?, this]
  have m2 : w6.cell? ⟨w4.heap.size, 2, none⟩ = some (.int .i64 0) := by have := HA6.out; simp [World.cell?, this]
  have m3 : w6.cell? ⟨w4.heap.size, 3, none⟩ = some (.int .i64 0) := by have := HA6.out; simp [World.cell?, this]
  have m4 : w6.cell? ⟨w4.heap.size, 4, none⟩ = some (.string ⟨#[120]⟩) := by have := HA6.out; simp [World.cell?, this]; rfl
  have m5 : w6.cell? ⟨w4.heap.size, 5, none⟩ = some (.slice aa 0 ca) := by have := HA6.out; simp [World.cell?, this]
  have m6 : w6.cell? ⟨w4.heap.size, 6, none⟩ = some (.int .i64 2) := by have := HA6.out; simp [World.cell?, this]
  have Hname := Lib.hid (ev_name_calls w6 6 (HN.out.below HB6.out))
  rw [show str (nameOf 6) = ⟨#[115, 112, 97, 119, 110]⟩ from by unfold nameOf; rw [if_pos (by decide)]; rfl] at Hname
  go_wp2_with fail
  refine Hname.out.mono ?_
  rintro e w7 ⟨rfl, rfl⟩
  have Hfits := Lib.hid (ev_fits_calls w6 1 ansX aa ca)
  rw [ansX_fits] at Hfits
  go_wp2_with fail
  refine Hfits.out.mono ?_
  rintro e w8 ⟨rfl, hb8⟩
  have HB8 : Hid (Below w.heap.size w w8) := HB6.out.trans (hb8.mono HB6.out.size)
  have HQ8 := Lib.hid (heap_below hb8 HQ6.out)
  clear m0 m1 m2 m3 m4 m5 m6 Hname Hfits hb8 HA6 HQ6 HB6
  have n0 : w8.cell? ⟨w2.heap.size, 0, none⟩ = some (.int .i64 8) := by have := HQ8.out; simp [World.cell?, this]
  have n1 : w8.cell? ⟨w2.heap.size, 1, none⟩ = some (.int .i64 0) := by have := HQ8.out; simp [World.cell?, this]
  have n2 : w8.cell? ⟨w2.heap.size, 2, none⟩ = some (.int .i64 0) := by have := HQ8.out; simp [World.cell?, this]
  have n3 : w8.cell? ⟨w2.heap.size, 3, none⟩ = some (.string ⟨#[]⟩) := by have := HQ8.out; simp [World.cell?, this]
  have n4 : w8.cell? ⟨w2.heap.size, 4, none⟩ = some (.slice aq 0 cq) := by have := HQ8.out; simp [World.cell?, this]
  have Hright := Lib.hid (ev_right_calls w8 reqX aq cq)
  rw [reqX_right] at Hright
  go_wp2_with fail
  refine Hright.out.mono ?_
  rintro e w9 ⟨rfl, hb9⟩
  have HB9 : Hid (Below w.heap.size w w9) := HB8.out.trans (hb9.mono HB8.out.size)
  clear hb9
  go_wp2_with fail
  go_ret
  exact ⟨rfl, HB9.out⟩

end Go.Proofs.YtbbnopikinlcdaaDoor
