/-
  The document's examples of chapter 1: 'awake' answers true. Conditions: none.
-/
import Derived.Test.YtbbnopikinlcdaaVarTexts2
set_option linter.unusedVariables false
namespace Go.Proofs.Ytbbnopikinlcdaa
open Go.RowKit Base

theorem row_lit {α : Type} {R : World → Nat → Nat → α → Prop} (f : α → Value) (hR : ∀ w b o x, w.cell? ⟨b, o, none⟩ = some (f x) → R w b o x) (w : World) (l : List α) (e : TypeId) (hm : l.length ≤ maxLen) (fr : Nat × Nat := (0, 0)) :
    RowOf R 1 (w.alloc (.cells (l.map f).toArray e fr)) (some ⟨w.heap.size, 0, none⟩) l.length l.length l := by
  refine ⟨rfl, Nat.le_refl _, hm, w.heap.size, 0, .inr rfl, fun k hk => hR _ _ _ _ ?_⟩
  have hh : (w.alloc (.cells (l.map f).toArray e fr)).heap[w.heap.size]? = some (.cells (l.map f).toArray e fr) := heap_alloc_new w _
  unfold World.cell?
  simp only [hh, Nat.zero_add, Nat.mul_one]
  simp [hk]
theorem strs_lit (w : World) (l : List (List UInt8)) (e : TypeId) (hm : l.length ≤ maxLen) : Strs (w.alloc (.cells (l.map fun s => Value.string (str s)).toArray e)) (some ⟨w.heap.size, 0, none⟩) l.length l.length l :=
  row_lit (fun s => Value.string (str s)) (fun _ _ _ _ h => h) w l e hm
theorem u64s_lit (w : World) (l : List Nat) (e : TypeId) (hm : l.length ≤ maxLen) : U64s (w.alloc (.cells (l.map fun x : Nat => Value.int .u64 (x : Int)).toArray e)) (some ⟨w.heap.size, 0, none⟩) l.length l.length l :=
  row_lit (fun x : Nat => Value.int .u64 (x : Int)) (fun _ _ _ _ h => h) w l e hm

theorem take_300 : VarPlain.take [172, 2, 1] = (300, 2, 0) := by decide
theorem texts_ab : texts [[97, 98], []] = [2, 97, 98, 0] := by
  simp [texts, VarPlain.num_small]
theorem word_ab : VarPlain.word [2, 97, 98, 0] 0 = ([97, 98], [0], 0) := by decide
theorem nums_300 : VarPlain.nums [300, 1] = [172, 2, 1] := by
  simp [VarPlain.nums, VarPlain.num_big (x := 300) (by omega), VarPlain.num_small]

set_option maxHeartbeats 400000 in
set_option maxRecDepth 100000 in
theorem var_awake_calls (w : World) : Calls Try.prog 23 #[] w fun e w' => e = .returned (.bool true) ∧ Below w.heap.size w w' := by
  have hB1 : Bytes (w.alloc (.cells #[.int .u8 172, .int .u8 2, .int .u8 1] 5)) (some ⟨w.heap.size, 0, none⟩) 3 3 [172, 2, 1] := bytes_lit w [172, 2, 1] 5 (by simp [maxLen])
  have H1 := Lib.hid (var_take_calls _ _ _ _ _ hB1); clear hB1
  rw [take_300] at H1
  have hbA := (Below.refl w.heap.size w).alloc (Nat.le_refl _) (.cells #[.int .u8 172, .int .u8 2, .int .u8 1] 5)
  go_enter Try.func23, Try.ntmps23
  go_wp2_with fail
  refine H1.out.mono ?_
  rintro e w1 ⟨rfl, rfl⟩
  clear H1
  unfold takeV
  have hsA : w.heap.size ≤ (w.alloc (.cells #[.int .u8 172, .int .u8 2, .int .u8 1] 5)).heap.size := hbA.size
  generalize w.alloc (.cells #[.int .u8 172, .int .u8 2, .int .u8 1] 5) = wA at *
  have hS1 : Strs (wA.alloc (.cells #[.string ⟨#[97, 98]⟩, .string ⟨#[]⟩] 9)) (some ⟨wA.heap.size, 0, none⟩) 2 2 [[97, 98], []] := strs_lit wA [[97, 98], []] 9 (by simp [maxLen])
  have H2 := Lib.hid (var_texts_calls _ _ _ _ _ hS1 (by decide) (by rw [texts_ab]; decide)); clear hS1
  rw [texts_ab] at H2
  go_wp2_with fail
  refine H2.out.mono ?_
  rintro e w2 ⟨v2, rfl, hown2, hb2⟩
  clear H2
  have hbB := hbA.alloc hsA (.cells #[.string ⟨#[97, 98]⟩, .string ⟨#[]⟩] 9)
  have hb2' := hbB.trans (hb2.mono (by simp; omega))
  have hs2 := hb2'.size
  obtain ⟨a2, c2, rfl, hrow2⟩ := ownsRow_bytes hown2
  have H3 := Lib.hid (open_calls w2 a2 _ c2 _ hrow2 (by decide))
  clear hbA hsA hbB hb2 hown2 hrow2
  go_wp2_with fail
  refine H3.out.mono ?_
  rintro e w3 ⟨q, rfl, hq2, hq3, hrd, hb3⟩
  have hb3' := hb2'.trans (hb3.mono hs2)
  have hqw : w.heap.size ≤ q := Nat.le_trans hs2 hq2
  clear H3 hb2' hb3 hs2 hq2
  have H4 := rd_text_calls w3 q _ _ hrd
  rw [word_ab] at H4
  have H4' := Lib.hid H4; clear H4 hrd
  go_wp2_with fail
  refine H4'.out.mono ?_
  rintro e w4 ⟨rfl, hrd4, hg4⟩
  simp only [show str [97, 98] = ⟨#[97, 98]⟩ from rfl]
  have hb4 : Below w.heap.size w w4 := hb3'.grown hg4 hb3'.size (fun j hj => by simp at hj; omega)
  clear H4' hb3' hg4 hq3
  have Hrd4 := Lib.hid hrd4; clear hrd4
  go_wp2_with fail
  refine (rd_left_calls w4 q _ _ Hrd4.out).mono ?_
  rintro e w5 ⟨rfl, rfl⟩
  have hs4 := hb4.size
  have hU1 : U64s (w4.alloc (.cells #[.int .u64 300, .int .u64 1] 39)) (some ⟨w4.heap.size, 0, none⟩) 2 2 [300, 1] := u64s_lit w4 [300, 1] 39 (by simp [maxLen])
  have H5 := Lib.hid (var_put_calls _ _ _ _ _ hU1 (by intro x hx; simp at hx; unfold Lt64; omega) (by decide))
  rw [nums_300] at H5
  have hbC := hb4.alloc hs4 (.cells #[.int .u64 300, .int .u64 1] 39)
  have hrdC : Rd (w4.alloc (.cells #[.int .u64 300, .int .u64 1] 39)) q [0] 0 := Hrd4.out.below ((Below.refl _ _).alloc (Nat.le_refl _) _)
  go_wp2_with fail
  refine H5.out.mono ?_
  rintro e w5 ⟨v5, rfl, hown5, hb5⟩
  obtain ⟨a5, c5, rfl, hrow5⟩ := ownsRow_bytes hown5
  have hstr : (convert 22 9 (.slice a5 3 c5)).run Try.prog w5 = .ok (.string ⟨#[172, 2, 1]⟩) w5 := str_bytes hrow5
  have hbD := hbC.trans (hb5.mono (by simp; omega))
  have Hrd5 := Lib.hid (hrdC.below hb5)
  have Hz1 : Hid (VarPlain.zig (-1) = 1) := by show _ = _; decide
  have Hz2 : Hid (VarPlain.zig 1 = 2) := by show _ = _; decide
  have Hz3 : Hid (VarPlain.zag 1 = -1) := by show _ = _; decide
  have He : Hid (endE [0] 0 = 14) := by show _ = _; decide
  clear hown5 hrow5 hbC hb5 hrdC H5 hb4 hs4 Hrd4
  go_wp2_with fail
  refine (var_zig_calls _ (-1) (by decide) (by decide)).mono ?_
  rintro e w6 ⟨rfl, rfl⟩
  rw [Hz1.out]
  go_wp2_with fail
  refine (var_zig_calls _ 1 (by decide) (by decide)).mono ?_
  rintro e w6 ⟨rfl, rfl⟩
  rw [Hz2.out]
  go_wp2_with fail
  refine (var_zag_calls _ 1 (by decide) (by decide)).mono ?_
  rintro e w6 ⟨rfl, rfl⟩
  rw [show (1 : Int).toNat = 1 from rfl, Hz3.out]
  go_wp2_with fail
  refine (rd_err_calls _ q _ _ Hrd5.out).mono ?_
  rintro e w6 ⟨rfl, rfl⟩
  go_wp2_with fail
  refine (rd_end_calls _ q _ _ Hrd5.out).mono ?_
  rintro e w6 ⟨rfl, rfl⟩
  rw [He.out]
  go_wp2_with fail
  go_ret
  exact ⟨rfl, hbD⟩

end Go.Proofs.Ytbbnopikinlcdaa
