/-
  The reference's Take and Scan of frames. Conditions: the texts are short.
-/
import Derived.Test.YtgbnfipbedlmhaaTpRefs
import Derived.Test.YtgbnfipbedlmhaaGReg
set_option linter.unusedVariables false
set_option maxRecDepth 100000
namespace Go.Proofs.Ytgbnfipbedlmhaa
open Go.RowKit Base

theorem takeF_e {b : List UInt8} {x n : Nat} {e : Int} (hk : VarPlain.take b = (x, n, e)) (he : e ≠ 0) : takeF b = ([], 0, e) := by
  unfold takeF; rw [hk]; simp only []; rw [if_pos he]
theorem takeF_big {b : List UInt8} {x n : Nat} (hk : VarPlain.take b = (x, n, 0)) (he : 65536 < x) : takeF b = ([], 0, 13) := by
  unfold takeF; rw [hk]; simp only []; rw [if_neg (by simp), if_pos he]
theorem takeF_short {b : List UInt8} {x n : Nat} (hk : VarPlain.take b = (x, n, 0)) (he : ¬ 65536 < x) (h2 : b.length < n + x + 4) : takeF b = ([], 0, 10) := by
  unfold takeF; rw [hk]; simp only []; rw [if_neg (by simp), if_neg he, if_pos (by omega)]
theorem takeF_sum {b : List UInt8} {x n : Nat} (hk : VarPlain.take b = (x, n, 0)) (he : ¬ 65536 < x) (h2 : n + x + 4 ≤ b.length) :
    takeF b = if CrcPlain.tail (CrcPlain.of (b.take (n + x))) = (b.take (n + x + 4)).drop (n + x) then ((b.take (n + x)).drop n, n + x + 4, 0) else ([], 0, 12) := by
  have hok := take_ok (b := b) (by rw [hk])
  rw [hk] at hok
  simp only [] at hok
  have hr : (b.drop n).take x = (b.take (n + x)).drop n := by rw [List.drop_take]; congr 1; omega
  have hrl : ((b.drop n).take x).length = x := by rw [List.length_take, List.length_drop]; omega
  have h1 : headed ((b.drop n).take x) = b.take (n + x) := by
    unfold headed
    rw [hrl, hok.1, ← List.take_add]
  have h3 : b.take (n + x + 4) = b.take (n + x) ++ (b.take (n + x + 4)).drop (n + x) := by
    conv => lhs; rw [← List.take_append_drop (n + x) (b.take (n + x + 4))]
    rw [List.take_take]
    congr 2
    omega
  have h4 : oneF ((b.drop n).take x) = b.take (n + x) ++ CrcPlain.tail (CrcPlain.of (b.take (n + x))) := by unfold oneF; rw [h1]
  unfold takeF
  rw [hk]
  simp only []
  rw [if_neg (by simp), if_neg he, if_neg (by omega), h4, ← hr]
  by_cases hc : CrcPlain.tail (CrcPlain.of (b.take (n + x))) = (b.take (n + x + 4)).drop (n + x)
  · rw [if_pos hc, if_neg]
    intro h
    apply h
    rw [hc, ← h3]
  · rw [if_neg hc, if_pos]
    intro h
    apply hc
    have := congrArg (List.drop (n + x)) h
    rwa [List.drop_left' (by rw [List.length_take]; omega)] at this
def takeFV (t : List UInt8 × Nat × Int) : Value := .tuple #[.string (str t.1), .int .i64 (t.2.1 : Int), .int .i64 t.2.2]
set_option maxHeartbeats 2000000 in
theorem ref_takeF_calls (w : World) (b : List UInt8) (hb : b.length ≤ 100000000) :
    Calls Try.prog 57 #[.string (str b)] w fun e w' => e = .returned (takeFV (takeF b)) ∧ Below w.heap.size w w' := by
  have HT := Lib.hid (var_ref_take_calls w (str b) (by rw [str_size]; unfold maxLen; omega))
  have hle := VarPlain.take_le b
  have hlt := VarPlain.take_lt b
  rw [str_data] at HT
  unfold takeV at HT
  obtain ⟨x, n, er, hk⟩ : ∃ x n er, VarPlain.take b = (x, n, er) := ⟨_, _, _, rfl⟩
  rw [hk] at HT hle hlt
  simp only [] at HT hle hlt
  have HK := Lib.hid hk
  obtain ⟨hz1, hz2⟩ : (str b).size ≤ b.length ∧ b.length ≤ (str b).size := ⟨Nat.le_refl _, Nat.le_refl _⟩
  clear hk
  by_cases he : er = 0
  rotate_left
  · have HR := Lib.hid (takeF_e HK.out he)
    rw [HR.out]
    have t1 : decide (er = 0) = false := decide_eq_false he
    go_enter Try.func57, Try.ntmps57
    go_wp2_with fail
    refine (HT.out).mono ?_
    rintro e w' ⟨rfl, rfl⟩
    go_wp2_with fail
    go_ret3
    exact ⟨rfl, Below.refl _ _⟩
  subst he
  by_cases hbig : 65536 < x
  · have HR := Lib.hid (takeF_big HK.out hbig)
    rw [HR.out]
    have t1 : decide ((65536 : Int) < (x : Int)) = true := decide_eq_true (by omega)
    have t2 : (65536 : Int) < (x : Int) := by omega
    go_enter Try.func57, Try.ntmps57
    go_wp2_with fail
    refine (HT.out).mono ?_
    rintro e w' ⟨rfl, rfl⟩
    go_wp2_with fail
    go_ret3
    exact ⟨rfl, Below.refl _ _⟩
  have t1 : decide ((65536 : Int) < (x : Int)) = false := decide_eq_false (by omega)
  have t2 : ¬ ((65536 : Int) < (x : Int)) := by omega
  by_cases hsh : b.length < n + x + 4
  · have HR := Lib.hid (takeF_short HK.out hbig hsh)
    rw [HR.out]
    have u1 : decide (((str b).size : Int) < (n : Int) + (x : Int) + 4) = true := decide_eq_true (by omega)
    have u2 : ((str b).size : Int) < (n : Int) + (x : Int) + 4 := by omega
    go_enter Try.func57, Try.ntmps57
    go_wp2_with fail
    refine (HT.out).mono ?_
    rintro e w' ⟨rfl, rfl⟩
    go_wp2_with fail
    go_ret3
    exact ⟨rfl, Below.refl _ _⟩
  have u1 : decide (((str b).size : Int) < (n : Int) + (x : Int) + 4) = false := decide_eq_false (by omega)
  have u2 : ¬ (((str b).size : Int) < (n : Int) + (x : Int) + 4) := by omega
  have hsh2 : n + x + 4 ≤ b.length := by omega
  have HSum := Lib.hid (takeF_sum HK.out hbig hsh2)
  have hs1 : ∀ w', (Instr.sliceAt 9 (.string (str b)) (some (.int .i64 (n : Int))) (some (.int .i64 ((n : Int) + (x : Int)))) none).run Try.prog w' = .ok (.string (str ((b.take (n + x)).drop n))) w' := fun w' => by
    have := Sw.run_sub_lh (P := Try.prog) (w := w') Try.underlying9 b .i64 .i64 n (n + x) (by omega) (by omega)
    rwa [Int.natCast_add] at this
  have hs2 : ∀ w', (Instr.sliceAt 9 (.string (str b)) none (some (.int .i64 ((n : Int) + (x : Int)))) none).run Try.prog w' = .ok (.string (str (b.take (n + x)))) w' := fun w' => by
    have := Sw.run_sub_h (P := Try.prog) (w := w') Try.underlying9 b .i64 (n + x) (by omega)
    rwa [Int.natCast_add] at this
  have hs3 : ∀ w', (Instr.sliceAt 9 (.string (str b)) (some (.int .i64 ((n : Int) + (x : Int)))) (some (.int .i64 ((n : Int) + (x : Int) + 4))) none).run Try.prog w' = .ok (.string (str ((b.take (n + x + 4)).drop (n + x)))) w' := fun w' => by
    have := Sw.run_sub_lh (P := Try.prog) (w := w') Try.underlying9 b .i64 .i64 (n + x) (n + x + 4) (by omega) (by omega)
    rwa [Int.natCast_add, Int.natCast_add, Int.natCast_add] at this
  have HS2 := Lib.hid hs2; have HS3 := Lib.hid hs3; clear hs2 hs3
  have HO := Lib.hid fun w => crc_ref_of_calls w (str (b.take (n + x))) (by rw [str_size, List.length_take]; unfold maxLen; omega)
  rw [str_data] at HO
  obtain ⟨c, hc⟩ : ∃ c, c = decide (CrcPlain.tail (CrcPlain.of (b.take (n + x))) = (b.take (n + x + 4)).drop (n + x)) := ⟨_, rfl⟩
  have HNe : Hid (∀ (P : Program) (w : World) (t : TypeId), (binOp .neq t (.string (str (CrcPlain.tail (CrcPlain.of (b.take (n + x)))))) (.string (str ((b.take (n + x + 4)).drop (n + x))))).run P w = .ok (.bool (!c)) w) := by
    intro P w t
    rw [binOp_string_neq, hc]
    simp only [ByteArray.toList_eq, str_data]
    by_cases h : CrcPlain.tail (CrcPlain.of (b.take (n + x))) = (b.take (n + x + 4)).drop (n + x)
    · rw [decide_eq_true h, h]; simp
    · rw [decide_eq_false h]; simp [h]
  have HC := Lib.hid hc
  clear hc
  generalize hX1 : b.take (n + x) = X1 at *
  generalize hX2 : (b.take (n + x + 4)).drop (n + x) = X2 at *
  generalize hX3 : X1.drop n = X3 at *
  clear hX1 hX2 hX3
  generalize hOf : CrcPlain.of X1 = cc at *
  clear hOf
  go_enter Try.func57, Try.ntmps57
  go_wp2_with fail
  refine (HT.out).mono ?_
  rintro e w' ⟨rfl, rfl⟩
  go_upto_region 10 with fail
  refine Rg.wp_region_rgl [] [Rg.Is (.string (str b)), Rg.Is (.int .i64 ((n : Int) + (x : Int) + 4)), Rg.Is (.int .i64 ((n : Int) + (x : Int))), Rg.Is (.string (str X1)), Rg.Is (.int .u32 (cc.toNat : Int)), Rg.Is (.string (str (CrcPlain.tail cc))), Rg.Is (.string (str b)), Rg.Is (.int .i64 ((n : Int) + (x : Int) + 4)), Rg.Is (.int .i64 ((n : Int) + (x : Int))), Rg.Is (.int .i64 ((n : Int) + (x : Int) + 4)), Rg.Is (.string (str X2)), Rg.Is (.bool (!c))] (by kernel_rfl) (by kernel_rfl) (by kernel_rfl) ⟨Rg.st_is _, Rg.st_is _, Rg.st_is _, Rg.st_is _, Rg.st_is _, Rg.st_is _, Rg.st_is _, Rg.st_is _, Rg.st_is _, Rg.st_is _, Rg.st_is _, Rg.st_is _, trivial⟩ ⟨rfl, rfl, rfl, rfl, rfl, rfl, rfl, rfl, rfl, rfl, rfl, rfl, trivial⟩ ⟨?_, ?_, ?_, ?_, ?_, ?_, ?_, ?_, ?_, ?_, ?_, ?_, trivial⟩ ?_
  · intro _ a wx hb hk
    have h0 : a.eval (.tmp 0) = .string (str b) := Eq.mp (by kernel_rfl) (hk 0 (by decide))
    exact Rg.does_move ⟨Below.refl _ _, h0⟩
  · intro _ a wx hb hk
    have h9 : a.eval (.tmp 9) = .int .i64 ((n : Int) + (x : Int) + 4) := Eq.mp (by kernel_rfl) (hk 9 (by decide))
    exact Rg.does_move ⟨Below.refl _ _, h9⟩
  · intro _ a wx hb hk
    have h42 : a.eval (.tmp 42) = .int .i64 ((n : Int) + (x : Int) + 4) := Eq.mp (by kernel_rfl) (hk 42 (by decide))
    exact Rg.does_bin .i64 _ _ _ h42 rfl (Sw.run_minus (by omega) (by omega)) ⟨Below.refl _ _, by show Value.int .i64 _ = _; congr 1; omega⟩
  · intro _ a wx hb hk
    have h41 : a.eval (.tmp 41) = .string (str b) := Eq.mp (by kernel_rfl) (hk 41 (by decide))
    have h43 : a.eval (.tmp 43) = .int .i64 ((n : Int) + (x : Int)) := Eq.mp (by kernel_rfl) (hk 43 (by decide))
    refine Rg.does_slice _ (by rw [h41, Option.map_none, Option.map_some, h43]; exact HS2.out wx) ⟨Below.refl _ _, rfl⟩
  · intro _ a wx hb hk
    have h44 : a.eval (.tmp 44) = .string (str X1) := Eq.mp (by kernel_rfl) (hk 44 (by decide))
    refine Rg.does_func #[.string (str X1)] Try.func26 (by kernel_rfl) (by kernel_rfl) (by simp [h44]) (HO.out wx) ?_
    rintro e w' ⟨rfl, rfl⟩
    exact ⟨_, rfl, Below.refl _ _, rfl⟩
  · intro _ a wx hb hk
    have h45 : a.eval (.tmp 45) = .int .u32 (cc.toNat : Int) := Eq.mp (by kernel_rfl) (hk 45 (by decide))
    refine Rg.does_func #[.int .u32 (cc.toNat : Int)] Try.func25 (by kernel_rfl) (by kernel_rfl) (by simp [h45]) (crc_ref_tail_calls wx cc) ?_
    rintro e w' ⟨rfl, hb'⟩
    exact ⟨_, rfl, hb', rfl⟩
  · intro _ a wx hb hk
    have h0 : a.eval (.tmp 0) = .string (str b) := Eq.mp (by kernel_rfl) (hk 0 (by decide))
    exact Rg.does_move ⟨Below.refl _ _, h0⟩
  · intro _ a wx hb hk
    have h9 : a.eval (.tmp 9) = .int .i64 ((n : Int) + (x : Int) + 4) := Eq.mp (by kernel_rfl) (hk 9 (by decide))
    exact Rg.does_move ⟨Below.refl _ _, h9⟩
  · intro _ a wx hb hk
    have h48 : a.eval (.tmp 48) = .int .i64 ((n : Int) + (x : Int) + 4) := Eq.mp (by kernel_rfl) (hk 48 (by decide))
    exact Rg.does_bin .i64 _ _ _ h48 rfl (Sw.run_minus (by omega) (by omega)) ⟨Below.refl _ _, by show Value.int .i64 _ = _; congr 1; omega⟩
  · intro _ a wx hb hk
    have h9 : a.eval (.tmp 9) = .int .i64 ((n : Int) + (x : Int) + 4) := Eq.mp (by kernel_rfl) (hk 9 (by decide))
    exact Rg.does_move ⟨Below.refl _ _, h9⟩
  · intro _ a wx hb hk
    have h47 : a.eval (.tmp 47) = .string (str b) := Eq.mp (by kernel_rfl) (hk 47 (by decide))
    have h49 : a.eval (.tmp 49) = .int .i64 ((n : Int) + (x : Int)) := Eq.mp (by kernel_rfl) (hk 49 (by decide))
    have h50 : a.eval (.tmp 50) = .int .i64 ((n : Int) + (x : Int) + 4) := Eq.mp (by kernel_rfl) (hk 50 (by decide))
    refine Rg.does_slice _ (by rw [h47, Option.map_some, Option.map_some, h49, h50]; exact HS3.out wx) ⟨Below.refl _ _, rfl⟩
  · intro _ a wx hb hk
    have h46 : a.eval (.tmp 46) = .string (str (CrcPlain.tail cc)) := Eq.mp (by kernel_rfl) (hk 46 (by decide))
    have h51 : a.eval (.tmp 51) = .string (str X2) := Eq.mp (by kernel_rfl) (hk 51 (by decide))
    exact Sw.does_bin_str _ _ _ h46 h51 (HNe.out _ wx _) ⟨Below.refl _ _, rfl⟩
  intro vals wD hbD hL
  obtain ⟨g0, g1, g2, g3, g4, g5, g6, g7, g8, g9, g10, g11, _⟩ := hL
  have g11' : vals 11 = .bool (!c) := g11
  have HBD := Lib.hid hbD
  clear g0 g1 g2 g3 g4 g5 g6 g7 g8 g9 g10 g11 hbD
  simp only [Rg.putAll, List.setIfInBounds_toArray, List.set_cons_succ, List.set_cons_zero, g11']
  clear g11'
  cases c with
  | true =>
    have HR : Hid (takeF b = (X3, n + x + 4, 0)) := by show _ = _; rw [HSum.out, if_pos (of_decide_eq_true HC.out.symm)]
    go_wp2_with fail
    go_ret3
    exact ⟨by rw [HR.out]; rfl, HBD.out⟩
  | false =>
    have HR : Hid (takeF b = ([], 0, 12)) := by show _ = _; rw [HSum.out, if_neg (of_decide_eq_false HC.out.symm)]
    go_wp2_with fail
    go_ret3
    exact ⟨by rw [HR.out]; rfl, HBD.out⟩
end Go.Proofs.Ytgbnfipbedlmhaa
