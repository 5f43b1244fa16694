/-
  Word: the statement on double quotes. Conditions: the library's table lies where it was laid.
-/
import Derived.Test.YtfjkgeeaeolkhaaDoorWoRow
set_option linter.unusedVariables false
set_option linter.unusedSimpArgs false
set_option maxRecDepth 100000
namespace Go.Proofs.YtfjkgeeaeolkhaaDoor
open Go.RowKit Base Wo

theorem escS_snoc (s : Nm) (k : Nat) (hk : k < s.length) : escS (s.take (k + 1)) = escS (s.take k) ++ (if escC s[k] then [92, s[k]] else [s[k]]) := by
  rw [List.take_add_one, List.getElem?_eq_getElem hk]
  unfold escS
  rw [List.flatMap_append]
  simp
theorem escS_len (s : Nm) : (escS s).length ≤ 2 * s.length := by
  unfold escS
  induction s with
  | nil => exact Nat.le_refl _
  | cons c r ih => rw [List.flatMap_cons, List.length_append]; have h : (if escC c then [92, c] else [c]).length ≤ 2 := (by split <;> simp); rw [List.length_cons]; omega
theorem u8_eq {a b : UInt8} : (a.toNat : Int) = (b.toNat : Int) ↔ a = b := ⟨fun h => UInt8.toNat_inj.1 (by omega), fun h => by rw [h]⟩
set_option maxHeartbeats 4000000 in
theorem double_calls (W : World) (s : Nm) (hO : OpsT W) : Calls Tryd.prog 7 #[.string (str s)] W fun r W' => r = .returned (.bool true) ∧ Below W.heap.size W W' := by
  have HO := Lib.hid hO
  clear hO
  go_enter Tryd.func7, Tryd.ntmps7
  go_wp2_with fail
  refine (awake_calls W HO.out).mono ?_
  rintro r w1 ⟨rfl, hb⟩
  have HB1 := Lib.hid hb
  have HO1 := Lib.hid (HO.out.below hb)
  clear hb
  by_cases hl : s.length ≤ 300
  case neg =>
    have a1 : decide ((300 : Int) < (s.length : Int)) = true := decide_eq_true (by omega)
    have a2 : (300 : Int) < (s.length : Int) := by omega
    have a3 : decide ((300 : Int) < ((str s).size : Int)) = true := by rw [str_size]; exact a1
    go_wp2_with fail
    go_ret
    exact ⟨rfl, HB1.out⟩
  have a1 : decide ((300 : Int) < (s.length : Int)) = false := decide_eq_false (by omega)
  have a2 : ¬ ((300 : Int) < (s.length : Int)) := by omega
  have a3 : decide ((300 : Int) < ((str s).size : Int)) = false := by rw [str_size]; exact a1
  go_upto_region 8 with fail
  clear a1 a2 a3
  go_loopw [4, 5] (fun v4 v5 wr => ∃ k : Nat, k ≤ s.length ∧ v5 = .int .i64 (k : Int) ∧ v4 = .string (str (escS (s.take k))) ∧ wr = w1) (fun _ v5 _ => s.length - (intOf v5).toNat)
  case atStart => exact ⟨0, Nat.zero_le _, rfl, rfl, rfl⟩
  case round =>
    obtain ⟨k, hk, rfl, rfl, hwr⟩ := hrel
    have hwr2 := hwr.symm
    subst hwr2
    clear hwr
    by_cases hlt : k < s.length
    case neg =>
      obtain rfl : k = s.length := by omega
      rw [List.take_length]
      have a3 : decide (s.length < s.length) = false := decide_eq_false (by omega)
      have a1 : decide ((s.length : Int) < (s.length : Int)) = false := decide_eq_false (by omega)
      have a2 : ¬ ((s.length : Int) < (s.length : Int)) := by omega
      have a3 : decide ((s.length : Int) < ((str s).size : Int)) = false := by rw [str_size]; exact a1
      have hel := escS_len s
      have hc1 : 1 + (str (escS s)).size + 1 ≤ 9223372036854775807 := by rw [str_size]; omega
      have hc2 : 1 + (str (escS s)).size ≤ 9223372036854775807 := by rw [str_size]; omega
      have hE : (⟨#[34]⟩ : ByteArray) ++ str (escS s) ++ ⟨#[34]⟩ = str (34 :: (escS s ++ [34])) := by
        show str [34] ++ str (escS s) ++ str [34] = _
        rw [str_append, str_append]
        rfl
      have HP := Lib.hid (parse_calls w1 (34 :: (escS s ++ [34])) (by simp; omega) HO1.out)
      clear hel
      go_wp2_with fail
      refine HP.out.mono ?_
      rintro r w2 ⟨f, x, hx, hb, hp⟩
      obtain rfl := double_law hx
      obtain ⟨u, rfl, ht⟩ := hp
      have HB2 := Lib.hid (HB1.out.trans (hb.mono HB1.out.size))
      obtain ⟨g, c, rfl, _, _, _, hat⟩ := tree_at ht (Nat.zero_lt_one)
      have p0 := (hat 0 Nat.zero_lt_one).c0
      have p1 := (hat 0 Nat.zero_lt_one).c1
      have i0 := fun kd w' => idx_pt (g := g) (n := 1) (c := c) 0 (by decide) kd w'
      have s1 : ((str s).toList == (str s).toList) = true := beq_self_eq_true _
      simp only [quoP, List.length_cons, List.length_nil, List.getElem_cons_zero, Prt.k, Prt.t, Nat.zero_mul, Nat.zero_add, Int.cast_ofNat_Int] at p0 p1 i0
      clear hx hb ht hat hE hc1 hc2 a1 a2 a3
      simp only [List.length_cons, List.length_nil, Nat.zero_add]
      go_wp2_with fail
      go_ret
      exact ⟨rfl, HB2.out⟩
    have hix := fun W => Sw.run_at (P := Tryd.prog) (w := W) Tryd.underlying9 s .i64 k hlt
    have hsub : (s.take (k + 1)).drop k = [s[k]] := by
      rw [List.take_add_one, List.getElem?_eq_getElem hlt, List.drop_append_of_le_length (by rw [List.length_take]; omega), List.drop_of_length_le (by rw [List.length_take]; omega)]
      rfl
    have hsl : ∀ W, (Instr.sliceAt 9 (.string (str s)) (some (.int .i64 (k : Int))) (some (.int .i64 ((k : Int) + 1))) none).run Tryd.prog W = .ok (.string (str [s[k]])) W := fun W => by
      rw [← hsub]
      exact Sw.run_sub_lh (P := Tryd.prog) (w := W) Tryd.underlying9 s .i64 .i64 k (k + 1) (by omega) (by omega)
    clear hsub
    have HSn := Lib.hid (escS_snoc s k hlt)
    have hel := escS_len (s.take k)
    rw [List.length_take] at hel
    have hel2 : (escS (s.take k)).length ≤ 600 := by omega
    clear hel
    generalize s[k] = c at *
    generalize escS (s.take k) = o at *
    have a3 : decide (k < s.length) = true := decide_eq_true (by omega)
    have a1 : decide ((k : Int) < (s.length : Int)) = true := decide_eq_true (by omega)
    have a2 : (k : Int) < (s.length : Int) := by omega
    have a3 : decide ((k : Int) < ((str s).size : Int)) = true := by rw [str_size]; exact a1
    go_upto_region 10 with fail
    go_cut [41] (fun s41 wx => s41 = .bool (escC c) ∧ wx = w1)
    case first =>
      clear hsl
      by_cases h34 : c = 34
      case pos =>
        have d34 : decide ((c.toNat : Int) = 34) = true := by subst h34; rfl
        have e34 : (c.toNat : Int) = 34 := by subst h34; rfl
        have HF : Hid (escC c = true) := by show _ = _; subst h34; rfl
        clear h34
        go_wp2_with fail
        go_meet
        exact ⟨by rw [HF.out], rfl⟩
      have d34 : decide ((c.toNat : Int) = 34) = false := decide_eq_false (fun h => h34 (u8_eq (b := 34).1 h))
      have e34 : ¬ (c.toNat : Int) = 34 := fun h => h34 (u8_eq (b := 34).1 h)
      by_cases h92 : c = 92
      case pos =>
        have d92 : decide ((c.toNat : Int) = 92) = true := by subst h92; rfl
        have e92 : (c.toNat : Int) = 92 := by subst h92; rfl
        have HF : Hid (escC c = true) := by show _ = _; subst h92; rfl
        clear h92
        go_wp2_with fail
        go_meet
        exact ⟨by rw [HF.out], rfl⟩
      have d92 : decide ((c.toNat : Int) = 92) = false := decide_eq_false (fun h => h92 (u8_eq (b := 92).1 h))
      have e92 : ¬ (c.toNat : Int) = 92 := fun h => h92 (u8_eq (b := 92).1 h)
      by_cases h36 : c = 36
      case pos =>
        have d36 : decide ((c.toNat : Int) = 36) = true := by subst h36; rfl
        have e36 : (c.toNat : Int) = 36 := by subst h36; rfl
        have HF : Hid (escC c = true) := by show _ = _; subst h36; rfl
        clear h36
        go_wp2_with fail
        go_meet
        exact ⟨by rw [HF.out], rfl⟩
      have d36 : decide ((c.toNat : Int) = 36) = false := decide_eq_false (fun h => h36 (u8_eq (b := 36).1 h))
      have e36 : ¬ (c.toNat : Int) = 36 := fun h => h36 (u8_eq (b := 36).1 h)
      by_cases h96 : c = 96
      case pos =>
        have d96 : decide ((c.toNat : Int) = 96) = true := by subst h96; rfl
        have e96 : (c.toNat : Int) = 96 := by subst h96; rfl
        have HF : Hid (escC c = true) := by show _ = _; subst h96; rfl
        clear h96
        go_wp2_with fail
        go_meet
        exact ⟨by rw [HF.out], rfl⟩
      have d96 : decide ((c.toNat : Int) = 96) = false := decide_eq_false (fun h => h96 (u8_eq (b := 96).1 h))
      have e96 : ¬ (c.toNat : Int) = 96 := fun h => h96 (u8_eq (b := 96).1 h)
      have HF : Hid (escC c = false) := by show _ = _; unfold escC; simp [h34, h92, h36, h96]
      clear h34 h92 h36 h96
      go_wp2_with fail
      go_meet
      exact ⟨by rw [HF.out]; simp [e34, e92, e36, e96], rfl⟩
    case rest =>
      obtain ⟨rfl, hwc⟩ := hcut
      have hwc2 := hwc.symm
      subst hwc2
      clear hwc
      have HHt := Lib.hid hlt
      have s1 : (str o).size + 1 ≤ 9223372036854775807 := by rw [str_size]; omega
      have s2 : (str o).size + 1 + (str [c]).size ≤ 9223372036854775807 := by rw [str_size, str_size]; simp; omega
      have s3 : (str o).size + (str [c]).size ≤ 9223372036854775807 := by rw [str_size, str_size]; simp; omega
      clear hix hel2
      cases hec : escC c with
      | true =>
        rw [hec, if_pos rfl] at HSn
        clear hec
        go_wp2_with fail
        go_roundw
        case rel => exact ⟨k + 1, by have := HHt.out; omega, by go_num, by rw [HSn.out]; show Value.string (str o ++ str [92] ++ str [c]) = _; rw [str_append, str_append]; simp, trivial⟩
        case measure => simp [intOf]; omega
      | false =>
        rw [hec, if_neg (by decide)] at HSn
        clear hec
        go_wp2_with fail
        go_roundw
        case rel => exact ⟨k + 1, by have := HHt.out; omega, by go_num, by rw [HSn.out]; show Value.string (str o ++ str [c]) = _; rw [str_append], trivial⟩
        case measure => simp [intOf]; omega
end Go.Proofs.YtfjkgeeaeolkhaaDoor
