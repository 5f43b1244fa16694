/-
  SplitBlanks: blanks at either end, and more of them where there are some, change nothing: the walk.
-/
import Derived.Test.YtiemlgfcmldnoaaSpStrs
import Derived.Test.YtiemlgfcmldnoaaSpJoinsLaw
set_option linter.unusedVariables false
set_option maxRecDepth 100000
namespace Go.Proofs.Ytiemlgfcmldnoaa
open Go.RowKit Base

theorem rows_ofs {w : World} {a : Option Addr} {cap : Nat} {l : List (List UInt8)} {c : UInt8} (h : SRows w a l.length cap (l.map (ofS · c))) : ∃ b off, (∀ k (hk : k < l.length), w.cell? ⟨b, off + k * 2, none⟩ = some (.string (str l[k])) ∧ w.cell? ⟨b, off + k * 2 + 1, none⟩ = some (.string (str (List.replicate l[k].length c)))) ∧
    ∀ (kd : IntKind) (k : Nat) (w' : World), k < l.length → (Instr.indexAt 25 (.slice a l.length cap) (.int kd (k : Int))).run Try.prog w' = .ok (.pointer (some ⟨b, off + k * 2, none⟩)) w' := by
  obtain ⟨b, off, h1, h2⟩ := rows_at h
  refine ⟨b, off, fun k hk => ?_, h2⟩
  have h3 := h1 k (by rw [List.length_map]; exact hk)
  rw [List.getElem_map, ofS_text, ofS_mask] at h3
  exact h3
theorem neq_row_same (t m : ByteArray) (w : World) : (binOp .neq 23 (.agg #[.string t, .string m]) (.agg #[.string t, .string m])).run Try.prog w = .ok (.bool false) w := by
  rw [run_neq_struct, eq_row]
  simp [Result.andThen]
theorem ones_zero (l : List (List UInt8)) (k : Nat) (h : k < l.length) (hk : k = 0) : onesA (l.take (k + 1)) = onesA (l.take k) ++ l[k] := by
  subst hk
  rw [List.take_succ_eq_append_getElem h]
  simp [onesA]
theorem ones_more (l : List (List UInt8)) (k : Nat) (h : k < l.length) (hk : 0 < k) : onesA (l.take (k + 1)) = onesA (l.take k) ++ [32] ++ l[k] := by
  rw [onesA_take l k h, if_neg (by omega), List.append_assoc]
set_option maxHeartbeats 8000000 in
theorem split_blanks (w : World) (a0 : Option Addr) (n cap : Nat) (l : List (List UInt8)) (h0 : Strs w a0 n cap l) (mo : Int) (hmo : (Lit.int .u8 mo).wf = true) : Calls Try.prog 6 #[.slice a0 n cap, .int .u8 mo] w fun e w' => e = .returned (.bool true) ∧ Below w.heap.size w w' := by
  obtain ⟨c0, rfl⟩ := u8_of_wf hmo
  clear hmo
  obtain rfl := h0.len
  have hcap := h0.2.2.1
  have hncap := h0.2.1
  unfold maxLen at hcap
  have H0 := Lib.hid h0
  clear h0
  obtain ⟨m0, hm0, hm1⟩ : ∃ m0 : Nat, m0 = c0.toNat ∧ m0 ≤ 255 := ⟨_, rfl, by have := c0.toNat_lt; omega⟩
  rw [← hm0]
  clear hm0 c0
  have hK : ∃ K : Nat, K = m0 % 5 + 1 ∧ 0 < K ∧ K ≤ 5 := ⟨_, rfl, by omega, by omega⟩
  obtain ⟨K, hK1, hK2, hK3⟩ := hK
  have HK1 := Lib.hid hK1
  clear hK1
  go_enter Try.func6, Try.ntmps6
  go_wp2_with fail
  refine (awake_calls w).mono ?_
  rintro e w1 ⟨rfl, hb1⟩
  obtain ⟨b, off, hrow, hidx⟩ := at_strs (H0.out.below stable_strAt hb1)
  have HRow := Lib.hid hrow
  have HIdx := Lib.hid hidx
  have HB1 := Lib.hid hb1
  clear hb1 hrow hidx H0
  by_cases hbig : 30 < l.length
  · have a1 : decide ((30 : Int) < (l.length : Int)) = true := decide_eq_true (by omega)
    have a2 : (30 : Int) < (l.length : Int) := by omega
    go_wp2_with fail
    go_ret
    exact ⟨rfl, HB1.out⟩
  have a1 : decide ((30 : Int) < (l.length : Int)) = false := decide_eq_false (by omega)
  have a2 : ¬ ((30 : Int) < (l.length : Int)) := by omega
  go_wp2_with fail
  have hmk : (m0 : Int) % 5 + 1 = (K : Int) := by have := HK1.out; omega
  rw [hmk]
  clear hmk
  go_loopw [6, 7, 9] (fun v6 v7 v9 wr => ∃ k : Nat, k ≤ l.length ∧ v9 = .int .i64 k ∧ v6 = .string (str (onesA (l.take k))) ∧ v7 = .string (str (manyB K (l.take k))) ∧ (∀ x ∈ l.take k, x.length ≤ 30 ∧ wordy x) ∧ w1 = wr) (fun _ _ v9 _ => l.length - (intOf v9).toNat)
  case atStart => exact ⟨0, Nat.zero_le _, rfl, rfl, rfl, by simp, rfl⟩
  case round =>
    obtain ⟨k, hk, rfl, rfl, rfl, hall, rfl⟩ := hrel
    have HA := Lib.hid hall
    clear hall
    by_cases hlt : k < l.length
    · have hc := HRow.out k hlt
      have hix := fun W => HIdx.out .i64 k W hlt
      have HT0 := Lib.hid (ones_zero l k hlt)
      have HT1 := Lib.hid (ones_more l k hlt)
      have HM := Lib.hid (manyB_take K l k hlt)
      have HN : Hid (wordy l[k] → l[k].length ≤ 30 → ∀ x ∈ l.take (k + 1), x.length ≤ 30 ∧ wordy x) := by
        show _ → _ → _
        intro h1 h2 x hx
        rw [List.take_succ_eq_append_getElem hlt] at hx
        rcases List.mem_append.1 hx with hx | hx
        · exact HA.out x hx
        · rw [List.mem_singleton.1 hx]; exact ⟨h2, h1⟩
      have hlen : (onesA (l.take k)).length ≤ 30 * 31 := Nat.le_trans (onesA_len (l.take k) 30 (fun x hx => (HA.out x hx).1)) (Nat.mul_le_mul_right _ (by rw [List.length_take]; omega))
      have hlen2 : (manyB K (l.take k)).length ≤ 30 * 40 := Nat.le_trans (manyB_len K (l.take k) 30 (fun x hx => (HA.out x hx).1)) (Nat.mul_le_mul (by rw [List.length_take]; omega) (by omega))
      generalize l[k]'hlt = x at *
      generalize onesA (l.take k) = pre at *
      generalize manyB K (l.take k) = prb at *
      have Hlen := Lib.hid hlen
      have Hlen2 := Lib.hid hlen2
      clear hlen hlen2
      have hxs : (str x).size = x.length := rfl
      have u3 : decide (k < l.length) = true := decide_eq_true (by omega)
      have u1 : decide ((k : Int) < (l.length : Int)) = true := decide_eq_true (by omega)
      have u2 : (k : Int) < (l.length : Int) := by omega
      by_cases hx : 30 < x.length
      · have v1 : decide ((30 : Int) < ((str x).size : Int)) = true := decide_eq_true (by omega)
        have v2 : (30 : Int) < ((str x).size : Int) := by omega
        go_wp2_with fail
        go_ret
        exact ⟨rfl, HB1.out⟩
      have v1 : decide ((30 : Int) < ((str x).size : Int)) = false := decide_eq_false (by omega)
      have v2 : ¬ ((30 : Int) < ((str x).size : Int)) := by omega
      have htl : (str x).toList = x := str_toList x
      by_cases hx0 : x = []
      · subst hx0
        have t4 : (str []).toList.isEmpty = true := by rw [str_toList]; rfl
        go_wp2_with fail
        go_ret
        exact ⟨rfl, HB1.out⟩
      have t4 : (str x).toList.isEmpty = false := by rw [str_toList]; simpa using hx0
      have t5 : x.isEmpty = false := by simpa using hx0
      have t6 : (x == []) = false := by simpa using hx0
      have Hx0 := Lib.hid hx0
      clear hx0
      go_wp2_with fail
      go_loopw [10] (fun v10 wr => ∃ q : Nat, q ≤ x.length ∧ v10 = .int .i64 q ∧ (∀ d ∈ x.take q, d ∉ ([32, 9, 10] : List UInt8)) ∧ w1 = wr) (fun v10 _ => x.length - (intOf v10).toNat)
      case atStart => exact ⟨0, Nat.zero_le _, rfl, by simp, rfl⟩
      case round =>
        obtain ⟨q, hq, rfl, hno, rfl⟩ := hrel
        have HNo := Lib.hid hno
        clear hno
        by_cases hql : q < x.length
        · have hat := fun W => Sw.run_at (P := Try.prog) (w := W) Try.underlying9 x .i64 q hql
          have HTk := Lib.hid (List.take_succ_eq_append_getElem hql)
          generalize x[q]'hql = c at *
          have y3 : decide (q < (str x).size) = true := decide_eq_true (by omega)
          have y1 : decide ((q : Int) < ((str x).size : Int)) = true := decide_eq_true (by omega)
          have y2 : (q : Int) < ((str x).size : Int) := by omega
          by_cases h32 : c = 32
          · have d1 : decide ((c.toNat : Int) = 32) = true := by subst h32; rfl
            have d2 : (c.toNat : Int) = 32 := by subst h32; rfl
            clear h32
            go_wp2_with fail
            go_ret
            exact ⟨rfl, HB1.out⟩
          have d1 : decide ((c.toNat : Int) = 32) = false := decide_eq_false (fun h => h32 (u8_eq (b := 32).1 h))
          have d2 : ¬ (c.toNat : Int) = 32 := fun h => h32 (u8_eq (b := 32).1 h)
          have d2b : ((c.toNat : Int) == 32) = false := by simpa using d2
          by_cases h9 : c = 9
          · have d3 : decide ((c.toNat : Int) = 9) = true := by subst h9; rfl
            have d4 : (c.toNat : Int) = 9 := by subst h9; rfl
            clear h32 h9
            go_wp2_with fail
            go_ret
            exact ⟨rfl, HB1.out⟩
          have d3 : decide ((c.toNat : Int) = 9) = false := decide_eq_false (fun h => h9 (u8_eq (b := 9).1 h))
          have d4 : ¬ (c.toNat : Int) = 9 := fun h => h9 (u8_eq (b := 9).1 h)
          have d4b : ((c.toNat : Int) == 9) = false := by simpa using d4
          by_cases h10 : c = 10
          · have d5 : decide ((c.toNat : Int) = 10) = true := by subst h10; rfl
            have d6 : (c.toNat : Int) = 10 := by subst h10; rfl
            clear h32 h9 h10
            go_wp2_with fail
            go_ret
            exact ⟨rfl, HB1.out⟩
          have d5 : decide ((c.toNat : Int) = 10) = false := decide_eq_false (fun h => h10 (u8_eq (b := 10).1 h))
          have d6 : ¬ (c.toNat : Int) = 10 := fun h => h10 (u8_eq (b := 10).1 h)
          have d6b : ((c.toNat : Int) == 10) = false := by simpa using d6
          have HF : Hid (∀ d ∈ x.take (q + 1), d ∉ ([32, 9, 10] : List UInt8)) := by
            show ∀ d ∈ x.take (q + 1), d ∉ ([32, 9, 10] : List UInt8)
            rw [HTk.out]
            intro d hd
            rcases List.mem_append.1 hd with hd | hd
            · exact HNo.out d hd
            · rw [List.mem_singleton.1 hd]; simp [h32, h9, h10]
          clear h32 h9 h10
          go_wp2_with fail
          go_roundw
          case rel => exact ⟨q + 1, by omega, by go_num, HF.out, trivial⟩
          case measure => simp [intOf]; omega
        · obtain rfl : q = x.length := by omega
          have y3 : decide (x.length < (str x).size) = false := decide_eq_false (by omega)
          have y1 : decide ((x.length : Int) < ((str x).size : Int)) = false := decide_eq_false (by omega)
          have y2 : ¬ ((x.length : Int) < ((str x).size : Int)) := by omega
          have HW : Hid (wordy x) := ⟨Hx0.out, fun d hd => HNo.out d (by rw [List.take_length]; exact hd)⟩
          clear HNo
          have hp1 : ¬ 9223372036854775807 < (str pre).size + (str x).size := by rw [str_size, str_size]; have := Hlen.out; omega
          have hp2 : ¬ 9223372036854775807 < (str pre).size + (⟨#[32]⟩ : ByteArray).size := by rw [str_size]; have := Hlen.out; show ¬ _ < _ + 1; omega
          have hap : str pre ++ (⟨#[32]⟩ : ByteArray) = str (pre ++ [32]) := by rw [show (⟨#[32]⟩ : ByteArray) = str [32] from rfl, str_append]
          have hp3 : ¬ 9223372036854775807 < (str (pre ++ [32])).size + (str x).size := by rw [str_size, str_size, List.length_append]; have := Hlen.out; simp; omega
          by_cases hk0 : k = 0
          · have z01 : decide ((0 : Int) < (k : Int)) = false := decide_eq_false (by omega)
            have z02 : ¬ ((0 : Int) < (k : Int)) := by omega
            have Hk0 := Lib.hid hk0
            clear hk0
            go_wp2_with fail
            go_loopw [7, 12] (fun v7 v12 wr => ∃ q : Nat, q ≤ K ∧ v12 = .int .i64 q ∧ v7 = .string (str (prb ++ gapsL q)) ∧ w1 = wr) (fun _ v12 _ => K - (intOf v12).toNat)
            case atStart => exact ⟨0, Nat.zero_le _, rfl, by rw [show gapsL 0 = [] from rfl, List.append_nil], rfl⟩
            case round =>
              obtain ⟨q, hq, rfl, rfl, rfl⟩ := hrel
              have hgl := gaps_len q
              by_cases hqK : q < K
              · have hg : str (prb ++ gapsL q) ++ (⟨#[9, 32]⟩ : ByteArray) = str (prb ++ gapsL (q + 1)) := by rw [show (⟨#[9, 32]⟩ : ByteArray) = str [9, 32] from rfl, str_append, gaps_succ, List.append_assoc]
                have hp5 : ¬ 9223372036854775807 < (str (prb ++ gapsL q)).size + (⟨#[9, 32]⟩ : ByteArray).size := by rw [str_size, List.length_append]; have := Hlen2.out; show ¬ _ < _ + 2; omega
                have HGL := Lib.hid hgl
                clear hgl
                have z3 : decide (q < K) = true := decide_eq_true (by omega)
                have z1 : decide ((q : Int) < (K : Int)) = true := decide_eq_true (by omega)
                have z2 : (q : Int) < (K : Int) := by omega
                go_wp2_with fail
                go_roundw
                case rel => exact ⟨q + 1, by omega, by go_num, rfl, trivial⟩
                case measure => simp [intOf]; omega
              · obtain rfl : q = K := by omega
                have hp6 : ¬ 9223372036854775807 < (str (prb ++ gapsL q)).size + (str x).size := by rw [str_size, str_size, List.length_append]; have := Hlen2.out; omega
                have HGL := Lib.hid hgl
                clear hgl
                have z3 : decide (q < q) = false := decide_eq_false (by omega)
                have z1 : decide ((q : Int) < (q : Int)) = false := decide_eq_false (by omega)
                have z2 : ¬ ((q : Int) < (q : Int)) := by omega
                go_wp2_with fail
                go_roundw
                case rel => exact ⟨k + 1, by omega, by go_num, by rw [str_append, HT0.out Hk0.out], by rw [str_append, HM.out], HN.out HW.out (by omega), trivial⟩
                case measure => simp [intOf]; omega
          · have z01 : decide ((0 : Int) < (k : Int)) = true := decide_eq_true (by omega)
            have z02 : (0 : Int) < (k : Int) := by omega
            have Hk0 := Lib.hid hk0
            clear hk0
            go_wp2_with fail
            go_loopw [7, 12] (fun v7 v12 wr => ∃ q : Nat, q ≤ K ∧ v12 = .int .i64 q ∧ v7 = .string (str (prb ++ gapsL q)) ∧ w1 = wr) (fun _ v12 _ => K - (intOf v12).toNat)
            case atStart => exact ⟨0, Nat.zero_le _, rfl, by rw [show gapsL 0 = [] from rfl, List.append_nil], rfl⟩
            case round =>
              obtain ⟨q, hq, rfl, rfl, rfl⟩ := hrel
              have hgl := gaps_len q
              by_cases hqK : q < K
              · have hg : str (prb ++ gapsL q) ++ (⟨#[9, 32]⟩ : ByteArray) = str (prb ++ gapsL (q + 1)) := by rw [show (⟨#[9, 32]⟩ : ByteArray) = str [9, 32] from rfl, str_append, gaps_succ, List.append_assoc]
                have hp5 : ¬ 9223372036854775807 < (str (prb ++ gapsL q)).size + (⟨#[9, 32]⟩ : ByteArray).size := by rw [str_size, List.length_append]; have := Hlen2.out; show ¬ _ < _ + 2; omega
                have HGL := Lib.hid hgl
                clear hgl
                have z3 : decide (q < K) = true := decide_eq_true (by omega)
                have z1 : decide ((q : Int) < (K : Int)) = true := decide_eq_true (by omega)
                have z2 : (q : Int) < (K : Int) := by omega
                go_wp2_with fail
                go_roundw
                case rel => exact ⟨q + 1, by omega, by go_num, rfl, trivial⟩
                case measure => simp [intOf]; omega
              · obtain rfl : q = K := by omega
                have hp6 : ¬ 9223372036854775807 < (str (prb ++ gapsL q)).size + (str x).size := by rw [str_size, str_size, List.length_append]; have := Hlen2.out; omega
                have HGL := Lib.hid hgl
                clear hgl
                have z3 : decide (q < q) = false := decide_eq_false (by omega)
                have z1 : decide ((q : Int) < (q : Int)) = false := decide_eq_false (by omega)
                have z2 : ¬ ((q : Int) < (q : Int)) := by omega
                go_wp2_with fail
                go_roundw
                case rel => exact ⟨k + 1, by omega, by go_num, by rw [str_append, HT1.out (by have := Hk0.out; omega)], by rw [str_append, HM.out], HN.out HW.out (by omega), trivial⟩
                case measure => simp [intOf]; omega
    · obtain rfl : k = l.length := by omega
      have u3 : decide (l.length < l.length) = false := decide_eq_false (by omega)
      have u1 : decide ((l.length : Int) < (l.length : Int)) = false := decide_eq_false (by omega)
      have u2 : ¬ ((l.length : Int) < (l.length : Int)) := by omega
      rw [List.take_length] at *
      have hlen : (onesA l).length ≤ 30 * 31 := Nat.le_trans (onesA_len l 30 (fun x hx => (HA.out x hx).1)) (Nat.mul_le_mul_right _ (by omega))
      have hlen2 : (manyB K l).length ≤ 30 * 40 := Nat.le_trans (manyB_len K l 30 (fun x hx => (HA.out x hx).1)) (Nat.mul_le_mul (by omega) (by omega))
      have hlen3 : (manyB K l ++ [10]).length ≤ 30 * 40 + 1 := by rw [List.length_append]; simp; omega
      have HL : Hid (∀ x ∈ l, wordy x) := fun x hx => (HA.out x hx).2
      clear HA
      have HOf := Lib.hid fun W => of_calls2 W (onesA l) 115 (by omega)
      have HSp := Lib.hid fun W => split_of_calls W (onesA l) [32, 9, 10] 115 (by omega)
      rw [ones_split l HL.out] at HSp
      have HOf2 := Lib.hid fun W => of_calls2 W (manyB K l ++ [10]) 115 (by omega)
      have HSp2 := Lib.hid fun W => split_of_calls W (manyB K l ++ [10]) [32, 9, 10] 115 (by omega)
      rw [many_split K hK2 l HL.out] at HSp2
      have hno1 : ¬ 9223372036854775807 < (str (manyB K l)).size + (⟨#[10]⟩ : ByteArray).size := by rw [str_size]; show ¬ _ < _ + 1; omega
      have hap : str (manyB K l) ++ (⟨#[10]⟩ : ByteArray) = str (manyB K l ++ [10]) := by rw [show (⟨#[10]⟩ : ByteArray) = str [10] from rfl, str_append]
      clear hlen hlen2 hlen3 HL
      generalize onesA l = s at *
      generalize manyB K l ++ [10] = s2 at *
      generalize manyB K l = s3 at *
      go_wp2_with fail
      refine (HOf.out w1).mono ?_
      rintro e w2 ⟨rfl, hb2⟩
      have HB2 := Lib.hid (HB1.out.trans (hb2.mono HB1.out.size))
      have HC2 : Hid (∀ k (hk : k < l.length), w2.cell? ⟨b, off + k, none⟩ = some (.string (str l[k]))) := fun k hk => cell_below hb2 (Nat.le_refl _) (HRow.out k hk)
      clear hb2 HB1 HRow
      go_wp2_with fail
      refine (HSp.out w2).mono ?_
      rintro e w3 ⟨v, rfl, hown, hb3⟩
      obtain ⟨a1, k1, rfl, hrow1⟩ := Ap.own_cells (f := rowCells) (by decide) rowCells_len hown
      have HB3 := Lib.hid (HB2.out.trans (hb3.mono HB2.out.size))
      have HC3 : Hid (∀ k (hk : k < l.length), w3.cell? ⟨b, off + k, none⟩ = some (.string (str l[k]))) := fun k hk => cell_below hb3 (Nat.le_refl _) (HC2.out k hk)
      simp only [List.length_map] at hrow1 ⊢
      have HR1 := Lib.hid hrow1
      clear hown hb3 hrow1 HC2 HB2 HOf HSp
      go_wp2_with fail
      refine (HOf2.out w3).mono ?_
      rintro e w4 ⟨rfl, hb4⟩
      have HB4 := Lib.hid (HB3.out.trans (hb4.mono HB3.out.size))
      have HC4 : Hid (∀ k (hk : k < l.length), w4.cell? ⟨b, off + k, none⟩ = some (.string (str l[k]))) := fun k hk => cell_below hb4 (Nat.le_refl _) (HC3.out k hk)
      have HR4 := Lib.hid (HR1.out.below (Ap.stable_cellsAt rowCells) hb4)
      clear hb4 HB3 HC3 HR1
      go_wp2_with fail
      refine (HSp2.out w4).mono ?_
      rintro e w5 ⟨v, rfl, hown, hb5⟩
      obtain ⟨a2, k2, rfl, hrow2⟩ := Ap.own_cells (f := rowCells) (by decide) rowCells_len hown
      have HB5 := Lib.hid (HB4.out.trans (hb5.mono HB4.out.size))
      have HC5 : Hid (∀ k (hk : k < l.length), w5.cell? ⟨b, off + k, none⟩ = some (.string (str l[k]))) := fun k hk => cell_below hb5 (Nat.le_refl _) (HC4.out k hk)
      have hrow5 := HR4.out.below (Ap.stable_cellsAt rowCells) hb5
      simp only [List.length_map] at hrow2 ⊢
      obtain ⟨b1, o1, hd1, hi1⟩ := rows_ofs hrow5
      obtain ⟨b2, o2, hd2, hi2⟩ := rows_ofs hrow2
      have HD1 := Lib.hid hd1
      have HD2 := Lib.hid hd2
      have HI1 := Lib.hid hi1
      have HI2 := Lib.hid hi2
      clear hown hb5 hrow2 hrow5 HC4 HB4 HOf2 HSp2 HR4 hd1 hd2 hi1 hi2
      go_wp2_with fail
      go_loopw [15] (fun v15 wr => ∃ k : Nat, k ≤ l.length ∧ v15 = .int .i64 k ∧ Below w5.heap.size w5 wr) (fun v15 _ => l.length - (intOf v15).toNat)
      case atStart => exact ⟨0, Nat.zero_le _, rfl, Below.refl _ _⟩
      case round =>
        obtain ⟨k, hk, rfl, hb⟩ := hrel
        have HB := Lib.hid hb
        clear hb
        by_cases hlt : k < l.length
        · have HX1 := Lib.hid fun W => HI1.out .i64 k W hlt
          have HX2 := Lib.hid fun W => HI2.out .i64 k W hlt
          have HX0 := Lib.hid fun W => HIdx.out .i64 k W hlt
          have C0 := Lib.hid (cell_below HB.out (Nat.le_refl _) (HC5.out k hlt))
          have A0 := Lib.hid (cell_below HB.out (Nat.le_refl _) (HD1.out k hlt).1)
          have A1 := Lib.hid (cell_below HB.out (Nat.le_refl _) (HD1.out k hlt).2)
          have B0 := Lib.hid (cell_below HB.out (Nat.le_refl _) (HD2.out k hlt).1)
          have B1 := Lib.hid (cell_below HB.out (Nat.le_refl _) (HD2.out k hlt).2)
          generalize l[k]'hlt = x at *
          generalize o1 + k * 2 = q1 at *
          generalize o2 + k * 2 = q2 at *
          generalize off + k = q0 at *
          have u3 : decide (k < l.length) = true := decide_eq_true (by omega)
          have u1 : decide ((k : Int) < (l.length : Int)) = true := decide_eq_true (by omega)
          have u2 : (k : Int) < (l.length : Int) := by omega
          go_wp2_with fail
          refine Rg.wp_region_rgl [] [Rg.Is (.slice a1 l.length k1), Rg.Is (.int .i64 (k : Int)), Rg.Is (.pointer (some ⟨b1, q1, none⟩)), Rg.Is (.pointer (some ⟨b1, q1, none⟩)), Rg.Is (.string (str x)), Rg.Is (.slice a0 l.length cap), Rg.Is (.int .i64 (k : Int)), Rg.Is (.pointer (some ⟨b, q0, none⟩)), Rg.Is (.string (str x)), Rg.Is (.bool false), Rg.Is (.bool false), Rg.Is (.slice a2 l.length k2), Rg.Is (.int .i64 (k : Int)), Rg.Is (.pointer (some ⟨b2, q2, none⟩)), Rg.Is (.agg #[.string (str x), .string (str (List.replicate x.length 115))]), Rg.Is (.slice a1 l.length k1), Rg.Is (.int .i64 (k : Int)), Rg.Is (.pointer (some ⟨b1, q1, none⟩)), Rg.Is (.agg #[.string (str x), .string (str (List.replicate x.length 115))]), Rg.Is (.bool false), Rg.Is (.bool false)] (by kernel_rfl) (by kernel_rfl) (by kernel_rfl) ⟨Rg.st_is _, Rg.st_is _, Rg.st_is _, Rg.st_is _, Rg.st_is _, Rg.st_is _, Rg.st_is _, Rg.st_is _, Rg.st_is _, Rg.st_is _, Rg.st_is _, Rg.st_is _, Rg.st_is _, Rg.st_is _, Rg.st_is _, Rg.st_is _, Rg.st_is _, Rg.st_is _, Rg.st_is _, Rg.st_is _, Rg.st_is _, trivial⟩ ⟨rfl, rfl, rfl, rfl, rfl, rfl, rfl, rfl, rfl, rfl, rfl, ⟨rfl, fun _ _ h => h⟩, ⟨rfl, fun _ _ h => h⟩, ⟨rfl, fun _ _ h => h⟩, ⟨rfl, fun _ _ h => h⟩, ⟨rfl, fun _ _ h => h⟩, ⟨rfl, fun _ _ h => h⟩, ⟨rfl, fun _ _ h => h⟩, ⟨rfl, fun _ _ h => h⟩, ⟨rfl, fun _ _ h => h⟩, rfl, trivial⟩ ⟨?_, ?_, ?_, ?_, ?_, ?_, ?_, ?_, ?_, ?_, ?_, ?_, ?_, ?_, ?_, ?_, ?_, ?_, ?_, ?_, ?_, trivial⟩ ?_
          · intro _ a wx hb hk
            have h13 : a.eval (.tmp 13) = .slice a1 l.length k1 := Eq.mp (by kernel_rfl) (hk 13 (by decide))
            exact Rg.does_move ⟨Below.refl _ _, h13⟩
          · intro _ a wx hb hk
            have h15 : a.eval (.tmp 15) = .int .i64 (k : Int) := Eq.mp (by kernel_rfl) (hk 15 (by decide))
            exact Rg.does_move ⟨Below.refl _ _, h15⟩
          · intro _ a wx hb hk
            have h119 : a.eval (.tmp 119) = .slice a1 l.length k1 := Eq.mp (by kernel_rfl) (hk 119 (by decide))
            have h120 : a.eval (.tmp 120) = .int .i64 (k : Int) := Eq.mp (by kernel_rfl) (hk 120 (by decide))
            exact Rg.does_index _ _ _ h119 h120 (HX1.out wx) ⟨Below.refl _ _, rfl⟩
          · intro _ a wx hb hk
            have h121 : a.eval (.tmp 121) = .pointer (some ⟨b1, q1, none⟩) := Eq.mp (by kernel_rfl) (hk 121 (by decide))
            exact Rs.does_field _ _ h121 (row_f0 _ _ wx) ⟨Below.refl _ _, rfl⟩
          · intro _ a wx hb hk
            have h122 : a.eval (.tmp 122) = .pointer (some ⟨b1, q1, none⟩) := Eq.mp (by kernel_rfl) (hk 122 (by decide))
            exact Rg.does_load _ _ h122 (load_sp_str (cell_below hb (Nat.le_refl _) A0.out)) ⟨Below.refl _ _, rfl⟩
          · intro _ a wx hb hk
            have h0 : a.eval (.tmp 0) = .slice a0 l.length cap := Eq.mp (by kernel_rfl) (hk 0 (by decide))
            exact Rg.does_move ⟨Below.refl _ _, h0⟩
          · intro _ a wx hb hk
            have h15 : a.eval (.tmp 15) = .int .i64 (k : Int) := Eq.mp (by kernel_rfl) (hk 15 (by decide))
            exact Rg.does_move ⟨Below.refl _ _, h15⟩
          · intro _ a wx hb hk
            have h124 : a.eval (.tmp 124) = .slice a0 l.length cap := Eq.mp (by kernel_rfl) (hk 124 (by decide))
            have h125 : a.eval (.tmp 125) = .int .i64 (k : Int) := Eq.mp (by kernel_rfl) (hk 125 (by decide))
            exact Rg.does_index _ _ _ h124 h125 (HX0.out wx) ⟨Below.refl _ _, rfl⟩
          · intro _ a wx hb hk
            have h126 : a.eval (.tmp 126) = .pointer (some ⟨b, q0, none⟩) := Eq.mp (by kernel_rfl) (hk 126 (by decide))
            exact Rg.does_load _ _ h126 (load_sp_str (cell_below hb (Nat.le_refl _) C0.out)) ⟨Below.refl _ _, rfl⟩
          · intro _ a wx hb hk
            have h123 : a.eval (.tmp 123) = .string (str x) := Eq.mp (by kernel_rfl) (hk 123 (by decide))
            have h127 : a.eval (.tmp 127) = .string (str x) := Eq.mp (by kernel_rfl) (hk 127 (by decide))
            exact Sw.does_bin_str _ _ _ h123 h127 (neq_str_same _ wx) ⟨Below.refl _ _, rfl⟩
          · intro _ a wx hb hk
            have h128 : a.eval (.tmp 128) = .bool false := Eq.mp (by kernel_rfl) (hk 128 (by decide))
            exact Rg.does_move ⟨Below.refl _ _, h128⟩
          · intro _ a wx hb hk
            have h14 : a.eval (.tmp 14) = .slice a2 l.length k2 := Eq.mp (by kernel_rfl) (hk 14 (by decide))
            exact Rg.does_move ⟨Below.refl _ _, h14⟩
          · intro _ a wx hb hk
            have h15 : a.eval (.tmp 15) = .int .i64 (k : Int) := Eq.mp (by kernel_rfl) (hk 15 (by decide))
            exact Rg.does_move ⟨Below.refl _ _, h15⟩
          · intro _ a wx hb hk
            have h130 : a.eval (.tmp 130) = .slice a2 l.length k2 := Eq.mp (by kernel_rfl) (hk 130 (by decide))
            have h131 : a.eval (.tmp 131) = .int .i64 (k : Int) := Eq.mp (by kernel_rfl) (hk 131 (by decide))
            exact Rg.does_index _ _ _ h130 h131 (HX2.out wx) ⟨Below.refl _ _, rfl⟩
          · intro _ a wx hb hk
            have h132 : a.eval (.tmp 132) = .pointer (some ⟨b2, q2, none⟩) := Eq.mp (by kernel_rfl) (hk 132 (by decide))
            exact Rg.does_load _ _ h132 (load_row (cell_below hb (Nat.le_refl _) B0.out) (cell_below hb (Nat.le_refl _) B1.out)) ⟨Below.refl _ _, rfl⟩
          · intro _ a wx hb hk
            have h13 : a.eval (.tmp 13) = .slice a1 l.length k1 := Eq.mp (by kernel_rfl) (hk 13 (by decide))
            exact Rg.does_move ⟨Below.refl _ _, h13⟩
          · intro _ a wx hb hk
            have h15 : a.eval (.tmp 15) = .int .i64 (k : Int) := Eq.mp (by kernel_rfl) (hk 15 (by decide))
            exact Rg.does_move ⟨Below.refl _ _, h15⟩
          · intro _ a wx hb hk
            have h134 : a.eval (.tmp 134) = .slice a1 l.length k1 := Eq.mp (by kernel_rfl) (hk 134 (by decide))
            have h135 : a.eval (.tmp 135) = .int .i64 (k : Int) := Eq.mp (by kernel_rfl) (hk 135 (by decide))
            exact Rg.does_index _ _ _ h134 h135 (HX1.out wx) ⟨Below.refl _ _, rfl⟩
          · intro _ a wx hb hk
            have h136 : a.eval (.tmp 136) = .pointer (some ⟨b1, q1, none⟩) := Eq.mp (by kernel_rfl) (hk 136 (by decide))
            exact Rg.does_load _ _ h136 (load_row (cell_below hb (Nat.le_refl _) A0.out) (cell_below hb (Nat.le_refl _) A1.out)) ⟨Below.refl _ _, rfl⟩
          · intro _ a wx hb hk
            have h133 : a.eval (.tmp 133) = .agg #[.string (str x), .string (str (List.replicate x.length 115))] := Eq.mp (by kernel_rfl) (hk 133 (by decide))
            have h137 : a.eval (.tmp 137) = .agg #[.string (str x), .string (str (List.replicate x.length 115))] := Eq.mp (by kernel_rfl) (hk 137 (by decide))
            exact does_bin_agg _ _ _ h133 h137 (by kernel_rfl) (neq_row_same _ _ wx) ⟨Below.refl _ _, rfl⟩
          · intro _ a wx hb hk
            have h129 : a.eval (.tmp 129) = .bool false := Eq.mp (by kernel_rfl) (hk 129 (by decide))
            have h138 : a.eval (.tmp 138) = .bool false := Eq.mp (by kernel_rfl) (hk 138 (by decide))
            exact Rg.does_pick false h129 ⟨Below.refl _ _, h138⟩
          intro vals wD hbD hL
          obtain ⟨g0, g1, g2, g3, g4, g5, g6, g7, g8, g9, g10, g11, g12, g13, g14, g15, g16, g17, g18, g19, g20, _⟩ := hL
          have g20' : vals 20 = .bool false := g20
          have HBD := Lib.hid hbD
          clear g0 g1 g2 g3 g4 g5 g6 g7 g8 g9 g10 g11 g12 g13 g14 g15 g16 g17 g18 g19 g20 hbD
          simp only [Rg.putAll, List.setIfInBounds_toArray, List.set_cons_succ, List.set_cons_zero, g20']
          clear g20'
          go_wp2_with fail
          go_roundw
          case rel => exact ⟨k + 1, by omega, by go_num, HB.out.trans (HBD.out.mono HB.out.size)⟩
          case measure => simp [intOf]; omega
        · obtain rfl : k = l.length := by omega
          have u3 : decide (l.length < l.length) = false := decide_eq_false (by omega)
          have u1 : decide ((l.length : Int) < (l.length : Int)) = false := decide_eq_false (by omega)
          have u2 : ¬ ((l.length : Int) < (l.length : Int)) := by omega
          go_wp2_with fail
          go_ret
          exact ⟨rfl, HB5.out.trans (HB.out.mono HB5.out.size)⟩
end Go.Proofs.Ytiemlgfcmldnoaa
