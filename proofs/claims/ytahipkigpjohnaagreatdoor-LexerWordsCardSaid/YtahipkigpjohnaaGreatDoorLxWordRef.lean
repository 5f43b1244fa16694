/-
  Lexer: what the reference tells of names and quotes. Conditions: as each contract says.
-/
import Derived.Test.YtahipkigpjohnaaGreatDoorLxName
import Derived.Test.YtahipkigpjohnaaGreatDoorLxBodies
set_option linter.unusedVariables false
set_option linter.unusedSimpArgs false
set_option maxRecDepth 100000
namespace Go.Proofs.YtahipkigpjohnaaGreatDoor
open Go.RowKit Base Lx

set_option maxHeartbeats 1000000 in
theorem rletter_calls (w : World) (c : UInt8) : Calls Tryz.prog 21 #[.int .u8 (c.toNat : Int)] w fun e w' => e = .returned (.bool (ltrI (c.toNat : Int))) ∧ w' = w := by
  go_enter Tryz.func21, Tryz.ntmps21
  go_wp2_with fail
  all_goals
    go_ret
    refine ⟨?_, rfl⟩
    refine congrArg (fun b => Ending.returned (Value.bool b)) (?_ : _ = _)
    rw [Bool.eq_iff_iff]
    simp [ltrI, *]
    try omega
set_option maxHeartbeats 1000000 in
theorem rname_calls (w : World) (s : Nm) (hs : s.length ≤ 9223372036854775807) : Calls Tryz.prog 15 #[.string (str s)] w fun e w' => e = .returned (.bool (nameB s)) ∧ w = w' := by
  have e1 : (str s).size = s.length := rfl
  have htl : (str s).toList = s := str_toList s
  go_enter Tryz.func15, Tryz.ntmps15
  go_wp2_with fail
  go_loopw [3] (fun v3 wr => ∃ k : Nat, k ≤ s.length ∧ v3 = .int .i64 k ∧ nameTo s k = true ∧ w = wr) (fun v3 _ => s.length - (intOf v3).toNat)
  case atStart => exact ⟨0, Nat.zero_le _, rfl, rfl, rfl⟩
  case round =>
    obtain ⟨k, hk, rfl, hn, rfl⟩ := hrel
    have HN := Lib.hid hn
    clear hn
    by_cases hlt : k < s.length
    · have hix := fun W => Sw.run_at (P := Tryz.prog) (w := W) Tryz.underlying9 s .i64 k hlt
      have HA : Hid (nmAt s k = (ltrI (s[k].toNat : Int) || (!decide (k = 0) && digI (s[k].toNat : Int)))) := by show _ = _; unfold nmAt; rw [getD_lt hlt]
      generalize s[k]'hlt = c at *
      have u3 : decide (k < (str s).size) = true := decide_eq_true (by omega)
      have u1 : decide ((k : Int) < ((str s).size : Int)) = true := decide_eq_true (by omega)
      have u2 : (k : Int) < ((str s).size : Int) := by omega
      go_wp2_with fail
      refine (rletter_calls w c).mono ?_
      rintro e w2 ⟨rfl, rfl⟩
      by_cases hv : ltrI (c.toNat : Int) = true
      · have HF : Hid (nameTo s (k + 1) = true) := by show _ = _; rw [nameTo_succ, HN.out, HA.out, hv]; rfl
        rw [hv]
        clear hv
        go_wp2_with fail
        go_roundw
        case rel => exact ⟨k + 1, by omega, by go_num, HF.out, trivial⟩
        case measure => simp [intOf]; omega
      · have hv2 : ltrI (c.toNat : Int) = false := by simpa using hv
        have HA2 : Hid (nmAt s k = (!decide (k = 0) && digI (c.toNat : Int))) := by show _ = _; rw [HA.out, hv2]; rfl
        rw [hv2]
        clear hv hv2
        by_cases hk0 : k = 0
        · have d1 : decide ((k : Int) = 0) = true := decide_eq_true (by omega)
          have d2 : ((k : Int) == 0) = true := by rw [beq_iff_eq]; omega
          have HF : Hid (nameB s = false) := by show _ = _; unfold nameB; rw [nameTo_le (k := k + 1) (by rw [nameTo_succ, HA2.out, hk0]; simp) (by omega)]; rfl
          clear hk0
          go_wp2_with fail
          go_ret
          rw [HF.out]
          exact ⟨rfl, rfl⟩
        · have d1 : decide ((k : Int) = 0) = false := decide_eq_false (by omega)
          have d2 : ((k : Int) == 0) = false := by rw [beq_eq_false_iff_ne]; omega
          have HA3 : Hid (nmAt s k = digI (c.toNat : Int)) := by show _ = _; rw [HA2.out, decide_eq_false hk0]; rfl
          clear hk0
          by_cases c1 : (c.toNat : Int) < 48
          · have HF : Hid (nameB s = false) := by
              show _ = _
              have hd : digI (c.toNat : Int) = false := by simp [digI]; omega
              unfold nameB; rw [nameTo_le (k := k + 1) (by rw [nameTo_succ, HA3.out, hd, Bool.and_false]) (by omega)]; rfl
            have v1 : decide ((c.toNat : Int) < 48) = true := decide_eq_true (by omega)
            have v2 : (c.toNat : Int) < 48 := by omega
            clear c1
            go_wp2_with fail
            go_ret
            rw [HF.out]
            exact ⟨rfl, rfl⟩
          · have v1 : decide ((c.toNat : Int) < 48) = false := decide_eq_false (by omega)
            have v2 : ¬ ((c.toNat : Int) < 48) := by omega
            by_cases c2 : 57 < (c.toNat : Int)
            · have HF : Hid (nameB s = false) := by
                show _ = _
                have hd : digI (c.toNat : Int) = false := by simp [digI]; omega
                unfold nameB; rw [nameTo_le (k := k + 1) (by rw [nameTo_succ, HA3.out, hd, Bool.and_false]) (by omega)]; rfl
              have x1 : decide ((57 : Int) < (c.toNat : Int)) = true := decide_eq_true (by omega)
              have x2 : (57 : Int) < (c.toNat : Int) := by omega
              clear c1 c2
              go_wp2_with fail
              go_ret
              rw [HF.out]
              exact ⟨rfl, rfl⟩
            · have HF : Hid (nameTo s (k + 1) = true) := by
                show _ = _
                have hd : digI (c.toNat : Int) = true := by simp [digI]; omega
                rw [nameTo_succ, HN.out, HA3.out, hd]; rfl
              have x1 : decide ((57 : Int) < (c.toNat : Int)) = false := decide_eq_false (by omega)
              have x2 : ¬ ((57 : Int) < (c.toNat : Int)) := by omega
              clear c1 c2
              go_wp2_with fail
              go_roundw
              case rel => exact ⟨k + 1, by omega, by go_num, HF.out, trivial⟩
              case measure => simp [intOf]; omega
    · obtain rfl : k = s.length := by omega
      have u3 : decide (s.length < (str s).size) = false := decide_eq_false (by omega)
      have u1 : decide ((s.length : Int) < ((str s).size : Int)) = false := decide_eq_false (by omega)
      have u2 : ¬ ((s.length : Int) < ((str s).size : Int)) := by omega
      by_cases h0 : s = []
      · subst h0
        have t4 : (str []).toList.isEmpty = true := by rw [str_toList]; rfl
        have t5 : (!(str []).toList.isEmpty) = false := by rw [str_toList]; rfl
        go_wp2_with fail
        go_ret
        exact ⟨rfl, rfl⟩
      · have t4 : (str s).toList.isEmpty = false := by rw [str_toList]; simpa using h0
        have t5 : s.isEmpty = false := by simpa using h0
        have t7 : (!(str s).toList.isEmpty) = true := by rw [t4]; rfl
        have HB : Hid (nameB s = true) := by show _ = _; unfold nameB; rw [HN.out, t5]; rfl
        clear h0
        go_wp2_with fail
        go_ret
        rw [HB.out]
        exact ⟨rfl, rfl⟩
def qC (c : UInt8) : Bool := c != 39 && c != 34 && c != 92
theorem bareR_take (s : Nm) (k : Nat) (h : k < s.length) : bare (s.take (k + 1)) = bare (s.take k) ++ (if qC s[k] then [s[k]] else []) := by
  unfold bare
  rw [List.take_succ_eq_append_getElem h, List.filter_append]
  congr 1
  show List.filter qC [s[k]] = _
  cases hq : qC s[k] <;> simp [hq]
theorem bareR_le (s : Nm) : (bare s).length ≤ s.length := List.length_filter_le _ _
theorem qC_true {c : UInt8} (h : qC c = true) : (c.toNat : Int) ≠ 39 ∧ (c.toNat : Int) ≠ 34 ∧ (c.toNat : Int) ≠ 92 := by
  unfold qC at h
  simp only [Bool.and_eq_true, bne_iff_ne, ne_eq] at h
  refine ⟨fun e => h.1.1 (UInt8.toNat_inj.1 ?_), fun e => h.1.2 (UInt8.toNat_inj.1 ?_), fun e => h.2 (UInt8.toNat_inj.1 ?_)⟩
  · show c.toNat = 39; omega
  · show c.toNat = 34; omega
  · show c.toNat = 92; omega
theorem qC_false {c : UInt8} (h : qC c = false) : c = 39 ∨ c = 34 ∨ c = 92 := by
  unfold qC at h
  simp only [Bool.and_eq_false_iff, bne_eq_false_iff_eq] at h
  rcases h with (h | h) | h
  · exact .inl h
  · exact .inr (.inl h)
  · exact .inr (.inr h)
set_option maxHeartbeats 2000000 in
theorem rbare_calls (w : World) (s : Nm) (hs : s.length ≤ 100000) : Calls Tryz.prog 11 #[.string (str s)] w fun e w' => e = .returned (.tuple #[.string (str (bare s)), .bool (decide (bare s ≠ s))]) ∧ w = w' := by
  have e1 : (str s).size = s.length := rfl
  go_enter Tryz.func11, Tryz.ntmps11
  go_wp2_with fail
  go_loopw [4, 5] (fun v4 v5 wr => ∃ k : Nat, k ≤ s.length ∧ v5 = .int .i64 k ∧ v4 = .string (str (bare (s.take k))) ∧ w = wr) (fun _ v5 _ => s.length - (intOf v5).toNat)
  case atStart => exact ⟨0, Nat.zero_le _, rfl, rfl, rfl⟩
  case round =>
    obtain ⟨k, hk, rfl, rfl, rfl⟩ := hrel
    by_cases hlt : k < s.length
    · have hix := fun W => Sw.run_at (P := Tryz.prog) (w := W) Tryz.underlying9 s .i64 k hlt
      have hsl : ∀ W, (Instr.sliceAt 9 (.string (str s)) (some (.int .i64 (k : Int))) (some (.int .i64 ((k : Int) + 1))) none).run Tryz.prog W = .ok (.string (str [s[k]])) W := fun W => by
        have h := Sw.run_sub_lh (P := Tryz.prog) (w := W) Tryz.underlying9 s .i64 .i64 k (k + 1) (by omega) (by omega)
        rw [List.take_succ_eq_append_getElem hlt, List.drop_append_of_le_length (by rw [List.length_take]; omega), List.drop_of_length_le (by rw [List.length_take]; omega)] at h
        exact h
      have HT : Hid (bare (s.take (k + 1)) = bare (s.take k) ++ (if qC s[k] then [s[k]] else [])) := bareR_take s k hlt
      have hbl := bareR_le (s.take k)
      rw [List.length_take] at hbl
      generalize s[k]'hlt = c at *
      obtain ⟨x, hx⟩ : ∃ x, bare (s.take k) = x := ⟨_, rfl⟩
      rw [hx] at HT hbl ⊢
      clear hx
      have u3 : decide (k < (str s).size) = true := decide_eq_true (by omega)
      have u1 : decide ((k : Int) < ((str s).size : Int)) = true := decide_eq_true (by omega)
      have u2 : (k : Int) < ((str s).size : Int) := by omega
      by_cases hq : qC c = true
      · have HT2 : Hid (bare (s.take (k + 1)) = x ++ [c]) := by show _ = _; rw [HT.out, if_pos hq]
        obtain ⟨q1, q2, q3⟩ := qC_true hq
        have d1 : ((c.toNat : Int) == 39) = false := by simpa using q1
        have d2 : ((c.toNat : Int) == 34) = false := by simpa using q2
        have d3 : ((c.toNat : Int) == 92) = false := by simpa using q3
        have f1 : decide ((c.toNat : Int) = 39) = false := decide_eq_false q1
        have f2 : decide ((c.toNat : Int) = 34) = false := decide_eq_false q2
        have f3 : decide ((c.toNat : Int) = 92) = false := decide_eq_false q3
        have g1 : ((c.toNat : Int) != 39) = true := by rw [bne, d1]; rfl
        have g2 : ((c.toNat : Int) != 34) = true := by rw [bne, d2]; rfl
        have g3 : ((c.toNat : Int) != 92) = true := by rw [bne, d3]; rfl
        have ea : str x ++ str [c] = str (x ++ [c]) := str_append x [c]
        have ez : (str x).size + (str [c]).size ≤ 9223372036854775807 := by rw [str_size, str_size]; simp; omega
        clear hq
        go_wp2_with fail
        go_roundw
        case rel => exact ⟨k + 1, by omega, by go_num, by rw [HT2.out], trivial⟩
        case measure => simp [intOf]; omega
      · have hq2 : qC c = false := by simpa using hq
        have HT2 : Hid (bare (s.take (k + 1)) = x) := by show _ = _; rw [HT.out, if_neg hq, List.append_nil]
        clear hq hsl
        rcases qC_false hq2 with rfl | rfl | rfl
        · have hix2 : ∀ w, (Instr.index 9 (.string (str s)) (.int .i64 (k : Int))).run Tryz.prog w = .ok (.int .u8 39) w := hix
          clear hix hq2
          go_wp2_with fail
          go_roundw
          case rel => exact ⟨k + 1, by omega, by go_num, by rw [HT2.out], trivial⟩
          case measure => simp [intOf]; omega
        · have hix2 : ∀ w, (Instr.index 9 (.string (str s)) (.int .i64 (k : Int))).run Tryz.prog w = .ok (.int .u8 34) w := hix
          clear hix hq2
          go_wp2_with fail
          go_roundw
          case rel => exact ⟨k + 1, by omega, by go_num, by rw [HT2.out], trivial⟩
          case measure => simp [intOf]; omega
        · have hix2 : ∀ w, (Instr.index 9 (.string (str s)) (.int .i64 (k : Int))).run Tryz.prog w = .ok (.int .u8 92) w := hix
          clear hix hq2
          go_wp2_with fail
          go_roundw
          case rel => exact ⟨k + 1, by omega, by go_num, by rw [HT2.out], trivial⟩
          case measure => simp [intOf]; omega
    · obtain rfl : k = s.length := by omega
      rw [List.take_length]
      have u3 : decide (s.length < (str s).size) = false := decide_eq_false (by omega)
      have u1 : decide ((s.length : Int) < ((str s).size : Int)) = false := decide_eq_false (by omega)
      have u2 : ¬ ((s.length : Int) < ((str s).size : Int)) := by omega
      clear hlt hk
      have t0 : ((str (bare s)).toList == (str s).toList) = decide (bare s = s) := by rw [str_toList, str_toList, Bool.eq_iff_iff]; simp
      have t1 : (!((str (bare s)).toList == (str s).toList)) = decide (bare s ≠ s) := by rw [t0]; simp
      have t2 : ((str (bare s)).toList != (str s).toList) = decide (bare s ≠ s) := t1
      obtain ⟨b, hb⟩ : ∃ b, decide (bare s ≠ s) = b := ⟨_, rfl⟩
      rw [hb] at t1 t2
      have HB := Lib.hid hb
      clear t0 hb
      go_wp2_with fail
      refine bodyPost_ret (v := .tuple #[.string (str (bare s)), .bool b]) (by simp [results, Tryz.results11, go_sem]) rfl ?_
      rw [← HB.out]
      exact ⟨by simp, rfl⟩
theorem cut_none_of : ∀ (s : Nm) (c : UInt8), c ∉ s → cutAt c s = none
  | [], c, _ => rfl
  | d :: s, c, h => by
    have h1 : d ≠ c := fun e => h (by rw [e]; exact List.mem_cons_self)
    rw [cutAt, if_neg h1, cut_none_of s c (fun hm => h (List.mem_cons_of_mem _ hm))]
    rfl
theorem cut_at' {c : UInt8} : ∀ (x r : Nm), c ∉ x → cutAt c (x ++ c :: r) = some (x, r)
  | [], r, _ => by simp [cutAt]
  | d :: x, r, h => by
    have h1 : d ≠ c := fun e => h (by rw [e]; exact List.mem_cons_self)
    rw [List.cons_append, cutAt, if_neg h1, cut_at' x r (fun hm => h (List.mem_cons_of_mem _ hm))]
    rfl
theorem cut_take (s : Nm) (k : Nat) (h : k < s.length) (h2 : s[k] = 61) (h3 : (61 : UInt8) ∉ s.take k) : cutAt 61 s = some (s.take k, s.drop (k + 1)) := by
  have e : s = s.take k ++ 61 :: s.drop (k + 1) := by
    have e1 : s.drop k = s[k] :: s.drop (k + 1) := List.drop_eq_getElem_cons h
    rw [← h2, ← e1, List.take_append_drop]
  have h4 := cut_at' (s.take k) (s.drop (k + 1)) h3
  rw [← e] at h4
  exact h4
set_option maxHeartbeats 2000000 in
theorem rsets_calls (w : World) (s : Nm) (hs : s.length ≤ 100000) : Calls Tryz.prog 13 #[.string (str s)] w fun r W' => r = .returned (.tuple #[.string (str (setsM s).1), .string (str (setsM s).2.1), .bool (setsM s).2.2]) ∧ Below w.heap.size w W' := by
  have e1 : (str s).size = s.length := rfl
  go_enter Tryz.func13, Tryz.ntmps13
  go_wp2_with fail
  go_loopw [5] (fun v5 wr => ∃ k : Nat, k ≤ s.length ∧ v5 = .int .i64 k ∧ (61 : UInt8) ∉ s.take k ∧ w = wr) (fun v5 _ => s.length - (intOf v5).toNat)
  case atStart => exact ⟨0, Nat.zero_le _, rfl, by simp, rfl⟩
  case round =>
    obtain ⟨k, hk, rfl, hn, rfl⟩ := hrel
    have HN := Lib.hid hn
    clear hn
    by_cases hlt : k < s.length
    · have hix := fun W => Sw.run_at (P := Tryz.prog) (w := W) Tryz.underlying9 s .i64 k hlt
      have u3 : decide (k < (str s).size) = true := decide_eq_true (by omega)
      have u1 : decide ((k : Int) < ((str s).size : Int)) = true := decide_eq_true (by omega)
      have u2 : (k : Int) < ((str s).size : Int) := by omega
      by_cases h61 : s[k] = 61
      · have HC : Hid (cutAt 61 s = some (s.take k, s.drop (k + 1))) := cut_take s k hlt h61 HN.out
        have HX : Hid (setsM s = if nameB (s.take k) then (s.take k, s.drop (k + 1), true) else ([], [], false)) := by show _ = _; unfold setsM; rw [HC.out]
        rw [h61] at hix
        have hix2 : ∀ w, (Instr.index 9 (.string (str s)) (.int .i64 (k : Int))).run Tryz.prog w = .ok (.int .u8 61) w := hix
        have hs1 := fun W => Sw.run_sub_h (P := Tryz.prog) (w := W) Tryz.underlying9 s .i64 k hk
        have hs2 : ∀ W, (Instr.sliceAt 9 (.string (str s)) (some (.int .i64 ((k : Int) + 1))) none none).run Tryz.prog W = .ok (.string (str (s.drop (k + 1)))) W := fun W => Sw.run_sub_l (P := Tryz.prog) (w := W) Tryz.underlying9 s .i64 (k + 1) hlt
        have HL : Hid ((s.take k).length ≤ 9223372036854775807) := by show _ ≤ _; rw [List.length_take]; omega
        obtain ⟨x, hx⟩ : ∃ x, s.take k = x := ⟨_, rfl⟩
        obtain ⟨y, hy⟩ : ∃ y, s.drop (k + 1) = y := ⟨_, rfl⟩
        rw [hx] at HX hs1 HL
        rw [hy] at HX hs2
        clear hix h61 hx hy HC HN
        go_upto_region 5 with fail
        go_wp2_with fail
        refine (rname_calls _ x HL.out).mono ?_
        rintro r w3 ⟨rfl, hw3⟩
        obtain rfl := hw3
        cases hnb : nameB x with
        | true =>
          have HX2 : Hid (setsM s = (x, y, true)) := by show _ = _; rw [HX.out, hnb]; rfl
          clear hnb
          go_upto_region 7 with fail
          go_quiet (fail)
          go_wp2_with fail
          refine bodyPost_ret (v := .tuple #[.string (str x), .string (str y), .bool true]) (by simp [results, Tryz.results13, go_sem]) rfl ?_
          rw [HX2.out]
          exact ⟨rfl, drewN_below _ _⟩
        | false =>
          have HX2 : Hid (setsM s = ([], [], false)) := by show _ = _; rw [HX.out, hnb]; rfl
          clear hnb
          go_wp2_with fail
          refine bodyPost_ret (v := .tuple #[.string (str []), .string (str []), .bool false]) (by simp [results, Tryz.results13, go_sem]; rfl) rfl ?_
          rw [HX2.out]
          exact ⟨rfl, Below.refl _ _⟩
      · have HM : Hid ((61 : UInt8) ∉ s.take (k + 1)) := by
          show _ ∉ _
          rw [List.take_succ_eq_append_getElem hlt, List.mem_append]
          rintro (h | h)
          · exact HN.out h
          · exact h61 (List.mem_singleton.1 h).symm
        generalize s[k]'hlt = c at *
        have q1 : ¬ (c.toNat : Int) = 61 := fun e => h61 (UInt8.toNat_inj.1 (by show c.toNat = 61; omega))
        have d1 : ((c.toNat : Int) == 61) = false := by simpa using q1
        have d2 : decide ((c.toNat : Int) = 61) = false := decide_eq_false q1
        clear h61
        go_wp2_with fail
        go_roundw
        case rel => exact ⟨k + 1, by omega, by go_num, HM.out, trivial⟩
        case measure => simp [intOf]; omega
    · obtain rfl : k = s.length := by omega
      have HX : Hid (setsM s = ([], [], false)) := by
        show _ = _
        have h := HN.out
        rw [List.take_length] at h
        unfold setsM; rw [cut_none_of s 61 h]
      have u3 : decide (s.length < (str s).size) = false := decide_eq_false (by omega)
      have u1 : decide ((s.length : Int) < ((str s).size : Int)) = false := decide_eq_false (by omega)
      have u2 : ¬ ((s.length : Int) < ((str s).size : Int)) := by omega
      clear hlt hk HN
      go_wp2_with fail
      refine bodyPost_ret (v := .tuple #[.string (str []), .string (str []), .bool false]) (by simp [results, Tryz.results13, go_sem]; rfl) rfl ?_
      rw [HX.out]
      exact ⟨rfl, Below.refl _ _⟩
end Go.Proofs.YtahipkigpjohnaaGreatDoor
