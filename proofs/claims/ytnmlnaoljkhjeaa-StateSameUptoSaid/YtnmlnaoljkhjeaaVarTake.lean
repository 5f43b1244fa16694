/-
  Take and the reference's Take: each computes what the plain mathematics says. Conditions: the bytes can be read.
-/
import Derived.Test.YtnmlnaoljkhjeaaVarZig
set_option linter.unusedVariables false
namespace Go.Proofs.Ytnmlnaoljkhjeaa
open Go.RowKit Base

/-- The three results of Take, as values. -/
def takeV (t : Nat × Nat × Int) : Value := .tuple #[.int .u64 (t.1 : Int), .int .i64 (t.2.1 : Int), .int .i64 t.2.2]

/-- What is known at the head of round k. -/
def TakeInv (l : List UInt8) (k : Nat) (y : Int) : Prop := (∀ j, j < k → ∀ hj : j < l.length, 128 ≤ l[j].toNat) ∧ (k ≤ 9 → y = (VarPlain.val (l.take k) : Int)) ∧ 0 ≤ y ∧ Lt64 y.toNat

theorem lead_ge {l : List UInt8} {k : Nat} (hk : k ≤ l.length) (h1 : ∀ j, j < k → ∀ hj : j < l.length, 128 ≤ l[j].toNat) : k ≤ VarPlain.lead l := by
  rcases Nat.lt_or_ge (VarPlain.lead l) k with h | h
  · have h2 := VarPlain.lead_end (b := l) (by omega)
    have h3 := h1 (VarPlain.lead l) h (by omega)
    omega
  · exact h
theorem take_at {l : List UInt8} {k : Nat} (h1 : ∀ j, j < k → ∀ hj : j < l.length, 128 ≤ l[j].toNat) (hk : k < l.length) (h9 : k ≤ 9) (hc : l[k].toNat < 128) :
    VarPlain.take l = if (0 < k ∧ l[k].toNat = 0) ∨ (k = 9 ∧ 1 < l[k].toNat) then (0, 0, 11) else (VarPlain.val (l.take (k + 1)), k + 1, 0) := by
  have e : VarPlain.lead l = k := VarPlain.lead_eq h1 (.inr ⟨hk, hc⟩)
  unfold VarPlain.take
  simp only [e, show min k 10 = k by omega, show ¬ k = 10 by omega, show ¬ k = l.length by omega, if_false]
  have e2 : l.getD k 0 = l[k] := by simp [List.getD, List.getElem?_eq_getElem hk]
  rw [e2]
theorem take_end {l : List UInt8} {m : Nat} (h1 : ∀ j, j < m → ∀ hj : j < l.length, 128 ≤ l[j].toNat) (h10 : m ≤ 10) (hml : m ≤ l.length) (hm : m = l.length ∨ m = 10) :
    VarPlain.take l = if 10 ≤ l.length then (0, 0, 11) else (0, 0, 10) := by
  have h2 := lead_ge hml h1
  have h3 := VarPlain.lead_le l
  unfold VarPlain.take
  by_cases h : 10 ≤ l.length
  · have hm10 : m = 10 := by omega
    rw [if_pos h]
    simp only [show min (VarPlain.lead l) 10 = 10 by omega, if_true]
  · have hml' : m = l.length := by omega
    rw [if_neg h]
    simp only [show min (VarPlain.lead l) 10 = l.length by omega, show ¬ l.length = 10 by omega, if_false, if_true]

theorem andNot128 (c : UInt8) : bits BinOp.andNot IntKind.u8 (c.toNat : Int) 128 = ((c.toNat % 128 : Nat) : Int) := by
  have := u8_andNot_nat c.toNat 128 c.toNat_lt (by decide)
  rw [show (((128 : Nat) : Int)) = 128 from rfl] at this
  rw [this, show 255 - 128 = 2 ^ 7 - 1 from rfl, Nat.and_two_pow_sub_one_eq_mod]

/-- A round's sum. -/
def takeRaw (y : Int) (c : UInt8) (k : Nat) : Int := bits BinOp.or IntKind.u64 y (IntKind.u64.wrap (IntKind.u64.wrap (bits BinOp.andNot IntKind.u8 (c.toNat : Int) 128) * 2 ^ (7 * k)))

theorem takeRaw_lt (y : Int) (c : UInt8) (k : Nat) (h0 : 0 ≤ y) (hy : Lt64 y.toNat) : 0 ≤ takeRaw y c k ∧ Lt64 (takeRaw y c k).toNat := by
  unfold takeRaw Lt64
  unfold Lt64 at hy
  generalize hs : IntKind.u64.wrap (IntKind.u64.wrap (bits BinOp.andNot IntKind.u8 (c.toNat : Int) 128) * 2 ^ (7 * k)) = s
  have hs0 : 0 ≤ s ∧ s < 18446744073709551616 := by rw [← hs, IntKind.wrap_u64]; omega
  have ey : y = ((y.toNat : Nat) : Int) := by omega
  have es : s = ((s.toNat : Nat) : Int) := by omega
  rw [ey, es, u64_or_nat _ _ hy (by omega)]
  have := Nat.or_lt_two_pow (n := 64) (x := y.toNat) (y := s.toNat) hy (by omega)
  exact ⟨by omega, by simpa using this⟩

theorem takeRaw_eq (l : List UInt8) (k : Nat) (hk : k < l.length) (h9 : k ≤ 9) (hd : k ≤ 8 ∨ l[k].toNat % 128 ≤ 1) : takeRaw (VarPlain.val (l.take k) : Int) l[k] k = (VarPlain.val (l.take (k + 1)) : Int) := by
  unfold takeRaw
  rw [andNot128]
  have hv := VarPlain.val_lt (l.take k)
  have hkl : (l.take k).length = k := by rw [List.length_take]; omega
  rw [hkl] at hv
  have e1 : VarPlain.val (l.take (k + 1)) = VarPlain.val (l.take k) + 128 ^ k * (l[k].toNat % 128) := by
    rw [List.take_succ_eq_append_getElem hk, VarPlain.val_append, hkl]
    simp [VarPlain.val]
  rw [e1]
  have hdl : l[k].toNat % 128 < 128 := Nat.mod_lt _ (by decide)
  generalize l[k].toNat % 128 = d at *
  generalize VarPlain.val (l.take k) = v at *
  have e128 : 128 ^ k = 2 ^ (7 * k) := by rw [show 128 = 2 ^ 7 from rfl, ← Nat.pow_mul]
  rw [e128] at hv ⊢
  have hp63 : 2 ^ (7 * k) ≤ 2 ^ 63 := Nat.pow_le_pow_right (by decide) (by omega)
  have hdp : d * 2 ^ (7 * k) < 18446744073709551616 := by
    rcases hd with hd | hd
    · have hp56 : 2 ^ (7 * k) ≤ 2 ^ 56 := Nat.pow_le_pow_right (by decide) (by omega)
      calc d * 2 ^ (7 * k) ≤ 127 * 2 ^ 56 := Nat.mul_le_mul (by omega) hp56
        _ < 18446744073709551616 := by decide
    · calc d * 2 ^ (7 * k) ≤ 1 * 2 ^ 63 := Nat.mul_le_mul hd hp63
        _ < 18446744073709551616 := by decide
  have ew1 : IntKind.u64.wrap ((d : Nat) : Int) = (d : Int) := by rw [IntKind.wrap_u64]; omega
  have ew2 : ((d : Nat) : Int) * 2 ^ (7 * k) = ((d * 2 ^ (7 * k) : Nat) : Int) := by push_cast; rfl
  have ew3 : IntKind.u64.wrap ((d * 2 ^ (7 * k) : Nat) : Int) = ((d * 2 ^ (7 * k) : Nat) : Int) := by rw [IntKind.wrap_u64]; omega
  rw [ew1, ew2, ew3, u64_or_nat _ _ (by omega) hdp]
  congr 1
  have := Nat.shiftLeft_add_eq_or_of_lt hv d
  rw [Nat.shiftLeft_eq] at this
  rw [Nat.or_comm, ← this, Nat.mul_comm d]
  omega

theorem takeInv_next {l : List UInt8} {k : Nat} {y : Int} (h : TakeInv l k y) (hk : k < l.length) (h9 : k ≤ 9) (hc : 128 ≤ l[k].toNat) : TakeInv l (k + 1) (takeRaw y l[k] k) := by
  obtain ⟨h1, h2, h3, h4⟩ := h
  have h5 := takeRaw_lt y l[k] k h3 h4
  refine ⟨fun j hj hjl => ?_, fun hk9 => ?_, h5.1, h5.2⟩
  · rcases (by omega : j < k ∨ j = k) with h | h
    · exact h1 j h hjl
    · subst h; exact hc
  · rw [h2 h9]
    exact takeRaw_eq l k hk h9 (.inl (by omega))

set_option maxHeartbeats 1000000 in
set_option maxRecDepth 100000 in
theorem var_take_calls (w : World) (a : Option Addr) (n cap : Nat) (l : List UInt8) (h : Bytes w a n cap l) :
    Calls Try.prog 68 #[.slice a n cap] w fun e w' => e = .returned (takeV (VarPlain.take l)) ∧ w = w' := by
  have hn := h.1
  have hcap := h.2.2.1
  have hnc := h.2.1
  unfold maxLen at hcap
  obtain ⟨m, hm01, hm0, hm1, hmm⟩ : ∃ m : Nat, (∀ (ts : Array TypeId) (t : TypeId) (w : World), (Builtin.min_ ts t #[.int .i64 (n : Int), .int .i64 10]).run Try.prog w = .ok (.int .i64 (m : Int)) w) ∧ m ≤ n ∧ m ≤ 10 ∧ (m = n ∨ m = 10) := by
    refine ⟨min n 10, fun ts t w => ?_, Nat.min_le_left _ _, Nat.min_le_right _ _, by omega⟩
    rw [run_min_int2]
    congr 2
    split <;> omega
  obtain ⟨a', hB, hS⟩ := sub_bytes h 0 m (Nat.zero_le _) hm0
  rw [List.drop_zero] at hB
  obtain ⟨b, off, hcell, hidx⟩ := at_bytes hB
  have hsl := fun wx => (hS wx).2.1 rfl .i64
  simp only [Nat.sub_zero] at hsl hidx hB
  have Hidx := Lib.hid hidx; clear hidx
  have Hcell := Lib.hid hcell; clear hcell
  have Hn := Lib.hid hn; clear hn
  have Hinv0 : Hid (TakeInv l 0 0) := ⟨fun j hj => absurd hj (by omega), fun _ => by simp [VarPlain.val], Int.le_refl _, by unfold Lt64; decide⟩
  have Hmm := Lib.hid hmm; clear hmm
  clear hB hS h
  go_enter Try.func68, Try.ntmps68
  go_wp2_with fail
  clear hsl hm01
  go_loop [5, 14] (fun x i => ∃ (k : Nat) (y : Int), k ≤ m ∧ i = .int .i64 k ∧ x = .int .u64 y ∧ TakeInv l k y) (fun _ i => m - (intOf i).toNat)
  case atStart => exact ⟨0, 0, Nat.zero_le _, rfl, rfl, Hinv0.out⟩
  case round =>
    obtain ⟨k, y, hk, rfl, rfl, hinv⟩ := hrel
    have Hinv := Lib.hid hinv; clear hinv
    by_cases hlt : k < m
    · have hkl : k < l.length := by rw [← Hn.out]; omega
      have hkt : k < (l.take m).length := by rw [List.length_take, ← Hn.out]; omega
      have hc := Hcell.out k hkt
      rw [List.getElem_take] at hc
      have hix := Hidx.out .i64 k w hlt
      generalize hcc : l[k]'hkl = c at *
      have Hcc := Lib.hid hcc; clear hcc
      have hcl := c.toNat_lt
      by_cases hc128 : 128 ≤ c.toNat
      · have Hnext : Hid (TakeInv l (k + 1) (takeRaw y c k)) := by
          have := takeInv_next Hinv.out hkl (by omega) (by rw [Hcc.out]; exact hc128)
          rw [Hcc.out] at this
          exact this
        go_wp2_with fail
        go_round
        case rel => exact ⟨k + 1, _, by omega, by go_num, rfl, Hnext.out⟩
        case measure => simp [intOf]; omega
      · have Htk : Hid (VarPlain.take l = if (0 < k ∧ c.toNat = 0) ∨ (k = 9 ∧ 1 < c.toNat) then (0, 0, 11) else (VarPlain.val (l.take (k + 1)), k + 1, 0)) := by
          have := take_at Hinv.out.1 hkl (by omega) (by rw [Hcc.out]; omega)
          rw [Hcc.out] at this
          exact this
        have Hval : Hid ((k ≤ 8 ∨ c.toNat % 128 ≤ 1) → takeRaw y c k = (VarPlain.val (l.take (k + 1)) : Int)) := fun hd => by
          have := takeRaw_eq l k hkl (by omega) (by rw [Hcc.out]; exact hd)
          rw [Hcc.out, ← Hinv.out.2.1 (by omega)] at this
          exact this
        by_cases hb1 : 0 < k ∧ c.toNat = 0
        · have Hr := Htk.out
          rw [if_pos (.inl hb1)] at Hr
          have Hr' := Lib.hid Hr; clear Hr
          obtain ⟨hb1a, hb1b⟩ := hb1
          have f1 : decide ((0 : Int) < (k : Int)) = true := by simp; omega
          have f2 : ((c.toNat : Int) == 0) = true := by rw [beq_iff_eq]; omega
          clear hb1b
          go_wp2_with fail
          go_ret3
          exact ⟨by rw [Hr'.out]; rfl, rfl⟩
        · by_cases hb2 : k = 9 ∧ 1 < c.toNat
          · have Hr := Htk.out
            rw [if_pos (.inr hb2)] at Hr
            have Hr' := Lib.hid Hr; clear Hr
            obtain ⟨hb2a, hb2b⟩ := hb2
            have f1 : decide ((0 : Int) < (k : Int)) = true := by simp; omega
            have f2 : ((c.toNat : Int) == 0) = false := by rw [beq_eq_false_iff_ne]; omega
            have f3 : ((k : Int) == 9) = true := by rw [beq_iff_eq]; omega
            have f4 : decide ((1 : Int) < (c.toNat : Int)) = true := by simp; omega
            clear hb1
            have Ha := Lib.hid hb2a; clear hb2a
            go_wp2_with fail
            all_goals (go_ret3; exact ⟨by rw [Hr'.out]; rfl, rfl⟩)
          · have Hr := Htk.out
            rw [if_neg (fun h => h.elim hb1 hb2)] at Hr
            have Hr' := Lib.hid Hr; clear Hr
            have hv := Hval.out (by omega)
            have Hv := Lib.hid hv; clear hv
            have Hfin : Hid (takeV (VarPlain.take l) = .tuple #[.int .u64 (takeRaw y c k), .int .i64 ((k : Int) + 1), .int .i64 0]) := by
              show _ = _
              rw [Hr'.out, Hv.out]; rfl
            by_cases hk0 : k = 0
            · have f1 : decide (0 < k) = false := by simp; omega
              have f1' : k ≤ 0 := by omega
              have f3 : ((k : Int) == 9) = false := by rw [beq_eq_false_iff_ne]; omega
              clear hb1 hb2
              have Hk0 := Lib.hid hk0; clear hk0
              go_wp2_with fail
              all_goals (go_ret3; exact ⟨by rw [Hfin.out]; rfl, rfl⟩)
            · have f1 : decide ((0 : Int) < (k : Int)) = true := by simp; omega
              have f2 : ((c.toNat : Int) == 0) = false := by rw [beq_eq_false_iff_ne]; omega
              by_cases hk9 : k = 9
              · have f3 : ((k : Int) == 9) = true := by rw [beq_iff_eq]; omega
                have f4 : decide ((1 : Int) < (c.toNat : Int)) = false := by simp; omega
                clear hb1 hb2
                have Hk0 := Lib.hid hk0; clear hk0
                have Hk9 := Lib.hid hk9; clear hk9
                go_wp2_with fail
                all_goals (go_ret3; exact ⟨by rw [Hfin.out]; rfl, rfl⟩)
              · have f3 : ((k : Int) == 9) = false := by rw [beq_eq_false_iff_ne]; omega
                clear hb1 hb2
                have Hk0 := Lib.hid hk0; clear hk0
                have Hk9 := Lib.hid hk9; clear hk9
                go_wp2_with fail
                all_goals (go_ret3; exact ⟨by rw [Hfin.out]; rfl, rfl⟩)
    · obtain rfl : k = m := by omega
      have hr := take_end Hinv.out.1 hm1 (by rw [← Hn.out]; exact hm0) (by rw [← Hn.out]; exact Hmm.out)
      rw [← Hn.out] at hr
      by_cases h10 : 10 ≤ n
      · rw [if_pos h10] at hr
        have Hr := Lib.hid hr; clear hr
        go_wp2_with fail
        all_goals (go_ret3; exact ⟨by rw [Hr.out]; rfl, rfl⟩)
      · rw [if_neg h10] at hr
        have Hr := Lib.hid hr; clear hr
        go_wp2_with fail
        all_goals (go_ret3; exact ⟨by rw [Hr.out]; rfl, rfl⟩)

end Go.Proofs.Ytnmlnaoljkhjeaa
