/-
  The reference's Take computes what the plain mathematics says. Conditions: the text can be read.
-/
import Derived.Test.YtgbnfipbedlmhaaVarTake
set_option linter.unusedVariables false
namespace Go.Proofs.Ytgbnfipbedlmhaa
open Go.RowKit Base

theorem val_drop_le (l : List UInt8) : ∀ j, VarPlain.val (l.drop j) ≤ VarPlain.val l := by
  induction l with
  | nil => intro j; simp
  | cons c r ih =>
    intro j
    cases j with
    | zero => simp
    | succ j =>
      have := ih j
      rw [List.drop_succ_cons]
      simp only [VarPlain.val]
      omega
theorem val_drop_step (l : List UInt8) (p : Nat) (h : p < l.length) : VarPlain.val (l.drop p) = l[p].toNat % 128 + 128 * VarPlain.val (l.drop (p + 1)) := by
  rw [List.drop_eq_getElem_cons h, VarPlain.val]

/-- What is known behind the first loop. -/
def LeadInv (l : List UInt8) (k : Nat) : Prop := ∀ j, j < k → ∀ hj : j < l.length, 128 ≤ l[j].toNat

set_option maxHeartbeats 2000000 in
set_option maxRecDepth 100000 in
theorem var_ref_take_calls (w : World) (s : ByteArray) (hs : s.size ≤ maxLen) :
    Calls Try.prog 71 #[.string s] w fun e w' => e = .returned (takeV (VarPlain.take s.data.toList)) ∧ w = w' := by
  unfold maxLen at hs
  have Hl : Hid (s.data.toList.length = s.size) := by show _ = _; simp
  have Hget : Hid (∀ k (h : k < s.size) (h' : k < s.data.toList.length), s[k] = s.data.toList[k]) := fun k h h' => rfl
  have Hi0 : Hid (LeadInv s.data.toList 0) := fun j hj => absurd hj (by omega)
  go_enter Try.func71, Try.ntmps71
  go_wp2_with fail
  go_loop [5] (fun i => ∃ k : Nat, k ≤ s.size ∧ k ≤ 10 ∧ i = .int .i64 k ∧ LeadInv s.data.toList k) (fun i => 10 - (intOf i).toNat)
  case atStart => exact ⟨0, by omega, by omega, rfl, Hi0.out⟩
  case round =>
    obtain ⟨k, hk, hk10, rfl, hinv⟩ := hrel
    have Hinv := Lib.hid hinv; clear hinv
    by_cases hgo : k < s.size ∧ k < 10 ∧ 128 ≤ (s.data.toList.getD k 0).toNat
    · obtain ⟨hks, hk9, hc⟩ := hgo
      have hkl : k < s.data.toList.length := by rw [Hl.out]; exact hks
      have hc' : 128 ≤ s[k].toNat := by
        rw [Hget.out k hks hkl]
        simpa [List.getD, List.getElem?_eq_getElem hkl] using hc
      have Hnext : Hid (LeadInv s.data.toList (k + 1)) := by
        intro j hj hjl
        rcases (by omega : j < k ∨ j = k) with h | h
        · exact Hinv.out j h hjl
        · subst h
          have := hc'
          rw [Hget.out j hks hkl] at this
          exact this
      clear hc
      have f1 : decide (k < s.size) = true := by simpa using hks
      have f2 : decide ((k : Int) < 10) = true := by simp; omega
      have f3 : decide ((128 : Int) ≤ (s[k].toNat : Int)) = true := by simp; omega
      go_wp2_with fail
      go_round
      case rel => exact ⟨k + 1, by omega, by omega, by go_num, Hnext.out⟩
      case measure => first | (simp [intOf]; done) | (simp [intOf]; omega)
    · by_cases h10 : k = 10
      · have hr := take_end (l := s.data.toList) (m := 10) (by rw [← h10]; exact Hinv.out) (by omega) (by rw [Hl.out]; omega) (.inr rfl)
        rw [if_pos (by rw [Hl.out]; omega)] at hr
        have Hr := Lib.hid hr; clear hr
        clear hgo
        subst h10
        by_cases hsz : 10 < s.size
        · go_wp2_with fail
          all_goals (go_ret3; exact ⟨by rw [Hr.out]; rfl, rfl⟩)
        · go_wp2_with fail
          all_goals (go_ret3; exact ⟨by rw [Hr.out]; rfl, rfl⟩)
      · have hk9 : k < 10 := by omega
        by_cases hsz : k = s.size
        · have hr := take_end (l := s.data.toList) (m := k) Hinv.out hk10 (by rw [Hl.out]; exact hk) (.inl (by rw [Hl.out]; exact hsz))
          rw [if_neg (by rw [Hl.out]; omega)] at hr
          have Hr := Lib.hid hr; clear hr
          clear hgo h10
          have g1 : ((k : Int) == 10) = false := by rw [beq_eq_false_iff_ne]; omega
          have g2 : ((k : Int) == (s.size : Int)) = true := by rw [beq_iff_eq]; omega
          have g3 : s.size ≤ k := by omega
          have Hsz := Lib.hid hsz; clear hsz
          go_wp2_with fail
          all_goals (go_ret3; exact ⟨by rw [Hr.out]; rfl, rfl⟩)
        · have hks : k < s.size := by omega
          have hkl : k < s.data.toList.length := by rw [Hl.out]; exact hks
          have hc : s[k].toNat < 128 := by
            rw [Hget.out k hks hkl]
            refine Nat.lt_of_not_le fun h => hgo ⟨hks, hk9, ?_⟩
            simpa [List.getD, List.getElem?_eq_getElem hkl] using h
          have ht := take_at Hinv.out hkl (by omega) (by rw [← Hget.out k hks hkl]; exact hc)
          rw [← Hget.out k hks hkl] at ht
          have Hval : Hid ((k ≤ 8 ∨ s[k].toNat ≤ 1) → VarPlain.val (s.data.toList.take (k + 1)) < 18446744073709551616) := fun hd => by
            rw [List.take_succ_eq_append_getElem hkl, VarPlain.val_append, ← Hget.out k hks hkl]
            have h1 := VarPlain.val_lt (s.data.toList.take k)
            have h2 : (s.data.toList.take k).length = k := by rw [List.length_take]; omega
            rw [h2] at h1 ⊢
            simp only [VarPlain.val, Nat.mul_zero, Nat.add_zero]
            have h3 : s[k].toNat % 128 = s[k].toNat := Nat.mod_eq_of_lt hc
            rw [h3]
            have e128 : 128 ^ k = 2 ^ (7 * k) := by rw [show 128 = 2 ^ 7 from rfl, ← Nat.pow_mul]
            rw [e128] at h1 ⊢
            rcases hd with hd | hd
            · have hp56 : 2 ^ (7 * k) ≤ 2 ^ 56 := Nat.pow_le_pow_right (by decide) (by omega)
              have h4 : 2 ^ (7 * k) * s[k].toNat ≤ 2 ^ 56 * 127 := Nat.mul_le_mul hp56 (by omega)
              omega
            · have hp63 : 2 ^ (7 * k) ≤ 2 ^ 63 := Nat.pow_le_pow_right (by decide) (by omega)
              have h4 : 2 ^ (7 * k) * s[k].toNat ≤ 2 ^ 63 * 1 := Nat.mul_le_mul hp63 hd
              omega
          clear hgo
          have g1 : ((k : Int) == 10) = false := by rw [beq_eq_false_iff_ne]; omega
          have g2 : ((k : Int) == (s.size : Int)) = false := by rw [beq_eq_false_iff_ne]; omega
          have Hsz := Lib.hid hsz; clear hsz
          have H10 := Lib.hid h10; clear h10
          by_cases hb1 : 0 < k ∧ s[k].toNat = 0
          · rw [if_pos (.inl hb1)] at ht
            have Hr := Lib.hid ht; clear ht
            obtain ⟨hb1a, hb1b⟩ := hb1
            have f2 : ((s[k].toNat : Int) == 0) = true := by rw [beq_iff_eq]; omega
            have Hb := Lib.hid hb1b; clear hb1b
            go_wp2_with fail
            all_goals (go_ret3; exact ⟨by rw [Hr.out]; rfl, rfl⟩)
          · by_cases hb2 : k = 9 ∧ 1 < s[k].toNat
            · rw [if_pos (.inr hb2)] at ht
              have Hr := Lib.hid ht; clear ht
              obtain ⟨hb2a, hb2b⟩ := hb2
              have f0 : 0 < k := by omega
              have f2 : ((s[k].toNat : Int) == 0) = false := by rw [beq_eq_false_iff_ne]; omega
              have f3 : ((k : Int) == 9) = true := by rw [beq_iff_eq]; omega
              have f4 : decide ((1 : Int) < (s[k].toNat : Int)) = true := by simp; omega
              have Hb := Lib.hid hb2a; clear hb2a hb1
              go_wp2_with fail
              all_goals (go_ret3; exact ⟨by rw [Hr.out]; rfl, rfl⟩)
            · rw [if_neg (fun h => h.elim hb1 hb2)] at ht
              have Hr := Lib.hid ht; clear ht
              have Hv := Lib.hid (Hval.out (by omega))
              have HL := Lib.hid (val_drop_le (s.data.toList.take (k + 1)))
              have Hstep : Hid (∀ p (hp : p < s.size), p ≤ k → VarPlain.val ((s.data.toList.take (k + 1)).drop p) = s[p].toNat % 128 + 128 * VarPlain.val ((s.data.toList.take (k + 1)).drop (p + 1))) := by
                intro p hp hpk
                rw [val_drop_step _ p (by rw [List.length_take, Hl.out]; omega), List.getElem_take, Hget.out p hp (by rw [Hl.out]; exact hp)]
              have Hend : Hid (VarPlain.val ((s.data.toList.take (k + 1)).drop (k + 1)) = 0) := by
                show _ = _
                rw [List.drop_of_length_le (by rw [List.length_take]; omega)]; rfl
              generalize s.data.toList.take (k + 1) = lt at *
              by_cases hk0 : k = 0
              · have f1 : decide (0 < k) = false := by simp; omega
                have f1' : k ≤ 0 := by omega
                have f3 : ((k : Int) == 9) = false := by rw [beq_eq_false_iff_ne]; omega
                clear hb1 hb2
                have Hk0 := Lib.hid hk0; clear hk0
                go_wp2_with fail
                go_loop [6, 7] (fun x i => ∃ j : Nat, j ≤ k + 1 ∧ i = .int .i64 ((j : Int) - 1) ∧ x = .int .u64 (VarPlain.val (lt.drop j) : Int)) (fun _ i => (intOf i + 1).toNat)
                case atStart => exact ⟨k + 1, Nat.le_refl _, by congr 1; omega, by rw [Hend.out]; rfl⟩
                case round =>
                  obtain ⟨j, hj, rfl, rfl⟩ := hrel
                  by_cases hj0 : j = 0
                  · subst hj0
                    have Hd0 : Hid (VarPlain.val (lt.drop 0) = VarPlain.val lt) := by show _ = _; rw [List.drop_zero]
                    rw [Hd0.out]
                    go_wp2_with fail
                    go_ret3
                    exact ⟨by rw [Hr.out]; rfl, rfl⟩
                  · obtain ⟨p, rfl⟩ : ∃ p, j = p + 1 := ⟨j - 1, by omega⟩
                    have hpi : ((p + 1 : Nat) : Int) - 1 = (p : Int) := by omega
                    have hps : p < s.size := by omega
                    have hst := Hstep.out p hps (by omega)
                    have hle := HL.out p
                    rw [hst] at hle
                    have hlt64 := Nat.lt_of_le_of_lt hle Hv.out
                    have Hs := Lib.hid hst
                    rw [hpi]
                    clear hpi hst hle hj0
                    generalize VarPlain.val (lt.drop (p + 1)) = v at *
                    have hd : s[p].toNat % 128 < 128 := Nat.mod_lt _ (by decide)
                    have hw1 : IntKind.u64.wrap (128 * (v : Int)) = 128 * (v : Int) := by rw [IntKind.wrap_u64]; omega
                    have hw2 : IntKind.u64.wrap (128 * (v : Int) + (s[p].toNat : Int) % 128) = 128 * (v : Int) + (s[p].toNat : Int) % 128 := by rw [IntKind.wrap_u64]; omega
                    have hsp : s[p].toNat < 256 := s[p].toNat_lt
                    clear hlt64 hd
                    go_wp2_with fail
                    go_round
                    case rel => exact ⟨p, by omega, by first | rfl | (congr 1; omega), by rw [Hs.out]; congr 1; omega⟩
                    case measure => first | (simp [intOf]; done) | (simp [intOf]; omega)
              · have f1 : decide (0 < k) = true := by simp; omega
                have f1' : 0 < k := by omega
                have f2 : ((s[k].toNat : Int) == 0) = false := by rw [beq_eq_false_iff_ne]; omega
                by_cases hk9' : k = 9
                · have f3 : ((k : Int) == 9) = true := by rw [beq_iff_eq]; omega
                  have f4 : decide ((1 : Int) < (s[k].toNat : Int)) = false := by simp; omega
                  have f5 : s[k].toNat ≤ 1 := by omega
                  clear hb1 hb2
                  have Hk0 := Lib.hid hk0; clear hk0
                  have Hk9 := Lib.hid hk9'; clear hk9'
                  go_wp2_with fail
                  go_loop [6, 7] (fun x i => ∃ j : Nat, j ≤ k + 1 ∧ i = .int .i64 ((j : Int) - 1) ∧ x = .int .u64 (VarPlain.val (lt.drop j) : Int)) (fun _ i => (intOf i + 1).toNat)
                  case atStart => exact ⟨k + 1, Nat.le_refl _, by congr 1; omega, by rw [Hend.out]; rfl⟩
                  case round =>
                    obtain ⟨j, hj, rfl, rfl⟩ := hrel
                    by_cases hj0 : j = 0
                    · subst hj0
                      have Hd0 : Hid (VarPlain.val (lt.drop 0) = VarPlain.val lt) := by show _ = _; rw [List.drop_zero]
                      rw [Hd0.out]
                      go_wp2_with fail
                      go_ret3
                      exact ⟨by rw [Hr.out]; rfl, rfl⟩
                    · obtain ⟨p, rfl⟩ : ∃ p, j = p + 1 := ⟨j - 1, by omega⟩
                      have hpi : ((p + 1 : Nat) : Int) - 1 = (p : Int) := by omega
                      have hps : p < s.size := by omega
                      have hst := Hstep.out p hps (by omega)
                      have hle := HL.out p
                      rw [hst] at hle
                      have hlt64 := Nat.lt_of_le_of_lt hle Hv.out
                      have Hs := Lib.hid hst
                      rw [hpi]
                      clear hpi hst hle hj0
                      generalize VarPlain.val (lt.drop (p + 1)) = v at *
                      have hd : s[p].toNat % 128 < 128 := Nat.mod_lt _ (by decide)
                      have hw1 : IntKind.u64.wrap (128 * (v : Int)) = 128 * (v : Int) := by rw [IntKind.wrap_u64]; omega
                      have hw2 : IntKind.u64.wrap (128 * (v : Int) + (s[p].toNat : Int) % 128) = 128 * (v : Int) + (s[p].toNat : Int) % 128 := by rw [IntKind.wrap_u64]; omega
                      have hsp : s[p].toNat < 256 := s[p].toNat_lt
                      clear hlt64 hd
                      go_wp2_with fail
                      go_round
                      case rel => exact ⟨p, by omega, by first | rfl | (congr 1; omega), by rw [Hs.out]; congr 1; omega⟩
                      case measure => first | (simp [intOf]; done) | (simp [intOf]; omega)
                · have f3 : ((k : Int) == 9) = false := by rw [beq_eq_false_iff_ne]; omega
                  clear hb1 hb2
                  have Hk0 := Lib.hid hk0; clear hk0
                  have Hk9 := Lib.hid hk9'; clear hk9'
                  go_wp2_with fail
                  go_loop [6, 7] (fun x i => ∃ j : Nat, j ≤ k + 1 ∧ i = .int .i64 ((j : Int) - 1) ∧ x = .int .u64 (VarPlain.val (lt.drop j) : Int)) (fun _ i => (intOf i + 1).toNat)
                  case atStart => exact ⟨k + 1, Nat.le_refl _, by congr 1; omega, by rw [Hend.out]; rfl⟩
                  case round =>
                    obtain ⟨j, hj, rfl, rfl⟩ := hrel
                    by_cases hj0 : j = 0
                    · subst hj0
                      have Hd0 : Hid (VarPlain.val (lt.drop 0) = VarPlain.val lt) := by show _ = _; rw [List.drop_zero]
                      rw [Hd0.out]
                      go_wp2_with fail
                      go_ret3
                      exact ⟨by rw [Hr.out]; rfl, rfl⟩
                    · obtain ⟨p, rfl⟩ : ∃ p, j = p + 1 := ⟨j - 1, by omega⟩
                      have hpi : ((p + 1 : Nat) : Int) - 1 = (p : Int) := by omega
                      have hps : p < s.size := by omega
                      have hst := Hstep.out p hps (by omega)
                      have hle := HL.out p
                      rw [hst] at hle
                      have hlt64 := Nat.lt_of_le_of_lt hle Hv.out
                      have Hs := Lib.hid hst
                      rw [hpi]
                      clear hpi hst hle hj0
                      generalize VarPlain.val (lt.drop (p + 1)) = v at *
                      have hd : s[p].toNat % 128 < 128 := Nat.mod_lt _ (by decide)
                      have hw1 : IntKind.u64.wrap (128 * (v : Int)) = 128 * (v : Int) := by rw [IntKind.wrap_u64]; omega
                      have hw2 : IntKind.u64.wrap (128 * (v : Int) + (s[p].toNat : Int) % 128) = 128 * (v : Int) + (s[p].toNat : Int) % 128 := by rw [IntKind.wrap_u64]; omega
                      have hsp : s[p].toNat < 256 := s[p].toNat_lt
                      clear hlt64 hd
                      go_wp2_with fail
                      go_round
                      case rel => exact ⟨p, by omega, by first | rfl | (congr 1; omega), by rw [Hs.out]; congr 1; omega⟩
                      case measure => first | (simp [intOf]; done) | (simp [intOf]; omega)

end Go.Proofs.Ytgbnfipbedlmhaa
