/-
  Plain mathematics of chapter 1, more: what is put is taken, whatever stands behind; cut it is short; what is taken is what its number is put as. No program stands here. Conditions: the numbers are of 64 bits.
-/
import Derived.Test.YtnmlnaoljkhjeaaVarTexts2
set_option linter.unusedVariables false
namespace Go.Proofs.Ytnmlnaoljkhjeaa
open Go.RowKit Base

theorem num_form : ∀ x : Nat, ∃ (p : List UInt8) (c : UInt8), VarPlain.num x = p ++ [c] ∧ (∀ d ∈ p, 128 ≤ d.toNat) ∧ c.toNat < 128 ∧ (x ≠ 0 → c.toNat ≠ 0) ∧ VarPlain.val (p ++ [c]) = x ∧ (p ≠ [] → x ≠ 0) := by
  intro x
  induction x using Nat.strongRecOn with
  | ind x ih =>
    by_cases h : x < 128
    · refine ⟨[], UInt8.ofNat x, VarPlain.num_small h, by simp, ?_, ?_, ?_, by simp⟩
      · simp; omega
      · intro h0; simp; omega
      · simp [VarPlain.val]; omega
    · obtain ⟨p, c, h1, h2, h3, h4, h5, h6⟩ := ih (x / 128) (by omega)
      refine ⟨UInt8.ofNat (128 + x % 128) :: p, c, ?_, ?_, h3, fun _ => h4 (by omega), ?_, fun _ => by omega⟩
      · rw [VarPlain.num_big (by omega), h1]; rfl
      · intro d hd
        rcases List.mem_cons.1 hd with rfl | hd
        · simp; omega
        · exact h2 d hd
      · rw [List.cons_append, VarPlain.val, h5]
        simp
        omega

theorem num_of_form : ∀ (p : List UInt8) (c : UInt8), (∀ d ∈ p, 128 ≤ d.toNat) → c.toNat < 128 → (p ≠ [] → c.toNat ≠ 0) → VarPlain.num (VarPlain.val (p ++ [c])) = p ++ [c] := by
  intro p
  induction p with
  | nil =>
    intro c _ hc _
    have e : VarPlain.val ([] ++ [c]) = c.toNat := by simp [VarPlain.val]; omega
    rw [e, VarPlain.num_small hc]
    simp
  | cons d p ih =>
    intro c hp hc h0
    have hc0 := h0 (by simp)
    have ih' := ih c (fun d hd => hp d (by simp [hd])) hc (fun _ => hc0)
    have hd := hp d (by simp)
    have hpos : 1 ≤ VarPlain.val (p ++ [c]) := by
      rw [VarPlain.val_append]
      have h1 : VarPlain.val [c] = c.toNat := by simp [VarPlain.val]; omega
      rw [h1]
      have h2 : 1 ≤ 128 ^ p.length * c.toNat := Nat.mul_pos (Nat.pow_pos (by decide)) (by omega)
      omega
    have hdl := d.toNat_lt
    rw [List.cons_append, VarPlain.val, VarPlain.num_big (by omega)]
    have e1 : (d.toNat % 128 + 128 * VarPlain.val (p ++ [c])) % 128 = d.toNat % 128 := by omega
    have e2 : (d.toNat % 128 + 128 * VarPlain.val (p ++ [c])) / 128 = VarPlain.val (p ++ [c]) := by omega
    rw [e1, e2, ih']
    congr 1
    apply UInt8.toNat_inj.1
    simp
    omega

theorem form_at {p : List UInt8} {c : UInt8} {r : List UInt8} (h : ∀ d ∈ p, 128 ≤ d.toNat) : ∀ j, j < p.length → ∀ hj : j < (p ++ c :: r).length, 128 ≤ (p ++ c :: r)[j].toNat := by
  intro j hj hjl
  rw [List.getElem_append_left hj]
  exact h _ (List.getElem_mem hj)

theorem take_form {p : List UInt8} {c : UInt8} (r : List UInt8) (hp : ∀ d ∈ p, 128 ≤ d.toNat) (hc : c.toNat < 128) (h0 : p ≠ [] → c.toNat ≠ 0) (h9 : p.length ≤ 9) (hl : p.length = 9 → c.toNat ≤ 1) :
    VarPlain.take (p ++ c :: r) = (VarPlain.val (p ++ [c]), p.length + 1, 0) := by
  have hk : p.length < (p ++ c :: r).length := by simp
  have e : (p ++ c :: r)[p.length] = c := by simp
  rw [take_at (form_at hp) hk h9 (by rw [e]; exact hc), e, if_neg]
  · congr 1
    rw [List.take_append, List.take_of_length_le (show p.length ≤ p.length + 1 by omega)]
    simp
  · rintro (⟨h1, h2⟩ | ⟨h1, h2⟩)
    · exact h0 (by intro hn; subst hn; simp at h1) h2
    · have := hl h1; omega

theorem num_len_form (x : Nat) (hx : Lt64 x) : ∃ (p : List UInt8) (c : UInt8), VarPlain.num x = p ++ [c] ∧ (∀ d ∈ p, 128 ≤ d.toNat) ∧ c.toNat < 128 ∧ (p ≠ [] → c.toNat ≠ 0) ∧ VarPlain.val (p ++ [c]) = x ∧ p.length ≤ 9 ∧ (p.length = 9 → c.toNat ≤ 1) := by
  obtain ⟨p, c, h1, h2, h3, h4, h5, h6⟩ := num_form x
  have h7 := num_len x hx
  rw [h1] at h7
  have h7' : p.length ≤ 9 := by simpa using h7
  refine ⟨p, c, h1, h2, h3, fun hp => h4 (h6 hp), h5, h7', fun h9 => ?_⟩
  rcases Nat.lt_or_ge c.toNat 2 with h | h
  · omega
  · exfalso
    have h8 := VarPlain.val_append p [c]
    rw [h5, h9] at h8
    have h10 : VarPlain.val [c] = c.toNat := by simp [VarPlain.val]; omega
    rw [h10] at h8
    unfold Lt64 at hx
    have h11 : 128 ^ 9 * 2 ≤ 128 ^ 9 * c.toNat := Nat.mul_le_mul_left _ h
    have h12 : (128 : Nat) ^ 9 * 2 = 18446744073709551616 := by decide
    omega

/-- What is put is taken, whatever stands behind. -/
theorem take_num (x : Nat) (hx : Lt64 x) (r : List UInt8) : VarPlain.take (VarPlain.num x ++ r) = (x, (VarPlain.num x).length, 0) := by
  obtain ⟨p, c, h1, h2, h3, h4, h5, h6, h7⟩ := num_len_form x hx
  rw [h1, List.append_assoc, List.singleton_append, take_form r h2 h3 h4 h6 h7, h5]
  simp
/-- Cut it is short. -/
theorem take_cut (x : Nat) (hx : Lt64 x) (k : Nat) (hk : k < (VarPlain.num x).length) : VarPlain.take ((VarPlain.num x).take k) = (0, 0, 10) := by
  obtain ⟨p, c, h1, h2, h3, h4, h5, h6, h7⟩ := num_len_form x hx
  rw [h1] at hk ⊢
  have hk' : k ≤ p.length := by simp at hk; omega
  have e : (p ++ [c]).take k = p.take k := by rw [List.take_append_of_le_length hk']
  have hl : (p.take k).length = k := by rw [List.length_take]; omega
  rw [e, take_end (m := k) ?_ (by omega) (by omega) (.inl hl.symm), if_neg (by omega)]
  intro j hj hjl
  rw [List.getElem_take]
  exact h2 _ (List.getElem_mem _)
/-- What is taken is what its number is put as. -/
theorem take_ok {b : List UInt8} (h : (VarPlain.take b).2.2 = 0) : VarPlain.num (VarPlain.take b).1 = b.take (VarPlain.take b).2.1 ∧ 1 ≤ (VarPlain.take b).2.1 ∧ (VarPlain.take b).2.1 ≤ 10 := by
  have hle := VarPlain.lead_le b
  have hend := @VarPlain.lead_end b
  have hat := @VarPlain.lead_at b
  unfold VarPlain.take at h ⊢
  simp only [] at h ⊢
  split at h
  · simp at h
  · rename_i h10
    rw [if_neg h10]
    split at h
    · simp at h
    · rename_i hlen
      rw [if_neg hlen]
      split at h
      · simp at h
      · rename_i hbad
        rw [if_neg hbad]
        generalize hn : min (VarPlain.lead b) 10 = n at *
        have hnb : n < b.length := by omega
        have hne : n = VarPlain.lead b := by omega
        subst hne
        have e2 : b.getD (VarPlain.lead b) 0 = b[VarPlain.lead b] := by simp [List.getD, List.getElem?_eq_getElem hnb]
        rw [e2] at hbad
        simp only []
        refine ⟨?_, by omega, by omega⟩
        rw [List.take_succ_eq_append_getElem hnb]
        refine num_of_form _ _ ?_ (hend hnb) ?_
        · intro d hd
          obtain ⟨j, hj, rfl⟩ := List.getElem_of_mem hd
          have hj' : j < VarPlain.lead b := by rw [List.length_take] at hj; omega
          rw [List.getElem_take]
          exact hat hj' (by omega)
        · intro hp h0
          refine hbad (.inl ⟨?_, h0⟩)
          rcases Nat.eq_zero_or_pos (VarPlain.lead b) with h | h
          · rw [h] at hp; simp at hp
          · exact h
theorem take_bad {b : List UInt8} (h : (VarPlain.take b).2.2 ≠ 0) : (VarPlain.take b).1 = 0 ∧ (VarPlain.take b).2.1 = 0 := by
  unfold VarPlain.take at h ⊢
  simp only [] at h ⊢
  split
  · simp
  · rename_i h10
    rw [if_neg h10] at h
    split
    · simp
    · rename_i hlen
      rw [if_neg hlen] at h
      split
      · simp
      · rename_i hbad
        rw [if_neg hbad] at h
        simp at h

theorem next_num (x : Nat) (hx : Lt64 x) (r : List UInt8) : VarPlain.next (VarPlain.num x ++ r) 0 = (x, r, 0) := by
  unfold VarPlain.next
  rw [if_neg (by simp), take_num x hx r]
  simp
theorem word_text (s : List UInt8) (hs : Lt64 s.length) (r : List UInt8) : VarPlain.word (VarPlain.num s.length ++ s ++ r) 0 = (s, r, 0) := by
  unfold VarPlain.word
  rw [List.append_assoc, next_num _ hs]
  simp

/-- What is left of bytes that were cut: the error is told already, or it is to come. -/
def Cutt (full l : List UInt8) (e : Int) : Prop := e = 10 ∨ (e = 0 ∧ ∃ m, m < full.length ∧ l = full.take m)
theorem cutt_num {x : Nat} (hx : Lt64 x) {r l : List UInt8} {e : Int} (h : Cutt (VarPlain.num x ++ r) l e) : Cutt r (VarPlain.next l e).2.1 (VarPlain.next l e).2.2 := by
  rcases h with rfl | ⟨rfl, m, hm, rfl⟩
  · left; unfold VarPlain.next; rw [if_pos (by decide)]
  · by_cases hk : m < (VarPlain.num x).length
    · left
      unfold VarPlain.next
      rw [List.take_append_of_le_length (by omega), take_cut x hx m hk]
      simp
    · right
      have e : (VarPlain.num x ++ r).take m = VarPlain.num x ++ r.take (m - (VarPlain.num x).length) := by
        rw [List.take_append, List.take_of_length_le (by omega)]
      rw [e, next_num x hx]
      refine ⟨rfl, m - (VarPlain.num x).length, ?_, rfl⟩
      rw [List.length_append] at hm
      omega
theorem cutt_text {s : List UInt8} (hs : Lt64 s.length) {r l : List UInt8} {e : Int} (h : Cutt (VarPlain.num s.length ++ s ++ r) l e) : Cutt r (VarPlain.word l e).2.1 (VarPlain.word l e).2.2 := by
  rw [List.append_assoc] at h
  have h1 := cutt_num hs h
  unfold VarPlain.word
  rcases h1 with h1 | ⟨h1, m, hm, h2⟩
  · left; rw [h1]; simp
  · rw [h1, h2, if_neg (by simp)]
    have hx : (VarPlain.next l e).1 = s.length := by
      rcases h with rfl | ⟨rfl, m', hm', rfl⟩
      · unfold VarPlain.next at h1; simp at h1
      · by_cases hk : m' < (VarPlain.num s.length).length
        · unfold VarPlain.next at h1
          rw [List.take_append_of_le_length (by omega), take_cut _ hs m' hk] at h1
          simp at h1
        · have e : (VarPlain.num s.length ++ (s ++ r)).take m' = VarPlain.num s.length ++ (s ++ r).take (m' - (VarPlain.num s.length).length) := by
            rw [List.take_append, List.take_of_length_le (by omega)]
          rw [e, next_num _ hs]
    rw [hx]
    by_cases hlt : ((s ++ r).take m).length < s.length
    · rw [if_pos hlt]; left; rfl
    · rw [if_neg hlt]
      right
      have hml : s.length ≤ m := by rw [List.length_take] at hlt; omega
      refine ⟨rfl, m - s.length, ?_, ?_⟩
      · rw [List.length_append] at hm; omega
      · simp only []
        rw [List.take_append, List.take_of_length_le hml]
        simp
theorem cutt_nil {l : List UInt8} {e : Int} (h : Cutt [] l e) : e = 10 := by
  rcases h with h | ⟨_, m, hm, _⟩
  · exact h
  · simp at hm

end Go.Proofs.Ytnmlnaoljkhjeaa
