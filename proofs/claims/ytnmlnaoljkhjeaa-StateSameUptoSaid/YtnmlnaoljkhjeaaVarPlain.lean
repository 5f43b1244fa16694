/-
  Plain mathematics of the numbers of chapter 1 (varint): what a number is put as, what bytes begin with. No program stands here. Conditions: none.
-/
import Derived.Below
namespace Go.Proofs.Ytnmlnaoljkhjeaa.VarPlain

/-- A number's bytes: seven bits each, the lower ones first. -/
def num (x : Nat) : List UInt8 :=
  if h : x < 128 then [UInt8.ofNat x] else UInt8.ofNat (128 + x % 128) :: num (x / 128)
termination_by x
decreasing_by omega

theorem num_small {x : Nat} (h : x < 128) : num x = [UInt8.ofNat x] := by rw [num, dif_pos h]
theorem num_big {x : Nat} (h : 128 ≤ x) : num x = UInt8.ofNat (128 + x % 128) :: num (x / 128) := by rw [num, dif_neg (by omega)]

def nums (l : List Nat) : List UInt8 := l.flatMap num

/-- How many bytes at the beginning are 128 or more. -/
def lead : List UInt8 → Nat
  | [] => 0
  | c :: r => if 128 ≤ c.toNat then lead r + 1 else 0

/-- The number of bytes, the first ones the lowest. -/
def val : List UInt8 → Nat
  | [] => 0
  | c :: r => c.toNat % 128 + 128 * val r

/-- What bytes begin with: the number, how many bytes it has, the error's number. -/
def take (b : List UInt8) : Nat × Nat × Int :=
  let n := min (lead b) 10
  if n = 10 then (0, 0, 11)
  else if n = b.length then (0, 0, 10)
  else if (0 < n ∧ (b.getD n 0).toNat = 0) ∨ (n = 9 ∧ 1 < (b.getD n 0).toNat) then (0, 0, 11)
  else (val (b.take (n + 1)), n + 1, 0)

theorem lead_le (b : List UInt8) : lead b ≤ b.length := by
  induction b with
  | nil => exact Nat.le_refl _
  | cons c r ih => rw [lead]; split <;> simp <;> omega
theorem lead_at {b : List UInt8} {k : Nat} (h : k < lead b) (hk : k < b.length) : 128 ≤ b[k].toNat := by
  induction b generalizing k with
  | nil => simp at hk
  | cons c r ih =>
    rw [lead] at h
    split at h
    · cases k with
      | zero => assumption
      | succ k => exact ih (by omega) (by simpa using hk)
    · omega
theorem lead_end {b : List UInt8} (hk : lead b < b.length) : b[lead b].toNat < 128 := by
  induction b with
  | nil => simp at hk
  | cons c r ih =>
    by_cases hc : 128 ≤ c.toNat
    · have e : lead (c :: r) = lead r + 1 := by rw [lead, if_pos hc]
      simp only [e] at hk ⊢
      simpa using ih (by simpa using hk)
    · have e : lead (c :: r) = 0 := by rw [lead, if_neg hc]
      simp only [e]
      simpa using Nat.lt_of_not_le hc
theorem lead_eq {b : List UInt8} {k : Nat} (h1 : ∀ j, j < k → ∀ hj : j < b.length, 128 ≤ b[j].toNat) (h2 : k = b.length ∨ ∃ hk : k < b.length, b[k].toNat < 128) : lead b = k := by
  induction b generalizing k with
  | nil =>
    rcases h2 with h2 | ⟨hk, _⟩
    · simp at h2; subst h2; rfl
    · simp at hk
  | cons c r ih =>
    cases k with
    | zero =>
      rcases h2 with h2 | ⟨_, h2⟩
      · simp at h2
      · rw [lead, if_neg (by simpa using h2)]
    | succ k =>
      have hc : 128 ≤ c.toNat := h1 0 (by omega) (by simp)
      rw [lead, if_pos hc, ih (k := k) (fun j hj hjr => by
        have := h1 (j + 1) (by omega) (by simpa using hjr)
        rwa [List.getElem_cons_succ] at this) ?_]
      rcases h2 with h2 | ⟨hk, h2⟩
      · left; simpa using h2
      · right; exact ⟨by simpa using hk, by simpa using h2⟩

theorem val_append (l m : List UInt8) : val (l ++ m) = val l + 128 ^ l.length * val m := by
  induction l with
  | nil => simp [val]
  | cons c r ih =>
    rw [List.cons_append, val, val, ih, List.length_cons, Nat.pow_succ, Nat.mul_add, ← Nat.mul_assoc]
    have e : 128 * 128 ^ r.length = 128 ^ r.length * 128 := Nat.mul_comm _ _
    rw [e]
    omega
theorem val_lt (l : List UInt8) : val l < 128 ^ l.length := by
  induction l with
  | nil => simp [val]
  | cons c r ih =>
    rw [val, List.length_cons, Nat.pow_succ]
    have := Nat.mod_lt c.toNat (show 0 < 128 by decide)
    omega

/-- A number with a sign as one without, and back. -/
def zig (x : Int) : Nat := if 0 ≤ x then (2 * x).toNat else (-2 * x - 1).toNat
def zag (y : Nat) : Int := if y % 2 = 0 then (y / 2 : Nat) else -((y / 2 : Nat) : Int) - 1
theorem zag_zig (x : Int) : zag (zig x) = x := by unfold zag zig; split <;> split <;> omega
theorem zig_zag (y : Nat) : zig (zag y) = y := by unfold zag zig; split <;> split <;> omega

/-- The next number of what is left: it, what is left then, the error. -/
def next (l : List UInt8) (e : Int) : Nat × List UInt8 × Int := if e ≠ 0 then (0, l, e) else ((take l).1, l.drop (take l).2.1, (take l).2.2)
/-- The next text. -/
def word (l : List UInt8) (e : Int) : List UInt8 × List UInt8 × Int :=
  if (next l e).2.2 ≠ 0 then ([], (next l e).2.1, (next l e).2.2)
  else if (next l e).2.1.length < (next l e).1 then ([], (next l e).2.1, 10)
  else ((next l e).2.1.take (next l e).1, (next l e).2.1.drop (next l e).1, 0)

theorem take_le (b : List UInt8) : (take b).2.1 ≤ b.length := by
  have h1 := lead_le b
  unfold take
  simp only []
  split
  · simp
  · split
    · simp
    · split
      · simp
      · simp only []; omega
theorem take_lt (b : List UInt8) : (take b).1 < 18446744073709551616 := by
  have h1 := lead_le b
  unfold take
  simp only []
  split
  · simp
  · rename_i h10
    split
    · simp
    · rename_i hlen
      split
      · simp
      · rename_i hbad
        simp only []
        generalize hn : min (lead b) 10 = n at *
        have hnb : n < b.length := by omega
        have hne : n = lead b := by omega
        have hend : b[n].toNat < 128 := by subst hne; exact lead_end hnb
        have e2 : b.getD n 0 = b[n] := by simp [List.getD, List.getElem?_eq_getElem hnb]
        rw [e2] at hbad
        rw [List.take_succ_eq_append_getElem hnb, val_append]
        have h2 := val_lt (b.take n)
        have h3 : (b.take n).length = n := by rw [List.length_take]; omega
        rw [h3] at h2 ⊢
        simp only [val, Nat.mul_zero, Nat.add_zero]
        rw [Nat.mod_eq_of_lt hend]
        have e128 : 128 ^ n = 2 ^ (7 * n) := by rw [show 128 = 2 ^ 7 from rfl, ← Nat.pow_mul]
        rw [e128] at h2 ⊢
        rcases (by omega : n ≤ 8 ∨ n = 9) with h9 | h9
        · have hp56 : 2 ^ (7 * n) ≤ 2 ^ 56 := Nat.pow_le_pow_right (by decide) (by omega)
          have h4 : 2 ^ (7 * n) * b[n].toNat ≤ 2 ^ 56 * 127 := Nat.mul_le_mul hp56 (by omega)
          omega
        · have h5 : b[n].toNat ≤ 1 := by omega
          have hp63 : 2 ^ (7 * n) ≤ 2 ^ 63 := Nat.pow_le_pow_right (by decide) (by omega)
          have h4 : 2 ^ (7 * n) * b[n].toNat ≤ 2 ^ 63 * 1 := Nat.mul_le_mul hp63 h5
          omega

end Go.Proofs.Ytnmlnaoljkhjeaa.VarPlain
