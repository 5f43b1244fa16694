/-
  Syntax: braces and parentheses within each other, plainly. Conditions: none.
-/
import Derived.Test.YtknncfoaegmphaaGreatDoorGSyA
set_option linter.unusedVariables false
set_option linter.unusedSimpArgs false
set_option maxRecDepth 100000
namespace Go.Proofs.YtknncfoaegmphaaGreatDoor.Sx
open Go.RowKit Base Lx Sy

def opn (sub : Bool) : Nm := if sub then [40] else [123, 32]
def cls (sub : Bool) : Nm := if sub then [41] else [125, 10]
def deepT (sub : Bool) (k : Nat) : Nm := (List.replicate k (opn sub)).flatten ++ [97, 10] ++ (List.replicate k (cls sub)).flatten
def deepOk (sub : Bool) (k : Nat) : Bool := match parseM (deepT sub k) with
  | .error e => decide (40 < k) && decide (e.1 = 21) && decide (e.2 = 1)
  | .ok l => decide (k ≤ 40) && decide (l.length = 2 * k + 2)
set_option maxHeartbeats 4000000 in
theorem deep_t0 : deepOk true 1 = true := by decide +kernel
set_option maxHeartbeats 4000000 in
theorem deep_t1 : deepOk true 2 = true := by decide +kernel
set_option maxHeartbeats 4000000 in
theorem deep_t2 : deepOk true 3 = true := by decide +kernel
set_option maxHeartbeats 4000000 in
theorem deep_t3 : deepOk true 4 = true := by decide +kernel
set_option maxHeartbeats 4000000 in
theorem deep_t4 : deepOk true 5 = true := by decide +kernel
set_option maxHeartbeats 4000000 in
theorem deep_t5 : deepOk true 6 = true := by decide +kernel
set_option maxHeartbeats 4000000 in
theorem deep_t6 : deepOk true 7 = true := by decide +kernel
set_option maxHeartbeats 4000000 in
theorem deep_t7 : deepOk true 8 = true := by decide +kernel
set_option maxHeartbeats 4000000 in
theorem deep_t8 : deepOk true 9 = true := by decide +kernel
set_option maxHeartbeats 4000000 in
theorem deep_t9 : deepOk true 10 = true := by decide +kernel
set_option maxHeartbeats 4000000 in
theorem deep_t10 : deepOk true 11 = true := by decide +kernel
set_option maxHeartbeats 4000000 in
theorem deep_t11 : deepOk true 12 = true := by decide +kernel
set_option maxHeartbeats 4000000 in
theorem deep_t12 : deepOk true 13 = true := by decide +kernel
set_option maxHeartbeats 4000000 in
theorem deep_t13 : deepOk true 14 = true := by decide +kernel
set_option maxHeartbeats 4000000 in
theorem deep_t14 : deepOk true 15 = true := by decide +kernel
set_option maxHeartbeats 4000000 in
theorem deep_t15 : deepOk true 16 = true := by decide +kernel
set_option maxHeartbeats 4000000 in
theorem deep_t16 : deepOk true 17 = true := by decide +kernel
set_option maxHeartbeats 4000000 in
theorem deep_t17 : deepOk true 18 = true := by decide +kernel
set_option maxHeartbeats 4000000 in
theorem deep_t18 : deepOk true 19 = true := by decide +kernel
set_option maxHeartbeats 4000000 in
theorem deep_t19 : deepOk true 20 = true := by decide +kernel
set_option maxHeartbeats 4000000 in
theorem deep_t20 : deepOk true 21 = true := by decide +kernel
set_option maxHeartbeats 4000000 in
theorem deep_t21 : deepOk true 22 = true := by decide +kernel
set_option maxHeartbeats 4000000 in
theorem deep_t22 : deepOk true 23 = true := by decide +kernel
set_option maxHeartbeats 4000000 in
theorem deep_t23 : deepOk true 24 = true := by decide +kernel
set_option maxHeartbeats 4000000 in
theorem deep_t24 : deepOk true 25 = true := by decide +kernel
set_option maxHeartbeats 4000000 in
theorem deep_t25 : deepOk true 26 = true := by decide +kernel
set_option maxHeartbeats 4000000 in
theorem deep_t26 : deepOk true 27 = true := by decide +kernel
set_option maxHeartbeats 4000000 in
theorem deep_t27 : deepOk true 28 = true := by decide +kernel
set_option maxHeartbeats 4000000 in
theorem deep_t28 : deepOk true 29 = true := by decide +kernel
set_option maxHeartbeats 4000000 in
theorem deep_t29 : deepOk true 30 = true := by decide +kernel
set_option maxHeartbeats 4000000 in
theorem deep_t30 : deepOk true 31 = true := by decide +kernel
set_option maxHeartbeats 4000000 in
theorem deep_t31 : deepOk true 32 = true := by decide +kernel
set_option maxHeartbeats 4000000 in
theorem deep_t32 : deepOk true 33 = true := by decide +kernel
set_option maxHeartbeats 4000000 in
theorem deep_t33 : deepOk true 34 = true := by decide +kernel
set_option maxHeartbeats 4000000 in
theorem deep_t34 : deepOk true 35 = true := by decide +kernel
set_option maxHeartbeats 4000000 in
theorem deep_t35 : deepOk true 36 = true := by decide +kernel
set_option maxHeartbeats 4000000 in
theorem deep_t36 : deepOk true 37 = true := by decide +kernel
set_option maxHeartbeats 4000000 in
theorem deep_t37 : deepOk true 38 = true := by decide +kernel
set_option maxHeartbeats 4000000 in
theorem deep_t38 : deepOk true 39 = true := by decide +kernel
set_option maxHeartbeats 4000000 in
theorem deep_t39 : deepOk true 40 = true := by decide +kernel
set_option maxHeartbeats 4000000 in
theorem deep_t40 : deepOk true 41 = true := by decide +kernel
set_option maxHeartbeats 4000000 in
theorem deep_t41 : deepOk true 42 = true := by decide +kernel
set_option maxHeartbeats 4000000 in
theorem deep_t42 : deepOk true 43 = true := by decide +kernel
set_option maxHeartbeats 4000000 in
theorem deep_t43 : deepOk true 44 = true := by decide +kernel
set_option maxHeartbeats 4000000 in
theorem deep_t44 : deepOk true 45 = true := by decide +kernel
set_option maxHeartbeats 4000000 in
theorem deep_t45 : deepOk true 46 = true := by decide +kernel
set_option maxHeartbeats 4000000 in
theorem deep_t46 : deepOk true 47 = true := by decide +kernel
set_option maxHeartbeats 4000000 in
theorem deep_t47 : deepOk true 48 = true := by decide +kernel
set_option maxHeartbeats 4000000 in
theorem deep_t48 : deepOk true 49 = true := by decide +kernel
set_option maxHeartbeats 4000000 in
theorem deep_t49 : deepOk true 50 = true := by decide +kernel
set_option maxHeartbeats 4000000 in
theorem deep_t50 : deepOk true 51 = true := by decide +kernel
set_option maxHeartbeats 4000000 in
theorem deep_t51 : deepOk true 52 = true := by decide +kernel
set_option maxHeartbeats 4000000 in
theorem deep_t52 : deepOk true 53 = true := by decide +kernel
set_option maxHeartbeats 4000000 in
theorem deep_t53 : deepOk true 54 = true := by decide +kernel
set_option maxHeartbeats 4000000 in
theorem deep_t54 : deepOk true 55 = true := by decide +kernel
set_option maxHeartbeats 4000000 in
theorem deep_t55 : deepOk true 56 = true := by decide +kernel
set_option maxHeartbeats 4000000 in
theorem deep_t56 : deepOk true 57 = true := by decide +kernel
set_option maxHeartbeats 4000000 in
theorem deep_t57 : deepOk true 58 = true := by decide +kernel
set_option maxHeartbeats 4000000 in
theorem deep_t58 : deepOk true 59 = true := by decide +kernel
set_option maxHeartbeats 4000000 in
theorem deep_t59 : deepOk true 60 = true := by decide +kernel
theorem deep_t : ∀ k, k < 60 → deepOk true (k + 1) = true
  | 0, _ => deep_t0
  | 1, _ => deep_t1
  | 2, _ => deep_t2
  | 3, _ => deep_t3
  | 4, _ => deep_t4
  | 5, _ => deep_t5
  | 6, _ => deep_t6
  | 7, _ => deep_t7
  | 8, _ => deep_t8
  | 9, _ => deep_t9
  | 10, _ => deep_t10
  | 11, _ => deep_t11
  | 12, _ => deep_t12
  | 13, _ => deep_t13
  | 14, _ => deep_t14
  | 15, _ => deep_t15
  | 16, _ => deep_t16
  | 17, _ => deep_t17
  | 18, _ => deep_t18
  | 19, _ => deep_t19
  | 20, _ => deep_t20
  | 21, _ => deep_t21
  | 22, _ => deep_t22
  | 23, _ => deep_t23
  | 24, _ => deep_t24
  | 25, _ => deep_t25
  | 26, _ => deep_t26
  | 27, _ => deep_t27
  | 28, _ => deep_t28
  | 29, _ => deep_t29
  | 30, _ => deep_t30
  | 31, _ => deep_t31
  | 32, _ => deep_t32
  | 33, _ => deep_t33
  | 34, _ => deep_t34
  | 35, _ => deep_t35
  | 36, _ => deep_t36
  | 37, _ => deep_t37
  | 38, _ => deep_t38
  | 39, _ => deep_t39
  | 40, _ => deep_t40
  | 41, _ => deep_t41
  | 42, _ => deep_t42
  | 43, _ => deep_t43
  | 44, _ => deep_t44
  | 45, _ => deep_t45
  | 46, _ => deep_t46
  | 47, _ => deep_t47
  | 48, _ => deep_t48
  | 49, _ => deep_t49
  | 50, _ => deep_t50
  | 51, _ => deep_t51
  | 52, _ => deep_t52
  | 53, _ => deep_t53
  | 54, _ => deep_t54
  | 55, _ => deep_t55
  | 56, _ => deep_t56
  | 57, _ => deep_t57
  | 58, _ => deep_t58
  | 59, _ => deep_t59
  | n + 60, h => absurd h (by omega)
set_option maxHeartbeats 4000000 in
theorem deep_f0 : deepOk false 1 = true := by decide +kernel
set_option maxHeartbeats 4000000 in
theorem deep_f1 : deepOk false 2 = true := by decide +kernel
set_option maxHeartbeats 4000000 in
theorem deep_f2 : deepOk false 3 = true := by decide +kernel
set_option maxHeartbeats 4000000 in
theorem deep_f3 : deepOk false 4 = true := by decide +kernel
set_option maxHeartbeats 4000000 in
theorem deep_f4 : deepOk false 5 = true := by decide +kernel
set_option maxHeartbeats 4000000 in
theorem deep_f5 : deepOk false 6 = true := by decide +kernel
set_option maxHeartbeats 4000000 in
theorem deep_f6 : deepOk false 7 = true := by decide +kernel
set_option maxHeartbeats 4000000 in
theorem deep_f7 : deepOk false 8 = true := by decide +kernel
set_option maxHeartbeats 4000000 in
theorem deep_f8 : deepOk false 9 = true := by decide +kernel
set_option maxHeartbeats 4000000 in
theorem deep_f9 : deepOk false 10 = true := by decide +kernel
set_option maxHeartbeats 4000000 in
theorem deep_f10 : deepOk false 11 = true := by decide +kernel
set_option maxHeartbeats 4000000 in
theorem deep_f11 : deepOk false 12 = true := by decide +kernel
set_option maxHeartbeats 4000000 in
theorem deep_f12 : deepOk false 13 = true := by decide +kernel
set_option maxHeartbeats 4000000 in
theorem deep_f13 : deepOk false 14 = true := by decide +kernel
set_option maxHeartbeats 4000000 in
theorem deep_f14 : deepOk false 15 = true := by decide +kernel
set_option maxHeartbeats 4000000 in
theorem deep_f15 : deepOk false 16 = true := by decide +kernel
set_option maxHeartbeats 4000000 in
theorem deep_f16 : deepOk false 17 = true := by decide +kernel
set_option maxHeartbeats 4000000 in
theorem deep_f17 : deepOk false 18 = true := by decide +kernel
set_option maxHeartbeats 4000000 in
theorem deep_f18 : deepOk false 19 = true := by decide +kernel
set_option maxHeartbeats 4000000 in
theorem deep_f19 : deepOk false 20 = true := by decide +kernel
set_option maxHeartbeats 4000000 in
theorem deep_f20 : deepOk false 21 = true := by decide +kernel
set_option maxHeartbeats 4000000 in
theorem deep_f21 : deepOk false 22 = true := by decide +kernel
set_option maxHeartbeats 4000000 in
theorem deep_f22 : deepOk false 23 = true := by decide +kernel
set_option maxHeartbeats 4000000 in
theorem deep_f23 : deepOk false 24 = true := by decide +kernel
set_option maxHeartbeats 4000000 in
theorem deep_f24 : deepOk false 25 = true := by decide +kernel
set_option maxHeartbeats 4000000 in
theorem deep_f25 : deepOk false 26 = true := by decide +kernel
set_option maxHeartbeats 4000000 in
theorem deep_f26 : deepOk false 27 = true := by decide +kernel
set_option maxHeartbeats 4000000 in
theorem deep_f27 : deepOk false 28 = true := by decide +kernel
set_option maxHeartbeats 4000000 in
theorem deep_f28 : deepOk false 29 = true := by decide +kernel
set_option maxHeartbeats 4000000 in
theorem deep_f29 : deepOk false 30 = true := by decide +kernel
set_option maxHeartbeats 4000000 in
theorem deep_f30 : deepOk false 31 = true := by decide +kernel
set_option maxHeartbeats 4000000 in
theorem deep_f31 : deepOk false 32 = true := by decide +kernel
set_option maxHeartbeats 4000000 in
theorem deep_f32 : deepOk false 33 = true := by decide +kernel
set_option maxHeartbeats 4000000 in
theorem deep_f33 : deepOk false 34 = true := by decide +kernel
set_option maxHeartbeats 4000000 in
theorem deep_f34 : deepOk false 35 = true := by decide +kernel
set_option maxHeartbeats 4000000 in
theorem deep_f35 : deepOk false 36 = true := by decide +kernel
set_option maxHeartbeats 4000000 in
theorem deep_f36 : deepOk false 37 = true := by decide +kernel
set_option maxHeartbeats 4000000 in
theorem deep_f37 : deepOk false 38 = true := by decide +kernel
set_option maxHeartbeats 4000000 in
theorem deep_f38 : deepOk false 39 = true := by decide +kernel
set_option maxHeartbeats 4000000 in
theorem deep_f39 : deepOk false 40 = true := by decide +kernel
set_option maxHeartbeats 4000000 in
theorem deep_f40 : deepOk false 41 = true := by decide +kernel
set_option maxHeartbeats 4000000 in
theorem deep_f41 : deepOk false 42 = true := by decide +kernel
set_option maxHeartbeats 4000000 in
theorem deep_f42 : deepOk false 43 = true := by decide +kernel
set_option maxHeartbeats 4000000 in
theorem deep_f43 : deepOk false 44 = true := by decide +kernel
set_option maxHeartbeats 4000000 in
theorem deep_f44 : deepOk false 45 = true := by decide +kernel
set_option maxHeartbeats 4000000 in
theorem deep_f45 : deepOk false 46 = true := by decide +kernel
set_option maxHeartbeats 4000000 in
theorem deep_f46 : deepOk false 47 = true := by decide +kernel
set_option maxHeartbeats 4000000 in
theorem deep_f47 : deepOk false 48 = true := by decide +kernel
set_option maxHeartbeats 4000000 in
theorem deep_f48 : deepOk false 49 = true := by decide +kernel
set_option maxHeartbeats 4000000 in
theorem deep_f49 : deepOk false 50 = true := by decide +kernel
set_option maxHeartbeats 4000000 in
theorem deep_f50 : deepOk false 51 = true := by decide +kernel
set_option maxHeartbeats 4000000 in
theorem deep_f51 : deepOk false 52 = true := by decide +kernel
set_option maxHeartbeats 4000000 in
theorem deep_f52 : deepOk false 53 = true := by decide +kernel
set_option maxHeartbeats 4000000 in
theorem deep_f53 : deepOk false 54 = true := by decide +kernel
set_option maxHeartbeats 4000000 in
theorem deep_f54 : deepOk false 55 = true := by decide +kernel
set_option maxHeartbeats 4000000 in
theorem deep_f55 : deepOk false 56 = true := by decide +kernel
set_option maxHeartbeats 4000000 in
theorem deep_f56 : deepOk false 57 = true := by decide +kernel
set_option maxHeartbeats 4000000 in
theorem deep_f57 : deepOk false 58 = true := by decide +kernel
set_option maxHeartbeats 4000000 in
theorem deep_f58 : deepOk false 59 = true := by decide +kernel
set_option maxHeartbeats 4000000 in
theorem deep_f59 : deepOk false 60 = true := by decide +kernel
theorem deep_f : ∀ k, k < 60 → deepOk false (k + 1) = true
  | 0, _ => deep_f0
  | 1, _ => deep_f1
  | 2, _ => deep_f2
  | 3, _ => deep_f3
  | 4, _ => deep_f4
  | 5, _ => deep_f5
  | 6, _ => deep_f6
  | 7, _ => deep_f7
  | 8, _ => deep_f8
  | 9, _ => deep_f9
  | 10, _ => deep_f10
  | 11, _ => deep_f11
  | 12, _ => deep_f12
  | 13, _ => deep_f13
  | 14, _ => deep_f14
  | 15, _ => deep_f15
  | 16, _ => deep_f16
  | 17, _ => deep_f17
  | 18, _ => deep_f18
  | 19, _ => deep_f19
  | 20, _ => deep_f20
  | 21, _ => deep_f21
  | 22, _ => deep_f22
  | 23, _ => deep_f23
  | 24, _ => deep_f24
  | 25, _ => deep_f25
  | 26, _ => deep_f26
  | 27, _ => deep_f27
  | 28, _ => deep_f28
  | 29, _ => deep_f29
  | 30, _ => deep_f30
  | 31, _ => deep_f31
  | 32, _ => deep_f32
  | 33, _ => deep_f33
  | 34, _ => deep_f34
  | 35, _ => deep_f35
  | 36, _ => deep_f36
  | 37, _ => deep_f37
  | 38, _ => deep_f38
  | 39, _ => deep_f39
  | 40, _ => deep_f40
  | 41, _ => deep_f41
  | 42, _ => deep_f42
  | 43, _ => deep_f43
  | 44, _ => deep_f44
  | 45, _ => deep_f45
  | 46, _ => deep_f46
  | 47, _ => deep_f47
  | 48, _ => deep_f48
  | 49, _ => deep_f49
  | 50, _ => deep_f50
  | 51, _ => deep_f51
  | 52, _ => deep_f52
  | 53, _ => deep_f53
  | 54, _ => deep_f54
  | 55, _ => deep_f55
  | 56, _ => deep_f56
  | 57, _ => deep_f57
  | 58, _ => deep_f58
  | 59, _ => deep_f59
  | n + 60, h => absurd h (by omega)
theorem deep_all (sub : Bool) (k : Nat) (h : k < 60) : deepOk sub (k + 1) = true := by
  cases sub
  · exact deep_f k h
  · exact deep_t k h
theorem deep_cases (sub : Bool) {k : Nat} (h1 : 1 ≤ k) (h2 : k ≤ 60) : (40 < k ∧ parseM (deepT sub k) = .error (21, 1)) ∨ (k ≤ 40 ∧ ∃ l, parseM (deepT sub k) = .ok l ∧ l.length = 2 * k + 2) := by
  have h := deep_all sub (k - 1) (by omega)
  rw [show k - 1 + 1 = k by omega] at h
  unfold deepOk at h
  cases hp : parseM (deepT sub k) with
  | error e =>
    rw [hp] at h
    simp only [Bool.and_eq_true, decide_eq_true_eq] at h
    exact .inl ⟨h.1.1, by rw [← h.1.2, ← h.2]⟩
  | ok l =>
    rw [hp] at h
    simp only [Bool.and_eq_true, decide_eq_true_eq] at h
    exact .inr ⟨h.1, l, rfl, h.2⟩
/-- While it is put together. -/
theorem deep_open (sub : Bool) (i : Nat) : (List.replicate (i + 1) (opn sub)).flatten = (List.replicate i (opn sub)).flatten ++ opn sub := by
  rw [List.replicate_succ', List.flatten_append]; simp
theorem deep_close (sub : Bool) (i : Nat) : (List.replicate (i + 1) (cls sub)).flatten = (List.replicate i (cls sub)).flatten ++ cls sub := by
  rw [List.replicate_succ', List.flatten_append]; simp
theorem deep_olen (sub : Bool) (i : Nat) : (List.replicate i (opn sub)).flatten.length ≤ 2 * i := by
  induction i with
  | zero => simp
  | succ i ih =>
    rw [deep_open, List.length_append]
    have h2 : (opn sub).length ≤ 2 := by cases sub <;> decide
    omega
theorem deep_clen (sub : Bool) (i : Nat) : (List.replicate i (cls sub)).flatten.length ≤ 2 * i := by
  induction i with
  | zero => simp
  | succ i ih =>
    rw [deep_close, List.length_append]
    have h2 : (cls sub).length ≤ 2 := by cases sub <;> decide
    omega
end Go.Proofs.YtknncfoaegmphaaGreatDoor.Sx
