/-
  The walks of package event and its reference, the tests and names: each computes what the plain mathematics says. Conditions: the arguments can be read; the names stand where they were laid.
-/
import Derived.Test.YtgbnfipbedlmhaaEvPlain2
import Derived.Test.YtgbnfipbedlmhaaLits
set_option linter.unusedVariables false
namespace Go.Proofs.Ytgbnfipbedlmhaa
open Go.RowKit Base

/-- A request, as a value. -/
def reqV (q : Req) (a : Option Addr) (cap : Nat) : Value := .agg #[.int .i64 q.kind, .int .i64 q.n, .int .i64 q.m, .string (str q.text), .slice a q.list.length cap]
def ansV (q : Ans) (a : Option Addr) (cap : Nat) : Value := .agg #[.int .i64 q.kind, .int .i64 q.err, .int .i64 q.n, .int .i64 q.m, .string (str q.text), .slice a q.list.length cap, .int .i64 q.sig]

def kindB (k : Int) : Bool := decide (1 ≤ k) && decide (k ≤ 11)
def names : List (List UInt8) := [[], [114, 101, 97, 100], [119, 114, 105, 116, 101], [111, 112, 101, 110], [99, 108, 111, 115, 101], [112, 105, 112, 101], [115, 112, 97, 119, 110], [119, 97, 105, 116], [99, 108, 111, 99, 107], [108, 105, 115, 116], [115, 116, 97, 116], [99, 104, 100, 105, 114]]
def nameOf (k : Int) : List UInt8 := if kindB k then names.getD k.toNat [] else []
theorem kindB_t {k : Int} (h : 1 ≤ k) (h2 : k ≤ 11) : kindB k = true := by unfold kindB; simp; omega
theorem kindB_f {k : Int} (h : ¬ (1 ≤ k ∧ k ≤ 11)) : kindB k = false := by unfold kindB; simp; omega

set_option maxRecDepth 100000 in
theorem ev_kind_calls (w : World) (k : Int) : Calls Try.prog 62 #[.int .i64 k] w fun e w' => e = .returned (.bool (kindB k)) ∧ w = w' := by
  by_cases h1 : 1 ≤ k
  · have t1 : 0 < k := by omega
    by_cases h2 : k ≤ 11
    · have t2 : k < 12 := by omega
      have H := Lib.hid (kindB_t h1 h2)
      go_enter Try.func62, Try.ntmps62
      go_wp2_with fail
      go_ret
      exact ⟨by rw [H.out]; rfl, rfl⟩
    · have t2 : ¬ k < 12 := by omega
      have H := Lib.hid (kindB_f (k := k) (by omega))
      go_enter Try.func62, Try.ntmps62
      go_wp2_with fail
      go_ret
      exact ⟨by rw [H.out]; rfl, rfl⟩
  · have t1 : ¬ 0 < k := by omega
    have H := Lib.hid (kindB_f (k := k) (by omega))
    go_enter Try.func62, Try.ntmps62
    go_wp2_with fail
    go_ret
    exact ⟨by rw [H.out]; rfl, rfl⟩

end Go.Proofs.Ytgbnfipbedlmhaa
