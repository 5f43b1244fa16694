/-
  The walks of package event and its reference, the tests and names: each computes what the plain mathematics says. Conditions: the arguments can be read; the names stand where they were laid.
-/
import Derived.Test.YtbbnopikinlcdaaDoorEvPlain2
import Derived.Test.YtbbnopikinlcdaaDoorLits
set_option linter.unusedVariables false
namespace Go.Proofs.YtbbnopikinlcdaaDoor
open Go.RowKit Base

/-- A request, as a value. -/
def reqV (q : Req) (a : Option Addr) (cap : Nat) : Value := .agg #[.int .i64 q.kind, .int .i64 q.n, .int .i64 q.m, .string (str q.text), .slice a q.list.length cap]
def ansV (q : Ans) (a : Option Addr) (cap : Nat) : Value := .agg #[.int .i64 q.kind, .int .i64 q.err, .int .i64 q.n, .int .i64 q.m, .string (str q.text), .slice a q.list.length cap, .int .i64 q.sig]

def kindB (k : Int) : Bool := decide (1 ≤ k) && decide (k ≤ 11)
def names : List (List UInt8) := [[], [114, 101, 97, 100], [119, 114, 105, 116, 101], [111, 112, 101, 110], [99, 108, 111, 115, 101], [112, 105, 112, 101], [115, 112, 97, 119, 110], [119, 97, 105, 116], [99, 108, 111, 99, 107], [108, 105, 115, 116], [115, 116, 97, 116], [99, 104, 100, 105, 114]]
def nameOf (k : Int) : List UInt8 := if kindB k then names.getD k.toNat [] else []
/-- The names stand where they were laid. -/
def NamesAt (w : World) : Prop := ∀ k, k < 12 → w.cell? ⟨0, k, none⟩ = some (.string (str (names.getD k [])))
theorem NamesAt.below {w w' : World} (h : NamesAt w) (hb : Below w.heap.size w w') : NamesAt w' := fun k hk => cell_below hb (Nat.le_refl _) (h k hk)
theorem kindB_t {k : Int} (h : 1 ≤ k) (h2 : k ≤ 11) : kindB k = true := by unfold kindB; simp; omega
theorem kindB_f {k : Int} (h : ¬ (1 ≤ k ∧ k ≤ 11)) : kindB k = false := by unfold kindB; simp; omega

set_option maxRecDepth 100000 in
theorem ev_kind_calls (w : World) (k : Int) : Calls Tryd.prog 27 #[.int .i64 k] w fun e w' => e = .returned (.bool (kindB k)) ∧ w = w' := by
  by_cases h1 : 1 ≤ k
  · have t1 : 0 < k := by omega
    by_cases h2 : k ≤ 11
    · have t2 : k < 12 := by omega
      have H := Lib.hid (kindB_t h1 h2)
      go_enter Tryd.func27, Tryd.ntmps27
      go_wp2_with fail
      go_ret
      exact ⟨by rw [H.out]; rfl, rfl⟩
    · have t2 : ¬ k < 12 := by omega
      have H := Lib.hid (kindB_f (k := k) (by omega))
      go_enter Tryd.func27, Tryd.ntmps27
      go_wp2_with fail
      go_ret
      exact ⟨by rw [H.out]; rfl, rfl⟩
  · have t1 : ¬ 0 < k := by omega
    have H := Lib.hid (kindB_f (k := k) (by omega))
    go_enter Tryd.func27, Tryd.ntmps27
    go_wp2_with fail
    go_ret
    exact ⟨by rw [H.out]; rfl, rfl⟩

set_option maxRecDepth 100000 in
theorem ev_name_calls (w : World) (k : Int) (hn : NamesAt w) : Calls Tryd.prog 10 #[.int .i64 k] w fun e w' => e = .returned (.string (str (nameOf k))) ∧ w = w' := by
  have HN := Lib.hid hn; clear hn
  have Hof : Hid (nameOf k = if kindB k then names.getD k.toNat [] else []) := rfl
  have Hk := fun w => ev_kind_calls w k
  by_cases hk : 1 ≤ k ∧ k ≤ 11
  · have hb := kindB_t hk.1 hk.2
    simp only [hb] at Hk
    obtain ⟨j, rfl, hj⟩ : ∃ j : Nat, k = (j : Int) ∧ j < 12 := ⟨k.toNat, by omega, by omega⟩
    have hc := HN.out j hj
    have Hv : Hid (nameOf (j : Int) = names.getD j []) := by show _ = _; rw [Hof.out, hb]; simp
    have hj1 : (0 : Int) ≤ (j : Int) := by omega
    have hj2 : (j : Int) < 12 := by omega
    clear hk hb
    have HK := Lib.hid Hk; clear Hk
    generalize names.getD j [] = s at *
    go_enter Tryd.func10, Tryd.ntmps10
    go_wp2_with fail
    refine (HK.out _).mono ?_
    rintro e w' ⟨rfl, rfl⟩
    go_wp2_with fail
    go_ret
    exact ⟨by rw [Hv.out]; rfl, rfl⟩
  · have hb := kindB_f hk
    simp only [hb] at Hk
    have Hv : Hid (nameOf k = []) := by show _ = _; rw [Hof.out, hb]; simp
    have HK := Lib.hid Hk; clear Hk
    go_enter Tryd.func10, Tryd.ntmps10
    go_wp2_with fail
    refine (HK.out _).mono ?_
    rintro e w' ⟨rfl, rfl⟩
    go_wp2_with fail
    go_ret
    exact ⟨by rw [Hv.out]; rfl, rfl⟩

set_option maxHeartbeats 400000 in
set_option maxRecDepth 100000 in
theorem ev_ref_name_calls (w : World) (k : Int) : Calls Tryd.prog 11 #[.int .i64 k] w fun e w' => e = .returned (.string (str (nameOf k))) ∧ Below w.heap.size w w' := by
  have Hof : Hid (nameOf k = if kindB k then names.getD k.toNat [] else []) := rfl
  have hlit : ∀ j, j < 12 → (w.alloc (.cells #[.string ⟨#[]⟩, .string ⟨#[114, 101, 97, 100]⟩, .string ⟨#[119, 114, 105, 116, 101]⟩, .string ⟨#[111, 112, 101, 110]⟩, .string ⟨#[99, 108, 111, 115, 101]⟩, .string ⟨#[112, 105, 112, 101]⟩, .string ⟨#[115, 112, 97, 119, 110]⟩, .string ⟨#[119, 97, 105, 116]⟩, .string ⟨#[99, 108, 111, 99, 107]⟩, .string ⟨#[108, 105, 115, 116]⟩, .string ⟨#[115, 116, 97, 116]⟩, .string ⟨#[99, 104, 100, 105, 114]⟩] 9)).cell? ⟨w.heap.size, j, none⟩ = some (.string (str (names.getD j []))) := by
    intro j hj
    have hh : (w.alloc (.cells #[.string ⟨#[]⟩, .string ⟨#[114, 101, 97, 100]⟩, .string ⟨#[119, 114, 105, 116, 101]⟩, .string ⟨#[111, 112, 101, 110]⟩, .string ⟨#[99, 108, 111, 115, 101]⟩, .string ⟨#[112, 105, 112, 101]⟩, .string ⟨#[115, 112, 97, 119, 110]⟩, .string ⟨#[119, 97, 105, 116]⟩, .string ⟨#[99, 108, 111, 99, 107]⟩, .string ⟨#[108, 105, 115, 116]⟩, .string ⟨#[115, 116, 97, 116]⟩, .string ⟨#[99, 104, 100, 105, 114]⟩] 9)).heap[w.heap.size]? = some (.cells #[.string ⟨#[]⟩, .string ⟨#[114, 101, 97, 100]⟩, .string ⟨#[119, 114, 105, 116, 101]⟩, .string ⟨#[111, 112, 101, 110]⟩, .string ⟨#[99, 108, 111, 115, 101]⟩, .string ⟨#[112, 105, 112, 101]⟩, .string ⟨#[115, 112, 97, 119, 110]⟩, .string ⟨#[119, 97, 105, 116]⟩, .string ⟨#[99, 108, 111, 99, 107]⟩, .string ⟨#[108, 105, 115, 116]⟩, .string ⟨#[115, 116, 97, 116]⟩, .string ⟨#[99, 104, 100, 105, 114]⟩] 9) := heap_alloc_new w _
    unfold World.cell?
    simp only [hh]
    rcases (by omega : j = 0 ∨ j = 1 ∨ j = 2 ∨ j = 3 ∨ j = 4 ∨ j = 5 ∨ j = 6 ∨ j = 7 ∨ j = 8 ∨ j = 9 ∨ j = 10 ∨ j = 11) with rfl | rfl | rfl | rfl | rfl | rfl | rfl | rfl | rfl | rfl | rfl | rfl <;> rfl
  have hbel := (Below.refl w.heap.size w).alloc (Nat.le_refl _) (.cells #[.string ⟨#[]⟩, .string ⟨#[114, 101, 97, 100]⟩, .string ⟨#[119, 114, 105, 116, 101]⟩, .string ⟨#[111, 112, 101, 110]⟩, .string ⟨#[99, 108, 111, 115, 101]⟩, .string ⟨#[112, 105, 112, 101]⟩, .string ⟨#[115, 112, 97, 119, 110]⟩, .string ⟨#[119, 97, 105, 116]⟩, .string ⟨#[99, 108, 111, 99, 107]⟩, .string ⟨#[108, 105, 115, 116]⟩, .string ⟨#[115, 116, 97, 116]⟩, .string ⟨#[99, 104, 100, 105, 114]⟩] 9)
  by_cases hk : 1 ≤ k ∧ k ≤ 11
  · obtain ⟨j, rfl, hj⟩ : ∃ j : Nat, k = (j : Int) ∧ j < 12 := ⟨k.toNat, by omega, by omega⟩
    have hb := kindB_t hk.1 hk.2
    have Hv : Hid (nameOf (j : Int) = names.getD j []) := by show _ = _; rw [Hof.out, hb]; simp
    have hc := hlit j hj
    have hj1 : ¬ (j : Int) < 1 := by omega
    have hj2 : ¬ (11 : Int) < (j : Int) := by omega
    clear hk hb hlit
    generalize names.getD j [] = s at *
    have Hbel := Lib.hid hbel; clear hbel
    have HC := Lib.hid hc
    go_enter Tryd.func11, Tryd.ntmps11
    go_wp2_with fail
    go_ret
    exact ⟨by rw [Hv.out]; rfl, Hbel.out⟩
  · have hb := kindB_f hk
    have Hv : Hid (nameOf k = []) := by show _ = _; rw [Hof.out, hb]; simp
    have Hbel := Lib.hid hbel; clear hbel hlit
    by_cases h1 : k < 1
    · go_enter Tryd.func11, Tryd.ntmps11
      go_wp2_with fail
      go_ret
      exact ⟨by rw [Hv.out]; rfl, Hbel.out⟩
    · have h2 : (11 : Int) < k := by omega
      go_enter Tryd.func11, Tryd.ntmps11
      go_wp2_with fail
      go_ret
      exact ⟨by rw [Hv.out]; rfl, Hbel.out⟩

end Go.Proofs.YtbbnopikinlcdaaDoor
