/-
  The walks of package event and its reference, the tests and names: each computes what the plain mathematics says. Conditions: the arguments can be read; the names stand where they were laid.
  The walks of package event and its reference, the tests of requests and answers: each computes what the plain mathematics says. Conditions: the arguments can be read.
  slices.Grow at nil and slices.Concat, of bytes: each computes what the plain mathematics says. Conditions: the rows can be read; they are not longer than a thousand million bytes together.
-/
import Derived.Test.YtgbnfipbedlmhaaGPlain
import Derived.Deep.QuietTactic
import Derived.BigQuiet
import Derived.Test.YtgbnfipbedlmhaaGVar
import Derived.Lib.AppendZeros
/-! EvWalks1 -/
set_option linter.unusedVariables false
namespace Go.Proofs.Ytgbnfipbedlmhaa
open Go.RowKit Base

/-- A request, as a value. -/
def reqV (q : Req) (a : Option Addr) (cap : Nat) : Value := .agg #[.int .i64 q.kind, .int .i64 q.n, .int .i64 q.m, .string (str q.text), .slice a q.list.length cap]
def ansV (q : Ans) (a : Option Addr) (cap : Nat) : Value := .agg #[.int .i64 q.kind, .int .i64 q.err, .int .i64 q.n, .int .i64 q.m, .string (str q.text), .slice a q.list.length cap, .int .i64 q.sig]

def kindB (k : Int) : Bool := decide (1 ≤ k) && decide (k ≤ 11)
def names : List (List UInt8) := [[], [114, 101, 97, 100], [119, 114, 105, 116, 101], [111, 112, 101, 110], [99, 108, 111, 115, 101], [112, 105, 112, 101], [115, 112, 97, 119, 110], [119, 97, 105, 116], [99, 108, 111, 99, 107], [108, 105, 115, 116], [115, 116, 97, 116], [99, 104, 100, 105, 114]]
def nameOf (k : Int) : List UInt8 := if kindB k then names.getD k.toNat [] else []
theorem kindB_t {k : Int} (h : 1 ≤ k) (h2 : k ≤ 11) : kindB k = true := by unfold kindB; simp; omega
theorem kindB_f {k : Int} (h : ¬ (1 ≤ k ∧ k ≤ 11)) : kindB k = false := by unfold kindB; simp; omega

set_option maxRecDepth 100000 in
theorem ev_kind_calls (w : World) (k : Int) : Calls Try.prog 62 #[.int .i64 k] w fun e w' => e = .returned (.bool (kindB k)) ∧ w = w' := by
  by_cases h1 : 1 ≤ k
  · have t1 : 0 < k := by omega
    by_cases h2 : k ≤ 11
    · have t2 : k < 12 := by omega
      have H := Lib.hid (kindB_t h1 h2)
      go_enter Try.func62, Try.ntmps62
      go_wp2_with fail
      go_ret
      exact ⟨by rw [H.out]; rfl, rfl⟩
    · have t2 : ¬ k < 12 := by omega
      have H := Lib.hid (kindB_f (k := k) (by omega))
      go_enter Try.func62, Try.ntmps62
      go_wp2_with fail
      go_ret
      exact ⟨by rw [H.out]; rfl, rfl⟩
  · have t1 : ¬ 0 < k := by omega
    have H := Lib.hid (kindB_f (k := k) (by omega))
    go_enter Try.func62, Try.ntmps62
    go_wp2_with fail
    go_ret
    exact ⟨by rw [H.out]; rfl, rfl⟩

end Go.Proofs.Ytgbnfipbedlmhaa

/-! EvWalks2 -/
set_option linter.unusedVariables false
namespace Go.Proofs.Ytgbnfipbedlmhaa
open Go.RowKit Base

theorem rightB_kind (q : Req) : rightB q = true ↔ (kindB q.kind = true) ∧ (q.list.length ≤ 4096) := by
  rw [rightB_iff]
  unfold kindB
  simp
  omega
theorem fitsB_kind (k : Int) (q : Ans) : fitsB k q = true ↔ (q.kind = k) ∧ (kindB k = true) ∧ (0 ≤ q.err) ∧ (q.err ≤ 255) ∧ (0 ≤ q.sig) ∧ (q.sig ≤ 64) ∧ (q.list.length ≤ 4096) := by
  rw [fitsB_iff]
  unfold kindB
  simp
  omega
theorem ev_kind_t (w : World) {k : Int} (h : kindB k = true) : Calls Try.prog 62 #[.int .i64 k] w fun e w' => e = .returned (.bool true) ∧ w = w' := by
  have := ev_kind_calls w k
  rwa [h] at this
theorem ev_kind_f (w : World) {k : Int} (h : kindB k = false) : Calls Try.prog 62 #[.int .i64 k] w fun e w' => e = .returned (.bool false) ∧ w = w' := by
  have := ev_kind_calls w k
  rwa [h] at this

set_option maxHeartbeats 400000 in
set_option maxRecDepth 100000 in
theorem ev_fits_calls (w : World) (k : Int) (q : Ans) (a : Option Addr) (cap : Nat) :
    Calls Try.prog 37 #[.int .i64 k, ansV q a cap] w fun e w' => e = .returned (.bool (fitsB k q)) ∧ Below w.heap.size w w' := by
  have HI := Lib.hid (fitsB_kind k q)
  unfold ansV
  by_cases h0 : q.kind = k
  case neg =>
    have H : Hid (fitsB k q = false) := by show _ = _; rw [Bool.eq_false_iff]; intro hc; exact h0 (HI.out.1 hc).1
    have t0 : (q.kind == k) = false := by rw [beq_eq_false_iff_ne]; exact h0
    clear h0
    go_enter Try.func37, Try.ntmps37
    go_wp2_with fail
    go_ret
    exact ⟨by rw [H.out]; rfl, (Below.refl _ _).alloc (Nat.le_refl _) _⟩
  have t0 : (q.kind == k) = true := by rw [beq_iff_eq]; exact h0
  by_cases h1 : kindB k = true
  case neg =>
    have H : Hid (fitsB k q = false) := by show _ = _; rw [Bool.eq_false_iff]; intro hc; exact h1 (HI.out.1 hc).2.1
    have HK := Lib.hid fun w => ev_kind_f w (k := k) (by simpa using h1)
    clear h0
    clear h1
    go_enter Try.func37, Try.ntmps37
    go_wp2_with fail
    refine (HK.out _).mono ?_
    rintro e w' ⟨rfl, rfl⟩
    go_wp2_with fail
    go_ret
    exact ⟨by rw [H.out]; rfl, (Below.refl _ _).alloc (Nat.le_refl _) _⟩
  have HK := Lib.hid fun w => ev_kind_t w h1
  by_cases h2 : 0 ≤ q.err
  case neg =>
    have H : Hid (fitsB k q = false) := by show _ = _; rw [Bool.eq_false_iff]; intro hc; exact h2 (HI.out.1 hc).2.2.1
    have t2 : ¬ 0 ≤ q.err := h2
    clear h0
    clear h1
    clear h2
    go_enter Try.func37, Try.ntmps37
    go_wp2_with fail
    refine (HK.out _).mono ?_
    rintro e w' ⟨rfl, rfl⟩
    go_wp2_with fail
    go_ret
    exact ⟨by rw [H.out]; rfl, (Below.refl _ _).alloc (Nat.le_refl _) _⟩
  have t2 : 0 ≤ q.err := h2
  by_cases h3 : q.err ≤ 255
  case neg =>
    have H : Hid (fitsB k q = false) := by show _ = _; rw [Bool.eq_false_iff]; intro hc; exact h3 (HI.out.1 hc).2.2.2.1
    have t3 : ¬ q.err ≤ 255 := h3
    clear h0
    clear h1
    clear h2
    clear h3
    go_enter Try.func37, Try.ntmps37
    go_wp2_with fail
    refine (HK.out _).mono ?_
    rintro e w' ⟨rfl, rfl⟩
    go_wp2_with fail
    go_ret
    exact ⟨by rw [H.out]; rfl, (Below.refl _ _).alloc (Nat.le_refl _) _⟩
  have t3 : q.err ≤ 255 := h3
  by_cases h4 : 0 ≤ q.sig
  case neg =>
    have H : Hid (fitsB k q = false) := by show _ = _; rw [Bool.eq_false_iff]; intro hc; exact h4 (HI.out.1 hc).2.2.2.2.1
    have t4 : ¬ 0 ≤ q.sig := h4
    clear h0
    clear h1
    clear h2
    clear h3
    clear h4
    go_enter Try.func37, Try.ntmps37
    go_wp2_with fail
    refine (HK.out _).mono ?_
    rintro e w' ⟨rfl, rfl⟩
    go_wp2_with fail
    go_ret
    exact ⟨by rw [H.out]; rfl, (Below.refl _ _).alloc (Nat.le_refl _) _⟩
  have t4 : 0 ≤ q.sig := h4
  by_cases h5 : q.sig ≤ 64
  case neg =>
    have H : Hid (fitsB k q = false) := by show _ = _; rw [Bool.eq_false_iff]; intro hc; exact h5 (HI.out.1 hc).2.2.2.2.2.1
    have t5 : ¬ q.sig ≤ 64 := h5
    clear h0
    clear h1
    clear h2
    clear h3
    clear h4
    clear h5
    go_enter Try.func37, Try.ntmps37
    go_wp2_with fail
    refine (HK.out _).mono ?_
    rintro e w' ⟨rfl, rfl⟩
    go_wp2_with fail
    go_ret
    exact ⟨by rw [H.out]; rfl, (Below.refl _ _).alloc (Nat.le_refl _) _⟩
  have t5 : q.sig ≤ 64 := h5
  by_cases h6 : q.list.length ≤ 4096
  case neg =>
    have H : Hid (fitsB k q = false) := by show _ = _; rw [Bool.eq_false_iff]; intro hc; exact h6 (HI.out.1 hc).2.2.2.2.2.2
    have t6 : decide (((q.list.length : Nat) : Int) ≤ 4096) = false := by simp; omega
    clear h0
    clear h1
    clear h2
    clear h3
    clear h4
    clear h5
    clear h6
    go_enter Try.func37, Try.ntmps37
    go_wp2_with fail
    refine (HK.out _).mono ?_
    rintro e w' ⟨rfl, rfl⟩
    go_wp2_with fail
    go_ret
    exact ⟨by rw [H.out]; rfl, (Below.refl _ _).alloc (Nat.le_refl _) _⟩
  have t6 : ((q.list.length : Nat) : Int) ≤ 4096 := by omega
  have H : Hid (fitsB k q = true) := HI.out.2 ⟨h0, h1, h2, h3, h4, h5, h6⟩
  clear h0
  clear h1
  clear h2
  clear h3
  clear h4
  clear h5
  clear h6
  go_enter Try.func37, Try.ntmps37
  go_wp2_with fail
  refine (HK.out _).mono ?_
  rintro e w' ⟨rfl, rfl⟩
  go_wp2_with fail
  go_ret
  exact ⟨by rw [H.out]; rfl, (Below.refl _ _).alloc (Nat.le_refl _) _⟩

set_option maxHeartbeats 400000 in
set_option maxRecDepth 100000 in
theorem ev_ref_fits_calls (w : World) (k : Int) (q : Ans) (a : Option Addr) (cap : Nat) :
    Calls Try.prog 14 #[.int .i64 k, ansV q a cap] w fun e w' => e = .returned (.bool (fitsB k q)) ∧ Below w.heap.size w w' := by
  unfold ansV
  have HI : Hid (fitsB k q = true ↔ (q.kind = k) ∧ (1 ≤ k) ∧ (k ≤ 11) ∧ (0 ≤ q.err) ∧ (q.err ≤ 255) ∧ (0 ≤ q.sig) ∧ (q.sig ≤ 64) ∧ (q.list.length ≤ 4096)) := fitsB_iff k q
  by_cases h0 : q.kind = k
  case neg =>
    have H : Hid (fitsB k q = false) := by show _ = _; rw [Bool.eq_false_iff]; intro hc; exact h0 (HI.out.1 hc).1
    have t0 : (q.kind == k) = false := by rw [beq_eq_false_iff_ne]; exact h0
    clear h0
    go_enter Try.func14, Try.ntmps14
    go_wp2_with fail
    go_ret
    exact ⟨by rw [H.out]; rfl, (Below.refl _ _).alloc (Nat.le_refl _) _⟩
  have t0 : (q.kind == k) = true := by rw [beq_iff_eq]; exact h0
  by_cases h1 : 1 ≤ k
  case neg =>
    have H : Hid (fitsB k q = false) := by show _ = _; rw [Bool.eq_false_iff]; intro hc; exact h1 (HI.out.1 hc).2.1
    have t1 : ¬ 1 ≤ k := h1
    clear h0
    clear h1
    go_enter Try.func14, Try.ntmps14
    go_wp2_with fail
    go_ret
    exact ⟨by rw [H.out]; rfl, (Below.refl _ _).alloc (Nat.le_refl _) _⟩
  have t1 : 1 ≤ k := h1
  by_cases h2 : k ≤ 11
  case neg =>
    have H : Hid (fitsB k q = false) := by show _ = _; rw [Bool.eq_false_iff]; intro hc; exact h2 (HI.out.1 hc).2.2.1
    have t2 : ¬ k ≤ 11 := h2
    clear h0
    clear h1
    clear h2
    go_enter Try.func14, Try.ntmps14
    go_wp2_with fail
    go_ret
    exact ⟨by rw [H.out]; rfl, (Below.refl _ _).alloc (Nat.le_refl _) _⟩
  have t2 : k ≤ 11 := h2
  by_cases h3 : 0 ≤ q.err
  case neg =>
    have H : Hid (fitsB k q = false) := by show _ = _; rw [Bool.eq_false_iff]; intro hc; exact h3 (HI.out.1 hc).2.2.2.1
    have t3 : ¬ 0 ≤ q.err := h3
    clear h0
    clear h1
    clear h2
    clear h3
    go_enter Try.func14, Try.ntmps14
    go_wp2_with fail
    go_ret
    exact ⟨by rw [H.out]; rfl, (Below.refl _ _).alloc (Nat.le_refl _) _⟩
  have t3 : 0 ≤ q.err := h3
  by_cases h4 : q.err ≤ 255
  case neg =>
    have H : Hid (fitsB k q = false) := by show _ = _; rw [Bool.eq_false_iff]; intro hc; exact h4 (HI.out.1 hc).2.2.2.2.1
    have t4 : ¬ q.err ≤ 255 := h4
    clear h0
    clear h1
    clear h2
    clear h3
    clear h4
    go_enter Try.func14, Try.ntmps14
    go_wp2_with fail
    go_ret
    exact ⟨by rw [H.out]; rfl, (Below.refl _ _).alloc (Nat.le_refl _) _⟩
  have t4 : q.err ≤ 255 := h4
  by_cases h5 : 0 ≤ q.sig
  case neg =>
    have H : Hid (fitsB k q = false) := by show _ = _; rw [Bool.eq_false_iff]; intro hc; exact h5 (HI.out.1 hc).2.2.2.2.2.1
    have t5 : ¬ 0 ≤ q.sig := h5
    clear h0
    clear h1
    clear h2
    clear h3
    clear h4
    clear h5
    go_enter Try.func14, Try.ntmps14
    go_wp2_with fail
    go_ret
    exact ⟨by rw [H.out]; rfl, (Below.refl _ _).alloc (Nat.le_refl _) _⟩
  have t5 : 0 ≤ q.sig := h5
  by_cases h6 : q.sig ≤ 64
  case neg =>
    have H : Hid (fitsB k q = false) := by show _ = _; rw [Bool.eq_false_iff]; intro hc; exact h6 (HI.out.1 hc).2.2.2.2.2.2.1
    have t6 : ¬ q.sig ≤ 64 := h6
    clear h0
    clear h1
    clear h2
    clear h3
    clear h4
    clear h5
    clear h6
    go_enter Try.func14, Try.ntmps14
    go_wp2_with fail
    go_ret
    exact ⟨by rw [H.out]; rfl, (Below.refl _ _).alloc (Nat.le_refl _) _⟩
  have t6 : q.sig ≤ 64 := h6
  by_cases h7 : q.list.length ≤ 4096
  case neg =>
    have H : Hid (fitsB k q = false) := by show _ = _; rw [Bool.eq_false_iff]; intro hc; exact h7 (HI.out.1 hc).2.2.2.2.2.2.2
    have t7 : decide (((q.list.length : Nat) : Int) ≤ 4096) = false := by simp; omega
    clear h0
    clear h1
    clear h2
    clear h3
    clear h4
    clear h5
    clear h6
    clear h7
    go_enter Try.func14, Try.ntmps14
    go_wp2_with fail
    go_ret
    exact ⟨by rw [H.out]; rfl, (Below.refl _ _).alloc (Nat.le_refl _) _⟩
  have t7 : ((q.list.length : Nat) : Int) ≤ 4096 := by omega
  have H : Hid (fitsB k q = true) := HI.out.2 ⟨h0, h1, h2, h3, h4, h5, h6, h7⟩
  clear h0
  clear h1
  clear h2
  clear h3
  clear h4
  clear h5
  clear h6
  clear h7
  go_enter Try.func14, Try.ntmps14
  go_wp2_with fail
  go_ret
  exact ⟨by rw [H.out]; rfl, (Below.refl _ _).alloc (Nat.le_refl _) _⟩

def sameB (q r : Req) : Bool := decide (q.kind = r.kind) && decide (q.n = r.n) && decide (q.m = r.m) && decide (q.text = r.text) && decide (q.list = r.list)
def sameAB (q r : Ans) : Bool := decide (q.list = r.list) && decide (q.kind = r.kind) && decide (q.err = r.err) && decide (q.n = r.n) && decide (q.m = r.m) && decide (q.text = r.text) && decide (q.sig = r.sig)
theorem sameB_iff (q r : Req) : sameB q r = true ↔ (q.kind = r.kind) ∧ (q.n = r.n) ∧ (q.m = r.m) ∧ (q.text = r.text) ∧ (q.list = r.list) := by
  unfold sameB; simp [and_assoc]
theorem sameB_iff2 (q r : Req) : sameB q r = true ↔ (q.list = r.list) ∧ (q.kind = r.kind) ∧ (q.n = r.n) ∧ (q.m = r.m) ∧ (q.text = r.text) := by
  rw [sameB_iff]
  constructor
  · rintro ⟨h1, h2, h3, h4, h5⟩; exact ⟨h5, h1, h2, h3, h4⟩
  · rintro ⟨h5, h1, h2, h3, h4⟩; exact ⟨h1, h2, h3, h4, h5⟩
theorem sameAB_iff (q r : Ans) : sameAB q r = true ↔ (q.list = r.list) ∧ (q.kind = r.kind) ∧ (q.err = r.err) ∧ (q.n = r.n) ∧ (q.m = r.m) ∧ (q.text = r.text) ∧ (q.sig = r.sig) := by
  unfold sameAB; simp [and_assoc]
theorem sameB_self (q : Req) : sameB q q = true := (sameB_iff q q).2 ⟨rfl, rfl, rfl, rfl, rfl⟩
theorem sameAB_self (q : Ans) : sameAB q q = true := (sameAB_iff q q).2 ⟨rfl, rfl, rfl, rfl, rfl, rfl, rfl⟩
theorem str_eq_f {l m : List UInt8} (h : l ≠ m) : ((str l).toList == (str m).toList) = false := by
  rw [beq_eq_false_iff_ne, ByteArray.toList_eq, ByteArray.toList_eq]; exact h
theorem str_eq_t {l m : List UInt8} (h : l = m) : ((str l).toList == (str m).toList) = true := by rw [h]; exact beq_self_eq_true _

/-- Few texts, and short ones. -/
def fewB (l : List (List UInt8)) : Bool := l.all (fun s => decide (s.length ≤ 200)) && decide (l.length ≤ 30)
theorem belowD {B : Nat} {w wr : World} (h : Below B w wr) (n : Nat) : Below B w (wr.drewN n) := h.trans ⟨rfl, rfl, rfl, Nat.le_refl _, fun _ _ => rfl⟩
set_option maxHeartbeats 800000 in
set_option maxRecDepth 100000 in
theorem same_texts_calls (w : World) (a b : Option Addr) (n m ca cb : Nat) (la lb : List (List UInt8)) (ha : Strs w a n ca la) (hb : Strs w b m cb lb) :
    Calls Try.prog 61 #[.slice a n ca, .slice b m cb] w fun e w' => e = .returned (.bool (decide (la = lb))) ∧ Below w.heap.size w w' := by
  have hca := ha.2.2.1
  have hna := ha.2.1
  have hcb := hb.2.2.1
  have hnb := hb.2.1
  unfold maxLen at hca hcb
  have Hn := Lib.hid ha.1
  have Hm := Lib.hid hb.1
  have Ha := Lib.hid ha; clear ha
  have Hb := Lib.hid hb; clear hb
  by_cases hnm : n = m
  · subst hnm
    go_enter Try.func61, Try.ntmps61
    go_wp2_with fail
    generalize hB : w.heap.size = B
    have HB := Lib.hid hB; clear hB
    have HBel : Hid (∀ wx, Below B w wx → Below w.heap.size w wx) := fun wx hx => by rw [HB.out]; exact hx
    have hbb : B ≤ w.heap.size := by rw [HB.out]; exact Nat.le_refl _
    go_loopw [5] (fun i wr => ∃ k : Nat, k ≤ n ∧ i = .int .i64 k ∧ (∀ j, j < k → la[j]? = lb[j]?) ∧ Below B w wr) (fun i _ => n - (intOf i).toNat)
    case atStart => exact ⟨0, Nat.zero_le _, rfl, fun j hj => absurd hj (by omega), Below.refl _ _⟩
    case round =>
      obtain ⟨k, hk, rfl, hall, hbel⟩ := hrel
      have HA := Lib.hid hall; clear hall
      by_cases hlt : k < n
      · have hka : k < la.length := by rw [← Hn.out]; exact hlt
        have hkb : k < lb.length := by rw [← Hm.out]; exact hlt
        obtain ⟨b1, o1, hrow1, hidx1⟩ := at_strs (Ha.out.below stable_strAt (HBel.out _ hbel))
        obtain ⟨b2, o2, hrow2, hidx2⟩ := at_strs (Hb.out.below stable_strAt (HBel.out _ hbel))
        have hc1 := hrow1 k hka
        have hc2 := hrow2 k hkb
        have hi1 := fun w' => hidx1 .i64 k w' hlt
        have hi2 := fun w' => hidx2 .i64 k w' hlt
        have e1 : la[k]? = some la[k] := List.getElem?_eq_getElem hka
        have e2 : lb[k]? = some lb[k] := List.getElem?_eq_getElem hkb
        have E1 := Lib.hid e1; clear e1
        have E2 := Lib.hid e2; clear e2
        clear hrow1 hidx1 hrow2 hidx2
        generalize la[k]'hka = x at *
        generalize lb[k]'hkb = y at *
        by_cases hxy : x = y
        · subst hxy
          have Hnext : Hid (∀ j, j < k + 1 → la[j]? = lb[j]?) := fun j hj => by
            rcases (by omega : j < k ∨ j = k) with h | h
            · exact HA.out j h
            · subst h; rw [E1.out, E2.out]
          go_wp2_with fail
          go_quiet (fail)
          go_wp2_with fail
          go_roundw
          case rel => exact ⟨k + 1, by omega, by go_num, Hnext.out, belowD hbel _⟩
          case measure => simp [intOf]; omega
        · have t1 := str_eq_f hxy
          have H : Hid (decide (la = lb) = false) := by
            show _ = _
            rw [decide_eq_false_iff_not]
            intro hc
            subst hc
            have := E1.out.symm.trans E2.out
            exact hxy (Option.some.inj this)
          clear hxy
          go_wp2_with fail
          go_quiet (fail)
          go_wp2_with fail
          go_ret
          exact ⟨by rw [H.out]; rfl, HBel.out _ (belowD hbel _)⟩
      · obtain rfl : n = k := by omega
        have H : Hid (decide (la = lb) = true) := by
          show _ = _
          rw [decide_eq_true_iff]
          apply List.ext_getElem?
          intro j
          by_cases hj : j < n
          · exact HA.out j hj
          · rw [List.getElem?_eq_none (by rw [← Hn.out]; omega), List.getElem?_eq_none (by rw [← Hm.out]; omega)]
        go_wp2_with fail
        go_ret
        exact ⟨by rw [H.out]; rfl, HBel.out _ hbel⟩
  · have t1 : ((n : Int) == (m : Int)) = false := by rw [beq_eq_false_iff_ne]; omega
    have t2 : ((n : Int) != (m : Int)) = true := by rw [bne_iff_ne]; omega
    have H : Hid (decide (la = lb) = false) := by
      show _ = _
      rw [decide_eq_false_iff_not]
      intro hc
      subst hc
      exact hnm (Hn.out.trans Hm.out.symm)
    clear hnm
    go_enter Try.func61, Try.ntmps61
    go_wp2_with fail
    go_ret
    exact ⟨by rw [H.out]; rfl, Below.refl _ _⟩

set_option maxHeartbeats 800000 in
set_option maxRecDepth 100000 in
theorem ev_ref_sameans_calls (w : World) (q r : Ans) (a b : Option Addr) (ca cb : Nat) (ha : Strs w a q.list.length ca q.list) (hb : Strs w b r.list.length cb r.list) :
    Calls Try.prog 36 #[ansV q a ca, ansV r b cb] w fun e w' => e = .returned (.bool (sameAB q r)) ∧ Below w.heap.size w w' := by
  have HI := Lib.hid (sameAB_iff q r)
  have hb0 := ((Below.refl w.heap.size w).alloc (Nat.le_refl _) (.cells #[.int .i64 q.kind, .int .i64 q.err, .int .i64 q.n, .int .i64 q.m, .string (str q.text), .slice a q.list.length ca, .int .i64 q.sig] 34)).alloc (by simp) (.cells #[.int .i64 r.kind, .int .i64 r.err, .int .i64 r.n, .int .i64 r.m, .string (str r.text), .slice b r.list.length cb, .int .i64 r.sig] 34)
  have HL := Lib.hid (same_texts_calls _ a b _ _ ca cb q.list r.list (ha.below stable_strAt hb0) (hb.below stable_strAt hb0))
  clear ha hb
  have hz0 := hb0.size
  have HB0 := Lib.hid hb0; clear hb0
  unfold ansV
  by_cases h0 : q.list = r.list
  case neg =>
    have H : Hid (sameAB q r = false) := by show _ = _; rw [Bool.eq_false_iff]; intro hc; exact h0 (HI.out.1 hc).1
    have LD : Hid (decide (q.list = r.list) = false) := by show _ = _; simpa using h0
    clear h0
    go_enter Try.func36, Try.ntmps36
    go_wp2_with fail
    refine HL.out.mono ?_
    rintro e w' ⟨rfl, hb⟩
    have c0 : w'.cell? ⟨w.heap.size, 0, none⟩ = some (.int .i64 q.kind) := by rw [hb.cell (p := ⟨w.heap.size, 0, none⟩) (by simp; omega)]; simp
    have d0 : w'.cell? ⟨w.heap.size + 1, 0, none⟩ = some (.int .i64 r.kind) := by rw [hb.cell (p := ⟨w.heap.size + 1, 0, none⟩) (by simp)]; simp
    have c1 : w'.cell? ⟨w.heap.size, 1, none⟩ = some (.int .i64 q.err) := by rw [hb.cell (p := ⟨w.heap.size, 1, none⟩) (by simp; omega)]; simp
    have d1 : w'.cell? ⟨w.heap.size + 1, 1, none⟩ = some (.int .i64 r.err) := by rw [hb.cell (p := ⟨w.heap.size + 1, 1, none⟩) (by simp)]; simp
    have c2 : w'.cell? ⟨w.heap.size, 2, none⟩ = some (.int .i64 q.n) := by rw [hb.cell (p := ⟨w.heap.size, 2, none⟩) (by simp; omega)]; simp
    have d2 : w'.cell? ⟨w.heap.size + 1, 2, none⟩ = some (.int .i64 r.n) := by rw [hb.cell (p := ⟨w.heap.size + 1, 2, none⟩) (by simp)]; simp
    have c3 : w'.cell? ⟨w.heap.size, 3, none⟩ = some (.int .i64 q.m) := by rw [hb.cell (p := ⟨w.heap.size, 3, none⟩) (by simp; omega)]; simp
    have d3 : w'.cell? ⟨w.heap.size + 1, 3, none⟩ = some (.int .i64 r.m) := by rw [hb.cell (p := ⟨w.heap.size + 1, 3, none⟩) (by simp)]; simp
    have c4 : w'.cell? ⟨w.heap.size, 4, none⟩ = some (.string (str q.text)) := by rw [hb.cell (p := ⟨w.heap.size, 4, none⟩) (by simp; omega)]; simp
    have d4 : w'.cell? ⟨w.heap.size + 1, 4, none⟩ = some (.string (str r.text)) := by rw [hb.cell (p := ⟨w.heap.size + 1, 4, none⟩) (by simp)]; simp
    have c5 : w'.cell? ⟨w.heap.size, 5, none⟩ = some (.slice a q.list.length ca) := by rw [hb.cell (p := ⟨w.heap.size, 5, none⟩) (by simp; omega)]; simp
    have d5 : w'.cell? ⟨w.heap.size + 1, 5, none⟩ = some (.slice b r.list.length cb) := by rw [hb.cell (p := ⟨w.heap.size + 1, 5, none⟩) (by simp)]; simp
    have c6 : w'.cell? ⟨w.heap.size, 6, none⟩ = some (.int .i64 q.sig) := by rw [hb.cell (p := ⟨w.heap.size, 6, none⟩) (by simp; omega)]; simp
    have d6 : w'.cell? ⟨w.heap.size + 1, 6, none⟩ = some (.int .i64 r.sig) := by rw [hb.cell (p := ⟨w.heap.size + 1, 6, none⟩) (by simp)]; simp
    have Hb := Lib.hid hb; clear hb
    rw [LD.out]
    go_wp2_with fail
    go_ret
    exact ⟨by rw [H.out]; rfl, HB0.out.trans (Hb.out.mono (by simp; omega))⟩
  have LD : Hid (decide (q.list = r.list) = true) := by show _ = _; simpa using h0
  by_cases h1 : q.kind = r.kind
  case neg =>
    have H : Hid (sameAB q r = false) := by show _ = _; rw [Bool.eq_false_iff]; intro hc; exact h1 (HI.out.1 hc).2.1
    have t1 : (q.kind == r.kind) = false := by rw [beq_eq_false_iff_ne]; exact h1
    clear h0
    clear h1
    go_enter Try.func36, Try.ntmps36
    go_wp2_with fail
    refine HL.out.mono ?_
    rintro e w' ⟨rfl, hb⟩
    have c0 : w'.cell? ⟨w.heap.size, 0, none⟩ = some (.int .i64 q.kind) := by rw [hb.cell (p := ⟨w.heap.size, 0, none⟩) (by simp; omega)]; simp
    have d0 : w'.cell? ⟨w.heap.size + 1, 0, none⟩ = some (.int .i64 r.kind) := by rw [hb.cell (p := ⟨w.heap.size + 1, 0, none⟩) (by simp)]; simp
    have c1 : w'.cell? ⟨w.heap.size, 1, none⟩ = some (.int .i64 q.err) := by rw [hb.cell (p := ⟨w.heap.size, 1, none⟩) (by simp; omega)]; simp
    have d1 : w'.cell? ⟨w.heap.size + 1, 1, none⟩ = some (.int .i64 r.err) := by rw [hb.cell (p := ⟨w.heap.size + 1, 1, none⟩) (by simp)]; simp
    have c2 : w'.cell? ⟨w.heap.size, 2, none⟩ = some (.int .i64 q.n) := by rw [hb.cell (p := ⟨w.heap.size, 2, none⟩) (by simp; omega)]; simp
    have d2 : w'.cell? ⟨w.heap.size + 1, 2, none⟩ = some (.int .i64 r.n) := by rw [hb.cell (p := ⟨w.heap.size + 1, 2, none⟩) (by simp)]; simp
    have c3 : w'.cell? ⟨w.heap.size, 3, none⟩ = some (.int .i64 q.m) := by rw [hb.cell (p := ⟨w.heap.size, 3, none⟩) (by simp; omega)]; simp
    have d3 : w'.cell? ⟨w.heap.size + 1, 3, none⟩ = some (.int .i64 r.m) := by rw [hb.cell (p := ⟨w.heap.size + 1, 3, none⟩) (by simp)]; simp
    have c4 : w'.cell? ⟨w.heap.size, 4, none⟩ = some (.string (str q.text)) := by rw [hb.cell (p := ⟨w.heap.size, 4, none⟩) (by simp; omega)]; simp
    have d4 : w'.cell? ⟨w.heap.size + 1, 4, none⟩ = some (.string (str r.text)) := by rw [hb.cell (p := ⟨w.heap.size + 1, 4, none⟩) (by simp)]; simp
    have c5 : w'.cell? ⟨w.heap.size, 5, none⟩ = some (.slice a q.list.length ca) := by rw [hb.cell (p := ⟨w.heap.size, 5, none⟩) (by simp; omega)]; simp
    have d5 : w'.cell? ⟨w.heap.size + 1, 5, none⟩ = some (.slice b r.list.length cb) := by rw [hb.cell (p := ⟨w.heap.size + 1, 5, none⟩) (by simp)]; simp
    have c6 : w'.cell? ⟨w.heap.size, 6, none⟩ = some (.int .i64 q.sig) := by rw [hb.cell (p := ⟨w.heap.size, 6, none⟩) (by simp; omega)]; simp
    have d6 : w'.cell? ⟨w.heap.size + 1, 6, none⟩ = some (.int .i64 r.sig) := by rw [hb.cell (p := ⟨w.heap.size + 1, 6, none⟩) (by simp)]; simp
    have Hb := Lib.hid hb; clear hb
    rw [LD.out]
    go_wp2_with fail
    go_ret
    exact ⟨by rw [H.out]; rfl, HB0.out.trans (Hb.out.mono (by simp; omega))⟩
  have t1 : (q.kind == r.kind) = true := by rw [beq_iff_eq]; exact h1
  by_cases h2 : q.err = r.err
  case neg =>
    have H : Hid (sameAB q r = false) := by show _ = _; rw [Bool.eq_false_iff]; intro hc; exact h2 (HI.out.1 hc).2.2.1
    have t2 : (q.err == r.err) = false := by rw [beq_eq_false_iff_ne]; exact h2
    clear h0
    clear h1
    clear h2
    go_enter Try.func36, Try.ntmps36
    go_wp2_with fail
    refine HL.out.mono ?_
    rintro e w' ⟨rfl, hb⟩
    have c0 : w'.cell? ⟨w.heap.size, 0, none⟩ = some (.int .i64 q.kind) := by rw [hb.cell (p := ⟨w.heap.size, 0, none⟩) (by simp; omega)]; simp
    have d0 : w'.cell? ⟨w.heap.size + 1, 0, none⟩ = some (.int .i64 r.kind) := by rw [hb.cell (p := ⟨w.heap.size + 1, 0, none⟩) (by simp)]; simp
    have c1 : w'.cell? ⟨w.heap.size, 1, none⟩ = some (.int .i64 q.err) := by rw [hb.cell (p := ⟨w.heap.size, 1, none⟩) (by simp; omega)]; simp
    have d1 : w'.cell? ⟨w.heap.size + 1, 1, none⟩ = some (.int .i64 r.err) := by rw [hb.cell (p := ⟨w.heap.size + 1, 1, none⟩) (by simp)]; simp
    have c2 : w'.cell? ⟨w.heap.size, 2, none⟩ = some (.int .i64 q.n) := by rw [hb.cell (p := ⟨w.heap.size, 2, none⟩) (by simp; omega)]; simp
    have d2 : w'.cell? ⟨w.heap.size + 1, 2, none⟩ = some (.int .i64 r.n) := by rw [hb.cell (p := ⟨w.heap.size + 1, 2, none⟩) (by simp)]; simp
    have c3 : w'.cell? ⟨w.heap.size, 3, none⟩ = some (.int .i64 q.m) := by rw [hb.cell (p := ⟨w.heap.size, 3, none⟩) (by simp; omega)]; simp
    have d3 : w'.cell? ⟨w.heap.size + 1, 3, none⟩ = some (.int .i64 r.m) := by rw [hb.cell (p := ⟨w.heap.size + 1, 3, none⟩) (by simp)]; simp
    have c4 : w'.cell? ⟨w.heap.size, 4, none⟩ = some (.string (str q.text)) := by rw [hb.cell (p := ⟨w.heap.size, 4, none⟩) (by simp; omega)]; simp
    have d4 : w'.cell? ⟨w.heap.size + 1, 4, none⟩ = some (.string (str r.text)) := by rw [hb.cell (p := ⟨w.heap.size + 1, 4, none⟩) (by simp)]; simp
    have c5 : w'.cell? ⟨w.heap.size, 5, none⟩ = some (.slice a q.list.length ca) := by rw [hb.cell (p := ⟨w.heap.size, 5, none⟩) (by simp; omega)]; simp
    have d5 : w'.cell? ⟨w.heap.size + 1, 5, none⟩ = some (.slice b r.list.length cb) := by rw [hb.cell (p := ⟨w.heap.size + 1, 5, none⟩) (by simp)]; simp
    have c6 : w'.cell? ⟨w.heap.size, 6, none⟩ = some (.int .i64 q.sig) := by rw [hb.cell (p := ⟨w.heap.size, 6, none⟩) (by simp; omega)]; simp
    have d6 : w'.cell? ⟨w.heap.size + 1, 6, none⟩ = some (.int .i64 r.sig) := by rw [hb.cell (p := ⟨w.heap.size + 1, 6, none⟩) (by simp)]; simp
    have Hb := Lib.hid hb; clear hb
    rw [LD.out]
    go_wp2_with fail
    go_ret
    exact ⟨by rw [H.out]; rfl, HB0.out.trans (Hb.out.mono (by simp; omega))⟩
  have t2 : (q.err == r.err) = true := by rw [beq_iff_eq]; exact h2
  by_cases h3 : q.n = r.n
  case neg =>
    have H : Hid (sameAB q r = false) := by show _ = _; rw [Bool.eq_false_iff]; intro hc; exact h3 (HI.out.1 hc).2.2.2.1
    have t3 : (q.n == r.n) = false := by rw [beq_eq_false_iff_ne]; exact h3
    clear h0
    clear h1
    clear h2
    clear h3
    go_enter Try.func36, Try.ntmps36
    go_wp2_with fail
    refine HL.out.mono ?_
    rintro e w' ⟨rfl, hb⟩
    have c0 : w'.cell? ⟨w.heap.size, 0, none⟩ = some (.int .i64 q.kind) := by rw [hb.cell (p := ⟨w.heap.size, 0, none⟩) (by simp; omega)]; simp
    have d0 : w'.cell? ⟨w.heap.size + 1, 0, none⟩ = some (.int .i64 r.kind) := by rw [hb.cell (p := ⟨w.heap.size + 1, 0, none⟩) (by simp)]; simp
    have c1 : w'.cell? ⟨w.heap.size, 1, none⟩ = some (.int .i64 q.err) := by rw [hb.cell (p := ⟨w.heap.size, 1, none⟩) (by simp; omega)]; simp
    have d1 : w'.cell? ⟨w.heap.size + 1, 1, none⟩ = some (.int .i64 r.err) := by rw [hb.cell (p := ⟨w.heap.size + 1, 1, none⟩) (by simp)]; simp
    have c2 : w'.cell? ⟨w.heap.size, 2, none⟩ = some (.int .i64 q.n) := by rw [hb.cell (p := ⟨w.heap.size, 2, none⟩) (by simp; omega)]; simp
    have d2 : w'.cell? ⟨w.heap.size + 1, 2, none⟩ = some (.int .i64 r.n) := by rw [hb.cell (p := ⟨w.heap.size + 1, 2, none⟩) (by simp)]; simp
    have c3 : w'.cell? ⟨w.heap.size, 3, none⟩ = some (.int .i64 q.m) := by rw [hb.cell (p := ⟨w.heap.size, 3, none⟩) (by simp; omega)]; simp
    have d3 : w'.cell? ⟨w.heap.size + 1, 3, none⟩ = some (.int .i64 r.m) := by rw [hb.cell (p := ⟨w.heap.size + 1, 3, none⟩) (by simp)]; simp
    have c4 : w'.cell? ⟨w.heap.size, 4, none⟩ = some (.string (str q.text)) := by rw [hb.cell (p := ⟨w.heap.size, 4, none⟩) (by simp; omega)]; simp
    have d4 : w'.cell? ⟨w.heap.size + 1, 4, none⟩ = some (.string (str r.text)) := by rw [hb.cell (p := ⟨w.heap.size + 1, 4, none⟩) (by simp)]; simp
    have c5 : w'.cell? ⟨w.heap.size, 5, none⟩ = some (.slice a q.list.length ca) := by rw [hb.cell (p := ⟨w.heap.size, 5, none⟩) (by simp; omega)]; simp
    have d5 : w'.cell? ⟨w.heap.size + 1, 5, none⟩ = some (.slice b r.list.length cb) := by rw [hb.cell (p := ⟨w.heap.size + 1, 5, none⟩) (by simp)]; simp
    have c6 : w'.cell? ⟨w.heap.size, 6, none⟩ = some (.int .i64 q.sig) := by rw [hb.cell (p := ⟨w.heap.size, 6, none⟩) (by simp; omega)]; simp
    have d6 : w'.cell? ⟨w.heap.size + 1, 6, none⟩ = some (.int .i64 r.sig) := by rw [hb.cell (p := ⟨w.heap.size + 1, 6, none⟩) (by simp)]; simp
    have Hb := Lib.hid hb; clear hb
    rw [LD.out]
    go_wp2_with fail
    go_ret
    exact ⟨by rw [H.out]; rfl, HB0.out.trans (Hb.out.mono (by simp; omega))⟩
  have t3 : (q.n == r.n) = true := by rw [beq_iff_eq]; exact h3
  by_cases h4 : q.m = r.m
  case neg =>
    have H : Hid (sameAB q r = false) := by show _ = _; rw [Bool.eq_false_iff]; intro hc; exact h4 (HI.out.1 hc).2.2.2.2.1
    have t4 : (q.m == r.m) = false := by rw [beq_eq_false_iff_ne]; exact h4
    clear h0
    clear h1
    clear h2
    clear h3
    clear h4
    go_enter Try.func36, Try.ntmps36
    go_wp2_with fail
    refine HL.out.mono ?_
    rintro e w' ⟨rfl, hb⟩
    have c0 : w'.cell? ⟨w.heap.size, 0, none⟩ = some (.int .i64 q.kind) := by rw [hb.cell (p := ⟨w.heap.size, 0, none⟩) (by simp; omega)]; simp
    have d0 : w'.cell? ⟨w.heap.size + 1, 0, none⟩ = some (.int .i64 r.kind) := by rw [hb.cell (p := ⟨w.heap.size + 1, 0, none⟩) (by simp)]; simp
    have c1 : w'.cell? ⟨w.heap.size, 1, none⟩ = some (.int .i64 q.err) := by rw [hb.cell (p := ⟨w.heap.size, 1, none⟩) (by simp; omega)]; simp
    have d1 : w'.cell? ⟨w.heap.size + 1, 1, none⟩ = some (.int .i64 r.err) := by rw [hb.cell (p := ⟨w.heap.size + 1, 1, none⟩) (by simp)]; simp
    have c2 : w'.cell? ⟨w.heap.size, 2, none⟩ = some (.int .i64 q.n) := by rw [hb.cell (p := ⟨w.heap.size, 2, none⟩) (by simp; omega)]; simp
    have d2 : w'.cell? ⟨w.heap.size + 1, 2, none⟩ = some (.int .i64 r.n) := by rw [hb.cell (p := ⟨w.heap.size + 1, 2, none⟩) (by simp)]; simp
    have c3 : w'.cell? ⟨w.heap.size, 3, none⟩ = some (.int .i64 q.m) := by rw [hb.cell (p := ⟨w.heap.size, 3, none⟩) (by simp; omega)]; simp
    have d3 : w'.cell? ⟨w.heap.size + 1, 3, none⟩ = some (.int .i64 r.m) := by rw [hb.cell (p := ⟨w.heap.size + 1, 3, none⟩) (by simp)]; simp
    have c4 : w'.cell? ⟨w.heap.size, 4, none⟩ = some (.string (str q.text)) := by rw [hb.cell (p := ⟨w.heap.size, 4, none⟩) (by simp; omega)]; simp
    have d4 : w'.cell? ⟨w.heap.size + 1, 4, none⟩ = some (.string (str r.text)) := by rw [hb.cell (p := ⟨w.heap.size + 1, 4, none⟩) (by simp)]; simp
    have c5 : w'.cell? ⟨w.heap.size, 5, none⟩ = some (.slice a q.list.length ca) := by rw [hb.cell (p := ⟨w.heap.size, 5, none⟩) (by simp; omega)]; simp
    have d5 : w'.cell? ⟨w.heap.size + 1, 5, none⟩ = some (.slice b r.list.length cb) := by rw [hb.cell (p := ⟨w.heap.size + 1, 5, none⟩) (by simp)]; simp
    have c6 : w'.cell? ⟨w.heap.size, 6, none⟩ = some (.int .i64 q.sig) := by rw [hb.cell (p := ⟨w.heap.size, 6, none⟩) (by simp; omega)]; simp
    have d6 : w'.cell? ⟨w.heap.size + 1, 6, none⟩ = some (.int .i64 r.sig) := by rw [hb.cell (p := ⟨w.heap.size + 1, 6, none⟩) (by simp)]; simp
    have Hb := Lib.hid hb; clear hb
    rw [LD.out]
    go_wp2_with fail
    go_ret
    exact ⟨by rw [H.out]; rfl, HB0.out.trans (Hb.out.mono (by simp; omega))⟩
  have t4 : (q.m == r.m) = true := by rw [beq_iff_eq]; exact h4
  by_cases h5 : q.text = r.text
  case neg =>
    have H : Hid (sameAB q r = false) := by show _ = _; rw [Bool.eq_false_iff]; intro hc; exact h5 (HI.out.1 hc).2.2.2.2.2.1
    have t5 : ((str q.text).toList == (str r.text).toList) = false := by rw [beq_eq_false_iff_ne, ByteArray.toList_eq, ByteArray.toList_eq]; exact h5
    clear h0
    clear h1
    clear h2
    clear h3
    clear h4
    clear h5
    go_enter Try.func36, Try.ntmps36
    go_wp2_with fail
    refine HL.out.mono ?_
    rintro e w' ⟨rfl, hb⟩
    have c0 : w'.cell? ⟨w.heap.size, 0, none⟩ = some (.int .i64 q.kind) := by rw [hb.cell (p := ⟨w.heap.size, 0, none⟩) (by simp; omega)]; simp
    have d0 : w'.cell? ⟨w.heap.size + 1, 0, none⟩ = some (.int .i64 r.kind) := by rw [hb.cell (p := ⟨w.heap.size + 1, 0, none⟩) (by simp)]; simp
    have c1 : w'.cell? ⟨w.heap.size, 1, none⟩ = some (.int .i64 q.err) := by rw [hb.cell (p := ⟨w.heap.size, 1, none⟩) (by simp; omega)]; simp
    have d1 : w'.cell? ⟨w.heap.size + 1, 1, none⟩ = some (.int .i64 r.err) := by rw [hb.cell (p := ⟨w.heap.size + 1, 1, none⟩) (by simp)]; simp
    have c2 : w'.cell? ⟨w.heap.size, 2, none⟩ = some (.int .i64 q.n) := by rw [hb.cell (p := ⟨w.heap.size, 2, none⟩) (by simp; omega)]; simp
    have d2 : w'.cell? ⟨w.heap.size + 1, 2, none⟩ = some (.int .i64 r.n) := by rw [hb.cell (p := ⟨w.heap.size + 1, 2, none⟩) (by simp)]; simp
    have c3 : w'.cell? ⟨w.heap.size, 3, none⟩ = some (.int .i64 q.m) := by rw [hb.cell (p := ⟨w.heap.size, 3, none⟩) (by simp; omega)]; simp
    have d3 : w'.cell? ⟨w.heap.size + 1, 3, none⟩ = some (.int .i64 r.m) := by rw [hb.cell (p := ⟨w.heap.size + 1, 3, none⟩) (by simp)]; simp
    have c4 : w'.cell? ⟨w.heap.size, 4, none⟩ = some (.string (str q.text)) := by rw [hb.cell (p := ⟨w.heap.size, 4, none⟩) (by simp; omega)]; simp
    have d4 : w'.cell? ⟨w.heap.size + 1, 4, none⟩ = some (.string (str r.text)) := by rw [hb.cell (p := ⟨w.heap.size + 1, 4, none⟩) (by simp)]; simp
    have c5 : w'.cell? ⟨w.heap.size, 5, none⟩ = some (.slice a q.list.length ca) := by rw [hb.cell (p := ⟨w.heap.size, 5, none⟩) (by simp; omega)]; simp
    have d5 : w'.cell? ⟨w.heap.size + 1, 5, none⟩ = some (.slice b r.list.length cb) := by rw [hb.cell (p := ⟨w.heap.size + 1, 5, none⟩) (by simp)]; simp
    have c6 : w'.cell? ⟨w.heap.size, 6, none⟩ = some (.int .i64 q.sig) := by rw [hb.cell (p := ⟨w.heap.size, 6, none⟩) (by simp; omega)]; simp
    have d6 : w'.cell? ⟨w.heap.size + 1, 6, none⟩ = some (.int .i64 r.sig) := by rw [hb.cell (p := ⟨w.heap.size + 1, 6, none⟩) (by simp)]; simp
    have Hb := Lib.hid hb; clear hb
    rw [LD.out]
    go_wp2_with fail
    go_ret
    exact ⟨by rw [H.out]; rfl, HB0.out.trans (Hb.out.mono (by simp; omega))⟩
  have t5 : ((str q.text).toList == (str r.text).toList) = true := by rw [h5]; exact beq_self_eq_true _
  by_cases h6 : q.sig = r.sig
  case neg =>
    have H : Hid (sameAB q r = false) := by show _ = _; rw [Bool.eq_false_iff]; intro hc; exact h6 (HI.out.1 hc).2.2.2.2.2.2
    have t6 : (q.sig == r.sig) = false := by rw [beq_eq_false_iff_ne]; exact h6
    clear h0
    clear h1
    clear h2
    clear h3
    clear h4
    clear h5
    clear h6
    go_enter Try.func36, Try.ntmps36
    go_wp2_with fail
    refine HL.out.mono ?_
    rintro e w' ⟨rfl, hb⟩
    have c0 : w'.cell? ⟨w.heap.size, 0, none⟩ = some (.int .i64 q.kind) := by rw [hb.cell (p := ⟨w.heap.size, 0, none⟩) (by simp; omega)]; simp
    have d0 : w'.cell? ⟨w.heap.size + 1, 0, none⟩ = some (.int .i64 r.kind) := by rw [hb.cell (p := ⟨w.heap.size + 1, 0, none⟩) (by simp)]; simp
    have c1 : w'.cell? ⟨w.heap.size, 1, none⟩ = some (.int .i64 q.err) := by rw [hb.cell (p := ⟨w.heap.size, 1, none⟩) (by simp; omega)]; simp
    have d1 : w'.cell? ⟨w.heap.size + 1, 1, none⟩ = some (.int .i64 r.err) := by rw [hb.cell (p := ⟨w.heap.size + 1, 1, none⟩) (by simp)]; simp
    have c2 : w'.cell? ⟨w.heap.size, 2, none⟩ = some (.int .i64 q.n) := by rw [hb.cell (p := ⟨w.heap.size, 2, none⟩) (by simp; omega)]; simp
    have d2 : w'.cell? ⟨w.heap.size + 1, 2, none⟩ = some (.int .i64 r.n) := by rw [hb.cell (p := ⟨w.heap.size + 1, 2, none⟩) (by simp)]; simp
    have c3 : w'.cell? ⟨w.heap.size, 3, none⟩ = some (.int .i64 q.m) := by rw [hb.cell (p := ⟨w.heap.size, 3, none⟩) (by simp; omega)]; simp
    have d3 : w'.cell? ⟨w.heap.size + 1, 3, none⟩ = some (.int .i64 r.m) := by rw [hb.cell (p := ⟨w.heap.size + 1, 3, none⟩) (by simp)]; simp
    have c4 : w'.cell? ⟨w.heap.size, 4, none⟩ = some (.string (str q.text)) := by rw [hb.cell (p := ⟨w.heap.size, 4, none⟩) (by simp; omega)]; simp
    have d4 : w'.cell? ⟨w.heap.size + 1, 4, none⟩ = some (.string (str r.text)) := by rw [hb.cell (p := ⟨w.heap.size + 1, 4, none⟩) (by simp)]; simp
    have c5 : w'.cell? ⟨w.heap.size, 5, none⟩ = some (.slice a q.list.length ca) := by rw [hb.cell (p := ⟨w.heap.size, 5, none⟩) (by simp; omega)]; simp
    have d5 : w'.cell? ⟨w.heap.size + 1, 5, none⟩ = some (.slice b r.list.length cb) := by rw [hb.cell (p := ⟨w.heap.size + 1, 5, none⟩) (by simp)]; simp
    have c6 : w'.cell? ⟨w.heap.size, 6, none⟩ = some (.int .i64 q.sig) := by rw [hb.cell (p := ⟨w.heap.size, 6, none⟩) (by simp; omega)]; simp
    have d6 : w'.cell? ⟨w.heap.size + 1, 6, none⟩ = some (.int .i64 r.sig) := by rw [hb.cell (p := ⟨w.heap.size + 1, 6, none⟩) (by simp)]; simp
    have Hb := Lib.hid hb; clear hb
    rw [LD.out]
    go_wp2_with fail
    go_ret
    exact ⟨by rw [H.out]; rfl, HB0.out.trans (Hb.out.mono (by simp; omega))⟩
  have t6 : (q.sig == r.sig) = true := by rw [beq_iff_eq]; exact h6
  have H : Hid (sameAB q r = true) := HI.out.2 ⟨h0, h1, h2, h3, h4, h5, h6⟩
  clear h0
  clear h1
  clear h2
  clear h3
  clear h4
  clear h5
  clear h6
  go_enter Try.func36, Try.ntmps36
  go_wp2_with fail
  refine HL.out.mono ?_
  rintro e w' ⟨rfl, hb⟩
  have c0 : w'.cell? ⟨w.heap.size, 0, none⟩ = some (.int .i64 q.kind) := by rw [hb.cell (p := ⟨w.heap.size, 0, none⟩) (by simp; omega)]; simp
  have d0 : w'.cell? ⟨w.heap.size + 1, 0, none⟩ = some (.int .i64 r.kind) := by rw [hb.cell (p := ⟨w.heap.size + 1, 0, none⟩) (by simp)]; simp
  have c1 : w'.cell? ⟨w.heap.size, 1, none⟩ = some (.int .i64 q.err) := by rw [hb.cell (p := ⟨w.heap.size, 1, none⟩) (by simp; omega)]; simp
  have d1 : w'.cell? ⟨w.heap.size + 1, 1, none⟩ = some (.int .i64 r.err) := by rw [hb.cell (p := ⟨w.heap.size + 1, 1, none⟩) (by simp)]; simp
  have c2 : w'.cell? ⟨w.heap.size, 2, none⟩ = some (.int .i64 q.n) := by rw [hb.cell (p := ⟨w.heap.size, 2, none⟩) (by simp; omega)]; simp
  have d2 : w'.cell? ⟨w.heap.size + 1, 2, none⟩ = some (.int .i64 r.n) := by rw [hb.cell (p := ⟨w.heap.size + 1, 2, none⟩) (by simp)]; simp
  have c3 : w'.cell? ⟨w.heap.size, 3, none⟩ = some (.int .i64 q.m) := by rw [hb.cell (p := ⟨w.heap.size, 3, none⟩) (by simp; omega)]; simp
  have d3 : w'.cell? ⟨w.heap.size + 1, 3, none⟩ = some (.int .i64 r.m) := by rw [hb.cell (p := ⟨w.heap.size + 1, 3, none⟩) (by simp)]; simp
  have c4 : w'.cell? ⟨w.heap.size, 4, none⟩ = some (.string (str q.text)) := by rw [hb.cell (p := ⟨w.heap.size, 4, none⟩) (by simp; omega)]; simp
  have d4 : w'.cell? ⟨w.heap.size + 1, 4, none⟩ = some (.string (str r.text)) := by rw [hb.cell (p := ⟨w.heap.size + 1, 4, none⟩) (by simp)]; simp
  have c5 : w'.cell? ⟨w.heap.size, 5, none⟩ = some (.slice a q.list.length ca) := by rw [hb.cell (p := ⟨w.heap.size, 5, none⟩) (by simp; omega)]; simp
  have d5 : w'.cell? ⟨w.heap.size + 1, 5, none⟩ = some (.slice b r.list.length cb) := by rw [hb.cell (p := ⟨w.heap.size + 1, 5, none⟩) (by simp)]; simp
  have c6 : w'.cell? ⟨w.heap.size, 6, none⟩ = some (.int .i64 q.sig) := by rw [hb.cell (p := ⟨w.heap.size, 6, none⟩) (by simp; omega)]; simp
  have d6 : w'.cell? ⟨w.heap.size + 1, 6, none⟩ = some (.int .i64 r.sig) := by rw [hb.cell (p := ⟨w.heap.size + 1, 6, none⟩) (by simp)]; simp
  have Hb := Lib.hid hb; clear hb
  rw [LD.out]
  go_wp2_with fail
  go_ret
  exact ⟨by rw [H.out]; rfl, HB0.out.trans (Hb.out.mono (by simp; omega))⟩

end Go.Proofs.Ytgbnfipbedlmhaa

/-! Concat -/
set_option linter.unusedVariables false
namespace Go.Proofs.Ytgbnfipbedlmhaa
open Go.RowKit Base

theorem int_slot : Try.prog.underlying 3 = some (.int .i64) := Try.underlying3

set_option maxHeartbeats 400000 in
set_option maxRecDepth 100000 in
theorem grow_calls (w : World) (n : Nat) (hs : n ≤ 1000000000) :
    Calls Try.prog 63 #[.slice none 0 0, .int .i64 (n : Int)] w fun e w' => ∃ v, e = .returned v ∧ w'.ownsRow w.heap.size 5 1 v 0 (([] : List UInt8).map bv) ∧ Below w.heap.size w w' := by
  obtain ⟨i0, hi, hz0, hz1, hz2⟩ := info_parts info_u8
  rcases Nat.eq_zero_or_pos n with h0 | h0
  · subst h0
    go_enter Try.func63, Try.ntmps63
    go_wp2_with fail
    go_ret
    exact ⟨_, rfl, World.ownsRow_nil _ _ _ _, Below.refl _ _⟩
  · have h1 : (0 : Int) < (n : Int) := by omega
    have hg0 := grownCap_ge w n 0 5
    have hgm := grownCap_le_maxLen w n 0 5 (by unfold maxLen; omega)
    have hap : ∀ ty, (Builtin.append_ #[28, 3] ty #[.slice none 0 0, .int .i64 (n : Int)]).run Try.prog w = _ := fun ty => Lib.run_append_nil_zeros (P := Try.prog) w 28 3 ty 5 i0 (.int .u8 0) .i64 .i64 Try.underlying28 Try.underlying3 hi hz0 n h0 (by rw [hz1]; decide) (by omega) (by rw [hz2]; omega)
    have hfin : (w.drew.alloc (.cells (Builtin.zeroCells (Value.int .u8 0).cells n ++ Builtin.zeroCells (Value.int .u8 0).cells (grownCap w n 0 5 - n)) 5)).ownsRow w.heap.size 5 1 (.slice (some ⟨w.heap.size, 0, none⟩) 0 (grownCap w n 0 5)) 0 (([] : List UInt8).map bv) := by
      refine ⟨rfl, .inr ⟨w.heap.size, _, _, rfl, Nat.le_refl _, heap_alloc_new w.drew _, Nat.zero_le _, hgm, ?_, rfl⟩⟩
      rw [Array.size_append, size_zeroCells, size_zeroCells]
      show n * 1 + (grownCap w n 0 5 - n) * 1 = grownCap w n 0 5 * 1
      omega
    have Hfin := Lib.hid hfin; clear hfin
    have hbel : Below w.heap.size w (w.drew.alloc (.cells (Builtin.zeroCells (Value.int .u8 0).cells n ++ Builtin.zeroCells (Value.int .u8 0).cells (grownCap w n 0 5 - n)) 5)) := (Below.refl _ _).drew.alloc (Nat.le_refl _) _
    have Hbel := Lib.hid hbel; clear hbel
    have Hap := Lib.hid hap; clear hap
    unfold maxLen at hgm
    have hcapi : ((grownCap w n 0 5 : Nat) : Int) ≤ 9223372036854775807 := by omega
    go_enter Try.func63, Try.ntmps63
    go_wp2_with (at_builtin; refine Lib.wpList_append_run _ rfl (.tmp 20) (.tmp 21) 28 3 rfl _ _ rfl rfl _ _ (Hap.out _) ?_)
    go_ret
    exact ⟨_, rfl, Hfin.out, Hbel.out⟩

theorem flat_take_le (ls : List (List UInt8)) (k : Nat) : (ls.take k).flatten.length ≤ ls.flatten.length := by
  conv => rhs; rw [← List.take_append_drop k ls]
  rw [List.flatten_append, List.length_append]
  omega
theorem take_flat1 {α : Type} (ls : List (List α)) (k : Nat) (h : k < ls.length) : (ls.take (k + 1)).flatten = (ls.take k).flatten ++ ls[k] := by
  rw [List.take_succ_eq_append_getElem h, List.flatten_append]; simp

set_option maxHeartbeats 1000000 in
set_option maxRecDepth 100000 in
theorem concat_calls (w : World) (a : Option Addr) (n cap : Nat) (ls : List (List UInt8)) (h : ByteRows w a n cap ls) (hs : ls.flatten.length ≤ 1000000000) :
    Calls Try.prog 38 #[.slice a n cap] w fun e w' => ∃ v, e = .returned v ∧ w'.ownsRow w.heap.size 5 1 v ls.flatten.length (ls.flatten.map bv) ∧ Below w.heap.size w w' := by
  obtain ⟨i0, hi, hz0, hz1, hz2⟩ := info_parts info_u8
  have hcap := h.2.2.1
  have hnc := h.2.1
  unfold maxLen at hcap
  have Hn := Lib.hid h.1
  have H0 := Lib.hid h; clear h
  obtain ⟨fl, hfl⟩ : ∃ fl : Nat → List UInt8, ∀ k, fl k = (ls.take k).flatten := ⟨fun k => (ls.take k).flatten, fun _ => rfl⟩
  have F0 : Hid (fl 0 = []) := by show _ = _; rw [hfl]; rfl
  have FN : Hid (fl n = ls.flatten) := by show _ = _; rw [hfl, List.take_of_length_le (by rw [← Hn.out]; exact Nat.le_refl _)]
  have FSq : Hid (∀ k (hk : k < ls.length), fl (k + 1) = fl k ++ ls[k]) := fun k hk => by rw [hfl, hfl]; exact take_flat1 ls k hk
  have FL : Hid (∀ k, (fl k).length ≤ 1000000000) := fun k => by rw [hfl]; exact Nat.le_trans (flat_take_le ls k) hs
  clear hfl hs
  rw [← FN.out]
  generalize hB : w.heap.size = B
  have HB := Lib.hid hB; clear hB
  have hbb : B ≤ w.heap.size := by rw [HB.out]; exact Nat.le_refl _
  have HBel : Hid (∀ wx, Below B w wx → Below w.heap.size w wx) := fun wx hx => by rw [HB.out]; exact hx
  go_enter Try.func38, Try.ntmps38
  go_wp2_with fail
  go_loop [3, 11] (fun s i => ∃ k : Nat, k ≤ n ∧ i = .int .i64 k ∧ s = .int .i64 (((fl k).length : Nat) : Int)) (fun _ i => n - (intOf i).toNat)
  case atStart => exact ⟨0, Nat.zero_le _, rfl, by rw [F0.out]; rfl⟩
  case round =>
    obtain ⟨k, hk, rfl, rfl⟩ := hrel
    have hle2 := FL.out k
    by_cases hlt : k < n
    · have hkl : k < ls.length := by rw [← Hn.out]; exact hlt
      obtain ⟨b, off, hrow, hidx⟩ := at_rows H0.out
      obtain ⟨a1, c1, hc, hbr⟩ := hrow k hkl
      have hix := hidx .i64 k w hlt
      have hsn := congrArg List.length (FSq.out k hkl)
      rw [List.length_append] at hsn
      have hle4 : (fl k).length + ls[k].length ≤ 1000000000 := by have := FL.out (k + 1); omega
      have Hsn := Lib.hid hsn
      clear hrow hidx hsn hbr
      generalize ls[k]'hkl = s at *
      generalize (fl k).length = L at *
      go_wp2_with fail
      go_round
      case rel => exact ⟨k + 1, by omega, by go_num, by rw [Hsn.out]; go_num⟩
      case measure => simp [intOf]; omega
    · obtain rfl : n = k := by omega
      have Hgr := Lib.hid (grow_calls w (fl n).length hle2)
      rw [HB.out] at Hgr
      have hneg : (0 : Int) ≤ (((fl n).length : Nat) : Int) := by omega
      go_wp2_with fail
      refine Hgr.out.mono ?_
      rintro e w1 ⟨v1, rfl, hown1, hb1⟩
      have hs1 : B ≤ w1.heap.size := by have := hb1.size; omega
      have Hown1 : Hid (w1.ownsRow B 5 1 v1 (fl 0).length ((fl 0).map bv)) := by rw [F0.out]; exact hown1
      clear hown1
      go_wp2_with fail
      go_loopw [6, 27] (fun v i wr => ∃ k : Nat, k ≤ n ∧ i = .int .i64 k ∧ wr.ownsRow B 5 1 v (fl k).length ((fl k).map bv) ∧ Below B w wr ∧ B ≤ wr.heap.size) (fun _ i _ => n - (intOf i).toNat)
      case atStart => exact ⟨0, Nat.zero_le _, rfl, Hown1.out, hb1, hs1⟩
      case round =>
        clear Hown1 hb1 hs1
        obtain ⟨k, hk, rfl, hown, hbel, hBs⟩ := hrel
        by_cases hlt : k < n
        · have hkl : k < ls.length := by rw [← Hn.out]; exact hlt
          obtain ⟨b, off, hrow, hidx⟩ := at_rows (H0.out.below stable_bytesCell (HBel.out _ hbel))
          obtain ⟨a1, c1, hc, hbr⟩ := hrow k hkl
          have hix := hidx .i64 k wr hlt
          have Hsn := Lib.hid (FSq.out k hkl)
          have hsn := congrArg List.length (FSq.out k hkl)
          rw [List.length_append] at hsn
          have hle4 : (fl k).length + ls[k].length ≤ 1000000000 := by have := FL.out (k + 1); omega
          clear hrow hidx hsn
          generalize ls[k]'hkl = s at *
          generalize fl k = pre at *
          obtain ⟨av, cv, rfl, _, _, _, _⟩ := ownsRow_slice hown
          go_wp2_with (at_builtin; refine wpList_append_src rfl (.tmp 31) (.tmp 32) 28 28 rfl B 5 i0 (.int .u8 0) 1 1 Try.underlying28 (append_side Try.underlying28) hi hz0 hz1 hz2 rfl (by decide) (by decide) _ pre.length _ rfl hown _ s.length _ rfl (src_bytes hbr) ?_ ?_ ?_ ?_)
          case _ => unfold maxLen; omega
          case _ => omega
          case _ => omega
          intro v2 w2 hown2 hg2 _
          have hb2 : Below B w w2 := hbel.grown hg2 hBs (fun j hj => (hown.lt j hj).1)
          have hs2 : B ≤ w2.heap.size := Nat.le_trans hBs hg2.size
          have hown3 : w2.ownsRow B 5 1 v2 (fl (k + 1)).length ((fl (k + 1)).map bv) := by
            rw [Hsn.out, List.length_append, List.map_append]
            exact hown2
          clear hown2 hg2 hown hbel hBs hc hix hbr
          go_wp2_with fail
          go_roundw
          case rel => exact ⟨k + 1, by omega, by go_num, hown3, hb2, hs2⟩
          case measure => simp [intOf]; omega
        · obtain rfl : n = k := by omega
          go_wp2_with fail
          go_ret
          exact ⟨_, rfl, hown, hbel⟩

end Go.Proofs.Ytgbnfipbedlmhaa
