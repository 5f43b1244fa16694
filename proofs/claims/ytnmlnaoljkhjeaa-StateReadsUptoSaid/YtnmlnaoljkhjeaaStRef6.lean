/-
  State: the reference: a state's bytes. Conditions: as each contract says.
-/
import Derived.Test.YtnmlnaoljkhjeaaStRef5
set_option linter.unusedVariables false
set_option maxRecDepth 100000
namespace Go.Proofs.Ytnmlnaoljkhjeaa
open Go.RowKit Base

abbrev threeI (s : StateD) : List Int := [s.2.2.2.2.2.2.1.1, s.2.2.2.2.2.2.1.2.1, s.2.2.2.2.2.2.1.2.2]
abbrev threeB (s : StateD) : List Bool := [s.2.2.2.2.2.2.2.1.1, s.2.2.2.2.2.2.2.1.2.1, s.2.2.2.2.2.2.2.1.2.2]
abbrev bitsA := RowA 1 (flatH bitV)
abbrev rFramesA := RowA 15 rFrameA
/-- A state as the reference has it. -/
def rStateA (W : World) (vs : List Value) (s : StateD) : Prop :=
  pairH 7 keepA (pairH 1 strsA (pairH 1 rFramesA (pairH 5 reqA (pairH 7 ansA (pairH 1 numsA (pairH 1 numsA (pairH 1 bitsA (flatH numV)))))))) W vs (s.1, s.2.1, s.2.2.1, s.2.2.2.1, s.2.2.2.2.1, s.2.2.2.2.2.1, threeI s, threeB s, s.2.2.2.2.2.2.2.2)
theorem rFrameA_below {W W' : World} (hb : Below W.heap.size W W') {vs : List Value} {a : FrameD} (h : rFrameA W vs a) : rFrameA W' vs a :=
  pair_below (numsA_below hb) (pair_below flat_bl (pair_below flat_bl (pair_below flat_bl (pair_below flat_bl (pair_below (numsA_below hb) (pair_below (strsA_below hb) (pair_below (varsA_below hb) (keepA_below hb)))))))) h
theorem rFrameA_len {W : World} {vs : List Value} {a : FrameD} (h : rFrameA W vs a) : vs.length = 15 := by
  obtain ⟨us, p0, p5, p6, p7, k0, k5, k6, k7, rfl, hA, _⟩ := rFrameA_inv h
  rw [List.length_append, keepA_len hA]
  rfl
theorem reqA_len {W : World} {vs : List Value} {a : ReqD} (h : reqA W vs a) : vs.length = 5 := by
  obtain ⟨p, k, rfl, _⟩ := reqA_inv h
  rfl
theorem ansA_len {W : World} {vs : List Value} {a : AnsD} (h : ansA W vs a) : vs.length = 7 := by
  obtain ⟨p, k, rfl, _⟩ := ansA_inv h
  rfl
theorem rStateA_inv {W : World} {vs : List Value} {s : StateD} (h : rStateA W vs s) : ∃ (uk uq ua : List Value) (p7 p8 p21 p22 p23 : Option Addr) (k7 k8 k21 k22 k23 : Nat),
    vs = uk ++ ([.slice p7 s.2.1.length k7] ++ ([.slice p8 s.2.2.1.length k8] ++ (uq ++ (ua ++ ([.slice p21 s.2.2.2.2.2.1.length k21] ++ ([.slice p22 3 k22] ++ ([.slice p23 3 k23] ++ [.int .i64 s.2.2.2.2.2.2.2.2]))))))) ∧ keepA W uk s.1 ∧ reqA W uq s.2.2.2.1 ∧ ansA W ua s.2.2.2.2.1 ∧
    RowE 1 (flatH txtV) W p7 k7 s.2.1 ∧ RowE 15 rFrameA W p8 k8 s.2.2.1 ∧ RowE 1 (flatH numV) W p21 k21 s.2.2.2.2.2.1 ∧ RowE 1 (flatH numV) W p22 k22 (threeI s) ∧ RowE 1 (flatH bitV) W p23 k23 (threeB s) := by
  obtain ⟨uk, _, rfl, _, hk, ⟨_, _, rfl, _, ⟨p7, k7, rfl, m7, n7, e7⟩, ⟨_, _, rfl, _, ⟨p8, k8, rfl, m8, n8, e8⟩, ⟨uq, _, rfl, _, hq, ⟨ua, _, rfl, _, ha, ⟨_, _, rfl, _, ⟨p21, k21, rfl, m21, n21, e21⟩, ⟨_, _, rfl, _, ⟨p22, k22, rfl, m22, n22, e22⟩, ⟨_, _, rfl, _, ⟨p23, k23, rfl, m23, n23, e23⟩, rfl⟩⟩⟩⟩⟩⟩⟩⟩ := h
  exact ⟨uk, uq, ua, p7, p8, p21, p22, p23, k7, k8, k21, k22, k23, rfl, hk, hq, ha, ⟨m7, n7, e7⟩, ⟨m8, n8, e8⟩, ⟨m21, n21, e21⟩, ⟨m22, n22, e22⟩, ⟨m23, n23, e23⟩⟩
abbrev rST : TypeId := 59
abbrev rqT : TypeId := 34
abbrev raT : TypeId := 36
theorem und_rF : (Try.prog.underlying rFT).map TypeDesc.isRow = some true := by kernel_rfl
theorem info_rF : (Try.prog.info? rFT).map (fun i => i.size) = some 15 := by kernel_rfl
theorem und_rq : (Try.prog.underlying rqT).map TypeDesc.isRow = some true := by kernel_rfl
theorem info_rq : (Try.prog.info? rqT).map (fun i => i.size) = some 5 := by kernel_rfl
theorem und_ra : (Try.prog.underlying raT).map TypeDesc.isRow = some true := by kernel_rfl
theorem info_ra : (Try.prog.info? raT).map (fun i => i.size) = some 7 := by kernel_rfl
theorem mid_get {a b c : List Value} {n : Nat} (hn : a.length = n) (j : Nat) (v : Value) (h : b[j]? = some v) : (a ++ (b ++ c))[n + j]? = some v := by
  subst hn
  rw [List.getElem?_append_right (by omega), Nat.add_sub_cancel_left, List.getElem?_append_left (List.getElem?_eq_some_iff.1 h).1]
  exact h
theorem app_skip {a b : List Value} {n j : Nat} {v : Value} (hn : a.length = n) (h : b[j]? = some v) : (a ++ b)[n + j]? = some v := suf_right hn j v h
/-- The cells of a state as the reference has it, one by one. -/
structure RS (vs uk uq ua : List Value) (s : StateD) (p7 p8 p21 p22 p23 : Option Addr) (k7 k8 k21 k22 k23 : Nat) : Prop where
  ck : ∀ j v, uk[j]? = some v → vs[0 + j]? = some v
  c7 : vs[7]? = some (.slice p7 s.2.1.length k7)
  c8 : vs[8]? = some (.slice p8 s.2.2.1.length k8)
  cq : ∀ j v, uq[j]? = some v → vs[9 + j]? = some v
  ca : ∀ j v, ua[j]? = some v → vs[14 + j]? = some v
  c21 : vs[21]? = some (.slice p21 s.2.2.2.2.2.1.length k21)
  c22 : vs[22]? = some (.slice p22 3 k22)
  c23 : vs[23]? = some (.slice p23 3 k23)
  c24 : vs[24]? = some (.int .i64 s.2.2.2.2.2.2.2.2)
theorem rs_of {uk uq ua : List Value} {s : StateD} {p7 p8 p21 p22 p23 : Option Addr} {k7 k8 k21 k22 k23 : Nat} (hk : uk.length = 7) (hq : uq.length = 5) (ha : ua.length = 7) :
    RS (uk ++ ([.slice p7 s.2.1.length k7] ++ ([.slice p8 s.2.2.1.length k8] ++ (uq ++ (ua ++ ([.slice p21 s.2.2.2.2.2.1.length k21] ++ ([.slice p22 3 k22] ++ ([.slice p23 3 k23] ++ [.int .i64 s.2.2.2.2.2.2.2.2])))))))) uk uq ua s p7 p8 p21 p22 p23 k7 k8 k21 k22 k23 := by
  refine ⟨fun j v h => pre_left j v h, app_skip (n := 7) (j := 0) hk rfl, app_skip (n := 7) (j := 1) hk rfl, fun j v h => ?_, fun j v h => ?_, ?_, ?_, ?_, ?_⟩
  · have h1 : (uq ++ (ua ++ ([Value.slice p21 s.2.2.2.2.2.1.length k21] ++ ([Value.slice p22 3 k22] ++ ([Value.slice p23 3 k23] ++ [Value.int .i64 s.2.2.2.2.2.2.2.2])))))[0 + j]? = some v := pre_left j v h
    have h2 := app_skip (a := uk ++ ([Value.slice p7 s.2.1.length k7] ++ [Value.slice p8 s.2.2.1.length k8])) (n := 9) (by simp [hk]) h1
    rw [Nat.zero_add] at h2
    simpa using h2
  · have h1 : (ua ++ ([Value.slice p21 s.2.2.2.2.2.1.length k21] ++ ([Value.slice p22 3 k22] ++ ([Value.slice p23 3 k23] ++ [Value.int .i64 s.2.2.2.2.2.2.2.2]))))[0 + j]? = some v := pre_left j v h
    have h2 := app_skip (a := uk ++ ([Value.slice p7 s.2.1.length k7] ++ ([Value.slice p8 s.2.2.1.length k8] ++ uq))) (n := 14) (by simp [hk, hq]) h1
    rw [Nat.zero_add] at h2
    simpa using h2
  all_goals
    have hL : (uk ++ ([Value.slice p7 s.2.1.length k7] ++ ([Value.slice p8 s.2.2.1.length k8] ++ (uq ++ ua)))).length = 21 := by simp [hk, hq, ha]
  · have h2 := app_skip (n := 21) (j := 0) (b := [Value.slice p21 s.2.2.2.2.2.1.length k21] ++ ([Value.slice p22 3 k22] ++ ([Value.slice p23 3 k23] ++ [Value.int .i64 s.2.2.2.2.2.2.2.2]))) hL rfl
    simpa using h2
  · have h2 := app_skip (n := 21) (j := 1) (b := [Value.slice p21 s.2.2.2.2.2.1.length k21] ++ ([Value.slice p22 3 k22] ++ ([Value.slice p23 3 k23] ++ [Value.int .i64 s.2.2.2.2.2.2.2.2]))) hL rfl
    simpa using h2
  · have h2 := app_skip (n := 21) (j := 2) (b := [Value.slice p21 s.2.2.2.2.2.1.length k21] ++ ([Value.slice p22 3 k22] ++ ([Value.slice p23 3 k23] ++ [Value.int .i64 s.2.2.2.2.2.2.2.2]))) hL rfl
    simpa using h2
  · have h2 := app_skip (n := 21) (j := 3) (b := [Value.slice p21 s.2.2.2.2.2.1.length k21] ++ ([Value.slice p22 3 k22] ++ ([Value.slice p23 3 k23] ++ [Value.int .i64 s.2.2.2.2.2.2.2.2]))) hL rfl
    simpa using h2
end Go.Proofs.Ytnmlnaoljkhjeaa
