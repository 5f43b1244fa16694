/-
  State: what is packed and unpacked, as plain law, for the statements. Conditions: as each law says.
  State: the law's example. Conditions: as each contract says.
  State: the law's example, walked. Conditions: as each contract says.
-/
import Derived.Test.YtnmlnaoljkhjeaaStFew
import Derived.Test.YtnmlnaoljkhjeaaStFew2
/-! StPlain2 -/
set_option linter.unusedVariables false
namespace Go.Proofs.Ytnmlnaoljkhjeaa
open Go.RowKit Base

theorem rowC_pos {α : Type} (c : Cd α) : Pos (rowC c) := fun l => by
  have h2 := numC_pos (l.length : Int)
  show 0 < (intB (l.length : Int) ++ encs c l).length
  rw [List.length_append]
  have h3 : 0 < (intB (l.length : Int)).length := h2
  omega
theorem bitC_pos : Pos bitC := fun b => numC_pos (if b then 1 else 0)
theorem keep_7 (k : KeepD) : 7 ≤ (keepC.enc k).length := by
  unfold keepC envC
  simp only [pairC_len]
  have h1 := rowC_pos varC k.1.1
  have h2 := rowC_pos txtC k.1.2.1
  have h3 := numC_pos k.1.2.2.1
  have h4 := txtC_pos k.1.2.2.2
  have h5 := rowC_pos fnC k.2.1
  have h6 := rowC_pos trapC k.2.2.1
  have h7 := rowC_pos prC k.2.2.2
  omega
theorem enc29 (s : StateD) : 29 ≤ (stateC.enc s).length := by
  unfold stateC reqC ansC
  simp only [pairC_len]
  have h0 := keep_7 s.1
  have h1 := rowC_pos txtC s.2.1
  have h2 := rowC_pos frameC s.2.2.1
  have h3 := numC_pos s.2.2.2.1.1
  have h4 := numC_pos s.2.2.2.1.2.1
  have h5 := numC_pos s.2.2.2.1.2.2.1
  have h6 := txtC_pos s.2.2.2.1.2.2.2.1
  have h7 := rowC_pos txtC s.2.2.2.1.2.2.2.2
  have a1 := numC_pos s.2.2.2.2.1.1.1
  have a2 := numC_pos s.2.2.2.2.1.1.2
  have a3 := numC_pos s.2.2.2.2.1.2.1
  have a4 := numC_pos s.2.2.2.2.1.2.2.1
  have a5 := txtC_pos s.2.2.2.2.1.2.2.2.1
  have a6 := rowC_pos txtC s.2.2.2.2.1.2.2.2.2.1
  have a7 := numC_pos s.2.2.2.2.1.2.2.2.2.2
  have b1 := rowC_pos numC s.2.2.2.2.2.1
  have b2 := numC_pos s.2.2.2.2.2.2.1.1
  have b3 := numC_pos s.2.2.2.2.2.2.1.2.1
  have b4 := numC_pos s.2.2.2.2.2.2.1.2.2
  have d1 := bitC_pos s.2.2.2.2.2.2.2.1.1
  have d2 := bitC_pos s.2.2.2.2.2.2.2.1.2.1
  have d3 := bitC_pos s.2.2.2.2.2.2.2.1.2.2
  have d4 := numC_pos s.2.2.2.2.2.2.2.2
  omega
section
variable {α : Type} {c : Cd α} {P : α → Prop}
/-- What is told of bytes that are to be one thing's and no others. -/
def unG (c : Cd α) (z : α) (l : Nm) : α × Int :=
  if mustE (decide ((c.dec l 0).2.1 = [])) (c.dec l 0).2.2 14 ≠ 0 then (z, mustE (decide ((c.dec l 0).2.1 = [])) (c.dec l 0).2.2 14) else ((c.dec l 0).1, 0)
theorem unG_of {z : α} {l l1 : Nm} {d : α} {e : Int} (h : c.dec l 0 = (d, l1, e)) : unG c z l = if mustE (decide (l1 = [])) e 14 ≠ 0 then (z, mustE (decide (l1 = [])) e 14) else (d, 0) := by
  unfold unG
  rw [h]
theorem unG_back (hc : c.Ok P) (z : α) {s : α} (h : P s) : unG c z (c.enc s) = (s, 0) := by
  have h1 := hc.back s [] h
  rw [List.append_nil] at h1
  rw [unG_of h1, decide_eq_true rfl, mustE_yes, if_neg (by decide)]
theorem unG_more (hc : c.Ok P) (z : α) {s : α} (h : P s) {m : Nm} (hm : m ≠ []) : (unG c z (c.enc s ++ m)).2 = 14 := by
  rw [unG_of (hc.back s m h), decide_eq_false hm, mustE_no, if_pos (by decide)]
theorem unG_cut (hc : c.Ok P) (z : α) {s : α} (h : P s) {k : Nat} (hk : k < (c.enc s).length) : (unG c z ((c.enc s).take k)).2 = 10 := by
  have h1 := hc.cut s h [] ((c.enc s).take k) 0 (.inr ⟨rfl, k, by rw [List.append_nil]; exact hk, by rw [List.append_nil]⟩)
  obtain ⟨⟨d, l1, e⟩, hd⟩ : ∃ x, c.dec ((c.enc s).take k) 0 = x := ⟨_, rfl⟩
  rw [hd] at h1
  have he : e = 10 := by
    rcases h1 with h1 | ⟨_, m, hm, _⟩
    · exact h1
    · cases hm
  subst he
  rw [unG_of hd, mustE_stop (by decide), if_pos (by decide)]
theorem unG_own (hc : c.Ok P) (z : α) {l : Nm} (h : (unG c z l).2 = 0) : l = c.enc (unG c z l).1 ∧ P (unG c z l).1 := by
  obtain ⟨⟨d, l1, e⟩, hd⟩ : ∃ x, c.dec l 0 = x := ⟨_, rfl⟩
  have hu := unG_of (z := z) hd
  rw [hu] at h ⊢
  by_cases hq : mustE (decide (l1 = [])) e 14 ≠ 0
  · rw [if_pos hq] at h
    exact absurd h hq
  · rw [if_neg hq]
    have hc0 : mustE (decide (l1 = [])) e 14 = 0 := Classical.not_not.1 hq
    have he : e = 0 := by
      by_cases he : e = 0
      · exact he
      · rw [mustE_stop he] at hc0; exact hc0
    subst he
    have hl : l1 = [] := by
      by_cases hl : l1 = []
      · exact hl
      · rw [decide_eq_false hl, mustE_no] at hc0; exact absurd hc0 (by decide)
    subst hl
    have := hc.own l d [] hd
    rwa [List.append_nil] at this
theorem unG_err (hc : c.Ok P) (z : α) {l : Nm} (h : (unG c z l).2 ≠ 0) : ((unG c z l).2 = 10 ∨ (unG c z l).2 = 11 ∨ (unG c z l).2 = 14) ∧ (unG c z l).1 = z := by
  obtain ⟨⟨d, l1, e⟩, hd⟩ : ∃ x, c.dec l 0 = x := ⟨_, rfl⟩
  have hu := unG_of (z := z) hd
  have herr := hc.err l
  rw [hd] at herr
  rw [hu] at h ⊢
  by_cases hq : mustE (decide (l1 = [])) e 14 ≠ 0
  · rw [if_pos hq]
    refine ⟨?_, rfl⟩
    show mustE _ e 14 = 10 ∨ mustE _ e 14 = 11 ∨ mustE _ e 14 = 14
    by_cases he : e = 0
    · subst he
      right; right
      rcases hw : decide (l1 = []) with _ | _
      · exact mustE_no
      · rw [hw, mustE_yes] at hq; exact absurd rfl hq
    · rw [mustE_stop he]
      rcases herr with h1 | h1 | h1
      · exact absurd h1 he
      · exact .inl h1
      · exact .inr (.inl h1)
  · rw [if_neg hq] at h
    exact absurd rfl h
theorem unG_own' (hc : c.Ok P) {z : α} {l : Nm} {u : α × Int} (e : u = unG c z l) (h : u.2 = 0) : l = c.enc u.1 ∧ P u.1 := by
  subst e
  exact unG_own hc z h
theorem unG_err' (hc : c.Ok P) {z : α} {l : Nm} {u : α × Int} (e : u = unG c z l) (h : u.2 ≠ 0) : (u.2 = 10 ∨ u.2 = 11 ∨ u.2 = 14) ∧ u.1 = z := by
  subst e
  exact unG_err hc z h
theorem enc_inj (hc : c.Ok P) {s t : α} (hs : P s) (ht : P t) : decide (c.enc s = c.enc t) = true ↔ s = t := ⟨fun h => hc.inj hs ht (of_decide_eq_true h), fun h => by rw [h]; exact decide_eq_true rfl⟩
theorem enc_ne (hc : c.Ok P) {s t : α} (hs : P s) (ht : P t) (h : s ≠ t) : decide (c.enc s = c.enc t) = false := decide_eq_false (fun e => h (hc.inj hs ht e))
end
theorem unB_eq (l : Nm) : unB l = unG stateC zeroD l := rfl
theorem unB_back {s : StateD} (h : StateP s) : unB (stateC.enc s) = (s, 0) := unG_back (c := stateC) (P := StateP) stateC_ok zeroD (s := s) h
theorem unB_more {s : StateD} (h : StateP s) {m : Nm} (hm : m ≠ []) : (unB (stateC.enc s ++ m)).2 = 14 := unG_more (c := stateC) (P := StateP) stateC_ok zeroD (s := s) h hm
theorem unB_cut {s : StateD} (h : StateP s) {k : Nat} (hk : k < (stateC.enc s).length) : (unB ((stateC.enc s).take k)).2 = 10 := unG_cut (c := stateC) (P := StateP) stateC_ok zeroD (s := s) h hk
theorem unB_own {l : Nm} (h : (unB l).2 = 0) : l = stateC.enc (unB l).1 ∧ StateP (unB l).1 := unG_own' stateC_ok (unB_eq l) h
theorem unB_err {l : Nm} (h : (unB l).2 ≠ 0) : ((unB l).2 = 10 ∨ (unB l).2 = 11 ∨ (unB l).2 = 14) ∧ (unB l).1 = zeroD := unG_err' stateC_ok (unB_eq l) h
end Go.Proofs.Ytnmlnaoljkhjeaa

/-! StAwake -/
set_option linter.unusedVariables false
set_option maxRecDepth 100000
namespace Go.Proofs.Ytnmlnaoljkhjeaa
open Go.RowKit Base

theorem pair_mono {α β : Type} {k : Nat} {H1 A1 : World → List Value → α → Prop} {H2 A2 : World → List Value → β → Prop} (h1 : ∀ {W vs a}, H1 W vs a → A1 W vs a) (h2 : ∀ {W vs a}, H2 W vs a → A2 W vs a) {W : World} {vs : List Value} {a : α × β} (h : pairH k H1 H2 W vs a) : pairH k A1 A2 W vs a := by
  obtain ⟨v1, v2, e, hl, g1, g2⟩ := h
  exact ⟨v1, v2, e, hl, h1 g1, h2 g2⟩
/-- A row of its own reads as any row. -/
theorem row_HA {α : Type} {k : Nat} {T : TypeId} {H A : World → List Value → α → Prop} (h : ∀ {W vs a}, H W vs a → A W vs a) {W : World} {vs : List Value} {zs : List α} (hr : RowH k T H W vs zs) : RowA k A W vs zs := by
  obtain ⟨u, xs, rfl, ho, he⟩ := hr
  rcases ho.2 with ⟨rfl, h0⟩ | ⟨b, cap, cur, rfl, _, h3, h4, h5, h6, h7⟩
  · exact ⟨none, 0, by rw [h0], by omega, Nat.zero_le _, .inl (List.eq_nil_of_length_eq_zero h0)⟩
  · refine ⟨some ⟨b, 0, none⟩, cap, rfl, h4, h5, .inr ⟨b, 0, rfl, fun j hj => ?_⟩⟩
    have hjk : ∀ i, i < k → j * k + i < zs.length * k := fun i hi => by
      have := Nat.mul_le_mul_right k (show j + 1 ≤ zs.length by omega)
      rw [Nat.add_mul, Nat.one_mul] at this
      omega
    have hlen : ((xs.drop (j * k)).take k).length = k := by
      rw [List.length_take, List.length_drop, he.1]
      have := Nat.mul_le_mul_right k (show j + 1 ≤ zs.length by omega)
      rw [Nat.add_mul, Nat.one_mul] at this
      omega
    refine ⟨(xs.drop (j * k)).take k, hlen, fun i hi => ?_, fun i hi => by simp [World.frozen?, h3], h (he.2 j hj)⟩
    have hi2 : i < k := by omega
    have h8 : (W.cell? ⟨b, 0 + j * k + i, none⟩) = cur[0 + j * k + i]? := by simp [World.cell?, h3]
    rw [h8, Nat.zero_add]
    have h9 : ((xs.drop (j * k)).take k)[i]? = some ((xs.drop (j * k)).take k)[i] := List.getElem?_eq_getElem hi
    obtain ⟨x, hx⟩ : ∃ x, ((xs.drop (j * k)).take k)[i] = x := ⟨_, rfl⟩
    rw [hx] at h9 ⊢
    rw [List.getElem?_take, if_pos hi2, List.getElem?_drop, ← h7, List.getElem?_take, if_pos (hjk i hi2), Array.getElem?_toList] at h9
    exact h9
theorem flat_HA {α : Type} {V : α → List Value} {W : World} {vs : List Value} {a : α} (h : flatH V W vs a) : flatH V W vs a := h
theorem env_HA {W : World} {vs : List Value} {a : EnvD} (h : envH W vs a) : envA W vs a := pair_mono (row_HA flat_HA) (pair_mono (row_HA flat_HA) (pair_mono flat_HA flat_HA)) h
theorem keep_HA {W : World} {vs : List Value} {a : KeepD} (h : keepH W vs a) : keepA W vs a := pair_mono env_HA (pair_mono (row_HA flat_HA) (pair_mono (row_HA flat_HA) (row_HA flat_HA))) h
theorem frame_HA {W : World} {vs : List Value} {a : FrameD} (h : frameH W vs a) : frameA W vs a := pair_mono flat_HA (pair_mono flat_HA (pair_mono flat_HA (pair_mono flat_HA (pair_mono flat_HA (pair_mono (row_HA flat_HA) (pair_mono (row_HA flat_HA) (pair_mono (row_HA flat_HA) keep_HA))))))) h
theorem req_HA {W : World} {vs : List Value} {a : ReqD} (h : reqH W vs a) : reqA W vs a := pair_mono flat_HA (pair_mono flat_HA (pair_mono flat_HA (pair_mono flat_HA (row_HA flat_HA)))) h
theorem ans_HA {W : World} {vs : List Value} {a : AnsD} (h : ansH W vs a) : ansA W vs a := pair_mono flat_HA (pair_mono flat_HA (pair_mono flat_HA (pair_mono flat_HA (pair_mono (row_HA flat_HA) flat_HA)))) h
theorem state_HA {W : World} {vs : List Value} {a : StateD} (h : stateH W vs a) : stateA W vs a := pair_mono keep_HA (pair_mono (row_HA flat_HA) (pair_mono (row_HA frame_HA) (pair_mono req_HA (pair_mono ans_HA (pair_mono (row_HA flat_HA) (pair_mono flat_HA (pair_mono flat_HA flat_HA))))))) h
/-! ### The example -/
def fD0 : FrameD := ((1, 0, 0, 0, 0), true, 0, 0, [], [-3], [], [], ((([], [], 0, []), [], [], []) : KeepD))
def aD : StateD := (((([], [], 0, []), [], [], []) : KeepD), [[97]], [fD0], (0, 0, 0, [], []), ((0, 0), 0, 0, [], [], 0), [2], (0, 0, 0), (false, false, false), 0)
theorem zero29 : (stateC.enc zeroD).length = 29 := by decide +kernel
theorem aD_len : (stateC.enc aD).length ≤ 100000000 := by decide +kernel
theorem aD_ne : decide (stateC.enc aD = stateC.enc zeroD) = false := by decide +kernel
theorem i64_lit {z : Int} (h : -1000 ≤ z) (h2 : z ≤ 1000) : I64 z := ⟨by omega, by omega⟩
theorem lt64_lit {n : Nat} (h : n ≤ 1000) : Lt64 n := by unfold Lt64; omega
theorem keep0_P : KeepP ((([], [], 0, []), [], [], []) : KeepD) := ⟨⟨⟨by decide, fun _ h => by cases h⟩, ⟨by decide, fun _ h => by cases h⟩, i64_lit (by decide) (by decide), lt64_lit (by decide)⟩, ⟨by decide, fun _ h => by cases h⟩, ⟨by decide, fun _ h => by cases h⟩, ⟨by decide, fun _ h => by cases h⟩⟩
theorem fD0_P : FrameP fD0 := by
  have z : ∀ x : Int, x = 0 ∨ x = 1 → I64 x := fun x h => by rcases h with rfl | rfl <;> exact i64_lit (by decide) (by decide)
  refine ⟨⟨z _ (.inr rfl), z _ (.inl rfl), z _ (.inl rfl), z _ (.inl rfl), z _ (.inl rfl)⟩, trivial, z _ (.inl rfl), z _ (.inl rfl), lt64_lit (by decide), ⟨by decide, fun x h => ?_⟩, ⟨by decide, fun _ h => by cases h⟩, ⟨by decide, fun _ h => by cases h⟩, keep0_P⟩
  obtain rfl : x = -3 := by simpa [fD0] using h
  exact i64_lit (by decide) (by decide)
theorem aD_P : StateP aD := by
  have z : I64 0 := i64_lit (by decide) (by decide)
  refine ⟨keep0_P, ⟨by decide, fun x h => ?_⟩, ⟨by decide, fun x h => ?_⟩, ⟨z, z, z, lt64_lit (by decide), by decide, fun _ h => by cases h⟩, ⟨⟨z, z⟩, z, z, lt64_lit (by decide), ⟨by decide, fun _ h => by cases h⟩, z⟩, ⟨by decide, fun x h => ?_⟩, ⟨z, z, z⟩, ⟨trivial, trivial, trivial⟩, z⟩
  · obtain rfl : x = [97] := by simpa [aD] using h
    exact lt64_lit (by decide)
  · obtain rfl : x = fD0 := by simpa [aD] using h
    exact fD0_P
  · obtain rfl : x = 2 := by simpa [aD] using h
    exact i64_lit (by decide) (by decide)
theorem zeroD_P : StateP zeroD := by
  have z : I64 0 := i64_lit (by decide) (by decide)
  exact ⟨keep0_P, ⟨by decide, fun _ h => by cases h⟩, ⟨by decide, fun _ h => by cases h⟩, ⟨z, z, z, lt64_lit (by decide), by decide, fun _ h => by cases h⟩, ⟨⟨z, z⟩, z, z, lt64_lit (by decide), ⟨by decide, fun _ h => by cases h⟩, z⟩, ⟨by decide, fun _ h => by cases h⟩, ⟨z, z, z⟩, ⟨trivial, trivial, trivial⟩, z⟩
end Go.Proofs.Ytnmlnaoljkhjeaa

/-! StAwake2 -/
set_option linter.unusedVariables false
set_option maxRecDepth 100000
namespace Go.Proofs.Ytnmlnaoljkhjeaa
open Go.RowKit Base

abbrev exV (B : Nat) : List Value := [.slice none 0 0, .slice none 0 0, .int .i64 0, .string ⟨#[]⟩, .slice none 0 0, .slice none 0 0, .slice none 0 0, .slice (some ⟨B, 0, none⟩) 1 1, .slice (some ⟨B + 2, 0, none⟩) 1 1, .int .i64 0, .int .i64 0, .int .i64 0, .string ⟨#[]⟩, .slice none 0 0, .int .i64 0, .int .i64 0, .int .i64 0, .int .i64 0, .string ⟨#[]⟩, .slice none 0 0, .int .i64 0, .slice (some ⟨B + 3, 0, none⟩) 1 1, .int .i64 0, .int .i64 0, .int .i64 0, .bool false, .bool false, .bool false, .int .i64 0]
abbrev exF (B : Nat) : List Value := [.int .i64 1, .int .i64 0, .int .i64 0, .int .i64 0, .int .i64 0, .bool true, .int .i64 0, .int .i64 0, .string ⟨#[]⟩, .slice (some ⟨B + 1, 0, none⟩) 1 1, .slice none 0 0, .slice none 0 0, .slice none 0 0, .slice none 0 0, .int .i64 0, .string ⟨#[]⟩, .slice none 0 0, .slice none 0 0, .slice none 0 0]
theorem ex_frame {W : World} {B : Nat} (h : W.heap[B + 1]? = some (.cells #[.int .i64 (-3)] 2)) : frameH W (exF B) fD0 := by
  refine ⟨[.int .i64 1, .int .i64 0, .int .i64 0, .int .i64 0, .int .i64 0], _, rfl, rfl, rfl, [.bool true], _, rfl, rfl, rfl, [.int .i64 0], _, rfl, rfl, rfl, [.int .i64 0], _, rfl, rfl, rfl, [.string ⟨#[]⟩], _, rfl, rfl, rfl,
    [.slice (some ⟨B + 1, 0, none⟩) 1 1], _, rfl, rfl, ?_, [.slice none 0 0], _, rfl, rfl, row_none _ _ _ _, [.slice none 0 0], _, rfl, rfl, row_none _ _ _ _, ?_⟩
  · refine ⟨_, [.int .i64 (-3)], rfl, ⟨rfl, .inr ⟨B + 1, 1, _, rfl, Nat.zero_le _, h, Nat.le_refl _, by unfold maxLen; decide, rfl, rfl⟩⟩, rfl, fun j hj => ?_⟩
    match j, hj with
    | 0, _ => exact rfl
  · exact ⟨[.slice none 0 0, .slice none 0 0, .int .i64 0, .string ⟨#[]⟩], _, rfl, rfl, ⟨[.slice none 0 0], _, rfl, rfl, row_none _ _ _ _, [.slice none 0 0], _, rfl, rfl, row_none _ _ _ _, [.int .i64 0], _, rfl, rfl, rfl, rfl⟩, [.slice none 0 0], _, rfl, rfl, row_none _ _ _ _, [.slice none 0 0], _, rfl, rfl, row_none _ _ _ _, row_none _ _ _ _⟩
theorem ex_state {W : World} {B : Nat} (h0 : W.heap[B]? = some (.cells #[.string ⟨#[97]⟩] 9)) (h1 : W.heap[B + 1]? = some (.cells #[.int .i64 (-3)] 2)) (h2 : W.heap[B + 2]? = some (.cells (exF B).toArray frT)) (h3 : W.heap[B + 3]? = some (.cells #[.int .i64 2] 3)) : stateH W (exV B) aD := by
  refine ⟨[.slice none 0 0, .slice none 0 0, .int .i64 0, .string ⟨#[]⟩, .slice none 0 0, .slice none 0 0, .slice none 0 0], _, rfl, rfl, ?_, [.slice (some ⟨B, 0, none⟩) 1 1], _, rfl, rfl, ?_, [.slice (some ⟨B + 2, 0, none⟩) 1 1], _, rfl, rfl, ?_,
    [.int .i64 0, .int .i64 0, .int .i64 0, .string ⟨#[]⟩, .slice none 0 0], _, rfl, rfl, ?_, [.int .i64 0, .int .i64 0, .int .i64 0, .int .i64 0, .string ⟨#[]⟩, .slice none 0 0, .int .i64 0], _, rfl, rfl, ?_, [.slice (some ⟨B + 3, 0, none⟩) 1 1], _, rfl, rfl, ?_, [.int .i64 0, .int .i64 0, .int .i64 0], _, rfl, rfl, rfl, [.bool false, .bool false, .bool false], _, rfl, rfl, rfl, rfl⟩
  · exact ⟨[.slice none 0 0, .slice none 0 0, .int .i64 0, .string ⟨#[]⟩], _, rfl, rfl, ⟨[.slice none 0 0], _, rfl, rfl, row_none _ _ _ _, [.slice none 0 0], _, rfl, rfl, row_none _ _ _ _, [.int .i64 0], _, rfl, rfl, rfl, rfl⟩, [.slice none 0 0], _, rfl, rfl, row_none _ _ _ _, [.slice none 0 0], _, rfl, rfl, row_none _ _ _ _, row_none _ _ _ _⟩
  · refine ⟨_, [.string ⟨#[97]⟩], rfl, ⟨rfl, .inr ⟨B, 1, _, rfl, Nat.zero_le _, h0, Nat.le_refl _, by unfold maxLen; decide, rfl, rfl⟩⟩, rfl, fun j hj => ?_⟩
    match j, hj with
    | 0, _ => exact rfl
  · refine ⟨_, exF B, rfl, ⟨rfl, .inr ⟨B + 2, 1, _, rfl, Nat.zero_le _, h2, Nat.le_refl _, by unfold maxLen; decide, rfl, rfl⟩⟩, rfl, fun j hj => ?_⟩
    match j, hj with
    | 0, _ => exact ex_frame h1
  · exact ⟨[.int .i64 0], _, rfl, rfl, rfl, [.int .i64 0], _, rfl, rfl, rfl, [.int .i64 0], _, rfl, rfl, rfl, [.string ⟨#[]⟩], _, rfl, rfl, rfl, row_none _ _ _ _⟩
  · exact ⟨[.int .i64 0, .int .i64 0], _, rfl, rfl, rfl, [.int .i64 0], _, rfl, rfl, rfl, [.int .i64 0], _, rfl, rfl, rfl, [.string ⟨#[]⟩], _, rfl, rfl, rfl, [.slice none 0 0], _, rfl, rfl, row_none _ _ _ _, rfl⟩
  · refine ⟨_, [.int .i64 2], rfl, ⟨rfl, .inr ⟨B + 3, 1, _, rfl, Nat.zero_le _, h3, Nat.le_refl _, by unfold maxLen; decide, rfl, rfl⟩⟩, rfl, fun j hj => ?_⟩
    match j, hj with
    | 0, _ => exact rfl
/-- A struct's load, guarded or not. -/
theorem wpList_load_g {P : Program} {ops : Array Oper} {rest : List Oper} {op : Oper} {a : Act} {w : World} {Q : Exit → Act → World → Prop} (hw : Region.wanted op (yielded ops a.tmps) = true) (ty : TypeId) (x : Operand) (ho : op.op = .load ty x)
    (b o : Nat) (hx : a.eval x = .pointer (some ⟨b, o, none⟩)) (cs : List Value) (d : TypeDesc) (hc : w.rangeAt b o cs) (hu : P.underlying ty = some d) (hd : d.isRow = true) (hi : (P.info? ty).map (·.size) = some cs.length)
    (h : wpList P ops Q rest (a.put op.dst (.agg cs.toArray)) w) : wpList P ops Q (op :: rest) a w := by
  unfold wpList
  rw [if_pos hw]
  exact .inl (wp_load_mid ty x ho b o hx cs d hc hu hd hi h)
theorem cut_range {w : World} {b : Nat} {vs : List Value} {t : TypeId} (h : Cut b vs t w) : w.rangeAt b 0 vs := fun j v hv => by rw [Nat.zero_add, h.cell]; exact hv
theorem grown_kept {S : TypeId → Bool} {w w' : World} {b : Nat} {us : List Value} {t : TypeId} (hc : Cut b us t w) (hs : S t = false) (hg : w.grownBy w' (some b)) : Kept S w w' := by
  intro k c t' fr hk ht
  refine hg.block k (Array.getElem?_eq_some_iff.1 hk).1 (fun e => ?_)
  obtain rfl : b = k := Option.some.inj e |> fun h => by omega
  have := hk.symm.trans hc
  injection this with this
  injection this with _ this _
  rw [this, hs] at ht
  cases ht
def exW (W : World) : World := ((((W.alloc (.cells #[.string ⟨#[97]⟩] 9)).alloc (.cells #[.int .i64 (-3)] 2)).alloc (.cells (exF W.heap.size).toArray frT)).alloc (.cells #[.int .i64 2] 3)).alloc (.cells stZ.toArray stT)
theorem exW_facts (W : World) : (exW W).heap[W.heap.size]? = some (.cells #[.string ⟨#[97]⟩] 9) ∧ (exW W).heap[W.heap.size + 1]? = some (.cells #[.int .i64 (-3)] 2) ∧ (exW W).heap[W.heap.size + 2]? = some (.cells (exF W.heap.size).toArray frT) ∧ (exW W).heap[W.heap.size + 3]? = some (.cells #[.int .i64 2] 3) ∧ Cut (W.heap.size + 4) stZ stT (exW W) ∧ (exW W).heap.size = W.heap.size + 5 ∧ Below W.heap.size W (exW W) := by
  obtain ⟨w1, hw1⟩ : ∃ w, W.alloc (.cells #[.string ⟨#[97]⟩] 9) = w := ⟨_, rfl⟩
  obtain ⟨w2, hw2⟩ : ∃ w, w1.alloc (.cells #[.int .i64 (-3)] 2) = w := ⟨_, rfl⟩
  obtain ⟨w3, hw3⟩ : ∃ w, w2.alloc (.cells (exF W.heap.size).toArray frT) = w := ⟨_, rfl⟩
  obtain ⟨w4, hw4⟩ : ∃ w, w3.alloc (.cells #[.int .i64 2] 3) = w := ⟨_, rfl⟩
  obtain ⟨w5, hw5⟩ : ∃ w, w4.alloc (.cells stZ.toArray stT) = w := ⟨_, rfl⟩
  have e : exW W = w5 := by unfold exW; rw [hw1, hw2, hw3, hw4, hw5]
  rw [e]
  have s1 : w1.heap.size = W.heap.size + 1 := by rw [← hw1, World.size_alloc]
  have s2 : w2.heap.size = W.heap.size + 2 := by rw [← hw2, World.size_alloc, s1]
  have s3 : w3.heap.size = W.heap.size + 3 := by rw [← hw3, World.size_alloc, s2]
  have s4 : w4.heap.size = W.heap.size + 4 := by rw [← hw4, World.size_alloc, s3]
  have s5 : w5.heap.size = W.heap.size + 5 := by rw [← hw5, World.size_alloc, s4]
  have n0 : w1.heap[W.heap.size]? = some (.cells #[.string ⟨#[97]⟩] 9) := by rw [← hw1]; exact heap_alloc_new W _
  have n1 : w2.heap[W.heap.size + 1]? = some (.cells #[.int .i64 (-3)] 2) := by rw [← hw2, ← s1]; exact heap_alloc_new w1 _
  have n2 : w3.heap[W.heap.size + 2]? = some (.cells (exF W.heap.size).toArray frT) := by rw [← hw3, ← s2]; exact heap_alloc_new w2 _
  have n3 : w4.heap[W.heap.size + 3]? = some (.cells #[.int .i64 2] 3) := by rw [← hw4, ← s3]; exact heap_alloc_new w3 _
  have n4 : w5.heap[W.heap.size + 4]? = some (.cells stZ.toArray stT) := by rw [← hw5, ← s4]; exact heap_alloc_new w4 _
  have k2 : ∀ k, k < w1.heap.size → w2.heap[k]? = w1.heap[k]? := fun k hk => by rw [← hw2]; exact Below.heap_alloc _ _ _ hk
  have k3 : ∀ k, k < w2.heap.size → w3.heap[k]? = w2.heap[k]? := fun k hk => by rw [← hw3]; exact Below.heap_alloc _ _ _ hk
  have k4 : ∀ k, k < w3.heap.size → w4.heap[k]? = w3.heap[k]? := fun k hk => by rw [← hw4]; exact Below.heap_alloc _ _ _ hk
  have k5 : ∀ k, k < w4.heap.size → w5.heap[k]? = w4.heap[k]? := fun k hk => by rw [← hw5]; exact Below.heap_alloc _ _ _ hk
  refine ⟨?_, ?_, ?_, ?_, n4, s5, ?_⟩
  · rw [k5 _ (by omega), k4 _ (by omega), k3 _ (by omega), k2 _ (by omega)]; exact n0
  · rw [k5 _ (by omega), k4 _ (by omega), k3 _ (by omega)]; exact n1
  · rw [k5 _ (by omega), k4 _ (by omega)]; exact n2
  · rw [k5 _ (by omega)]; exact n3
  · have h1 := (Below.refl W.heap.size W).alloc (Nat.le_refl _) (.cells #[.string ⟨#[97]⟩] 9)
    rw [hw1] at h1
    have h2 := h1.alloc h1.size (.cells #[.int .i64 (-3)] 2)
    rw [hw2] at h2
    have h3 := h2.alloc h2.size (.cells (exF W.heap.size).toArray frT)
    rw [hw3] at h3
    have h4 := h3.alloc h3.size (.cells #[.int .i64 2] 3)
    rw [hw4] at h4
    have h5 := h4.alloc h4.size (.cells stZ.toArray stT)
    rw [hw5] at h5
    exact h5
set_option maxHeartbeats 4000000 in
theorem awake_calls (W : World) : Calls Try.prog 7 #[] W fun r W' => r = .returned (.bool true) ∧ Below W.heap.size W W' := by
  obtain ⟨f0, f1, f2, f3, f4, f5, f6⟩ := exW_facts W
  have HC := Lib.hid f4
  have HSz := Lib.hid f5
  have HB := Lib.hid f6
  have HSt := Lib.hid (ex_state f0 f1 f2 f3)
  clear f0 f1 f2 f3 f4 f5 f6
  go_enter Try.func7, Try.ntmps7
  have HX : Hid (((((W.alloc (.cells #[.string ⟨#[97]⟩] 9)).alloc (.cells #[.int .i64 (-3)] 2)).alloc (.cells #[.int .i64 1, .int .i64 0, .int .i64 0, .int .i64 0, .int .i64 0, .bool true, .int .i64 0, .int .i64 0, .string ⟨#[]⟩, .slice (some ⟨W.heap.size + 1, 0, none⟩) 1 1, .slice none 0 0, .slice none 0 0, .slice none 0 0, .slice none 0 0, .int .i64 0, .string ⟨#[]⟩, .slice none 0 0, .slice none 0 0, .slice none 0 0] frT)).alloc (.cells #[.int .i64 2] 3)).alloc (.cells #[.slice none 0 0, .slice none 0 0, .int .i64 0, .string ⟨#[]⟩, .slice none 0 0, .slice none 0 0, .slice none 0 0, .slice none 0 0, .slice none 0 0, .int .i64 0, .int .i64 0, .int .i64 0, .string ⟨#[]⟩, .slice none 0 0, .int .i64 0, .int .i64 0, .int .i64 0, .int .i64 0, .string ⟨#[]⟩, .slice none 0 0, .int .i64 0, .slice none 0 0, .int .i64 0, .int .i64 0, .int .i64 0, .bool false, .bool false, .bool false, .int .i64 0] stT) = exW W) := rfl
  go_upto_region 2 with (refine wpList_store_mid rfl stT (.tmp 1) (.tmp 9) rfl (W.heap.size + 4) 0 (exV W.heap.size).toArray rfl rfl (by rw [HX.out]; exact there_cut HC.out _ (Nat.le_refl _)) info_st (all_oneCell_toArray (state_1.one HSt.out)) ?_)
  rw [HX.out]
  have hcs : Cut (W.heap.size + 4) (exV W.heap.size) stT ((exW W).setCells (W.heap.size + 4) 0 (exV W.heap.size)) := set_cut HC.out rfl
  have hgs := Sl.setCells_grown (W.heap.size + 4) (exV W.heap.size) 0 (exW W)
  have hst := state_st.keep HSt.out (grown_kept HC.out rfl hgs)
  have hbs := HB.out.grown hgs HB.out.size (fun j hj => by have := Option.some.inj hj; omega)
  have HW1 : Hid (W.heap.size + 4 < ((exW W).setCells (W.heap.size + 4) 0 (exV W.heap.size)).heap.size) := hcs.lt
  have HC1 := Lib.hid hcs
  have HS1 := Lib.hid hst
  have HB1 := Lib.hid hbs
  clear hcs hgs hst hbs HX HC HSz HB HSt
  change Code.wp _ _ _ _ ((exW W).setCells (W.heap.size + 4) 0 (exV W.heap.size))
  generalize (exW W).setCells (W.heap.size + 4) 0 (exV W.heap.size) = w1 at *
  have HP1 := Lib.hid (PkArg.of HS1.out rfl)
  have HV : Hid ((exV W.heap.size).length = 29) := rfl
  generalize exV W.heap.size = V at *
  generalize W.heap.size + 4 = tb at *
  obtain ⟨dd, hdu, hdr⟩ := Option.map_eq_some_iff.1 und_st
  have HDu := Lib.hid hdu
  have HDr := Lib.hid hdr
  clear hdu hdr
  have HInf : Hid ((Try.prog.info? stT).map (fun i => i.size) = some V.length) := by show _ = _; rw [HV.out]; exact info_st
  go_wp2_with (refine wpList_load_g (by kernel_rfl) stT (.tmp 1) rfl tb 0 rfl V dd (cut_range HC1.out) HDu.out HDr.out HInf.out ?_)
  refine (pack_calls w1 V aD HP1.out aD_P aD_len).mono ?_
  rintro r w2 ⟨u, rfl, hown, hb2⟩
  obtain ⟨a1, c1, rfl, hv1⟩ := ownsRow_bytes hown
  have HBy := Lib.hid hv1
  have HB2 := Lib.hid hb2
  clear hown hv1 hb2
  have HLe : Hid ((stateC.enc aD).length ≤ 1000000000) := Nat.le_trans aD_len (by decide)
  have HUn : Hid (unB (stateC.enc aD) = (aD, 0)) := unB_back aD_P
  generalize hel : (stateC.enc aD).length = el at *
  have HUc := Lib.hid (unpack_calls w2 a1 el c1 _ HBy.out HLe.out)
  rw [HUn.out] at HUc
  go_wp2_with fail
  refine HUc.out.mono ?_
  rintro r w3 ⟨vs2, rfl, hvl, hH, hb3⟩
  have HH3 : Hid (stateH w3 vs2 aD) := hH
  have HVl := Lib.hid hvl
  have HB3 := Lib.hid hb3
  clear hvl hH hb3
  obtain ⟨t2, w4, hw4, ht2, hc4, hb4⟩ : ∃ t2 w4, w3.alloc (.cells #[.slice none 0 0, .slice none 0 0, .int .i64 0, .string ⟨#[]⟩, .slice none 0 0, .slice none 0 0, .slice none 0 0, .slice none 0 0, .slice none 0 0, .int .i64 0, .int .i64 0, .int .i64 0, .string ⟨#[]⟩, .slice none 0 0, .int .i64 0, .int .i64 0, .int .i64 0, .int .i64 0, .string ⟨#[]⟩, .slice none 0 0, .int .i64 0, .slice none 0 0, .int .i64 0, .int .i64 0, .int .i64 0, .bool false, .bool false, .bool false, .int .i64 0] stT) = w4 ∧ w3.heap.size = t2 ∧ Cut t2 stZ stT w4 ∧ Below w3.heap.size w3 w4 := ⟨_, _, rfl, rfl, heap_alloc_new w3 _, (Below.refl w3.heap.size w3).alloc (Nat.le_refl _) _⟩
  have HW4 := Lib.hid hw4
  have HT2 := Lib.hid ht2
  have HC4 := Lib.hid hc4
  have HB4 := Lib.hid hb4
  clear hw4 ht2 hc4 hb4
  go_upto_region 3 with (refine wpList_store_mid rfl stT (.tmp 2) (.tmp 14) rfl w3.heap.size 0 vs2.toArray rfl rfl (by rw [HW4.out, HT2.out]; exact there_cut HC4.out _ (by rw [List.size_toArray, HVl.out]; exact Nat.le_refl _)) (by rw [List.size_toArray, HVl.out]; exact info_st) (all_oneCell_toArray (state_1.one HH3.out)) ?_)
  rw [HW4.out, HT2.out]
  have hcs : Cut t2 vs2 stT (w4.setCells t2 0 vs2) := set_cut HC4.out (by rw [HVl.out]; rfl)
  have hgs := Sl.setCells_grown t2 vs2 0 w4
  have hst := state_st.keep (state_st.keep HH3.out (Kept.below HB4.out)) (grown_kept HC4.out rfl hgs)
  have hb35 : Below w3.heap.size w3 (w4.setCells t2 0 vs2) := HB4.out.grown hgs HB4.out.size (fun j hj => by have := Option.some.inj hj; have := HT2.out; omega)
  have hb15 := HB2.out.trans ((HB3.out.trans (hb35.mono HB3.out.size)).mono HB2.out.size)
  have HC5 := Lib.hid hcs
  have HS5 := Lib.hid hst
  have HP5 := Lib.hid (PkArg.of hst HVl.out)
  have HQ5 := Lib.hid (HP1.out.below hb15)
  have HC15 : Hid (Cut tb V stT (w4.setCells t2 0 vs2)) := (hb15.block tb HC1.out.lt).trans HC1.out
  have HBW : Hid (Below W.heap.size W (w4.setCells t2 0 vs2)) := HB1.out.trans (hb15.mono HB1.out.size)
  clear hcs hgs hst hb35 hb15 HC4 HW4 HT2 HB4 HH3 HB3 HB2 HB1 HBy HUc HUn HLe
  change Code.wp _ _ _ _ (w4.setCells t2 0 vs2)
  generalize w4.setCells t2 0 vs2 = w5 at *
  have HInf2 : Hid ((Try.prog.info? stT).map (fun i => i.size) = some vs2.length) := by show _ = _; rw [HVl.out]; exact info_st
  have HZp := Lib.hid (pack_calls w5 stZ zeroD (PkArg.of (zero_state w5) rfl) zeroD_P (by rw [zero29]; decide))
  rw [zero29] at HZp
  go_wp2_with fail
  refine HZp.out.mono ?_
  rintro r w6 ⟨u, rfl, hown, hb6⟩
  obtain ⟨a3, c3, rfl, hown2⟩ := ownsRow_slice hown
  have HB6 := Lib.hid hb6
  clear hown hown2 hb6 HZp
  have HC6a : Hid (Cut tb V stT w6) := (HB6.out.block tb HC15.out.lt).trans HC15.out
  have HC6b : Hid (Cut t2 vs2 stT w6) := (HB6.out.block t2 HC5.out.lt).trans HC5.out
  have HSm := Lib.hid (same_calls w6 V vs2 aD aD (HQ5.out.below HB6.out) (HP5.out.below HB6.out) aD_P aD_P aD_len aD_len)
  rw [decide_eq_true (rfl : stateC.enc aD = stateC.enc aD)] at HSm
  go_wp2_with (first | (refine wpList_load_g (by kernel_rfl) stT (.tmp 1) rfl tb 0 rfl V dd (cut_range HC6a.out) HDu.out HDr.out HInf.out ?_) | (refine wpList_load_g (by kernel_rfl) stT (.tmp 2) rfl t2 0 rfl vs2 dd (cut_range HC6b.out) HDu.out HDr.out HInf2.out ?_))
  refine HSm.out.mono ?_
  rintro r w7 ⟨rfl, hb7⟩
  have HB7 := Lib.hid hb7
  clear hb7 HSm
  have HB57 := Lib.hid (HB6.out.trans (HB7.out.mono HB6.out.size))
  have HC7a : Hid (Cut tb V stT w7) := (HB7.out.block tb HC6a.out.lt).trans HC6a.out
  have HSn := Lib.hid (same_calls w7 V stZ aD zeroD (HQ5.out.below HB57.out) (PkArg.of (zero_state w7) rfl) aD_P zeroD_P aD_len (by rw [zero29]; decide))
  rw [aD_ne] at HSn
  go_wp2_with (first | (refine wpList_load_g (by kernel_rfl) stT (.tmp 1) rfl tb 0 rfl V dd (cut_range HC7a.out) HDu.out HDr.out HInf.out ?_))
  refine HSn.out.mono ?_
  rintro r w8 ⟨rfl, hb8⟩
  have HB58 := Lib.hid (HB57.out.trans (hb8.mono HB57.out.size))
  clear hb8 HSn
  obtain ⟨p0, p1, p4, p5, p6, p7, p8, p13, p19, p21, k0, k1, k4, k5, k6, k7, k8, k13, k19, k21, hvs, _, _, _, _, _, E7, E8, _, _, _⟩ := stateA_inv (state_HA HS5.out)
  obtain ⟨b7, o7, rfl, h7⟩ := E7.2.2.resolve_left (by decide)
  obtain ⟨us7, hl7, hc7, _, hA7⟩ := h7 0 (by decide)
  obtain ⟨b8, o8, rfl, h8⟩ := E8.2.2.resolve_left (by intro h; cases h)
  obtain ⟨us, hul, hcu, _, hA⟩ := h8 0 (by decide)
  obtain ⟨q9, q10, q11, q12, q13, q16, q17, q18, m9, m10, m11, m12, m13, m16, m17, m18, hus, E9, _⟩ := frameA_inv hA
  obtain ⟨b9, o9, rfl, h9⟩ := E9.2.2.resolve_left (by decide)
  obtain ⟨us9, hl9, hc9, _, hA9⟩ := h9 0 (by decide)
  have lift : ∀ b o v, w5.cell? ⟨b, o, none⟩ = some v → w8.cell? ⟨b, o, none⟩ = some v := fun b o v h => (HB58.out.cell (p := ⟨b, o, none⟩) (World.block_lt_of_cell? w5 _ h)).trans h
  have x7 : w8.cell? ⟨t2, 7, none⟩ = some (.slice (some ⟨b7, o7, none⟩) 1 k7) := lift _ _ _ ((HC5.out.cell 7).trans (by rw [hvs]; rfl))
  have x8 : w8.cell? ⟨t2, 8, none⟩ = some (.slice (some ⟨b8, o8, none⟩) 1 k8) := lift _ _ _ ((HC5.out.cell 8).trans (by rw [hvs]; rfl))
  have y7 : w8.cell? ⟨b7, o7, none⟩ = some (.string ⟨#[97]⟩) := by
    subst hA7
    have h : w5.cell? ⟨b7, o7 + 0 * 1 + 0, none⟩ = some (.string ⟨#[97]⟩) := hc7 0 Nat.zero_lt_one
    exact lift _ _ _ h
  have y85 : w8.cell? ⟨b8, o8 + 5, none⟩ = some (.bool true) := by
    subst hus
    have h : w5.cell? ⟨b8, o8 + 0 * 19 + 5, none⟩ = some (.bool true) := hcu 5 (show 5 < 19 by decide)
    rw [Nat.zero_mul, Nat.add_zero] at h
    exact lift _ _ _ h
  have y89 : w8.cell? ⟨b8, o8 + 9, none⟩ = some (.slice (some ⟨b9, o9, none⟩) 1 m9) := by
    subst hus
    have h : w5.cell? ⟨b8, o8 + 0 * 19 + 9, none⟩ = some (.slice (some ⟨b9, o9, none⟩) 1 m9) := hcu 9 (show 9 < 19 by decide)
    rw [Nat.zero_mul, Nat.add_zero] at h
    exact lift _ _ _ h
  have y9 : w8.cell? ⟨b9, o9, none⟩ = some (.int .i64 (-3)) := by
    subst hA9
    have h : w5.cell? ⟨b9, o9 + 0 * 1 + 0, none⟩ = some (.int .i64 (-3)) := hc9 0 Nat.zero_lt_one
    exact lift _ _ _ h
  have hx7 : ∀ W, (Instr.indexAt 23 (.slice (some ⟨b7, o7, none⟩) 1 k7) (.int .i64 0)).run Try.prog W = .ok (.pointer (some ⟨b7, o7, none⟩)) W := fun W => by
    have := row_idx Try.underlying23 1 info_el_string b7 o7 1 k7 0 (by decide) W
    simpa using this
  have hx8 : ∀ W, (Instr.indexAt 32 (.slice (some ⟨b8, o8, none⟩) 1 k8) (.int .i64 0)).run Try.prog W = .ok (.pointer (some ⟨b8, o8, none⟩)) W := fun W => by
    have := row_idx Try.underlying32 19 info_el_frame b8 o8 1 k8 0 (by decide) W
    simpa using this
  have hx9 : ∀ W, (Instr.indexAt 67 (.slice (some ⟨b9, o9, none⟩) 1 m9) (.int .i64 0)).run Try.prog W = .ok (.pointer (some ⟨b9, o9, none⟩)) W := fun W => by
    have := row_idx Try.underlying67 1 info_el_int64 b9 o9 1 m9 0 (by decide) W
    simpa using this
  have HEnd : Hid (Below W.heap.size W w8) := HBW.out.trans (HB58.out.mono HBW.out.size)
  clear lift hA7 hA9 hus hcu hc7 hc9 hl7 hl9 hul hvs h7 h8 h9 E7 E8 E9
  go_wp2_with fail
  go_ret
  exact ⟨rfl, HEnd.out⟩
end Go.Proofs.Ytnmlnaoljkhjeaa
