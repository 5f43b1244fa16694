/-
  Store: what StoreBounds' places are, as plain lists. Conditions: as each law says.
-/
import Derived.Test.YtmhofdoifgfjfaaSoPlain
set_option linter.unusedVariables false
namespace Go.Proofs.Ytmhofdoifgfjfaa

/-- The places behind so many steps. -/
def rB (ev mo : Int) : Nat → List Int
  | 0 => []
  | i + 1 => keepB ev mo (rB ev mo i) (i : Int)
structure Bnd (ev mo i : Int) (pl : List Int) : Prop where
  up : Up pl
  hd : pl[0]? = some 0
  all : ∀ x ∈ pl, 0 ≤ x ∧ x ≤ i ∧ x % ev = 0
  one : mo = 1 → pl = [0]
  lst : mo ≠ 1 → pl[pl.length - 1]? = some (i - i % ev)
  le : (pl.length : Int) ≤ mo
theorem mod_step {ev i : Int} (he : 1 ≤ ev) (hi : 0 ≤ i) (h : (i + 1) % ev ≠ 0) : (i + 1) % ev = i % ev + 1 := by
  have h1 := Int.emod_nonneg i (by omega : ev ≠ 0)
  have h2 := Int.emod_lt_of_pos i (by omega : 0 < ev)
  have h3 : i + 1 = i % ev + 1 + ev * (i / ev) := by have := Int.emod_add_mul_ediv i ev; omega
  have h4 : (i + 1) % ev = (i % ev + 1) % ev := by
    conv => lhs; rw [h3]
    exact Int.add_mul_emod_self_left _ _ _
  by_cases h5 : i % ev + 1 < ev
  · rw [h4, Int.emod_eq_of_lt (by omega) h5]
  · have : i % ev + 1 = ev := by omega
    rw [h4, this, Int.emod_self] at h
    exact absurd rfl h
theorem ins_end {pl : List Int} {p : Int} (h : ∀ x ∈ pl, x < p) : ins pl p = pl ++ [p] := by
  unfold ins
  rw [List.filter_eq_self.2 (fun x hx => by simpa using h x hx), List.filter_eq_nil_iff.2 (fun x hx => by have := h x hx; simp; omega)]
theorem bnd_zero {ev mo : Int} (he : 1 ≤ ev) (hm : 1 ≤ mo) : Bnd ev mo 0 (keepB ev mo [] 0) := by
  have e : keepB ev mo [] 0 = [0] := by
    unfold keepB
    rw [if_neg (by unfold away; simp)]
    unfold trim
    rw [if_pos (by simp [ins]; omega)]
    rfl
  rw [e]
  refine ⟨by simp [Up], rfl, fun x hx => ?_, fun _ => rfl, fun _ => by simp, by simpa using hm⟩
  obtain rfl : x = 0 := by simpa using hx
  simp
theorem bnd_step {ev mo i : Int} {pl : List Int} (he : 1 ≤ ev) (hm : 1 ≤ mo) (hi : 0 ≤ i) (h : Bnd ev mo i pl) : Bnd ev mo (i + 1) (keepB ev mo pl (i + 1)) := by
  have hlen : 0 < pl.length := (List.getElem?_eq_some_iff.1 h.hd).1
  by_cases hr : (i + 1) % ev = 0
  case neg =>
    have e : keepB ev mo pl (i + 1) = pl := by unfold keepB; rw [if_pos (.inl (.inr hr))]
    rw [e]
    refine ⟨h.up, h.hd, fun x hx => by have := h.all x hx; omega, h.one, fun hm1 => ?_, h.le⟩
    rw [h.lst hm1, mod_step he hi hr]
    congr 1
    omega
  have hlt : ∀ x ∈ pl, x < i + 1 := fun x hx => by have := h.all x hx; omega
  have hn : i + 1 ∉ pl := fun hx => by have := hlt _ hx; omega
  have e : keepB ev mo pl (i + 1) = trim mo (pl ++ [i + 1]) := by
    unfold keepB
    rw [if_neg (fun hh => hh.elim (fun hh => hh.elim (by omega) (fun h => h hr)) hn), ins_end hlt]
  have hup : Up (pl ++ [i + 1]) := by rw [← ins_end hlt]; exact ins_up h.up _
  have hal : ∀ x ∈ pl ++ [i + 1], 0 ≤ x ∧ x ≤ i + 1 ∧ x % ev = 0 := fun x hx => by
    rcases List.mem_append.1 hx with hx | hx
    · have := h.all x hx; omega
    · obtain rfl : x = i + 1 := by simpa using hx
      exact ⟨by omega, by omega, hr⟩
  rw [e]
  unfold trim
  by_cases hle : ((pl ++ [i + 1]).length : Int) ≤ mo
  · rw [if_pos hle]
    rw [List.length_append, List.length_singleton] at hle
    refine ⟨hup, by rw [List.getElem?_append_left hlen]; exact h.hd, hal, fun h1 => by omega, fun _ => ?_, by rw [List.length_append, List.length_singleton]; exact hle⟩
    rw [List.length_append, List.length_singleton, Nat.add_sub_cancel, List.getElem?_append_right (Nat.le_refl _), Nat.sub_self, hr]
    simp
  · rw [if_neg hle]
    rw [List.length_append, List.length_singleton] at hle
    have hl := h.le
    have hql : (pl ++ [i + 1]).length = pl.length + 1 := by rw [List.length_append, List.length_singleton]
    have hb := bestTo_ge (pl ++ [i + 1]) (lastOf mo (pl ++ [i + 1]) - 1)
    obtain ⟨b, hbe⟩ : ∃ b, bestTo (pl ++ [i + 1]) (lastOf mo (pl ++ [i + 1]) - 1) = b := ⟨_, rfl⟩
    rw [hbe] at hb ⊢
    have hbl : b < pl.length + 1 ∧ (mo ≠ 1 → b + 1 < pl.length + 1) := by
      unfold lastOf at hb
      split at hb
      · rename_i h1; rw [hql] at hb; exact ⟨by omega, fun h => absurd h1 h⟩
      · rename_i h1; rw [hql] at hb; exact ⟨by omega, fun _ => by omega⟩
    have hel : ((pl ++ [i + 1]).eraseIdx b).length = pl.length := by rw [List.length_eraseIdx, if_pos (by rw [hql]; exact hbl.1), hql]; omega
    refine ⟨hup.sublist (List.eraseIdx_sublist _ _), ?_, fun x hx => hal x ((List.eraseIdx_sublist _ _).mem hx), fun h1 => ?_, fun h1 => ?_, by rw [hel]; exact hl⟩
    · rw [List.getElem?_eraseIdx, if_pos (by omega), List.getElem?_append_left hlen]
      exact h.hd
    · have hp := h.one h1
      subst hp
      have hb1 : b = 1 := by simp at hbl; omega
      subst hb1
      rfl
    · have hb2 := hbl.2 h1
      rw [hel, List.getElem?_eraseIdx, if_neg (by omega), show pl.length - 1 + 1 = pl.length by omega, List.getElem?_append_right (Nat.le_refl _), Nat.sub_self, hr]
      simp
theorem bnd_run {ev mo : Int} (he : 1 ≤ ev) (hm : 1 ≤ mo) : ∀ i : Nat, Bnd ev mo (i : Int) (rB ev mo (i + 1))
  | 0 => bnd_zero he hm
  | i + 1 => by
    have := bnd_step he hm (by omega) (bnd_run he hm i)
    exact this
/-- What is near is the last. -/
theorem bnd_near {ev mo i : Int} {pl : List Int} (h : Bnd ev mo i pl) : uptoN pl i = pl.length ∧ 0 < pl.length ∧ pl[pl.length - 1]? = some (nearB pl i) := by
  have hlen : 0 < pl.length := (List.getElem?_eq_some_iff.1 h.hd).1
  have e : uptoN pl i = pl.length := by
    unfold uptoN
    rw [List.countP_eq_length]
    intro x hx
    have := h.all x hx
    simp; omega
  refine ⟨e, hlen, ?_⟩
  unfold nearB
  rw [e, if_neg (by omega), List.getD_eq_getElem?_getD, List.getElem?_eq_getElem (by omega)]
  rfl
end Go.Proofs.Ytmhofdoifgfjfaa
