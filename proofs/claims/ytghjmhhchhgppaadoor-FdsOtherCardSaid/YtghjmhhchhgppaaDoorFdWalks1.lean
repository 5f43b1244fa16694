/-
  Where a number stands in a row of pairs: the search. Conditions: the row rises, and is not too long.
-/
import Derived.Test.YtghjmhhchhgppaaDoorFdPlain
import Derived.Deep.Cut
set_option linter.unusedVariables false
set_option maxRecDepth 100000
namespace Go.Proofs.YtghjmhhchhgppaaDoor
open Go.RowKit Base

def cmpI (a fd : Int) : Int := if a < fd then -1 else if fd < a then 1 else 0
set_option maxHeartbeats 1000000 in
theorem fd_cmp_calls (w : World) (a b fd : Int) : Calls Tryd.prog 25 #[.agg #[.int .i64 a, .int .i64 b], .int .i64 fd] w fun e w' => e = .returned (.int .i64 (cmpI a fd)) ∧ Below w.heap.size w w' := by
  have hB := (Below.refl w.heap.size w).alloc (Nat.le_refl _) (.cells #[.int .i64 a, .int .i64 b] 44)
  have HB := Lib.hid hB
  clear hB
  by_cases h1 : a < fd
  · have hc : cmpI a fd = -1 := by unfold cmpI; rw [if_pos h1]
    have HC := Lib.hid hc
    clear hc
    have d1 : decide (a < fd) = true := decide_eq_true h1
    go_enter Tryd.func25, Tryd.ntmps25
    go_wp2_with fail
    go_ret
    rw [HC.out]
    exact ⟨rfl, HB.out⟩
  · have d1 : decide (a < fd) = false := decide_eq_false h1
    by_cases h2 : fd < a
    · have hc : cmpI a fd = 1 := by unfold cmpI; rw [if_neg h1, if_pos h2]
      have HC := Lib.hid hc
      clear hc
      have d2 : decide (fd < a) = true := decide_eq_true h2
      go_enter Tryd.func25, Tryd.ntmps25
      go_wp2_with fail
      go_ret
      rw [HC.out]
      exact ⟨rfl, HB.out⟩
    · have hc : cmpI a fd = 0 := by unfold cmpI; rw [if_neg h1, if_neg h2]
      have HC := Lib.hid hc
      clear hc
      have d2 : decide (fd < a) = false := decide_eq_false h2
      go_enter Tryd.func25, Tryd.ntmps25
      go_wp2_with fail
      go_ret
      rw [HC.out]
      exact ⟨rfl, HB.out⟩
theorem prs_at {w : World} {a : Option Addr} {n cap : Nat} {L : List Pr} (h : Prs w a n cap L) : ∃ b off, (∀ k (hk : k < L.length), w.cell? ⟨b, off + k * 2, none⟩ = some (.int .i64 L[k].1) ∧ w.cell? ⟨b, off + k * 2 + 1, none⟩ = some (.int .i64 L[k].2)) ∧
    ∀ (t : TypeId) (ht : Tryd.prog.underlying t = some (.slice 44)) (kd : IntKind) (k : Nat) (w' : World), k < n → (Instr.indexAt t (.slice a n cap) (.int kd (k : Int))).run Tryd.prog w' = .ok (.pointer (some ⟨b, off + k * 2, none⟩)) w' := by
  obtain ⟨i0, hi, _, hi2, _⟩ := info_parts info_pair
  obtain ⟨b, off, h1, h2⟩ := h.at (P := Tryd.prog)
  exact ⟨b, off, fun k hk => ⟨h1 k hk 0 _ rfl, h1 k hk 1 _ rfl⟩, fun t ht kd k w' hk => h2 t 44 i0 ht hi hi2 kd k w' hk⟩
def LoS (l : List Pr) (fd : Int) (i j : Nat) : Prop := i ≤ j ∧ j ≤ l.length ∧ (∀ m (h : m < l.length), m < i → l[m].1 < fd) ∧ (∀ m (h : m < l.length), j ≤ m → ¬ l[m].1 < fd)
theorem LoS.up {l : List Pr} {fd : Int} {i j m : Nat} (h : LoS l fd i j) (hr : Rises l) (h1 : i ≤ m) (h2 : m < j) (hm : m < l.length) (hc : l[m].1 < fd) : LoS l fd (m + 1) j := by
  refine ⟨by omega, h.2.1, fun q hq hlt => ?_, h.2.2.2⟩
  by_cases e : q = m
  · subst e; exact hc
  · have := rises_get hr (show q < m by omega) hm
    omega
theorem LoS.down {l : List Pr} {fd : Int} {i j m : Nat} (h : LoS l fd i j) (hr : Rises l) (h1 : i ≤ m) (h2 : m < j) (hm : m < l.length) (hc : ¬ l[m].1 < fd) : LoS l fd i m := by
  refine ⟨h1, by omega, h.2.2.1, fun q hq hle => ?_⟩
  by_cases e : q = m
  · subst e; exact hc
  · have := rises_get hr (show m < q by omega) hq
    omega
theorem LoS.done {l : List Pr} {fd : Int} {i : Nat} (h : LoS l fd i i) : Parts l fd i :=
  ⟨h.2.1, fun j hj => ⟨fun h1 => h.2.2.1 j hj h1, fun h1 => Decidable.byContradiction fun h2 => h.2.2.2 j hj (by omega) h1⟩⟩
set_option maxHeartbeats 4000000 in
theorem fd_search_calls (w : World) (a : Option Addr) (n c : Nat) (l : List Pr) (fd : Int) (h : Prs w a n c l) (hr : Rises l) (hl : l.length ≤ 1000000) :
    Calls Tryd.prog 24 #[.slice a n c, .int .i64 fd, .func (.func 25) #[] #[]] w fun e w' => e = .returned (.tuple #[.int .i64 (lowB l fd : Int), .bool (hasB l fd)]) ∧ Below w.heap.size w w' := by
  obtain rfl := h.1
  have H := Lib.hid h
  have HR := Lib.hid hr
  clear h hr
  go_enter Tryd.func24, Tryd.ntmps24
  go_wp2_with fail
  go_loopw [9, 10] (fun v9 v10 wr => ∃ i j : Nat, v9 = .int .i64 i ∧ v10 = .int .i64 j ∧ LoS l fd i j ∧ Below w.heap.size w wr) (fun v9 v10 _ => (intOf v10).toNat - (intOf v9).toNat)
  case atStart => exact ⟨0, l.length, rfl, rfl, ⟨Nat.zero_le _, Nat.le_refl _, fun m h h2 => absurd h2 (Nat.not_lt_zero _), fun m h h2 => by omega⟩, Below.refl _ _⟩
  case round =>
    obtain ⟨i, j, rfl, rfl, hs, hb⟩ := hrel
    have HS := Lib.hid hs
    have HB := Lib.hid hb
    obtain ⟨hij, hjl, _, _⟩ := hs
    clear hb
    obtain ⟨b, off, hcs, hix⟩ := prs_at (H.out.below (Ap.stable_cellsAt prC) HB.out)
    have HCs := Lib.hid hcs
    have HIx := Lib.hid hix
    clear hcs hix
    by_cases hlt : i < j
    · have u3 : decide (i < j) = true := decide_eq_true (by omega)
      have u1 : decide ((i : Int) < (j : Int)) = true := decide_eq_true (by omega)
      have u2 : (i : Int) < (j : Int) := by omega
      go_upto_region 5 with fail
      have hm : ((i : Int) + (j : Int)) / 2 = (((i + j) / 2 : Nat) : Int) := by omega
      rw [hm]
      obtain ⟨m, hm2⟩ : ∃ m, m = (i + j) / 2 := ⟨_, rfl⟩
      rw [← hm2]
      have him : i ≤ m := by omega
      have hmj : m < j := by omega
      clear hm hm2
      have hml : m < l.length := by omega
      have hx := fun W => HIx.out 26 Tryd.underlying26 .i64 m W hml
      obtain ⟨c0, c1⟩ := HCs.out m hml
      have HUp := Lib.hid fun hc => HS.out.up HR.out him hmj hml hc
      have HDn := Lib.hid fun hc => HS.out.down HR.out him hmj hml hc
      generalize l[m]'hml = p at *
      generalize off + m * 2 = q at *
      go_wp2_with fail
      refine (fd_cmp_calls _ _ _ _).mono ?_
      rintro e w2 ⟨rfl, hb2⟩
      have HB2 := Lib.hid (HB.out.trans (hb2.mono HB.out.size))
      clear hb2 c0 c1 hx
      by_cases hc : p.1 < fd
      · have hv : cmpI p.1 fd = -1 := by unfold cmpI; rw [if_pos hc]
        rw [hv]
        have HUp2 := Lib.hid (HUp.out hc)
        clear hv hc
        go_wp2_with fail
        go_roundw
        case rel => exact ⟨m + 1, j, by go_num, rfl, HUp2.out, HB2.out⟩
        case measure => simp [intOf]; omega
      · have hv : ∃ z : Int, cmpI p.1 fd = z ∧ 0 ≤ z := ⟨_, rfl, by unfold cmpI; rw [if_neg hc]; split <;> decide⟩
        obtain ⟨z, hz, hz0⟩ := hv
        rw [hz]
        have d1 : decide (z < 0) = false := decide_eq_false (by omega)
        have HDn2 := Lib.hid (HDn.out (by omega))
        clear hz hc
        go_wp2_with fail
        go_roundw
        case rel => exact ⟨i, m, rfl, rfl, HDn2.out, HB2.out⟩
        case measure => simp [intOf]; omega
    · obtain rfl : i = j := by omega
      have u3 : decide (i < i) = false := decide_eq_false (by omega)
      have u1 : decide ((i : Int) < (i : Int)) = false := decide_eq_false (by omega)
      have u2 : ¬ ((i : Int) < (i : Int)) := by omega
      have HP := Lib.hid HS.out.done
      have HLow : Hid (lowB l fd = i) := parts_unique (parts_low HR.out fd) HP.out
      by_cases hin : i < l.length
      · have y3 : decide (i < l.length) = true := decide_eq_true (by omega)
        have y1 : decide ((i : Int) < (l.length : Int)) = true := decide_eq_true (by omega)
        have y2 : (i : Int) < (l.length : Int) := by omega
        have hx := fun W => HIx.out 26 Tryd.underlying26 .i64 i W hin
        obtain ⟨c0, c1⟩ := HCs.out i hin
        have HHas : Hid (hasB l fd = decide (l[i].1 = fd)) := by
          show _ = _
          rw [Bool.eq_iff_iff, has_at HR.out HP.out, decide_eq_true_iff]
          exact ⟨fun ⟨_, h⟩ => h, fun h => ⟨hin, h⟩⟩
        generalize l[i]'hin = p at *
        generalize off + i * 2 = q at *
        go_wp2_with fail
        refine (fd_cmp_calls _ _ _ _).mono ?_
        rintro e w2 ⟨rfl, hb2⟩
        have HB2 := Lib.hid (HB.out.trans (hb2.mono HB.out.size))
        clear hb2 c0 c1 hx
        by_cases hc : p.1 = fd
        · have hv : cmpI p.1 fd = 0 := by unfold cmpI; rw [if_neg (by omega), if_neg (by omega)]
          rw [hv]
          have HH : Hid (hasB l fd = true) := by show _ = _; rw [HHas.out, decide_eq_true hc]
          clear hv hc HHas
          go_wp2_with fail
          go_ret2
          rw [HLow.out, HH.out]
          exact ⟨rfl, HB2.out⟩
        · have hv : ∃ z : Int, cmpI p.1 fd = z ∧ z ≠ 0 := ⟨_, rfl, by unfold cmpI; split <;> first | decide | (rw [if_pos (by omega)]; decide)⟩
          obtain ⟨z, hz, hz0⟩ := hv
          rw [hz]
          have d1 : decide (z = 0) = false := decide_eq_false hz0
          have d2 : (z == 0) = false := by simpa using hz0
          have HH : Hid (hasB l fd = false) := by show _ = _; rw [HHas.out, decide_eq_false hc]
          clear hz hc HHas
          go_wp2_with fail
          go_ret2
          rw [HLow.out, HH.out]
          exact ⟨rfl, HB2.out⟩
      · have hil : i = l.length := by omega
        have HH : Hid (hasB l fd = false) := by
          show _ = _
          rw [Bool.eq_false_iff]
          intro h
          obtain ⟨h1, _⟩ := (has_at HR.out HP.out).1 h
          omega
        clear hin
        subst hil
        have y3 : decide (l.length < l.length) = false := decide_eq_false (by omega)
        have y1 : decide ((l.length : Int) < (l.length : Int)) = false := decide_eq_false (by omega)
        have y2 : ¬ ((l.length : Int) < (l.length : Int)) := by omega
        go_wp2_with fail
        go_ret2
        rw [HLow.out, HH.out]
        exact ⟨rfl, HB.out⟩
end Go.Proofs.YtghjmhhchhgppaaDoor
