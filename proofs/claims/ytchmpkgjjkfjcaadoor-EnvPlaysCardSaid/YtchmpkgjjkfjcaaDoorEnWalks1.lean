/-
  Where a variable stands in a row of variables: the search. Conditions: the row rises, and is not too long.
-/
import Derived.Test.YtchmpkgjjkfjcaaDoorEnName
import Derived.Deep.Cut
set_option linter.unusedVariables false
set_option maxRecDepth 100000
namespace Go.Proofs.YtchmpkgjjkfjcaaDoor
open Go.RowKit Base

def cmpI (a s : Nm) : Int := Lib.compareBytes a s
theorem cmp_three (a s : Nm) : cmpI a s = -1 ∨ cmpI a s = 0 ∨ cmpI a s = 1 := by
  unfold cmpI
  induction a generalizing s with
  | nil => cases s with
    | nil => exact .inr (.inl rfl)
    | cons y t => exact .inl rfl
  | cons x r ih =>
    cases s with
    | nil => exact .inr (.inr rfl)
    | cons y t =>
      unfold Lib.compareBytes
      by_cases h1 : x < y
      · rw [if_pos h1]; exact .inl rfl
      · by_cases h2 : y < x
        · rw [if_neg h1, if_pos h2]; exact .inr (.inr rfl)
        · rw [if_neg h1, if_neg h2]; exact ih t
theorem cmp_lt {a s : Nm} : cmpI a s < 0 ↔ ltB a s = true := lt_iff.symm
theorem cmp_eq {a s : Nm} : cmpI a s = 0 ↔ a = s := ⟨fun h => cmp_zero h, fun h => by rw [h]; exact cmp_self s⟩
set_option maxHeartbeats 1000000 in
theorem en_of_calls (w : World) (s : Nm) (p : Vr) : Calls Tryd.prog 40 #[.string (str s), .agg #[.string (str p.1), .string (str p.2)]] w fun e w' => e = .returned (.int .i64 (cmpI p.1 s)) ∧ Below w.heap.size w w' := by
  have hB := (Below.refl w.heap.size w).alloc (Nat.le_refl _) (.cells #[.string (str p.1), .string (str p.2)] 36)
  have HB := Lib.hid hB
  clear hB
  have HC : Hid (∃ z : Int, z = Lib.compareBytes s p.1 ∧ -z = cmpI p.1 s ∧ (z = -1 ∨ z = 0 ∨ z = 1)) := by
    refine ⟨_, rfl, ?_, cmp_three s p.1⟩
    show _ = Lib.compareBytes _ _
    rw [cmp_neg s p.1]
  obtain ⟨z, hz, hz1, hz2⟩ := HC.out
  have HZ := Lib.hid hz
  have HZ1 := Lib.hid hz1
  have hw : IntKind.i64.wrap (-z) = -z := by rcases hz2 with rfl | rfl | rfl <;> rfl
  clear hz hz1 hz2 HC
  go_enter Tryd.func40, Tryd.ntmps40
  go_wp2_with fail
  refine (Tryd.strings_Compare _ _ _).mono ?_
  rintro e w2 ⟨rfl, rfl⟩
  rw [show Lib.compareBytes (str s).data.toList (str p.1).data.toList = z from HZ.out.symm]
  go_wp2_with fail
  go_ret
  rw [← HZ1.out]
  exact ⟨by first | rfl | rw [hw], HB.out⟩
set_option maxHeartbeats 1000000 in
theorem en_cmp_calls (w : World) (s : Nm) (p : Vr) (b : Nat) (hc : w.cell? ⟨b, 0, none⟩ = some (.func (.func 40) #[] #[])) (hb : b < w.heap.size) : Calls Tryd.prog 42 #[.agg #[.string (str p.1), .string (str p.2)], .string (str s), .pointer (some ⟨b, 0, none⟩)] w fun e w' => e = .returned (.int .i64 (cmpI p.1 s)) ∧ Below w.heap.size w w' := by
  have hB := (Below.refl w.heap.size w).alloc (Nat.le_refl _) (.cells #[.string (str p.1), .string (str p.2)] 36)
  have HB := Lib.hid hB
  clear hB
  go_enter Tryd.func42, Tryd.ntmps42
  go_wp2_with fail
  refine (en_of_calls _ s p).mono ?_
  rintro e w2 ⟨rfl, hb2⟩
  have HB2 := Lib.hid (HB.out.trans (hb2.mono HB.out.size))
  clear hb2
  go_wp2_with fail
  go_ret
  exact ⟨rfl, HB2.out⟩
theorem vrs_at {w : World} {a : Option Addr} {n cap : Nat} {L : List Vr} (h : Vrs w a n cap L) : ∃ b off, (∀ k (hk : k < L.length), w.cell? ⟨b, off + k * 2, none⟩ = some (.string (str L[k].1)) ∧ w.cell? ⟨b, off + k * 2 + 1, none⟩ = some (.string (str L[k].2))) ∧
    ∀ (t : TypeId) (ht : Tryd.prog.underlying t = some (.slice 36)) (kd : IntKind) (k : Nat) (w' : World), k < n → (Instr.indexAt t (.slice a n cap) (.int kd (k : Int))).run Tryd.prog w' = .ok (.pointer (some ⟨b, off + k * 2, none⟩)) w' := by
  obtain ⟨i0, hi, _, hi2, _⟩ := info_parts info_var
  obtain ⟨b, off, h1, h2⟩ := h.at (P := Tryd.prog)
  exact ⟨b, off, fun k hk => ⟨h1 k hk 0 _ rfl, h1 k hk 1 _ rfl⟩, fun t ht kd k w' hk => h2 t 36 i0 ht hi hi2 kd k w' hk⟩
def LoS (l : List Vr) (s : Nm) (i j : Nat) : Prop := i ≤ j ∧ j ≤ l.length ∧ (∀ m (h : m < l.length), m < i → ltB l[m].1 s = true) ∧ (∀ m (h : m < l.length), j ≤ m → ¬ ltB l[m].1 s = true)
theorem LoS.up {l : List Vr} {s : Nm} {i j m : Nat} (h : LoS l s i j) (hr : Rises l) (h1 : i ≤ m) (h2 : m < j) (hm : m < l.length) (hc : ltB l[m].1 s = true) : LoS l s (m + 1) j := by
  refine ⟨by omega, h.2.1, fun q hq hlt => ?_, h.2.2.2⟩
  by_cases e : q = m
  · subst e; exact hc
  · exact lt_tr (rises_get hr (show q < m by omega) hm) hc
theorem LoS.down {l : List Vr} {s : Nm} {i j m : Nat} (h : LoS l s i j) (hr : Rises l) (h1 : i ≤ m) (h2 : m < j) (hm : m < l.length) (hc : ¬ ltB l[m].1 s = true) : LoS l s i m := by
  refine ⟨h1, by omega, h.2.2.1, fun q hq hle => ?_⟩
  by_cases e : q = m
  · subst e; exact hc
  · exact fun h => hc (lt_tr (rises_get hr (show m < q by omega) hq) h)
theorem LoS.done {l : List Vr} {s : Nm} {i : Nat} (h : LoS l s i i) : Parts l s i :=
  ⟨h.2.1, fun j hj => ⟨fun h1 => h.2.2.1 j hj h1, fun h1 => Decidable.byContradiction fun h2 => h.2.2.2 j hj (by omega) h1⟩⟩
set_option maxHeartbeats 4000000 in
theorem en_search_calls (w : World) (a : Option Addr) (n c : Nat) (l : List Vr) (s : Nm) (f : Nat) (h : Vrs w a n c l) (hf : w.cell? ⟨f, 0, none⟩ = some (.func (.func 40) #[] #[])) (hfb : f < w.heap.size) (hr : Rises l) (hl : l.length ≤ 1000000) :
    Calls Tryd.prog 41 #[.slice a n c, .string (str s), .func (.func 42) #[] #[.pointer (some ⟨f, 0, none⟩)]] w fun e w' => e = .returned (.tuple #[.int .i64 (lowB l s : Int), .bool (hasB l s)]) ∧ Below w.heap.size w w' := by
  obtain rfl := h.1
  have H := Lib.hid h
  have HR := Lib.hid hr
  have HF := Lib.hid hf
  have HFb := Lib.hid hfb
  clear h hr hf hfb
  go_enter Tryd.func41, Tryd.ntmps41
  go_wp2_with fail
  go_loopw [9, 10] (fun v9 v10 wr => ∃ i j : Nat, v9 = .int .i64 i ∧ v10 = .int .i64 j ∧ LoS l s i j ∧ Below w.heap.size w wr) (fun v9 v10 _ => (intOf v10).toNat - (intOf v9).toNat)
  case atStart => exact ⟨0, l.length, rfl, rfl, ⟨Nat.zero_le _, Nat.le_refl _, fun m h h2 => absurd h2 (Nat.not_lt_zero _), fun m h h2 => by omega⟩, Below.refl _ _⟩
  case round =>
    obtain ⟨i, j, rfl, rfl, hs, hb⟩ := hrel
    have HS := Lib.hid hs
    have HB := Lib.hid hb
    obtain ⟨hij, hjl, _, _⟩ := hs
    clear hb
    obtain ⟨b, off, hcs, hix⟩ := vrs_at (H.out.below (Ap.stable_cellsAt vrC) HB.out)
    have HCs := Lib.hid hcs
    have HIx := Lib.hid hix
    clear hcs hix
    by_cases hlt : i < j
    · have u3 : decide (i < j) = true := decide_eq_true (by omega)
      have u1 : decide ((i : Int) < (j : Int)) = true := decide_eq_true (by omega)
      have u2 : (i : Int) < (j : Int) := by omega
      go_upto_region 5 with fail
      have hm : ((i : Int) + (j : Int)) / 2 = (((i + j) / 2 : Nat) : Int) := by omega
      rw [hm]
      obtain ⟨m, hm2⟩ : ∃ m, m = (i + j) / 2 := ⟨_, rfl⟩
      rw [← hm2]
      have him : i ≤ m := by omega
      have hmj : m < j := by omega
      clear hm hm2
      have hml : m < l.length := by omega
      have hx := fun W => HIx.out 25 Tryd.underlying25 .i64 m W hml
      obtain ⟨c0, c1⟩ := HCs.out m hml
      have HUp := Lib.hid fun hc => HS.out.up HR.out him hmj hml hc
      have HDn := Lib.hid fun hc => HS.out.down HR.out him hmj hml hc
      generalize l[m]'hml = p at *
      generalize off + m * 2 = q at *
      go_wp2_with fail
      refine (en_cmp_calls _ s p f (by rw [HB.out.cell HFb.out]; exact HF.out) (Nat.lt_of_lt_of_le HFb.out HB.out.size)).mono ?_
      rintro e w2 ⟨rfl, hb2⟩
      have HB2 := Lib.hid (HB.out.trans (hb2.mono HB.out.size))
      clear hb2 c0 c1 hx
      by_cases hc : ltB p.1 s = true
      · have hv : cmpI p.1 s = -1 := by have h1 := cmp_lt.2 hc; rcases cmp_three p.1 s with h | h | h <;> omega
        rw [hv]
        have HUp2 := Lib.hid (HUp.out hc)
        clear hv hc
        go_wp2_with fail
        go_roundw
        case rel => exact ⟨m + 1, j, by go_num, rfl, HUp2.out, HB2.out⟩
        case measure => simp [intOf]; omega
      · have hv : ∃ z : Int, cmpI p.1 s = z ∧ 0 ≤ z := ⟨_, rfl, by have h1 : ¬ cmpI p.1 s < 0 := fun h => hc (cmp_lt.1 h); omega⟩
        obtain ⟨z, hz, hz0⟩ := hv
        rw [hz]
        have d1 : decide (z < 0) = false := decide_eq_false (by omega)
        have HDn2 := Lib.hid (HDn.out hc)
        clear hz hc
        go_wp2_with fail
        go_roundw
        case rel => exact ⟨i, m, rfl, rfl, HDn2.out, HB2.out⟩
        case measure => simp [intOf]; omega
    · obtain rfl : i = j := by omega
      have u3 : decide (i < i) = false := decide_eq_false (by omega)
      have u1 : decide ((i : Int) < (i : Int)) = false := decide_eq_false (by omega)
      have u2 : ¬ ((i : Int) < (i : Int)) := by omega
      have HP := Lib.hid HS.out.done
      have HLow : Hid (lowB l s = i) := parts_unique (parts_low HR.out s) HP.out
      by_cases hin : i < l.length
      · have y3 : decide (i < l.length) = true := decide_eq_true (by omega)
        have y1 : decide ((i : Int) < (l.length : Int)) = true := decide_eq_true (by omega)
        have y2 : (i : Int) < (l.length : Int) := by omega
        have hx := fun W => HIx.out 25 Tryd.underlying25 .i64 i W hin
        obtain ⟨c0, c1⟩ := HCs.out i hin
        have HHas : Hid (hasB l s = decide (l[i].1 = s)) := by
          show _ = _
          rw [Bool.eq_iff_iff, has_at HR.out HP.out, decide_eq_true_iff]
          exact ⟨fun ⟨_, h⟩ => h, fun h => ⟨hin, h⟩⟩
        generalize l[i]'hin = p at *
        generalize off + i * 2 = q at *
        go_wp2_with fail
        refine (en_cmp_calls _ s p f (by rw [HB.out.cell HFb.out]; exact HF.out) (Nat.lt_of_lt_of_le HFb.out HB.out.size)).mono ?_
        rintro e w2 ⟨rfl, hb2⟩
        have HB2 := Lib.hid (HB.out.trans (hb2.mono HB.out.size))
        clear hb2 c0 c1 hx
        by_cases hc : p.1 = s
        · have hv : cmpI p.1 s = 0 := cmp_eq.2 hc
          rw [hv]
          have HH : Hid (hasB l s = true) := by show _ = _; rw [HHas.out, decide_eq_true hc]
          clear hv hc HHas
          go_wp2_with fail
          go_ret2
          rw [HLow.out, HH.out]
          exact ⟨rfl, HB2.out⟩
        · have hv : ∃ z : Int, cmpI p.1 s = z ∧ z ≠ 0 := ⟨_, rfl, fun h => hc (cmp_eq.1 h)⟩
          obtain ⟨z, hz, hz0⟩ := hv
          rw [hz]
          have d1 : decide (z = 0) = false := decide_eq_false hz0
          have d2 : (z == 0) = false := by simpa using hz0
          have HH : Hid (hasB l s = false) := by show _ = _; rw [HHas.out, decide_eq_false hc]
          clear hz hc HHas
          go_wp2_with fail
          go_ret2
          rw [HLow.out, HH.out]
          exact ⟨rfl, HB2.out⟩
      · have hil : i = l.length := by omega
        have HH : Hid (hasB l s = false) := by
          show _ = _
          rw [Bool.eq_false_iff]
          intro h
          obtain ⟨h1, _⟩ := (has_at HR.out HP.out).1 h
          omega
        clear hin
        subst hil
        have y3 : decide (l.length < l.length) = false := decide_eq_false (by omega)
        have y1 : decide ((l.length : Int) < (l.length : Int)) = false := decide_eq_false (by omega)
        have y2 : ¬ ((l.length : Int) < (l.length : Int)) := by omega
        go_wp2_with fail
        go_ret2
        rw [HLow.out, HH.out]
        exact ⟨rfl, HB.out⟩
end Go.Proofs.YtchmpkgjjkfjcaaDoor
