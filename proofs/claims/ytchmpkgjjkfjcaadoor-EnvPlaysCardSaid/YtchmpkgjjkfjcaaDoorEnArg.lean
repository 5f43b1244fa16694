/-
  The argument of some digits. Conditions: as each law says.
-/
import Derived.Test.YtchmpkgjjkfjcaaDoorEnLib
set_option linter.unusedVariables false
set_option maxRecDepth 100000
namespace Go.Proofs.YtchmpkgjjkfjcaaDoor
open Go.RowKit Base

def shN : Nm := [115, 104]
def numB (s : Nm) (v : Int) (k : Nat) : Prop := s.length ≤ 9 ∧ 49 ≤ (s.getD 0 0).toNat ∧ (s.getD 0 0).toNat ≤ 57 ∧ v ≤ (k : Int)
instance (s : Nm) (v : Int) (k : Nat) : Decidable (numB s v k) := inferInstanceAs (Decidable (_ ∧ _ ∧ _ ∧ _))
def argEnd (A : List Nm) (s : Nm) : Lib.NumEnd Int → Option Nm
  | .ok v => if numB s v A.length then A[(v - 1).toNat]? else none
  | _ => none
def argP (A : List Nm) (s : Nm) : Option Nm := if s = [48] then some shN else argEnd A s (Lib.atoiAll s)
theorem parse_ge : ∀ (l : List UInt8) (acc u : Nat), Lib.parseUint10 acc l = .ok u → acc ≤ u
  | [], acc, u, h => by
    simp only [Lib.parseUint10] at h
    injection h with h
    omega
  | c :: r, acc, u, h => by
    simp only [Lib.parseUint10] at h
    split at h
    · split at h
      · cases h
      · split at h
        · cases h
        · have := parse_ge r _ u h
          omega
    · cases h
theorem atoi_digit {c : UInt8} {r : Nm} {v : Int} (h : Lib.atoiAll (c :: r) = .ok v) (h1 : 49 ≤ c.toNat) (h2 : c.toNat ≤ 57) : ∃ u : Nat, v = (u : Int) ∧ Lib.parseUint10 (c.toNat - 48) r = .ok u := by
  unfold Lib.atoiAll at h
  simp only at h
  rw [if_neg (by omega)] at h
  have hp : Lib.parseMag (c :: r) = Lib.parseUint10 (c.toNat - 48) r := by
    unfold Lib.parseMag
    rw [if_neg (by simp)]
    simp only [Lib.parseUint10]
    rw [if_pos (by omega), if_neg (by omega), if_neg (by omega)]
    congr 1
    omega
  rw [hp] at h
  split at h
  · cases h
  · cases h
  · rename_i u hu
    split at h
    · cases h
    · split at h
      · cases h
      · injection h with h
        rw [if_neg (by omega)] at h
        exact ⟨u, h.symm, hu⟩
theorem atoi_pos {s : Nm} {v : Int} (h : Lib.atoiAll s = .ok v) (h1 : 49 ≤ (s.getD 0 0).toNat) (h2 : (s.getD 0 0).toNat ≤ 57) : ∃ k : Nat, v = (k : Int) + 1 := by
  cases s with
  | nil => cases h
  | cons c r =>
    have g1 : 49 ≤ c.toNat := h1
    obtain ⟨u, rfl, hu⟩ := atoi_digit h h1 h2
    have := parse_ge r _ u hu
    exact ⟨u - 1, by omega⟩
set_option maxHeartbeats 4000000 in
theorem en_argument_calls (w : World) (a : Option Addr) (n c : Nat) (st : Int) (fl : Nm) (ga : Option Addr) (gn gc : Nat) (A : List Nm) (s : Nm) (hA : Sts w ga gn gc A) (hs : s.length ≤ 281474976710656) (h0 : s ≠ []) (hL : Lw w) :
    Calls Tryd.prog 29 #[.agg #[.slice a n c, .slice ga gn gc, .int .i64 st, .string (str fl)], .string (str s)] w fun e w' => e = .returned (.tuple #[.string (str ((argP A s).getD [])), .bool (argP A s).isSome]) ∧ Below w.heap.size w w' := by
  obtain rfl := hA.1
  have hbB := (Below.refl w.heap.size w).alloc (Nat.le_refl _) (.cells #[.slice a n c, .slice ga A.length gc, .int .i64 st, .string (str fl)] 28)
  have hb0 := heap_alloc_new w (.cells #[.slice a n c, .slice ga A.length gc, .int .i64 st, .string (str fl)] 28)
  have hbs : (w.alloc (.cells #[.slice a n c, .slice ga A.length gc, .int .i64 st, .string (str fl)] 28)).heap.size = w.heap.size + 1 := World.size_alloc ..
  have HAt := Lib.hid fun W (h : Lw W) => en_atoi_calls W s hs h
  have HMax := Lib.hid (show A.length ≤ 9223372036854775807 by have h1 := hA.2.1; have h2 := hA.2.2.1; unfold maxLen at h2; omega)
  have HA := Lib.hid hA
  have HL := Lib.hid hL
  have H0 := Lib.hid h0
  have u84 := Tryd.underlying84
  clear hA hs h0 hL
  go_enter Tryd.func29, Tryd.ntmps29
  go_upto_region 1 with fail
  generalize w.alloc (.cells #[.slice a n c, .slice ga A.length gc, .int .i64 st, .string (str fl)] 28) = w1 at *
  have HB := Lib.hid hbB
  have HB0 := Lib.hid hb0
  have HBs := Lib.hid hbs
  clear hbB hb0 hbs
  go_wp2_with fail
  refine (HAt.out w1 (HL.out.below HB.out)).mono ?_
  rintro e w2 ⟨N, err, rfl, hEnd, hb2⟩
  have k0 := (hb2.block w.heap.size (by have := HBs.out; omega)).trans HB0.out
  have HB2 := Lib.hid (HB.out.trans (hb2.mono HB.out.size))
  have HE := Lib.hid hEnd
  obtain ⟨⟨c0, c1, c2, c3⟩, f0, f1, f2, f3⟩ := env4 k0
  clear k0 hb2 hEnd HBs HB0
  by_cases hz : s = [48]
  · have HR : Hid (argP A s = some shN) := if_pos hz
    have z1 : ((str s).toList == [48]) = true := by rw [str_toList, hz]; rfl
    clear hz HE H0 HA HAt
    go_wp2_with fail
    go_ret2
    rw [HR.out]
    exact ⟨rfl, HB2.out⟩
  · have HR : Hid (argP A s = argEnd A s (Lib.atoiAll s)) := if_neg hz
    have z1 : ((str s).toList == [48]) = false := by rw [str_toList]; simpa using hz
    clear hz
    rcases HE.out with ⟨hv, rfl⟩ | ⟨hv, t, p, rfl⟩
    · rw [hv] at HR
      have hlen : 0 < s.length := List.length_pos_iff.2 H0.out
      have hpos : 0 < (str s).size := hlen
      have hix := fun W => Sw.run_at (P := Tryd.prog) (w := W) Tryd.underlying9 s .i64 0 hlen
      simp only [show ((0 : Nat) : Int) = 0 from rfl] at hix
      have HPos := Lib.hid (fun h1 h2 => atoi_pos hv h1 h2)
      have hgd : s.getD 0 0 = s[0] := getD_lt hlen
      have HR3 : Hid (argP A s = if numB s N A.length then A[(N - 1).toNat]? else none) := HR.out
      have HNum : Hid (numB s N A.length ↔ (s.length ≤ 9 ∧ 49 ≤ s[0].toNat ∧ s[0].toNat ≤ 57 ∧ N ≤ (A.length : Int))) := by
        show _ ↔ _
        unfold numB
        rw [hgd]
      rw [hgd] at HPos
      clear hv HE HR hgd
      generalize s[0] = c0' at *
      have hsz1 : (str s).size = s.length := rfl
      by_cases h1 : s.length ≤ 9
      · have x1 : decide ((9 : Int) < (s.length : Int)) = false := decide_eq_false (by omega)
        have x1' : decide ((9 : Int) < ((str s).size : Int)) = false := decide_eq_false (by omega)
        by_cases h2 : 49 ≤ c0'.toNat
        · have x2 : decide ((c0'.toNat : Int) < 49) = false := decide_eq_false (by omega)
          by_cases h3 : c0'.toNat ≤ 57
          · have x3 : decide ((57 : Int) < (c0'.toNat : Int)) = false := decide_eq_false (by omega)
            by_cases h4 : N ≤ (A.length : Int)
            · have x4 : decide ((A.length : Int) < N) = false := decide_eq_false (by omega)
              obtain ⟨k, rfl⟩ := HPos.out h2 h3
              have hk : k < A.length := by omega
              have hk2 : (k : Int) ≤ 9223372036854775806 := by have := HMax.out; omega
              have HR4 : Hid (argP A s = some A[k]) := by
                show _ = _
                rw [HR3.out, if_pos (HNum.out.2 ⟨h1, h2, h3, h4⟩)]
                rw [show ((k : Int) + 1 - 1).toNat = k by omega]
                exact List.getElem?_eq_getElem hk
              obtain ⟨b, off, hcs, hix⟩ := sts_at (HA.out.below (Ap.stable_cellsAt stC) HB2.out)
              have hx := fun W => hix 26 Tryd.underlying26 .i64 k W hk
              have ec := hcs k hk
              clear hcs hix HR3 HNum HPos h1 h2 h3 h4
              generalize A[k]'hk = t at *
              generalize off + k = q at *
              go_wp2_with fail
              go_ret2
              rw [HR4.out]
              exact ⟨rfl, HB2.out⟩
            · have x4 : decide ((A.length : Int) < N) = true := decide_eq_true (by omega)
              have HR4 : Hid (argP A s = none) := by show _ = _; rw [HR3.out, if_neg (fun h => h4 (HNum.out.1 h).2.2.2)]
              clear HR3 HNum HPos h1 h2 h3 h4
              go_wp2_with fail
              go_ret2
              rw [HR4.out]
              exact ⟨rfl, HB2.out⟩
          · have x3 : decide ((57 : Int) < (c0'.toNat : Int)) = true := decide_eq_true (by omega)
            have HR4 : Hid (argP A s = none) := by show _ = _; rw [HR3.out, if_neg (fun h => h3 (HNum.out.1 h).2.2.1)]
            clear HR3 HNum HPos h1 h2 h3
            go_wp2_with fail
            go_ret2
            rw [HR4.out]
            exact ⟨rfl, HB2.out⟩
        · have x2 : decide ((c0'.toNat : Int) < 49) = true := decide_eq_true (by omega)
          have HR4 : Hid (argP A s = none) := by show _ = _; rw [HR3.out, if_neg (fun h => h2 (HNum.out.1 h).2.1)]
          clear HR3 HNum HPos h1 h2
          go_wp2_with fail
          go_ret2
          rw [HR4.out]
          exact ⟨rfl, HB2.out⟩
      · have x1 : decide ((9 : Int) < (s.length : Int)) = true := decide_eq_true (by omega)
        have x1' : decide ((9 : Int) < ((str s).size : Int)) = true := decide_eq_true (by omega)
        have HR4 : Hid (argP A s = none) := by show _ = _; rw [HR3.out, if_neg (fun h => h1 (HNum.out.1 h).1)]
        clear HR3 HNum HPos h1
        go_wp2_with fail
        go_ret2
        rw [HR4.out]
        exact ⟨rfl, HB2.out⟩
    · have HR2 : Hid (argP A s = none) := by
        show _ = _
        rw [HR.out]
        rcases hA : Lib.atoiAll s with v | _ | _
        · exact absurd hA (hv v)
        · rfl
        · rfl
      clear hv HE HR
      go_wp2_with fail
      go_ret2
      rw [HR2.out]
      exact ⟨rfl, HB2.out⟩
end Go.Proofs.YtchmpkgjjkfjcaaDoor
