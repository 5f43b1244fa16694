/-
  The document's number as a text; its table as a text. Conditions: the numbers fit; the rows are not too long.
-/
import Derived.Test.YtghjmhhchhgppaaDoorFdRefs2
set_option linter.unusedVariables false
set_option maxRecDepth 100000
namespace Go.Proofs.YtghjmhhchhgppaaDoor
open Go.RowKit Base

def dig (u : Nat) : UInt8 := UInt8.ofNat (48 + u)
theorem dec_small {u : Nat} (h : u < 10) : Lib.decDigits u = [dig u] := by rw [Lib.decDigits, dif_pos h]; rfl
theorem dec_more {u : Nat} (h : ¬ u < 10) : Lib.decDigits u = Lib.decDigits (u / 10) ++ [dig (u % 10)] := by rw [Lib.decDigits, dif_neg h]; rfl
theorem bytes_oneD (w : World) (n : Int) (d : Nat) (h : n = ((48 + d : Nat) : Int)) (hd : d < 10) (e : TypeId) : Bytes (w.alloc (.cells #[.int .u8 n] e)) (some ⟨w.heap.size, 0, none⟩) 1 1 [dig d] := by
  refine bytes_one w n (dig d) ?_ e
  unfold dig
  rw [h, UInt8.toNat_ofNat_of_lt' (by simpa using (show 48 + d < 256 by omega))]
set_option maxHeartbeats 2000000 in
/-- One digit. -/
theorem ref_number_one (w : World) (u : Nat) (hu : u < 10) : Calls Tryd.prog 16 #[.int .i64 (u : Int)] w fun e w' => e = .returned (.string (str (Lib.itoa (u : Int)))) ∧ Below w.heap.size w w' := by
  have HE : Hid (Lib.itoa (u : Int) = [dig u]) := by show _ = _; unfold Lib.itoa; rw [if_neg (by omega), Int.toNat_natCast, dec_small hu]
  have d1 : decide ((u : Int) < 0) = false := decide_eq_false (by omega)
  have d2 : decide ((10 : Int) ≤ (u : Int)) = false := decide_eq_false (by omega)
  have h0 : (0 : Int) ≤ (u : Int) := by omega
  have h9 : (u : Int) ≤ 9 := by omega
  have hs := str_bytes (bytes_oneD w (48 + (u : Int)) u (by omega) hu 5)
  have HB := Lib.hid ((Below.refl w.heap.size w).alloc (Nat.le_refl _) (.cells #[.int .u8 (48 + (u : Int))] 5))
  go_enter Tryd.func16, Tryd.ntmps16
  go_wp2_with fail
  go_ret
  rw [HE.out]
  exact ⟨rfl, HB.out⟩
theorem run_quo10 {P : Program} {w : World} {t : TypeId} (u : Nat) (h : u ≤ 9223372036854775807) : (binOp .quo t (.int .i64 (u : Int)) (.int .i64 10)).run P w = .ok (.int .i64 ((u / 10 : Nat) : Int)) w := by
  have h2 : IntKind.i64.wrap ((u : Int) / 10) = (u : Int) / 10 := by rw [IntKind.wrap_i64]; omega
  go_simp
theorem run_rem10 {P : Program} {w : World} {t : TypeId} (u : Nat) (h : u ≤ 9223372036854775807) : (binOp .rem t (.int .i64 (u : Int)) (.int .i64 10)).run P w = .ok (.int .i64 ((u % 10 : Nat) : Int)) w := by
  have h2 : ((u : Int)).tmod 10 = (u : Int) % 10 := Int.tmod_eq_emod_of_nonneg (by omega)
  go_simp
theorem run_conv8 (w : World) (d : Nat) (h : d < 10) : (convert 2 5 (.int .i64 (48 + (d : Int)))).run Tryd.prog w = .ok (.int .u8 (48 + (d : Int))) w := by
  have h2 : IntKind.u8.wrap (48 + (d : Int)) = 48 + (d : Int) := by simp [IntKind.wrap, IntKind.bits, IntKind.signed]; omega
  go_simp
theorem itoa_min : Lib.itoa (-9223372036854775808) = [45, 57, 50, 50, 51, 51, 55, 50, 48, 51, 54, 56, 53, 52, 55, 55, 53, 56, 48, 56] := by
  unfold Lib.itoa
  simp [Lib.decDigits]
theorem itoa_nat (u : Nat) : Lib.itoa (u : Int) = Lib.decDigits u := by unfold Lib.itoa; rw [if_neg (by omega), Int.toNat_natCast]
theorem dec_len19 {u : Nat} (h : u ≤ 9223372036854775807) : (Lib.decDigits u).length ≤ 19 := dec_len 19 u (by omega) (by decide)
set_option maxHeartbeats 4000000 in
theorem ref_number_nat : ∀ (u : Nat), u ≤ 9223372036854775807 → ∀ w : World, Calls Tryd.prog 16 #[.int .i64 (u : Int)] w fun e w' => e = .returned (.string (str (Lib.itoa (u : Int)))) ∧ Below w.heap.size w w' := by
  intro u
  induction u using Nat.strongRecOn with
  | ind u ih =>
    intro hu w
    by_cases hs : u < 10
    · exact ref_number_one w u hs
    have HIH := Lib.hid fun W => ih (u / 10) (by omega) (by omega) W
    have HL := Lib.hid (dec_len19 (u := u / 10) (by omega))
    have HE : Hid (Lib.itoa (u : Int) = Lib.itoa ((u / 10 : Nat) : Int) ++ [dig (u % 10)]) := by show _ = _; rw [itoa_nat, itoa_nat, dec_more hs]
    rw [← itoa_nat] at HL
    have d1 : decide ((u : Int) < 0) = false := decide_eq_false (by omega)
    have d2 : decide ((10 : Int) ≤ (u : Int)) = true := decide_eq_true (by omega)
    have h0 : (0 : Int) ≤ (u : Int) := by omega
    have hm : u % 10 < 10 := Nat.mod_lt _ (by decide)
    have HU := Lib.hid hu
    have HQ := Lib.hid fun W => run_quo10 (P := Tryd.prog) (w := W) (t := 2) u hu
    have HR := Lib.hid fun W => run_rem10 (P := Tryd.prog) (w := W) (t := 2) u hu
    clear ih hs
    generalize u / 10 = u2 at HIH HL HE HQ
    generalize u % 10 = d at HE hm HR
    have HM := Lib.hid hm
    go_enter Tryd.func16, Tryd.ntmps16
    go_wp2_with fail
    refine Rg.wp_region_rgl [] [Rg.Is (.int .i64 (u : Int)), Rg.Is (.int .i64 (u2 : Int)), Rg.Is (.string (str (Lib.itoa (u2 : Int)))), Rg.Is (.int .i64 (u : Int)), Rg.Is (.int .i64 (d : Int)), Rg.Is (.int .i64 (48 + (d : Int))), Rg.Is (.int .u8 (48 + (d : Int))), (fun v x => ∃ ad, v = .slice ad 1 1 ∧ Bytes x ad 1 1 [dig d]), Rg.Is (.string (str [dig d])), Rg.Is (.string (str (Lib.itoa (u2 : Int) ++ [dig d]))), Rg.Is (.string (str (Lib.itoa (u2 : Int) ++ [dig d])))] (by kernel_rfl) (by kernel_rfl) (by kernel_rfl) ⟨Rg.st_is _, Rg.st_is _, Rg.st_is _, Rg.st_is _, Rg.st_is _, Rg.st_is _, Rg.st_is _, fun v w w' h hb => h.elim fun ad h => ⟨ad, h.1, h.2.below stable_byteAt hb⟩, Rg.st_is _, Rg.st_is _, Rg.st_is _, trivial⟩ ⟨rfl, rfl, rfl, rfl, rfl, rfl, rfl, rfl, rfl, rfl, rfl, trivial⟩ ⟨?_, ?_, ?_, ?_, ?_, ?_, ?_, ?_, ?_, ?_, ?_, trivial⟩ ?_
    · intro _ a wx hb hk
      have h0 : a.eval (.tmp 0) = .int .i64 (u : Int) := Eq.mp (by kernel_rfl) (hk 0 (by decide))
      exact Rg.does_move ⟨Below.refl _ _, h0⟩
    · intro _ a wx hb hk
      have h13 : a.eval (.tmp 13) = .int .i64 (u : Int) := Eq.mp (by kernel_rfl) (hk 13 (by decide))
      exact Rg.does_bin _ _ _ _ h13 rfl (HQ.out wx) ⟨Below.refl _ _, rfl⟩
    · intro _ a wx hb hk
      have h14 : a.eval (.tmp 14) = .int .i64 (u2 : Int) := Eq.mp (by kernel_rfl) (hk 14 (by decide))
      refine Rg.does_func #[.int .i64 (u2 : Int)] Tryd.func16 (by kernel_rfl) (by kernel_rfl) (by simp [h14]) (HIH.out wx) ?_
      rintro e w' ⟨rfl, hb'⟩
      exact ⟨_, rfl, hb', rfl⟩
    · intro _ a wx hb hk
      have h0 : a.eval (.tmp 0) = .int .i64 (u : Int) := Eq.mp (by kernel_rfl) (hk 0 (by decide))
      exact Rg.does_move ⟨Below.refl _ _, h0⟩
    · intro _ a wx hb hk
      have h16 : a.eval (.tmp 16) = .int .i64 (u : Int) := Eq.mp (by kernel_rfl) (hk 16 (by decide))
      exact Rg.does_bin _ _ _ _ h16 rfl (HR.out wx) ⟨Below.refl _ _, rfl⟩
    · intro _ a wx hb hk
      have h17 : a.eval (.tmp 17) = .int .i64 (d : Int) := Eq.mp (by kernel_rfl) (hk 17 (by decide))
      exact Rg.does_bin _ _ _ _ rfl h17 (Sw.run_add (by have := HM.out; omega) (by have := HM.out; omega)) ⟨Below.refl _ _, rfl⟩
    · intro _ a wx hb hk
      have h18 : a.eval (.tmp 18) = .int .i64 (48 + (d : Int)) := Eq.mp (by kernel_rfl) (hk 18 (by decide))
      exact Rg.does_convert _ _ h18 (run_conv8 wx d HM.out) ⟨Below.refl _ _, rfl⟩
    · intro _ a wx hb hk
      have h19 : a.eval (.tmp 19) = .int .u8 (48 + (d : Int)) := Eq.mp (by kernel_rfl) (hk 19 (by decide))
      exact Rg.does_build (w' := wx.alloc (.cells #[.int .u8 (48 + (d : Int))] 5)) #[(0, .int .u8 (48 + (d : Int)))] (.slice (some ⟨wx.heap.size, 0, none⟩) 1 1) (by simp [h19]) (by simp [go_sem]) ⟨(Below.refl _ _).alloc (Nat.le_refl _) _, _, rfl, bytes_oneD wx (48 + (d : Int)) d (by omega) HM.out 5⟩
    · intro _ a wx hb hk
      have h20 : (fun v x => ∃ ad, v = .slice ad 1 1 ∧ Bytes x ad 1 1 [dig d]) (a.eval (.tmp 20)) wx := Eq.mp (by kernel_rfl) (hk 20 (by decide))
      obtain ⟨ad, h20, hby⟩ := h20
      exact Rg.does_convert _ _ h20 (str_bytes hby) ⟨Below.refl _ _, rfl⟩
    · intro _ a wx hb hk
      have h15 : a.eval (.tmp 15) = .string (str (Lib.itoa (u2 : Int))) := Eq.mp (by kernel_rfl) (hk 15 (by decide))
      have h21 : a.eval (.tmp 21) = .string (str [dig d]) := Eq.mp (by kernel_rfl) (hk 21 (by decide))
      exact Sw.does_bin_str _ _ _ h15 h21 (Sw.run_cat (by have := HL.out; simp; omega)) ⟨Below.refl _ _, rfl⟩
    · intro _ a wx hb hk
      have h22 : a.eval (.tmp 22) = .string (str (Lib.itoa (u2 : Int) ++ [dig d])) := Eq.mp (by kernel_rfl) (hk 22 (by decide))
      exact Rg.does_assign ⟨Below.refl _ _, h22⟩
    intro vals wD hbD hL
    obtain ⟨g0, g1, g2, g3, g4, g5, g6, g7, g8, g9, g10, _⟩ := hL
    have g10' : vals 10 = .string (str (Lib.itoa (u2 : Int) ++ [dig d])) := g10
    have HBD := Lib.hid hbD
    clear g0 g1 g2 g3 g4 g5 g6 g7 g8 g9 g10 hbD
    simp only [Rg.putAll, List.setIfInBounds_toArray, List.set_cons_succ, List.set_cons_zero, g10']
    clear g10'
    go_wp2_with fail
    go_ret
    rw [HE.out]
    exact ⟨rfl, HBD.out⟩
set_option maxHeartbeats 2000000 in
theorem ref_number_calls (w : World) (n : Int) (h : I64n n) : Calls Tryd.prog 16 #[.int .i64 n] w fun e w' => e = .returned (.string (str (Lib.itoa n))) ∧ Below w.heap.size w w' := by
  by_cases h0 : 0 ≤ n
  · obtain ⟨u, rfl⟩ : ∃ u : Nat, n = (u : Int) := ⟨n.toNat, by omega⟩
    exact ref_number_nat u (by have := h.2; omega) w
  have d1 : decide (n < 0) = true := decide_eq_true (by omega)
  have d1' : n < 0 := by omega
  by_cases hmin : n = -9223372036854775808
  · subst hmin
    have HE := Lib.hid itoa_min
    clear h h0 d1'
    go_enter Tryd.func16, Tryd.ntmps16
    go_wp2_with fail
    go_ret
    rw [HE.out]
    exact ⟨rfl, Below.refl _ _⟩
  · have hu : n.natAbs ≤ 9223372036854775807 := by have := h.1; omega
    have HN := Lib.hid (ref_number_nat n.natAbs hu w)
    have hneg : -n = ((n.natAbs : Nat) : Int) := by omega
    have HE : Hid (Lib.itoa n = [45] ++ Lib.itoa ((n.natAbs : Nat) : Int)) := by show _ = _; rw [itoa_nat]; unfold Lib.itoa; rw [if_pos d1']; rfl
    have HL := Lib.hid (dec_len19 hu)
    rw [← itoa_nat] at HL
    rw [← hneg] at HN HE HL
    have d2 : decide (n = -9223372036854775808) = false := decide_eq_false hmin
    have d3 : (n == -9223372036854775808) = false := by simpa using hmin
    have hlo : -9223372036854775808 < n := by have := h.1; omega
    have hw : IntKind.i64.wrap (-n) = -n := by rw [IntKind.wrap_i64]; omega
    have hov : ¬ 9223372036854775807 < (⟨#[45]⟩ : ByteArray).size + (str (Lib.itoa (-n))).size := by rw [str_size]; have := HL.out; show ¬ _ < 1 + _; omega
    have hap : (⟨#[45]⟩ : ByteArray) ++ str (Lib.itoa (-n)) = str ([45] ++ Lib.itoa (-n)) := by rw [show (⟨#[45]⟩ : ByteArray) = str [45] from rfl, str_append]
    have HNeg := Lib.hid hneg
    clear h h0 hmin hu hneg
    go_enter Tryd.func16, Tryd.ntmps16
    go_wp2_with fail
    refine HN.out.mono ?_
    rintro e w2 ⟨rfl, hb2⟩
    have HB2 := Lib.hid hb2
    clear hb2 HN
    go_wp2_with fail
    go_ret
    rw [HE.out]
    exact ⟨rfl, HB2.out⟩
end Go.Proofs.YtghjmhhchhgppaaDoor
