/-
  Split: what the document says, and the statements' own row: of, two rows, a text of one sort, a row's text. Conditions: the texts are short.
-/
import Derived.Test.YtiemlgfcmldnoaaSpRefs1
set_option linter.unusedVariables false
set_option maxRecDepth 100000
namespace Go.Proofs.Ytiemlgfcmldnoaa
open Go.RowKit Base

theorem build_ref (w : World) (a b : ByteArray) : (Instr.build 29 #[(0, .string a), (1, .string b)]).run Try.prog w = .ok (.agg #[.string a, .string b]) w := by
  refine run_build w _ _ _ ?_
  kernel_rfl
theorem of_calls (w : World) (t m : ByteArray) : Calls Try.prog 11 #[.agg #[.string t, .string m]] w fun e w' => e = .returned (.agg #[.string t, .string m]) ∧ Below w.heap.size w w' := by
  obtain ⟨hA0, hbl, hsz⟩ := heap2 w (.cells #[.string t, .string m] 23) (.cells #[.string ⟨#[]⟩, .string ⟨#[]⟩] 29)
  have hA1 := heap_alloc_new (w.alloc (.cells #[.string t, .string m] 23)) (.cells #[.string ⟨#[]⟩, .string ⟨#[]⟩] 29)
  rw [World.size_alloc] at hA1
  have HA0 := Lib.hid hA0
  have Hbl := Lib.hid hbl
  have Hsz := Lib.hid hsz
  have HA1 := Lib.hid hA1
  clear hA0 hbl hsz hA1
  go_enter Try.func11, Try.ntmps11
  go_upto_region 1 with fail
  generalize (w.alloc (.cells #[.string t, .string m] 23)).alloc (.cells #[.string ⟨#[]⟩, .string ⟨#[]⟩] 29) = w1 at *
  obtain ⟨c0, c1, _, _⟩ := row_facts HA0.out
  obtain ⟨z0, z1, z2, z3⟩ := row_facts HA1.out
  go_wp2_with fail
  obtain ⟨y0, y1, _, _⟩ := row_facts (row_set2 HA1.out (.string t) (.string m))
  refine bodyPost_ret (v := .agg #[.string t, .string m]) (by simp [results, Try.results11, go_sem, y0, y1]) rfl ?_
  exact ⟨rfl, (Hbl.out.setCell (by simp) _).setCell (by simp) _⟩
set_option maxHeartbeats 1000000 in
theorem ref_bare_calls (w : World) (t m : List UInt8) (ht : t.length ≤ 100000) (hm : m.length ≤ 100000) : Calls Try.prog 17 #[.agg #[.string (str t), .string (str m)]] w fun e w' => e = .returned (.string (str (bareS (t.zip m)))) ∧ Below w.heap.size w w' := by
  have HB := Lib.hid ((Below.refl w.heap.size w).alloc (Nat.le_refl _) (.cells #[.string (str t), .string (str m)] 29))
  have HA := Lib.hid (heap_alloc_new w (.cells #[.string (str t), .string (str m)] 29))
  have HS := Lib.hid fun W => ref_size_calls W t m
  obtain ⟨r, hr⟩ : ∃ r, r = t.zip m := ⟨_, rfl⟩
  rw [← hr] at HS
  rw [← hr]
  have HR := Lib.hid hr
  have hrl : r.length ≤ 100000 := by rw [hr, List.length_zip]; omega
  clear hr
  go_enter Try.func17, Try.ntmps17
  go_wp2_with fail
  generalize w.alloc (.cells #[.string (str t), .string (str m)] 29) = w1 at *
  refine (HS w1).mono ?_
  rintro e w2 ⟨rfl, hb2⟩
  have HA2 := Lib.hid ((hb2.block _ (Array.getElem?_eq_some_iff.1 HA.out).1).trans HA.out)
  have HB2 := Lib.hid (HB.out.trans (hb2.mono HB.out.size))
  obtain ⟨c0, c1, _, _⟩ := row_facts HA2.out
  clear hb2 HA HB HS
  go_wp2_with fail
  go_loopw [3, 5] (fun v3 v5 wr => ∃ k : Nat, k ≤ r.length ∧ v5 = .int .i64 k ∧ v3 = .string (str (bareS (r.take k))) ∧ wr = w2) (fun _ v5 _ => r.length - (intOf v5).toNat)
  case atStart => exact ⟨0, Nat.zero_le _, rfl, rfl, rfl⟩
  case round =>
    obtain ⟨k, hk, rfl, rfl, rfl⟩ := hrel
    by_cases hlt : k < r.length
    · have hbt := bareS_take r k hlt
      have hkt : k < t.length := by have := hlt; rw [HR.out, List.length_zip] at this; omega
      have hkm : k < m.length := by have := hlt; rw [HR.out, List.length_zip] at this; omega
      have hrk : r[k] = (t[k], m[k]) := by have := HR.out; subst this; rw [List.getElem_zip]
      rw [hrk] at hbt
      have hsub : (t.take (k + 1)).drop k = [t[k]] := by rw [List.take_succ_eq_append_getElem hkt, List.drop_append_of_le_length (by rw [List.length_take]; omega), List.drop_of_length_le (by rw [List.length_take]; omega)]; rfl
      have hsl := fun W => Sw.run_sub_lh (P := Try.prog) (w := W) Try.underlying9 t .i64 .i64 k (k + 1) (by omega) (by omega)
      rw [hsub] at hsl
      rw [Int.natCast_add] at hsl
      have hsl2 : ∀ W, Sem.run Try.prog (Instr.sliceAt 9 (.string (str t)) (some (.int .i64 (k : Int))) (some (.int .i64 ((k : Int) + 1))) none) W = .ok (.string (str [t[k]])) W := hsl
      have hix := fun W => Sw.run_at (P := Try.prog) (w := W) Try.underlying9 m .i64 k hkm
      have hbl := bareS_len (r.take k)
      have htk : (r.take k).length ≤ 100000 := by rw [List.length_take]; omega
      simp only [] at hbt
      generalize t[k]'hkt = x at *
      generalize m[k]'hkm = y at *
      have HT := Lib.hid hbt
      have HRl := Lib.hid (show (bareS (r.take k)).length ≤ 100000 by omega)
      clear hbt hsub hsl hrk hbl htk
      generalize bareS (r.take k) = bs at *
      have u3 : decide (k < r.length) = true := decide_eq_true (by omega)
      have u1 : decide ((k : Int) < (r.length : Int)) = true := decide_eq_true (by omega)
      have u2 : (k : Int) < (r.length : Int) := by omega
      by_cases h101 : y = 101
      · have d1 : decide ((y.toNat : Int) = 101) = true := by subst h101; rfl
        have d2 : (y.toNat : Int) = 101 := by subst h101; rfl
        have HF : Hid (bareS (r.take (k + 1)) = bs) := by show _ = _; rw [HT.out, if_neg (fun h => h.1 h101), List.append_nil]
        clear h101
        go_wp2_with fail
        go_roundw
        case rel => exact ⟨k + 1, by omega, by go_num, by rw [HF.out], trivial⟩
        case measure => simp [intOf]; omega
      · have d1 : decide ((y.toNat : Int) = 101) = false := decide_eq_false (fun h => h101 (u8_eq (b := 101).1 h))
        have d2 : ¬ (y.toNat : Int) = 101 := fun h => h101 (u8_eq (b := 101).1 h)
        have d3 : ((y.toNat : Int) != 101) = true := by simpa using d2
        by_cases h98 : y = 98
        · have d5 : decide ((y.toNat : Int) = 98) = true := by subst h98; rfl
          have d6 : (y.toNat : Int) = 98 := by subst h98; rfl
          have HF : Hid (bareS (r.take (k + 1)) = bs) := by show _ = _; rw [HT.out, if_neg (fun h => h.2 h98), List.append_nil]
          clear h101 h98
          go_wp2_with fail
          go_roundw
          case rel => exact ⟨k + 1, by omega, by go_num, by rw [HF.out], trivial⟩
          case measure => simp [intOf]; omega
        · have d5 : decide ((y.toNat : Int) = 98) = false := decide_eq_false (fun h => h98 (u8_eq (b := 98).1 h))
          have d6 : ¬ (y.toNat : Int) = 98 := fun h => h98 (u8_eq (b := 98).1 h)
          have d7 : ((y.toNat : Int) != 98) = true := by simpa using d6
          have HF : Hid (bareS (r.take (k + 1)) = bs ++ [x]) := by show _ = _; rw [HT.out, if_pos ⟨h101, h98⟩]
          have hno : ¬ 9223372036854775807 < (str bs).size + (str [x]).size := by rw [str_size, str_size]; have := HRl.out; simp; omega
          clear h101 h98
          go_wp2_with fail
          go_roundw
          case rel => exact ⟨k + 1, by omega, by go_num, by rw [str_append, HF.out], trivial⟩
          case measure => simp [intOf]; omega
    · obtain rfl : k = r.length := by omega
      have u3 : decide (r.length < r.length) = false := decide_eq_false (by omega)
      have u1 : decide ((r.length : Int) < (r.length : Int)) = false := decide_eq_false (by omega)
      have u2 : ¬ ((r.length : Int) < (r.length : Int)) := by omega
      rw [List.take_length]
      go_wp2_with fail
      go_ret
      exact ⟨rfl, HB2.out⟩
/-- Two rows that the document lays one behind the other. -/
theorem zip_cut (t m : List UInt8) : t.take (t.zip m).length = textS (t.zip m) ∧ m.take (t.zip m).length = maskS (t.zip m) := by
  rw [zip_text, zip_mask, List.length_zip]
  exact ⟨rfl, rfl⟩
theorem rref_f0 (b o : Nat) (w : World) : (Instr.fieldAt 29 (.pointer (some ⟨b, o, none⟩)) 0).run Try.prog w = .ok (.pointer (some ⟨b, o, none⟩)) w := by rfl
theorem rref_f1 (b o : Nat) (w : World) : (Instr.fieldAt 29 (.pointer (some ⟨b, o, none⟩)) 1).run Try.prog w = .ok (.pointer (some ⟨b, o + 1, none⟩)) w := by rfl
theorem textS_append (a b : SRow) : textS (a ++ b) = textS a ++ textS b := by unfold textS; rw [List.map_append]
theorem maskS_append (a b : SRow) : maskS (a ++ b) = maskS a ++ maskS b := by unfold maskS; rw [List.map_append]
theorem heap3w (w : World) (o0 o1 o2 : Obj) : ∀ W, W = ((w.alloc o0).alloc o1).alloc o2 → W.heap[w.heap.size]? = some o0 ∧ W.heap[w.heap.size + 1]? = some o1 ∧ W.heap[w.heap.size + 1 + 1]? = some o2 ∧ W.heap.size = w.heap.size + 1 + 1 + 1 ∧ Below w.heap.size w W := by
  rintro W rfl
  obtain ⟨a, b, c⟩ := Ap.heap3 w o0 o1 o2
  exact ⟨a, b, c, by simp, (((Below.refl _ w).alloc (Nat.le_refl _) _).alloc (by simp) _).alloc (by simp; omega) _⟩
set_option maxHeartbeats 2000000 in
theorem ref_join_calls (w : World) (t m t2 m2 : List UInt8) (ht : t.length ≤ 100000) (hm : m.length ≤ 100000) (ht2 : t2.length ≤ 100000) (hm2 : m2.length ≤ 100000) :
    Calls Try.prog 13 #[.agg #[.string (str t), .string (str m)], .agg #[.string (str t2), .string (str m2)]] w fun e w' => e = .returned (rowV (t.zip m ++ t2.zip m2)) ∧ Below w.heap.size w w' := by
  obtain ⟨h1, h2, h3, hsz, hbl⟩ := heap3w w (.cells #[.string (str t), .string (str m)] 29) (.cells #[.string (str t2), .string (str m2)] 29) (.cells #[.string ⟨#[]⟩, .string ⟨#[]⟩] 29) _ rfl
  obtain ⟨hc1, hc2⟩ := zip_cut t m
  obtain ⟨hc3, hc4⟩ := zip_cut t2 m2
  have HS1 := Lib.hid fun W => ref_size_calls W t m
  have HS2 := Lib.hid fun W => ref_size_calls W t2 m2
  have l1 : (t.zip m).length ≤ t.length := by rw [List.length_zip]; omega
  have l2 : (t.zip m).length ≤ m.length := by rw [List.length_zip]; omega
  have l3 : (t2.zip m2).length ≤ t2.length := by rw [List.length_zip]; omega
  have l4 : (t2.zip m2).length ≤ m2.length := by rw [List.length_zip]; omega
  have HP : Hid (rowV (t.zip m ++ t2.zip m2) = .agg #[.string (str (t.take (t.zip m).length ++ t2.take (t2.zip m2).length)), .string (str (m.take (t.zip m).length ++ m2.take (t2.zip m2).length))]) := by
    show _ = _
    unfold rowV
    rw [textS_append, maskS_append, hc1, hc2, hc3, hc4]
  clear hc1 hc2 hc3 hc4
  generalize rowV (t.zip m ++ t2.zip m2) = R at *
  generalize (t.zip m).length = N at *
  generalize (t2.zip m2).length = M at *
  have H1 := Lib.hid h1
  have H2 := Lib.hid h2
  have H3 := Lib.hid h3
  have Hbl := Lib.hid hbl
  have Hl1 := Lib.hid l1
  have Hl2 := Lib.hid l2
  have Hl3 := Lib.hid l3
  have Hl4 := Lib.hid l4
  clear h1 h2 h3 hbl l1 l2 l3 l4
  go_enter Try.func13, Try.ntmps13
  go_upto_region 1 with fail
  generalize ((w.alloc (.cells #[.string (str t), .string (str m)] 29)).alloc (.cells #[.string (str t2), .string (str m2)] 29)).alloc (.cells #[.string ⟨#[]⟩, .string ⟨#[]⟩] 29) = wl at *
  obtain ⟨c0, c1, _, _⟩ := row_facts H1.out
  go_wp2_with fail
  refine (HS1 _).mono ?_
  rintro e w2 ⟨rfl, hb2⟩
  have G2 := Lib.hid ((hb2.block _ (Array.getElem?_eq_some_iff.1 H2.out).1).trans H2.out)
  obtain ⟨c0, c1, _, _⟩ := row_facts G2.out
  have HB2 := Lib.hid hb2
  clear hb2
  go_wp2_with fail
  refine (HS2 _).mono ?_
  rintro e w3 ⟨rfl, hb3⟩
  have HB3 := Lib.hid (HB2.out.trans (hb3.mono HB2.out.size))
  clear hb3 G2 HB2
  go_wp2_with fail
  have K1 := Lib.hid ((HB3.out.block _ (by omega)).trans H1.out)
  have K2 := Lib.hid ((HB3.out.block _ (by omega)).trans H2.out)
  have K3 := Lib.hid ((HB3.out.block _ (by omega)).trans H3.out)
  have A0 := Lib.hid (row_facts K1.out).1
  have A1 := Lib.hid (row_facts K1.out).2.1
  have B0 := Lib.hid (row_facts K2.out).1
  have B1 := Lib.hid (row_facts K2.out).2.1
  clear c0 c1
  refine Rg.wp_region_rgt 19 [] [Rg.Is (.pointer (some ⟨w.heap.size, 0, none⟩)), Rg.Is (.string (str t)), Rg.Is (.int .i64 (N : Int)), Rg.Is (.string (str (t.take N))), Rg.Is (.pointer (some ⟨w.heap.size + 1, 0, none⟩)), Rg.Is (.string (str t2)), Rg.Is (.int .i64 (M : Int)), Rg.Is (.string (str (t2.take M))), Rg.Is (.string (str (t.take N ++ t2.take M))), Rg.Is (.pointer (some ⟨w.heap.size, 1, none⟩)), Rg.Is (.string (str m)), Rg.Is (.int .i64 (N : Int)), Rg.Is (.string (str (m.take N))), Rg.Is (.pointer (some ⟨w.heap.size + 1, 1, none⟩)), Rg.Is (.string (str m2)), Rg.Is (.int .i64 (M : Int)), Rg.Is (.string (str (m2.take M))), Rg.Is (.string (str (m.take N ++ m2.take M))), Rg.Is (.agg #[.string (str (t.take N ++ t2.take M)), .string (str (m.take N ++ m2.take M))])] (by kernel_rfl) (by kernel_rfl) (of_decide_eq_true (by kernel_rfl)) (by kernel_rfl) (by kernel_rfl) ⟨Rg.st_is _, Rg.st_is _, Rg.st_is _, Rg.st_is _, Rg.st_is _, Rg.st_is _, Rg.st_is _, Rg.st_is _, Rg.st_is _, Rg.st_is _, Rg.st_is _, Rg.st_is _, Rg.st_is _, Rg.st_is _, Rg.st_is _, Rg.st_is _, Rg.st_is _, Rg.st_is _, Rg.st_is _, trivial⟩ ⟨rfl, rfl, rfl, rfl, rfl, rfl, rfl, rfl, rfl, rfl, rfl, rfl, rfl, rfl, rfl, rfl, rfl, rfl, rfl, trivial⟩ ⟨?_, ?_, ?_, ?_, ?_, ?_, ?_, ?_, ?_, ?_, ?_, ?_, ?_, ?_, ?_, ?_, ?_, ?_, ?_, trivial⟩ ?_
  · intro _ a wx hb hk
    have h2 : a.eval (.tmp 2) = .pointer (some ⟨w.heap.size, 0, none⟩) := Eq.mp (by kernel_rfl) (hk 2 (by decide))
    exact Rs.does_field _ _ h2 (rref_f0 w.heap.size 0 wx) ⟨Below.refl _ _, rfl⟩
  · intro _ a wx hb hk
    have h11 : a.eval (.tmp 11) = .pointer (some ⟨w.heap.size, 0, none⟩) := Eq.mp (by kernel_rfl) (hk 11 (by decide))
    exact Rg.does_load _ _ h11 (load_sp_str (cell_below hb (Nat.le_refl _) A0.out)) ⟨Below.refl _ _, rfl⟩
  · intro _ a wx hb hk
    have h5 : a.eval (.tmp 5) = .int .i64 (N : Int) := Eq.mp (by kernel_rfl) (hk 5 (by decide))
    exact Rg.does_move ⟨Below.refl _ _, h5⟩
  · intro _ a wx hb hk
    have h12 : a.eval (.tmp 12) = .string (str t) := Eq.mp (by kernel_rfl) (hk 12 (by decide))
    have h13 : a.eval (.tmp 13) = .int .i64 (N : Int) := Eq.mp (by kernel_rfl) (hk 13 (by decide))
    refine Rg.does_slice _ (by rw [h12, Option.map_none, Option.map_some, h13]; exact Sw.run_sub_h Try.underlying9 t .i64 _ Hl1.out) ⟨Below.refl _ _, rfl⟩
  · intro _ a wx hb hk
    have h3 : a.eval (.tmp 3) = .pointer (some ⟨w.heap.size + 1, 0, none⟩) := Eq.mp (by kernel_rfl) (hk 3 (by decide))
    exact Rs.does_field _ _ h3 (rref_f0 (w.heap.size + 1) 0 wx) ⟨Below.refl _ _, rfl⟩
  · intro _ a wx hb hk
    have h15 : a.eval (.tmp 15) = .pointer (some ⟨w.heap.size + 1, 0, none⟩) := Eq.mp (by kernel_rfl) (hk 15 (by decide))
    exact Rg.does_load _ _ h15 (load_sp_str (cell_below hb (Nat.le_refl _) B0.out)) ⟨Below.refl _ _, rfl⟩
  · intro _ a wx hb hk
    have h6 : a.eval (.tmp 6) = .int .i64 (M : Int) := Eq.mp (by kernel_rfl) (hk 6 (by decide))
    exact Rg.does_move ⟨Below.refl _ _, h6⟩
  · intro _ a wx hb hk
    have h16 : a.eval (.tmp 16) = .string (str t2) := Eq.mp (by kernel_rfl) (hk 16 (by decide))
    have h17 : a.eval (.tmp 17) = .int .i64 (M : Int) := Eq.mp (by kernel_rfl) (hk 17 (by decide))
    refine Rg.does_slice _ (by rw [h16, Option.map_none, Option.map_some, h17]; exact Sw.run_sub_h Try.underlying9 t2 .i64 _ Hl3.out) ⟨Below.refl _ _, rfl⟩
  · intro _ a wx hb hk
    have h14 : a.eval (.tmp 14) = .string (str (t.take N)) := Eq.mp (by kernel_rfl) (hk 14 (by decide))
    have h18 : a.eval (.tmp 18) = .string (str (t2.take M)) := Eq.mp (by kernel_rfl) (hk 18 (by decide))
    exact Sw.does_bin_str _ _ _ h14 h18 (Sw.run_cat (by simp; omega)) ⟨Below.refl _ _, rfl⟩
  · intro _ a wx hb hk
    have h2 : a.eval (.tmp 2) = .pointer (some ⟨w.heap.size, 0, none⟩) := Eq.mp (by kernel_rfl) (hk 2 (by decide))
    exact Rs.does_field _ _ h2 (rref_f1 w.heap.size 0 wx) ⟨Below.refl _ _, rfl⟩
  · intro _ a wx hb hk
    have h20 : a.eval (.tmp 20) = .pointer (some ⟨w.heap.size, 1, none⟩) := Eq.mp (by kernel_rfl) (hk 20 (by decide))
    exact Rg.does_load _ _ h20 (load_sp_str (cell_below hb (Nat.le_refl _) A1.out)) ⟨Below.refl _ _, rfl⟩
  · intro _ a wx hb hk
    have h5 : a.eval (.tmp 5) = .int .i64 (N : Int) := Eq.mp (by kernel_rfl) (hk 5 (by decide))
    exact Rg.does_move ⟨Below.refl _ _, h5⟩
  · intro _ a wx hb hk
    have h21 : a.eval (.tmp 21) = .string (str m) := Eq.mp (by kernel_rfl) (hk 21 (by decide))
    have h22 : a.eval (.tmp 22) = .int .i64 (N : Int) := Eq.mp (by kernel_rfl) (hk 22 (by decide))
    refine Rg.does_slice _ (by rw [h21, Option.map_none, Option.map_some, h22]; exact Sw.run_sub_h Try.underlying9 m .i64 _ Hl2.out) ⟨Below.refl _ _, rfl⟩
  · intro _ a wx hb hk
    have h3 : a.eval (.tmp 3) = .pointer (some ⟨w.heap.size + 1, 0, none⟩) := Eq.mp (by kernel_rfl) (hk 3 (by decide))
    exact Rs.does_field _ _ h3 (rref_f1 (w.heap.size + 1) 0 wx) ⟨Below.refl _ _, rfl⟩
  · intro _ a wx hb hk
    have h24 : a.eval (.tmp 24) = .pointer (some ⟨w.heap.size + 1, 1, none⟩) := Eq.mp (by kernel_rfl) (hk 24 (by decide))
    exact Rg.does_load _ _ h24 (load_sp_str (cell_below hb (Nat.le_refl _) B1.out)) ⟨Below.refl _ _, rfl⟩
  · intro _ a wx hb hk
    have h6 : a.eval (.tmp 6) = .int .i64 (M : Int) := Eq.mp (by kernel_rfl) (hk 6 (by decide))
    exact Rg.does_move ⟨Below.refl _ _, h6⟩
  · intro _ a wx hb hk
    have h25 : a.eval (.tmp 25) = .string (str m2) := Eq.mp (by kernel_rfl) (hk 25 (by decide))
    have h26 : a.eval (.tmp 26) = .int .i64 (M : Int) := Eq.mp (by kernel_rfl) (hk 26 (by decide))
    refine Rg.does_slice _ (by rw [h25, Option.map_none, Option.map_some, h26]; exact Sw.run_sub_h Try.underlying9 m2 .i64 _ Hl4.out) ⟨Below.refl _ _, rfl⟩
  · intro _ a wx hb hk
    have h23 : a.eval (.tmp 23) = .string (str (m.take N)) := Eq.mp (by kernel_rfl) (hk 23 (by decide))
    have h27 : a.eval (.tmp 27) = .string (str (m2.take M)) := Eq.mp (by kernel_rfl) (hk 27 (by decide))
    exact Sw.does_bin_str _ _ _ h23 h27 (Sw.run_cat (by simp; omega)) ⟨Below.refl _ _, rfl⟩
  · intro _ a wx hb hk
    have h19 : a.eval (.tmp 19) = .string (str (t.take N ++ t2.take M)) := Eq.mp (by kernel_rfl) (hk 19 (by decide))
    have h28 : a.eval (.tmp 28) = .string (str (m.take N ++ m2.take M)) := Eq.mp (by kernel_rfl) (hk 28 (by decide))
    exact Ap.does_buildS #[(0, .string (str (t.take N ++ t2.take M))), (1, .string (str (m.take N ++ m2.take M)))] _ (by simp [h19, h28]) (build_ref wx _ _) ⟨Below.refl _ _, rfl⟩
  intro vals wD hbD hL
  obtain ⟨g0, g1, g2, g3, g4, g5, g6, g7, g8, g9, g10, g11, g12, g13, g14, g15, g16, g17, g18, _⟩ := hL
  have g18' : vals 18 = .agg #[.string (str (t.take N ++ t2.take M)), .string (str (m.take N ++ m2.take M))] := g18
  have HBD := Lib.hid hbD
  have HR := Lib.hid ((hbD.block _ (Array.getElem?_eq_some_iff.1 K3.out).1).trans K3.out)
  clear g0 g1 g2 g3 g4 g5 g6 g7 g8 g9 g10 g11 g12 g13 g14 g15 g16 g17 g18 hbD
  simp only [Rg.putAll, List.take_succ_cons, List.take_zero, List.drop_succ_cons, List.drop_zero, List.setIfInBounds_toArray, List.set_cons_succ, List.set_cons_zero, g18']
  clear g18'
  obtain ⟨z0, z1, z2, z3⟩ := row_facts HR.out
  have hP := HP.out
  generalize str (t.take N ++ t2.take M) = X at *
  generalize str (m.take N ++ m2.take M) = Y at *
  have HP2 := Lib.hid hP
  clear hP
  go_wp2_with fail
  obtain ⟨y0, y1, _, _⟩ := row_facts (row_set2 HR.out (.string X) (.string Y))
  refine bodyPost_ret (v := .agg #[.string X, .string Y]) (by simp [results, Try.results13, go_sem, y0, y1]) rfl ?_
  refine ⟨by rw [HP2.out], ((Hbl.out.trans ((HB3.out.trans (HBD.out.mono HB3.out.size)).mono Hbl.out.size)).setCell (by simp; omega) _).setCell (by simp; omega) _⟩
end Go.Proofs.Ytiemlgfcmldnoaa
