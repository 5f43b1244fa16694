/-
  State: the reference: a keep. Conditions: as each contract says.
-/
import Derived.Test.YtnmlnaoljkhjeaaStRef2
import Derived.Deep.MidRow
set_option linter.unusedVariables false
set_option maxRecDepth 100000
namespace Go.Proofs.Ytnmlnaoljkhjeaa
open Go.RowKit Base

theorem keepA_inv {W : World} {vs : List Value} {a : KeepD} (h : keepA W vs a) : ∃ (us : List Value) (p4 p5 p6 : Option Addr) (k4 k5 k6 : Nat), vs = us ++ [.slice p4 a.2.1.length k4, .slice p5 a.2.2.1.length k5, .slice p6 a.2.2.2.length k6] ∧ us.length = 4 ∧ envA W us a.1 ∧
    RowE 3 (flatH fnV) W p4 k4 a.2.1 ∧ RowE 2 (flatH trapV) W p5 k5 a.2.2.1 ∧ RowE 2 (flatH prV) W p6 k6 a.2.2.2 := by
  obtain ⟨us, _, rfl, hl, he, ⟨_, _, rfl, _, ⟨p4, k4, rfl, m4, n4, e4⟩, ⟨_, _, rfl, _, ⟨p5, k5, rfl, m5, n5, e5⟩, ⟨p6, k6, rfl, m6, n6, e6⟩⟩⟩⟩ := h
  exact ⟨us, p4, p5, p6, k4, k5, k6, rfl, hl, he, ⟨m4, n4, e4⟩, ⟨m5, n5, e5⟩, ⟨m6, n6, e6⟩⟩
abbrev rKT : TypeId := 55
theorem und_rE : (Try.prog.underlying rET).map TypeDesc.isRow = some true := by kernel_rfl
theorem info_rE : (Try.prog.info? rET).map (fun i => i.size) = some 4 := by kernel_rfl
theorem load_cut {w : World} {b o : Nat} {t ty : TypeId} {cs us : List Value} (hc : Cut b cs t w) (hcs : ∀ j v, us[j]? = some v → cs[o + j]? = some v) (hu : (Try.prog.underlying ty).map TypeDesc.isRow = some true) (hi : (Try.prog.info? ty).map (fun i => i.size) = some us.length) : (Instr.loadAt ty (.pointer (some ⟨b, o, none⟩))).run Try.prog w = .ok (.agg us.toArray) w := by
  obtain ⟨d, h1, h2⟩ := Option.map_eq_some_iff.1 hu
  exact run_loadAt_mid w b o ty us d (fun j v hv => by rw [hc.cell]; exact hcs j v hv) h1 h2 hi
theorem pre_left {us vs : List Value} (j : Nat) (v : Value) (h : us[j]? = some v) : (us ++ vs)[0 + j]? = some v := by
  rw [Nat.zero_add, List.getElem?_append_left (List.getElem?_eq_some_iff.1 h).1]
  exact h
set_option maxHeartbeats 4000000 in
theorem ref_keep_calls (W : World) (vs : List Value) (kd : KeepD) (h : keepA W vs kd) (hq : KeepQ kd) (hl : (keepC.enc kd).length ≤ 100000000) :
    Calls Try.prog 19 #[.agg vs.toArray] W fun r w' => r = .returned (.string (str (keepC.enc kd))) ∧ Below W.heap.size W w' := by
  obtain ⟨us, p4, p5, p6, k4, k5, k6, hvs, hul, hA, e4, e5, e6⟩ := keepA_inv h
  obtain ⟨w1, hw1, hc, hb1⟩ : ∃ w1, W.alloc (.cells vs.toArray rKT) = w1 ∧ Cut W.heap.size vs rKT w1 ∧ Below W.heap.size W w1 := ⟨_, rfl, heap_alloc_new W _, (Below.refl W.heap.size W).alloc (Nat.le_refl _) _⟩
  have hl1 : (envC.enc kd.1 ++ ((intB (kd.2.1.length : Int) ++ encs fnC kd.2.1) ++ ((intB (kd.2.2.1.length : Int) ++ encs trapC kd.2.2.1) ++ (intB (kd.2.2.2.length : Int) ++ encs prC kd.2.2.2)))).length ≤ 100000000 := hl
  simp only [List.length_append] at hl1
  have hn4 := row_len_le (c := fnC) (pairC_pos txtC_pos) kd.2.1
  have hn5 := row_len_le (c := trapC) (pairC_pos numC_pos) kd.2.2.1
  have hn6 := row_len_le (c := prC) (pairC_pos numC_pos) kd.2.2.2
  simp only [List.length_append] at hn4 hn5 hn6
  have HL : Hid ((envC.enc kd.1).length + ((intB (kd.2.1.length : Int)).length + (encs fnC kd.2.1).length + ((intB (kd.2.2.1.length : Int)).length + (encs trapC kd.2.2.1).length + ((intB (kd.2.2.2.length : Int)).length + (encs prC kd.2.2.2).length))) ≤ 100000000) := hl1
  have HN4 : Hid (kd.2.1.length ≤ 100000000) := by show _ ≤ _; omega
  have HN5 : Hid (kd.2.2.1.length ≤ 100000000) := by show _ ≤ _; omega
  have HN6 : Hid (kd.2.2.2.length ≤ 100000000) := by show _ ≤ _; omega
  have HW := Lib.hid hw1
  have HC := Lib.hid hc
  have HB1 := Lib.hid hb1
  have HUl := Lib.hid hul
  have HVs : Hid (∀ j v, us[j]? = some v → vs[0 + j]? = some v) := by rw [hvs]; exact fun j v hv => pre_left j v hv
  have HV4 : Hid (vs[4]? = some (.slice p4 kd.2.1.length k4)) := by show _ = _; rw [hvs, List.getElem?_append_right (by omega), hul]; rfl
  have HV5 : Hid (vs[5]? = some (.slice p5 kd.2.2.1.length k5)) := by show _ = _; rw [hvs, List.getElem?_append_right (by omega), hul]; rfl
  have HV6 : Hid (vs[6]? = some (.slice p6 kd.2.2.2.length k6)) := by show _ = _; rw [hvs, List.getElem?_append_right (by omega), hul]; rfl
  have HEnv : Hid (envA w1 us kd.1) := envA_below hb1 hA
  have HE4 := Lib.hid (e4.below (by decide) hb1)
  have HE5 := Lib.hid (e5.below (by decide) hb1)
  have HE6 := Lib.hid (e6.below (by decide) hb1)
  have HQ := Lib.hid hq
  have HInf : Hid ((Try.prog.info? rET).map (fun i => i.size) = some us.length) := by show _ = _; rw [hul]; exact info_rE
  clear h hq hl hl1 hw1 hc hb1 e4 e5 e6 hA hn4 hn5 hn6 hvs hul
  go_enter Try.func19, Try.ntmps19
  go_upto_region 1 with fail
  rw [HW.out]
  obtain ⟨eb, heb⟩ : ∃ eb, W.heap.size = eb := ⟨_, rfl⟩
  rw [heb] at HC ⊢
  clear heb
  refine Rg.wp_region_rgl [] [Rg.Is (.pointer (some ⟨eb, 0, none⟩)), Rg.Is (.agg us.toArray), Rg.Is (.string (str (envC.enc kd.1))), Rg.Is (.pointer (some ⟨eb, 4, none⟩)), Rg.Is (.slice p4 kd.2.1.length k4), Rg.Is (.int .i64 (kd.2.1.length : Int)), Rg.Is (.string (str (intB (kd.2.1.length : Int)))), Rg.Is (.string (str (envC.enc kd.1 ++ intB (kd.2.1.length : Int)))), Rg.Is (.string (str (envC.enc kd.1 ++ intB (kd.2.1.length : Int))))] (by kernel_rfl) (by kernel_rfl) (by kernel_rfl) ⟨Rg.st_is _, Rg.st_is _, Rg.st_is _, Rg.st_is _, Rg.st_is _, Rg.st_is _, Rg.st_is _, Rg.st_is _, Rg.st_is _, trivial⟩ ⟨rfl, rfl, rfl, rfl, rfl, rfl, rfl, rfl, rfl, trivial⟩ ⟨?_, ?_, ?_, ?_, ?_, ?_, ?_, ?_, ?_, trivial⟩ ?_
  · intro _ a wx hb hk
    have h1 : a.eval (.tmp 1) = .pointer (some ⟨eb, 0, none⟩) := Eq.mp (by kernel_rfl) (hk 1 (by decide))
    exact Rs.does_field _ _ h1 (show (Instr.fieldAt 55 (.pointer (some ⟨eb, 0, none⟩)) 0).run Try.prog wx = .ok (.pointer (some ⟨eb, 0, none⟩)) wx from rfl) ⟨Below.refl _ _, rfl⟩
  · intro _ a wx hb hk
    have h7 : a.eval (.tmp 7) = .pointer (some ⟨eb, 0, none⟩) := Eq.mp (by kernel_rfl) (hk 7 (by decide))
    exact Rg.does_load _ _ h7 (load_cut (cut_below HC.out hb) HVs.out und_rE HInf.out) ⟨Below.refl _ _, rfl⟩
  · intro _ a wx hb hk
    have h8 : a.eval (.tmp 8) = .agg us.toArray := Eq.mp (by kernel_rfl) (hk 8 (by decide))
    refine Rg.does_func #[.agg us.toArray] Try.func42 (by kernel_rfl) (by kernel_rfl) (by simp [h8]) (ref_around_calls wx us kd.1 (envA_below hb HEnv.out) HQ.out.1 (by have := HL.out; omega)) ?_
    rintro e w' ⟨rfl, hb'⟩
    exact ⟨_, rfl, hb', rfl⟩
  · intro _ a wx hb hk
    have h1 : a.eval (.tmp 1) = .pointer (some ⟨eb, 0, none⟩) := Eq.mp (by kernel_rfl) (hk 1 (by decide))
    exact Rs.does_field _ _ h1 (show (Instr.fieldAt 55 (.pointer (some ⟨eb, 0, none⟩)) 1).run Try.prog wx = .ok (.pointer (some ⟨eb, 4, none⟩)) wx from rfl) ⟨Below.refl _ _, rfl⟩
  · intro _ a wx hb hk
    have h10 : a.eval (.tmp 10) = .pointer (some ⟨eb, 4, none⟩) := Eq.mp (by kernel_rfl) (hk 10 (by decide))
    exact Rg.does_load _ _ h10 (Ap.load_plainP (by simp [isAgg]) (cell_below hb (Nat.le_refl _) ((HC.out.cell 4).trans HV4.out))) ⟨Below.refl _ _, rfl⟩
  · intro _ a wx hb hk
    have h11 : a.eval (.tmp 11) = .slice p4 kd.2.1.length k4 := Eq.mp (by kernel_rfl) (hk 11 (by decide))
    exact Rg.does_len _ _ _ Try.underlying51 h11 ⟨Below.refl _ _, rfl⟩
  · intro _ a wx hb hk
    have h12 : a.eval (.tmp 12) = .int .i64 (kd.2.1.length : Int) := Eq.mp (by kernel_rfl) (hk 12 (by decide))
    refine Rg.does_func #[.int .i64 (kd.2.1.length : Int)] Try.func21 (by kernel_rfl) (by kernel_rfl) (by simp [h12]) (ref_n_calls wx (kd.2.1.length : Int) ⟨by have := HN4.out; omega, by have := HN4.out; omega⟩) ?_
    rintro e w' ⟨rfl, hb'⟩
    exact ⟨_, rfl, hb', rfl⟩
  · intro _ a wx hb hk
    have h9 : a.eval (.tmp 9) = .string (str (envC.enc kd.1)) := Eq.mp (by kernel_rfl) (hk 9 (by decide))
    have h13 : a.eval (.tmp 13) = .string (str (intB (kd.2.1.length : Int))) := Eq.mp (by kernel_rfl) (hk 13 (by decide))
    exact Sw.does_bin_str (str (envC.enc kd.1)) (str (intB (kd.2.1.length : Int))) _ h9 h13 (Sw.run_cat (by have h9 := HL.out; (try simp only [List.length_append]); omega)) ⟨Below.refl _ _, rfl⟩
  · intro _ a wx hb hk
    have h14 : a.eval (.tmp 14) = .string (str (envC.enc kd.1 ++ intB (kd.2.1.length : Int))) := Eq.mp (by kernel_rfl) (hk 14 (by decide))
    exact Rg.does_assign ⟨Below.refl _ _, h14⟩
  intro vals wD hbD hL
  obtain ⟨g0, g1, g2, g3, g4, g5, g6, g7, g8, _⟩ := hL
  have g' : vals 8 = .string (str (envC.enc kd.1 ++ intB (kd.2.1.length : Int))) := g8
  have HBD := Lib.hid hbD
  clear g0 g1 g2 g3 g4 g5 g6 g7 g8 hbD
  simp only [Rg.putAll, List.setIfInBounds_toArray, List.set_cons_succ, List.set_cons_zero, g']
  clear g'
  obtain ⟨pre1, hp1⟩ : ∃ x, envC.enc kd.1 ++ intB (kd.2.1.length : Int) = x := ⟨_, rfl⟩
  have HP1 := Lib.hid hp1
  have HL1 : Hid ((pre1 ++ encs fnC kd.2.1).length ≤ 100000000) := by show _ ≤ _; rw [← hp1]; simp only [List.length_append]; have := HL.out; omega
  rw [hp1]
  clear hp1
  go_wp2_with fail
  go_loopw [3, 4] (fun va vi wr => ∃ k : Nat, k ≤ (kd.2.1).length ∧ vi = .int .i64 k ∧ va = .string (str (pre1 ++ encs fnC ((kd.2.1).take k))) ∧ Below w1.heap.size w1 wr) (fun _ vi _ => (kd.2.1).length - (intOf vi).toNat)
  case atStart => exact ⟨0, Nat.zero_le _, rfl, by rw [List.take_zero, show encs fnC [] = [] from rfl, List.append_nil], HBD.out⟩
  case round =>
    obtain ⟨k, hk, rfl, rfl, hb⟩ := hrel
    have HB := Lib.hid hb
    clear hb
    have hcs : wr.cell? ⟨eb, 4, none⟩ = some (.slice p4 (kd.2.1).length k4) := (HB.out.cell (p := ⟨eb, 4, none⟩) (HC.out).lt).trans (((HC.out).cell 4).trans HV4.out)
    by_cases hlt : k < (kd.2.1).length
    · obtain ⟨b, o, hpe, hbl, hcu⟩ := (HE4.out).at (by decide) hlt
      subst hpe
      have HKs := Lib.hid hcs
      have HX := Lib.hid (fun W => row_idx Try.underlying51 3 (by kernel_rfl) b o (kd.2.1).length k4 k hlt W)
      have HF0 : Hid (wr.cell? ⟨b, o + k * 3, none⟩ = some (.string (str (kd.2.1)[k].1))) := (HB.out.cell (p := ⟨b, o + k * 3, none⟩) hbl).trans (hcu 0 (show 0 < 3 by decide))
      have HF1 : Hid (wr.cell? ⟨b, o + k * 3 + 1, none⟩ = some (.int .i64 (kd.2.1)[k].2.1)) := (HB.out.cell (p := ⟨b, o + k * 3 + 1, none⟩) hbl).trans (hcu 1 (show 1 < 3 by decide))
      have HF2 : Hid (wr.cell? ⟨b, o + k * 3 + 2, none⟩ = some (.int .i64 (kd.2.1)[k].2.2)) := (HB.out.cell (p := ⟨b, o + k * 3 + 2, none⟩) hbl).trans (hcu 2 (show 2 < 3 by decide))
      have HT := Lib.hid (encs_take_succ fnC hlt)
      have hle := encs_take fnC (kd.2.1) (k + 1)
      rw [HT.out, List.length_append] at hle
      have hL := HL1.out
      rw [List.length_append] at hL
      have HEn : Hid ((fnC).enc (kd.2.1)[k] = txtB (kd.2.1)[k].1 ++ (intB (kd.2.1)[k].2.1 ++ (intB (kd.2.1)[k].2.2))) := rfl
      rw [HEn.out] at hle
      have HQk := Lib.hid (HQ.out.2.1 _ (List.getElem_mem hlt))
      have HT2 : Hid (encs fnC ((kd.2.1).take (k + 1)) = encs fnC ((kd.2.1).take k) ++ (txtB (kd.2.1)[k].1 ++ (intB (kd.2.1)[k].2.1 ++ (intB (kd.2.1)[k].2.2)))) := by show _ = _; rw [HT.out, HEn.out]
      clear hcu hcs
      generalize (kd.2.1)[k] = s at *
      obtain ⟨acc, hacc⟩ : ∃ acc, pre1 ++ encs fnC ((kd.2.1).take k) = acc := ⟨_, rfl⟩
      have HAc := Lib.hid hacc
      have hal : acc.length = (pre1).length + (encs fnC ((kd.2.1).take k)).length := by rw [← hacc, List.length_append]
      rw [hacc]
      simp only [List.length_append] at hle
      have HCat : Hid (acc.length + (txtB s.1).length + (intB s.2.1).length + (intB s.2.2).length ≤ 100000000) := by show _ ≤ _; omega
      have HS0 : Hid (s.1.length ≤ 100000000) := by
        have h1 := HCat.out
        have h2 : s.1.length ≤ (txtB s.1).length := txt_len_in s.1
        show _ ≤ _
        omega
      clear hacc hal hle hL
      have u1 : decide ((k : Int) < ((kd.2.1).length : Int)) = true := decide_eq_true (by omega)
      have u2 : (k : Int) < ((kd.2.1).length : Int) := by omega
      have u3 : decide (k < (kd.2.1).length) = true := decide_eq_true hlt
      have hcs := HKs.out
      go_upto_region 5 with fail
      clear u1 u2 u3 hcs
      refine Rg.wp_region_rgl [] [Rg.Is (.string (str (acc))), Rg.Is (.pointer (some ⟨eb, 4, none⟩)), Rg.Is (.slice (some ⟨b, o, none⟩) (kd.2.1).length k4), Rg.Is (.int .i64 (k : Int)), Rg.Is (.pointer (some ⟨b, o + k * 3, none⟩)), Rg.Is (.pointer (some ⟨b, o + k * 3, none⟩)), Rg.Is (.string (str (s.1))), Rg.Is (.string (str (txtB s.1))), Rg.Is (.pointer (some ⟨eb, 4, none⟩)), Rg.Is (.slice (some ⟨b, o, none⟩) (kd.2.1).length k4), Rg.Is (.int .i64 (k : Int)), Rg.Is (.pointer (some ⟨b, o + k * 3, none⟩)), Rg.Is (.pointer (some ⟨b, o + k * 3 + 1, none⟩)), Rg.Is (.int .i64 (s.2.1)), Rg.Is (.string (str (intB s.2.1))), Rg.Is (.string (str (txtB s.1 ++ intB s.2.1))), Rg.Is (.pointer (some ⟨eb, 4, none⟩)), Rg.Is (.slice (some ⟨b, o, none⟩) (kd.2.1).length k4), Rg.Is (.int .i64 (k : Int)), Rg.Is (.pointer (some ⟨b, o + k * 3, none⟩)), Rg.Is (.pointer (some ⟨b, o + k * 3 + 2, none⟩)), Rg.Is (.int .i64 (s.2.2)), Rg.Is (.string (str (intB s.2.2))), Rg.Is (.string (str ((txtB s.1 ++ intB s.2.1) ++ intB s.2.2))), Rg.Is (.string (str (acc ++ ((txtB s.1 ++ intB s.2.1) ++ intB s.2.2)))), Rg.Is (.string (str (acc ++ ((txtB s.1 ++ intB s.2.1) ++ intB s.2.2))))] (by kernel_rfl) (by kernel_rfl) (by kernel_rfl) ⟨Rg.st_is _, Rg.st_is _, Rg.st_is _, Rg.st_is _, Rg.st_is _, Rg.st_is _, Rg.st_is _, Rg.st_is _, Rg.st_is _, Rg.st_is _, Rg.st_is _, Rg.st_is _, Rg.st_is _, Rg.st_is _, Rg.st_is _, Rg.st_is _, Rg.st_is _, Rg.st_is _, Rg.st_is _, Rg.st_is _, Rg.st_is _, Rg.st_is _, Rg.st_is _, Rg.st_is _, Rg.st_is _, Rg.st_is _, trivial⟩ ⟨rfl, rfl, rfl, rfl, rfl, rfl, rfl, rfl, rfl, rfl, rfl, rfl, rfl, rfl, rfl, rfl, rfl, rfl, rfl, rfl, rfl, rfl, rfl, rfl, rfl, rfl, trivial⟩ ⟨?_, ?_, ?_, ?_, ?_, ?_, ?_, ?_, ?_, ?_, ?_, ?_, ?_, ?_, ?_, ?_, ?_, ?_, ?_, ?_, ?_, ?_, ?_, ?_, ?_, ?_, trivial⟩ ?_
      · intro _ a wx hb hk
        have h3 : a.eval (.tmp 3) = .string (str (acc)) := Eq.mp (by kernel_rfl) (hk 3 (by decide))
        exact Rg.does_move ⟨Below.refl _ _, h3⟩
      · intro _ a wx hb hk
        have h1 : a.eval (.tmp 1) = .pointer (some ⟨eb, 0, none⟩) := Eq.mp (by kernel_rfl) (hk 1 (by decide))
        exact Rs.does_field _ _ h1 (show (Instr.fieldAt 55 (.pointer (some ⟨eb, 0, none⟩)) 1).run Try.prog wx = .ok (.pointer (some ⟨eb, 4, none⟩)) wx from rfl) ⟨Below.refl _ _, rfl⟩
      · intro _ a wx hb hk
        have h23 : a.eval (.tmp 23) = .pointer (some ⟨eb, 4, none⟩) := Eq.mp (by kernel_rfl) (hk 23 (by decide))
        exact Rg.does_load _ _ h23 (Ap.load_plainP (by simp [isAgg]) (cell_below hb (Nat.le_refl _) HKs.out)) ⟨Below.refl _ _, rfl⟩
      · intro _ a wx hb hk
        have h4 : a.eval (.tmp 4) = .int .i64 (k : Int) := Eq.mp (by kernel_rfl) (hk 4 (by decide))
        exact Rg.does_move ⟨Below.refl _ _, h4⟩
      · intro _ a wx hb hk
        have h24 : a.eval (.tmp 24) = .slice (some ⟨b, o, none⟩) (kd.2.1).length k4 := Eq.mp (by kernel_rfl) (hk 24 (by decide))
        have h25 : a.eval (.tmp 25) = .int .i64 (k : Int) := Eq.mp (by kernel_rfl) (hk 25 (by decide))
        exact Rg.does_index _ _ _ h24 h25 (HX.out wx) ⟨Below.refl _ _, rfl⟩
      · intro _ a wx hb hk
        have h26 : a.eval (.tmp 26) = .pointer (some ⟨b, o + k * 3, none⟩) := Eq.mp (by kernel_rfl) (hk 26 (by decide))
        exact Rs.does_field _ _ h26 (show (Instr.fieldAt 123 (.pointer (some ⟨b, o + k * 3, none⟩)) 0).run Try.prog wx = .ok (.pointer (some ⟨b, o + k * 3, none⟩)) wx from rfl) ⟨Below.refl _ _, rfl⟩
      · intro _ a wx hb hk
        have h27 : a.eval (.tmp 27) = .pointer (some ⟨b, o + k * 3, none⟩) := Eq.mp (by kernel_rfl) (hk 27 (by decide))
        exact Rg.does_load _ _ h27 (Ap.load_plainP (by simp [isAgg]) (cell_below hb (Nat.le_refl _) HF0.out)) ⟨Below.refl _ _, rfl⟩
      · intro _ a wx hb hk
        have h28 : a.eval (.tmp 28) = .string (str (s.1)) := Eq.mp (by kernel_rfl) (hk 28 (by decide))
        refine Rg.does_func #[.string (str (s.1))] Try.func43 (by kernel_rfl) (by kernel_rfl) (by simp [h28]) (ref_txt_calls wx (s.1) HS0.out) ?_
        rintro e w' ⟨rfl, hb'⟩
        exact ⟨_, rfl, hb', rfl⟩
      · intro _ a wx hb hk
        have h1 : a.eval (.tmp 1) = .pointer (some ⟨eb, 0, none⟩) := Eq.mp (by kernel_rfl) (hk 1 (by decide))
        exact Rs.does_field _ _ h1 (show (Instr.fieldAt 55 (.pointer (some ⟨eb, 0, none⟩)) 1).run Try.prog wx = .ok (.pointer (some ⟨eb, 4, none⟩)) wx from rfl) ⟨Below.refl _ _, rfl⟩
      · intro _ a wx hb hk
        have h30 : a.eval (.tmp 30) = .pointer (some ⟨eb, 4, none⟩) := Eq.mp (by kernel_rfl) (hk 30 (by decide))
        exact Rg.does_load _ _ h30 (Ap.load_plainP (by simp [isAgg]) (cell_below hb (Nat.le_refl _) HKs.out)) ⟨Below.refl _ _, rfl⟩
      · intro _ a wx hb hk
        have h4 : a.eval (.tmp 4) = .int .i64 (k : Int) := Eq.mp (by kernel_rfl) (hk 4 (by decide))
        exact Rg.does_move ⟨Below.refl _ _, h4⟩
      · intro _ a wx hb hk
        have h31 : a.eval (.tmp 31) = .slice (some ⟨b, o, none⟩) (kd.2.1).length k4 := Eq.mp (by kernel_rfl) (hk 31 (by decide))
        have h32 : a.eval (.tmp 32) = .int .i64 (k : Int) := Eq.mp (by kernel_rfl) (hk 32 (by decide))
        exact Rg.does_index _ _ _ h31 h32 (HX.out wx) ⟨Below.refl _ _, rfl⟩
      · intro _ a wx hb hk
        have h33 : a.eval (.tmp 33) = .pointer (some ⟨b, o + k * 3, none⟩) := Eq.mp (by kernel_rfl) (hk 33 (by decide))
        exact Rs.does_field _ _ h33 (show (Instr.fieldAt 123 (.pointer (some ⟨b, o + k * 3, none⟩)) 1).run Try.prog wx = .ok (.pointer (some ⟨b, o + k * 3 + 1, none⟩)) wx from rfl) ⟨Below.refl _ _, rfl⟩
      · intro _ a wx hb hk
        have h34 : a.eval (.tmp 34) = .pointer (some ⟨b, o + k * 3 + 1, none⟩) := Eq.mp (by kernel_rfl) (hk 34 (by decide))
        exact Rg.does_load _ _ h34 (Ap.load_plainP (by simp [isAgg]) (cell_below hb (Nat.le_refl _) HF1.out)) ⟨Below.refl _ _, rfl⟩
      · intro _ a wx hb hk
        have h35 : a.eval (.tmp 35) = .int .i64 (s.2.1) := Eq.mp (by kernel_rfl) (hk 35 (by decide))
        refine Rg.does_func #[.int .i64 (s.2.1)] Try.func21 (by kernel_rfl) (by kernel_rfl) (by simp [h35]) (ref_n_calls wx (s.2.1) (HQk.out.2.1)) ?_
        rintro e w' ⟨rfl, hb'⟩
        exact ⟨_, rfl, hb', rfl⟩
      · intro _ a wx hb hk
        have h29 : a.eval (.tmp 29) = .string (str (txtB s.1)) := Eq.mp (by kernel_rfl) (hk 29 (by decide))
        have h36 : a.eval (.tmp 36) = .string (str (intB s.2.1)) := Eq.mp (by kernel_rfl) (hk 36 (by decide))
        exact Sw.does_bin_str (str (txtB s.1)) (str (intB s.2.1)) _ h29 h36 (Sw.run_cat (by have h9 := HCat.out; (try simp only [List.length_append]); omega)) ⟨Below.refl _ _, rfl⟩
      · intro _ a wx hb hk
        have h1 : a.eval (.tmp 1) = .pointer (some ⟨eb, 0, none⟩) := Eq.mp (by kernel_rfl) (hk 1 (by decide))
        exact Rs.does_field _ _ h1 (show (Instr.fieldAt 55 (.pointer (some ⟨eb, 0, none⟩)) 1).run Try.prog wx = .ok (.pointer (some ⟨eb, 4, none⟩)) wx from rfl) ⟨Below.refl _ _, rfl⟩
      · intro _ a wx hb hk
        have h38 : a.eval (.tmp 38) = .pointer (some ⟨eb, 4, none⟩) := Eq.mp (by kernel_rfl) (hk 38 (by decide))
        exact Rg.does_load _ _ h38 (Ap.load_plainP (by simp [isAgg]) (cell_below hb (Nat.le_refl _) HKs.out)) ⟨Below.refl _ _, rfl⟩
      · intro _ a wx hb hk
        have h4 : a.eval (.tmp 4) = .int .i64 (k : Int) := Eq.mp (by kernel_rfl) (hk 4 (by decide))
        exact Rg.does_move ⟨Below.refl _ _, h4⟩
      · intro _ a wx hb hk
        have h39 : a.eval (.tmp 39) = .slice (some ⟨b, o, none⟩) (kd.2.1).length k4 := Eq.mp (by kernel_rfl) (hk 39 (by decide))
        have h40 : a.eval (.tmp 40) = .int .i64 (k : Int) := Eq.mp (by kernel_rfl) (hk 40 (by decide))
        exact Rg.does_index _ _ _ h39 h40 (HX.out wx) ⟨Below.refl _ _, rfl⟩
      · intro _ a wx hb hk
        have h41 : a.eval (.tmp 41) = .pointer (some ⟨b, o + k * 3, none⟩) := Eq.mp (by kernel_rfl) (hk 41 (by decide))
        exact Rs.does_field _ _ h41 (show (Instr.fieldAt 123 (.pointer (some ⟨b, o + k * 3, none⟩)) 2).run Try.prog wx = .ok (.pointer (some ⟨b, o + k * 3 + 2, none⟩)) wx from rfl) ⟨Below.refl _ _, rfl⟩
      · intro _ a wx hb hk
        have h42 : a.eval (.tmp 42) = .pointer (some ⟨b, o + k * 3 + 2, none⟩) := Eq.mp (by kernel_rfl) (hk 42 (by decide))
        exact Rg.does_load _ _ h42 (Ap.load_plainP (by simp [isAgg]) (cell_below hb (Nat.le_refl _) HF2.out)) ⟨Below.refl _ _, rfl⟩
      · intro _ a wx hb hk
        have h43 : a.eval (.tmp 43) = .int .i64 (s.2.2) := Eq.mp (by kernel_rfl) (hk 43 (by decide))
        refine Rg.does_func #[.int .i64 (s.2.2)] Try.func21 (by kernel_rfl) (by kernel_rfl) (by simp [h43]) (ref_n_calls wx (s.2.2) (HQk.out.2.2)) ?_
        rintro e w' ⟨rfl, hb'⟩
        exact ⟨_, rfl, hb', rfl⟩
      · intro _ a wx hb hk
        have h37 : a.eval (.tmp 37) = .string (str (txtB s.1 ++ intB s.2.1)) := Eq.mp (by kernel_rfl) (hk 37 (by decide))
        have h44 : a.eval (.tmp 44) = .string (str (intB s.2.2)) := Eq.mp (by kernel_rfl) (hk 44 (by decide))
        exact Sw.does_bin_str (str (txtB s.1 ++ intB s.2.1)) (str (intB s.2.2)) _ h37 h44 (Sw.run_cat (by have h9 := HCat.out; (try simp only [List.length_append]); omega)) ⟨Below.refl _ _, rfl⟩
      · intro _ a wx hb hk
        have h22 : a.eval (.tmp 22) = .string (str (acc)) := Eq.mp (by kernel_rfl) (hk 22 (by decide))
        have h45 : a.eval (.tmp 45) = .string (str ((txtB s.1 ++ intB s.2.1) ++ intB s.2.2)) := Eq.mp (by kernel_rfl) (hk 45 (by decide))
        exact Sw.does_bin_str (str (acc)) (str ((txtB s.1 ++ intB s.2.1) ++ intB s.2.2)) _ h22 h45 (Sw.run_cat (by have h9 := HCat.out; (try simp only [List.length_append]); omega)) ⟨Below.refl _ _, rfl⟩
      · intro _ a wx hb hk
        have h46 : a.eval (.tmp 46) = .string (str (acc ++ ((txtB s.1 ++ intB s.2.1) ++ intB s.2.2))) := Eq.mp (by kernel_rfl) (hk 46 (by decide))
        exact Rg.does_assign ⟨Below.refl _ _, h46⟩
      intro vals wD hbD hL
      obtain ⟨g0, g1, g2, g3, g4, g5, g6, g7, g8, g9, g10, g11, g12, g13, g14, g15, g16, g17, g18, g19, g20, g21, g22, g23, g24, g25, _⟩ := hL
      have g' : vals 25 = .string (str (acc ++ ((txtB s.1 ++ intB s.2.1) ++ intB s.2.2))) := g25
      have HBD := Lib.hid hbD
      clear g0 g1 g2 g3 g4 g5 g6 g7 g8 g9 g10 g11 g12 g13 g14 g15 g16 g17 g18 g19 g20 g21 g22 g23 g24 g25 hbD
      simp only [Rg.putAll, List.setIfInBounds_toArray, List.set_cons_succ, List.set_cons_zero, g']
      clear g'
      have HB2 := Lib.hid (HB.out.trans (HBD.out.mono HB.out.size))
      have hk9 : k ≤ 100000000 := by have := HN4.out; omega
      go_wp2_with fail
      go_roundw
      case rel =>
        refine ⟨k + 1, by omega, by go_num, ?_, HB2.out⟩
        refine congrArg (fun l => Value.string (str l)) ?_
        rw [HT2.out, ← HAc.out]
        simp only [List.append_assoc]
      case measure => simp [intOf]; omega
    · obtain rfl : k = (kd.2.1).length := by omega
      rw [List.take_length]
      have u1 : decide (((kd.2.1).length : Int) < ((kd.2.1).length : Int)) = false := decide_eq_false (by omega)
      have u2 : ¬ (((kd.2.1).length : Int) < ((kd.2.1).length : Int)) := by omega
      have u3 : decide ((kd.2.1).length < (kd.2.1).length) = false := decide_eq_false (by omega)
      have HCr2 : Hid (Cut eb vs rKT wr) := (HB.out.block eb HC.out.lt).trans HC.out
      have x5 : wr.cell? ⟨eb, 5, none⟩ = some (.slice p5 kd.2.2.1.length k5) := (HCr2.out.cell 5).trans HV5.out
      have HNc2 := Lib.hid (ref_n_calls wr (kd.2.2.1.length : Int) ⟨by have := HN5.out; omega, by have := HN5.out; omega⟩)
      have hsz : (str (pre1 ++ encs fnC kd.2.1)).size + (str (intB (kd.2.2.1.length : Int))).size ≤ 100000000 := by rw [str_size, str_size, ← HP1.out]; simp only [List.length_append]; have := HL.out; omega
      go_wp2_with fail
      refine HNc2.out.mono ?_
      rintro r wq2 ⟨rfl, hbq⟩
      have HBq2 := Lib.hid (HB.out.trans (hbq.mono HB.out.size))
      clear hbq x5 HNc2 u1 u2 u3 hcs
      go_wp2_with fail
      obtain ⟨pre2, hp1⟩ : ∃ x, pre1 ++ encs fnC kd.2.1 ++ intB (kd.2.2.1.length : Int) = x := ⟨_, rfl⟩
      have HP2 := Lib.hid hp1
      have HL2 : Hid ((pre2 ++ encs trapC kd.2.2.1).length ≤ 100000000) := by show _ ≤ _; rw [← hp1, ← HP1.out]; simp only [List.length_append]; have := HL.out; omega
      rw [show str (pre1 ++ encs fnC kd.2.1) ++ str (intB (kd.2.2.1.length : Int)) = str pre2 from by rw [str_append, hp1]]
      clear hp1 hsz
      go_loopw [3, 5] (fun va vi wr => ∃ k : Nat, k ≤ (kd.2.2.1).length ∧ vi = .int .i64 k ∧ va = .string (str (pre2 ++ encs trapC ((kd.2.2.1).take k))) ∧ Below w1.heap.size w1 wr) (fun _ vi _ => (kd.2.2.1).length - (intOf vi).toNat)
      case atStart => exact ⟨0, Nat.zero_le _, rfl, by rw [List.take_zero, show encs trapC [] = [] from rfl, List.append_nil], HBq2.out⟩
      case round =>
        obtain ⟨k, hk, rfl, rfl, hb⟩ := hrel
        have HB := Lib.hid hb
        clear hb
        have hcs : wr.cell? ⟨eb, 5, none⟩ = some (.slice p5 (kd.2.2.1).length k5) := (HB.out.cell (p := ⟨eb, 5, none⟩) (HC.out).lt).trans (((HC.out).cell 5).trans HV5.out)
        by_cases hlt : k < (kd.2.2.1).length
        · obtain ⟨b, o, hpe, hbl, hcu⟩ := (HE5.out).at (by decide) hlt
          subst hpe
          have HKs := Lib.hid hcs
          have HX := Lib.hid (fun W => row_idx Try.underlying52 2 (by kernel_rfl) b o (kd.2.2.1).length k5 k hlt W)
          have HF0 : Hid (wr.cell? ⟨b, o + k * 2, none⟩ = some (.int .i64 (kd.2.2.1)[k].1)) := (HB.out.cell (p := ⟨b, o + k * 2, none⟩) hbl).trans (hcu 0 (show 0 < 2 by decide))
          have HF1 : Hid (wr.cell? ⟨b, o + k * 2 + 1, none⟩ = some (.string (str (kd.2.2.1)[k].2))) := (HB.out.cell (p := ⟨b, o + k * 2 + 1, none⟩) hbl).trans (hcu 1 (show 1 < 2 by decide))
          have HT := Lib.hid (encs_take_succ trapC hlt)
          have hle := encs_take trapC (kd.2.2.1) (k + 1)
          rw [HT.out, List.length_append] at hle
          have hL := HL2.out
          rw [List.length_append] at hL
          have HEn : Hid ((trapC).enc (kd.2.2.1)[k] = intB (kd.2.2.1)[k].1 ++ (txtB (kd.2.2.1)[k].2)) := rfl
          rw [HEn.out] at hle
          have HQk := Lib.hid (HQ.out.2.2.1 _ (List.getElem_mem hlt))
          have HT2 : Hid (encs trapC ((kd.2.2.1).take (k + 1)) = encs trapC ((kd.2.2.1).take k) ++ (intB (kd.2.2.1)[k].1 ++ (txtB (kd.2.2.1)[k].2))) := by show _ = _; rw [HT.out, HEn.out]
          clear hcu hcs
          generalize (kd.2.2.1)[k] = s at *
          obtain ⟨acc, hacc⟩ : ∃ acc, pre2 ++ encs trapC ((kd.2.2.1).take k) = acc := ⟨_, rfl⟩
          have HAc := Lib.hid hacc
          have hal : acc.length = (pre2).length + (encs trapC ((kd.2.2.1).take k)).length := by rw [← hacc, List.length_append]
          rw [hacc]
          simp only [List.length_append] at hle
          have HCat : Hid (acc.length + (intB s.1).length + (txtB s.2).length ≤ 100000000) := by show _ ≤ _; omega
          have HS1 : Hid (s.2.length ≤ 100000000) := by
            have h1 := HCat.out
            have h2 : s.2.length ≤ (txtB s.2).length := txt_len_in s.2
            show _ ≤ _
            omega
          clear hacc hal hle hL
          have u1 : decide ((k : Int) < ((kd.2.2.1).length : Int)) = true := decide_eq_true (by omega)
          have u2 : (k : Int) < ((kd.2.2.1).length : Int) := by omega
          have u3 : decide (k < (kd.2.2.1).length) = true := decide_eq_true hlt
          have hcs := HKs.out
          go_upto_region 10 with fail
          clear u1 u2 u3 hcs
          refine Rg.wp_region_rgl [] [Rg.Is (.string (str (acc))), Rg.Is (.pointer (some ⟨eb, 5, none⟩)), Rg.Is (.slice (some ⟨b, o, none⟩) (kd.2.2.1).length k5), Rg.Is (.int .i64 (k : Int)), Rg.Is (.pointer (some ⟨b, o + k * 2, none⟩)), Rg.Is (.pointer (some ⟨b, o + k * 2, none⟩)), Rg.Is (.int .i64 (s.1)), Rg.Is (.string (str (intB s.1))), Rg.Is (.pointer (some ⟨eb, 5, none⟩)), Rg.Is (.slice (some ⟨b, o, none⟩) (kd.2.2.1).length k5), Rg.Is (.int .i64 (k : Int)), Rg.Is (.pointer (some ⟨b, o + k * 2, none⟩)), Rg.Is (.pointer (some ⟨b, o + k * 2 + 1, none⟩)), Rg.Is (.string (str (s.2))), Rg.Is (.string (str (txtB s.2))), Rg.Is (.string (str (intB s.1 ++ txtB s.2))), Rg.Is (.string (str (acc ++ (intB s.1 ++ txtB s.2)))), Rg.Is (.string (str (acc ++ (intB s.1 ++ txtB s.2))))] (by kernel_rfl) (by kernel_rfl) (by kernel_rfl) ⟨Rg.st_is _, Rg.st_is _, Rg.st_is _, Rg.st_is _, Rg.st_is _, Rg.st_is _, Rg.st_is _, Rg.st_is _, Rg.st_is _, Rg.st_is _, Rg.st_is _, Rg.st_is _, Rg.st_is _, Rg.st_is _, Rg.st_is _, Rg.st_is _, Rg.st_is _, Rg.st_is _, trivial⟩ ⟨rfl, rfl, rfl, rfl, rfl, rfl, rfl, rfl, rfl, rfl, rfl, rfl, rfl, rfl, rfl, rfl, rfl, rfl, trivial⟩ ⟨?_, ?_, ?_, ?_, ?_, ?_, ?_, ?_, ?_, ?_, ?_, ?_, ?_, ?_, ?_, ?_, ?_, ?_, trivial⟩ ?_
          · intro _ a wx hb hk
            have h3 : a.eval (.tmp 3) = .string (str (acc)) := Eq.mp (by kernel_rfl) (hk 3 (by decide))
            exact Rg.does_move ⟨Below.refl _ _, h3⟩
          · intro _ a wx hb hk
            have h1 : a.eval (.tmp 1) = .pointer (some ⟨eb, 0, none⟩) := Eq.mp (by kernel_rfl) (hk 1 (by decide))
            exact Rs.does_field _ _ h1 (show (Instr.fieldAt 55 (.pointer (some ⟨eb, 0, none⟩)) 2).run Try.prog wx = .ok (.pointer (some ⟨eb, 5, none⟩)) wx from rfl) ⟨Below.refl _ _, rfl⟩
          · intro _ a wx hb hk
            have h61 : a.eval (.tmp 61) = .pointer (some ⟨eb, 5, none⟩) := Eq.mp (by kernel_rfl) (hk 61 (by decide))
            exact Rg.does_load _ _ h61 (Ap.load_plainP (by simp [isAgg]) (cell_below hb (Nat.le_refl _) HKs.out)) ⟨Below.refl _ _, rfl⟩
          · intro _ a wx hb hk
            have h5 : a.eval (.tmp 5) = .int .i64 (k : Int) := Eq.mp (by kernel_rfl) (hk 5 (by decide))
            exact Rg.does_move ⟨Below.refl _ _, h5⟩
          · intro _ a wx hb hk
            have h62 : a.eval (.tmp 62) = .slice (some ⟨b, o, none⟩) (kd.2.2.1).length k5 := Eq.mp (by kernel_rfl) (hk 62 (by decide))
            have h63 : a.eval (.tmp 63) = .int .i64 (k : Int) := Eq.mp (by kernel_rfl) (hk 63 (by decide))
            exact Rg.does_index _ _ _ h62 h63 (HX.out wx) ⟨Below.refl _ _, rfl⟩
          · intro _ a wx hb hk
            have h64 : a.eval (.tmp 64) = .pointer (some ⟨b, o + k * 2, none⟩) := Eq.mp (by kernel_rfl) (hk 64 (by decide))
            exact Rs.does_field _ _ h64 (show (Instr.fieldAt 125 (.pointer (some ⟨b, o + k * 2, none⟩)) 0).run Try.prog wx = .ok (.pointer (some ⟨b, o + k * 2, none⟩)) wx from rfl) ⟨Below.refl _ _, rfl⟩
          · intro _ a wx hb hk
            have h65 : a.eval (.tmp 65) = .pointer (some ⟨b, o + k * 2, none⟩) := Eq.mp (by kernel_rfl) (hk 65 (by decide))
            exact Rg.does_load _ _ h65 (Ap.load_plainP (by simp [isAgg]) (cell_below hb (Nat.le_refl _) HF0.out)) ⟨Below.refl _ _, rfl⟩
          · intro _ a wx hb hk
            have h66 : a.eval (.tmp 66) = .int .i64 (s.1) := Eq.mp (by kernel_rfl) (hk 66 (by decide))
            refine Rg.does_func #[.int .i64 (s.1)] Try.func21 (by kernel_rfl) (by kernel_rfl) (by simp [h66]) (ref_n_calls wx (s.1) (HQk.out.1)) ?_
            rintro e w' ⟨rfl, hb'⟩
            exact ⟨_, rfl, hb', rfl⟩
          · intro _ a wx hb hk
            have h1 : a.eval (.tmp 1) = .pointer (some ⟨eb, 0, none⟩) := Eq.mp (by kernel_rfl) (hk 1 (by decide))
            exact Rs.does_field _ _ h1 (show (Instr.fieldAt 55 (.pointer (some ⟨eb, 0, none⟩)) 2).run Try.prog wx = .ok (.pointer (some ⟨eb, 5, none⟩)) wx from rfl) ⟨Below.refl _ _, rfl⟩
          · intro _ a wx hb hk
            have h68 : a.eval (.tmp 68) = .pointer (some ⟨eb, 5, none⟩) := Eq.mp (by kernel_rfl) (hk 68 (by decide))
            exact Rg.does_load _ _ h68 (Ap.load_plainP (by simp [isAgg]) (cell_below hb (Nat.le_refl _) HKs.out)) ⟨Below.refl _ _, rfl⟩
          · intro _ a wx hb hk
            have h5 : a.eval (.tmp 5) = .int .i64 (k : Int) := Eq.mp (by kernel_rfl) (hk 5 (by decide))
            exact Rg.does_move ⟨Below.refl _ _, h5⟩
          · intro _ a wx hb hk
            have h69 : a.eval (.tmp 69) = .slice (some ⟨b, o, none⟩) (kd.2.2.1).length k5 := Eq.mp (by kernel_rfl) (hk 69 (by decide))
            have h70 : a.eval (.tmp 70) = .int .i64 (k : Int) := Eq.mp (by kernel_rfl) (hk 70 (by decide))
            exact Rg.does_index _ _ _ h69 h70 (HX.out wx) ⟨Below.refl _ _, rfl⟩
          · intro _ a wx hb hk
            have h71 : a.eval (.tmp 71) = .pointer (some ⟨b, o + k * 2, none⟩) := Eq.mp (by kernel_rfl) (hk 71 (by decide))
            exact Rs.does_field _ _ h71 (show (Instr.fieldAt 125 (.pointer (some ⟨b, o + k * 2, none⟩)) 1).run Try.prog wx = .ok (.pointer (some ⟨b, o + k * 2 + 1, none⟩)) wx from rfl) ⟨Below.refl _ _, rfl⟩
          · intro _ a wx hb hk
            have h72 : a.eval (.tmp 72) = .pointer (some ⟨b, o + k * 2 + 1, none⟩) := Eq.mp (by kernel_rfl) (hk 72 (by decide))
            exact Rg.does_load _ _ h72 (Ap.load_plainP (by simp [isAgg]) (cell_below hb (Nat.le_refl _) HF1.out)) ⟨Below.refl _ _, rfl⟩
          · intro _ a wx hb hk
            have h73 : a.eval (.tmp 73) = .string (str (s.2)) := Eq.mp (by kernel_rfl) (hk 73 (by decide))
            refine Rg.does_func #[.string (str (s.2))] Try.func43 (by kernel_rfl) (by kernel_rfl) (by simp [h73]) (ref_txt_calls wx (s.2) HS1.out) ?_
            rintro e w' ⟨rfl, hb'⟩
            exact ⟨_, rfl, hb', rfl⟩
          · intro _ a wx hb hk
            have h67 : a.eval (.tmp 67) = .string (str (intB s.1)) := Eq.mp (by kernel_rfl) (hk 67 (by decide))
            have h74 : a.eval (.tmp 74) = .string (str (txtB s.2)) := Eq.mp (by kernel_rfl) (hk 74 (by decide))
            exact Sw.does_bin_str (str (intB s.1)) (str (txtB s.2)) _ h67 h74 (Sw.run_cat (by have h9 := HCat.out; (try simp only [List.length_append]); omega)) ⟨Below.refl _ _, rfl⟩
          · intro _ a wx hb hk
            have h60 : a.eval (.tmp 60) = .string (str (acc)) := Eq.mp (by kernel_rfl) (hk 60 (by decide))
            have h75 : a.eval (.tmp 75) = .string (str (intB s.1 ++ txtB s.2)) := Eq.mp (by kernel_rfl) (hk 75 (by decide))
            exact Sw.does_bin_str (str (acc)) (str (intB s.1 ++ txtB s.2)) _ h60 h75 (Sw.run_cat (by have h9 := HCat.out; (try simp only [List.length_append]); omega)) ⟨Below.refl _ _, rfl⟩
          · intro _ a wx hb hk
            have h76 : a.eval (.tmp 76) = .string (str (acc ++ (intB s.1 ++ txtB s.2))) := Eq.mp (by kernel_rfl) (hk 76 (by decide))
            exact Rg.does_assign ⟨Below.refl _ _, h76⟩
          intro vals wD hbD hL
          obtain ⟨g0, g1, g2, g3, g4, g5, g6, g7, g8, g9, g10, g11, g12, g13, g14, g15, g16, g17, _⟩ := hL
          have g' : vals 17 = .string (str (acc ++ (intB s.1 ++ txtB s.2))) := g17
          have HBD := Lib.hid hbD
          clear g0 g1 g2 g3 g4 g5 g6 g7 g8 g9 g10 g11 g12 g13 g14 g15 g16 g17 hbD
          simp only [Rg.putAll, List.setIfInBounds_toArray, List.set_cons_succ, List.set_cons_zero, g']
          clear g'
          have HB2 := Lib.hid (HB.out.trans (HBD.out.mono HB.out.size))
          have hk9 : k ≤ 100000000 := by have := HN5.out; omega
          go_wp2_with fail
          go_roundw
          case rel =>
            refine ⟨k + 1, by omega, by go_num, ?_, HB2.out⟩
            refine congrArg (fun l => Value.string (str l)) ?_
            rw [HT2.out, ← HAc.out]
            simp only [List.append_assoc]
          case measure => simp [intOf]; omega
        · obtain rfl : k = (kd.2.2.1).length := by omega
          rw [List.take_length]
          have u1 : decide (((kd.2.2.1).length : Int) < ((kd.2.2.1).length : Int)) = false := decide_eq_false (by omega)
          have u2 : ¬ (((kd.2.2.1).length : Int) < ((kd.2.2.1).length : Int)) := by omega
          have u3 : decide ((kd.2.2.1).length < (kd.2.2.1).length) = false := decide_eq_false (by omega)
          have HCr3 : Hid (Cut eb vs rKT wr) := (HB.out.block eb HC.out.lt).trans HC.out
          have x6 : wr.cell? ⟨eb, 6, none⟩ = some (.slice p6 kd.2.2.2.length k6) := (HCr3.out.cell 6).trans HV6.out
          have HNc3 := Lib.hid (ref_n_calls wr (kd.2.2.2.length : Int) ⟨by have := HN6.out; omega, by have := HN6.out; omega⟩)
          have hsz : (str (pre2 ++ encs trapC kd.2.2.1)).size + (str (intB (kd.2.2.2.length : Int))).size ≤ 100000000 := by rw [str_size, str_size, ← HP2.out, ← HP1.out]; simp only [List.length_append]; have := HL.out; omega
          go_wp2_with fail
          refine HNc3.out.mono ?_
          rintro r wq3 ⟨rfl, hbq⟩
          have HBq3 := Lib.hid (HB.out.trans (hbq.mono HB.out.size))
          clear hbq x6 HNc3 u1 u2 u3 hcs
          go_wp2_with fail
          obtain ⟨pre3, hp1⟩ : ∃ x, pre2 ++ encs trapC kd.2.2.1 ++ intB (kd.2.2.2.length : Int) = x := ⟨_, rfl⟩
          have HP3 := Lib.hid hp1
          have HL3 : Hid ((pre3 ++ encs prC kd.2.2.2).length ≤ 100000000) := by show _ ≤ _; rw [← hp1, ← HP2.out, ← HP1.out]; simp only [List.length_append]; have := HL.out; omega
          rw [show str (pre2 ++ encs trapC kd.2.2.1) ++ str (intB (kd.2.2.2.length : Int)) = str pre3 from by rw [str_append, hp1]]
          clear hp1 hsz
          go_loopw [3, 6] (fun va vi wr => ∃ k : Nat, k ≤ (kd.2.2.2).length ∧ vi = .int .i64 k ∧ va = .string (str (pre3 ++ encs prC ((kd.2.2.2).take k))) ∧ Below w1.heap.size w1 wr) (fun _ vi _ => (kd.2.2.2).length - (intOf vi).toNat)
          case atStart => exact ⟨0, Nat.zero_le _, rfl, by rw [List.take_zero, show encs prC [] = [] from rfl, List.append_nil], HBq3.out⟩
          case round =>
            obtain ⟨k, hk, rfl, rfl, hb⟩ := hrel
            have HB := Lib.hid hb
            clear hb
            have hcs : wr.cell? ⟨eb, 6, none⟩ = some (.slice p6 (kd.2.2.2).length k6) := (HB.out.cell (p := ⟨eb, 6, none⟩) (HC.out).lt).trans (((HC.out).cell 6).trans HV6.out)
            by_cases hlt : k < (kd.2.2.2).length
            · obtain ⟨b, o, hpe, hbl, hcu⟩ := (HE6.out).at (by decide) hlt
              subst hpe
              have HKs := Lib.hid hcs
              have HX := Lib.hid (fun W => row_idx Try.underlying53 2 (by kernel_rfl) b o (kd.2.2.2).length k6 k hlt W)
              have HF0 : Hid (wr.cell? ⟨b, o + k * 2, none⟩ = some (.int .i64 (kd.2.2.2)[k].1)) := (HB.out.cell (p := ⟨b, o + k * 2, none⟩) hbl).trans (hcu 0 (show 0 < 2 by decide))
              have HF1 : Hid (wr.cell? ⟨b, o + k * 2 + 1, none⟩ = some (.int .i64 (kd.2.2.2)[k].2)) := (HB.out.cell (p := ⟨b, o + k * 2 + 1, none⟩) hbl).trans (hcu 1 (show 1 < 2 by decide))
              have HT := Lib.hid (encs_take_succ prC hlt)
              have hle := encs_take prC (kd.2.2.2) (k + 1)
              rw [HT.out, List.length_append] at hle
              have hL := HL3.out
              rw [List.length_append] at hL
              have HEn : Hid ((prC).enc (kd.2.2.2)[k] = intB (kd.2.2.2)[k].1 ++ (intB (kd.2.2.2)[k].2)) := rfl
              rw [HEn.out] at hle
              have HQk := Lib.hid (HQ.out.2.2.2 _ (List.getElem_mem hlt))
              have HT2 : Hid (encs prC ((kd.2.2.2).take (k + 1)) = encs prC ((kd.2.2.2).take k) ++ (intB (kd.2.2.2)[k].1 ++ (intB (kd.2.2.2)[k].2))) := by show _ = _; rw [HT.out, HEn.out]
              clear hcu hcs
              generalize (kd.2.2.2)[k] = s at *
              obtain ⟨acc, hacc⟩ : ∃ acc, pre3 ++ encs prC ((kd.2.2.2).take k) = acc := ⟨_, rfl⟩
              have HAc := Lib.hid hacc
              have hal : acc.length = (pre3).length + (encs prC ((kd.2.2.2).take k)).length := by rw [← hacc, List.length_append]
              rw [hacc]
              simp only [List.length_append] at hle
              have HCat : Hid (acc.length + (intB s.1).length + (intB s.2).length ≤ 100000000) := by show _ ≤ _; omega
              clear hacc hal hle hL
              have u1 : decide ((k : Int) < ((kd.2.2.2).length : Int)) = true := decide_eq_true (by omega)
              have u2 : (k : Int) < ((kd.2.2.2).length : Int) := by omega
              have u3 : decide (k < (kd.2.2.2).length) = true := decide_eq_true hlt
              have hcs := HKs.out
              go_upto_region 15 with fail
              clear u1 u2 u3 hcs
              refine Rg.wp_region_rgl [] [Rg.Is (.string (str (acc))), Rg.Is (.pointer (some ⟨eb, 6, none⟩)), Rg.Is (.slice (some ⟨b, o, none⟩) (kd.2.2.2).length k6), Rg.Is (.int .i64 (k : Int)), Rg.Is (.pointer (some ⟨b, o + k * 2, none⟩)), Rg.Is (.pointer (some ⟨b, o + k * 2, none⟩)), Rg.Is (.int .i64 (s.1)), Rg.Is (.string (str (intB s.1))), Rg.Is (.pointer (some ⟨eb, 6, none⟩)), Rg.Is (.slice (some ⟨b, o, none⟩) (kd.2.2.2).length k6), Rg.Is (.int .i64 (k : Int)), Rg.Is (.pointer (some ⟨b, o + k * 2, none⟩)), Rg.Is (.pointer (some ⟨b, o + k * 2 + 1, none⟩)), Rg.Is (.int .i64 (s.2)), Rg.Is (.string (str (intB s.2))), Rg.Is (.string (str (intB s.1 ++ intB s.2))), Rg.Is (.string (str (acc ++ (intB s.1 ++ intB s.2)))), Rg.Is (.string (str (acc ++ (intB s.1 ++ intB s.2))))] (by kernel_rfl) (by kernel_rfl) (by kernel_rfl) ⟨Rg.st_is _, Rg.st_is _, Rg.st_is _, Rg.st_is _, Rg.st_is _, Rg.st_is _, Rg.st_is _, Rg.st_is _, Rg.st_is _, Rg.st_is _, Rg.st_is _, Rg.st_is _, Rg.st_is _, Rg.st_is _, Rg.st_is _, Rg.st_is _, Rg.st_is _, Rg.st_is _, trivial⟩ ⟨rfl, rfl, rfl, rfl, rfl, rfl, rfl, rfl, rfl, rfl, rfl, rfl, rfl, rfl, rfl, rfl, rfl, rfl, trivial⟩ ⟨?_, ?_, ?_, ?_, ?_, ?_, ?_, ?_, ?_, ?_, ?_, ?_, ?_, ?_, ?_, ?_, ?_, ?_, trivial⟩ ?_
              · intro _ a wx hb hk
                have h3 : a.eval (.tmp 3) = .string (str (acc)) := Eq.mp (by kernel_rfl) (hk 3 (by decide))
                exact Rg.does_move ⟨Below.refl _ _, h3⟩
              · intro _ a wx hb hk
                have h1 : a.eval (.tmp 1) = .pointer (some ⟨eb, 0, none⟩) := Eq.mp (by kernel_rfl) (hk 1 (by decide))
                exact Rs.does_field _ _ h1 (show (Instr.fieldAt 55 (.pointer (some ⟨eb, 0, none⟩)) 3).run Try.prog wx = .ok (.pointer (some ⟨eb, 6, none⟩)) wx from rfl) ⟨Below.refl _ _, rfl⟩
              · intro _ a wx hb hk
                have h91 : a.eval (.tmp 91) = .pointer (some ⟨eb, 6, none⟩) := Eq.mp (by kernel_rfl) (hk 91 (by decide))
                exact Rg.does_load _ _ h91 (Ap.load_plainP (by simp [isAgg]) (cell_below hb (Nat.le_refl _) HKs.out)) ⟨Below.refl _ _, rfl⟩
              · intro _ a wx hb hk
                have h6 : a.eval (.tmp 6) = .int .i64 (k : Int) := Eq.mp (by kernel_rfl) (hk 6 (by decide))
                exact Rg.does_move ⟨Below.refl _ _, h6⟩
              · intro _ a wx hb hk
                have h92 : a.eval (.tmp 92) = .slice (some ⟨b, o, none⟩) (kd.2.2.2).length k6 := Eq.mp (by kernel_rfl) (hk 92 (by decide))
                have h93 : a.eval (.tmp 93) = .int .i64 (k : Int) := Eq.mp (by kernel_rfl) (hk 93 (by decide))
                exact Rg.does_index _ _ _ h92 h93 (HX.out wx) ⟨Below.refl _ _, rfl⟩
              · intro _ a wx hb hk
                have h94 : a.eval (.tmp 94) = .pointer (some ⟨b, o + k * 2, none⟩) := Eq.mp (by kernel_rfl) (hk 94 (by decide))
                exact Rs.does_field _ _ h94 (show (Instr.fieldAt 127 (.pointer (some ⟨b, o + k * 2, none⟩)) 0).run Try.prog wx = .ok (.pointer (some ⟨b, o + k * 2, none⟩)) wx from rfl) ⟨Below.refl _ _, rfl⟩
              · intro _ a wx hb hk
                have h95 : a.eval (.tmp 95) = .pointer (some ⟨b, o + k * 2, none⟩) := Eq.mp (by kernel_rfl) (hk 95 (by decide))
                exact Rg.does_load _ _ h95 (Ap.load_plainP (by simp [isAgg]) (cell_below hb (Nat.le_refl _) HF0.out)) ⟨Below.refl _ _, rfl⟩
              · intro _ a wx hb hk
                have h96 : a.eval (.tmp 96) = .int .i64 (s.1) := Eq.mp (by kernel_rfl) (hk 96 (by decide))
                refine Rg.does_func #[.int .i64 (s.1)] Try.func21 (by kernel_rfl) (by kernel_rfl) (by simp [h96]) (ref_n_calls wx (s.1) (HQk.out.1)) ?_
                rintro e w' ⟨rfl, hb'⟩
                exact ⟨_, rfl, hb', rfl⟩
              · intro _ a wx hb hk
                have h1 : a.eval (.tmp 1) = .pointer (some ⟨eb, 0, none⟩) := Eq.mp (by kernel_rfl) (hk 1 (by decide))
                exact Rs.does_field _ _ h1 (show (Instr.fieldAt 55 (.pointer (some ⟨eb, 0, none⟩)) 3).run Try.prog wx = .ok (.pointer (some ⟨eb, 6, none⟩)) wx from rfl) ⟨Below.refl _ _, rfl⟩
              · intro _ a wx hb hk
                have h98 : a.eval (.tmp 98) = .pointer (some ⟨eb, 6, none⟩) := Eq.mp (by kernel_rfl) (hk 98 (by decide))
                exact Rg.does_load _ _ h98 (Ap.load_plainP (by simp [isAgg]) (cell_below hb (Nat.le_refl _) HKs.out)) ⟨Below.refl _ _, rfl⟩
              · intro _ a wx hb hk
                have h6 : a.eval (.tmp 6) = .int .i64 (k : Int) := Eq.mp (by kernel_rfl) (hk 6 (by decide))
                exact Rg.does_move ⟨Below.refl _ _, h6⟩
              · intro _ a wx hb hk
                have h99 : a.eval (.tmp 99) = .slice (some ⟨b, o, none⟩) (kd.2.2.2).length k6 := Eq.mp (by kernel_rfl) (hk 99 (by decide))
                have h100 : a.eval (.tmp 100) = .int .i64 (k : Int) := Eq.mp (by kernel_rfl) (hk 100 (by decide))
                exact Rg.does_index _ _ _ h99 h100 (HX.out wx) ⟨Below.refl _ _, rfl⟩
              · intro _ a wx hb hk
                have h101 : a.eval (.tmp 101) = .pointer (some ⟨b, o + k * 2, none⟩) := Eq.mp (by kernel_rfl) (hk 101 (by decide))
                exact Rs.does_field _ _ h101 (show (Instr.fieldAt 127 (.pointer (some ⟨b, o + k * 2, none⟩)) 1).run Try.prog wx = .ok (.pointer (some ⟨b, o + k * 2 + 1, none⟩)) wx from rfl) ⟨Below.refl _ _, rfl⟩
              · intro _ a wx hb hk
                have h102 : a.eval (.tmp 102) = .pointer (some ⟨b, o + k * 2 + 1, none⟩) := Eq.mp (by kernel_rfl) (hk 102 (by decide))
                exact Rg.does_load _ _ h102 (Ap.load_plainP (by simp [isAgg]) (cell_below hb (Nat.le_refl _) HF1.out)) ⟨Below.refl _ _, rfl⟩
              · intro _ a wx hb hk
                have h103 : a.eval (.tmp 103) = .int .i64 (s.2) := Eq.mp (by kernel_rfl) (hk 103 (by decide))
                refine Rg.does_func #[.int .i64 (s.2)] Try.func21 (by kernel_rfl) (by kernel_rfl) (by simp [h103]) (ref_n_calls wx (s.2) (HQk.out.2)) ?_
                rintro e w' ⟨rfl, hb'⟩
                exact ⟨_, rfl, hb', rfl⟩
              · intro _ a wx hb hk
                have h97 : a.eval (.tmp 97) = .string (str (intB s.1)) := Eq.mp (by kernel_rfl) (hk 97 (by decide))
                have h104 : a.eval (.tmp 104) = .string (str (intB s.2)) := Eq.mp (by kernel_rfl) (hk 104 (by decide))
                exact Sw.does_bin_str (str (intB s.1)) (str (intB s.2)) _ h97 h104 (Sw.run_cat (by have h9 := HCat.out; (try simp only [List.length_append]); omega)) ⟨Below.refl _ _, rfl⟩
              · intro _ a wx hb hk
                have h90 : a.eval (.tmp 90) = .string (str (acc)) := Eq.mp (by kernel_rfl) (hk 90 (by decide))
                have h105 : a.eval (.tmp 105) = .string (str (intB s.1 ++ intB s.2)) := Eq.mp (by kernel_rfl) (hk 105 (by decide))
                exact Sw.does_bin_str (str (acc)) (str (intB s.1 ++ intB s.2)) _ h90 h105 (Sw.run_cat (by have h9 := HCat.out; (try simp only [List.length_append]); omega)) ⟨Below.refl _ _, rfl⟩
              · intro _ a wx hb hk
                have h106 : a.eval (.tmp 106) = .string (str (acc ++ (intB s.1 ++ intB s.2))) := Eq.mp (by kernel_rfl) (hk 106 (by decide))
                exact Rg.does_assign ⟨Below.refl _ _, h106⟩
              intro vals wD hbD hL
              obtain ⟨g0, g1, g2, g3, g4, g5, g6, g7, g8, g9, g10, g11, g12, g13, g14, g15, g16, g17, _⟩ := hL
              have g' : vals 17 = .string (str (acc ++ (intB s.1 ++ intB s.2))) := g17
              have HBD := Lib.hid hbD
              clear g0 g1 g2 g3 g4 g5 g6 g7 g8 g9 g10 g11 g12 g13 g14 g15 g16 g17 hbD
              simp only [Rg.putAll, List.setIfInBounds_toArray, List.set_cons_succ, List.set_cons_zero, g']
              clear g'
              have HB2 := Lib.hid (HB.out.trans (HBD.out.mono HB.out.size))
              have hk9 : k ≤ 100000000 := by have := HN6.out; omega
              go_wp2_with fail
              go_roundw
              case rel =>
                refine ⟨k + 1, by omega, by go_num, ?_, HB2.out⟩
                refine congrArg (fun l => Value.string (str l)) ?_
                rw [HT2.out, ← HAc.out]
                simp only [List.append_assoc]
              case measure => simp [intOf]; omega
            · obtain rfl : k = (kd.2.2.2).length := by omega
              rw [List.take_length]
              have u1 : decide (((kd.2.2.2).length : Int) < ((kd.2.2.2).length : Int)) = false := decide_eq_false (by omega)
              have u2 : ¬ (((kd.2.2.2).length : Int) < ((kd.2.2.2).length : Int)) := by omega
              have u3 : decide ((kd.2.2.2).length < (kd.2.2.2).length) = false := decide_eq_false (by omega)
              go_wp2_with fail
              go_ret
              refine ⟨congrArg (fun l => Ending.returned (Value.string (str l))) ?_, HB1.out.trans (HB.out.mono HB1.out.size)⟩
              rw [← HP3.out, ← HP2.out, ← HP1.out]
              show _ = envC.enc kd.1 ++ ((intB (kd.2.1.length : Int) ++ encs fnC kd.2.1) ++ ((intB (kd.2.2.1.length : Int) ++ encs trapC kd.2.2.1) ++ (intB (kd.2.2.2.length : Int) ++ encs prC kd.2.2.2)))
              simp only [List.append_assoc]
end Go.Proofs.Ytnmlnaoljkhjeaa
