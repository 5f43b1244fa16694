/-
  The walk of the statement TapeWrites. Conditions: the arguments can be read.
-/
import Derived.Test.YtgbnfipbedlmhaaTpRefs
set_option linter.unusedVariables false
set_option maxRecDepth 100000
namespace Go.Proofs.Ytgbnfipbedlmhaa
open Go.RowKit Base

theorem own_bytesT {w : World} {base : Nat} {a : Option Addr} {n cap : Nat} {l : List UInt8} {e : TypeId} (h : w.ownsRow base e 1 (.slice a n cap) n (l.map bv)) : Bytes w a n cap l := by
  obtain ⟨a', c', he, hb⟩ := ownsRow_bytes h
  cases he
  exact hb
theorem str_size_le (s : List UInt8) : (str s).size ≤ s.length ∧ s.length ≤ (str s).size := ⟨Nat.le_refl _, Nat.le_refl _⟩
set_option maxHeartbeats 8000000 in
theorem tapeWrites_calls (w : World) (s : List UInt8) (hs : s.length ≤ maxLen) (ax : Option Addr) (n cap : Nat) (l : List Ans) (hA : Anss w ax n cap l) (hF : ∀ q ∈ l, q.Fine) :
    Calls Try.prog 3 #[.string (str s), .slice ax n cap] w fun e w' => e = .returned (.bool true) ∧ Below w.heap.size w w' := by
  have HAw := Lib.hid (tp_awake_calls w)
  have hcap := hA.2.2.1
  have hnc := hA.2.1
  unfold maxLen at hcap hs
  obtain ⟨hz1, hz2⟩ := str_size_le s
  obtain ⟨i0, hi, hi1, hi2, hi3⟩ := info_parts info_ans
  have Hn : Hid (n = l.length) := hA.1
  have HA := Lib.hid hA
  have HF := Lib.hid hF
  clear hA hF
  go_enter Try.func3, Try.ntmps3
  go_wp2_with fail
  refine (HAw.out).mono ?_
  rintro e w1 ⟨rfl, hb1⟩
  have HA1 := Lib.hid (HA.out.below stable_ansAt hb1)
  have HB1 := Lib.hid hb1
  have HFew := Lib.hid (tp_few_calls w1 ax n cap l HA1.out)
  clear hb1
  by_cases hfew : fewT l = true
  rotate_left
  · have hff : fewT l = false := by simpa using hfew
    rw [hff] at HFew
    clear hfew hff
    go_wp2_with fail
    refine (HFew.out).mono ?_
    rintro e w2 ⟨rfl, rfl⟩
    go_wp2_with fail
    go_ret
    exact ⟨rfl, HB1.out⟩
  rw [hfew] at HFew
  have HSh : Hid ((∀ q ∈ l, q.Short) ∧ l.length ≤ 40) := (fewT_iff l).1 hfew
  clear hfew
  go_wp2_with fail
  refine (HFew.out).mono ?_
  rintro e w2 ⟨rfl, rfl⟩
  by_cases h5 : 5000 < s.length
  · have t1 : decide ((5000 : Int) < ((str s).size : Int)) = true := decide_eq_true (by omega)
    have t2 : (5000 : Int) < ((str s).size : Int) := by omega
    go_wp2_with fail
    go_ret
    exact ⟨rfl, HB1.out⟩
  have t1 : decide ((5000 : Int) < ((str s).size : Int)) = false := decide_eq_false (by omega)
  have t2 : ¬ ((5000 : Int) < ((str s).size : Int)) := by omega
  by_cases h4 : 4096 < s.length
  · have u1 : decide ((4096 : Int) < ((str s).size : Int)) = true := decide_eq_true (by omega)
    have u2 : (4096 : Int) < ((str s).size : Int) := by omega
    have HNew := Lib.hid (new_long_calls w1 s h4)
    go_wp2_with fail
    refine (HNew.out).mono ?_
    rintro e w2 ⟨rfl, rfl⟩
    go_wp2_with fail
    refine (add_nil_calls _ _).mono ?_
    rintro e w2 ⟨rfl, rfl⟩
    go_wp2_with fail
    refine (bytes_nil_calls _).mono ?_
    rintro e w2 ⟨rfl, rfl⟩
    go_wp2_with fail
    go_ret
    exact ⟨rfl, HB1.out⟩
  have u1 : decide ((4096 : Int) < ((str s).size : Int)) = false := decide_eq_false (by omega)
  have u2 : ¬ ((4096 : Int) < ((str s).size : Int)) := by omega
  have HNew := Lib.hid (new_calls w1 s (by omega))
  have hhl := head_len (s := s) (by omega)
  go_wp2_with fail
  refine (HNew.out).mono ?_
  rintro e w2 ⟨rfl, v2, hw2, hb2⟩
  have HHead := Lib.hid (ref_head_calls w2 s (by omega))
  have HW2 := Lib.hid hw2
  have HB2 := Lib.hid hb2
  clear hw2 hb2
  go_wp2_with fail
  refine (HHead.out).mono ?_
  rintro e w3 ⟨rfl, hb3⟩
  have HW3 : Hid (WtrAt w3 w1.heap.size v2 (framesB [headB s])) := HW2.out.stay hb3
  have HB13 : Hid (Below w1.heap.size w1 w3) := HB2.out.trans (hb3.mono HB2.out.size)
  have HA3 := Lib.hid (HA1.out.below stable_ansAt HB13.out)
  have HQ : Hid (w1.heap.size < w3.heap.size) := HW3.out.lt
  clear hb3 HHead HNew
  have HHd0 : Hid (0 < (framesB [headB s]).length) := by show _ < _; rw [framesB_one, oneF_len]; omega
  generalize framesB [headB s] = hd at *
  have HWl : Hid (∀ k, k ≤ fitN l → (wroteA l k).length ≤ k * 3020) := wroteA_le (fun q hq => ⟨HSh.out.1 q hq, HF.out q hq⟩) (fun i hi h => fitN_lt h hi)
  have HFle : Hid (fitN l ≤ n) := by show _ ≤ _; rw [Hn.out]; exact fitN_le l
  have HN40 : Hid (n ≤ 40) := by show _ ≤ _; rw [Hn.out]; exact HSh.out.2
  obtain ⟨f, hf⟩ : ∃ f, f = fitN l := ⟨_, rfl⟩
  have hhd : Hid (hd.length ≤ 4200) := hhl
  have HFE := Lib.hid hf
  rw [← hf] at HWl HFle
  clear hf hhl
  go_wp2_with fail
  go_loopw [8, 9, 10] (fun x al i wr => ∃ (k m : Nat) (b : Bool), k ≤ n ∧ i = .int .i64 k ∧ al = .bool b ∧ x = .string (str (hd ++ wroteA l m)) ∧ Below w3.heap.size w3 wr ∧ ((b = true ∧ m = k ∧ k ≤ f) ∨ (b = false ∧ m = f ∧ k = f + 1))) (fun _ _ i _ => n - (intOf i).toNat)
  case atStart => exact ⟨0, 0, true, Nat.zero_le _, rfl, rfl, by simp [wroteA, framesB], Below.refl _ _, .inl ⟨rfl, rfl, Nat.zero_le _⟩⟩
  case round =>
    obtain ⟨k, m, b, hk, rfl, rfl, rfl, hbel, hcase⟩ := hrel
    have HBel := Lib.hid hbel
    clear hbel
    by_cases hgo : k < n ∧ b = true
    · obtain ⟨hlt, rfl⟩ := hgo
      obtain ⟨rfl, hkf⟩ : m = k ∧ k ≤ f := by rcases hcase with ⟨_, h1, h2⟩ | ⟨h1, _⟩; exact ⟨h1, h2⟩; cases h1
      have hkl : m < l.length := by rw [← Hn.out]; exact hlt
      obtain ⟨bb, off, hrow, hidx⟩ := (HA3.out.below stable_ansAt HBel.out).at (P := Try.prog)
      have hix := fun w' => hidx 22 34 i0 Try.underlying22 hi hi2 .i64 m w' hlt
      obtain ⟨ar, cr, hcells, hstr⟩ := hrow m hkl
      have hx : l[m].Short ∧ l[m].Fine := ⟨HSh.out.1 _ (List.getElem_mem hkl), HF.out _ (List.getElem_mem hkl)⟩
      have hstp := wroteA_step hkl
      have hfit : m < f → fitsB l[m].kind l[m] = true := fun h => fitN_lt (by rw [← HFE.out]; exact h) hkl
      have hnot : m = f → fitsB l[m].kind l[m] = false := fun h => by subst h; have h3 := fitN_at (l := l); rw [← HFE.out] at h3; exact h3 hkl
      have hwl := HWl.out m hkf
      have Hcells := Lib.hid hcells
      have Hstr := Lib.hid hstr
      have Hx := Lib.hid hx
      have Hstp := Lib.hid hstp
      have Hfit := Lib.hid hfit
      have Hnot := Lib.hid hnot
      have Hix := Lib.hid hix
      have Hwl := Lib.hid hwl
      clear hcells hstr hx hstp hfit hnot hix hwl
      clear hrow hidx hcase
      generalize l[m]'hkl = q at *
      have t1 : decide ((m : Int) < (n : Int)) = true := decide_eq_true (by omega)
      have t2 : (m : Int) < (n : Int) := by omega
      by_cases hkf2 : m < f
      · have hft := Hfit.out hkf2
        have HOut : Hid (tellBOut q = tellB q) := by show _ = _; unfold tellBOut; rw [if_pos hft]
        go_upto_region 15 with fail
        refine Rg.wp_region_rgl [] [Rg.Is (.slice ax n cap), Rg.Is (.int .i64 (m : Int)), Rg.Is (.pointer (some ⟨bb, off + m * 7, none⟩)), Rg.Is (.pointer (some ⟨bb, off + m * 7, none⟩)), Rg.Is (.int .i64 q.kind), Rg.Is (.slice ax n cap), Rg.Is (.int .i64 (m : Int)), Rg.Is (.pointer (some ⟨bb, off + m * 7, none⟩)), Rg.Is (ansV q ar cr), Rg.Is (.bool true), Rg.Is (.bool true)] (by kernel_rfl) (by kernel_rfl) (by kernel_rfl) ⟨Rg.st_is _, Rg.st_is _, Rg.st_is _, Rg.st_is _, Rg.st_is _, Rg.st_is _, Rg.st_is _, Rg.st_is _, Rg.st_is _, Rg.st_is _, Rg.st_is _, trivial⟩ ⟨rfl, rfl, rfl, rfl, rfl, rfl, rfl, rfl, rfl, rfl, rfl, trivial⟩ ⟨?_, ?_, ?_, ?_, ?_, ?_, ?_, ?_, ?_, ?_, ?_, trivial⟩ ?_
        · intro _ a wx hb hk
          have h1 : a.eval (.tmp 1) = .slice ax n cap := Eq.mp (by kernel_rfl) (hk 1 (by decide))
          exact Rg.does_move ⟨Below.refl _ _, h1⟩
        · intro _ a wx hb hk
          have h10 : a.eval (.tmp 10) = .int .i64 (m : Int) := Eq.mp (by kernel_rfl) (hk 10 (by decide))
          exact Rg.does_move ⟨Below.refl _ _, h10⟩
        · intro _ a wx hb hk
          have h54 : a.eval (.tmp 54) = .slice ax n cap := Eq.mp (by kernel_rfl) (hk 54 (by decide))
          have h55 : a.eval (.tmp 55) = .int .i64 (m : Int) := Eq.mp (by kernel_rfl) (hk 55 (by decide))
          exact Rg.does_index _ _ _ h54 h55 (Hix.out wx) ⟨Below.refl _ _, rfl⟩
        · intro _ a wx hb hk
          have h56 : a.eval (.tmp 56) = .pointer (some ⟨bb, off + m * 7, none⟩) := Eq.mp (by kernel_rfl) (hk 56 (by decide))
          exact Rs.does_field _ _ h56 (ans_o0 bb _ wx) ⟨Below.refl _ _, rfl⟩
        · intro _ a wx hb hk
          have h57 : a.eval (.tmp 57) = .pointer (some ⟨bb, off + m * 7, none⟩) := Eq.mp (by kernel_rfl) (hk 57 (by decide))
          exact Rg.does_load _ _ h57 (load_int (cell_below hb (Nat.le_refl _) (Hcells.out 0 _ rfl))) ⟨Below.refl _ _, rfl⟩
        · intro _ a wx hb hk
          have h1 : a.eval (.tmp 1) = .slice ax n cap := Eq.mp (by kernel_rfl) (hk 1 (by decide))
          exact Rg.does_move ⟨Below.refl _ _, h1⟩
        · intro _ a wx hb hk
          have h10 : a.eval (.tmp 10) = .int .i64 (m : Int) := Eq.mp (by kernel_rfl) (hk 10 (by decide))
          exact Rg.does_move ⟨Below.refl _ _, h10⟩
        · intro _ a wx hb hk
          have h59 : a.eval (.tmp 59) = .slice ax n cap := Eq.mp (by kernel_rfl) (hk 59 (by decide))
          have h60 : a.eval (.tmp 60) = .int .i64 (m : Int) := Eq.mp (by kernel_rfl) (hk 60 (by decide))
          exact Rg.does_index _ _ _ h59 h60 (Hix.out wx) ⟨Below.refl _ _, rfl⟩
        · intro _ a wx hb hk
          have h61 : a.eval (.tmp 61) = .pointer (some ⟨bb, off + m * 7, none⟩) := Eq.mp (by kernel_rfl) (hk 61 (by decide))
          exact Rg.does_load _ _ h61 (load_ansAt (fun j u hu => cell_below hb (Nat.le_refl _) (Hcells.out j u hu))) ⟨Below.refl _ _, rfl⟩
        · intro _ a wx hb hk
          have h58 : a.eval (.tmp 58) = .int .i64 q.kind := Eq.mp (by kernel_rfl) (hk 58 (by decide))
          have h62 : a.eval (.tmp 62) = ansV q ar cr := Eq.mp (by kernel_rfl) (hk 62 (by decide))
          refine Rg.does_func #[.int .i64 q.kind, ansV q ar cr] Try.func14 (by kernel_rfl) (by kernel_rfl) (by simp [h58, h62]) (ev_ref_fits_calls wx q.kind q ar cr) ?_
          rintro e w' ⟨rfl, hb'⟩
          exact ⟨_, rfl, hb', by rw [hft]; rfl⟩
        · intro _ a wx hb hk
          have h63 : a.eval (.tmp 63) = .bool true := Eq.mp (by kernel_rfl) (hk 63 (by decide))
          exact Rg.does_assign ⟨Below.refl _ _, h63⟩
        intro vals wD hbD hL
        obtain ⟨g0, g1, g2, g3, g4, g5, g6, g7, g8, g9, g10, _⟩ := hL
        have g10' : vals 10 = .bool true := g10
        clear g0 g1 g2 g3 g4 g5 g6 g7 g8 g9 g10
        simp only [Rg.putAll, List.setIfInBounds_toArray, List.set_cons_succ, List.set_cons_zero, g10']
        have HBD := Lib.hid hbD
        clear hbD g10'
        have c0 : wD.cell? ⟨bb, off + m * 7, none⟩ = some (.int .i64 q.kind) := cell_below HBD.out (Nat.le_refl _) (Hcells.out 0 _ rfl)
        have c1 : wD.cell? ⟨bb, off + m * 7 + 1, none⟩ = some (.int .i64 q.err) := cell_below HBD.out (Nat.le_refl _) (Hcells.out 1 _ rfl)
        have c2 : wD.cell? ⟨bb, off + m * 7 + 2, none⟩ = some (.int .i64 q.n) := cell_below HBD.out (Nat.le_refl _) (Hcells.out 2 _ rfl)
        have c3 : wD.cell? ⟨bb, off + m * 7 + 3, none⟩ = some (.int .i64 q.m) := cell_below HBD.out (Nat.le_refl _) (Hcells.out 3 _ rfl)
        have c4 : wD.cell? ⟨bb, off + m * 7 + 4, none⟩ = some (.string (str q.text)) := cell_below HBD.out (Nat.le_refl _) (Hcells.out 4 _ rfl)
        have c5 : wD.cell? ⟨bb, off + m * 7 + 5, none⟩ = some (.slice ar q.list.length cr) := cell_below HBD.out (Nat.le_refl _) (Hcells.out 5 _ rfl)
        have c6 : wD.cell? ⟨bb, off + m * 7 + 6, none⟩ = some (.int .i64 q.sig) := cell_below HBD.out (Nat.le_refl _) (Hcells.out 6 _ rfl)
        have hix := Hix.out
        have HTell := Lib.hid (ev_ref_tell_calls wD q ar cr (Hstr.out.below stable_strAt HBD.out) Hx.out.2.n Hx.out.2.m (by have := Hx.out.1.text; omega) (by have := texts_short' Hx.out.1; omega))
        have hl3 := tellB_short Hx.out.1 Hx.out.2 hft
        unfold ansV at HTell
        rw [HOut.out] at HTell
        clear hft
        go_wp2_with fail
        refine (HTell.out).mono ?_
        rintro e w5 ⟨rfl, hb5⟩
        have HOne := Lib.hid (ref_one_calls w5 (tellB q) (by omega))
        have HB5 := Lib.hid hb5
        have hol := oneF_len (tellB q)
        have hnl := num_len (tellB q).length (by unfold Lt64; omega)
        have hz3 : (str (oneF (tellB q))).size ≤ 4000 := by rw [str_size]; omega
        have hz4 : (str (hd ++ wroteA l m)).size ≤ 1000000 := by rw [str_size, List.length_append]; have := hhd.out; have := Hwl.out; have := HN40.out; omega
        have HCat : Hid (str (hd ++ wroteA l m) ++ str (oneF (tellB q)) = str (hd ++ wroteA l (m + 1))) := by show _ = _; rw [str_append, Hstp.out, framesB_one, List.append_assoc]
        clear hol hnl hb5 HTell c0 c1 c2 c3 c4 c5 c6 hix
        generalize str (oneF (tellB q)) = S2 at *
        generalize hS1 : str (hd ++ wroteA l m) = S1 at *
        clear hS1
        go_wp2_with fail
        refine (HOne.out).mono ?_
        rintro e w6 ⟨rfl, hb6⟩
        have HB6 := Lib.hid hb6
        clear hb6
        go_wp2_with fail
        go_roundw
        case rel => exact ⟨m + 1, m + 1, true, by omega, by go_num, rfl, by rw [HCat.out], ((HBel.out.trans (HBD.out.mono HBel.out.size)).trans (HB5.out.mono (Nat.le_trans HBel.out.size HBD.out.size))).trans (HB6.out.mono (Nat.le_trans (Nat.le_trans HBel.out.size HBD.out.size) HB5.out.size)), .inl ⟨rfl, rfl, by omega⟩⟩
        case measure => simp [intOf]; omega
      · have hkf3 : m = f := by omega
        have hft := Hnot.out hkf3
        have HKF := Lib.hid hkf3
        clear hkf3
        go_upto_region 15 with fail
        refine Rg.wp_region_rgl [] [Rg.Is (.slice ax n cap), Rg.Is (.int .i64 (m : Int)), Rg.Is (.pointer (some ⟨bb, off + m * 7, none⟩)), Rg.Is (.pointer (some ⟨bb, off + m * 7, none⟩)), Rg.Is (.int .i64 q.kind), Rg.Is (.slice ax n cap), Rg.Is (.int .i64 (m : Int)), Rg.Is (.pointer (some ⟨bb, off + m * 7, none⟩)), Rg.Is (ansV q ar cr), Rg.Is (.bool false), Rg.Is (.bool false)] (by kernel_rfl) (by kernel_rfl) (by kernel_rfl) ⟨Rg.st_is _, Rg.st_is _, Rg.st_is _, Rg.st_is _, Rg.st_is _, Rg.st_is _, Rg.st_is _, Rg.st_is _, Rg.st_is _, Rg.st_is _, Rg.st_is _, trivial⟩ ⟨rfl, rfl, rfl, rfl, rfl, rfl, rfl, rfl, rfl, rfl, rfl, trivial⟩ ⟨?_, ?_, ?_, ?_, ?_, ?_, ?_, ?_, ?_, ?_, ?_, trivial⟩ ?_
        · intro _ a wx hb hk
          have h1 : a.eval (.tmp 1) = .slice ax n cap := Eq.mp (by kernel_rfl) (hk 1 (by decide))
          exact Rg.does_move ⟨Below.refl _ _, h1⟩
        · intro _ a wx hb hk
          have h10 : a.eval (.tmp 10) = .int .i64 (m : Int) := Eq.mp (by kernel_rfl) (hk 10 (by decide))
          exact Rg.does_move ⟨Below.refl _ _, h10⟩
        · intro _ a wx hb hk
          have h54 : a.eval (.tmp 54) = .slice ax n cap := Eq.mp (by kernel_rfl) (hk 54 (by decide))
          have h55 : a.eval (.tmp 55) = .int .i64 (m : Int) := Eq.mp (by kernel_rfl) (hk 55 (by decide))
          exact Rg.does_index _ _ _ h54 h55 (Hix.out wx) ⟨Below.refl _ _, rfl⟩
        · intro _ a wx hb hk
          have h56 : a.eval (.tmp 56) = .pointer (some ⟨bb, off + m * 7, none⟩) := Eq.mp (by kernel_rfl) (hk 56 (by decide))
          exact Rs.does_field _ _ h56 (ans_o0 bb _ wx) ⟨Below.refl _ _, rfl⟩
        · intro _ a wx hb hk
          have h57 : a.eval (.tmp 57) = .pointer (some ⟨bb, off + m * 7, none⟩) := Eq.mp (by kernel_rfl) (hk 57 (by decide))
          exact Rg.does_load _ _ h57 (load_int (cell_below hb (Nat.le_refl _) (Hcells.out 0 _ rfl))) ⟨Below.refl _ _, rfl⟩
        · intro _ a wx hb hk
          have h1 : a.eval (.tmp 1) = .slice ax n cap := Eq.mp (by kernel_rfl) (hk 1 (by decide))
          exact Rg.does_move ⟨Below.refl _ _, h1⟩
        · intro _ a wx hb hk
          have h10 : a.eval (.tmp 10) = .int .i64 (m : Int) := Eq.mp (by kernel_rfl) (hk 10 (by decide))
          exact Rg.does_move ⟨Below.refl _ _, h10⟩
        · intro _ a wx hb hk
          have h59 : a.eval (.tmp 59) = .slice ax n cap := Eq.mp (by kernel_rfl) (hk 59 (by decide))
          have h60 : a.eval (.tmp 60) = .int .i64 (m : Int) := Eq.mp (by kernel_rfl) (hk 60 (by decide))
          exact Rg.does_index _ _ _ h59 h60 (Hix.out wx) ⟨Below.refl _ _, rfl⟩
        · intro _ a wx hb hk
          have h61 : a.eval (.tmp 61) = .pointer (some ⟨bb, off + m * 7, none⟩) := Eq.mp (by kernel_rfl) (hk 61 (by decide))
          exact Rg.does_load _ _ h61 (load_ansAt (fun j u hu => cell_below hb (Nat.le_refl _) (Hcells.out j u hu))) ⟨Below.refl _ _, rfl⟩
        · intro _ a wx hb hk
          have h58 : a.eval (.tmp 58) = .int .i64 q.kind := Eq.mp (by kernel_rfl) (hk 58 (by decide))
          have h62 : a.eval (.tmp 62) = ansV q ar cr := Eq.mp (by kernel_rfl) (hk 62 (by decide))
          refine Rg.does_func #[.int .i64 q.kind, ansV q ar cr] Try.func14 (by kernel_rfl) (by kernel_rfl) (by simp [h58, h62]) (ev_ref_fits_calls wx q.kind q ar cr) ?_
          rintro e w' ⟨rfl, hb'⟩
          exact ⟨_, rfl, hb', by rw [hft]; rfl⟩
        · intro _ a wx hb hk
          have h63 : a.eval (.tmp 63) = .bool false := Eq.mp (by kernel_rfl) (hk 63 (by decide))
          exact Rg.does_assign ⟨Below.refl _ _, h63⟩
        intro vals wD hbD hL
        obtain ⟨g0, g1, g2, g3, g4, g5, g6, g7, g8, g9, g10, _⟩ := hL
        have g10' : vals 10 = .bool false := g10
        clear g0 g1 g2 g3 g4 g5 g6 g7 g8 g9 g10
        simp only [Rg.putAll, List.setIfInBounds_toArray, List.set_cons_succ, List.set_cons_zero, g10']
        have HBD := Lib.hid hbD
        clear hbD g10'
        clear hft
        go_wp2_with fail
        go_roundw
        case rel => exact ⟨m + 1, m, false, by omega, by go_num, rfl, rfl, HBel.out.trans (HBD.out.mono HBel.out.size), .inr ⟨rfl, HKF.out, by rw [HKF.out]⟩⟩
        case measure => simp [intOf]; omega
    · have hmf : m = f ∧ b = decide (f = n) := by
        have hfn := HFle.out
        rcases hcase with ⟨rfl, rfl, h2⟩ | ⟨rfl, rfl, h2⟩
        · have : ¬ m < n := fun h => hgo ⟨h, rfl⟩
          refine ⟨by omega, (decide_eq_true (by omega)).symm⟩
        · refine ⟨rfl, (decide_eq_false (by omega)).symm⟩
      obtain ⟨rfl, hb⟩ := hmf
      have Hb : Hid (decide (fitN l = l.length) = b) := by show decide (fitN l = l.length) = b; rw [hb, ← HFE.out, ← Hn.out]
      have HAdd := Lib.hid (add_calls wr w1.heap.size v2 hd (HW3.out.stay HBel.out) ax n cap l (fun w' v' hst => HA1.out.below stable_ansAt ((HB13.out.trans (HBel.out.mono (Nat.le_of_lt HQ.out))).trans (hst.below (Nat.le_trans (Nat.le_of_lt HQ.out) HBel.out.size) (Nat.le_refl _) (fun j hj => Nat.le_of_lt (HW3.out.low hj).1)))) (fun q hq => ⟨HSh.out.1 q hq, HF.out q hq⟩) (by have := HN40.out; rw [Hn.out] at this; omega) (by have := hhd.out; omega))
      rw [Hb.out, ← HFE.out] at HAdd
      have hwl := HWl.out m (Nat.le_refl _)
      have HTot : Hid ((hd ++ wroteA l m).length ≤ 200000) := by show _ ≤ _; rw [List.length_append]; have := hhd.out; have := HFle.out; have := HN40.out; omega
      have HPos : Hid (0 < (hd ++ wroteA l m).length) := by show _ < _; rw [List.length_append]; have := HHd0.out; omega
      clear hb hwl
      have h3 : ((decide ((k : Int) < (n : Int)) = true ∧ (k : Int) < (n : Int)) ∧ b = false) ∨ ((decide ((k : Int) < (n : Int)) = false ∧ ¬ (k : Int) < (n : Int)) ∧ b = true) ∨ ((decide ((k : Int) < (n : Int)) = false ∧ ¬ (k : Int) < (n : Int)) ∧ b = false) := by
        by_cases hlt : k < n
        · refine .inl ⟨⟨decide_eq_true (by omega), by omega⟩, ?_⟩
          cases b
          · rfl
          · exact absurd ⟨hlt, rfl⟩ hgo
        · cases b
          · exact .inr (.inr ⟨⟨decide_eq_false (by omega), by omega⟩, rfl⟩)
          · exact .inr (.inl ⟨⟨decide_eq_false (by omega), by omega⟩, rfl⟩)
      have HBd : Hid (Below w1.heap.size w1 wr) := HB13.out.trans (HBel.out.mono (Nat.le_of_lt HQ.out))
      have HQr : Hid (w1.heap.size ≤ wr.heap.size) := HBd.out.size
      have HLow : Hid (∀ j, v2.ownBlock = some j → w1.heap.size ≤ j) := fun j hj => Nat.le_of_lt (HW3.out.low hj).1
      clear hgo hcase
      rcases h3 with ⟨⟨t1, t2⟩, rfl⟩ | ⟨⟨t1, t2⟩, rfl⟩ | ⟨⟨t1, t2⟩, rfl⟩
      all_goals
        go_wp2_with fail
        refine (HAdd.out).mono ?_
        rintro e w4 ⟨rfl, v4, hw4, hst4⟩
        have HB4 : Hid (Below w1.heap.size w1 w4) := HBd.out.trans (hst4.below HQr.out (Nat.le_refl _) HLow.out)
        have HW4 := Lib.hid hw4
        have HBy := Lib.hid (bytes_calls w4 _ _ _ hw4 (by have := HTot.out; omega))
        clear hw4 hst4
        generalize hd ++ wroteA l m = bs at *
        have HP0 := Lib.hid HPos.out
        go_wp2_with fail
        refine (HBy.out).mono ?_
        rintro e w5 ⟨u5, rfl, hown5, hb5⟩
        obtain ⟨a5, c5, rfl, hby5⟩ := ownsRow_bytes hown5
        have hcv5 := str_bytes hby5
        have HW5 := Lib.hid (HW4.out.stay hb5)
        have HB5 := Lib.hid (HB4.out.trans (hb5.mono HB4.out.size))
        have HBy5 := Lib.hid (bytes_calls w5 _ _ _ HW5.out (by have := HTot.out; omega))
        clear hown5 hby5 hb5
        generalize hS : str bs = S at *
        have HS := Lib.hid hS
        clear hS
        go_wp2_with fail
        refine (HBy5.out).mono ?_
        rintro e w6 ⟨u6, rfl, hown6, hb6⟩
        obtain ⟨g6, c6, cur, rfl, hle6, hg6⟩ : ∃ g c cur, u6 = .slice (some ⟨g, 0, none⟩) bs.length c ∧ w5.heap.size ≤ g ∧ w6.heap[g]? = some (.cells cur 5 (0, 0)) := by
          rcases hown6.2 with ⟨_, h0⟩ | ⟨g, c, cur, h1, h2, h3, _⟩
          · have := HP0.out; omega
          · exact ⟨g, c, cur, h1, h2, h3⟩
        have hpos : 0 < bs.length := HP0.out
        have hcell : w6.cell? ⟨g6, 0, none⟩ = some (.int .u8 ((bs[0]'hpos).toNat : Int)) := by
          have := hown6.cells (g := g6) rfl 0 (bv (bs[0]'hpos)) (by simp [hpos])
          simpa [Addr.add, bv] using this
        have hfz : w6.frozen? ⟨g6, 0, none⟩ = false := by simp [World.frozen?, hg6]
        have HB7 : Hid (∀ v, Below w5.heap.size w5 (w6.setCell ⟨g6, 0, none⟩ v)) := fun v => hb6.setCell hle6 v
        have HBy7 : Hid (∀ v, Calls Try.prog 12 #[.pointer (some ⟨w1.heap.size, 0, none⟩)] (w6.setCell ⟨g6, 0, none⟩ v) fun e w' => ∃ u, e = .returned u ∧ w'.ownsRow (w6.setCell ⟨g6, 0, none⟩ v).heap.size 5 1 u bs.length (bs.map bv) ∧ Below (w6.setCell ⟨g6, 0, none⟩ v).heap.size (w6.setCell ⟨g6, 0, none⟩ v) w') := fun v => bytes_calls _ _ _ _ (HW5.out.stay (HB7.out v)) (by have := HTot.out; omega)
        generalize bs[0]'hpos = x0 at *
        clear hown6 hb6 hg6 hle6
        go_wp2_with fail
        refine (HBy7.out _).mono ?_
        rintro e w8 ⟨u8, rfl, hown8, hb8⟩
        obtain ⟨a8, c8, rfl, hby8⟩ := ownsRow_bytes hown8
        have hcv8 := str_bytes hby8
        rw [HS.out] at hcv8
        have HB8 : Hid (Below w.heap.size w w8) := HB1.out.trans (((HB5.out.trans ((HB7.out _).mono HB5.out.size)).trans (hb8.mono (Nat.le_trans HB5.out.size (HB7.out _).size))).mono HB1.out.size)
        clear hown8 hby8 hb8
        go_wp2_with fail
        go_ret
        exact ⟨rfl, HB8.out⟩
end Go.Proofs.Ytgbnfipbedlmhaa
