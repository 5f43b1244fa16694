/-
  A frame, and the head's, as the document has them; whether rows of answers are the same. Conditions: the texts are short; the answers can be read.
-/
import Derived.Test.YtgbnfipbedlmhaaTpAwake
set_option linter.unusedVariables false
set_option maxRecDepth 100000
namespace Go.Proofs.Ytgbnfipbedlmhaa
open Go.RowKit Base

theorem headed_text (l : List UInt8) : headed l = textB l := rfl
set_option maxHeartbeats 1000000 in
theorem ref_one_calls (w : World) (s : List UInt8) (hs : s.length ≤ 100000000) :
    Calls Try.prog 15 #[.string (str s)] w fun e w' => e = .returned (.string (str (oneF s))) ∧ Below w.heap.size w w' := by
  have HT := Lib.hid (ref_text_calls w s (by omega))
  have hl := textB_len s (by unfold Lt64; omega)
  have HCat : Hid (str (textB s) ++ str (CrcPlain.tail (CrcPlain.of (textB s))) = str (oneF s)) := by show _ = _; rw [str_append]; rfl
  have HO := Lib.hid fun w => crc_ref_of_calls w (str (textB s)) (by rw [str_size]; unfold maxLen; omega)
  rw [str_data] at HO
  have HL := Lib.hid hl
  have hcs : (str (textB s)).size ≤ 1000000000 := by rw [str_size]; omega
  have hts : (str (CrcPlain.tail (CrcPlain.of (textB s)))).size = 4 := rfl
  generalize CrcPlain.of (textB s) = c at *
  generalize hX : str (CrcPlain.tail c) = X at HCat hts
  have HX := Lib.hid hX
  clear hl hX
  generalize str (textB s) = T at *
  go_enter Try.func15, Try.ntmps15
  go_wp2_with fail
  refine HT.out.mono ?_
  rintro e w1 ⟨rfl, hb1⟩
  go_wp2_with fail
  refine (HO.out w1).mono ?_
  rintro e w2 ⟨rfl, rfl⟩
  go_wp2_with fail
  refine (crc_ref_tail_calls _ c).mono ?_
  rintro e w3 ⟨rfl, hb3⟩
  rw [HX.out]
  go_wp2_with fail
  go_ret
  exact ⟨by rw [← HCat.out]; rfl, hb1.trans (hb3.mono hb1.size)⟩
set_option maxHeartbeats 1000000 in
theorem ref_head_calls (w : World) (s : List UInt8) (hs : s.length ≤ 100000) :
    Calls Try.prog 13 #[.string (str s)] w fun e w' => e = .returned (.string (str (framesB [headB s]))) ∧ Below w.heap.size w w' := by
  have hcat : (⟨#[107, 105, 110, 101, 116, 111, 115, 99, 111, 112, 101, 32, 49, 10]⟩ : ByteArray) ++ str s = str (headB s) := by
    have : magicS ++ str s = str (headB s) := by rw [magicS_str, str_append]; rfl
    exact this
  have hl := headB_len s
  have HO := Lib.hid (ref_one_calls w (headB s) (by omega))
  rw [← framesB_one, ← hcat] at HO
  have hcs : (str s).size ≤ 100000 := by rw [str_size]; exact hs
  clear hcat hl hs
  generalize str s = S at *
  go_enter Try.func13, Try.ntmps13
  go_wp2_with fail
  refine HO.out.mono ?_
  rintro e w1 ⟨rfl, hb1⟩
  go_wp2_with fail
  go_ret
  exact ⟨rfl, hb1⟩
set_option maxHeartbeats 2000000 in
/-- Rows of the same answers are the same. -/
theorem tp_same_calls (w : World) (x1 x2 : Option Addr) (n ca cb : Nat) (l : List Ans) (ha : Anss w x1 n ca l) (hb : Anss w x2 n cb l) :
    Calls Try.prog 20 #[.slice x1 n ca, .slice x2 n cb] w fun e w' => e = .returned (.bool true) ∧ Below w.heap.size w w' := by
  have hcap := ha.2.2.1
  have hnc := ha.2.1
  unfold maxLen at hcap
  have HA := Lib.hid ha
  have HB := Lib.hid hb
  have Hn := Lib.hid ha.1
  clear ha hb
  go_enter Try.func20, Try.ntmps20
  go_wp2_with fail
  go_loopw [5] (fun i wr => ∃ k : Nat, k ≤ n ∧ i = .int .i64 k ∧ Below w.heap.size w wr) (fun i _ => n - (intOf i).toNat)
  case atStart => exact ⟨0, Nat.zero_le _, rfl, Below.refl _ _⟩
  case round =>
    obtain ⟨k, hk, rfl, hbel⟩ := hrel
    by_cases hlt : k < n
    · have hkl : k < l.length := by rw [← Hn.out]; exact hlt
      obtain ⟨b1, o1, hrow1, hidx1⟩ := at_ans (HA.out.below stable_ansAt hbel)
      obtain ⟨b2, o2, hrow2, hidx2⟩ := at_ans (HB.out.below stable_ansAt hbel)
      obtain ⟨a1, c1, hc1, ht1⟩ := hrow1 k hkl
      obtain ⟨a2, c2, hc2, ht2⟩ := hrow2 k hkl
      have HC1 := Lib.hid hc1; have HC2 := Lib.hid hc2; have HT1 := Lib.hid ht1; have HT2 := Lib.hid ht2
      have HI1 := Lib.hid hidx1; have HI2 := Lib.hid hidx2
      have HBel := Lib.hid hbel
      clear hc1 hc2 ht1 ht2 hidx1 hidx2 hrow1 hrow2 hbel
      generalize l[k]'hkl = q at *
      have t1 : decide ((k : Int) < (n : Int)) = true := by simp; omega
      have t2 : (k : Int) < (n : Int) := by omega
      go_upto_region 6 with fail
      refine Rg.wp_region_rgl [] [Rg.Is (.slice x1 n ca), Rg.Is (.int .i64 (k : Int)), Rg.Is (.pointer (some ⟨b1, o1 + k * 7, none⟩)), Rg.Is (ansV q a1 c1), Rg.Is (.slice x2 n cb), Rg.Is (.int .i64 (k : Int)), Rg.Is (.pointer (some ⟨b2, o2 + k * 7, none⟩)), Rg.Is (ansV q a2 c2), Rg.Is (.bool true), Rg.Is (.bool true)] (by kernel_rfl) (by kernel_rfl) (by kernel_rfl) ⟨Rg.st_is _, Rg.st_is _, Rg.st_is _, Rg.st_is _, Rg.st_is _, Rg.st_is _, Rg.st_is _, Rg.st_is _, Rg.st_is _, Rg.st_is _, trivial⟩ ⟨rfl, rfl, rfl, rfl, rfl, rfl, rfl, rfl, rfl, rfl, trivial⟩ ⟨?_, ?_, ?_, ?_, ?_, ?_, ?_, ?_, ?_, ?_, trivial⟩ ?_
      · intro _ a wx hb hk
        have h0 : a.eval (.tmp 0) = .slice x1 n ca := Eq.mp (by kernel_rfl) (hk 0 (by decide))
        exact Rg.does_move ⟨Below.refl _ _, h0⟩
      · intro _ a wx hb hk
        have h5 : a.eval (.tmp 5) = .int .i64 (k : Int) := Eq.mp (by kernel_rfl) (hk 5 (by decide))
        exact Rg.does_move ⟨Below.refl _ _, h5⟩
      · intro _ a wx hb hk
        have h18 : a.eval (.tmp 18) = .slice x1 n ca := Eq.mp (by kernel_rfl) (hk 18 (by decide))
        have h19 : a.eval (.tmp 19) = .int .i64 (k : Int) := Eq.mp (by kernel_rfl) (hk 19 (by decide))
        exact Rg.does_index _ _ _ h18 h19 (HI1.out .i64 k wx hlt) ⟨Below.refl _ _, rfl⟩
      · intro _ a wx hb hk
        have h20 : a.eval (.tmp 20) = .pointer (some ⟨b1, o1 + k * 7, none⟩) := Eq.mp (by kernel_rfl) (hk 20 (by decide))
        exact Rg.does_load _ _ h20 (load_ansAt (fun j u hu => cell_below hb (Nat.le_refl _) (HC1.out j u hu))) ⟨Below.refl _ _, rfl⟩
      · intro _ a wx hb hk
        have h1 : a.eval (.tmp 1) = .slice x2 n cb := Eq.mp (by kernel_rfl) (hk 1 (by decide))
        exact Rg.does_move ⟨Below.refl _ _, h1⟩
      · intro _ a wx hb hk
        have h5 : a.eval (.tmp 5) = .int .i64 (k : Int) := Eq.mp (by kernel_rfl) (hk 5 (by decide))
        exact Rg.does_move ⟨Below.refl _ _, h5⟩
      · intro _ a wx hb hk
        have h22 : a.eval (.tmp 22) = .slice x2 n cb := Eq.mp (by kernel_rfl) (hk 22 (by decide))
        have h23 : a.eval (.tmp 23) = .int .i64 (k : Int) := Eq.mp (by kernel_rfl) (hk 23 (by decide))
        exact Rg.does_index _ _ _ h22 h23 (HI2.out .i64 k wx hlt) ⟨Below.refl _ _, rfl⟩
      · intro _ a wx hb hk
        have h24 : a.eval (.tmp 24) = .pointer (some ⟨b2, o2 + k * 7, none⟩) := Eq.mp (by kernel_rfl) (hk 24 (by decide))
        exact Rg.does_load _ _ h24 (load_ansAt (fun j u hu => cell_below hb (Nat.le_refl _) (HC2.out j u hu))) ⟨Below.refl _ _, rfl⟩
      · intro _ a wx hb hk
        have h21 : a.eval (.tmp 21) = ansV q a1 c1 := Eq.mp (by kernel_rfl) (hk 21 (by decide))
        have h25 : a.eval (.tmp 25) = ansV q a2 c2 := Eq.mp (by kernel_rfl) (hk 25 (by decide))
        refine Rg.does_func #[ansV q a1 c1, ansV q a2 c2] Try.func36 (by kernel_rfl) (by kernel_rfl) (by simp [h21, h25]) (ev_ref_sameans_calls wx q q a1 a2 c1 c2 (HT1.out.below stable_strAt hb) (HT2.out.below stable_strAt hb)) ?_
        rintro e w' ⟨rfl, hb'⟩
        exact ⟨_, rfl, hb', by rw [sameAB_self]; rfl⟩
      · intro _ a wx hb hk
        have h26 : a.eval (.tmp 26) = .bool true := Eq.mp (by kernel_rfl) (hk 26 (by decide))
        exact Rg.does_assign ⟨Below.refl _ _, h26⟩
      intro vals wD hbD hL
      obtain ⟨g0, g1, g2, g3, g4, g5, g6, g7, g8, g9, _⟩ := hL
      have g9' : vals 9 = .bool true := g9
      have HBn := Lib.hid (HBel.out.trans (hbD.mono HBel.out.size))
      clear g0 g1 g2 g3 g4 g5 g6 g7 g8 g9 hbD
      simp only [Rg.putAll, List.setIfInBounds_toArray, List.set_cons_succ, List.set_cons_zero, g9']
      go_wp2_with fail
      go_roundw
      case rel => exact ⟨k + 1, by omega, by go_num, HBn.out⟩
      case measure => simp [intOf]; omega
    · have t1 : decide ((k : Int) < (n : Int)) = false := by simp; omega
      have t2 : ¬ (k : Int) < (n : Int) := by omega
      go_wp2_with fail
      go_ret
      exact ⟨rfl, hbel⟩

end Go.Proofs.Ytgbnfipbedlmhaa
