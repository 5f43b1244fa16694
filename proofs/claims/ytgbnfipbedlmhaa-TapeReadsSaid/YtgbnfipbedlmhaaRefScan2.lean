/-
  The reference's Scan of frames. Conditions: the texts are short.
-/
import Derived.Test.YtgbnfipbedlmhaaRefScan
set_option linter.unusedVariables false
set_option maxRecDepth 100000
namespace Go.Proofs.Ytgbnfipbedlmhaa
open Go.RowKit Base

def ScanPost (b : List UInt8) (B : Nat) (w : World) (r : Ending) (w' : World) : Prop :=
  ∃ K v, EndsF b K ∧ r = .returned (.tuple #[v, .int .i64 ((stF b K).2 : Int), .int .i64 (endE3 b K)]) ∧ w'.ownsRow B 9 1 v K ((stF b K).1.map sv) ∧ Below B w w'
set_option maxHeartbeats 2000000 in
theorem ref_scanF_calls (w : World) (b : List UInt8) (hb : b.length ≤ 100000000) :
    Calls Try.prog 34 #[.string (str b)] w (ScanPost b w.heap.size w) := by
  obtain ⟨i0, hi, hz0, hz1, hz2⟩ := info_parts info_string
  obtain ⟨hs1, hs2⟩ : (str b).size ≤ b.length ∧ b.length ≤ (str b).size := ⟨Nat.le_refl _, Nat.le_refl _⟩
  obtain ⟨B, hB⟩ : ∃ B, B = w.heap.size := ⟨_, rfl⟩
  have HBq := Lib.hid hB
  rw [← hB]
  clear hB
  go_enter Try.func34, Try.ntmps34
  go_wp2_with fail
  go_loopw [5, 6] (fun v i wr => ∃ k : Nat, GoodF b k ∧ i = .int .i64 ((stF b k).2 : Int) ∧ wr.ownsRow B 9 1 v k ((stF b k).1.map sv) ∧ Below B w wr) (fun _ i _ => b.length - (intOf i).toNat)
  case atStart => exact ⟨0, fun j hj => absurd hj (by omega), rfl, World.ownsRow_nil _ _ _ _, by rw [HBq.out]; exact Below.refl _ _⟩
  case round =>
    obtain ⟨k, hg, rfl, hown, hbel⟩ := hrel
    have hle := goodF_le hg
    have hsucc := @goodF_succ b k hg
    have hst : stF b (k + 1) = ((stF b k).1 ++ [(takeF (b.drop (stF b k).2)).1], (stF b k).2 + (takeF (b.drop (stF b k).2)).2.1) := rfl
    have HE : Hid (EndsF b k ↔ (takeF (b.drop (stF b k).2)).2.2 ≠ 0) := ⟨fun h => h.2, fun h => ⟨hg, h⟩⟩
    have HEnd : Hid (endE3 b k = if (stF b k).2 = b.length then 0 else (takeF (b.drop (stF b k).2)).2.2) := rfl
    have htl := stF_len b k
    obtain ⟨ao, co, rfl, _, _, _, _⟩ := ownsRow_slice hown
    have HSt := Lib.hid hst
    have HSucc := Lib.hid hsucc
    have HOwn := Lib.hid hown
    have HBel := Lib.hid hbel
    have HTl := Lib.hid htl
    have hBw : B ≤ wr.heap.size := by have := HBel.out.size; have := HBq.out; omega
    clear hst hsucc hown hbel hg htl
    generalize hm : (stF b k).2 = m at *
    have HM := Lib.hid hm
    clear hm
    have h5 := hle.2
    have h6 := hle.1
    clear hle
    by_cases hlt : m < b.length
    · have t1 : decide ((m : Int) < ((str b).size : Int)) = true := decide_eq_true (by omega)
      have t2 : (m : Int) < ((str b).size : Int) := by omega
      have hs : ∀ w', (Instr.sliceAt 9 (.string (str b)) (some (.int .i64 (m : Int))) none none).run Try.prog w' = .ok (.string (str (b.drop m))) w' := fun w' => Sw.run_sub_l (P := Try.prog) (w := w') Try.underlying9 b .i64 m (by omega)
      have HT := Lib.hid (ref_takeF_calls wr (b.drop m) (by rw [List.length_drop]; omega))
      have hok := @takeF_ok (b.drop m)
      rw [List.length_drop] at hok
      obtain ⟨row, nn, er, hk⟩ : ∃ row nn er, takeF (b.drop m) = (row, nn, er) := ⟨_, _, _, rfl⟩
      rw [hk] at HT HE HEnd HSt HSucc hok
      unfold takeFV at HT
      simp only [] at HT HE HEnd HSt HSucc hok
      clear hk
      by_cases he : er = 0
      · subst he
        obtain ⟨q1, q2, _⟩ := hok rfl
        go_wp2_with fail
        refine (HT.out).mono ?_
        rintro e w2 ⟨rfl, hb2⟩
        have hown2 := ownsRow_below HOwn.out hb2
        have hs2' : B ≤ w2.heap.size := Nat.le_trans hBw hb2.size
        have HB2 := Lib.hid (HBel.out.trans (hb2.mono hBw))
        clear hb2
        go_wp2_with (at_builtin; refine wpList_append_src rfl (.tmp 27) (.tmp 29) 32 32 rfl B 9 i0 (.string ⟨#[]⟩) 1 16 Try.underlying32 (append_side Try.underlying32) hi hz0 hz1 hz2 rfl (by decide) (by decide) _ k _ rfl (hown2.alloc _) _ 1 _ rfl (src_new _ [_] 9 1 1 rfl (by intro u hu; simp at hu; subst hu; rfl) 1) ?_ ?_ ?_ ?_)
        case _ => unfold maxLen; omega
        case _ => omega
        case _ => simp; omega
        intro v' w3 hown3 hg3 _
        have hb3 : Below B w2 w3 := ((Below.refl _ _).alloc hs2' _).grown hg3 (by simp; omega) (fun j hj => (hown2.lt j hj).1)
        have HO3 : Hid (w3.ownsRow B 9 1 v' (k + 1) ((stF b (k + 1)).1.map sv)) := by show w3.ownsRow B 9 1 v' (k + 1) ((stF b (k + 1)).1.map sv); rw [HSt.out]; simp only []; rw [List.map_append]; exact hown3
        have HB3 := Lib.hid (HB2.out.trans hb3)
        clear hown3 hg3 hown2 hb3
        go_wp2_with fail
        go_roundw
        case rel => exact ⟨k + 1, HSucc.out trivial, by rw [HSt.out]; rfl, HO3.out, HB3.out⟩
        case measure => simp [intOf]; omega
      · have t3 : decide (er = 0) = false := decide_eq_false he
        go_wp2_with fail
        refine (HT.out).mono ?_
        rintro e w2 ⟨rfl, hb2⟩
        have HOw : Hid (w2.ownsRow B 9 1 (.slice ao k co) k ((stF b k).1.map sv)) := ownsRow_below HOwn.out hb2
        have HB2 := Lib.hid (HBel.out.trans (hb2.mono hBw))
        clear hb2
        go_wp2_with fail
        go_ret3
        exact ⟨k, .slice ao k co, HE.out.2 he, by rw [HEnd.out, if_neg (by omega), HM.out]; rfl, HOw.out, HB2.out⟩
    · have t1 : decide ((m : Int) < ((str b).size : Int)) = false := decide_eq_false (by omega)
      have t2 : ¬ ((m : Int) < ((str b).size : Int)) := by omega
      have hmb : m = b.length := by omega
      have HEe : Hid (EndsF b k) := by show EndsF b k; rw [HE.out, hmb, List.drop_length, takeF_nil]; decide
      have HEn : Hid (endE3 b k = 0) := by show endE3 b k = 0; rw [HEnd.out, if_pos hmb]
      clear hmb
      go_wp2_with fail
      go_ret3
      exact ⟨k, .slice ao k co, HEe.out, by rw [HEn.out, HM.out]; rfl, HOwn.out, HBel.out⟩
end Go.Proofs.Ytgbnfipbedlmhaa
