/-
  Whether answers are few; whether they are the same; a frame, and the head's, as the document has them. Conditions: the answers can be read; the texts are short.
-/
import Derived.Test.YtgbnfipbedlmhaaTpAnswers
set_option linter.unusedVariables false
set_option maxRecDepth 100000
namespace Go.Proofs.Ytgbnfipbedlmhaa
open Go.RowKit Base

theorem ans_o4 (b o : Nat) (w : World) : (Instr.fieldAt 34 (.pointer (some ⟨b, o, none⟩)) 4).run Try.prog w = .ok (.pointer (some ⟨b, o + 4, none⟩)) w := by rfl
theorem ans_o5 (b o : Nat) (w : World) : (Instr.fieldAt 34 (.pointer (some ⟨b, o, none⟩)) 5).run Try.prog w = .ok (.pointer (some ⟨b, o + 5, none⟩)) w := by rfl
theorem ans_o0 (b o : Nat) (w : World) : (Instr.fieldAt 34 (.pointer (some ⟨b, o, none⟩)) 0).run Try.prog w = .ok (.pointer (some ⟨b, o, none⟩)) w := by rfl
/-- A row of answers: the element's address, and its cells. -/
theorem at_ans {w : World} {a : Option Addr} {n cap : Nat} {l : List Ans} (h : Anss w a n cap l) : ∃ b off, (∀ k (hk : k < l.length), ansAt w b (off + k * 7) l[k]) ∧
    ∀ (kd : IntKind) (k : Nat) (w' : World), k < n → (Instr.indexAt 22 (.slice a n cap) (.int kd (k : Int))).run Try.prog w' = .ok (.pointer (some ⟨b, off + k * 7, none⟩)) w' := by
  obtain ⟨i, hi, _, hs, _⟩ := info_parts info_ans
  obtain ⟨b, off, h1, h2⟩ := h.at (P := Try.prog)
  exact ⟨b, off, h1, fun kd k w' hk => h2 22 34 i Try.underlying22 hi hs kd k w' hk⟩
def shortB (q : Ans) : Bool := decide (q.list.length ≤ 20) && (decide (q.text.length ≤ 300) && q.list.all fun s => decide (s.length ≤ 100))
theorem shortB_iff (q : Ans) : shortB q = true ↔ q.Short := by
  unfold shortB
  simp only [Bool.and_eq_true, List.all_eq_true, decide_eq_true_eq]
  exact ⟨fun h => ⟨h.2.1, h.1, h.2.2⟩, fun h => ⟨h.list, h.text, h.each⟩⟩
def fewT (l : List Ans) : Bool := l.all shortB && decide (l.length ≤ 40)
theorem fewT_iff (l : List Ans) : fewT l = true ↔ (∀ q ∈ l, q.Short) ∧ l.length ≤ 40 := by
  unfold fewT
  simp only [Bool.and_eq_true, List.all_eq_true, decide_eq_true_eq, shortB_iff]
theorem fewT_bad {l : List Ans} {q : Ans} (hq : q ∈ l) (h : shortB q = false) : fewT l = false := by
  unfold fewT
  rw [Bool.and_eq_false_iff]
  left
  rw [List.all_eq_false]
  exact ⟨q, hq, by simp [h]⟩
set_option maxHeartbeats 1000000 in
theorem tp_few_calls (w : World) (a : Option Addr) (n cap : Nat) (l : List Ans) (h : Anss w a n cap l) :
    Calls Try.prog 9 #[.slice a n cap] w fun e w' => e = .returned (.bool (fewT l)) ∧ w = w' := by
  have hcap := h.2.2.1
  have hnc := h.2.1
  unfold maxLen at hcap
  obtain ⟨b, off, hrow, hidx⟩ := at_ans h
  have Hn := Lib.hid h.1
  have Hrow := Lib.hid hrow; clear hrow
  have Hidx := Lib.hid hidx; clear hidx h
  go_enter Try.func9, Try.ntmps9
  go_wp2_with fail
  go_loop [3] (fun i => ∃ k : Nat, k ≤ n ∧ i = .int .i64 k ∧ ∀ q ∈ l.take k, shortB q = true) (fun i => n - (intOf i).toNat)
  case atStart => exact ⟨0, Nat.zero_le _, rfl, by simp⟩
  case round =>
    obtain ⟨k, hk, rfl, hall⟩ := hrel
    have HA := Lib.hid hall; clear hall
    by_cases hlt : k < n
    · have hkl : k < l.length := by rw [← Hn.out]; exact hlt
      obtain ⟨aq, cq, hcells, hstr⟩ := Hrow.out k hkl
      have hix := fun w' => Hidx.out .i64 k w' hlt
      have Hmem : Hid (l[k] ∈ l) := List.getElem_mem hkl
      have Hnext : Hid (shortB l[k] = true → ∀ s ∈ l.take (k + 1), shortB s = true) := by
        intro h s hs
        rw [List.take_succ_eq_append_getElem hkl] at hs
        rcases List.mem_append.1 hs with hs | hs
        · exact HA.out s hs
        · rw [List.mem_singleton.1 hs]; exact h
      generalize l[k]'hkl = q at *
      have c4 : w.cell? ⟨b, off + k * 7 + 4, none⟩ = some (.string (str q.text)) := hcells 4 _ rfl
      have c5 : w.cell? ⟨b, off + k * 7 + 5, none⟩ = some (.slice aq q.list.length cq) := hcells 5 _ rfl
      have hf4 := fun w' => ans_o4 b (off + k * 7) w'
      have hf5 := fun w' => ans_o5 b (off + k * 7) w'
      have hsz : (str q.text).size = q.text.length := rfl
      have HS : Hid (shortB q = (decide (q.list.length ≤ 20) && (decide (q.text.length ≤ 300) && q.list.all fun s => decide (s.length ≤ 100)))) := rfl
      have t1 : decide ((k : Int) < (n : Int)) = true := by simp; omega
      have t2 : (k : Int) < (n : Int) := by omega
      clear hcells
      by_cases h20 : 20 < q.list.length
      · have t3 : decide ((20 : Int) < (q.list.length : Int)) = true := by simp; omega
        have t4 : (20 : Int) < (q.list.length : Int) := by omega
        have H : Hid (fewT l = false) := fewT_bad Hmem.out (by rw [HS.out, Bool.and_eq_false_iff]; left; simp; omega)
        go_wp2_with fail
        go_ret
        exact ⟨by rw [H.out]; rfl, rfl⟩
      · have t3 : decide ((20 : Int) < (q.list.length : Int)) = false := by simp; omega
        have t4 : ¬ (20 : Int) < (q.list.length : Int) := by omega
        by_cases h300 : 300 < q.text.length
        · have t5 : decide ((300 : Int) < ((str q.text).size : Int)) = true := by rw [hsz]; simp; omega
          have t6 : (300 : Int) < ((str q.text).size : Int) := by rw [hsz]; omega
          have H : Hid (fewT l = false) := fewT_bad Hmem.out (by rw [HS.out, Bool.and_eq_false_iff]; right; rw [Bool.and_eq_false_iff]; left; simp; omega)
          clear hsz
          generalize str q.text = T at *
          go_wp2_with fail
          go_ret
          exact ⟨by rw [H.out]; rfl, rfl⟩
        · have t5 : decide ((300 : Int) < ((str q.text).size : Int)) = false := by rw [hsz]; simp; omega
          have t6 : ¬ (300 : Int) < ((str q.text).size : Int) := by rw [hsz]; omega
          have HSR : Hid (∀ (hq : (q.list.all fun s => decide (s.length ≤ 100)) = true), shortB q = true) := fun hq => by
            rw [HS.out, hq, Bool.and_true, Bool.and_eq_true]
            constructor <;> simp <;> omega
          have HSF : Hid (∀ s ∈ q.list, 100 < s.length → shortB q = false) := fun s hs hl => by
            rw [HS.out, Bool.and_eq_false_iff]; right
            rw [Bool.and_eq_false_iff]; right
            rw [List.all_eq_false]
            exact ⟨s, hs, by simp; omega⟩
          clear hsz HS
          obtain ⟨b2, o2, hrow2, hidx2⟩ := at_strs hstr
          have Hrow2 := Lib.hid hrow2
          have Hidx2 := Lib.hid hidx2
          have HL20 : Hid (q.list.length ≤ 20) := by show _ ≤ _; omega
          clear hrow2 hidx2 hstr
          generalize str q.text = T at *
          obtain ⟨N, hN⟩ : ∃ N, N = q.list.length := ⟨_, rfl⟩
          have HN := Lib.hid hN
          rw [← hN] at c5 t3 t4 Hidx2 HL20 h20
          clear hN
          go_wp2_with fail
          go_loop [4] (fun i => ∃ j : Nat, j ≤ N ∧ i = .int .i64 j ∧ ∀ s ∈ q.list.take j, s.length ≤ 100) (fun i => N - (intOf i).toNat)
          case atStart => exact ⟨0, Nat.zero_le _, rfl, by simp⟩
          case round =>
            obtain ⟨j, hj, rfl, hall2⟩ := hrel
            have HA2 := Lib.hid hall2; clear hall2
            by_cases hlt2 : j < N
            · have hjl : j < q.list.length := by rw [← HN.out]; exact hlt2
              have hc := Hrow2.out j hjl
              have hix2 := fun w' => Hidx2.out .i64 j w' hlt2
              have Hmem2 : Hid (q.list[j] ∈ q.list) := List.getElem_mem hjl
              have Hnext2 : Hid (q.list[j].length ≤ 100 → ∀ s ∈ q.list.take (j + 1), s.length ≤ 100) := by
                intro h s hs
                rw [List.take_succ_eq_append_getElem hjl] at hs
                rcases List.mem_append.1 hs with hs | hs
                · exact HA2.out s hs
                · rw [List.mem_singleton.1 hs]; exact h
              generalize q.list[j]'hjl = s at *
              have hsz : (str s).size = s.length := rfl
              have u1 : decide ((j : Int) < (N : Int)) = true := by simp; omega
              have u2 : (j : Int) < (N : Int) := by omega
              by_cases h100 : 100 < s.length
              · have u3 : decide ((100 : Int) < ((str s).size : Int)) = true := by rw [hsz]; simp; omega
                have u4 : (100 : Int) < ((str s).size : Int) := by rw [hsz]; omega
                have H : Hid (fewT l = false) := fewT_bad Hmem.out (HSF.out s Hmem2.out h100)
                clear hsz
                generalize str s = S at *
                go_wp2_with fail
                go_ret
                exact ⟨by rw [H.out]; rfl, rfl⟩
              · have u3 : decide ((100 : Int) < ((str s).size : Int)) = false := by rw [hsz]; simp; omega
                have u4 : ¬ (100 : Int) < ((str s).size : Int) := by rw [hsz]; omega
                have HN2 := Lib.hid (Hnext2.out (by omega))
                clear hsz
                generalize str s = S at *
                go_wp2_with fail
                go_round
                case rel => exact ⟨j + 1, by omega, by go_num, HN2.out⟩
                case measure => simp [intOf]; omega
            · have u1 : decide ((j : Int) < (N : Int)) = false := by simp; omega
              have u2 : ¬ (j : Int) < (N : Int) := by omega
              have HSh : Hid (shortB q = true) := HSR.out (by
                rw [List.all_eq_true]
                intro s hs
                have hjn : j = N := by omega
                have := HA2.out s (by rw [List.take_of_length_le (by rw [← HN.out]; omega)]; exact hs)
                simpa using this)
              have HN2 := Lib.hid (Hnext.out HSh.out)
              go_wp2_with fail
              go_round
              case rel => exact ⟨k + 1, by omega, by go_num, HN2.out⟩
              case measure => simp [intOf]; omega
    · have t1 : decide ((k : Int) < (n : Int)) = false := by simp; omega
      have t2 : ¬ (k : Int) < (n : Int) := by omega
      have H : Hid (fewT l = decide (n ≤ 40)) := by
        show _ = _
        unfold fewT
        rw [Hn.out]
        have : l.all shortB = true := by
          rw [List.all_eq_true]
          intro s hs
          exact HA.out s (by rw [List.take_of_length_le (by rw [← Hn.out]; omega)]; exact hs)
        rw [this, Bool.true_and]
      clear hlt
      by_cases h40 : n ≤ 40
      · have t3 : decide ((n : Int) ≤ 40) = true := by simp; omega
        have t4 : (n : Int) ≤ 40 := by omega
        have H2 : Hid (fewT l = true) := by show _ = _; rw [H.out]; simpa using h40
        clear hk
        go_wp2_with fail
        go_ret
        exact ⟨by rw [H2.out]; rfl, rfl⟩
      · have t3 : decide ((n : Int) ≤ 40) = false := by simp; omega
        have t4 : ¬ (n : Int) ≤ 40 := by omega
        have H2 : Hid (fewT l = false) := by show _ = _; rw [H.out]; simpa using h40
        clear hk
        go_wp2_with fail
        go_ret
        exact ⟨by rw [H2.out]; rfl, rfl⟩

end Go.Proofs.Ytgbnfipbedlmhaa
