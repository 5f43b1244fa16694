/-
  Split: what the document says, small parts: the size, whether a byte is one of a text's, two rows, a text of one sort, a row's text. Conditions: the texts are short.
-/
import Derived.Test.YtiemlgfcmldnoaaSpWalks6
set_option linter.unusedVariables false
set_option maxRecDepth 100000
namespace Go.Proofs.Ytiemlgfcmldnoaa
open Go.RowKit Base

theorem zip_size (t m : List UInt8) : ((t.zip m).length = t.length ∧ t.length < m.length) ∨ ((t.zip m).length = m.length ∧ ¬ t.length < m.length) := by
  rw [List.length_zip]; omega
theorem ref_size_calls (w : World) (t m : List UInt8) : Calls Try.prog 23 #[.agg #[.string (str t), .string (str m)]] w fun e w' => e = .returned (.int .i64 ((t.zip m).length : Int)) ∧ Below w.heap.size w w' := by
  have hA := (Below.refl w.heap.size w).alloc (Nat.le_refl _) (.cells #[.string (str t), .string (str m)] 29)
  obtain ⟨N, hN⟩ : ∃ N, N = (t.zip m).length := ⟨_, rfl⟩
  have hz := zip_size t m
  rw [← hN] at hz ⊢
  clear hN
  have e1 : (str t).size = t.length := rfl
  have e2 : (str m).size = m.length := rfl
  rcases hz with ⟨h1, h2⟩ | ⟨h1, h2⟩
  · have H1 := Lib.hid h1
    clear h1
    have u3 : decide ((str t).size < (str m).size) = true := decide_eq_true (by omega)
    have u1 : decide (((str t).size : Int) < ((str m).size : Int)) = true := decide_eq_true (by omega)
    have u2 : ((str t).size : Int) < ((str m).size : Int) := by omega
    go_enter Try.func23, Try.ntmps23
    go_wp2_with fail
    go_ret
    rw [H1.out]
    exact ⟨rfl, hA⟩
  · have H1 := Lib.hid h1
    clear h1
    have u3 : decide ((str t).size < (str m).size) = false := decide_eq_false (by omega)
    have u1 : decide (((str t).size : Int) < ((str m).size : Int)) = false := decide_eq_false (by omega)
    have u2 : ¬ (((str t).size : Int) < ((str m).size : Int)) := by omega
    go_enter Try.func23, Try.ntmps23
    go_wp2_with fail
    go_ret
    rw [H1.out]
    exact ⟨rfl, hA⟩
theorem u8_eq {a b : UInt8} : (a.toNat : Int) = (b.toNat : Int) ↔ a = b := ⟨fun h => UInt8.toNat_inj.1 (by omega), fun h => by rw [h]⟩
set_option maxHeartbeats 1000000 in
theorem ref_in_calls (w : World) (c : UInt8) (l : List UInt8) (hl : l.length ≤ 100000) : Calls Try.prog 24 #[.int .u8 (c.toNat : Int), .string (str l)] w fun e w' => e = .returned (.bool (decide (c ∈ l))) ∧ w' = w := by
  have hsz : (str l).size = l.length := rfl
  go_enter Try.func24, Try.ntmps24
  go_wp2_with fail
  go_loopw [5] (fun v5 wr => ∃ k : Nat, k ≤ l.length ∧ v5 = .int .i64 k ∧ c ∉ l.take k ∧ wr = w) (fun v5 _ => l.length - (intOf v5).toNat)
  case atStart => exact ⟨0, Nat.zero_le _, rfl, by simp, rfl⟩
  case round =>
    obtain ⟨k, hk, rfl, hn, rfl⟩ := hrel
    have HN := Lib.hid hn
    clear hn
    by_cases hlt : k < l.length
    · have hix := fun W => Sw.run_at (P := Try.prog) (w := W) Try.underlying9 l .i64 k hlt
      have htk := List.take_succ_eq_append_getElem hlt
      have HG := Lib.hid (List.getElem_mem hlt)
      generalize l[k]'hlt = x at *
      have HT := Lib.hid htk
      clear htk
      have u3 : decide (k < l.length) = true := decide_eq_true (by omega)
      have u1 : decide ((k : Int) < (l.length : Int)) = true := decide_eq_true (by omega)
      have u2 : (k : Int) < (l.length : Int) := by omega
      by_cases hx : x = c
      · have d1 : decide ((x.toNat : Int) = (c.toNat : Int)) = true := decide_eq_true (u8_eq.2 hx)
        have d2 : (x.toNat : Int) = (c.toNat : Int) := u8_eq.2 hx
        have HF : Hid (decide (c ∈ l) = true) := decide_eq_true (hx ▸ HG.out)
        clear hx
        go_wp2_with fail
        go_ret
        rw [HF.out]
        exact ⟨rfl, rfl⟩
      · have d1 : decide ((x.toNat : Int) = (c.toNat : Int)) = false := decide_eq_false (fun h => hx (u8_eq.1 h))
        have d2 : ¬ (x.toNat : Int) = (c.toNat : Int) := fun h => hx (u8_eq.1 h)
        have HF : Hid (c ∉ l.take (k + 1)) := by
          show c ∉ _
          rw [HT.out]
          simp only [List.mem_append, List.mem_singleton, not_or]
          exact ⟨HN.out, fun h => hx h.symm⟩
        clear hx
        go_wp2_with fail
        go_roundw
        case rel => exact ⟨k + 1, by omega, by go_num, HF.out, trivial⟩
        case measure => simp [intOf]; omega
    · obtain rfl : k = l.length := by omega
      have u3 : decide (l.length < l.length) = false := decide_eq_false (by omega)
      have u1 : decide ((l.length : Int) < (l.length : Int)) = false := decide_eq_false (by omega)
      have u2 : ¬ ((l.length : Int) < (l.length : Int)) := by omega
      have HF : Hid (decide (c ∈ l) = false) := decide_eq_false (by have := HN.out; rwa [List.take_length] at this)
      go_wp2_with fail
      go_ret
      rw [HF.out]
      exact ⟨rfl, rfl⟩
end Go.Proofs.Ytiemlgfcmldnoaa
