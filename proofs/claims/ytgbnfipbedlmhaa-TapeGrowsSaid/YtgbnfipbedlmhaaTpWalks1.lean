/-
  strings.CutPrefix at the tape's head; the tape's row of bytes: put, all. Conditions: the texts are short; the rows can be read.
-/
import Derived.Test.YtgbnfipbedlmhaaTpPlain
import Derived.Test.YtgbnfipbedlmhaaGEv3
import Derived.Test.YtgbnfipbedlmhaaGFr2
import Derived.Lib.ConvBytes
set_option linter.unusedVariables false
set_option maxRecDepth 100000
namespace Go.Proofs.Ytgbnfipbedlmhaa
open Go.RowKit Base

def magicS : ByteArray := ⟨#[107, 105, 110, 101, 116, 111, 115, 99, 111, 112, 101, 32, 49, 10]⟩
theorem magicS_str : magicS = str magicB := rfl
theorem take_magic_len {s : List UInt8} (h : s.take 14 = magicB) : 14 ≤ s.length := by
  have := congrArg List.length h
  rw [List.length_take] at this
  have e : magicB.length = 14 := rfl
  rw [e] at this
  omega
set_option maxHeartbeats 1000000 in
set_option maxRecDepth 100000 in
theorem has_prefix_calls (w : World) (s : List UInt8) (hs : s.length ≤ 1000000000) :
    Calls Try.prog 67 #[.string (str s), .string magicS] w fun e w' => e = .returned (.bool (decide (s.take 14 = magicB))) ∧ w = w' := by
  have hsz : (str s).size = s.length := rfl
  have hms : magicS.size = 14 := rfl
  by_cases hlen : 14 ≤ s.length
  · have t1 : decide ((14 : Int) ≤ ((str s).size : Int)) = true := by rw [hsz]; simp; omega
    have t2 : (14 : Int) ≤ ((str s).size : Int) := by rw [hsz]; omega
    have htk := str_take s 14
    have hl2 : 14 ≤ (str s).size := by rw [hsz]; exact hlen
    by_cases he : s.take 14 = magicB
    · have H : Hid (decide (s.take 14 = magicB) = true) := by show _ = _; simpa using he
      rw [he] at htk
      have t3 : ((str magicB).toList == magicS.toList) = true := by rw [magicS_str]; exact beq_self_eq_true _
      generalize str s = S at *
      clear he hsz
      have Htk := htk
      generalize str magicB = M at *
      generalize magicS = MS at *
      go_enter Try.func67, Try.ntmps67
      go_wp2_with fail
      go_ret
      exact ⟨by rw [H.out]; rfl, rfl⟩
    · have H : Hid (decide (s.take 14 = magicB) = false) := by show _ = _; simpa using he
      have t3 : ((str (s.take 14)).toList == magicS.toList) = false := by
        rw [beq_eq_false_iff_ne, magicS_str, ByteArray.toList_eq, ByteArray.toList_eq]
        exact he
      generalize str s = S at *
      generalize str (s.take 14) = M at *
      generalize magicS = MS at *
      clear he hsz
      go_enter Try.func67, Try.ntmps67
      go_wp2_with fail
      go_ret
      exact ⟨by rw [H.out]; rfl, rfl⟩
  · have t1 : decide ((14 : Int) ≤ ((str s).size : Int)) = false := by rw [hsz]; simp; omega
    have t2 : ¬ (14 : Int) ≤ ((str s).size : Int) := by rw [hsz]; omega
    have H : Hid (decide (s.take 14 = magicB) = false) := by
      show _ = _
      rw [decide_eq_false_iff_not]
      intro h
      exact hlen (take_magic_len h)
    generalize str s = S at *
    generalize magicS = MS at *
    go_enter Try.func67, Try.ntmps67
    go_wp2_with fail
    go_ret
    exact ⟨by rw [H.out]; rfl, rfl⟩
/-- What CutPrefix hands back. -/
def cutM (s : List UInt8) : List UInt8 := if s.take 14 = magicB then s.drop 14 else s
set_option maxHeartbeats 1000000 in
set_option maxRecDepth 100000 in
theorem cut_lite_calls (w : World) (s : List UInt8) (hs : s.length ≤ 1000000000) :
    Calls Try.prog 49 #[.string (str s), .string magicS] w fun e w' => e = .returned (.tuple #[.string (str (cutM s)), .bool (decide (s.take 14 = magicB))]) ∧ w = w' := by
  have HP := Lib.hid (has_prefix_calls w s hs)
  have hsz : (str s).size = s.length := rfl
  have hms : magicS.size = 14 := rfl
  by_cases he : s.take 14 = magicB
  · have hl2 : 14 ≤ (str s).size := by rw [hsz]; exact take_magic_len he
    have hdr := str_drop s 14
    have HD : Hid (decide (s.take 14 = magicB) = true) := by show _ = _; simpa using he
    have HC : Hid (cutM s = s.drop 14) := by show _ = _; unfold cutM; rw [if_pos he]
    rw [HD.out] at HP ⊢
    rw [HC.out]
    clear he hsz
    generalize str s = S at *
    generalize magicS = MS at *
    go_enter Try.func49, Try.ntmps49
    go_wp2_with fail
    refine HP.out.mono ?_
    rintro e w' ⟨rfl, rfl⟩
    go_wp2_with fail
    refine bodyPost_ret (v := .tuple #[.string (str (s.drop 14)), .bool true]) (by simp [results, Try.results49, go_sem]) rfl ?_
    exact ⟨rfl, rfl⟩
  · have HD : Hid (decide (s.take 14 = magicB) = false) := by show _ = _; simpa using he
    have HC : Hid (cutM s = s) := by show _ = _; unfold cutM; rw [if_neg he]
    rw [HD.out] at HP ⊢
    rw [HC.out]
    clear he hsz
    generalize str s = S at *
    generalize magicS = MS at *
    go_enter Try.func49, Try.ntmps49
    go_wp2_with fail
    refine HP.out.mono ?_
    rintro e w' ⟨rfl, rfl⟩
    go_wp2_with fail
    refine bodyPost_ret (v := .tuple #[.string S, .bool false]) (by simp [results, Try.results49, go_sem]) rfl ?_
    exact ⟨rfl, rfl⟩
theorem cut_prefix_calls (w : World) (s : List UInt8) (hs : s.length ≤ 1000000000) :
    Calls Try.prog 32 #[.string (str s), .string magicS] w fun e w' => e = .returned (.tuple #[.string (str (cutM s)), .bool (decide (s.take 14 = magicB))]) ∧ w = w' := by
  have HP := Lib.hid (cut_lite_calls w s hs)
  generalize str (cutM s) = C at *
  generalize decide (s.take 14 = magicB) = d at *
  generalize str s = S at *
  generalize magicS = MS at *
  go_enter Try.func32, Try.ntmps32
  go_wp2_with fail
  refine HP.out.mono ?_
  rintro e w' ⟨rfl, rfl⟩
  go_wp2_with fail
  refine bodyPost_ret (v := .tuple #[.string C, .bool d]) (by simp [results, Try.results32, go_sem]) rfl ?_
  exact ⟨rfl, rfl⟩

end Go.Proofs.Ytgbnfipbedlmhaa
