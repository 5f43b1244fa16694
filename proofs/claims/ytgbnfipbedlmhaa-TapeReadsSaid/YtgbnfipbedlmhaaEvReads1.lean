/-
  The reference's reader of requests and answers, first part: what it reads as plain mathematics; its zag and its fault walked. Conditions: none beyond each contract's own.
-/
import Derived.Test.YtgbnfipbedlmhaaGEv3
set_option linter.unusedVariables false
namespace Go.Proofs.Ytgbnfipbedlmhaa
open Go.RowKit Base

/-- So many numbers, one behind the other. -/
def nexts (b : List UInt8) : Nat → List Nat × List UInt8 × Int
  | 0 => ([], b, 0)
  | n + 1 => ((nexts b n).1 ++ [(VarPlain.next (nexts b n).2.1 (nexts b n).2.2).1], (VarPlain.next (nexts b n).2.1 (nexts b n).2.2).2)
theorem nexts_len (b : List UInt8) (n : Nat) : (nexts b n).1.length = n := by
  induction n with
  | zero => rfl
  | succ n ih => simp [nexts, ih]
theorem word_len (l : List UInt8) (e : Int) : (VarPlain.word l e).2.1.length ≤ l.length := by
  have h := next_len l e
  unfold VarPlain.word
  split
  · exact h
  · split
    · exact h
    · simp only [List.length_drop]; omega
theorem nexts_left (b : List UInt8) (n : Nat) : (nexts b n).2.1.length ≤ b.length := by
  induction n with
  | zero => exact Nat.le_refl _
  | succ n ih => exact Nat.le_trans (next_len _ _) ih
theorem words_left (l : List UInt8) (e : Int) (n : Nat) : (words l e n).2.1.length ≤ l.length := by
  induction n with
  | zero => exact Nat.le_refl _
  | succ n ih => exact Nat.le_trans (word_len _ _) ih
theorem nexts_lt (b : List UInt8) (n : Nat) : ∀ x ∈ (nexts b n).1, Lt64 x := by
  induction n with
  | zero => intro x hx; simp [nexts] at hx
  | succ n ih =>
    intro x hx
    rcases List.mem_append.1 hx with h | h
    · exact ih x h
    · rw [List.mem_singleton.1 h]; exact next_lt64 _ _

/-- What the reference reads: the numbers, the text, the row, whether there are too many texts, what is left, the error. -/
structure RL where
  nums : List Nat
  text : List UInt8
  row : List (List UInt8)
  long : Bool
  l : List UInt8
  e : Int
def tailL (nums : List Nat) (text : List UInt8) (r : (Bool × List (List UInt8)) × List UInt8 × Int) (behind : Bool) : RL :=
  if r.1.1 = false then ⟨nums, text, [], true, r.2.1, r.2.2⟩
  else if behind = true then ⟨nums ++ [(VarPlain.next r.2.1 r.2.2).1], text, r.1.2, false, (VarPlain.next r.2.1 r.2.2).2.1, (VarPlain.next r.2.1 r.2.2).2.2⟩
  else ⟨nums, text, r.1.2, false, r.2.1, r.2.2⟩
def readL (b : List UInt8) (n : Nat) (behind : Bool) : RL :=
  tailL (nexts b n).1 (VarPlain.word (nexts b n).2.1 (nexts b n).2.2).1 (readRow (VarPlain.word (nexts b n).2.1 (nexts b n).2.2).2.1 (VarPlain.word (nexts b n).2.1 (nexts b n).2.2).2.2) behind

set_option maxHeartbeats 400000 in
set_option maxRecDepth 100000 in
theorem ref_zag_calls (w : World) (y : Nat) (hy : Lt64 y) : Calls Try.prog 59 #[.int .u64 (y : Int)] w fun e w' => e = .returned (.int .i64 (VarPlain.zag y)) ∧ w = w' := by
  unfold Lt64 at hy
  by_cases h : y % 2 = 0
  · have HZ : Hid (VarPlain.zag y = (y / 2 : Nat)) := by show _ = _; unfold VarPlain.zag; rw [if_pos h]
    have t1 : ((y : Int) % 2 == 0) = true := by rw [beq_iff_eq]; omega
    have t2 : (y : Int) % 2 = 0 := by omega
    clear h
    go_enter Try.func59, Try.ntmps59
    go_wp2_with fail
    go_ret
    exact ⟨by rw [HZ.out]; congr 2, rfl⟩
  · have HZ : Hid (VarPlain.zag y = -((y / 2 : Nat) : Int) - 1) := by show _ = _; unfold VarPlain.zag; rw [if_neg h]
    have t1 : ((y : Int) % 2 == 0) = false := by rw [beq_eq_false_iff_ne]; omega
    have t2 : ¬ (y : Int) % 2 = 0 := by omega
    clear h
    go_enter Try.func59, Try.ntmps59
    go_wp2_with fail
    go_ret
    exact ⟨by rw [HZ.out]; congr 2, rfl⟩

/-- What is read, as a value. -/
def lV (l : List UInt8) (e : Int) (vn : Value) (t : List UInt8) (vr : Value) (lg : Bool) : Value := .agg #[.string (str l), .int .i64 e, vn, .string (str t), vr, .bool lg]
set_option maxHeartbeats 400000 in
set_option maxRecDepth 100000 in
theorem ref_fault_calls (w : World) (l : List UInt8) (e : Int) (a a' : Option Addr) (n c n' c' : Nat) (t : List UInt8) (lg right : Bool) :
    Calls Try.prog 60 #[lV l e (.slice a n c) t (.slice a' n' c') lg, .bool right] w fun r w' => r = .returned (.int .i64 (endR (!lg && right) l e)) ∧ Below w.heap.size w w' := by
  have HE : Hid (endR (!lg && right) l e = if e ≠ 0 then e else if (!lg && right) = false then 11 else if l = [] then 0 else 14) := rfl
  have HB := Lib.hid ((Below.refl w.heap.size w).alloc (Nat.le_refl _) (.cells #[.string (str l), .int .i64 e, .slice a n c, .string (str t), .slice a' n' c', .bool lg] 104))
  unfold lV
  by_cases he : e = 0
  case neg =>
    have H : Hid (endR (!lg && right) l e = e) := by show _ = _; rw [HE.out, if_pos he]
    have t1 : (e == 0) = false := by rw [beq_eq_false_iff_ne]; exact he
    have t2 : (e != 0) = true := by rw [bne_iff_ne]; exact he
    clear he
    go_enter Try.func60, Try.ntmps60
    go_wp2_with fail
    go_ret
    exact ⟨by rw [H.out]; rfl, HB.out⟩
  subst he
  cases lg with
  | true =>
    have H : Hid (endR (!true && right) l 0 = 11) := by show _ = _; rw [HE.out]; simp
    go_enter Try.func60, Try.ntmps60
    go_wp2_with fail
    go_ret
    exact ⟨by rw [H.out]; rfl, HB.out⟩
  | false =>
    cases right with
    | false =>
      have H : Hid (endR (!false && false) l 0 = 11) := by show _ = _; rw [HE.out]; simp
      go_enter Try.func60, Try.ntmps60
      go_wp2_with fail
      go_ret
      exact ⟨by rw [H.out]; rfl, HB.out⟩
    | true =>
      cases l with
      | nil =>
        have H : Hid (endR true [] 0 = 0) := by show _ = _; unfold endR; simp
        have HS : Hid (str ([] : List UInt8) = ⟨#[]⟩) := rfl
        rw [HS.out] at HB ⊢
        go_enter Try.func60, Try.ntmps60
        go_wp2_with fail
        go_ret
        exact ⟨by rw [H.out]; rfl, HB.out⟩
      | cons x l =>
        have H : Hid (endR (!false && true) (x :: l) 0 = 14) := by show _ = _; rw [HE.out]; simp
        have x1 : ((str (x :: l)).toList == []) = false := by rw [beq_eq_false_iff_ne, ByteArray.toList_eq]; simp [str_data]
        have x2 : (str (x :: l)).toList.isEmpty = false := by rw [ByteArray.toList_eq, str_data]; rfl
        go_enter Try.func60, Try.ntmps60
        go_wp2_with fail
        go_ret
        exact ⟨by rw [H.out]; rfl, HB.out⟩

end Go.Proofs.Ytgbnfipbedlmhaa
