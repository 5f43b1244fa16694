/-
  Plain mathematics of chapter 4 (event): requests and answers as bytes, and back. No program stands here. Conditions: none.
-/
import Derived.Test.YtgbnfipbedlmhaaEvPlain
set_option linter.unusedVariables false
namespace Go.Proofs.Ytgbnfipbedlmhaa
open Go.RowKit Base

def I64 (x : Int) : Prop := -9223372036854775808 ≤ x ∧ x ≤ 9223372036854775807
theorem zig_lt {x : Int} (h : I64 x) : Lt64 (VarPlain.zig x) := by
  unfold I64 at h; unfold Lt64 VarPlain.zig; split <;> omega
theorem zag_i64 {y : Nat} (h : Lt64 y) : I64 (VarPlain.zag y) := by
  unfold Lt64 at h; unfold I64 VarPlain.zag; split <;> omega

structure Req where
  kind : Int
  n : Int
  m : Int
  text : List UInt8
  list : List (List UInt8)
structure Ans where
  kind : Int
  err : Int
  n : Int
  m : Int
  text : List UInt8
  list : List (List UInt8)
  sig : Int
def Req.zero : Req := ⟨0, 0, 0, [], []⟩
def Ans.zero : Ans := ⟨0, 0, 0, 0, [], [], 0⟩

/-- The error at the end: the reader's own; ErrForm, if it may not be; ErrLeft, if bytes are left. -/
def endR (right : Bool) (l : List UInt8) (e : Int) : Int := if e ≠ 0 then e else if right = false then 11 else if l = [] then 0 else 14

def askB (q : Req) : List UInt8 := VarPlain.num q.kind.toNat ++ (VarPlain.num (VarPlain.zig q.n) ++ (VarPlain.num (VarPlain.zig q.m) ++ (textB q.text ++ rowB q.list)))
def rightB (q : Req) : Bool := decide (1 ≤ q.kind) && decide (q.kind ≤ 11) && decide (q.list.length ≤ 4096)
structure Req.Fine (q : Req) : Prop where
  n : I64 q.n
  m : I64 q.m
  text : Lt64 q.text.length
  list : ∀ s ∈ q.list, Lt64 s.length

def q1 (b : List UInt8) := VarPlain.next b 0
def q2 (b : List UInt8) := VarPlain.next (q1 b).2.1 (q1 b).2.2
def q3 (b : List UInt8) := VarPlain.next (q2 b).2.1 (q2 b).2.2
def q4 (b : List UInt8) := VarPlain.word (q3 b).2.1 (q3 b).2.2
def q5 (b : List UInt8) := readRow (q4 b).2.1 (q4 b).2.2
def askedRight (b : List UInt8) : Bool := decide (0 < (q1 b).1) && decide ((q1 b).1 < 12) && (q5 b).1.1
def askedE (b : List UInt8) : Int := endR (askedRight b) (q5 b).2.1 (q5 b).2.2
def askedQ (b : List UInt8) : Req := if askedE b = 0 then ⟨((q1 b).1 : Int), VarPlain.zag (q2 b).1, VarPlain.zag (q3 b).1, (q4 b).1, (q5 b).1.2⟩ else Req.zero

theorem rightB_iff (q : Req) : rightB q = true ↔ 1 ≤ q.kind ∧ q.kind ≤ 11 ∧ q.list.length ≤ 4096 := by
  unfold rightB; simp [and_assoc]

theorem asked_run (q : Req) (h : q.Fine) (hr : rightB q = true) (r : List UInt8) :
    q1 (askB q ++ r) = (q.kind.toNat, VarPlain.num (VarPlain.zig q.n) ++ (VarPlain.num (VarPlain.zig q.m) ++ (textB q.text ++ (rowB q.list ++ r))), 0) ∧
    q2 (askB q ++ r) = (VarPlain.zig q.n, VarPlain.num (VarPlain.zig q.m) ++ (textB q.text ++ (rowB q.list ++ r)), 0) ∧
    q3 (askB q ++ r) = (VarPlain.zig q.m, textB q.text ++ (rowB q.list ++ r), 0) ∧
    q4 (askB q ++ r) = (q.text, rowB q.list ++ r, 0) ∧ q5 (askB q ++ r) = ((true, q.list), r, 0) := by
  obtain ⟨h1, h2, h3⟩ := (rightB_iff q).1 hr
  have e1 : q1 (askB q ++ r) = (q.kind.toNat, VarPlain.num (VarPlain.zig q.n) ++ (VarPlain.num (VarPlain.zig q.m) ++ (textB q.text ++ (rowB q.list ++ r))), 0) := by
    unfold q1 askB
    simp only [List.append_assoc]
    exact next_num _ (by unfold Lt64; omega) _
  have e2 : q2 (askB q ++ r) = (VarPlain.zig q.n, VarPlain.num (VarPlain.zig q.m) ++ (textB q.text ++ (rowB q.list ++ r)), 0) := by
    unfold q2; rw [e1]; exact next_num _ (zig_lt h.n) _
  have e3 : q3 (askB q ++ r) = (VarPlain.zig q.m, textB q.text ++ (rowB q.list ++ r), 0) := by
    unfold q3; rw [e2]; exact next_num _ (zig_lt h.m) _
  have e4 : q4 (askB q ++ r) = (q.text, rowB q.list ++ r, 0) := by
    unfold q4; rw [e3]; exact word_lawful.back _ _ h.text
  have e5 : q5 (askB q ++ r) = ((true, q.list), r, 0) := by
    unfold q5; rw [e4]; exact readRow_back _ _ ⟨h3, h.list⟩
  exact ⟨e1, e2, e3, e4, e5⟩

theorem asked_right (q : Req) (h : q.Fine) (hr : rightB q = true) (r : List UInt8) : askedRight (askB q ++ r) = true := by
  obtain ⟨e1, _, _, _, e5⟩ := asked_run q h hr r
  obtain ⟨h1, h2, h3⟩ := (rightB_iff q).1 hr
  unfold askedRight
  rw [e1, e5]
  simp
  omega
theorem asked_back (q : Req) (h : q.Fine) (hr : rightB q = true) : askedE (askB q) = 0 ∧ askedQ (askB q) = q := by
  have hR := asked_right q h hr []
  obtain ⟨e1, e2, e3, e4, e5⟩ := asked_run q h hr []
  rw [List.append_nil] at hR e1 e2 e3 e4 e5
  obtain ⟨h1, h2, h3⟩ := (rightB_iff q).1 hr
  have hE : askedE (askB q) = 0 := by unfold askedE; rw [hR, e5]; rfl
  refine ⟨hE, ?_⟩
  unfold askedQ
  rw [if_pos hE, e1, e2, e3, e4, e5, VarPlain.zag_zig, VarPlain.zag_zig]
  cases q
  simp at *
  omega
theorem asked_more (q : Req) (h : q.Fine) (hr : rightB q = true) (c : UInt8) : askedE (askB q ++ [c]) = 14 := by
  have hR := asked_right q h hr [c]
  obtain ⟨_, _, _, _, e5⟩ := asked_run q h hr [c]
  unfold askedE
  rw [hR, e5]
  rfl
theorem asked_cut (q : Req) (h : q.Fine) (hr : rightB q = true) (k : Nat) (hk : k < (askB q).length) : askedE ((askB q).take k) = 10 := by
  obtain ⟨h1, h2, h3⟩ := (rightB_iff q).1 hr
  have c0 : Cutt (askB q) ((askB q).take k) 0 := .inr ⟨rfl, k, hk, rfl⟩
  generalize (askB q).take k = b at c0 ⊢
  have c1 := (num_lawful.cut q.kind.toNat _ _ _ (by unfold Lt64; omega) (by unfold askB at c0; exact c0)).1
  have c2 := (num_lawful.cut _ _ _ _ (zig_lt h.n) c1).1
  have c3 := (num_lawful.cut _ _ _ _ (zig_lt h.m) c2).1
  have c4 := (word_lawful.cut _ _ _ _ h.text c3).1
  rw [← List.append_nil (rowB q.list)] at c4
  have c5 := (readRow_cut _ _ _ _ ⟨h3, h.list⟩ c4).1
  have c6 := cutt_nil c5
  have e : (q5 b).2.2 = 10 := c6
  unfold askedE endR
  rw [e]
  simp

theorem endR_zero {right : Bool} {l : List UInt8} {e : Int} (h : endR right l e = 0) : e = 0 ∧ right = true ∧ l = [] := by
  unfold endR at h
  by_cases he : e = 0
  · rw [if_neg (by simpa using he)] at h
    cases right
    · simp at h
    · simp at h
      exact ⟨he, rfl, h⟩
  · rw [if_pos he] at h
    exact absurd h he
theorem asked_own (b : List UInt8) (h : askedE b = 0) : (askedQ b).Fine ∧ rightB (askedQ b) = true ∧ askB (askedQ b) = b := by
  obtain ⟨h1, h2, h3⟩ := endR_zero h
  have hr : 0 < (q1 b).1 ∧ (q1 b).1 < 12 ∧ (q5 b).1.1 = true := by
    unfold askedRight at h2
    simpa [and_assoc] using h2
  obtain ⟨a5, b5, c5⟩ := readRow_own _ _ h1 hr.2.2
  obtain ⟨a4, b4, c4⟩ := word_own _ _ a5
  obtain ⟨a3, b3, c3⟩ := next_own _ _ a4
  obtain ⟨a2, b2, c2⟩ := next_own _ _ a3
  obtain ⟨a1, b1, c1⟩ := next_own _ _ a2
  have e : askedQ b = ⟨((q1 b).1 : Int), VarPlain.zag (q2 b).1, VarPlain.zag (q3 b).1, (q4 b).1, (q5 b).1.2⟩ := by unfold askedQ; rw [if_pos h]
  rw [e]
  refine ⟨⟨zag_i64 c2, zag_i64 c3, c4, c5.2⟩, ?_, ?_⟩
  · rw [rightB_iff]
    exact ⟨by simp only []; omega, by simp only []; omega, c5.1⟩
  · unfold askB
    simp only [VarPlain.zig_zag, Int.toNat_natCast]
    have r5 : rowB (q5 b).1.2 = (q4 b).2.1 := by
      have := b5
      rw [show (readRow (q4 b).2.1 (q4 b).2.2) = q5 b from rfl, h3, List.append_nil] at this
      exact this.symm
    rw [r5]
    have r4 : textB (q4 b).1 ++ (q4 b).2.1 = (q3 b).2.1 := b4.symm
    rw [r4]
    have r3 : VarPlain.num (q3 b).1 ++ (q3 b).2.1 = (q2 b).2.1 := b3.symm
    rw [r3]
    have r2 : VarPlain.num (q2 b).1 ++ (q2 b).2.1 = (q1 b).2.1 := b2.symm
    rw [r2]
    exact b1.symm

/-! ### Answers -/
def tellB (a : Ans) : List UInt8 := VarPlain.num a.kind.toNat ++ (VarPlain.num a.err.toNat ++ (VarPlain.num (VarPlain.zig a.n) ++ (VarPlain.num (VarPlain.zig a.m) ++ (textB a.text ++ (rowB a.list ++ VarPlain.num a.sig.toNat)))))
def fitsB (k : Int) (a : Ans) : Bool := decide (a.kind = k) && decide (1 ≤ k) && decide (k ≤ 11) && decide (0 ≤ a.err) && decide (a.err ≤ 255) && decide (0 ≤ a.sig) && decide (a.sig ≤ 64) && decide (a.list.length ≤ 4096)
structure Ans.Fine (a : Ans) : Prop where
  n : I64 a.n
  m : I64 a.m
  text : Lt64 a.text.length
  list : ∀ s ∈ a.list, Lt64 s.length
theorem fitsB_iff (k : Int) (a : Ans) : fitsB k a = true ↔ a.kind = k ∧ 1 ≤ k ∧ k ≤ 11 ∧ 0 ≤ a.err ∧ a.err ≤ 255 ∧ 0 ≤ a.sig ∧ a.sig ≤ 64 ∧ a.list.length ≤ 4096 := by
  unfold fitsB; simp [and_assoc]

def t1 (b : List UInt8) := VarPlain.next b 0
def t2 (b : List UInt8) := VarPlain.next (t1 b).2.1 (t1 b).2.2
def t3 (b : List UInt8) := VarPlain.next (t2 b).2.1 (t2 b).2.2
def t4 (b : List UInt8) := VarPlain.next (t3 b).2.1 (t3 b).2.2
def t5 (b : List UInt8) := VarPlain.word (t4 b).2.1 (t4 b).2.2
def t6 (b : List UInt8) := readRow (t5 b).2.1 (t5 b).2.2
/-- The signal, if there are not too many texts. -/
def t7 (b : List UInt8) : Nat × List UInt8 × Int := if (t6 b).1.1 = true then VarPlain.next (t6 b).2.1 (t6 b).2.2 else (0, (t6 b).2)
def toldRight (b : List UInt8) : Bool := decide (0 < (t1 b).1) && decide ((t1 b).1 < 12) && decide ((t2 b).1 < 256) && decide ((t7 b).1 < 65) && (t6 b).1.1
def toldE (b : List UInt8) : Int := endR (toldRight b) (t7 b).2.1 (t7 b).2.2
def toldA (b : List UInt8) : Ans := if toldE b = 0 then ⟨((t1 b).1 : Int), ((t2 b).1 : Int), VarPlain.zag (t3 b).1, VarPlain.zag (t4 b).1, (t5 b).1, (t6 b).1.2, ((t7 b).1 : Int)⟩ else Ans.zero

theorem told_run (a : Ans) (h : a.Fine) (hr : fitsB a.kind a = true) (r : List UInt8) :
    t1 (tellB a ++ r) = (a.kind.toNat, VarPlain.num a.err.toNat ++ (VarPlain.num (VarPlain.zig a.n) ++ (VarPlain.num (VarPlain.zig a.m) ++ (textB a.text ++ (rowB a.list ++ (VarPlain.num a.sig.toNat ++ r))))), 0) ∧
    t2 (tellB a ++ r) = (a.err.toNat, VarPlain.num (VarPlain.zig a.n) ++ (VarPlain.num (VarPlain.zig a.m) ++ (textB a.text ++ (rowB a.list ++ (VarPlain.num a.sig.toNat ++ r)))), 0) ∧
    t3 (tellB a ++ r) = (VarPlain.zig a.n, VarPlain.num (VarPlain.zig a.m) ++ (textB a.text ++ (rowB a.list ++ (VarPlain.num a.sig.toNat ++ r))), 0) ∧
    t4 (tellB a ++ r) = (VarPlain.zig a.m, textB a.text ++ (rowB a.list ++ (VarPlain.num a.sig.toNat ++ r)), 0) ∧
    t5 (tellB a ++ r) = (a.text, rowB a.list ++ (VarPlain.num a.sig.toNat ++ r), 0) ∧
    t6 (tellB a ++ r) = ((true, a.list), VarPlain.num a.sig.toNat ++ r, 0) ∧ t7 (tellB a ++ r) = (a.sig.toNat, r, 0) := by
  obtain ⟨_, h1, h2, h3, h4, h5, h6, h7⟩ := (fitsB_iff _ a).1 hr
  have e1 : t1 (tellB a ++ r) = (a.kind.toNat, VarPlain.num a.err.toNat ++ (VarPlain.num (VarPlain.zig a.n) ++ (VarPlain.num (VarPlain.zig a.m) ++ (textB a.text ++ (rowB a.list ++ (VarPlain.num a.sig.toNat ++ r))))), 0) := by
    unfold t1 tellB
    simp only [List.append_assoc]
    exact next_num _ (by unfold Lt64; omega) _
  have e2 : t2 (tellB a ++ r) = (a.err.toNat, VarPlain.num (VarPlain.zig a.n) ++ (VarPlain.num (VarPlain.zig a.m) ++ (textB a.text ++ (rowB a.list ++ (VarPlain.num a.sig.toNat ++ r)))), 0) := by
    unfold t2; rw [e1]; exact next_num _ (by unfold Lt64; omega) _
  have e3 : t3 (tellB a ++ r) = (VarPlain.zig a.n, VarPlain.num (VarPlain.zig a.m) ++ (textB a.text ++ (rowB a.list ++ (VarPlain.num a.sig.toNat ++ r))), 0) := by
    unfold t3; rw [e2]; exact next_num _ (zig_lt h.n) _
  have e4 : t4 (tellB a ++ r) = (VarPlain.zig a.m, textB a.text ++ (rowB a.list ++ (VarPlain.num a.sig.toNat ++ r)), 0) := by
    unfold t4; rw [e3]; exact next_num _ (zig_lt h.m) _
  have e5 : t5 (tellB a ++ r) = (a.text, rowB a.list ++ (VarPlain.num a.sig.toNat ++ r), 0) := by
    unfold t5; rw [e4]; exact word_lawful.back _ _ h.text
  have e6 : t6 (tellB a ++ r) = ((true, a.list), VarPlain.num a.sig.toNat ++ r, 0) := by
    unfold t6; rw [e5]; exact readRow_back _ _ ⟨h7, h.list⟩
  have e7 : t7 (tellB a ++ r) = (a.sig.toNat, r, 0) := by
    unfold t7; rw [e6]; simp only [if_true]; exact next_num _ (by unfold Lt64; omega) _
  exact ⟨e1, e2, e3, e4, e5, e6, e7⟩
theorem told_right (a : Ans) (h : a.Fine) (hr : fitsB a.kind a = true) (r : List UInt8) : toldRight (tellB a ++ r) = true := by
  obtain ⟨e1, e2, _, _, _, e6, e7⟩ := told_run a h hr r
  obtain ⟨_, h1, h2, h3, h4, h5, h6, h7⟩ := (fitsB_iff _ a).1 hr
  unfold toldRight
  rw [e1, e2, e6, e7]
  simp
  omega
theorem told_back (a : Ans) (h : a.Fine) (hr : fitsB a.kind a = true) : toldE (tellB a) = 0 ∧ toldA (tellB a) = a := by
  have hR := told_right a h hr []
  obtain ⟨e1, e2, e3, e4, e5, e6, e7⟩ := told_run a h hr []
  rw [List.append_nil] at hR e1 e2 e3 e4 e5 e6 e7
  obtain ⟨_, h1, h2, h3, h4, h5, h6, h7⟩ := (fitsB_iff _ a).1 hr
  have hE : toldE (tellB a) = 0 := by unfold toldE; rw [hR, e7]; rfl
  refine ⟨hE, ?_⟩
  unfold toldA
  rw [if_pos hE, e1, e2, e3, e4, e5, e6, e7, VarPlain.zag_zig, VarPlain.zag_zig]
  cases a
  simp at *
  omega
theorem told_more (a : Ans) (h : a.Fine) (hr : fitsB a.kind a = true) (c : UInt8) : toldE (tellB a ++ [c]) = 14 := by
  have hR := told_right a h hr [c]
  obtain ⟨_, _, _, _, _, _, e7⟩ := told_run a h hr [c]
  unfold toldE
  rw [hR, e7]
  rfl
theorem told_cut (a : Ans) (h : a.Fine) (hr : fitsB a.kind a = true) (k : Nat) (hk : k < (tellB a).length) : toldE ((tellB a).take k) = 10 := by
  obtain ⟨_, h1, h2, h3, h4, h5, h6, h7⟩ := (fitsB_iff _ a).1 hr
  have c0 : Cutt (tellB a) ((tellB a).take k) 0 := .inr ⟨rfl, k, hk, rfl⟩
  generalize (tellB a).take k = b at c0 ⊢
  have c1 := (num_lawful.cut a.kind.toNat _ _ _ (by unfold Lt64; omega) (by unfold tellB at c0; exact c0)).1
  have c2 := (num_lawful.cut a.err.toNat _ _ _ (by unfold Lt64; omega) c1).1
  have c3 := (num_lawful.cut _ _ _ _ (zig_lt h.n) c2).1
  have c4 := (num_lawful.cut _ _ _ _ (zig_lt h.m) c3).1
  have c5 := (word_lawful.cut _ _ _ _ h.text c4).1
  obtain ⟨c6, _, f6⟩ := readRow_cut _ _ _ _ ⟨h7, h.list⟩ c5
  rw [← List.append_nil (VarPlain.num a.sig.toNat)] at c6
  have c7 := (num_lawful.cut a.sig.toNat _ _ _ (by unfold Lt64; omega) c6).1
  have c8 := cutt_nil c7
  have e : (t7 b).2.2 = 10 := by
    unfold t7
    rw [if_pos (show (t6 b).1.1 = true from f6)]
    exact c8
  unfold toldE endR
  rw [e]
  simp
theorem told_own (b : List UInt8) (h : toldE b = 0) : (toldA b).Fine ∧ fitsB (toldA b).kind (toldA b) = true ∧ tellB (toldA b) = b := by
  obtain ⟨h1, h2, h3⟩ := endR_zero h
  have hr : 0 < (t1 b).1 ∧ (t1 b).1 < 12 ∧ (t2 b).1 < 256 ∧ (t7 b).1 < 65 ∧ (t6 b).1.1 = true := by
    unfold toldRight at h2
    simpa [and_assoc] using h2
  have e7 : t7 b = VarPlain.next (t6 b).2.1 (t6 b).2.2 := by unfold t7; rw [if_pos hr.2.2.2.2]
  rw [e7] at h1
  obtain ⟨a7, b7, c7⟩ := next_own _ _ h1
  obtain ⟨a6, b6, c6⟩ := readRow_own _ _ a7 hr.2.2.2.2
  obtain ⟨a5, b5, c5⟩ := word_own _ _ a6
  obtain ⟨a4, b4, c4⟩ := next_own _ _ a5
  obtain ⟨a3, b3, c3⟩ := next_own _ _ a4
  obtain ⟨a2, b2, c2⟩ := next_own _ _ a3
  obtain ⟨a1, b1, c1⟩ := next_own _ _ a2
  have e : toldA b = ⟨((t1 b).1 : Int), ((t2 b).1 : Int), VarPlain.zag (t3 b).1, VarPlain.zag (t4 b).1, (t5 b).1, (t6 b).1.2, ((t7 b).1 : Int)⟩ := by unfold toldA; rw [if_pos h]
  rw [e]
  refine ⟨⟨zag_i64 c3, zag_i64 c4, c5, c6.2⟩, ?_, ?_⟩
  · rw [fitsB_iff]
    have := c6.1
    simp only []
    refine ⟨trivial, by omega, by omega, by omega, by omega, by omega, by omega, this⟩
  · unfold tellB
    simp only [VarPlain.zig_zag, Int.toNat_natCast]
    have r7 : VarPlain.num (t7 b).1 = (t6 b).2.1 := by
      have h3' := h3
      rw [e7] at h3' ⊢
      rw [h3', List.append_nil] at b7
      exact b7.symm
    rw [r7]
    have r6 : rowB (t6 b).1.2 ++ (t6 b).2.1 = (t5 b).2.1 := b6.symm
    rw [r6]
    have r5 : textB (t5 b).1 ++ (t5 b).2.1 = (t4 b).2.1 := b5.symm
    rw [r5]
    have r4 : VarPlain.num (t4 b).1 ++ (t4 b).2.1 = (t3 b).2.1 := b4.symm
    rw [r4]
    have r3 : VarPlain.num (t3 b).1 ++ (t3 b).2.1 = (t2 b).2.1 := b3.symm
    rw [r3]
    have r2 : VarPlain.num (t2 b).1 ++ (t2 b).2.1 = (t1 b).2.1 := b2.symm
    rw [r2]
    exact b1.symm

end Go.Proofs.Ytgbnfipbedlmhaa
