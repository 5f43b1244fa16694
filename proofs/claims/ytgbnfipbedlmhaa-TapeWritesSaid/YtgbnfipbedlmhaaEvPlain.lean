/-
  Plain mathematics of chapter 4 (event): what is read of bytes, and that it is what was put. No program stands here. Conditions: none.
-/
import Derived.Test.YtgbnfipbedlmhaaVarPlain2
set_option linter.unusedVariables false
namespace Go.Proofs.Ytgbnfipbedlmhaa
open Go.RowKit Base

/-- A way to put things as bytes, and to read them: what is put is read, cut it is short, what is read was put. -/
structure Lawful {α : Type} (put : α → List UInt8) (get : List UInt8 → Int → α × List UInt8 × Int) (ok : α → Prop) : Prop where
  back : ∀ x r, ok x → get (put x ++ r) 0 = (x, r, 0)
  cut : ∀ x r l e, ok x → Cutt (put x ++ r) l e → Cutt r (get l e).2.1 (get l e).2.2 ∧ ((get l e).2.2 = 0 → (get l e).1 = x)
  own : ∀ l e, (get l e).2.2 = 0 → e = 0 ∧ l = put (get l e).1 ++ (get l e).2.1 ∧ ok (get l e).1

theorem next_own (l : List UInt8) (e : Int) (h : (VarPlain.next l e).2.2 = 0) : e = 0 ∧ l = VarPlain.num (VarPlain.next l e).1 ++ (VarPlain.next l e).2.1 ∧ Lt64 (VarPlain.next l e).1 := by
  by_cases he : e = 0
  · subst he
    have e1 : VarPlain.next l 0 = ((VarPlain.take l).1, l.drop (VarPlain.take l).2.1, (VarPlain.take l).2.2) := by unfold VarPlain.next; rw [if_neg (by simp)]
    rw [e1] at h ⊢
    obtain ⟨h1, _, _⟩ := take_ok h
    refine ⟨rfl, ?_, VarPlain.take_lt l⟩
    rw [h1, List.take_append_drop]
  · unfold VarPlain.next at h
    rw [if_pos he] at h
    exact absurd h he
theorem num_lawful : Lawful VarPlain.num VarPlain.next Lt64 where
  back x r hx := next_num x hx r
  cut x r l e hx h := by
    refine ⟨cutt_num hx h, fun h0 => ?_⟩
    rcases h with rfl | ⟨rfl, m, hm, rfl⟩
    · unfold VarPlain.next at h0; simp at h0
    · by_cases hk : m < (VarPlain.num x).length
      · unfold VarPlain.next at h0
        rw [List.take_append_of_le_length (by omega), take_cut _ hx m hk] at h0
        simp at h0
      · have e : (VarPlain.num x ++ r).take m = VarPlain.num x ++ r.take (m - (VarPlain.num x).length) := by
          rw [List.take_append, List.take_of_length_le (by omega)]
        rw [e, next_num _ hx]
  own l e h := next_own l e h

def textB (s : List UInt8) : List UInt8 := VarPlain.num s.length ++ s
theorem word_own (l : List UInt8) (e : Int) (h : (VarPlain.word l e).2.2 = 0) : e = 0 ∧ l = textB (VarPlain.word l e).1 ++ (VarPlain.word l e).2.1 ∧ Lt64 (VarPlain.word l e).1.length := by
  unfold VarPlain.word at h ⊢
  by_cases h1 : (VarPlain.next l e).2.2 = 0
  · rw [if_neg (by simpa using h1)] at h ⊢
    by_cases h2 : (VarPlain.next l e).2.1.length < (VarPlain.next l e).1
    · rw [if_pos h2] at h; simp at h
    · rw [if_neg h2]
      obtain ⟨h3, h4, h5⟩ := next_own l e h1
      have h6 : (List.take (VarPlain.next l e).1 (VarPlain.next l e).2.1).length = (VarPlain.next l e).1 := by rw [List.length_take]; omega
      refine ⟨h3, ?_, by simp only [h6]; exact h5⟩
      unfold textB
      simp only [h6]
      rw [List.append_assoc, List.take_append_drop]
      exact h4
  · rw [if_pos h1] at h
    exact absurd h h1
theorem word_lawful : Lawful textB VarPlain.word (fun s => Lt64 s.length) where
  back s r hs := word_text s hs r
  cut s r l e hs h := by
    refine ⟨cutt_text hs h, fun h0 => ?_⟩
    obtain ⟨h1, h2, h3⟩ := word_own l e h0
    rcases h with rfl | ⟨_, m, hm, h4⟩
    · simp at h1
    · -- both begin alike, so they are alike
      have h5 : textB (VarPlain.word l e).1 ++ ((VarPlain.word l e).2.1 ++ (textB s ++ r).drop m) = textB s ++ r := by
        rw [← List.append_assoc, ← h2]
        conv => lhs; rw [h4]
        exact List.take_append_drop _ _
      have h6 := congrArg (fun b => VarPlain.word b 0) h5
      have h6 : VarPlain.word (textB (VarPlain.word l e).1 ++ ((VarPlain.word l e).2.1 ++ (textB s ++ r).drop m)) 0 = VarPlain.word (textB s ++ r) 0 := h6
      have h7 := word_text (VarPlain.word l e).1 h3 ((VarPlain.word l e).2.1 ++ (textB s ++ r).drop m)
      have h8 := word_text s hs r
      unfold textB at h6
      unfold textB at h7
      rw [h7, h8] at h6
      exact congrArg (fun t => t.1) h6
  own l e h := word_own l e h

/-- So many texts, one behind the other. -/
def words (l : List UInt8) (e : Int) : Nat → List (List UInt8) × List UInt8 × Int
  | 0 => ([], l, e)
  | n + 1 => ((words l e n).1 ++ [(VarPlain.word (words l e n).2.1 (words l e n).2.2).1], (VarPlain.word (words l e n).2.1 (words l e n).2.2).2)
theorem words_len (l : List UInt8) (e : Int) (n : Nat) : (words l e n).1.length = n := by
  induction n with
  | zero => rfl
  | succ n ih => simp [words, ih]
theorem words_lawful (n : Nat) : Lawful texts (fun l e => words l e n) (fun ls => ls.length = n ∧ ∀ s ∈ ls, Lt64 s.length) := by
  induction n with
  | zero =>
    refine ⟨fun ls r h => ?_, fun ls r l e h hc => ?_, fun l e h => ⟨h, rfl, rfl, by simp [words]⟩⟩
    · obtain rfl := List.eq_nil_of_length_eq_zero h.1
      rfl
    · obtain rfl := List.eq_nil_of_length_eq_zero h.1
      exact ⟨hc, fun _ => rfl⟩
  | succ n ih =>
    have split : ∀ ls : List (List UInt8), ls.length = n + 1 → ∃ a s, ls = a ++ [s] ∧ a.length = n := fun ls h => by
      have hne : ls ≠ [] := by intro h0; subst h0; simp at h
      exact ⟨ls.dropLast, ls.getLast hne, (List.dropLast_concat_getLast hne).symm, by simp [h]⟩
    have tx : ∀ a s, texts (a ++ [s]) = texts a ++ textB s := fun a s => by rw [texts_snoc, textB, List.append_assoc]
    refine ⟨fun ls r h => ?_, fun ls r l e h hc => ?_, fun l e h => ?_⟩
    · obtain ⟨a, s, rfl, ha⟩ := split ls h.1
      have h1 := ih.back a (textB s ++ r) ⟨ha, fun x hx => h.2 x (by simp [hx])⟩
      rw [tx, List.append_assoc]
      simp only [words, h1, word_lawful.back s r (h.2 s (by simp))]
    · obtain ⟨a, s, rfl, ha⟩ := split ls h.1
      rw [tx, List.append_assoc] at hc
      obtain ⟨h1, h2⟩ := ih.cut a (textB s ++ r) l e ⟨ha, fun x hx => h.2 x (by simp [hx])⟩ hc
      obtain ⟨h3, h4⟩ := word_lawful.cut s r _ _ (h.2 s (by simp)) h1
      refine ⟨h3, fun h0 => ?_⟩
      simp only [words] at h0 ⊢
      rw [h4 h0, h2 (word_lawful.own _ _ h0).1]
    · simp only [words] at h ⊢
      obtain ⟨h1, h2, h3⟩ := word_lawful.own _ _ h
      obtain ⟨h4, h5, h6, h7⟩ := ih.own l e h1
      refine ⟨h4, ?_, by simp [h6], ?_⟩
      · rw [tx, List.append_assoc, ← h2]; exact h5
      · intro s hs
        rcases List.mem_append.1 hs with hs | hs
        · exact h7 s hs
        · rw [List.mem_singleton.1 hs]; exact h3

/-- How many texts there are, and these; too many are none. -/
def rowB (ls : List (List UInt8)) : List UInt8 := VarPlain.num ls.length ++ texts ls
def readRow (l : List UInt8) (e : Int) : (Bool × List (List UInt8)) × List UInt8 × Int :=
  if 4096 < (VarPlain.next l e).1 then ((false, []), (VarPlain.next l e).2) else ((true, (words (VarPlain.next l e).2.1 (VarPlain.next l e).2.2 (VarPlain.next l e).1).1), (words (VarPlain.next l e).2.1 (VarPlain.next l e).2.2 (VarPlain.next l e).1).2)
def okRow (ls : List (List UInt8)) : Prop := ls.length ≤ 4096 ∧ ∀ s ∈ ls, Lt64 s.length
theorem readRow_back (ls : List (List UInt8)) (r : List UInt8) (h : okRow ls) : readRow (rowB ls ++ r) 0 = ((true, ls), r, 0) := by
  unfold readRow rowB
  rw [List.append_assoc, next_num _ (by unfold Lt64; have := h.1; omega)]
  simp only []
  rw [if_neg (by have := h.1; omega), (words_lawful ls.length).back ls r ⟨rfl, h.2⟩]
theorem next_bad (l : List UInt8) (e : Int) (h : (VarPlain.next l e).2.2 ≠ 0) : (VarPlain.next l e).1 = 0 := by
  unfold VarPlain.next at h ⊢
  by_cases he : e = 0
  · subst he
    rw [if_neg (by simp)] at h ⊢
    exact (take_bad h).1
  · rw [if_pos he]
theorem readRow_cut (ls : List (List UInt8)) (r l : List UInt8) (e : Int) (h : okRow ls) (hc : Cutt (rowB ls ++ r) l e) :
    Cutt r (readRow l e).2.1 (readRow l e).2.2 ∧ ((readRow l e).2.2 = 0 → (readRow l e).1 = (true, ls)) ∧ (readRow l e).1.1 = true := by
  have hl := h.1
  unfold rowB at hc
  rw [List.append_assoc] at hc
  obtain ⟨h1, h2⟩ := num_lawful.cut _ _ l e (by unfold Lt64; omega) hc
  unfold readRow
  by_cases h0 : (VarPlain.next l e).2.2 = 0
  · have h3 := h2 h0
    rw [if_neg (by omega)]
    rw [h3] at *
    obtain ⟨h4, h5⟩ := (words_lawful ls.length).cut ls r _ _ ⟨rfl, h.2⟩ h1
    exact ⟨h4, fun h6 => by rw [show (words _ _ _).1 = ls from h5 h6], rfl⟩
  · have h3 := next_bad l e h0
    rw [h3, if_neg (by omega)]
    have h4 : (VarPlain.next l e).2.2 = 10 := by
      rcases h1 with h1 | ⟨h1, _⟩
      · exact h1
      · exact absurd h1 h0
    exact ⟨.inl h4, fun h5 => absurd h5 h0, rfl⟩
theorem readRow_own (l : List UInt8) (e : Int) (h : (readRow l e).2.2 = 0) (hf : (readRow l e).1.1 = true) : e = 0 ∧ l = rowB (readRow l e).1.2 ++ (readRow l e).2.1 ∧ okRow (readRow l e).1.2 := by
  unfold readRow at h hf ⊢
  by_cases hb : 4096 < (VarPlain.next l e).1
  · rw [if_pos hb] at hf; simp at hf
  · rw [if_neg hb] at h ⊢
    simp only [] at h ⊢
    obtain ⟨h1, h2, h3, h4⟩ := (words_lawful (VarPlain.next l e).1).own _ _ h
    obtain ⟨h5, h6, h7⟩ := next_own l e h1
    refine ⟨h5, ?_, by unfold okRow; rw [h3]; exact ⟨by omega, h4⟩⟩
    unfold rowB
    rw [h3, List.append_assoc, ← h2]
    exact h6
theorem readRow_e (l : List UInt8) (e : Int) (h : (readRow l e).2.2 = 0) : e = 0 := by
  unfold readRow at h
  by_cases hb : 4096 < (VarPlain.next l e).1
  · rw [if_pos hb] at h; exact (next_own l e h).1
  · rw [if_neg hb] at h
    exact (next_own l e ((words_lawful (VarPlain.next l e).1).own _ _ h).1).1

end Go.Proofs.Ytgbnfipbedlmhaa
