/-
  Plain mathematics of chapter 13: words between blanks, texts between colons, the borders' parts. No program stands here. Conditions: as each law says.
-/
import Derived.Test.YtiemlgfcmldnoaaSpWalks5
set_option linter.unusedVariables false
namespace Go.Proofs.Ytiemlgfcmldnoaa
open Go.RowKit Base

theorem foldl_word (ifs : List UInt8) (x : List UInt8) (hx : ∀ c ∈ x, c ∉ ifs) (hne : x ≠ []) (L : List SRow) (now : SRow) (bg bl : Bool) :
    (ofS x 115).foldl (stepS ifs) ⟨L, now, bg, bl⟩ = ⟨L, now ++ ofS x 115, true, false⟩ := by
  have one : ∀ (c : UInt8) (now : SRow) (bg bl : Bool), c ∉ ifs → stepS ifs ⟨L, now, bg, bl⟩ (c, 115) = ⟨L, now ++ [(c, 115)], true, false⟩ := by
    intro c now bg bl hc
    unfold stepS
    rw [if_neg (fun h => hc h.2), if_neg (show ¬ ((115 : UInt8) = 98) by decide), if_neg (show ¬ ((115 : UInt8) = 101) by decide)]
  have all : ∀ (x : List UInt8) (now : SRow), (∀ c ∈ x, c ∉ ifs) → (ofS x 115).foldl (stepS ifs) ⟨L, now, true, false⟩ = ⟨L, now ++ ofS x 115, true, false⟩ := by
    intro x
    induction x with
    | nil => intro now _; simp [ofS]
    | cons c x ih =>
      intro now h
      show ((c, 115) :: ofS x 115).foldl _ _ = _
      rw [List.foldl_cons, one c now true false (h c (List.mem_cons_self ..)), ih _ (fun d hd => h d (List.mem_cons_of_mem _ hd)), List.append_assoc]
      rfl
  cases x with
  | nil => exact absurd rfl hne
  | cons c x =>
    show ((c, 115) :: ofS x 115).foldl _ _ = _
    rw [List.foldl_cons, one c now bg bl (hx c (List.mem_cons_self ..)), all _ _ (fun d hd => hx d (List.mem_cons_of_mem _ hd)), List.append_assoc]
    rfl
theorem ofS_append (a b : List UInt8) (c : UInt8) : ofS (a ++ b) c = ofS a c ++ ofS b c := by unfold ofS; rw [List.map_append]
theorem ofS_nil (c : UInt8) : ofS [] c = [] := rfl
/-- Texts, a colon behind each. -/
def colons (l : List (List UInt8)) : List UInt8 := l.flatMap (· ++ [58])
theorem colons_take (l : List (List UInt8)) (k : Nat) (h : k < l.length) : colons (l.take (k + 1)) = colons (l.take k) ++ (l[k] ++ [58]) := by
  unfold colons; rw [List.take_succ_eq_append_getElem h, List.flatMap_append]; simp
theorem colons_len (l : List (List UInt8)) (B : Nat) (h : ∀ x ∈ l, x.length ≤ B) : (colons l).length ≤ l.length * (B + 1) := by
  induction l with
  | nil => simp [colons]
  | cons x l ih =>
    have h1 := h x (List.mem_cons_self ..)
    have h2 := ih (fun y hy => h y (List.mem_cons_of_mem _ hy))
    show ((x ++ [58]) ++ colons l).length ≤ _
    simp only [List.length_append, List.length_cons, List.length_nil, Nat.add_mul]
    omega
theorem colons_fold (l : List (List UInt8)) (h : ∀ x ∈ l, (58 : UInt8) ∉ x) (L : List SRow) :
    (ofS (colons l) 115).foldl (stepS [58]) ⟨L, [], false, false⟩ = ⟨L ++ l.map (ofS · 115), [], false, false⟩ := by
  induction l generalizing L with
  | nil => simp [colons, ofS]
  | cons x l ih =>
    show (ofS ((x ++ [58]) ++ colons l) 115).foldl _ _ = _
    rw [ofS_append, ofS_append, List.foldl_append, List.foldl_append]
    have hx := h x (List.mem_cons_self ..)
    have hl := fun y hy => h y (List.mem_cons_of_mem _ hy)
    have sep : ∀ (now : SRow) (bg : Bool), (bg = false → now = []) → (ofS [58] 115).foldl (stepS [58]) ⟨L, now, bg, false⟩ = ⟨L ++ [now], [], false, false⟩ := by
      intro now bg hb
      show stepS [58] _ (58, 115) = _
      unfold stepS
      rw [if_pos ⟨rfl, by simp⟩]
      unfold sepS endS
      cases bg
      · simp [whiteB]
      · simp [whiteB]
    by_cases hne : x = []
    · subst hne
      rw [ofS_nil, List.foldl_nil, sep [] false (fun _ => rfl), ih hl]
      simp [ofS]
    · rw [foldl_word [58] x (fun c hc e => hx (by rw [List.mem_singleton] at e; exact e ▸ hc)) hne, List.nil_append, sep _ true (fun e => by cases e), ih hl]
      simp
theorem colons_split (l : List (List UInt8)) (h : ∀ x ∈ l, (58 : UInt8) ∉ x) : splitB [58] (ofS (colons l) 115) = l.map (ofS · 115) := by
  have := colons_fold l h []
  unfold splitB foldS
  rw [this]
  simp [endS]
/-- What is quoted is one field. -/
theorem quoted_split (ifs s : List UInt8) : splitB ifs (ofS s 113) = if s = [] then [] else [ofS s 113] := by
  have one : ∀ (c : UInt8) (st : SpSt), stepS ifs st (c, 113) = ⟨st.l, st.now ++ [(c, 113)], true, false⟩ := by
    intro c st
    unfold stepS
    rw [if_neg (fun h => absurd (show (113 : UInt8) = 115 from h.1) (by decide)), if_neg (show ¬ ((113 : UInt8) = 98) by decide), if_neg (show ¬ ((113 : UInt8) = 101) by decide)]
  have all : ∀ (x : List UInt8) (now : SRow), (ofS x 113).foldl (stepS ifs) ⟨[], now, true, false⟩ = ⟨[], now ++ ofS x 113, true, false⟩ := by
    intro x
    induction x with
    | nil => intro now; simp [ofS]
    | cons c x ih =>
      intro now
      show ((c, 113) :: ofS x 113).foldl _ _ = _
      rw [List.foldl_cons, one, ih, List.append_assoc]
      rfl
  cases s with
  | nil => rfl
  | cons c s =>
    rw [if_neg (List.cons_ne_nil _ _)]
    unfold splitB foldS
    show (endS (((c, 113) :: ofS s 113).foldl _ _) false).l = _
    rw [List.foldl_cons, one, all]
    simp [endS, ofS]
/-- Words with one blank between. -/
def isBlank (c : UInt8) : Prop := c = 32 ∨ c = 9 ∨ c = 10
def onesA (l : List (List UInt8)) : List UInt8 := (l.map fun x => (32 : UInt8) :: x).flatten.drop 1
/-- Words, k times a tab and a blank ahead of each. -/
def gapsL (k : Nat) : List UInt8 := (List.replicate k [(9 : UInt8), 32]).flatten
def manyB (k : Nat) (l : List (List UInt8)) : List UInt8 := l.flatMap fun x => gapsL k ++ x
theorem onesA_take (l : List (List UInt8)) (k : Nat) (h : k < l.length) : onesA (l.take (k + 1)) = if k = 0 then l[k] else onesA (l.take k) ++ ([32] ++ l[k]) := by
  unfold onesA
  rw [List.take_succ_eq_append_getElem h, List.map_append, List.flatten_append]
  by_cases hk : k = 0
  · subst hk; simp
  · rw [if_neg hk, List.drop_append_of_le_length]
    · simp
    · cases l with
      | nil => exact absurd h (Nat.not_lt_zero _)
      | cons x l =>
        obtain ⟨k, rfl⟩ : ∃ m, k = m + 1 := ⟨k - 1, by omega⟩
        rw [List.take_succ_cons, List.map_cons, List.flatten_cons, List.length_append, List.length_cons]
        omega
theorem gaps_succ (k : Nat) : gapsL (k + 1) = gapsL k ++ [9, 32] := by
  unfold gapsL; rw [List.replicate_succ', List.flatten_append]; simp
theorem gaps_len (k : Nat) : (gapsL k).length = 2 * k := by
  induction k with
  | zero => rfl
  | succ k ih => rw [gaps_succ, List.length_append, ih]; simp; omega
theorem manyB_take (k : Nat) (l : List (List UInt8)) (i : Nat) (h : i < l.length) : manyB k (l.take (i + 1)) = (manyB k (l.take i) ++ gapsL k) ++ l[i] := by
  unfold manyB; rw [List.take_succ_eq_append_getElem h, List.flatMap_append]; simp
theorem onesA_len (l : List (List UInt8)) (B : Nat) (h : ∀ x ∈ l, x.length ≤ B) : (onesA l).length ≤ l.length * (B + 1) := by
  have : (l.map fun x => (32 : UInt8) :: x).flatten.length ≤ l.length * (B + 1) := by
    induction l with
    | nil => simp
    | cons x l ih =>
      have h1 := h x (List.mem_cons_self ..)
      have h2 := ih (fun y hy => h y (List.mem_cons_of_mem _ hy))
      rw [List.map_cons, List.flatten_cons, List.length_append, List.length_cons, List.length_cons, Nat.add_mul]
      omega
  unfold onesA
  rw [List.length_drop]
  omega
theorem manyB_len (k : Nat) (l : List (List UInt8)) (B : Nat) (h : ∀ x ∈ l, x.length ≤ B) : (manyB k l).length ≤ l.length * (2 * k + B) := by
  induction l with
  | nil => simp [manyB]
  | cons x l ih =>
    have h1 := h x (List.mem_cons_self ..)
    have h2 := ih (fun y hy => h y (List.mem_cons_of_mem _ hy))
    show ((gapsL k ++ x) ++ manyB k l).length ≤ _
    rw [List.length_append, List.length_append, gaps_len, List.length_cons, Nat.add_mul]
    omega
theorem white_step (c : UInt8) (hc : c = 32 ∨ c = 9 ∨ c = 10) (st : SpSt) : stepS [32, 9, 10] st (c, 115) = (if st.begun = true then endS st true else st) := by
  have hm : c ∈ ([32, 9, 10] : List UInt8) := by simpa using hc
  have hw : whiteB c = true := by unfold whiteB; rcases hc with rfl | rfl | rfl <;> rfl
  unfold stepS
  rw [if_pos (show (115 : UInt8) = 115 ∧ c ∈ ([32, 9, 10] : List UInt8) from ⟨rfl, hm⟩)]
  unfold sepS
  rw [if_pos hw]
theorem white_fold (g : List UInt8) (hg : ∀ c ∈ g, c = 32 ∨ c = 9 ∨ c = 10) (L : List SRow) (bl : Bool) : (ofS g 115).foldl (stepS [32, 9, 10]) ⟨L, [], false, bl⟩ = ⟨L, [], false, bl⟩ := by
  induction g with
  | nil => rfl
  | cons c g ih =>
    show ((c, 115) :: ofS g 115).foldl _ _ = _
    rw [List.foldl_cons, white_step c (hg c (List.mem_cons_self ..)), if_neg (by simp)]
    exact ih (fun d hd => hg d (List.mem_cons_of_mem _ hd))
theorem white_ends (g : List UInt8) (hg : ∀ c ∈ g, c = 32 ∨ c = 9 ∨ c = 10) (hne : g ≠ []) (L : List SRow) (now : SRow) : (ofS g 115).foldl (stepS [32, 9, 10]) ⟨L, now, true, false⟩ = ⟨L ++ [now], [], false, true⟩ := by
  cases g with
  | nil => exact absurd rfl hne
  | cons c g =>
    show ((c, 115) :: ofS g 115).foldl _ _ = _
    rw [List.foldl_cons, white_step c (hg c (List.mem_cons_self ..)), if_pos rfl]
    exact white_fold g (fun d hd => hg d (List.mem_cons_of_mem _ hd)) _ _
theorem gaps_white (k : Nat) : ∀ c ∈ gapsL k, c = 32 ∨ c = 9 ∨ c = 10 := by
  intro c hc
  unfold gapsL at hc
  rw [List.mem_flatten] at hc
  obtain ⟨g, hg, hc⟩ := hc
  rw [List.mem_replicate] at hg
  rw [hg.2] at hc
  have h2 : c = 9 ∨ c = 32 := by simpa using hc
  rcases h2 with h2 | h2
  · exact .inr (.inl h2)
  · exact .inl h2
def wordy (x : List UInt8) : Prop := x ≠ [] ∧ ∀ c ∈ x, c ∉ ([32, 9, 10] : List UInt8)
theorem gaps_ne (k : Nat) (h : 0 < k) : gapsL k ≠ [] := by
  intro e
  have := gaps_len k
  rw [e, List.length_nil] at this
  omega
theorem many_fold (k : Nat) (hk : 0 < k) (l : List (List UInt8)) (h : ∀ x ∈ l, wordy x) (L : List SRow) (now : SRow) :
    (ofS (manyB k l ++ [10]) 115).foldl (stepS [32, 9, 10]) ⟨L, now, true, false⟩ = ⟨L ++ now :: l.map (ofS · 115), [], false, true⟩ := by
  induction l generalizing L now with
  | nil =>
    show (ofS [10] 115).foldl _ _ = _
    rw [white_ends [10] (by simp) (by simp)]
    rfl
  | cons x l ih =>
    show (ofS (((gapsL k ++ x) ++ manyB k l) ++ [10]) 115).foldl _ _ = _
    have hx := h x (List.mem_cons_self ..)
    rw [List.append_assoc, List.append_assoc, ofS_append, ofS_append, List.foldl_append, List.foldl_append, white_ends _ (gaps_white k) (gaps_ne k hk), foldl_word _ x hx.2 hx.1, ih (fun y hy => h y (List.mem_cons_of_mem _ hy))]
    simp
theorem many_split (k : Nat) (hk : 0 < k) (l : List (List UInt8)) (h : ∀ x ∈ l, wordy x) : splitB [32, 9, 10] (ofS (manyB k l ++ [10]) 115) = l.map (ofS · 115) := by
  unfold splitB foldS
  cases l with
  | nil =>
    show (endS ((ofS [10] 115).foldl _ _) false).l = _
    rw [white_fold [10] (by simp)]
    rfl
  | cons x l =>
    show (endS ((ofS (((gapsL k ++ x) ++ manyB k l) ++ [10]) 115).foldl _ _) false).l = _
    have hx := h x (List.mem_cons_self ..)
    rw [List.append_assoc, List.append_assoc, ofS_append, ofS_append, List.foldl_append, List.foldl_append, white_fold _ (gaps_white k), foldl_word _ x hx.2 hx.1, many_fold k hk l (fun y hy => h y (List.mem_cons_of_mem _ hy))]
    simp [endS]
theorem ones_fold (l : List (List UInt8)) (h : ∀ x ∈ l, wordy x) (L : List SRow) (now : SRow) :
    (ofS ((l.map fun x => (32 : UInt8) :: x).flatten) 115).foldl (stepS [32, 9, 10]) ⟨L, now, true, false⟩ = ⟨L ++ ((now :: l.map (ofS · 115)).dropLast), ((now :: l.map (ofS · 115)).getLast (List.cons_ne_nil _ _)), true, false⟩ := by
  induction l generalizing L now with
  | nil => simp [ofS]
  | cons x l ih =>
    show (ofS (([32] ++ x) ++ (l.map fun x => (32 : UInt8) :: x).flatten) 115).foldl _ _ = _
    have hx := h x (List.mem_cons_self ..)
    rw [List.append_assoc, ofS_append, ofS_append, List.foldl_append, List.foldl_append, white_ends [32] (by simp) (by simp), foldl_word _ x hx.2 hx.1, ih (fun y hy => h y (List.mem_cons_of_mem _ hy))]
    simp
theorem ones_split (l : List (List UInt8)) (h : ∀ x ∈ l, wordy x) : splitB [32, 9, 10] (ofS (onesA l) 115) = l.map (ofS · 115) := by
  unfold splitB foldS onesA
  cases l with
  | nil => rfl
  | cons x l =>
    show (endS ((ofS (x ++ (l.map fun x => (32 : UInt8) :: x).flatten) 115).foldl _ _) false).l = _
    have hx := h x (List.mem_cons_self ..)
    rw [ofS_append, List.foldl_append, foldl_word _ x hx.2 hx.1, ones_fold l (fun y hy => h y (List.mem_cons_of_mem _ hy))]
    unfold endS
    simp only [if_true, List.nil_append]
    exact List.dropLast_concat_getLast _
end Go.Proofs.Ytiemlgfcmldnoaa
