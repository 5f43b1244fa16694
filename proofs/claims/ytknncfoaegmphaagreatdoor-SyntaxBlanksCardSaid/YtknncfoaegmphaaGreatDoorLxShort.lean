/-
  Lexer: what stands in single quotes; a backslash with a newline behind it, as plain laws. No program stands here. Conditions: as each law says.
-/
import Derived.Test.YtknncfoaegmphaaGreatDoorLxLines
set_option linter.unusedVariables false
set_option linter.unusedSimpArgs false
namespace Go.Proofs.YtknncfoaegmphaaGreatDoor.Lx
/-! ### Words, taken apart -/
theorem w_end {s : Nm} (h : ends s = true) : wordM s = .ok ([], s) := loop_stop h
theorem w_step {s : Nm} (h : ends s = false) : wordM s = bnd (parA 0 s) fun x => pre x.1 (wordM x.2) := loop_step (part_strict 0) (part_nil 0) h
theorem has_join {c d : UInt8} {r : Nm} : has [92, 10] (c :: d :: r) = (decide (92 = c) && decide (10 = d)) := by
  simp only [has, List.isPrefixOf, Bool.and_true]
  by_cases h : (92 : UInt8) = c <;> by_cases h2 : (10 : UInt8) = d <;> simp [h, h2]
theorem has_join1 {c : UInt8} : has [92, 10] [c] = false := by simp [has, List.isPrefixOf]
theorem join_ne {c : UInt8} {r : Nm} (h : c ≠ 92) : has [92, 10] (c :: r) = false := has_first (Ne.symm h)
/-- A byte that is a part of its own. -/
def plainC (c : UInt8) : Bool := !blkL.contains c && c != 92 && c != 39 && c != 34 && c != 36 && c != 96
theorem plain_ne {c : UInt8} (h : plainC c = true) : blkL.contains c = false ∧ c ≠ 92 ∧ c ≠ 39 ∧ c ≠ 34 ∧ c ≠ 36 ∧ c ≠ 96 := by
  unfold plainC at h
  simp only [Bool.and_eq_true, Bool.not_eq_true', bne_iff_ne] at h
  exact ⟨h.1.1.1.1.1, h.1.1.1.1.2, h.1.1.1.2, h.1.1.2, h.1.2, h.2⟩
theorem part_plain {c : UInt8} (h : plainC c = true) (deep : Nat) (r : Nm) : parA deep (c :: r) = .ok ([c], r) := by
  obtain ⟨_, h1, h2, h3, h4, h5⟩ := plain_ne h
  rw [parA_eq, if_neg (by simp [join_ne h1]), if_neg h1, if_neg h2, if_neg h3, if_neg h4, if_neg h5]
theorem word_plain : ∀ (p t : Nm), p.all plainC = true → wordM (p ++ t) = pre p (wordM t)
  | [], t, _ => by rw [List.nil_append, pre_nil]
  | c :: p, t, h => by
    rw [List.all_cons, Bool.and_eq_true] at h
    have he : ends (c :: (p ++ t)) = false := (plain_ne h.1).1
    rw [List.cons_append, w_step he, part_plain h.1, bnd_ok, word_plain p t h.2, pre_pre]
    rfl
theorem word_join (t : Nm) : wordM (92 :: 10 :: t) = wordM t := by
  rw [w_step (by rfl), parA_eq, if_pos (by rfl), bnd_ok]
  exact pre_nil _
theorem sign_none_of {c : UInt8} {r : Nm} (h : c ≠ 59 ∧ c ≠ 124 ∧ c ≠ 40 ∧ c ≠ 41 ∧ c ≠ 60 ∧ c ≠ 62 ∧ c ≠ 38) : signOf (c :: r) = none := by
  obtain ⟨h1, h2, h3, h4, h5, h6, h7⟩ := h
  unfold signOf
  rw [List.find?_eq_none]
  intro o ho
  simp [signL] at ho
  rcases ho with rfl | rfl | rfl | rfl | rfl | rfl | rfl | rfl | rfl | rfl | rfl <;> simp [has, List.isPrefixOf, Ne.symm h1, Ne.symm h2, Ne.symm h3, Ne.symm h4, Ne.symm h5, Ne.symm h6, Ne.symm h7]
/-- A word stands next. -/
theorem one_word {g : Nat} {l : List Tok} {h : List Nat} {c : UInt8} {r : Nm} (h10 : c ≠ 10) (h35 : c ≠ 35) (hj : has [92, 10] (c :: r) = false) (hb : blkL.contains c = false) : oneM g l h (c :: r) = bnd (wordM (c :: r)) fun x =>
    if isIo (c :: r) x.1 x.2 then .ok (l ++ [⟨5, x.1, [], g⟩], h, x.2) else .ok (l ++ [⟨1, x.1, [], g⟩], if isHere l then h ++ [l.length] else h, x.2) := by
  simp [blkL] at hb
  obtain ⟨b1, b2, b3, b4, b5, b6, b7, b8, b9, b10⟩ := hb
  unfold oneM
  simp only
  rw [if_neg h10, if_neg h35, if_neg (by simp [hj]), if_neg (by simp [b1, b2]), sign_none_of ⟨b4, b6, b7, b8, b9, b10, b5⟩]
  simp only
  rw [if_neg b5]
theorem one_blank {g : Nat} {l : List Tok} {h : List Nat} (r : Nm) : oneM g l h (32 :: r) = .ok (l, h, r) := rfl
theorem one_tab {g : Nat} {l : List Tok} {h : List Nat} (r : Nm) : oneM g l h (9 :: r) = .ok (l, h, r) := rfl
theorem one_join {g : Nat} {l : List Tok} {h : List Nat} (r : Nm) : oneM g l h (92 :: 10 :: r) = .ok (l, h, r) := rfl
/-! ### What stands in single quotes -/
theorem cut_at {c : UInt8} : ∀ (x r : Nm), c ∉ x → cutAt c (x ++ c :: r) = some (x, r)
  | [], r, _ => by simp [cutAt]
  | d :: x, r, h => by
    have h1 : d ≠ c := fun e => h (by rw [e]; exact List.mem_cons_self)
    rw [List.cons_append, cutAt, if_neg h1, cut_at x r (fun hm => h (List.mem_cons_of_mem _ hm))]
    rfl
theorem word_quote (x r : Nm) (h : (39 : UInt8) ∉ x) : wordM (39 :: x ++ 39 :: r) = pre (39 :: x ++ [39]) (wordM r) := by
  rw [List.cons_append, w_step (by rfl), parA_eq, if_neg (by simp [join_ne (show (39 : UInt8) ≠ 92 by decide)]), if_neg (by decide), if_pos rfl, cut_at x r h]
  rfl
def qText : List Nm → Nm
  | [] => []
  | x :: r => 39 :: x ++ 39 :: 32 :: qText r
def NoHere (l : List Tok) : Prop := isHere l = false
theorem noHere_word (l : List Tok) (t : Nm) (g : Nat) : isHere (l ++ [⟨1, t, [], g⟩]) = false := by
  unfold isHere; rw [List.getLast?_append]; rfl
theorem quotes_run (K : Nat) : ∀ (xs : List Nm) (l : List Tok), (∀ x ∈ xs, (39 : UInt8) ∉ x) → isHere l = false → ∃ ms : List Tok, allS K (l, [], qText xs) = .ok (l ++ ms ++ [⟨4, [], [], K⟩]) ∧ ms.length = xs.length ∧ ∀ (i : Nat) (t : Tok) (x : Nm), ms[i]? = some t → xs[i]? = some x → t.k = 1 ∧ t.t = 39 :: x ++ [39]
  | [], l, _, _ => ⟨[], by simp [qText, allS_end], rfl, by simp⟩
  | x :: xs, l, h, hh => by
    have hx := h x List.mem_cons_self
    obtain ⟨ms, h1, h2, h3⟩ := quotes_run K xs (l ++ [⟨1, 39 :: x ++ [39], [], K - nl (39 :: x ++ 39 :: 32 :: qText xs)⟩]) (fun y hy => h y (List.mem_cons_of_mem _ hy)) (noHere_word _ _ _)
    refine ⟨⟨1, 39 :: x ++ [39], [], K - nl (39 :: x ++ 39 :: 32 :: qText xs)⟩ :: ms, ?_, by simp [h2], ?_⟩
    · show allS K (l, [], 39 :: x ++ 39 :: 32 :: qText xs) = _
      rw [allS_step K l [] (by simp), List.cons_append, one_word (by decide) (by decide) (join_ne (by decide)) (by decide), ← List.cons_append, word_quote x _ hx, w_end (s := 32 :: qText xs) rfl, pre_ok, bnd_ok]
      have hio : isIo (39 :: x ++ 39 :: 32 :: qText xs) (39 :: x ++ [39] ++ []) (32 :: qText xs) = false := by
        unfold isIo
        have : (39 :: x ++ [39] ++ []).all digB = false := by rfl
        rw [this]; simp
      rw [if_neg (by simp only [hio]; decide), hh]
      simp only [Bool.false_eq_true, if_false]
      rw [allS_step K _ [] (by simp), one_blank]
      simp only
      rw [List.append_nil, h1]
      simp
    · intro i t y hi hy
      cases i with
      | zero =>
        simp at hi hy
        subst hi hy
        exact ⟨rfl, rfl⟩
      | succ i => exact h3 i t y (by simpa using hi) (by simpa using hy)
theorem quotes_all (xs : List Nm) (h : ∀ x ∈ xs, (39 : UInt8) ∉ x) : ∃ (ms : List Tok) (e : Tok), allM (qText xs) = .ok (ms ++ [e]) ∧ e.k = 4 ∧ ms.length = xs.length ∧ ∀ (i : Nat) (t : Tok) (x : Nm), ms[i]? = some t → xs[i]? = some x → t.k = 1 ∧ t.t = 39 :: x ++ [39] := by
  obtain ⟨ms, h1, h2, h3⟩ := quotes_run (1 + nl (qText xs)) xs [] h rfl
  exact ⟨ms, ⟨4, [], [], 1 + nl (qText xs)⟩, by unfold allM; rw [h1]; simp, rfl, h2, h3⟩
/-! ### A backslash with a newline behind it -/
def wordC (c : UInt8) : Bool := (97 ≤ c && c ≤ 122) || c == 45 || c == 95
set_option maxRecDepth 100000 in
theorem wordC_plain : ∀ c : UInt8, wordC c = true → plainC c = true ∧ c ≠ 35 ∧ c ≠ 10 ∧ digB c = false := by
  have h : ∀ n : Fin 256, wordC (UInt8.ofNat n.val) = true → plainC (UInt8.ofNat n.val) = true ∧ UInt8.ofNat n.val ≠ 35 ∧ UInt8.ofNat n.val ≠ 10 ∧ digB (UInt8.ofNat n.val) = false := by decide
  intro c
  have := h ⟨c.toNat, c.toNat_lt⟩
  simpa using this
theorem all_imp {p q : UInt8 → Bool} {l : Nm} (h : l.all p = true) (hi : ∀ c, p c = true → q c = true) : l.all q = true := by
  rw [List.all_eq_true] at h ⊢
  exact fun c hc => hi c (h c hc)
theorem nl_word {l : Nm} (h : l.all wordC = true) : nl l = 0 := by
  unfold nl
  rw [List.count_eq_zero]
  intro hm
  rw [List.all_eq_true] at h
  exact absurd (h 10 hm) (by decide)
theorem nl_append (a b : Nm) : nl (a ++ b) = nl a + nl b := List.count_append
/-- A word of such bytes, and what stands behind. -/
theorem one_letters {g : Nat} {l : List Tok} {h : List Nat} {a t : Nm} {x : Nm × Nm} (ha : a.all wordC = true) (hne : a ≠ []) (ht : wordM t = .ok x) (hh : isHere l = false) : oneM g l h (a ++ t) = .ok (l ++ [⟨1, a ++ x.1, [], g⟩], h, x.2) := by
  cases a with
  | nil => exact absurd rfl hne
  | cons c a =>
    have hc := wordC_plain c (by rw [List.all_cons, Bool.and_eq_true] at ha; exact ha.1)
    have hp := plain_ne hc.1
    have hw := word_plain (c :: a) t (all_imp ha fun c h => (wordC_plain c h).1)
    rw [List.cons_append] at hw ⊢
    rw [one_word hc.2.2.1 hc.2.1 (join_ne hp.2.1) hp.1, hw, ht]
    obtain ⟨x1, x2⟩ := x
    rw [pre_ok, bnd_ok]
    have hio : isIo (c :: (a ++ t)) (c :: a ++ x1) x2 = false := by
      unfold isIo
      have : (c :: a ++ x1).all digB = false := by simp [hc.2.2.2]
      rw [this]; simp
    rw [if_neg (by simp only [hio]; decide), hh]
    rfl
theorem joins_one {a b : Nm} (ha : a.all wordC = true) (hb : b.all wordC = true) (hna : a ≠ []) (hnb : b ≠ []) : allM (a ++ 92 :: 10 :: b) = .ok [⟨1, a ++ b, [], 1⟩, ⟨4, [], [], 2⟩] := by
  have hn : nl (a ++ 92 :: 10 :: b) = 1 := by
    rw [nl_append, nl_word ha]
    have := nl_word hb
    unfold nl at this ⊢
    simp [this]
  have hwb : wordM b = .ok (b, []) := by
    have := word_plain b [] (all_imp hb fun c h => (wordC_plain c h).1)
    rw [List.append_nil] at this
    rw [this, w_end rfl, pre_ok, List.append_nil]
  unfold allM
  rw [hn, allS_step _ _ _ (by simp), hn, one_letters (x := (b, [])) ha hna (by rw [word_join, hwb]) rfl]
  rfl
theorem joins_two {a b : Nm} (ha : a.all wordC = true) (hb : b.all wordC = true) (hna : a ≠ []) (hnb : b ≠ []) : allM (a ++ 32 :: 92 :: 10 :: 32 :: b) = .ok [⟨1, a, [], 1⟩, ⟨1, b, [], 2⟩, ⟨4, [], [], 2⟩] := by
  have hb0 := nl_word hb
  have hn : nl (a ++ 32 :: 92 :: 10 :: 32 :: b) = 1 := by
    rw [nl_append, nl_word ha]
    unfold nl at hb0 ⊢
    simp [hb0]
  have hwb : wordM b = .ok (b, []) := by
    have := word_plain b [] (all_imp hb fun c h => (wordC_plain c h).1)
    rw [List.append_nil] at this
    rw [this, w_end rfl, pre_ok, List.append_nil]
  unfold allM
  rw [hn, allS_step _ _ _ (by simp), hn, one_letters (x := ([], 32 :: 92 :: 10 :: 32 :: b)) ha hna (w_end rfl) rfl]
  simp only
  rw [allS_step _ _ _ (by simp), one_blank]
  simp only
  rw [allS_step _ _ _ (by simp), one_join]
  simp only
  rw [allS_step _ _ _ (by simp), one_blank]
  simp only
  rw [allS_step _ _ _ hnb, hb0]
  have h1 := one_letters (g := 2) (l := [⟨1, a ++ [], [], 1⟩]) (h := []) (a := b) (t := []) (x := ([], [])) hb hnb (w_end rfl) rfl
  simp only [List.append_nil, List.nil_append, Nat.sub_zero] at h1 ⊢
  rw [show (1 + 1 - 1 : Nat) = 1 from rfl, show (1 + 1 : Nat) = 2 from rfl, h1]
  rfl
end Go.Proofs.YtknncfoaegmphaaGreatDoor.Lx
