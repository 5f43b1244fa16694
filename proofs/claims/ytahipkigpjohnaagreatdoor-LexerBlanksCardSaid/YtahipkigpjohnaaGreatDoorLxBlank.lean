/-
  Lexer: tokens put behind each other with blanks between, as plain laws. No program stands here. Conditions: as each law says.
-/
import Derived.Test.YtahipkigpjohnaaGreatDoorLxAgain
import Derived.Test.YtahipkigpjohnaaGreatDoorLxHere
set_option linter.unusedVariables false
set_option linter.unusedSimpArgs false
set_option maxRecDepth 100000
namespace Go.Proofs.YtahipkigpjohnaaGreatDoor.Lx
/-- What a token's text is. -/
def TOk (t : Tok) : Prop := (t.k = 1 ∧ WOk t.t) ∨ (t.k = 2 ∧ t.t ∈ signL) ∨ (t.k = 3 ∧ t.t = []) ∨ t.k = 5
def TOks (l : List Tok) : Prop := ∀ t ∈ l, TOk t
theorem toks_add {l : List Tok} {t : Tok} (h : TOks l) (ht : TOk t) : TOks (l ++ [t]) := by
  intro u hu
  rcases List.mem_append.1 hu with hu | hu
  · exact h u hu
  · rw [List.mem_singleton.1 hu]; exact ht
theorem toks_mod {l : List Tok} {i : Nat} {x : Nm} (h : TOks l) : TOks (l.modify i (addB x)) := by
  intro t ht
  obtain ⟨j, u, hu, rfl⟩ := mem_modify ht
  have := h u (List.mem_of_getElem? hu)
  split
  · exact this
  · exact this
theorem bodies_toks : ∀ (hh : List Nat) (l : List Tok) (s : Nm) (x : List Tok × Nm), TOks l → bodiesM hh l s = .ok x → TOks x.1
  | [], l, s, x, h, e => by injection e with e; subst e; exact h
  | i :: is, l, s, x, h, e => by
    obtain ⟨y, h1, h2⟩ := bnd_ok_inv (x := hereM (bareAt l i) s) e
    exact bodies_toks is _ _ _ (toks_mod h) h2
theorem one_toks {g : Nat} {l : List Tok} {hh : List Nat} {s : Nm} {x : St} (h : TOks l) (e : oneM g l hh s = .ok x) : TOks x.1 := by
  cases s with
  | nil => injection e with e; subst e; exact h
  | cons c r =>
    unfold oneM at e
    simp only at e
    split at e
    · obtain ⟨y, h1, h2⟩ := bnd_ok_inv e
      injection h2 with h2; subst h2
      exact bodies_toks hh _ r y (toks_add h (.inr (.inr (.inl ⟨rfl, rfl⟩)))) h1
    · rename_i h10
      split at e
      · injection e with e; subst e; exact h
      · rename_i h35
        split at e
        · injection e with e; subst e; exact h
        · rename_i hj
          split at e
          · injection e with e; subst e; exact h
          · rename_i hb
            split at e
            · rename_i o ho
              injection e with e; subst e
              exact toks_add h (.inr (.inl ⟨rfl, (sign_has ho).2⟩))
            · rename_i hn
              split at e
              · cases e
              · rename_i h38
                obtain ⟨y, h1, h2⟩ := bnd_ok_inv e
                split at h2
                · injection h2 with h2; subst h2
                  exact toks_add h (.inr (.inr (.inr rfl)))
                · injection h2 with h2; subst h2
                  exact toks_add h (.inl ⟨rfl, word_again (rest := y.2) (word_at h10 hb hn h38) h35 (by simpa using hj) h1⟩)
theorem allF_toks (K : Nat) : ∀ (f : Nat) (l : List Tok) (hh : List Nat) (s : Nm) (m : List Tok), s.length ≤ f → TOks l → allS K (l, hh, s) = .ok m → ∃ m', m = m' ++ [⟨4, [], [], K⟩] ∧ TOks m'
  | f, l, hh, [], m, _, h, e => by
    rw [allS_end] at e
    split at e
    · injection e with e; exact ⟨l, e.symm, h⟩
    · cases e
  | 0, l, hh, c :: r, m, hl, _, _ => absurd hl (by simp)
  | f + 1, l, hh, c :: r, m, hl, h, e => by
    rw [allS_step K l hh (by simp)] at e
    cases ho : oneM (K - nl (c :: r)) l hh (c :: r) with
    | error z => rw [ho] at e; cases e
    | ok x =>
      rw [ho] at e
      have := one_len (by simp) ho
      exact allF_toks K f x.1 x.2.1 x.2.2 m (by simp at hl this; omega) (one_toks h ho) e
theorem all_toks {s : Nm} {m : List Tok} (e : allM s = .ok m) : ∃ m', m = m' ++ [⟨4, [], [], 1 + nl s⟩] ∧ TOks m' := allF_toks _ s.length [] [] s m (Nat.le_refl _) (fun t ht => by cases ht) e
/-- What is put for a token. -/
def putOf (t : Tok) : Nm := if t.k = 1 ∨ t.k = 2 then 32 :: (t.t ++ [9]) else if t.k = 3 then [32, 35, 32, 39, 32, 110, 111, 116, 101, 10] else []
def putAll : List Tok → Nm
  | [] => []
  | t :: l => putOf t ++ putAll l
theorem putAll_append (a b : List Tok) : putAll (a ++ b) = putAll a ++ putAll b := by
  induction a with
  | nil => rfl
  | cons x r ih => show putOf x ++ putAll (r ++ b) = (putOf x ++ putAll r) ++ putAll b; rw [ih, List.append_assoc]
theorem putAll_next (l : List Tok) (k : Nat) (h : k < l.length) : putAll (l.take (k + 1)) = putAll (l.take k) ++ putOf l[k] := by
  rw [List.take_succ_eq_append_getElem h, putAll_append]; simp [putAll]
def Alike (t u : Tok) : Prop := t.k = u.k ∧ t.t = u.t
/-- Neither an Io, nor a here-document's sign. -/
def Easy (t : Tok) : Prop := t.k ≠ 5 ∧ t.t ≠ [60, 60]
theorem one_sign {g : Nat} {l : List Tok} {h : List Nat} {o : Nm} (ho : o ∈ signL) (T : Nm) : oneM g l h (o ++ 9 :: T) = .ok (l ++ [⟨2, o, [], g⟩], h, 9 :: T) := by
  simp [signL] at ho
  rcases ho with rfl | rfl | rfl | rfl | rfl | rfl | rfl | rfl | rfl | rfl | rfl <;> rfl
theorem one_wok {g : Nat} {l : List Tok} {h : List Nat} {w : Nm} (hw : WOk w) (hl : isHere l = false) (T : Nm) : oneM g l h (w ++ 9 :: T) = .ok (l ++ [⟨1, w, [], g⟩], h, 9 :: T) := by
  have hag := hw.again T
  have hnj := hw.noj T
  have hnb := hw.nob (9 :: T)
  have hnc := hw.noc
  cases w with
  | nil => exact absurd rfl hw.ne
  | cons c r =>
    rw [List.cons_append] at hag hnj hnb ⊢
    have hb : blkL.contains c = false := hnb
    have h10 : c ≠ 10 := fun e => by subst e; exact absurd hb (by decide)
    have h35 : c ≠ 35 := fun e => hnc (by rw [e]; rfl)
    rw [one_word h10 h35 hnj hb, hag, bnd_ok]
    have hio : isIo (c :: (r ++ 9 :: T)) (c :: r) (9 :: T) = false := by
      unfold isIo
      rw [has_single, has_single]
      simp
    simp only
    rw [if_neg (by simp only [hio]; decide), hl]
    rfl
theorem isHere_add (l : List Tok) (t : Tok) (h : t.t ≠ [60, 60]) : isHere (l ++ [t]) = false := by
  unfold isHere
  rw [List.getLast?_append]
  show (decide (t.k = 2) && decide (t.t = [60, 60])) = false
  rw [decide_eq_false h, Bool.and_false]
theorem put_run (K : Nat) : ∀ (xs l : List Tok), TOks xs → (∀ t ∈ xs, Easy t) → isHere l = false → ∃ ms, allS K (l, [], putAll xs) = .ok (l ++ ms ++ [⟨4, [], [], K⟩]) ∧ ms.length = xs.length ∧ ∀ (i : Nat) (t u : Tok), ms[i]? = some t → xs[i]? = some u → Alike t u
  | [], l, _, _, _ => ⟨[], by show allS K (l, [], []) = _; rw [allS_end]; simp, rfl, by simp⟩
  | x :: xs, l, h, he, hl => by
    have hx := h x List.mem_cons_self
    have hex := he x List.mem_cons_self
    have h' : TOks xs := fun t ht => h t (List.mem_cons_of_mem _ ht)
    have he' : ∀ t ∈ xs, Easy t := fun t ht => he t (List.mem_cons_of_mem _ ht)
    have step : ∀ (g : Nat) (u : Tok), Alike u x → isHere (l ++ [u]) = false → (allS K (l, [], putAll (x :: xs)) = allS K (l ++ [u], [], putAll xs)) → ∃ ms, allS K (l, [], putAll (x :: xs)) = .ok (l ++ ms ++ [⟨4, [], [], K⟩]) ∧ ms.length = (x :: xs).length ∧ ∀ (i : Nat) (t u : Tok), ms[i]? = some t → (x :: xs)[i]? = some u → Alike t u := by
      intro g u hu hh e
      obtain ⟨ms, h1, h2, h3⟩ := put_run K xs (l ++ [u]) h' he' hh
      refine ⟨u :: ms, by rw [e, h1]; simp, by simp [h2], fun i t v hi hv => ?_⟩
      cases i with
      | zero => simp at hi hv; subst hi hv; exact hu
      | succ i => exact h3 i t v (by simpa using hi) (by simpa using hv)
    rcases hx with ⟨hk, hw⟩ | ⟨hk, hs⟩ | ⟨hk, ht⟩ | hk
    · have e1 : putAll (x :: xs) = 32 :: (x.t ++ 9 :: putAll xs) := by show putOf x ++ _ = _; unfold putOf; rw [if_pos (.inl hk)]; simp
      refine step 0 ⟨1, x.t, [], K - nl (x.t ++ 9 :: putAll xs)⟩ ⟨hk.symm, rfl⟩ (noHere_word _ _ _) ?_
      rw [e1, allS_step K l [] (by simp), one_blank]
      simp only
      rw [allS_step K l [] (by simp), one_wok hw hl]
      simp only
      rw [allS_step K _ [] (by simp), one_tab]
    · have e1 : putAll (x :: xs) = 32 :: (x.t ++ 9 :: putAll xs) := by show putOf x ++ _ = _; unfold putOf; rw [if_pos (.inr hk)]; simp
      refine step 0 ⟨2, x.t, [], K - nl (x.t ++ 9 :: putAll xs)⟩ ⟨hk.symm, rfl⟩ (isHere_add _ _ hex.2) ?_
      rw [e1, allS_step K l [] (by simp), one_blank]
      simp only
      rw [allS_step K l [] (by simp), one_sign hs]
      simp only
      rw [allS_step K _ [] (by simp), one_tab]
    · have e1 : putAll (x :: xs) = 32 :: 35 :: 32 :: 39 :: 32 :: 110 :: 111 :: 116 :: 101 :: 10 :: putAll xs := by show putOf x ++ _ = _; unfold putOf; rw [if_neg (by omega), if_pos hk]; rfl
      refine step 0 ⟨3, [], [], K - nl (10 :: putAll xs)⟩ ⟨hk.symm, ht.symm⟩ (isHere_add _ _ (by simp)) ?_
      rw [e1, allS_step K l [] (by simp), one_blank]
      simp only
      have h35 : ∀ g, oneM g l [] (35 :: 32 :: 39 :: 32 :: 110 :: 111 :: 116 :: 101 :: 10 :: putAll xs) = .ok (l, [], 10 :: putAll xs) := fun g => rfl
      have h10 : ∀ g, oneM g l [] (10 :: putAll xs) = .ok (l ++ [⟨3, [], [], g⟩], [], putAll xs) := fun g => rfl
      rw [allS_step K l [] (by simp), h35]
      simp only
      rw [allS_step K l [] (by simp), h10]
    · exact absurd hk hex.1
theorem put_all {xs : List Tok} (h : TOks xs) (he : ∀ t ∈ xs, Easy t) : ∃ ms, allM (putAll xs) = .ok (ms ++ [⟨4, [], [], 1 + nl (putAll xs)⟩]) ∧ ms.length = xs.length ∧ ∀ (i : Nat) (t u : Tok), ms[i]? = some t → xs[i]? = some u → Alike t u := by
  obtain ⟨ms, h1, h2, h3⟩ := put_run (1 + nl (putAll xs)) xs [] h he rfl
  exact ⟨ms, by unfold allM; rw [h1]; simp, h2, h3⟩
/-! ### How long it is -/
theorem putAll_mod (x : Nm) : ∀ (l : List Tok) (i : Nat), putAll (l.modify i (addB x)) = putAll l
  | [], i => by cases i <;> rfl
  | t :: l, 0 => rfl
  | t :: l, i + 1 => by
    show putOf t ++ putAll (l.modify i (addB x)) = putOf t ++ putAll l
    rw [putAll_mod x l i]
theorem bodies_put : ∀ (hh : List Nat) (l : List Tok) (s : Nm) (x : List Tok × Nm), bodiesM hh l s = .ok x → putAll x.1 = putAll l
  | [], l, s, x, e => by injection e with e; subst e; rfl
  | i :: is, l, s, x, e => by
    obtain ⟨y, h1, h2⟩ := bnd_ok_inv (x := hereM (bareAt l i) s) e
    rw [bodies_put is _ _ _ h2, putAll_mod]
theorem word_out {s : Nm} {x : Nm × Nm} (e : wordM s = .ok x) : x.1.length + x.2.length ≤ s.length := loopF_out (fun s x h => partF_out _ _ s x h) _ _ _ e
theorem one_put {g : Nat} {l : List Tok} {hh : List Nat} {s : Nm} {x : St} (e : oneM g l hh s = .ok x) : (putAll x.1).length + 12 * x.2.2.length ≤ (putAll l).length + 12 * s.length := by
  have hadd : ∀ (t : Tok), (putAll (l ++ [t])).length = (putAll l).length + (putOf t).length := fun t => by
    rw [putAll_append, List.length_append]; simp [putAll]
  cases s with
  | nil => injection e with e; subst e; exact Nat.le_refl _
  | cons c r =>
    unfold oneM at e
    simp only at e
    split at e
    · obtain ⟨y, h1, h2⟩ := bnd_ok_inv e
      injection h2 with h2; subst h2
      have h3 := bodies_put _ _ _ _ h1
      have h4 := bodies_len _ _ _ _ h1
      simp only
      rw [h3, hadd]
      have : (putOf ⟨3, [], [], g⟩).length = 10 := rfl
      simp
      omega
    · split at e
      · injection e with e; subst e
        simp
        omega
      · split at e
        · injection e with e; subst e
          simp
          omega
        · split at e
          · injection e with e; subst e
            simp
            omega
          · split at e
            · rename_i o ho
              injection e with e; subst e
              have h1 := sign_pos (sign_has ho).2
              have h2 := has_len (sign_has ho).1
              simp only
              rw [hadd]
              have : (putOf ⟨2, o, [], g⟩).length = o.length + 2 := by simp [putOf]
              simp at h2 ⊢
              omega
            · rename_i hn
              split at e
              · cases e
              · rename_i h10 h35 hj hb xo h38
                obtain ⟨y, h1, h2⟩ := bnd_ok_inv e
                have h3 := word_out h1
                have h4 := word_len (word_at h10 hb hn h38) h1
                split at h2
                · injection h2 with h2; subst h2
                  simp only
                  rw [hadd]
                  have : (putOf ⟨5, y.1, [], g⟩).length = 0 := rfl
                  simp at h3 h4 ⊢
                  omega
                · injection h2 with h2; subst h2
                  simp only
                  rw [hadd]
                  have : (putOf ⟨1, y.1, [], g⟩).length = y.1.length + 2 := by simp [putOf]
                  simp at h3 h4 ⊢
                  omega
theorem allF_put (K : Nat) : ∀ (f : Nat) (l : List Tok) (hh : List Nat) (s : Nm) (m : List Tok), s.length ≤ f → allS K (l, hh, s) = .ok m → (putAll m).length ≤ (putAll l).length + 12 * s.length
  | f, l, hh, [], m, _, e => by
    rw [allS_end] at e
    split at e
    · injection e with e; subst e
      rw [putAll_append, List.length_append]
      simp [putAll, putOf]
    · cases e
  | 0, l, hh, c :: r, m, hl, _ => absurd hl (by simp)
  | f + 1, l, hh, c :: r, m, hl, e => by
    rw [allS_step K l hh (by simp)] at e
    cases ho : oneM (K - nl (c :: r)) l hh (c :: r) with
    | error z => rw [ho] at e; cases e
    | ok x =>
      rw [ho] at e
      have h1 := one_len (by simp) ho
      have h2 := one_put ho
      have h3 := allF_put K f x.1 x.2.1 x.2.2 m (by simp at hl h1; omega) e
      omega
theorem all_put {s : Nm} {m : List Tok} (e : allM s = .ok m) : (putAll m).length ≤ 12 * s.length := by
  have := allF_put _ s.length [] [] s m (Nat.le_refl _) e
  simpa [putAll] using this
theorem put_take (l : List Tok) (k : Nat) : (putAll (l.take k)).length ≤ (putAll l).length := by
  have := congrArg (fun l => (putAll l).length) (List.take_append_drop k l)
  simp only [putAll_append, List.length_append] at this
  omega
theorem alike_add {ms xs : List Tok} {a b : Tok} (hl : ms.length = xs.length) (h : ∀ (i : Nat) (t u : Tok), ms[i]? = some t → xs[i]? = some u → Alike t u) (hab : Alike a b) (i : Nat) (t u : Tok) (ht : (ms ++ [a])[i]? = some t) (hu : (xs ++ [b])[i]? = some u) : Alike t u := by
  by_cases hi : i < xs.length
  · rw [List.getElem?_append_left (by omega)] at ht
    rw [List.getElem?_append_left hi] at hu
    exact h i t u ht hu
  · rw [List.getElem?_append_right (by omega)] at ht
    rw [List.getElem?_append_right (by omega)] at hu
    rw [hl] at ht
    cases hj : i - xs.length with
    | zero => rw [hj] at ht hu; simp at ht hu; subst ht hu; exact hab
    | succ j => rw [hj] at ht; simp at ht
end Go.Proofs.YtahipkigpjohnaaGreatDoor.Lx
