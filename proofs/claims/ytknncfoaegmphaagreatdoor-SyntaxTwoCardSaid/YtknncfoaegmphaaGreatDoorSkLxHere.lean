/-
  Lexer: a here-document, and what stands behind it, as plain laws. No program stands here. Conditions: as each law says.
-/
import Derived.Test.YtknncfoaegmphaaGreatDoorSkLxShort
set_option linter.unusedVariables false
set_option linter.unusedSimpArgs false
set_option maxRecDepth 100000
namespace Go.Proofs.YtknncfoaegmphaaGreatDoor.Lx
theorem bodies_suf : ∀ (hh : List Nat) (l : List Tok) (s : Nm), Sat (fun x : List Tok × Nm => x.2 <:+ s) (bodiesM hh l s)
  | [], l, s => List.suffix_rfl
  | i :: is, l, s => by
    unfold bodiesM
    exact sat_bnd (hereF_suf _ _ _) fun x hx => sat_mono (bodies_suf is _ x.2) fun y hy => hy.trans hx
theorem one_suf {g : Nat} {l : List Tok} {hh : List Nat} {s : Nm} : Sat (fun x : St => x.2.2 <:+ s) (oneM g l hh s) := by
  cases s with
  | nil => exact List.suffix_rfl
  | cons c r =>
    unfold oneM
    simp only
    split
    · exact sat_bnd (bodies_suf hh _ r) fun x hx => (show x.2 <:+ c :: r from hx.trans (List.suffix_cons c r))
    · split
      · exact List.drop_suffix _ _
      · split
        · exact (List.drop_suffix 1 r).trans (List.suffix_cons c r)
        · split
          · exact List.suffix_cons c r
          · split
            · exact List.drop_suffix _ _
            · split
              · exact sat20
              · refine sat_bnd (word_suf (c :: r)) fun x hx => ?_
                split
                · exact hx
                · exact hx
def sh (d : Nat) (t : Tok) : Tok := { t with ln := t.ln + d }
def upSt (P : List Tok) (d : Nat) (x : St) : St := (P ++ x.1.map (sh d), x.2.1.map (P.length + ·), x.2.2)
def upR {α β : Type} (f : α → β) (x : Except Int α) : Except Int β := match x with
  | .error e => .error e
  | .ok a => .ok (f a)
theorem upR_bnd {α β γ δ : Type} {f : γ → δ} {x : Except Int α} {u : α → Except Int γ} {y : Except Int β} {v : β → Except Int δ} {g : α → β} (h : y = upR g x) (h2 : ∀ a, v (g a) = upR f (u a)) : bnd y v = upR f (bnd x u) := by
  subst h
  cases x with
  | error e => rfl
  | ok a => exact h2 a
theorem bareAt_up (P l : List Tok) (d i : Nat) : bareAt (P ++ l.map (sh d)) (P.length + i) = bareAt l i := by
  unfold bareAt
  rw [List.getElem?_append_right (by omega), Nat.add_sub_cancel_left, List.getElem?_map]
  cases l[i]? <;> rfl
theorem modify_up (x : Nm) (d : Nat) : ∀ (l : List Tok) (i : Nat), (l.map (sh d)).modify i (addB x) = (l.modify i (addB x)).map (sh d)
  | [], i => by cases i <;> rfl
  | t :: l, 0 => rfl
  | t :: l, i + 1 => by
    show sh d t :: (l.map (sh d)).modify i (addB x) = sh d t :: (l.modify i (addB x)).map (sh d)
    rw [modify_up x d l i]
theorem modify_behind (f : Tok → Tok) : ∀ (P l : List Tok) (i : Nat), (P ++ l).modify (P.length + i) f = P ++ l.modify i f
  | [], l, i => by rw [List.nil_append, List.nil_append, List.length_nil, Nat.zero_add]
  | t :: P, l, i => by
    rw [List.length_cons, Nat.add_right_comm]
    show t :: (P ++ l).modify (P.length + i) f = t :: (P ++ l.modify i f)
    rw [modify_behind f P l i]
theorem bodies_up (P : List Tok) (d : Nat) : ∀ (hh : List Nat) (l : List Tok) (s : Nm), bodiesM (hh.map (P.length + ·)) (P ++ l.map (sh d)) s = upR (fun x : List Tok × Nm => (P ++ x.1.map (sh d), x.2)) (bodiesM hh l s)
  | [], l, s => rfl
  | i :: is, l, s => by
    rw [List.map_cons]
    unfold bodiesM
    rw [bareAt_up]
    cases hereM (bareAt l i) s with
    | error e => rfl
    | ok x =>
      simp only [bnd_ok]
      rw [modify_behind, modify_up, bodies_up P d is]
theorem isHere_up (P l : List Tok) (d : Nat) (hP : isHere P = false) : isHere (P ++ l.map (sh d)) = isHere l := by
  cases hl : l.getLast? with
  | none =>
    obtain rfl : l = [] := List.getLast?_eq_none_iff.1 hl
    rw [List.map_nil, List.append_nil, hP]; rfl
  | some t =>
    unfold isHere
    rw [List.getLast?_append, List.getLast?_map, hl]
    rfl
theorem one_up (P : List Tok) (d g : Nat) (hP : isHere P = false) (l : List Tok) (hh : List Nat) (s : Nm) : oneM (g + d) (P ++ l.map (sh d)) (hh.map (P.length + ·)) s = upR (upSt P d) (oneM g l hh s) := by
  have ha : ∀ (k : Nat) (o : Nm), P ++ l.map (sh d) ++ [(⟨k, o, [], g + d⟩ : Tok)] = P ++ (l ++ [(⟨k, o, [], g⟩ : Tok)]).map (sh d) := fun k o => by
    rw [List.map_append, List.append_assoc]; rfl
  cases s with
  | nil => rfl
  | cons c r =>
    unfold oneM
    simp only
    by_cases h10 : c = 10
    · rw [if_pos h10, if_pos h10]
      rw [ha]
      exact upR_bnd (bodies_up P d hh _ r) fun x => rfl
    rw [if_neg h10, if_neg h10]
    by_cases h35 : c = 35
    · rw [if_pos h35, if_pos h35]; rfl
    rw [if_neg h35, if_neg h35]
    by_cases hj : has [92, 10] (c :: r) = true
    · rw [if_pos hj, if_pos hj]; rfl
    rw [if_neg hj, if_neg hj]
    by_cases hb : c = 32 ∨ c = 9
    · rw [if_pos hb, if_pos hb]; rfl
    rw [if_neg hb, if_neg hb]
    cases hs : signOf (c :: r) with
    | some o =>
      simp only
      rw [ha]; rfl
    | none =>
      simp only
      by_cases h38 : c = 38
      · rw [if_pos h38, if_pos h38]; rfl
      rw [if_neg h38, if_neg h38]
      cases hw : wordM (c :: r) with
      | error e => rfl
      | ok x =>
        simp only [bnd_ok]
        by_cases hio : isIo (c :: r) x.1 x.2 = true
        · rw [if_pos hio, if_pos hio, ha]; rfl
        rw [if_neg hio, if_neg hio, ha, isHere_up P l d hP]
        by_cases hi : isHere l = true
        · rw [if_pos hi, if_pos hi]
          have e1 : (hh ++ [l.length]).map (P.length + ·) = hh.map (P.length + ·) ++ [P.length + l.length] := by rw [List.map_append]; rfl
          show _ = Except.ok (P ++ (l ++ [(⟨1, x.1, [], g⟩ : Tok)]).map (sh d), (hh ++ [l.length]).map (P.length + ·), x.2)
          rw [e1, List.length_append, List.length_map]
        · rw [if_neg hi, if_neg hi]; rfl
/-- The same answer, so many lines further down, behind other tokens. -/
def UpRA (P : List Tok) (d : Nat) : RA → RA → Prop
  | .error x, .error y => x.1 = y.1
  | .ok l, .ok m => m = P ++ l.map (sh d)
  | _, _ => False
theorem all_up (K d : Nat) (P : List Tok) (hP : isHere P = false) : ∀ (n : Nat) (l : List Tok) (hh : List Nat) (s : Nm), s.length ≤ n → nl s ≤ K → UpRA P d (allS K (l, hh, s)) (allS (K + d) (upSt P d (l, hh, s)))
  | n, l, hh, [], _, _ => by
    unfold upSt
    rw [allS_end]
    simp only
    rw [allS_end]
    cases hh with
    | nil =>
      rw [if_pos rfl, if_pos (by rfl)]
      show _ = _
      rw [List.map_append, List.append_assoc]; rfl
    | cons i is =>
      rw [if_neg (by simp), if_neg (by simp)]
      rfl
  | 0, l, hh, c :: r, h, _ => absurd h (by simp)
  | n + 1, l, hh, c :: r, h, hK => by
    rw [allS_step K l hh (by simp)]
    show UpRA P d _ (allS (K + d) (P ++ l.map (sh d), hh.map (P.length + ·), c :: r))
    rw [allS_step (K + d) _ _ (by simp)]
    have e : K + d - nl (c :: r) = K - nl (c :: r) + d := by omega
    rw [e, one_up P d _ hP]
    have hsf : Sat (fun x : St => x.2.2 <:+ c :: r) (oneM (K - nl (c :: r)) l hh (c :: r)) := one_suf
    cases he : oneM (K - nl (c :: r)) l hh (c :: r) with
    | error e => rfl
    | ok x =>
      rw [he] at hsf
      have hl := one_len (by simp) he
      have h2 : nl x.2.2 ≤ nl (c :: r) := nl_suf hsf
      simp only [upR]
      exact all_up K d P hP n x.1 x.2.1 x.2.2 (by simp at h hl; omega) (by omega)
end Go.Proofs.YtknncfoaegmphaaGreatDoor.Lx
