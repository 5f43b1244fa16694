/-
  Lexer: a here-document, and what stands behind it, as plain laws. No program stands here. Conditions: as each law says.
-/
import Derived.Test.YtahipkigpjohnaaGreatDoorLxShort
set_option linter.unusedVariables false
set_option linter.unusedSimpArgs false
set_option maxRecDepth 100000
namespace Go.Proofs.YtahipkigpjohnaaGreatDoor.Lx
def OneSuf (s : Nm) (x : Except Int St) : Prop := Sat (fun y : St => y.2.2 <:+ s) x
theorem bodies_suf : ∀ (hh : List Nat) (l : List Tok) (s : Nm), Sat (fun x : List Tok × Nm => x.2 <:+ s) (bodiesM hh l s)
  | [], l, s => List.suffix_rfl
  | i :: is, l, s => by
    unfold bodiesM
    exact sat_bnd (hereF_suf _ _ _) fun x hx => sat_mono (bodies_suf is _ x.2) fun y hy => hy.trans hx
theorem one_suf {g : Nat} {l : List Tok} {hh : List Nat} {s : Nm} : Sat (fun x : St => x.2.2 <:+ s) (oneM g l hh s) := by
  cases s with
  | nil => exact List.suffix_rfl
  | cons c r =>
    unfold oneM
    simp only
    split
    · exact sat_bnd (bodies_suf hh _ r) fun x hx => (show x.2 <:+ c :: r from hx.trans (List.suffix_cons c r))
    · split
      · exact List.drop_suffix _ _
      · split
        · exact (List.drop_suffix 1 r).trans (List.suffix_cons c r)
        · split
          · exact List.suffix_cons c r
          · split
            · exact List.drop_suffix _ _
            · split
              · exact sat20
              · refine sat_bnd (word_suf (c :: r)) fun x hx => ?_
                split
                · exact hx
                · exact hx
/-! ### Tokens, so many lines further down -/
def sh (d : Nat) (t : Tok) : Tok := { t with ln := t.ln + d }
def upSt (P : List Tok) (d : Nat) (x : St) : St := (P ++ x.1.map (sh d), x.2.1.map (P.length + ·), x.2.2)
def upR {α β : Type} (f : α → β) (x : Except Int α) : Except Int β := match x with
  | .error e => .error e
  | .ok a => .ok (f a)
theorem upR_bnd {α β γ δ : Type} {f : γ → δ} {x : Except Int α} {u : α → Except Int γ} {y : Except Int β} {v : β → Except Int δ} {g : α → β} (h : y = upR g x) (h2 : ∀ a, v (g a) = upR f (u a)) : bnd y v = upR f (bnd x u) := by
  subst h
  cases x with
  | error e => rfl
  | ok a => exact h2 a
theorem bareAt_up (P l : List Tok) (d i : Nat) : bareAt (P ++ l.map (sh d)) (P.length + i) = bareAt l i := by
  unfold bareAt
  rw [List.getElem?_append_right (by omega), Nat.add_sub_cancel_left, List.getElem?_map]
  cases l[i]? <;> rfl
theorem modify_up (x : Nm) (d : Nat) : ∀ (l : List Tok) (i : Nat), (l.map (sh d)).modify i (addB x) = (l.modify i (addB x)).map (sh d)
  | [], i => by cases i <;> rfl
  | t :: l, 0 => rfl
  | t :: l, i + 1 => by
    show sh d t :: (l.map (sh d)).modify i (addB x) = sh d t :: (l.modify i (addB x)).map (sh d)
    rw [modify_up x d l i]
theorem modify_behind (f : Tok → Tok) : ∀ (P l : List Tok) (i : Nat), (P ++ l).modify (P.length + i) f = P ++ l.modify i f
  | [], l, i => by rw [List.nil_append, List.nil_append, List.length_nil, Nat.zero_add]
  | t :: P, l, i => by
    rw [List.length_cons, Nat.add_right_comm]
    show t :: (P ++ l).modify (P.length + i) f = t :: (P ++ l.modify i f)
    rw [modify_behind f P l i]
theorem bodies_up (P : List Tok) (d : Nat) : ∀ (hh : List Nat) (l : List Tok) (s : Nm), bodiesM (hh.map (P.length + ·)) (P ++ l.map (sh d)) s = upR (fun x : List Tok × Nm => (P ++ x.1.map (sh d), x.2)) (bodiesM hh l s)
  | [], l, s => rfl
  | i :: is, l, s => by
    rw [List.map_cons]
    unfold bodiesM
    rw [bareAt_up]
    cases hereM (bareAt l i) s with
    | error e => rfl
    | ok x =>
      simp only [bnd_ok]
      rw [modify_behind, modify_up, bodies_up P d is]
theorem isHere_up (P l : List Tok) (d : Nat) (hP : isHere P = false) : isHere (P ++ l.map (sh d)) = isHere l := by
  cases hl : l.getLast? with
  | none =>
    obtain rfl : l = [] := List.getLast?_eq_none_iff.1 hl
    rw [List.map_nil, List.append_nil, hP]; rfl
  | some t =>
    unfold isHere
    rw [List.getLast?_append, List.getLast?_map, hl]
    rfl
theorem one_up (P : List Tok) (d g : Nat) (hP : isHere P = false) (l : List Tok) (hh : List Nat) (s : Nm) : oneM (g + d) (P ++ l.map (sh d)) (hh.map (P.length + ·)) s = upR (upSt P d) (oneM g l hh s) := by
  have ha : ∀ (k : Nat) (o : Nm), P ++ l.map (sh d) ++ [(⟨k, o, [], g + d⟩ : Tok)] = P ++ (l ++ [(⟨k, o, [], g⟩ : Tok)]).map (sh d) := fun k o => by
    rw [List.map_append, List.append_assoc]; rfl
  cases s with
  | nil => rfl
  | cons c r =>
    unfold oneM
    simp only
    by_cases h10 : c = 10
    · rw [if_pos h10, if_pos h10]
      rw [ha]
      exact upR_bnd (bodies_up P d hh _ r) fun x => rfl
    rw [if_neg h10, if_neg h10]
    by_cases h35 : c = 35
    · rw [if_pos h35, if_pos h35]; rfl
    rw [if_neg h35, if_neg h35]
    by_cases hj : has [92, 10] (c :: r) = true
    · rw [if_pos hj, if_pos hj]; rfl
    rw [if_neg hj, if_neg hj]
    by_cases hb : c = 32 ∨ c = 9
    · rw [if_pos hb, if_pos hb]; rfl
    rw [if_neg hb, if_neg hb]
    cases hs : signOf (c :: r) with
    | some o =>
      simp only
      rw [ha]; rfl
    | none =>
      simp only
      by_cases h38 : c = 38
      · rw [if_pos h38, if_pos h38]; rfl
      rw [if_neg h38, if_neg h38]
      cases hw : wordM (c :: r) with
      | error e => rfl
      | ok x =>
        simp only [bnd_ok]
        by_cases hio : isIo (c :: r) x.1 x.2 = true
        · rw [if_pos hio, if_pos hio, ha]; rfl
        rw [if_neg hio, if_neg hio, ha, isHere_up P l d hP]
        by_cases hi : isHere l = true
        · rw [if_pos hi, if_pos hi]
          have e1 : (hh ++ [l.length]).map (P.length + ·) = hh.map (P.length + ·) ++ [P.length + l.length] := by rw [List.map_append]; rfl
          show _ = Except.ok (P ++ (l ++ [(⟨1, x.1, [], g⟩ : Tok)]).map (sh d), (hh ++ [l.length]).map (P.length + ·), x.2)
          rw [e1, List.length_append, List.length_map]
        · rw [if_neg hi, if_neg hi]; rfl
/-- The same answer, so many lines further down, behind other tokens. -/
def UpRA (P : List Tok) (d : Nat) : RA → RA → Prop
  | .error x, .error y => x.1 = y.1
  | .ok l, .ok m => m = P ++ l.map (sh d)
  | _, _ => False
theorem all_up (K d : Nat) (P : List Tok) (hP : isHere P = false) : ∀ (n : Nat) (l : List Tok) (hh : List Nat) (s : Nm), s.length ≤ n → nl s ≤ K → UpRA P d (allS K (l, hh, s)) (allS (K + d) (upSt P d (l, hh, s)))
  | n, l, hh, [], _, _ => by
    unfold upSt
    rw [allS_end]
    simp only
    rw [allS_end]
    cases hh with
    | nil =>
      rw [if_pos rfl, if_pos (by rfl)]
      show _ = _
      rw [List.map_append, List.append_assoc]; rfl
    | cons i is =>
      rw [if_neg (by simp), if_neg (by simp)]
      rfl
  | 0, l, hh, c :: r, h, _ => absurd h (by simp)
  | n + 1, l, hh, c :: r, h, hK => by
    rw [allS_step K l hh (by simp)]
    show UpRA P d _ (allS (K + d) (P ++ l.map (sh d), hh.map (P.length + ·), c :: r))
    rw [allS_step (K + d) _ _ (by simp)]
    have e : K + d - nl (c :: r) = K - nl (c :: r) + d := by omega
    rw [e, one_up P d _ hP]
    have hsf : Sat (fun x : St => x.2.2 <:+ c :: r) (oneM (K - nl (c :: r)) l hh (c :: r)) := one_suf
    cases he : oneM (K - nl (c :: r)) l hh (c :: r) with
    | error e => rfl
    | ok x =>
      rw [he] at hsf
      have hl := one_len (by simp) he
      have h2 : nl x.2.2 ≤ nl (c :: r) := nl_suf hsf
      simp only [upR]
      exact all_up K d P hP n x.1 x.2.1 x.2.2 (by simp at h hl; omega) (by omega)
/-! ### A here-document's lines -/
def bText : List Nm → Nm
  | [] => []
  | x :: r => x ++ 10 :: bText r
theorem bText_append (a b : List Nm) : bText (a ++ b) = bText a ++ bText b := by
  induction a with
  | nil => rfl
  | cons x r ih => show x ++ 10 :: bText (r ++ b) = (x ++ 10 :: bText r) ++ bText b; rw [ih]; simp
theorem bText_next (xs : List Nm) (k : Nat) (h : k < xs.length) : bText (xs.take (k + 1)) = bText (xs.take k) ++ (xs[k] ++ [10]) := by
  rw [List.take_succ_eq_append_getElem h, bText_append]; simp [bText]
theorem bText_len (xs : List Nm) (h : ∀ x ∈ xs, x.length ≤ 60) : (bText xs).length ≤ 61 * xs.length := by
  induction xs with
  | nil => simp [bText]
  | cons x r ih =>
    have h1 := ih (fun y hy => h y (List.mem_cons_of_mem _ hy))
    have h2 := h x List.mem_cons_self
    simp [bText]
    omega
theorem here_lines (e more : Nm) (he : (10 : UInt8) ∉ e) : ∀ (xs : List Nm), (∀ x ∈ xs, (10 : UInt8) ∉ x ∧ x ≠ e) → hereM e (bText xs ++ (e ++ 10 :: more)) = .ok (bText xs, more)
  | [], _ => by
    have hc : cutLn (e ++ 10 :: more) = (e, more) := by unfold cutLn; rw [cut_at e more he]
    show hereM e ([] ++ (e ++ 10 :: more)) = _
    rw [List.nil_append, hereM_eq e _ (by simp), hc, if_pos rfl]
    rfl
  | x :: xs, h => by
    have hx := h x List.mem_cons_self
    have hc : cutLn (x ++ 10 :: (bText xs ++ (e ++ 10 :: more))) = (x, bText xs ++ (e ++ 10 :: more)) := by unfold cutLn; rw [cut_at x _ hx.1]
    have e1 : bText (x :: xs) ++ (e ++ 10 :: more) = x ++ 10 :: (bText xs ++ (e ++ 10 :: more)) := by simp [bText]
    rw [e1, hereM_eq e _ (by simp), hc, if_neg hx.2, here_lines e more he xs (fun y hy => h y (List.mem_cons_of_mem _ hy))]
    simp [bText]
def hWord (q : Bool) : Nm := if q then [34, 69, 34] else [69]
def hAll (q : Bool) (b more : Nm) : Nm := 97 :: 32 :: 60 :: 60 :: (hWord q ++ 10 :: (b ++ 69 :: 10 :: more))
def hFour (q : Bool) (b : Nm) : List Tok := [⟨1, [97], [], 1⟩, ⟨2, [60, 60], [], 1⟩, ⟨1, hWord q, b, 1⟩, ⟨3, [], [], 1⟩]
theorem word_h (q : Bool) (t : Nm) : wordM (hWord q ++ 10 :: t) = .ok (hWord q, 10 :: t) := by
  cases q with
  | false =>
    show wordM ([69] ++ 10 :: t) = _
    rw [word_plain [69] _ (by decide), w_end rfl]; rfl
  | true =>
    show wordM (34 :: 69 :: 34 :: 10 :: t) = _
    have h1 : inquo 0 (69 :: 34 :: 10 :: t) = .ok ([69], 34 :: 10 :: t) := by
      unfold inquo
      rw [loop_step (inq_strict' 0) rfl (by rfl), inq_cons, if_neg (by simp [join_ne (show (69 : UInt8) ≠ 92 by decide)]), if_neg (by decide), if_neg (by decide), if_neg (by decide), bnd_ok, loop_stop (by rfl)]
      rfl
    rw [w_step (by rfl), parA_eq, if_neg (by simp [join_ne (show (34 : UInt8) ≠ 92 by decide)]), if_neg (by decide), if_neg (by decide), if_pos rfl]
    unfold quoted
    rw [h1, bnd_ok, bnd_ok]
    show pre _ (wordM (10 :: t)) = _
    rw [w_end rfl]
    rfl
theorem bare_h (q : Bool) : bare (hWord q) = [69] := by cases q <;> rfl
theorem here_all (q : Bool) (xs : List Nm) (h : ∀ x ∈ xs, (10 : UInt8) ∉ x ∧ x ≠ [69]) (more : Nm) : UpRA (hFour q (bText xs)) (nl (bText xs) + 2) (allM more) (allM (hAll q (bText xs) more)) := by
  obtain ⟨b, hb⟩ : ∃ b, bText xs = b := ⟨_, rfl⟩
  have hl := here_lines [69] more (by decide) xs h
  rw [hb] at hl ⊢
  have hn0 : nl (hWord q) = 0 := by cases q <;> rfl
  have hn1 : nl (69 :: 10 :: more) = nl more + 1 := by simp [nl]
  have hn2 : nl (hWord q ++ 10 :: (b ++ 69 :: 10 :: more)) = nl more + (nl b + 2) := by
    rw [nl_append, hn0, nl_cons10, nl_append, hn1]; omega
  have hn : nl (hAll q b more) = nl more + (nl b + 2) := by
    rw [← hn2]; unfold hAll nl; simp
  have hn3 : nl (32 :: 60 :: 60 :: (hWord q ++ 10 :: (b ++ 69 :: 10 :: more))) = nl more + (nl b + 2) := by
    rw [← hn2]; unfold nl; simp
  have hn4 : nl (60 :: 60 :: (hWord q ++ 10 :: (b ++ 69 :: 10 :: more))) = nl more + (nl b + 2) := by
    rw [← hn2]; unfold nl; simp
  have hn5 : nl (10 :: (b ++ 69 :: 10 :: more)) = nl more + (nl b + 2) := by
    rw [nl_cons10, nl_append, hn1]; omega
  obtain ⟨d, hd⟩ : ∃ d, nl b + 2 = d := ⟨_, rfl⟩
  rw [hd] at hn hn2 hn3 hn4 hn5 ⊢
  have hg : 1 + (nl more + d) - (nl more + d) = 1 := by omega
  have hrun : allM (hAll q b more) = allS (1 + nl more + d) (hFour q b, [], more) := by
    unfold allM
    rw [hn, allS_step _ _ _ (by simp [hAll]), hn, hg]
    unfold hAll
    have h1 := one_letters (g := 1) (l := []) (h := []) (a := [97]) (t := 32 :: 60 :: 60 :: (hWord q ++ 10 :: (b ++ 69 :: 10 :: more))) (x := ([], _)) (by decide) (by simp) (w_end rfl) rfl
    rw [List.singleton_append] at h1
    rw [h1]
    simp only
    rw [allS_step _ _ _ (by simp), one_blank]
    simp only
    rw [allS_step _ _ _ (by simp), hn4, hg]
    have h2 : ∀ (l : List Tok) (r : Nm), oneM 1 l [] (60 :: 60 :: r) = .ok (l ++ [⟨2, [60, 60], [], 1⟩], [], r) := fun l r => rfl
    rw [h2]
    simp only
    rw [allS_step _ _ _ (by cases q <;> simp [hWord]), hn2, hg]
    have h3 : ∀ (l : List Tok), isHere l = true → oneM 1 l [] (hWord q ++ 10 :: (b ++ 69 :: 10 :: more)) = .ok (l ++ [⟨1, hWord q, [], 1⟩], [l.length], 10 :: (b ++ 69 :: 10 :: more)) := by
      intro l hil
      have hw := word_h q (b ++ 69 :: 10 :: more)
      have hio : isIo (hWord q ++ 10 :: (b ++ 69 :: 10 :: more)) (hWord q) (10 :: (b ++ 69 :: 10 :: more)) = false := by
        unfold isIo
        have : (hWord q).all digB = false := by cases q <;> rfl
        rw [this]; simp
      cases q with
      | false =>
        have hw' : wordM (69 :: 10 :: (b ++ 69 :: 10 :: more)) = .ok ([69], 10 :: (b ++ 69 :: 10 :: more)) := hw
        have hio' : isIo (69 :: 10 :: (b ++ 69 :: 10 :: more)) [69] (10 :: (b ++ 69 :: 10 :: more)) = false := hio
        show oneM 1 l [] (69 :: 10 :: (b ++ 69 :: 10 :: more)) = _
        rw [one_word (by decide) (by decide) (join_ne (by decide)) (by decide), hw', bnd_ok]
        simp only
        rw [if_neg (by simp only [hio']; decide), if_pos hil]
        rfl
      | true =>
        have hw' : wordM (34 :: 69 :: 34 :: 10 :: (b ++ 69 :: 10 :: more)) = .ok ([34, 69, 34], 10 :: (b ++ 69 :: 10 :: more)) := hw
        have hio' : isIo (34 :: 69 :: 34 :: 10 :: (b ++ 69 :: 10 :: more)) [34, 69, 34] (10 :: (b ++ 69 :: 10 :: more)) = false := hio
        show oneM 1 l [] (34 :: 69 :: 34 :: 10 :: (b ++ 69 :: 10 :: more)) = _
        rw [one_word (by decide) (by decide) (join_ne (by decide)) (by decide), hw', bnd_ok]
        simp only
        rw [if_neg (by simp only [hio']; decide), if_pos hil]
        rfl
    rw [h3 _ rfl]
    simp only
    rw [allS_step _ _ _ (by simp), hn5, hg]
    have h4 : oneM 1 (([] : List Tok) ++ [(⟨1, [97] ++ [], [], 1⟩ : Tok)] ++ [⟨2, [60, 60], [], 1⟩] ++ [⟨1, hWord q, [], 1⟩]) [(([] : List Tok) ++ [(⟨1, [97] ++ [], [], 1⟩ : Tok)] ++ [(⟨2, [60, 60], [], 1⟩ : Tok)]).length] (10 :: (b ++ 69 :: 10 :: more)) = .ok (hFour q b, [], more) := by
      show bnd (bodiesM [2] [(⟨1, [97], [], 1⟩ : Tok), ⟨2, [60, 60], [], 1⟩, ⟨1, hWord q, [], 1⟩, ⟨3, [], [], 1⟩] (b ++ 69 :: 10 :: more)) (fun x => Except.ok (x.1, ([] : List Nat), x.2)) = _
      unfold bodiesM
      show bnd (bnd (hereM (bare (hWord q)) (b ++ 69 :: 10 :: more)) _) _ = _
      rw [bare_h, show b ++ 69 :: 10 :: more = b ++ ([69] ++ 10 :: more) from rfl, hl]
      rfl
    rw [h4, Nat.add_assoc]
  rw [hrun]
  have h := all_up (1 + nl more) d (hFour q b) rfl more.length [] [] more (Nat.le_refl _) (by omega)
  have e : upSt (hFour q b) d ([], [], more) = (hFour q b, [], more) := by simp [upSt]
  rw [e] at h
  exact h
end Go.Proofs.YtahipkigpjohnaaGreatDoor.Lx
