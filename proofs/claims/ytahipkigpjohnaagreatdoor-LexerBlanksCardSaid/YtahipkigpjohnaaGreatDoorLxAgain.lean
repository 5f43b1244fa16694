/-
  Lexer: a word's text is read again as itself, as plain laws. No program stands here. Conditions: as each law says.
-/
import Derived.Test.YtahipkigpjohnaaGreatDoorLxShort
set_option linter.unusedVariables false
set_option linter.unusedSimpArgs false
set_option maxRecDepth 100000
namespace Go.Proofs.YtahipkigpjohnaaGreatDoor.Lx
/-- What may not stand behind a lone dollar. -/
def bad (s : Nm) : Bool := has [40] s || has [123] s || has [92, 10] s
/-- What stands behind is no worse. -/
def Fit (rest T : Nm) : Prop := bad rest = false → bad T = false
/-- A part's text, read again, is itself. -/
structure Re (c : UInt8) (r o rest : Nm) (step : Nm → R) : Prop where
  noj : has [92, 10] (c :: r) = false
  head : ∃ o', o = c :: o'
  two : c = 92 → ∃ d r', r = d :: r' ∧ o = [92, d]
  again : ∀ T, Fit rest T → step (o ++ T) = .ok (o, T)
def Good (step : Nm → R) : Prop := ∀ c r o rest, step (c :: r) = .ok (o, rest) → (has [92, 10] (c :: r) = true ∧ o = []) ∨ Re c r o rest step
theorem two_join (d : UInt8) (r T : Nm) : has [92, 10] (92 :: d :: r) = has [92, 10] (92 :: d :: T) := by rw [has_join, has_join]
theorem bad_head {c : UInt8} {r o' T : Nm} (hb : bad (c :: r) = false) (h2 : c = 92 → ∃ d r', r = d :: r' ∧ c :: o' = [92, d]) : bad (c :: o' ++ T) = false := by
  unfold bad at hb ⊢
  simp only [Bool.or_eq_false_iff] at hb ⊢
  obtain ⟨⟨h40, h123⟩, hj⟩ := hb
  rw [has_single] at h40 h123
  rw [List.cons_append, has_single, has_single]
  refine ⟨⟨h40, h123⟩, ?_⟩
  by_cases hc : c = 92
  · obtain ⟨d, r', rfl, he⟩ := h2 hc
    subst hc
    have he' : o' = [d] := by injection he
    subst he'
    rw [List.singleton_append, two_join d T r']
    exact hj
  · exact join_ne hc
theorem bad_of {s T : Nm} (h : bad T = false) : Fit s T := fun _ => h
theorem loop_again {step : Nm → R} {stop : Nm → Bool} (hs : Strict step) (h0 : step [] = .error 20) (hg : Good step) (hstop : ∀ c r r', stop (c :: r) = stop (c :: r')) : ∀ (n : Nat) (s y rest : Nm), s.length ≤ n → loop step stop s = .ok (y, rest) → ∀ T, stop T = true → bad T = false → Fit s (y ++ T) ∧ loop step stop (y ++ T) = .ok (y, T)
  | n, s, y, rest, hn, h, T, hT, hbT => by
    by_cases hss : stop s = true
    · rw [loop_stop hss] at h
      injection h with h
      injection h with h1 h2
      subst h1
      exact ⟨fun _ => hbT, loop_stop hT⟩
    · have hss : stop s = false := by simpa using hss
      rw [loop_step hs h0 hss] at h
      obtain ⟨x, hx, h⟩ := bnd_ok_inv h
      obtain ⟨p, hp, hy⟩ := pre_ok_inv h
      cases s with
      | nil => rw [h0] at hx; cases hx
      | cons c r =>
        have hl := hs _ _ hx
        cases n with
        | zero => simp at hn
        | succ n =>
          obtain ⟨hf, ha⟩ := loop_again hs h0 hg hstop n x.2 p rest (by simp at hn hl; omega) hp T hT hbT
          simp only at hy
          subst hy
          rcases hg c r x.1 x.2 hx with ⟨hj, ho⟩ | hre
          · rw [ho, List.nil_append]
            refine ⟨fun hb => ?_, ha⟩
            unfold bad at hb
            rw [hj] at hb
            simp at hb
          · obtain ⟨o', ho⟩ := hre.head
            have h2 := hre.two
            have hag := hre.again (p ++ T) hf
            rw [ho] at h2 hag ⊢
            rw [List.append_assoc]
            refine ⟨fun hb => bad_head hb h2, ?_⟩
            have hso : stop (c :: o' ++ (p ++ T)) = false := by rw [List.cons_append, hstop c _ r]; exact hss
            rw [loop_step hs h0 hso, hag, bnd_ok, ha]
            rfl
theorem cut_not {c : UInt8} : ∀ {s : Nm} {x : Nm × Nm}, cutAt c s = some x → c ∉ x.1
  | [], x, e => by cases e
  | d :: r, x, e => by
    unfold cutAt at e
    split at e
    · injection e with e; subst e; simp
    · rename_i h
      cases hc : cutAt c r with
      | none => rw [hc] at e; cases e
      | some y =>
        rw [hc] at e
        injection e with e
        subst e
        have := cut_not hc
        intro hm
        rcases List.mem_cons.1 hm with hm | hm
        · exact h hm.symm
        · exact this hm
theorem ari_again : ∀ (s : Nm) (d : Nat) (o rest : Nm), ariM d s = .ok (o, rest) → ∀ T, ariM d (o ++ T) = .ok (o, T)
  | [], d, o, rest, e, T => by cases e
  | c :: r, d, o, rest, e, T => by
    unfold ariM at e
    split at e
    · rename_i h
      injection e with e
      injection e with e1 e2
      subst e1
      show ariM d (41 :: 41 :: T) = _
      unfold ariM
      rw [if_pos ⟨h.1, by simp [has, List.isPrefixOf]⟩]
      rfl
    · rename_i h
      have key : ∀ d', (c = 41 → d ≠ 0) → pre [c] (ariM d' r) = .ok (o, rest) → (∀ q, ariM d (c :: q) = pre [c] (ariM d' q)) → ariM d (o ++ T) = .ok (o, T) := by
        intro d' _ e hq
        obtain ⟨p, h1, h2⟩ := pre_ok_inv e
        simp only at h1 h2
        subst h2
        have := ari_again r d' p rest h1 T
        show ariM d (c :: (p ++ T)) = _
        rw [hq, this]
        rfl
      split at e
      · rename_i h41
        split at e
        · cases e
        · rename_i hd
          refine key (d - 1) (fun _ => hd) e fun q => ?_
          rw [ariM, if_neg (fun hh => hd hh.1), if_pos h41, if_neg hd]
      · rename_i h41
        have hn : ∀ q, ¬ (d = 0 ∧ has [41, 41] (c :: q) = true) := fun q hh => by
          have := hh.2
          rw [has_first (Ne.symm h41)] at this
          cases this
        split at e
        · rename_i h40
          refine key (d + 1) (fun h => absurd h h41) e fun q => ?_
          rw [ariM, if_neg (hn q), if_neg h41, if_pos h40]
        · rename_i h40
          refine key d (fun h => absurd h h41) e fun q => ?_
          rw [ariM, if_neg (hn q), if_neg h41, if_neg h40]
def GoodD (deep : Nat) : Prop := ∀ r o rest, dollar deep (36 :: r) = .ok (o, rest) → (∃ o', o = 36 :: o') ∧ ∀ T, Fit rest T → dollar deep (o ++ T) = .ok (o, T)
theorem stop_head (k c : UInt8) (r r' : Nm) : has [k] (c :: r) = has [k] (c :: r') := by rw [has_single, has_single]
theorem bad_single {k : UInt8} {T : Nm} (h : k ≠ 40) (h2 : k ≠ 123) (h3 : k ≠ 92) : bad (k :: T) = false := by
  unfold bad
  rw [has_first (Ne.symm h), has_first (Ne.symm h2), has_first (Ne.symm h3)]; rfl
theorem loop_stopped {step : Nm → R} {stop : Nm → Bool} (hs : Strict step) {s y rest : Nm} (h : loop step stop s = .ok (y, rest)) : stop rest = true := (loopF_len (fun s x h => Nat.le_of_lt (hs s x h)) _ _ _ h).2
theorem dollar_good (deep : Nat) (hd : deep ≠ 8 → Good (parA (deep + 1))) : GoodD deep := by
  intro r o rest e
  unfold dollar dolM at e
  split at e
  · rename_i h1
    obtain ⟨p, h2, h3⟩ := pre_ok_inv e
    simp only at h2 h3
    subst h3
    refine ⟨⟨_, rfl⟩, fun T _ => ?_⟩
    have := ari_again _ _ _ _ h2 T
    unfold dollar dolM
    show (if has [36, 40, 40] (36 :: 40 :: 40 :: (p ++ T)) = true then pre [36, 40, 40] (ariM 0 (p ++ T)) else _) = _
    rw [if_pos (by simp [has, List.isPrefixOf]), this]
    rfl
  · rename_i h1
    split at e
    · cases e
    · rename_i h2
      split at e
      · rename_i h3
        injection e with e
        injection e with e1 e2
        subst e1
        simp only [List.drop_one, List.tail_cons] at e2
        subst e2
        refine ⟨⟨_, rfl⟩, fun T hf => ?_⟩
        have hx : ∀ (p q : Nm), has (36 :: p) (36 :: q) = has p q := fun p q => by simp [has, List.isPrefixOf]
        rw [hx, hx] at h2
        rw [hx] at h3
        have hb : bad r = false := by
          unfold bad
          simp only [not_or] at h2
          have h4 : has [40] r = false := by simpa using h2.1
          have h5 : has [92, 10] r = false := by simpa using h2.2
          rw [h4, h3, h5]; rfl
        have hb := hf hb
        unfold bad at hb
        simp only [Bool.or_eq_false_iff] at hb
        obtain ⟨⟨b1, b2⟩, b3⟩ := hb
        unfold dollar dolM
        show (if has [36, 40, 40] (36 :: T) = true then _ else if has [36, 40] (36 :: T) = true ∨ has [36, 92, 10] (36 :: T) = true then _ else if has [36, 123] (36 :: T) = false then _ else _) = _
        rw [hx, hx, hx, hx]
        have b0 : has [40, 40] T = false := by
          cases T with
          | nil => rfl
          | cons t T =>
            rw [has_single] at b1
            exact has_first (by simpa using b1)
        rw [if_neg (by simp [b0]), if_neg (by simp [b1, b3]), if_pos b2]
        rfl
      · rename_i h3
        split at e
        · cases e
        · rename_i h8
          obtain ⟨x, hx, h4⟩ := bnd_ok_inv e
          injection h4 with h4
          injection h4 with h5 h6
          subst h5
          refine ⟨⟨_, rfl⟩, fun T _ => ?_⟩
          have hst := part_strict (deep + 1)
          have hag := loop_again hst (part_nil _) (hd h8) (stop_head 125) _ _ x.1 x.2 (Nat.le_refl _) hx (125 :: T) (by rw [has_single]; rfl) (bad_single (by decide) (by decide) (by decide))
          unfold dollar dolM
          have e1 : (36 :: 123 :: x.1 ++ [125]) ++ T = 36 :: 123 :: (x.1 ++ 125 :: T) := by simp
          rw [e1, if_neg (by simp [has, List.isPrefixOf]), if_neg (by simp [has, List.isPrefixOf]), if_neg (by simp [has, List.isPrefixOf]), if_neg h8]
          show bnd (inner deep (x.1 ++ 125 :: T)) _ = _
          unfold inner
          rw [hag.2]
          rfl
theorem inq_good (deep : Nat) (hd : GoodD deep) : Good (inq deep) := by
  intro c r o rest e
  rw [inq_cons] at e
  split at e
  · rename_i hj
    injection e with e
    injection e with e1 e2
    exact .inl ⟨hj, e1.symm⟩
  · rename_i hj
    have hj : has [92, 10] (c :: r) = false := by simpa using hj
    right
    split at e
    · rename_i h92
      subst h92
      cases r with
      | nil => cases e
      | cons d r' =>
        injection e with e
        injection e with e1 e2
        subst e1
        refine ⟨hj, ⟨_, rfl⟩, fun _ => ⟨d, r', rfl, rfl⟩, fun T _ => ?_⟩
        show inq deep (92 :: d :: T) = _
        rw [inq_cons, if_neg (by rw [two_join d T r', hj]; decide), if_pos rfl]
    · rename_i h92
      split at e
      · rename_i h36
        subst h36
        obtain ⟨⟨o', ho⟩, ha⟩ := hd r o rest e
        refine ⟨hj, ⟨o', ho⟩, fun h => absurd h h92, fun T hf => ?_⟩
        have := ha T hf
        rw [ho] at this ⊢
        rw [List.cons_append] at this ⊢
        rw [inq_cons, if_neg (by simp [join_ne h92]), if_neg h92, if_pos rfl, this]
      · rename_i h36
        split at e
        · cases e
        · rename_i h96
          injection e with e
          injection e with e1 e2
          subst e1
          refine ⟨hj, ⟨_, rfl⟩, fun h => absurd h h92, fun T _ => ?_⟩
          show inq deep (c :: T) = _
          rw [inq_cons, if_neg (by simp [join_ne h92]), if_neg h92, if_neg h36, if_neg h96]
theorem part_good_of (deep : Nat) (hd : GoodD deep) : Good (parA deep) := by
  intro c r o rest e
  rw [parA_eq] at e
  split at e
  · rename_i hj
    injection e with e
    injection e with e1 e2
    exact .inl ⟨hj, e1.symm⟩
  · rename_i hj
    have hj : has [92, 10] (c :: r) = false := by simpa using hj
    right
    split at e
    · rename_i h92
      subst h92
      cases r with
      | nil => cases e
      | cons d r' =>
        injection e with e
        injection e with e1 e2
        subst e1
        refine ⟨hj, ⟨_, rfl⟩, fun _ => ⟨d, r', rfl, rfl⟩, fun T _ => ?_⟩
        show parA deep (92 :: d :: T) = _
        rw [parA_eq, if_neg (by rw [two_join d T r', hj]; decide), if_pos rfl]
    · rename_i h92
      have hq : ∀ q, parA deep (c :: q) = _ := fun q => parA_eq deep c q
      have hn : ∀ q, ¬ (has [92, 10] (c :: q) = true) := fun q => by simp [join_ne h92]
      split at e
      · rename_i h39
        subst h39
        cases hc : cutAt 39 r with
        | none => rw [hc] at e; cases e
        | some x =>
          rw [hc] at e
          injection e with e
          injection e with e1 e2
          subst e1
          refine ⟨hj, ⟨_, rfl⟩, fun h => absurd h h92, fun T _ => ?_⟩
          have e3 : 39 :: x.1 ++ [39] ++ T = 39 :: (x.1 ++ 39 :: T) := by simp
          rw [e3, parA_eq, if_neg (hn _), if_neg h92, if_pos rfl, cut_at x.1 T (cut_not hc)]
      · rename_i h39
        split at e
        · rename_i h34
          subst h34
          unfold quoted at e
          obtain ⟨x, hx, h4⟩ := bnd_ok_inv e
          injection h4 with h4
          injection h4 with h5 h6
          subst h5
          refine ⟨hj, ⟨_, rfl⟩, fun h => absurd h h92, fun T _ => ?_⟩
          have hag := loop_again (inq_strict' deep) rfl (inq_good deep hd) (stop_head 34) _ _ x.1 x.2 (Nat.le_refl _) hx (34 :: T) (by rw [has_single]; rfl) (bad_single (by decide) (by decide) (by decide))
          have e3 : 34 :: x.1 ++ [34] ++ T = 34 :: (x.1 ++ 34 :: T) := by simp
          rw [e3, parA_eq, if_neg (hn _), if_neg h92, if_neg h39, if_pos rfl]
          unfold quoted inquo
          rw [hag.2]
          rfl
        · rename_i h34
          split at e
          · rename_i h36
            subst h36
            obtain ⟨⟨o', ho⟩, ha⟩ := hd r o rest e
            refine ⟨hj, ⟨o', ho⟩, fun h => absurd h h92, fun T hf => ?_⟩
            have := ha T hf
            rw [ho] at this ⊢
            rw [List.cons_append] at this ⊢
            rw [parA_eq, if_neg (hn _), if_neg h92, if_neg h39, if_neg h34, if_pos rfl, this]
          · rename_i h36
            split at e
            · cases e
            · rename_i h96
              injection e with e
              injection e with e1 e2
              subst e1
              refine ⟨hj, ⟨_, rfl⟩, fun h => absurd h h92, fun T _ => ?_⟩
              show parA deep (c :: T) = _
              rw [parA_eq, if_neg (hn _), if_neg h92, if_neg h39, if_neg h34, if_neg h36, if_neg h96]
theorem part_good : ∀ (n deep : Nat), deep + n = 8 → Good (parA deep)
  | 0, deep, h => part_good_of deep (dollar_good deep fun h8 => absurd (by omega) h8)
  | n + 1, deep, h => part_good_of deep (dollar_good deep fun _ => part_good n (deep + 1) (by omega))
/-- A word that is read again as itself. -/
structure WOk (w : Nm) : Prop where
  ne : w ≠ []
  nob : ∀ T, ends (w ++ T) = false
  noc : w.head? ≠ some 35
  noj : ∀ T, has [92, 10] (w ++ 9 :: T) = false
  again : ∀ T, wordM (w ++ 9 :: T) = .ok (w, 9 :: T)
theorem ends_head (c : UInt8) (r r' : Nm) : ends (c :: r) = ends (c :: r') := rfl
theorem word_again {c : UInt8} {r w rest : Nm} (he : ends (c :: r) = false) (h35 : c ≠ 35) (hj : has [92, 10] (c :: r) = false) (h : wordM (c :: r) = .ok (w, rest)) : WOk w := by
  have hg := part_good 8 0 rfl
  have h' := h
  unfold wordM at h'
  rw [loop_step (part_strict 0) (part_nil 0) he] at h'
  obtain ⟨x, hx, hz⟩ := bnd_ok_inv h'
  obtain ⟨p, hp, hy⟩ := pre_ok_inv hz
  simp only at hy
  rcases hg c r x.1 x.2 hx with ⟨hj2, _⟩ | hre
  · rw [hj] at hj2; cases hj2
  · obtain ⟨o', ho⟩ := hre.head
    have h2 := hre.two
    rw [ho] at hy h2
    subst hy
    refine ⟨by simp, fun T => ?_, by simp [h35], fun T => ?_, fun T => ?_⟩
    · rw [List.cons_append, List.cons_append, ends_head c _ r]; exact he
    · by_cases hc : c = 92
      · obtain ⟨d, r', hr, he2⟩ := h2 hc
        subst hc
        subst hr
        have he' : o' = [d] := by injection he2
        subst he'
        show has [92, 10] (92 :: d :: (p ++ 9 :: T)) = false
        rw [two_join d _ r', hj]
      · rw [List.cons_append, List.cons_append]; exact join_ne hc
    · exact (loop_again (part_strict 0) (part_nil 0) hg ends_head _ _ _ _ (Nat.le_refl _) h (9 :: T) rfl (bad_single (by decide) (by decide) (by decide))).2
end Go.Proofs.YtahipkigpjohnaaGreatDoor.Lx
