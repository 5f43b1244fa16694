/-
  Lexer: a script that ends with a newline is read alike, whatever stands behind it, as plain laws. No program stands here. Conditions: as each law says.
-/
import Derived.Test.YtknncfoaegmphaaGreatDoorSkLxHere
import Derived.Test.YtknncfoaegmphaaGreatDoorSkLxAgain
set_option linter.unusedVariables false
set_option linter.unusedSimpArgs false
set_option maxRecDepth 100000
namespace Go.Proofs.YtknncfoaegmphaaGreatDoor.Lx
/-- It ends with a newline, no backslash ahead of it. -/
def EndsNl (u : Nm) : Prop := ∃ v, u = v ++ [10] ∧ v.getLast? ≠ some 92
theorem endsNl_ne {u : Nm} (h : EndsNl u) : u ≠ [] := by
  obtain ⟨v, rfl, _⟩ := h
  simp
theorem endsNl_suf {u t : Nm} (h : EndsNl u) (ht : t <:+ u) (hn : t ≠ []) : EndsNl t := by
  obtain ⟨v, rfl, hv⟩ := h
  obtain ⟨p, hp⟩ := ht
  rcases List.eq_nil_or_concat t with rfl | ⟨t', c, rfl⟩
  · exact absurd rfl hn
  · rw [List.concat_eq_append, ← List.append_assoc] at hp
    have h1 := List.append_inj' hp rfl
    obtain ⟨e1, e2⟩ := h1
    injection e2 with e2
    subst e2
    refine ⟨t', by rw [List.concat_eq_append], fun e => hv ?_⟩
    rw [← e1, List.getLast?_append, e]
    rfl
theorem endsNl_tail {c : UInt8} {r : Nm} (h : EndsNl (c :: r)) (hr : r ≠ []) : EndsNl r := endsNl_suf h (List.suffix_cons c r) hr
theorem endsNl_last {c : UInt8} (h : EndsNl [c]) : c = 10 := by
  obtain ⟨v, hv, _⟩ := h
  cases v with
  | nil => injection hv
  | cons d v => cases v <;> simp at hv
theorem endsNl_two {c : UInt8} (h : EndsNl [c, 10]) : c ≠ 92 := by
  obtain ⟨v, hv, h2⟩ := h
  intro e
  subst e
  have : v = [92] := (List.append_inj' (s₁ := [92]) (t₁ := [10]) hv rfl).1.symm
  rw [this] at h2
  exact h2 rfl
theorem has_ext : ∀ (p u : Nm) (b : Nm), EndsNl u → (10 : UInt8) ∉ p.dropLast → has p (u ++ b) = has p u
  | [], u, b, _, _ => rfl
  | c :: p, [], b, h, _ => absurd rfl (endsNl_ne h)
  | c :: p, d :: u, b, h, hp => by
    show (c == d && has p (u ++ b)) = (c == d && has p u)
    cases u with
    | nil =>
      have hd := endsNl_last h
      subst hd
      cases p with
      | nil => rfl
      | cons e p =>
        have : c ≠ 10 := fun e => hp (by rw [e]; exact List.mem_cons_self)
        have : (c == 10) = false := by simp [this]
        rw [this]
        rfl
    | cons e u =>
      rw [has_ext p (e :: u) b (endsNl_tail h (by simp)) (fun hm => hp (by
        cases p with
        | nil => cases hm
        | cons f p => exact List.mem_cons_of_mem _ hm))]
theorem drop_ext {u : Nm} (n : Nat) (b : Nm) (h : u.drop n ≠ []) : (u ++ b).drop n = u.drop n ++ b := by
  have : n ≤ u.length := by
    rcases Nat.lt_or_ge u.length n with h1 | h1
    · exact absurd (List.drop_eq_nil_of_le (Nat.le_of_lt h1)) h
    · exact h1
  exact List.drop_append_of_le_length this
/-- What is read is read as well if more stands behind. -/
def Ext (step : Nm → R) : Prop := ∀ u b o t, EndsNl u → step u = .ok (o, t) → t ≠ [] → step (u ++ b) = .ok (o, t ++ b)
theorem suf_of {s : Nm} {x : R} {o t : Nm} (h : Suf s x) (e : x = .ok (o, t)) : t <:+ s := by subst e; exact h
theorem cut_ext {c : UInt8} (b : Nm) : ∀ {u : Nm} {x : Nm × Nm}, cutAt c u = some x → cutAt c (u ++ b) = some (x.1, x.2 ++ b)
  | [], x, e => by cases e
  | d :: r, x, e => by
    rw [List.cons_append]
    unfold cutAt at e ⊢
    split
    · rename_i h
      rw [if_pos h] at e
      injection e with e
      subst e
      rfl
    · rename_i h
      rw [if_neg h] at e
      cases hc : cutAt c r with
      | none => rw [hc] at e; cases e
      | some y =>
        rw [hc] at e
        injection e with e
        subst e
        rw [cut_ext b hc]
        rfl
theorem ari_ext : ∀ (u : Nm) (d : Nat) (b o t : Nm), EndsNl u → ariM d u = .ok (o, t) → t ≠ [] → ariM d (u ++ b) = .ok (o, t ++ b)
  | [], d, b, o, t, h, e, _ => by cases e
  | c :: r, d, b, o, t, h, e, ht => by
    have h41 : has [41, 41] (c :: (r ++ b)) = has [41, 41] (c :: r) := has_ext [41, 41] (c :: r) b h (by decide)
    rw [List.cons_append]
    unfold ariM at e ⊢
    rw [h41]
    have hc : ∀ d', pre [c] (ariM d' r) = .ok (o, t) → pre [c] (ariM d' (r ++ b)) = .ok (o, t ++ b) := fun d' e => by
      obtain ⟨p, h1, h2⟩ := pre_ok_inv e
      cases r with
      | nil => cases h1
      | cons d r =>
        rw [ari_ext (d :: r) d' b p t (endsNl_tail h (by simp)) h1 ht]
        exact congrArg (fun z => Except.ok (z, t ++ b)) h2.symm
    split
    · rename_i h1
      rw [if_pos h1] at e
      injection e with e
      injection e with e1 e2
      subst e1
      subst e2
      rw [drop_ext 1 b ht]
    · rename_i h1
      rw [if_neg h1] at e
      split
      · rename_i h2
        rw [if_pos h2] at e
        split
        · rename_i h3
          rw [if_pos h3] at e
          cases e
        · rename_i h3
          rw [if_neg h3] at e
          exact hc _ e
      · rename_i h2
        rw [if_neg h2] at e
        split
        · rename_i h3
          rw [if_pos h3] at e
          exact hc _ e
        · rename_i h3
          rw [if_neg h3] at e
          exact hc _ e
theorem loop_ext {step : Nm → R} {stop : Nm → Bool} (hs : Strict step) (h0 : step [] = .error 20) (hsuf : ∀ s, Suf s (step s)) (he : Ext step) (hst : ∀ u b, EndsNl u → stop (u ++ b) = stop u) : ∀ (n : Nat) (u b o t : Nm), u.length ≤ n → EndsNl u → loop step stop u = .ok (o, t) → t ≠ [] → loop step stop (u ++ b) = .ok (o, t ++ b) := by
  intro n
  induction n with
  | zero =>
    intro u b o t hl h e ht
    exact absurd (List.length_eq_zero_iff.1 (Nat.le_zero.1 hl)) (endsNl_ne h)
  | succ n ih =>
    intro u b o t hl h e ht
    cases hu : stop u with
    | true =>
      rw [loop_stop hu] at e
      injection e with e
      injection e with e1 e2
      subst e1
      subst e2
      rw [loop_stop (by rw [hst u b h]; exact hu)]
    | false =>
      rw [loop_step hs h0 hu] at e
      rw [loop_step hs h0 (by rw [hst u b h]; exact hu)]
      obtain ⟨x, h1, h2⟩ := bnd_ok_inv e
      obtain ⟨p, h3, h4⟩ := pre_ok_inv h2
      obtain ⟨o1, t1⟩ := x
      have hs1 := suf_of (hsuf u) h1
      have hl1 := hs u _ h1
      simp only at h3 h4 hl1
      have hn : t1 ≠ [] := fun e => by
        subst e
        exact ht (List.suffix_nil.1 (suf_of (loopF_suf hsuf _ []) h3))
      have h5 := endsNl_suf h hs1 hn
      rw [he u b o1 t1 h h1 hn, bnd_ok, ih t1 b p t (by omega) h5 h3 ht, pre_ok, ← h4]
theorem inner_suf (deep : Nat) (s : Nm) : Suf s (inner deep s) := loopF_suf (part_suf (deep + 1)) _ s
theorem dollar_suf (deep : Nat) (s : Nm) : Suf s (dollar deep s) := dol_suf (inner_suf deep) deep s
theorem inq_suf' (deep : Nat) (s : Nm) : Suf s (inq deep s) := inq_suf (dollar_suf deep) s
theorem drop_ne {u : Nm} {n : Nat} (h : u.drop n ≠ []) : u ≠ [] := fun e => h (by rw [e]; simp)
theorem dollar_ext (deep : Nat) (hd : deep ≠ 8 → Ext (parA (deep + 1))) : Ext (dollar deep) := by
  intro u b o t h e ht
  unfold dollar dolM at e ⊢
  rw [has_ext [36, 40, 40] u b h (by decide), has_ext [36, 40] u b h (by decide), has_ext [36, 92, 10] u b h (by decide), has_ext [36, 123] u b h (by decide)]
  split
  · rename_i h1
    rw [if_pos h1] at e
    obtain ⟨p, h2, h3⟩ := pre_ok_inv e
    have hn : u.drop 3 ≠ [] := fun e => by rw [e] at h2; cases h2
    rw [drop_ext 3 b hn, ari_ext _ 0 b p t (endsNl_suf h (List.drop_suffix 3 u) hn) h2 ht, pre_ok]
    exact congrArg (fun z => Except.ok (z, t ++ b)) h3.symm
  · rename_i h1
    rw [if_neg h1] at e
    split
    · rename_i h2
      rw [if_pos h2] at e
      cases e
    · rename_i h2
      rw [if_neg h2] at e
      split
      · rename_i h3
        rw [if_pos h3] at e
        injection e with e
        injection e with e1 e2
        subst e1
        subst e2
        rw [drop_ext 1 b ht]
      · rename_i h3
        rw [if_neg h3] at e
        split
        · rename_i h4
          rw [if_pos h4] at e
          cases e
        · rename_i h4
          rw [if_neg h4] at e
          obtain ⟨x, h5, h6⟩ := bnd_ok_inv e
          obtain ⟨x1, x2⟩ := x
          injection h6 with h6
          injection h6 with e1 e2
          simp only at e1 e2
          subst e1
          subst e2
          have hx := drop_ne ht
          have hn : u.drop 2 ≠ [] := fun e => by
            rw [e] at h5
            exact hx (List.suffix_nil.1 (suf_of (inner_suf deep []) h5))
          rw [drop_ext 2 b hn]
          have h7 := loop_ext (stop := has [125]) (part_strict (deep + 1)) (part_nil (deep + 1)) (part_suf (deep + 1)) (hd h4) (fun u b hu => has_ext [125] u b hu (by decide)) _ _ b x1 x2 (Nat.le_refl _) (endsNl_suf h (List.drop_suffix 2 u) hn) h5 hx
          have h8 : inner deep (u.drop 2 ++ b) = .ok (x1, x2 ++ b) := h7
          rw [h8, bnd_ok]
          simp only
          rw [drop_ext 1 b ht]
theorem inq_ext (deep : Nat) (hd : Ext (dollar deep)) : Ext (inq deep) := by
  intro u b o t h e ht
  cases u with
  | nil => exact absurd rfl (endsNl_ne h)
  | cons c r =>
    have hj := has_ext [92, 10] (c :: r) b h (by decide)
    have hdl := hd (c :: r) b o t h
    rw [List.cons_append] at hj hdl ⊢
    rw [inq_cons] at e ⊢
    rw [hj]
    split
    · rename_i h1
      rw [if_pos h1] at e
      injection e with e
      injection e with e1 e2
      subst e1
      subst e2
      rw [drop_ext 1 b ht]
    · rename_i h1
      rw [if_neg h1] at e
      split
      · rename_i h2
        rw [if_pos h2] at e
        cases r with
        | nil => cases e
        | cons d r =>
          injection e with e
          injection e with e1 e2
          subst e1
          subst e2
          rfl
      · rename_i h2
        rw [if_neg h2] at e
        split
        · rename_i h3
          rw [if_pos h3] at e
          exact hdl e ht
        · rename_i h3
          rw [if_neg h3] at e
          split
          · rename_i h4
            rw [if_pos h4] at e
            cases e
          · rename_i h4
            rw [if_neg h4] at e
            injection e with e
            injection e with e1 e2
            subst e1
            subst e2
            rfl
theorem quoted_ext (deep : Nat) (hd : Ext (dollar deep)) : Ext (quoted deep) := by
  intro u b o t h e ht
  unfold quoted at e ⊢
  obtain ⟨x, h5, h6⟩ := bnd_ok_inv e
  obtain ⟨x1, x2⟩ := x
  injection h6 with h6
  injection h6 with e1 e2
  simp only at e1 e2
  subst e1
  subst e2
  have hx := drop_ne ht
  have h7 := loop_ext (stop := has [34]) (inq_strict' deep) rfl (inq_suf' deep) (inq_ext deep hd) (fun u b hu => has_ext [34] u b hu (by decide)) _ _ b x1 x2 (Nat.le_refl _) h h5 hx
  have h8 : inquo deep (u ++ b) = .ok (x1, x2 ++ b) := h7
  rw [h8, bnd_ok]
  simp only
  rw [drop_ext 1 b ht]
theorem part_ext_of (deep : Nat) (hd : Ext (dollar deep)) : Ext (parA deep) := by
  intro u b o t h e ht
  cases u with
  | nil => exact absurd rfl (endsNl_ne h)
  | cons c r =>
    have hj := has_ext [92, 10] (c :: r) b h (by decide)
    have hdl := hd (c :: r) b o t h
    rw [List.cons_append] at hj hdl ⊢
    rw [parA_eq] at e ⊢
    rw [hj]
    split
    · rename_i h1
      rw [if_pos h1] at e
      injection e with e
      injection e with e1 e2
      subst e1
      subst e2
      rw [drop_ext 1 b ht]
    · rename_i h1
      rw [if_neg h1] at e
      split
      · rename_i h2
        rw [if_pos h2] at e
        cases r with
        | nil => cases e
        | cons d r =>
          injection e with e
          injection e with e1 e2
          subst e1
          subst e2
          rfl
      · rename_i h2
        rw [if_neg h2] at e
        split
        · rename_i h3
          rw [if_pos h3] at e
          cases hc : cutAt 39 r with
          | none => rw [hc] at e; cases e
          | some x =>
            rw [hc] at e
            rw [cut_ext b hc]
            injection e with e
            injection e with e1 e2
            subst e1
            subst e2
            rfl
        · rename_i h3
          rw [if_neg h3] at e
          split
          · rename_i h4
            rw [if_pos h4] at e
            refine quoted_ext deep hd r b o t (endsNl_tail h fun er => ?_) e ht
            subst er
            exact absurd (endsNl_last h) (by rw [h4]; decide)
          · rename_i h4
            rw [if_neg h4] at e
            split
            · rename_i h5
              rw [if_pos h5] at e
              exact hdl e ht
            · rename_i h5
              rw [if_neg h5] at e
              split
              · rename_i h6
                rw [if_pos h6] at e
                cases e
              · rename_i h6
                rw [if_neg h6] at e
                injection e with e
                injection e with e1 e2
                subst e1
                subst e2
                rfl
theorem part_ext : ∀ (n deep : Nat), deep + n = 8 → Ext (parA deep)
  | 0, deep, h => part_ext_of deep (dollar_ext deep fun h8 => absurd (by omega) h8)
  | n + 1, deep, h => part_ext_of deep (dollar_ext deep fun _ => part_ext n (deep + 1) (by omega))
theorem ends_has {u t : Nm} {k : UInt8} (h : EndsNl u) (ht : t <:+ u) (hk : has [k] t = true) (h10 : k ≠ 10) : t.drop 1 ≠ [] := by
  cases t with
  | nil => cases hk
  | cons c t =>
    rw [has_single] at hk
    have hc : k = c := of_decide_eq_true hk
    intro e
    have : t = [] := e
    subst this
    exact h10 (by rw [hc]; exact endsNl_last (endsNl_suf h ht (by simp)))
theorem ari_ne : ∀ (u : Nm) (d : Nat) (o t : Nm), EndsNl u → ariM d u = .ok (o, t) → t ≠ []
  | [], d, o, t, h, e => by cases e
  | c :: r, d, o, t, h, e => by
    unfold ariM at e
    have hc : ∀ d', pre [c] (ariM d' r) = .ok (o, t) → t ≠ [] := fun d' e => by
      obtain ⟨p, h1, h2⟩ := pre_ok_inv e
      cases r with
      | nil => cases h1
      | cons d r => exact ari_ne (d :: r) d' p t (endsNl_tail h (by simp)) h1
    split at e
    · rename_i h1
      injection e with e
      injection e with e1 e2
      subst e2
      cases r with
      | nil => have := has_len h1.2; simp at this
      | cons d r =>
        have h2 : has [41] (d :: r) = true := by
          have := h1.2
          simp only [has, List.isPrefixOf, Bool.and_true, Bool.and_eq_true] at this ⊢
          exact this.2
        exact ends_has h (List.suffix_cons c _) h2 (by decide)
    · split at e
      · split at e
        · cases e
        · exact hc _ e
      · split at e
        · exact hc _ e
        · exact hc _ e
theorem part_ne (deep : Nat) {c : UInt8} {r o t : Nm} (h : EndsNl (c :: r)) (h10 : c ≠ 10) (e : parA deep (c :: r) = .ok (o, t)) : t ≠ [] := by
  have hr : r ≠ [] := fun er => by subst er; exact h10 (endsNl_last h)
  have hE := endsNl_tail h hr
  rw [parA_eq] at e
  split at e
  · rename_i h1
    injection e with e
    injection e with e1 e2
    subst e2
    cases r with
    | nil => exact absurd rfl hr
    | cons d r =>
      rw [has_join, Bool.and_eq_true] at h1
      have h92 : 92 = c := of_decide_eq_true h1.1
      have hd : 10 = d := of_decide_eq_true h1.2
      intro e
      have : r = [] := e
      subst this
      subst hd
      exact endsNl_two h h92.symm
  · rename_i hj
    split at e
    · rename_i h92
      cases r with
      | nil => cases e
      | cons d r =>
        injection e with e
        injection e with e1 e2
        subst e2
        intro e
        subst e
        have hd := endsNl_last hE
        subst hd
        exact endsNl_two h h92
    · split at e
      · cases hc : cutAt 39 r with
        | none => rw [hc] at e; cases e
        | some x =>
          rw [hc] at e
          injection e with e
          injection e with e1 e2
          subst e2
          have h1 := cut_len hc
          have h2 := ends_has (t := 39 :: x.2) (k := 39) hE ⟨x.1, h1.symm⟩ (by rw [has_single]; decide) (by decide)
          exact h2
      · split at e
        · unfold quoted at e
          obtain ⟨x, h5, h6⟩ := bnd_ok_inv e
          injection h6 with h6
          injection h6 with e1 e2
          subst e2
          exact ends_has hE (suf_of (loopF_suf (inq_suf' deep) _ r) h5) (loop_stopped (inq_strict' deep) h5) (by decide)
        · split at e
          · unfold dollar dolM at e
            split at e
            · obtain ⟨p, h2, h3⟩ := pre_ok_inv e
              have hn : (c :: r).drop 3 ≠ [] := fun e => by rw [e] at h2; cases h2
              exact ari_ne _ 0 p t (endsNl_suf h (List.drop_suffix 3 _) hn) h2
            · split at e
              · cases e
              · split at e
                · injection e with e
                  injection e with e1 e2
                  subst e2
                  exact hr
                · split at e
                  · cases e
                  · obtain ⟨x, h5, h6⟩ := bnd_ok_inv e
                    injection h6 with h6
                    injection h6 with e1 e2
                    subst e2
                    exact ends_has h ((suf_of (inner_suf deep _) h5).trans (List.drop_suffix 2 _)) (loop_stopped (part_strict (deep + 1)) h5) (by decide)
          · split at e
            · cases e
            · injection e with e
              injection e with e1 e2
              subst e2
              exact hr
theorem word_ne : ∀ (n : Nat) (u o t : Nm), u.length ≤ n → EndsNl u → wordM u = .ok (o, t) → t ≠ [] := by
  intro n
  induction n with
  | zero =>
    intro u o t hl h e
    exact absurd (List.length_eq_zero_iff.1 (Nat.le_zero.1 hl)) (endsNl_ne h)
  | succ n ih =>
    intro u o t hl h e
    cases hu : ends u with
    | true =>
      rw [w_end hu] at e
      injection e with e
      injection e with e1 e2
      subst e2
      exact endsNl_ne h
    | false =>
      rw [w_step hu] at e
      obtain ⟨x, h1, h2⟩ := bnd_ok_inv e
      obtain ⟨p, h3, h4⟩ := pre_ok_inv h2
      obtain ⟨o1, t1⟩ := x
      cases u with
      | nil => exact absurd rfl (endsNl_ne h)
      | cons c r =>
        have h10 : c ≠ 10 := fun e => by subst e; cases hu
        have h5 := part_ne 0 h h10 h1
        have h6 := suf_of (part_suf 0 _) h1
        have h7 := part_strict 0 _ _ h1
        exact ih t1 p t (by simp only at h7; omega) (endsNl_suf h h6 h5) h3
theorem word_ext {u o t : Nm} (b : Nm) (h : EndsNl u) (e : wordM u = .ok (o, t)) : wordM (u ++ b) = .ok (o, t ++ b) ∧ t ≠ [] := by
  have hn := word_ne _ u o t (Nat.le_refl _) h e
  refine ⟨loop_ext (part_strict 0) (part_nil 0) (part_suf 0) (part_ext 8 0 rfl) (fun u b hu => ?_) _ u b o t (Nat.le_refl _) h e hn, hn⟩
  cases u with
  | nil => exact absurd rfl (endsNl_ne hu)
  | cons c r => rfl
theorem cut_some {c : UInt8} : ∀ {u : Nm}, c ∈ u → ∃ x, cutAt c u = some x
  | [], h => by cases h
  | d :: r, h => by
    unfold cutAt
    by_cases e : d = c
    · rw [if_pos e]; exact ⟨_, rfl⟩
    · rw [if_neg e]
      rcases List.mem_cons.1 h with h | h
      · exact absurd h.symm e
      · obtain ⟨x, hx⟩ := cut_some h
        rw [hx]; exact ⟨_, rfl⟩
theorem endsNl_mem {u : Nm} (h : EndsNl u) : (10 : UInt8) ∈ u := by
  obtain ⟨v, rfl, _⟩ := h
  simp
theorem cutLn_ext {u : Nm} (b : Nm) (h : EndsNl u) : cutLn (u ++ b) = ((cutLn u).1, (cutLn u).2 ++ b) ∧ u = (cutLn u).1 ++ 10 :: (cutLn u).2 := by
  obtain ⟨x, hx⟩ := cut_some (endsNl_mem h)
  unfold cutLn
  rw [cut_ext b hx, hx]
  exact ⟨rfl, cut_len hx⟩
theorem here_ext : ∀ (n : Nat) (e u b o t : Nm), u.length ≤ n → EndsNl u → hereM e u = .ok (o, t) → hereM e (u ++ b) = .ok (o, t ++ b) := by
  intro n
  induction n with
  | zero =>
    intro e u b o t hl h he
    exact absurd (List.length_eq_zero_iff.1 (Nat.le_zero.1 hl)) (endsNl_ne h)
  | succ n ih =>
    intro e u b o t hl h he
    obtain ⟨h1, h2⟩ := cutLn_ext b h
    have hl2 := cutLn_len u (endsNl_ne h)
    rw [hereM_eq e u (endsNl_ne h)] at he
    rw [hereM_eq e (u ++ b) (by simp [endsNl_ne h]), h1]
    simp only
    split
    · rename_i hc
      rw [if_pos hc] at he
      injection he with he
      injection he with e1 e2
      subst e1
      subst e2
      rfl
    · rename_i hc
      rw [if_neg hc] at he
      obtain ⟨p, h3, h4⟩ := pre_ok_inv he
      have hn : (cutLn u).2 ≠ [] := fun e => by rw [e] at h3; cases h3
      rw [ih e _ b p t (by omega) (endsNl_suf h (cutLn_suf u) hn) h3, pre_ok]
      exact congrArg (fun z => Except.ok (z, t ++ b)) h4.symm
theorem bodies_ext : ∀ (hh : List Nat) (l : List Tok) (u b : Nm) (x : List Tok × Nm), (u = [] ∨ EndsNl u) → bodiesM hh l u = .ok x → bodiesM hh l (u ++ b) = .ok (x.1, x.2 ++ b)
  | [], l, u, b, x, _, e => by injection e with e; subst e; rfl
  | i :: is, l, u, b, x, h, e => by
    obtain ⟨y, h1, h2⟩ := bnd_ok_inv (x := hereM (bareAt l i) u) e
    obtain ⟨o, t⟩ := y
    have hu : EndsNl u := h.resolve_left fun e => by subst e; cases h1
    have h3 := here_ext _ _ u b o t (Nat.le_refl _) hu h1
    unfold bodiesM
    rw [h3, bnd_ok]
    refine bodies_ext is _ t b x ?_ h2
    by_cases ht : t = []
    · exact .inl ht
    · exact .inr (endsNl_suf hu (suf_of (hereF_suf _ _ u) h1) ht)
theorem modify_k (x : Nm) : ∀ (l : List Tok) (i : Nat), (l.modify i (addB x)).map Tok.k = l.map Tok.k
  | [], i => by cases i <;> rfl
  | t :: l, 0 => rfl
  | t :: l, i + 1 => by
    show t.k :: (l.modify i (addB x)).map Tok.k = t.k :: l.map Tok.k
    rw [modify_k x l i]
theorem bodies_k : ∀ (hh : List Nat) (l : List Tok) (u : Nm) (x : List Tok × Nm), bodiesM hh l u = .ok x → x.1.map Tok.k = l.map Tok.k
  | [], l, u, x, e => by injection e with e; subst e; rfl
  | i :: is, l, u, x, e => by
    obtain ⟨y, h1, h2⟩ := bnd_ok_inv (x := hereM (bareAt l i) u) e
    rw [bodies_k is _ _ x h2, modify_k]
theorem sign_ext {u : Nm} (b : Nm) (h : EndsNl u) : signOf (u ++ b) = signOf u := by
  unfold signOf
  have : ∀ (L : List Nm), (∀ o ∈ L, (10 : UInt8) ∉ o.dropLast) → L.find? (fun o => has o (u ++ b)) = L.find? fun o => has o u := by
    intro L
    induction L with
    | nil => intro _; rfl
    | cons o L ih =>
      intro hL
      rw [List.find?_cons, List.find?_cons, has_ext o u b h (hL o List.mem_cons_self), ih fun p hp => hL p (List.mem_cons_of_mem _ hp)]
  exact this signL (by decide)
def LastLine (l : List Tok) : Prop := ∃ l0 t, l = l0 ++ [t] ∧ t.k = 3
theorem one_ext {g : Nat} {l : List Tok} {hh : List Nat} {u b : Nm} {x : St} (h : EndsNl u) (e : oneM g l hh u = .ok x) : oneM g l hh (u ++ b) = .ok (x.1, x.2.1, x.2.2 ++ b) ∧ (x.2.2 = [] → LastLine x.1) := by
  cases u with
  | nil => exact absurd rfl (endsNl_ne h)
  | cons c r =>
    have hj := has_ext [92, 10] (c :: r) b h (by decide)
    have hsg := sign_ext b h
    have hcl := cutLn_ext b h
    have hwd : ∀ o t, wordM (c :: r) = .ok (o, t) → _ := fun o t e => word_ext b h e
    rw [List.cons_append] at hj hsg hcl hwd ⊢
    unfold oneM at e ⊢
    simp only at e ⊢
    by_cases h10 : c = 10
    · rw [if_pos h10] at e ⊢
      obtain ⟨y, h1, h2⟩ := bnd_ok_inv e
      injection h2 with h2
      subst h2
      have hr : r = [] ∨ EndsNl r := by
        by_cases er : r = []
        · exact .inl er
        · exact .inr (endsNl_tail h er)
      rw [bodies_ext hh _ r b y hr h1, bnd_ok]
      refine ⟨rfl, fun _ => ?_⟩
      have hk := bodies_k hh _ r y h1
      rw [List.map_append] at hk
      have hne : y.1 ≠ [] := fun e => by rw [e] at hk; simp at hk
      refine ⟨y.1.dropLast, y.1.getLast hne, (List.dropLast_concat_getLast hne).symm, ?_⟩
      rw [← List.dropLast_concat_getLast hne, List.map_append] at hk
      have := (List.append_inj' hk rfl).2
      injection this
    rw [if_neg h10] at e ⊢
    by_cases h35 : c = 35
    · rw [if_pos h35] at e ⊢
      injection e with e
      subst e
      have hd : (c :: r).drop (cutLn (c :: r)).1.length ≠ [] := by
        intro e
        have h1 := congrArg List.length hcl.2
        have h2 := congrArg List.length e
        rw [List.length_append] at h1
        rw [List.length_drop] at h2
        simp only [List.length_cons, List.length_nil] at h1 h2
        omega
      have h3 := drop_ext (u := c :: r) (cutLn (c :: r)).1.length b hd
      rw [List.cons_append] at h3
      rw [hcl.1]
      simp only
      rw [h3]
      exact ⟨rfl, fun e => absurd e hd⟩
    rw [if_neg h35] at e ⊢
    rw [hj]
    by_cases hjj : has [92, 10] (c :: r) = true
    · rw [if_pos hjj] at e ⊢
      injection e with e
      subst e
      have hd : r.drop 1 ≠ [] := by
        cases r with
        | nil => rw [has_join1] at hjj; cases hjj
        | cons d r =>
          rw [has_join, Bool.and_eq_true] at hjj
          have h92 : 92 = c := of_decide_eq_true hjj.1
          have hd : 10 = d := of_decide_eq_true hjj.2
          intro e
          have : r = [] := e
          subst this
          subst hd
          exact endsNl_two h h92.symm
      rw [drop_ext 1 b hd]
      exact ⟨rfl, fun e => absurd e hd⟩
    rw [if_neg hjj] at e ⊢
    have hr : r ≠ [] := fun er => by subst er; exact h10 (endsNl_last h)
    by_cases hb : c = 32 ∨ c = 9
    · rw [if_pos hb] at e ⊢
      injection e with e
      subst e
      exact ⟨rfl, fun e => absurd e hr⟩
    rw [if_neg hb] at e ⊢
    rw [hsg]
    cases hs : signOf (c :: r) with
    | some o =>
      rw [hs] at e
      simp only at e ⊢
      injection e with e
      subst e
      have hd : (c :: r).drop o.length ≠ [] := by
        intro e
        have h1 := sign_has hs
        have h2 := sign_pos h1.2
        have h3 : o = c :: r := by
          have := (List.isPrefixOf_iff_prefix.1 h1.1)
          exact this.eq_of_length (Nat.le_antisymm this.length_le (by
            have := congrArg List.length e
            rw [List.length_drop, List.length_nil] at this
            omega))
        have h4 := endsNl_mem h
        rw [← h3] at h4
        have := h2.2.2
        rw [List.count_eq_zero] at this
        exact this h4
      have h3 := drop_ext (u := c :: r) o.length b hd
      rw [List.cons_append] at h3
      rw [h3]
      exact ⟨rfl, fun e => absurd e hd⟩
    | none =>
      rw [hs] at e
      simp only at e ⊢
      by_cases h38 : c = 38
      · rw [if_pos h38] at e
        cases e
      rw [if_neg h38] at e ⊢
      obtain ⟨y, h1, h2⟩ := bnd_ok_inv e
      obtain ⟨o, t⟩ := y
      have h3 := hwd o t h1
      have h5 := endsNl_suf h (suf_of (word_suf _) h1) h3.2
      rw [h3.1, bnd_ok]
      have hio : isIo (c :: (r ++ b)) o (t ++ b) = isIo (c :: r) o t := by
        unfold isIo
        rw [has_ext [60] t b h5 (by decide), has_ext [62] t b h5 (by decide)]
        congr 2
        simp only [List.length_cons, List.length_append, decide_eq_decide]
        omega
      simp only at h2 ⊢
      rw [hio]
      by_cases hi : isIo (c :: r) o t = true
      · rw [if_pos hi] at h2 ⊢
        injection h2 with h2
        subst h2
        exact ⟨rfl, fun e => absurd e h3.2⟩
      · rw [if_neg hi] at h2 ⊢
        injection h2 with h2
        subst h2
        exact ⟨rfl, fun e => absurd e h3.2⟩
theorem all_ext (K : Nat) (b : Nm) : ∀ (n : Nat) (l : List Tok) (hh : List Nat) (u : Nm) (m : List Tok), u.length ≤ n → EndsNl u → allS K (l, hh, u) = .ok m → ∃ l', LastLine l' ∧ m = l' ++ [⟨4, [], [], K⟩] ∧ allS (K + nl b) (l, hh, u ++ b) = allS (K + nl b) (l', [], b) := by
  intro n
  induction n with
  | zero =>
    intro l hh u m hl h e
    exact absurd (List.length_eq_zero_iff.1 (Nat.le_zero.1 hl)) (endsNl_ne h)
  | succ n ih =>
    intro l hh u m hl h e
    have hu := endsNl_ne h
    rw [allS_step K l hh hu] at e
    cases ho : oneM (K - nl u) l hh u with
    | error z => rw [ho] at e; cases e
    | ok x =>
      rw [ho] at e
      simp only at e
      obtain ⟨l1, h1, t1⟩ := x
      obtain ⟨k1, k2⟩ := one_ext (b := b) h ho
      simp only at k1 k2
      have hlt := one_len hu ho
      simp only at hlt
      have hs : allS (K + nl b) (l, hh, u ++ b) = allS (K + nl b) (l1, h1, t1 ++ b) := by
        rw [allS_step _ l hh (by simp [hu]), nl_append, show K + nl b - (nl u + nl b) = K - nl u by omega, k1]
      by_cases ht : t1 = []
      · subst ht
        rw [allS_end] at e
        split at e
        · rename_i hh1
          injection e with e
          refine ⟨l1, k2 rfl, e.symm, ?_⟩
          rw [hs, hh1]
          rfl
        · cases e
      · have h5 : t1 <:+ u := by
          have := one_suf (g := K - nl u) (l := l) (hh := hh) (s := u)
          rw [ho] at this
          exact this
        obtain ⟨l', q1, q2, q3⟩ := ih l1 h1 t1 m (by omega) (endsNl_suf h h5 ht) e
        exact ⟨l', q1, q2, hs.trans q3⟩
/-- The tokens of two scripts, one behind the other. -/
theorem all_two {a b : Nm} (ha : a.getLast? ≠ some 92) {m mb : List Tok} (h1 : allM (a ++ [10]) = .ok m) (h2 : allM b = .ok mb) : ∃ (z : List Tok) (t e : Tok) (d : Nat), m = z ++ [t, e] ∧ t.k = 3 ∧ e.k = 4 ∧ allM (a ++ 10 :: b) = .ok (z ++ t :: mb.map (sh d)) := by
  obtain ⟨l', ⟨z, t, rfl, h3⟩, h4, h5⟩ := all_ext (1 + nl (a ++ [10])) b _ [] [] (a ++ [10]) m (Nat.le_refl _) ⟨a, rfl, ha⟩ h1
  refine ⟨z, t, ⟨4, [], [], 1 + nl (a ++ [10])⟩, nl (a ++ [10]), by rw [h4, List.append_assoc]; rfl, h3, rfl, ?_⟩
  have hP : isHere (z ++ [t]) = false := by
    unfold isHere
    rw [List.getLast?_append]
    show (decide (t.k = 2) && _) = false
    rw [h3]
    rfl
  have h6 := all_up (1 + nl b) (nl (a ++ [10])) (z ++ [t]) hP _ [] [] b (Nat.le_refl _) (by omega)
  have h7 : allS (1 + nl b) ([], [], b) = .ok mb := h2
  have e1 : a ++ 10 :: b = (a ++ [10]) ++ b := by rw [List.append_assoc]; rfl
  unfold allM
  rw [e1, nl_append, show 1 + (nl (a ++ [10]) + nl b) = 1 + nl (a ++ [10]) + nl b by omega, h5]
  rw [h7] at h6
  unfold upSt at h6
  rw [show 1 + nl b + nl (a ++ [10]) = 1 + nl (a ++ [10]) + nl b by omega] at h6
  simp only [List.map_nil, List.append_nil] at h6
  cases hx : allS (1 + nl (a ++ [10]) + nl b) (z ++ [t], [], b) with
  | error e => rw [hx] at h6; exact h6.elim
  | ok y =>
    rw [hx] at h6
    have : y = z ++ [t] ++ mb.map (sh (nl (a ++ [10]))) := h6
    rw [this, List.append_assoc]
    rfl
end Go.Proofs.YtknncfoaegmphaaGreatDoor.Lx
