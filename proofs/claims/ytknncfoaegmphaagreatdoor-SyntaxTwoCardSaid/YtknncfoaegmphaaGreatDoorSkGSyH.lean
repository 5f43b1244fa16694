/-
  Syntax: tokens that are alike give trees that are alike, for every part of the grammar. No program stands here. Conditions: as each law says.
  Syntax: more blanks, notes and newlines change nothing but lines, as a plain law. No program stands here. Conditions: as each law says.
-/
import Derived.Test.YtknncfoaegmphaaGreatDoorSkGSyA
import Derived.Test.YtknncfoaegmphaaGreatDoorSkLxShort
set_option linter.unusedVariables false
set_option linter.unusedSimpArgs false
namespace Go.Proofs.YtknncfoaegmphaaGreatDoor.Sy
open Lx
section
variable {R : List Tok → List Tok → Prop} {ns0 : List Nd} (hR : TokRel R)
theorem nd_of {n : Nat} {x y : Nd} (h : ndE n x y) (rs : List Rdr) : ndE n { x with rs := rs } { y with rs := rs } := by
  unfold ndE bare sh at h ⊢
  have h1 := congrArg Nd.k h
  have h2 := congrArg Nd.t h
  have h3 := congrArg Nd.fl h
  have h4 := congrArg Nd.ws h
  have h5 := congrArg Nd.st h
  have h6 := congrArg Nd.ks h
  simp only at h1 h2 h3 h4 h5 h6
  simp only [h1, h2, h3, h4, h5, h6]
include hR
theorem redirs_sim {s s' : S} (h : SR R ns0 s s') : PR R ns0 AE (redirsM s) (redirsM s') :=
  while_sim redirs_takes redirs_ne (fun s s' h => h.redirects hR) (fun a a' s s' hA h hc => pr_bd (redir_sim hR h hc) fun x x' t t' hx ht => pr_ok (by rw [hA, hx]) ht) rfl h
theorem simple_sim {s s' : S} (h : SR R ns0 s s') : PR R ns0 (AN ns0.length) (simpleM s) (simpleM s') := by
  unfold simpleM
  refine pr_bd (while_sim (A := fun x y : Nd => x.ks = [] ∧ ∃ ln, y = { x with ln := ln }) sim_takes sim_ne ?_ ?_ ⟨rfl, _, rfl⟩ h) fun a a' t t' ha ht => put_sim ht ?_
  · intro s s' h
    unfold simB
    rw [h.redirects hR, h.k hR]
  · intro a a' s s' hA h hc
    obtain ⟨hk, ln, rfl⟩ := hA
    show PR R ns0 _ (simT a s) (simT _ s')
    unfold simT
    rw [h.redirects hR]
    split
    · rename_i hr
      exact pr_bd (redir_sim hR h hr) fun x x' t t' hx ht => pr_ok ⟨hk, ln, by rw [hx]⟩ ht
    · exact pr_bd (raw_sim hR h) fun x x' t t' hx ht => pr_ok ⟨hk, ln, by rw [hx]; rfl⟩ ht
  · obtain ⟨hk, ln, rfl⟩ := ha
    unfold ndE bare sh
    rw [hk]
    rfl
end
section
variable {R : List Tok → List Tok → Prop} {ns0 : List Nd} (hR : TokRel R) {nest : S → P Nat} (hn : ∀ s, Weak s (nest s)) (hs : ∀ s s', SR R ns0 s s' → PR R ns0 (AN ns0.length) (nest s) (nest s'))
include hR hs
theorem cmd_sim {s s' : S} (h : SR R ns0 s s') : PR R ns0 (AN ns0.length) (cmdM nest s) (cmdM nest s') := by
  unfold cmdM
  rw [h.begins hR, h.isM hR, h.isComp hR, h.names hR]
  split
  · exact pr_er
  · split
    · exact simple_sim hR h
    · exact hs _ _ h
include hn
theorem pipe_sim {s s' : S} (h : SR R ns0 s s') : PR R ns0 (AN ns0.length) (pipeM nest s) (pipeM nest s') := by
  unfold pipeM
  simp only
  rw [h.isM hR]
  have h1 : SR R ns0 (if isM 1 [[33]] s = true then tk s else s) (if isM 1 [[33]] s = true then tk s' else s') := by
    split
    · rename_i hi
      exact h.tk hR (by rw [isM_k hi]; decide)
    · exact h
  refine pr_bd (cmd_sim hR hs h1) fun k k' t t' hk ht => pr_bd (while_sim (A := AL ns0.length) (pip_takes hn) alt_ne (fun s s' h => h.isM hR _ _) ?_ (by show [k'] = [k + ns0.length]; rw [hk]) ht) fun ks ks' u u' hks hu => ?_
  · intro a a' s s' hA h hc
    exact pr_bd (cmd_sim hR hs (h.over hR)) fun k k' t t' hk ht => pr_ok (by show a' ++ [k'] = _; rw [hA, hk, List.map_append]; rfl) ht
  · have hl : ks'.length = ks.length := by rw [hks, List.length_map]
    rw [hl]
    split
    · exact pr_ok hk hu
    · exact put_sim hu (by rw [show ks' = _ from hks]; rfl)
theorem andor_sim {s s' : S} (h : SR R ns0 s s') : PR R ns0 (AN ns0.length) (andorM nest s) (andorM nest s') := by
  unfold andorM
  refine pr_bd (pipe_sim hR hn hs h) fun k k' t t' hk ht => ?_
  have hT := ao_takes hn (nx s).ln
  have hT' := ao_takes hn (nx s').ln
  have key : ∀ (f f' : Nat) (a a' : Nat) (t t' : S), t.2.length ≤ f → t'.2.length ≤ f' → a' = a + ns0.length → SR R ns0 t t' → PR R ns0 (AN ns0.length) (loopP (isM 2 [[38, 38], [124, 124]]) (aoT nest (nx s).ln) f a t) (loopP (isM 2 [[38, 38], [124, 124]]) (aoT nest (nx s').ln) f' a' t') := by
    intro f
    induction f with
    | zero =>
      intro f' a a' t t' hf hf' hA ht
      have e1 : isM 2 [[38, 38], [124, 124]] t = false := by
        cases hi : isM 2 [[38, 38], [124, 124]] t with
        | false => rfl
        | true => have := isM_lt hi (by decide); omega
      have e2 : isM 2 [[38, 38], [124, 124]] t' = false := by rw [ht.isM hR]; exact e1
      have k2 : loopP (isM 2 [[38, 38], [124, 124]]) (aoT nest (nx s').ln) f' a' t' = .ok (a', t') := by cases f' with
        | zero => rfl
        | succ f' => rw [loopP, e2]; rfl
      rw [k2]
      exact ⟨hA, ht⟩
    | succ f ih =>
      intro f' a a' t t' hf hf' hA ht
      cases hi : isM 2 [[38, 38], [124, 124]] t with
      | false =>
        have e2 : isM 2 [[38, 38], [124, 124]] t' = false := by rw [ht.isM hR]; exact hi
        have k2 : loopP (isM 2 [[38, 38], [124, 124]]) (aoT nest (nx s').ln) f' a' t' = .ok (a', t') := by cases f' with
          | zero => rfl
          | succ f' => rw [loopP, e2]; rfl
        rw [k2, loopP, hi]
        exact ⟨hA, ht⟩
      | true =>
        have e2 : isM 2 [[38, 38], [124, 124]] t' = true := by rw [ht.isM hR]; exact hi
        cases f' with
        | zero => have := isM_lt e2 (by decide); omega
        | succ f' =>
          rw [loopP, loopP, hi, e2, if_pos rfl, if_pos rfl]
          have hp : PR R ns0 (AN ns0.length) (aoT nest (nx s).ln a t) (aoT nest (nx s').ln a' t') :=
            pr_bd (pipe_sim hR hn hs (ht.over hR)) fun k k' u u' hk hu => put_sim hu (by rw [ht.t hR, hA, show k' = _ from hk]; rfl)
          cases he : aoT nest (nx s).ln a t with
          | error e => cases he' : aoT nest (nx s').ln a' t' with
            | error e' => rw [he, he'] at hp; exact hp
            | ok y' => rw [he, he'] at hp; exact hp.elim
          | ok y => cases he' : aoT nest (nx s').ln a' t' with
            | error e' => rw [he, he'] at hp; exact hp.elim
            | ok y' =>
              rw [he, he'] at hp
              have l1 := hT a t y hi he
              have l2 := hT' a' t' y' e2 he'
              exact ih f' _ _ _ _ (by omega) (by omega) hp.1 hp.2
  exact key _ _ _ _ _ _ (Nat.le_refl _) (Nat.le_refl _) hk ht
theorem listF_sim : ∀ (f f' : Nat) (ks ks' : List Nat) (s s' : S), s.2.length ≤ f → s'.2.length ≤ f' → ks' = ks.map (· + ns0.length) → SR R ns0 s s' → PR R ns0 (AL ns0.length) (listF nest f ks s) (listF nest f' ks' s') := by
  intro f
  have stop : ∀ (f : Nat) (ks : List Nat) (s : S), begins s = false → listF nest f ks s = .ok (ks, s) := fun f ks s hb => by
    cases f with
    | zero => rfl
    | succ f => rw [listF, if_neg (by rw [hb]; decide)]
  induction f with
  | zero =>
    intro f' ks ks' s s' hf hf' hA h
    have e1 : begins s = false := by
      cases hb : begins s with
      | false => rfl
      | true => have := tk_lt (begins_ne hb); omega
    rw [stop _ _ s e1, stop _ _ s' (by rw [h.begins hR]; exact e1)]
    exact ⟨hA, h⟩
  | succ f ih =>
    intro f' ks ks' s s' hf hf' hA h
    cases hb : begins s with
    | false =>
      rw [stop _ _ s hb, stop _ _ s' (by rw [h.begins hR]; exact hb)]
      exact ⟨hA, h⟩
    | true =>
      have hb' : begins s' = true := by rw [h.begins hR]; exact hb
      cases f' with
      | zero => have := tk_lt (begins_ne hb'); omega
      | succ f' =>
        rw [listF, listF, if_pos hb, if_pos hb']
        have hp := andor_sim hR hn hs h
        cases he : andorM nest s with
        | error e => cases he' : andorM nest s' with
          | error e' => rw [he, he'] at hp; exact hp
          | ok y' => rw [he, he'] at hp; exact hp.elim
        | ok y => cases he' : andorM nest s' with
          | error e' => rw [he, he'] at hp; exact hp.elim
          | ok y' =>
            rw [he, he'] at hp
            have l1 := andor_weak hn s y he
            have l2 := andor_weak hn s' y' he'
            obtain ⟨k, t⟩ := y
            obtain ⟨k', t'⟩ := y'
            obtain ⟨hk, ht⟩ := hp
            simp only [bd_ok]
            simp only at hk ht l1 l2
            have hks : ks' ++ [k'] = (ks ++ [k]).map (· + ns0.length) := by rw [hA, hk, List.map_append]; rfl
            rw [ht.isM hR, ht.k hR]
            split
            · exact ⟨hks, ht⟩
            · rename_i hc
              have h4 : (nx t).k ≠ 4 := fun e => hc ⟨by
                cases hi : isM 2 [[59]] t with
                | false => rfl
                | true => have := isM_k hi; omega, by omega⟩
              have h4' : (nx t').k ≠ 4 := by rw [ht.k hR]; exact h4
              have m1 := tk_lt h4
              have m2 := tk_lt h4'
              have m3 := lns_le (tk t)
              have m4 := lns_le (tk t')
              exact ih f' _ _ _ _ (by omega) (by omega) hks (ht.over hR)
theorem list_sim {s s' : S} (em : Bool) (h : SR R ns0 s s') : PR R ns0 (AN ns0.length) (listM nest em s) (listM nest em s') := by
  unfold listM
  refine pr_bd (listF_sim hR hn hs _ _ _ _ _ _ (lns_le s) (lns_le s') rfl (h.lns hR)) fun ks ks' t t' hks ht => ?_
  have he : (ks' = [] ∧ em = false) ↔ (ks = [] ∧ em = false) := by rw [show ks' = _ from hks, List.map_eq_nil_iff]
  by_cases hc : ks = [] ∧ em = false
  · rw [if_pos hc, if_pos (he.2 hc)]; exact pr_er
  · rw [if_neg hc, if_neg (fun x => hc (he.1 x))]
    exact put_sim ht (by rw [show ks' = _ from hks]; rfl)
theorem body_sim {s s' : S} (h : SR R ns0 s s') : PR R ns0 (AN ns0.length) (bodyM nest s) (bodyM nest s') :=
  pr_bd (need_sim hR h (by decide)) fun _ _ t t' _ ht => pr_bd (list_sim hR hn hs false ht) fun k k' u u' hk hu => pr_bd (need_sim hR hu (by decide)) fun _ _ v v' _ hv => pr_ok hk hv
theorem group_sim {s s' : S} (ln ln' : Nat) (h : SR R ns0 s s') (h3 : (nx s).k ≠ 3) : PR R ns0 (ND ns0.length) (groupM nest ln s) (groupM nest ln' s') :=
  pr_bd (list_sim hR hn hs false (h.tk hR h3)) fun k k' u u' hk hu => pr_bd (need_sim hR hu (by decide)) fun _ _ v v' _ hv => pr_ok (by rw [show k' = _ from hk]; rfl) hv
theorem sub_sim {s s' : S} (ln ln' : Nat) (h : SR R ns0 s s') (h3 : (nx s).k ≠ 3) : PR R ns0 (ND ns0.length) (subM nest ln s) (subM nest ln' s') :=
  pr_bd (list_sim hR hn hs false (h.tk hR h3)) fun k k' u u' hk hu => pr_bd (need_sim hR hu (by decide)) fun _ _ v v' _ hv => pr_ok (by rw [show k' = _ from hk]; rfl) hv
theorem asks_sim : ∀ (n : Nat) (s s' : S) (ln ln' : Nat), s.2.length ≤ n → SR R ns0 s s' → (nx s).k ≠ 3 → (nx s).k ≠ 4 → PR R ns0 (ND ns0.length) (asksM nest ln s) (asksM nest ln' s') := by
  intro n
  induction n with
  | zero =>
    intro s s' ln ln' hl h h3 h4
    have := tk_lt h4
    omega
  | succ n ih =>
    intro s s' ln ln' hl h h3 h4
    rw [asksM_eq hn ln s h4, asksM_eq hn ln' s' (by rw [h.k hR]; exact h4)]
    have w0 := tk_lt h4
    have hp := list_sim hR hn hs false (h.tk hR h3)
    cases he : listM nest false (tk s) with
    | error e => cases he' : listM nest false (tk s') with
      | error e' => rw [he, he'] at hp; exact hp
      | ok y' => rw [he, he'] at hp; exact hp.elim
    | ok y => cases he' : listM nest false (tk s') with
      | error e' => rw [he, he'] at hp; exact hp.elim
      | ok y' =>
        rw [he, he'] at hp
        have w1 := list_weak hn false _ y he
        obtain ⟨c, t⟩ := y
        obtain ⟨c', t'⟩ := y'
        obtain ⟨hc, ht⟩ := hp
        simp only [bd_ok]
        simp only at hc ht w1
        have hp := need_sim hR (k := 1) (ts := [[116, 104, 101, 110]]) ht (by decide)
        cases he : needM 1 [[116, 104, 101, 110]] t with
        | error e => cases he' : needM 1 [[116, 104, 101, 110]] t' with
          | error e' => rw [he, he'] at hp; exact hp
          | ok y' => rw [he, he'] at hp; exact hp.elim
        | ok y => cases he' : needM 1 [[116, 104, 101, 110]] t' with
          | error e' => rw [he, he'] at hp; exact hp.elim
          | ok y' =>
            rw [he, he'] at hp
            have w2 := need_weak y he
            obtain ⟨_, u⟩ := y
            obtain ⟨_, u'⟩ := y'
            obtain ⟨_, hu⟩ := hp
            simp only [bd_ok]
            simp only at hu w2
            have hp := list_sim hR hn hs false hu
            cases he : listM nest false u with
            | error e => cases he' : listM nest false u' with
              | error e' => rw [he, he'] at hp; exact hp
              | ok y' => rw [he, he'] at hp; exact hp.elim
            | ok y => cases he' : listM nest false u' with
              | error e' => rw [he, he'] at hp; exact hp.elim
              | ok y' =>
                rw [he, he'] at hp
                have w3 := list_weak hn false _ y he
                obtain ⟨b, v⟩ := y
                obtain ⟨b', v'⟩ := y'
                obtain ⟨hb, hv⟩ := hp
                simp only [bd_ok]
                simp only at hb hv w3
                rw [hv.isM hR, hv.isM hR]
                split
                · rename_i hi
                  have i3 : (nx v).k ≠ 3 := by rw [isM_k hi]; decide
                  have i4 : (nx v).k ≠ 4 := by rw [isM_k hi]; decide
                  exact pr_bd (ih v v' _ _ (by omega) hv i3 i4) fun x x' w w' hx hw => pr_bd (put_sim hw hx) fun k k' z z' hk hz => pr_ok (by rw [show c' = _ from hc, show b' = _ from hb, show k' = _ from hk]; rfl) hz
                · split
                  · rename_i hi
                    exact pr_bd (list_sim hR hn hs false (hv.tk hR (by rw [isM_k hi]; decide))) fun k k' w w' hk hw => pr_bd (need_sim hR hw (by decide)) fun _ _ z z' _ hz => pr_ok (by rw [show c' = _ from hc, show b' = _ from hb, show k' = _ from hk]; rfl) hz
                  · exact pr_bd (need_sim hR hv (by decide)) fun _ _ z z' _ hz => pr_ok (by rw [show c' = _ from hc, show b' = _ from hb]; rfl) hz
theorem whil_sim {s s' : S} (ln ln' : Nat) (h : SR R ns0 s s') (h3 : (nx s).k ≠ 3) : PR R ns0 (ND ns0.length) (whilM nest ln s) (whilM nest ln' s') :=
  pr_bd (list_sim hR hn hs false (h.tk hR h3)) fun c c' u u' hc hu => pr_bd (body_sim hR hn hs hu) fun b b' v v' hb hv => pr_ok (by rw [show c' = _ from hc, show b' = _ from hb, h.t hR]; rfl) hv
theorem each_sim {s s' : S} (ln ln' : Nat) (h : SR R ns0 s s') (h3 : (nx s).k ≠ 3) : PR R ns0 (ND ns0.length) (eachM nest ln s) (eachM nest ln' s') := by
  unfold eachM
  simp only
  have h1 := h.tk hR h3
  rw [h1.t hR]
  split
  · exact pr_er
  · refine pr_bd (raw_sim hR h1) fun t t' u u' ht hu => ?_
    rw [hu.isM hR, (hu.lns hR).isM hR]
    split
    · exact pr_bd (body_sim hR hn hs (hu.over hR)) fun b b' v v' hb hv => pr_ok (by rw [show b' = _ from hb, show t' = _ from ht]; rfl) hv
    · split
      · rename_i hi
        refine pr_bd (while_sim (A := AE) wrd_takes wrd_ne (fun s s' h => by unfold wrdB; rw [h.k hR]) (fun a a' s s' hA h hc => pr_bd (raw_sim hR h) fun x x' t t' hx ht => pr_ok (by rw [hA, hx]) ht) rfl ((hu.lns hR).tk hR (by rw [isM_k hi]; decide))) fun ws ws' v v' hw hv => ?_
        rw [hv.isM hR, hv.k hR]
        split
        · exact pr_er
        · exact pr_bd (body_sim hR hn hs (hv.over hR)) fun b b' z z' hb hz => pr_ok (by rw [show b' = _ from hb, show t' = _ from ht, show ws' = _ from hw]; rfl) hz
      · exact pr_bd (body_sim hR hn hs (hu.lns hR)) fun b b' v v' hb hv => pr_ok (by rw [show b' = _ from hb, show t' = _ from ht]; rfl) hv
theorem item_sim {s s' : S} (h : SR R ns0 s s') : PR R ns0 (AN ns0.length) (itemM nest s) (itemM nest s') := by
  unfold itemM
  rw [h.isM hR]
  have h1 : SR R ns0 (if isM 2 [[40]] s = true then tk s else s) (if isM 2 [[40]] s = true then tk s' else s') := by
    split
    · rename_i hi
      exact h.tk hR (by rw [isM_k hi]; decide)
    · exact h
  refine pr_bd (raw_sim hR h1) fun w w' t t' hw ht => pr_bd (while_sim (A := AE) alt_takes alt_ne (fun s s' h => h.isM hR _ _) ?_ (by rw [hw]) ht) fun ws ws' u u' hws hu => pr_bd (need_sim hR hu (by decide)) fun _ _ v v' _ hv => pr_bd (list_sim hR hn hs true hv) fun k k' z z' hk hz => put_sim hz (by rw [show ws' = _ from hws, show k' = _ from hk]; rfl)
  intro a a' s s' hA h hc
  exact pr_bd (raw_sim hR (h.tk hR (by rw [isM_k hc]; decide))) fun x x' t t' hx ht => pr_ok (by rw [hA, hx]) ht
theorem items_sim : ∀ (n : Nat) (ks ks' : List Nat) (s s' : S), s.2.length ≤ n → ks' = ks.map (· + ns0.length) → SR R ns0 s s' → PR R ns0 (AL ns0.length) (itemsM nest ks s) (itemsM nest ks' s') := by
  intro n
  induction n with
  | zero =>
    intro ks ks' s s' hl hA h
    rw [itemsM_eq hn, itemsM_eq hn, h.isM hR]
    split
    · exact ⟨hA, h⟩
    · have hp := item_sim hR hn hs h
      cases he : itemM nest s with
      | error e => cases he' : itemM nest s' with
        | error e' => rw [he, he'] at hp; exact hp
        | ok y' => rw [he, he'] at hp; exact hp.elim
      | ok y => cases he' : itemM nest s' with
        | error e' => rw [he, he'] at hp; exact hp.elim
        | ok y' =>
          rw [he, he'] at hp
          have w1 := item_weak hn _ y he
          obtain ⟨k, t⟩ := y
          obtain ⟨k', t'⟩ := y'
          obtain ⟨hk, ht⟩ := hp
          simp only [bd_ok]
          simp only at hk ht w1
          have hks : ks' ++ [k'] = (ks ++ [k]).map (· + ns0.length) := by rw [hA, hk, List.map_append]; rfl
          rw [ht.isM hR]
          split
          · rename_i hi
            have := isM_lt hi (by decide)
            omega
          · exact ⟨hks, ht⟩
  | succ n ih =>
    intro ks ks' s s' hl hA h
    rw [itemsM_eq hn, itemsM_eq hn, h.isM hR]
    split
    · exact ⟨hA, h⟩
    · have hp := item_sim hR hn hs h
      cases he : itemM nest s with
      | error e => cases he' : itemM nest s' with
        | error e' => rw [he, he'] at hp; exact hp
        | ok y' => rw [he, he'] at hp; exact hp.elim
      | ok y => cases he' : itemM nest s' with
        | error e' => rw [he, he'] at hp; exact hp.elim
        | ok y' =>
          rw [he, he'] at hp
          have w1 := item_weak hn _ y he
          obtain ⟨k, t⟩ := y
          obtain ⟨k', t'⟩ := y'
          obtain ⟨hk, ht⟩ := hp
          simp only [bd_ok]
          simp only at hk ht w1
          have hks : ks' ++ [k'] = (ks ++ [k]).map (· + ns0.length) := by rw [hA, hk, List.map_append]; rfl
          rw [ht.isM hR]
          split
          · rename_i hi
            have := isM_lt hi (by decide)
            have := lns_le (tk t)
            exact ih _ _ _ _ (by omega) hks (ht.over hR)
          · exact ⟨hks, ht⟩
theorem cases_sim {s s' : S} (ln ln' : Nat) (h : SR R ns0 s s') (h3 : (nx s).k ≠ 3) : PR R ns0 (ND ns0.length) (casesM nest ln s) (casesM nest ln' s') :=
  pr_bd (raw_sim hR (h.tk hR h3)) fun t t' u u' ht hu => pr_bd (need_sim hR (hu.lns hR) (by decide)) fun _ _ v v' _ hv => pr_bd (items_sim hR hn hs _ _ _ _ _ (Nat.le_refl _) rfl (hv.lns hR)) fun ks ks' w w' hks hw => pr_bd (need_sim hR hw (by decide)) fun _ _ x x' _ hx => pr_ok (by rw [show ks' = _ from hks, show t' = _ from ht]; rfl) hx
omit hn in
theorem func_sim {s s' : S} (ln ln' : Nat) (h : SR R ns0 s s') : PR R ns0 (ND ns0.length) (funcM nest ln s) (funcM nest ln' s') := by
  unfold funcM
  refine pr_bd (raw_sim hR h) fun t t' u u' ht hu => pr_bd (need_sim hR hu (by decide)) fun _ _ v v' _ hv => pr_bd (need_sim hR hv (by decide)) fun _ _ w w' _ hw => ?_
  simp only
  rw [(hw.lns hR).isComp hR]
  split
  · exact pr_er
  · exact pr_bd (hs _ _ (hw.lns hR)) fun k k' z z' hk hz => pr_ok (by rw [show k' = _ from hk, show t' = _ from ht]; rfl) hz
theorem comp_sim {s s' : S} (ln ln' : Nat) (h : SR R ns0 s s') (h3 : (nx s).k ≠ 3) (h4 : (nx s).k ≠ 4) : PR R ns0 (ND ns0.length) (compM nest ln s) (compM nest ln' s') := by
  unfold compM
  rw [h.isM hR, h.t hR]
  split
  · exact sub_sim hR hn hs ln ln' h h3
  · split
    · exact group_sim hR hn hs ln ln' h h3
    · split
      · exact asks_sim hR hn hs _ s s' ln ln' (Nat.le_refl _) h h3 h4
      · split
        · exact each_sim hR hn hs ln ln' h h3
        · split
          · exact cases_sim hR hn hs ln ln' h h3
          · exact whil_sim hR hn hs ln ln' h h3
end
section
variable {R : List Tok → List Tok → Prop} {ns0 : List Nd} (hR : TokRel R)
theorem comp_kind {s : S} (h : isComp s = true) : (nx s).k = 1 ∨ (nx s).k = 2 := by
  unfold isComp at h
  rcases Bool.or_eq_true _ _ ▸ h with h | h
  · exact .inr (isM_k h)
  · exact .inl (of_decide_eq_true (Bool.and_eq_true _ _ ▸ h).2)
include hR
theorem nest_sim : ∀ (n : Nat) (s s' : S), SR R ns0 s s' → PR R ns0 (AN ns0.length) (nestD n s) (nestD n s')
  | 0, s, s', h => pr_er
  | n + 1, s, s', h => by
    unfold nestD
    rw [h.isComp hR]
    split
    · rename_i hc
      have hk := comp_kind hc
      exact pr_bd (comp_sim hR (nest_weak n) (nest_sim n) _ _ h (by omega) (by omega)) fun x x' t t' hx ht => pr_bd (redirs_sim hR ht) fun rs rs' u u' hrs hu => put_sim hu (by rw [show rs' = _ from hrs]; exact nd_of hx rs)
    · exact pr_bd (func_sim hR (nest_sim n) _ _ h) fun x x' t t' hx ht => put_sim ht hx
end
end Go.Proofs.YtknncfoaegmphaaGreatDoor.Sy
set_option linter.unusedVariables false
set_option linter.unusedSimpArgs false
set_option maxRecDepth 100000
namespace Go.Proofs.YtknncfoaegmphaaGreatDoor.Sy
open Lx
end Go.Proofs.YtknncfoaegmphaaGreatDoor.Sy
