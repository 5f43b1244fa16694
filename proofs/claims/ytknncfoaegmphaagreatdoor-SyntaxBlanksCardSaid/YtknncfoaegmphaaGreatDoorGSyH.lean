/-
  Syntax: tokens that are alike give trees that are alike, for every part of the grammar. No program stands here. Conditions: as each law says.
  Syntax: more blanks, notes and newlines change nothing but lines, as a plain law. No program stands here. Conditions: as each law says.
-/
import Derived.Test.YtknncfoaegmphaaGreatDoorGSyA
import Derived.Test.YtknncfoaegmphaaGreatDoorLxShort
/-! SySim2 -/
set_option linter.unusedVariables false
set_option linter.unusedSimpArgs false
namespace Go.Proofs.YtknncfoaegmphaaGreatDoor.Sy
open Lx
section
variable {R : List Tok → List Tok → Prop} {ns0 : List Nd} (hR : TokRel R)
theorem nd_of {n : Nat} {x y : Nd} (h : ndE n x y) (rs : List Rdr) : ndE n { x with rs := rs } { y with rs := rs } := by
  unfold ndE bare sh at h ⊢
  have h1 := congrArg Nd.k h
  have h2 := congrArg Nd.t h
  have h3 := congrArg Nd.fl h
  have h4 := congrArg Nd.ws h
  have h5 := congrArg Nd.st h
  have h6 := congrArg Nd.ks h
  simp only at h1 h2 h3 h4 h5 h6
  simp only [h1, h2, h3, h4, h5, h6]
include hR
theorem redirs_sim {s s' : S} (h : SR R ns0 s s') : PR R ns0 AE (redirsM s) (redirsM s') :=
  while_sim redirs_takes redirs_ne (fun s s' h => h.redirects hR) (fun a a' s s' hA h hc => pr_bd (redir_sim hR h hc) fun x x' t t' hx ht => pr_ok (by rw [hA, hx]) ht) rfl h
theorem simple_sim {s s' : S} (h : SR R ns0 s s') : PR R ns0 (AN ns0.length) (simpleM s) (simpleM s') := by
  unfold simpleM
  refine pr_bd (while_sim (A := fun x y : Nd => x.ks = [] ∧ ∃ ln, y = { x with ln := ln }) sim_takes sim_ne ?_ ?_ ⟨rfl, _, rfl⟩ h) fun a a' t t' ha ht => put_sim ht ?_
  · intro s s' h
    unfold simB
    rw [h.redirects hR, h.k hR]
  · intro a a' s s' hA h hc
    obtain ⟨hk, ln, rfl⟩ := hA
    show PR R ns0 _ (simT a s) (simT _ s')
    unfold simT
    rw [h.redirects hR]
    split
    · rename_i hr
      exact pr_bd (redir_sim hR h hr) fun x x' t t' hx ht => pr_ok ⟨hk, ln, by rw [hx]⟩ ht
    · exact pr_bd (raw_sim hR h) fun x x' t t' hx ht => pr_ok ⟨hk, ln, by rw [hx]; rfl⟩ ht
  · obtain ⟨hk, ln, rfl⟩ := ha
    unfold ndE bare sh
    rw [hk]
    rfl
end
section
variable {R : List Tok → List Tok → Prop} {ns0 : List Nd} (hR : TokRel R) {nest : S → P Nat} (hn : ∀ s, Weak s (nest s)) (hs : ∀ s s', SR R ns0 s s' → PR R ns0 (AN ns0.length) (nest s) (nest s'))
include hR hs
theorem cmd_sim {s s' : S} (h : SR R ns0 s s') : PR R ns0 (AN ns0.length) (cmdM nest s) (cmdM nest s') := by
  unfold cmdM
  rw [h.begins hR, h.isM hR, h.isComp hR, h.names hR]
  split
  · exact pr_er
  · split
    · exact simple_sim hR h
    · exact hs _ _ h
include hn
theorem pipe_sim {s s' : S} (h : SR R ns0 s s') : PR R ns0 (AN ns0.length) (pipeM nest s) (pipeM nest s') := by
  unfold pipeM
  simp only
  rw [h.isM hR]
  have h1 : SR R ns0 (if isM 1 [[33]] s = true then tk s else s) (if isM 1 [[33]] s = true then tk s' else s') := by
    split
    · rename_i hi
      exact h.tk hR (by rw [isM_k hi]; decide)
    · exact h
  refine pr_bd (cmd_sim hR hs h1) fun k k' t t' hk ht => pr_bd (while_sim (A := AL ns0.length) (pip_takes hn) alt_ne (fun s s' h => h.isM hR _ _) ?_ (by show [k'] = [k + ns0.length]; rw [hk]) ht) fun ks ks' u u' hks hu => ?_
  · intro a a' s s' hA h hc
    exact pr_bd (cmd_sim hR hs (h.over hR)) fun k k' t t' hk ht => pr_ok (by show a' ++ [k'] = _; rw [hA, hk, List.map_append]; rfl) ht
  · have hl : ks'.length = ks.length := by rw [hks, List.length_map]
    rw [hl]
    split
    · exact pr_ok hk hu
    · exact put_sim hu (by rw [show ks' = _ from hks]; rfl)
theorem andor_sim {s s' : S} (h : SR R ns0 s s') : PR R ns0 (AN ns0.length) (andorM nest s) (andorM nest s') := by
  unfold andorM
  refine pr_bd (pipe_sim hR hn hs h) fun k k' t t' hk ht => ?_
  have hT := ao_takes hn (nx s).ln
  have hT' := ao_takes hn (nx s').ln
  have key : ∀ (f f' : Nat) (a a' : Nat) (t t' : S), t.2.length ≤ f → t'.2.length ≤ f' → a' = a + ns0.length → SR R ns0 t t' → PR R ns0 (AN ns0.length) (loopP (isM 2 [[38, 38], [124, 124]]) (aoT nest (nx s).ln) f a t) (loopP (isM 2 [[38, 38], [124, 124]]) (aoT nest (nx s').ln) f' a' t') := by
    intro f
    induction f with
    | zero =>
      intro f' a a' t t' hf hf' hA ht
      have e1 : isM 2 [[38, 38], [124, 124]] t = false := by
        cases hi : isM 2 [[38, 38], [124, 124]] t with
        | false => rfl
        | true => have := isM_lt hi (by decide); omega
      have e2 : isM 2 [[38, 38], [124, 124]] t' = false := by rw [ht.isM hR]; exact e1
      have k2 : loopP (isM 2 [[38, 38], [124, 124]]) (aoT nest (nx s').ln) f' a' t' = .ok (a', t') := by cases f' with
        | zero => rfl
        | succ f' => rw [loopP, e2]; rfl
      rw [k2]
      exact ⟨hA, ht⟩
    | succ f ih =>
      intro f' a a' t t' hf hf' hA ht
      cases hi : isM 2 [[38, 38], [124, 124]] t with
      | false =>
        have e2 : isM 2 [[38, 38], [124, 124]] t' = false := by rw [ht.isM hR]; exact hi
        have k2 : loopP (isM 2 [[38, 38], [124, 124]]) (aoT nest (nx s').ln) f' a' t' = .ok (a', t') := by cases f' with
          | zero => rfl
          | succ f' => rw [loopP, e2]; rfl
        rw [k2, loopP, hi]
        exact ⟨hA, ht⟩
      | true =>
        have e2 : isM 2 [[38, 38], [124, 124]] t' = true := by rw [ht.isM hR]; exact hi
        cases f' with
        | zero => have := isM_lt e2 (by decide); omega
        | succ f' =>
          rw [loopP, loopP, hi, e2, if_pos rfl, if_pos rfl]
          have hp : PR R ns0 (AN ns0.length) (aoT nest (nx s).ln a t) (aoT nest (nx s').ln a' t') :=
            pr_bd (pipe_sim hR hn hs (ht.over hR)) fun k k' u u' hk hu => put_sim hu (by rw [ht.t hR, hA, show k' = _ from hk]; rfl)
          cases he : aoT nest (nx s).ln a t with
          | error e => cases he' : aoT nest (nx s').ln a' t' with
            | error e' => rw [he, he'] at hp; exact hp
            | ok y' => rw [he, he'] at hp; exact hp.elim
          | ok y => cases he' : aoT nest (nx s').ln a' t' with
            | error e' => rw [he, he'] at hp; exact hp.elim
            | ok y' =>
              rw [he, he'] at hp
              have l1 := hT a t y hi he
              have l2 := hT' a' t' y' e2 he'
              exact ih f' _ _ _ _ (by omega) (by omega) hp.1 hp.2
  exact key _ _ _ _ _ _ (Nat.le_refl _) (Nat.le_refl _) hk ht
theorem listF_sim : ∀ (f f' : Nat) (ks ks' : List Nat) (s s' : S), s.2.length ≤ f → s'.2.length ≤ f' → ks' = ks.map (· + ns0.length) → SR R ns0 s s' → PR R ns0 (AL ns0.length) (listF nest f ks s) (listF nest f' ks' s') := by
  intro f
  have stop : ∀ (f : Nat) (ks : List Nat) (s : S), begins s = false → listF nest f ks s = .ok (ks, s) := fun f ks s hb => by
    cases f with
    | zero => rfl
    | succ f => rw [listF, if_neg (by rw [hb]; decide)]
  induction f with
  | zero =>
    intro f' ks ks' s s' hf hf' hA h
    have e1 : begins s = false := by
      cases hb : begins s with
      | false => rfl
      | true => have := tk_lt (begins_ne hb); omega
    rw [stop _ _ s e1, stop _ _ s' (by rw [h.begins hR]; exact e1)]
    exact ⟨hA, h⟩
  | succ f ih =>
    intro f' ks ks' s s' hf hf' hA h
    cases hb : begins s with
    | false =>
      rw [stop _ _ s hb, stop _ _ s' (by rw [h.begins hR]; exact hb)]
      exact ⟨hA, h⟩
    | true =>
      have hb' : begins s' = true := by rw [h.begins hR]; exact hb
      cases f' with
      | zero => have := tk_lt (begins_ne hb'); omega
      | succ f' =>
        rw [listF, listF, if_pos hb, if_pos hb']
        have hp := andor_sim hR hn hs h
        cases he : andorM nest s with
        | error e => cases he' : andorM nest s' with
          | error e' => rw [he, he'] at hp; exact hp
          | ok y' => rw [he, he'] at hp; exact hp.elim
        | ok y => cases he' : andorM nest s' with
          | error e' => rw [he, he'] at hp; exact hp.elim
          | ok y' =>
            rw [he, he'] at hp
            have l1 := andor_weak hn s y he
            have l2 := andor_weak hn s' y' he'
            obtain ⟨k, t⟩ := y
            obtain ⟨k', t'⟩ := y'
            obtain ⟨hk, ht⟩ := hp
            simp only [bd_ok]
            simp only at hk ht l1 l2
            have hks : ks' ++ [k'] = (ks ++ [k]).map (· + ns0.length) := by rw [hA, hk, List.map_append]; rfl
            rw [ht.isM hR, ht.k hR]
            split
            · exact ⟨hks, ht⟩
            · rename_i hc
              have h4 : (nx t).k ≠ 4 := fun e => hc ⟨by
                cases hi : isM 2 [[59]] t with
                | false => rfl
                | true => have := isM_k hi; omega, by omega⟩
              have h4' : (nx t').k ≠ 4 := by rw [ht.k hR]; exact h4
              have m1 := tk_lt h4
              have m2 := tk_lt h4'
              have m3 := lns_le (tk t)
              have m4 := lns_le (tk t')
              exact ih f' _ _ _ _ (by omega) (by omega) hks (ht.over hR)
theorem list_sim {s s' : S} (em : Bool) (h : SR R ns0 s s') : PR R ns0 (AN ns0.length) (listM nest em s) (listM nest em s') := by
  unfold listM
  refine pr_bd (listF_sim hR hn hs _ _ _ _ _ _ (lns_le s) (lns_le s') rfl (h.lns hR)) fun ks ks' t t' hks ht => ?_
  have he : (ks' = [] ∧ em = false) ↔ (ks = [] ∧ em = false) := by rw [show ks' = _ from hks, List.map_eq_nil_iff]
  by_cases hc : ks = [] ∧ em = false
  · rw [if_pos hc, if_pos (he.2 hc)]; exact pr_er
  · rw [if_neg hc, if_neg (fun x => hc (he.1 x))]
    exact put_sim ht (by rw [show ks' = _ from hks]; rfl)
theorem body_sim {s s' : S} (h : SR R ns0 s s') : PR R ns0 (AN ns0.length) (bodyM nest s) (bodyM nest s') :=
  pr_bd (need_sim hR h (by decide)) fun _ _ t t' _ ht => pr_bd (list_sim hR hn hs false ht) fun k k' u u' hk hu => pr_bd (need_sim hR hu (by decide)) fun _ _ v v' _ hv => pr_ok hk hv
theorem group_sim {s s' : S} (ln ln' : Nat) (h : SR R ns0 s s') (h3 : (nx s).k ≠ 3) : PR R ns0 (ND ns0.length) (groupM nest ln s) (groupM nest ln' s') :=
  pr_bd (list_sim hR hn hs false (h.tk hR h3)) fun k k' u u' hk hu => pr_bd (need_sim hR hu (by decide)) fun _ _ v v' _ hv => pr_ok (by rw [show k' = _ from hk]; rfl) hv
theorem sub_sim {s s' : S} (ln ln' : Nat) (h : SR R ns0 s s') (h3 : (nx s).k ≠ 3) : PR R ns0 (ND ns0.length) (subM nest ln s) (subM nest ln' s') :=
  pr_bd (list_sim hR hn hs false (h.tk hR h3)) fun k k' u u' hk hu => pr_bd (need_sim hR hu (by decide)) fun _ _ v v' _ hv => pr_ok (by rw [show k' = _ from hk]; rfl) hv
theorem asks_sim : ∀ (n : Nat) (s s' : S) (ln ln' : Nat), s.2.length ≤ n → SR R ns0 s s' → (nx s).k ≠ 3 → (nx s).k ≠ 4 → PR R ns0 (ND ns0.length) (asksM nest ln s) (asksM nest ln' s') := by
  intro n
  induction n with
  | zero =>
    intro s s' ln ln' hl h h3 h4
    have := tk_lt h4
    omega
  | succ n ih =>
    intro s s' ln ln' hl h h3 h4
    rw [asksM_eq hn ln s h4, asksM_eq hn ln' s' (by rw [h.k hR]; exact h4)]
    have w0 := tk_lt h4
    have hp := list_sim hR hn hs false (h.tk hR h3)
    cases he : listM nest false (tk s) with
    | error e => cases he' : listM nest false (tk s') with
      | error e' => rw [he, he'] at hp; exact hp
      | ok y' => rw [he, he'] at hp; exact hp.elim
    | ok y => cases he' : listM nest false (tk s') with
      | error e' => rw [he, he'] at hp; exact hp.elim
      | ok y' =>
        rw [he, he'] at hp
        have w1 := list_weak hn false _ y he
        obtain ⟨c, t⟩ := y
        obtain ⟨c', t'⟩ := y'
        obtain ⟨hc, ht⟩ := hp
        simp only [bd_ok]
        simp only at hc ht w1
        have hp := need_sim hR (k := 1) (ts := [[116, 104, 101, 110]]) ht (by decide)
        cases he : needM 1 [[116, 104, 101, 110]] t with
        | error e => cases he' : needM 1 [[116, 104, 101, 110]] t' with
          | error e' => rw [he, he'] at hp; exact hp
          | ok y' => rw [he, he'] at hp; exact hp.elim
        | ok y => cases he' : needM 1 [[116, 104, 101, 110]] t' with
          | error e' => rw [he, he'] at hp; exact hp.elim
          | ok y' =>
            rw [he, he'] at hp
            have w2 := need_weak y he
            obtain ⟨_, u⟩ := y
            obtain ⟨_, u'⟩ := y'
            obtain ⟨_, hu⟩ := hp
            simp only [bd_ok]
            simp only at hu w2
            have hp := list_sim hR hn hs false hu
            cases he : listM nest false u with
            | error e => cases he' : listM nest false u' with
              | error e' => rw [he, he'] at hp; exact hp
              | ok y' => rw [he, he'] at hp; exact hp.elim
            | ok y => cases he' : listM nest false u' with
              | error e' => rw [he, he'] at hp; exact hp.elim
              | ok y' =>
                rw [he, he'] at hp
                have w3 := list_weak hn false _ y he
                obtain ⟨b, v⟩ := y
                obtain ⟨b', v'⟩ := y'
                obtain ⟨hb, hv⟩ := hp
                simp only [bd_ok]
                simp only at hb hv w3
                rw [hv.isM hR, hv.isM hR]
                split
                · rename_i hi
                  have i3 : (nx v).k ≠ 3 := by rw [isM_k hi]; decide
                  have i4 : (nx v).k ≠ 4 := by rw [isM_k hi]; decide
                  exact pr_bd (ih v v' _ _ (by omega) hv i3 i4) fun x x' w w' hx hw => pr_bd (put_sim hw hx) fun k k' z z' hk hz => pr_ok (by rw [show c' = _ from hc, show b' = _ from hb, show k' = _ from hk]; rfl) hz
                · split
                  · rename_i hi
                    exact pr_bd (list_sim hR hn hs false (hv.tk hR (by rw [isM_k hi]; decide))) fun k k' w w' hk hw => pr_bd (need_sim hR hw (by decide)) fun _ _ z z' _ hz => pr_ok (by rw [show c' = _ from hc, show b' = _ from hb, show k' = _ from hk]; rfl) hz
                  · exact pr_bd (need_sim hR hv (by decide)) fun _ _ z z' _ hz => pr_ok (by rw [show c' = _ from hc, show b' = _ from hb]; rfl) hz
theorem whil_sim {s s' : S} (ln ln' : Nat) (h : SR R ns0 s s') (h3 : (nx s).k ≠ 3) : PR R ns0 (ND ns0.length) (whilM nest ln s) (whilM nest ln' s') :=
  pr_bd (list_sim hR hn hs false (h.tk hR h3)) fun c c' u u' hc hu => pr_bd (body_sim hR hn hs hu) fun b b' v v' hb hv => pr_ok (by rw [show c' = _ from hc, show b' = _ from hb, h.t hR]; rfl) hv
theorem each_sim {s s' : S} (ln ln' : Nat) (h : SR R ns0 s s') (h3 : (nx s).k ≠ 3) : PR R ns0 (ND ns0.length) (eachM nest ln s) (eachM nest ln' s') := by
  unfold eachM
  simp only
  have h1 := h.tk hR h3
  rw [h1.t hR]
  split
  · exact pr_er
  · refine pr_bd (raw_sim hR h1) fun t t' u u' ht hu => ?_
    rw [hu.isM hR, (hu.lns hR).isM hR]
    split
    · exact pr_bd (body_sim hR hn hs (hu.over hR)) fun b b' v v' hb hv => pr_ok (by rw [show b' = _ from hb, show t' = _ from ht]; rfl) hv
    · split
      · rename_i hi
        refine pr_bd (while_sim (A := AE) wrd_takes wrd_ne (fun s s' h => by unfold wrdB; rw [h.k hR]) (fun a a' s s' hA h hc => pr_bd (raw_sim hR h) fun x x' t t' hx ht => pr_ok (by rw [hA, hx]) ht) rfl ((hu.lns hR).tk hR (by rw [isM_k hi]; decide))) fun ws ws' v v' hw hv => ?_
        rw [hv.isM hR, hv.k hR]
        split
        · exact pr_er
        · exact pr_bd (body_sim hR hn hs (hv.over hR)) fun b b' z z' hb hz => pr_ok (by rw [show b' = _ from hb, show t' = _ from ht, show ws' = _ from hw]; rfl) hz
      · exact pr_bd (body_sim hR hn hs (hu.lns hR)) fun b b' v v' hb hv => pr_ok (by rw [show b' = _ from hb, show t' = _ from ht]; rfl) hv
theorem item_sim {s s' : S} (h : SR R ns0 s s') : PR R ns0 (AN ns0.length) (itemM nest s) (itemM nest s') := by
  unfold itemM
  rw [h.isM hR]
  have h1 : SR R ns0 (if isM 2 [[40]] s = true then tk s else s) (if isM 2 [[40]] s = true then tk s' else s') := by
    split
    · rename_i hi
      exact h.tk hR (by rw [isM_k hi]; decide)
    · exact h
  refine pr_bd (raw_sim hR h1) fun w w' t t' hw ht => pr_bd (while_sim (A := AE) alt_takes alt_ne (fun s s' h => h.isM hR _ _) ?_ (by rw [hw]) ht) fun ws ws' u u' hws hu => pr_bd (need_sim hR hu (by decide)) fun _ _ v v' _ hv => pr_bd (list_sim hR hn hs true hv) fun k k' z z' hk hz => put_sim hz (by rw [show ws' = _ from hws, show k' = _ from hk]; rfl)
  intro a a' s s' hA h hc
  exact pr_bd (raw_sim hR (h.tk hR (by rw [isM_k hc]; decide))) fun x x' t t' hx ht => pr_ok (by rw [hA, hx]) ht
theorem items_sim : ∀ (n : Nat) (ks ks' : List Nat) (s s' : S), s.2.length ≤ n → ks' = ks.map (· + ns0.length) → SR R ns0 s s' → PR R ns0 (AL ns0.length) (itemsM nest ks s) (itemsM nest ks' s') := by
  intro n
  induction n with
  | zero =>
    intro ks ks' s s' hl hA h
    rw [itemsM_eq hn, itemsM_eq hn, h.isM hR]
    split
    · exact ⟨hA, h⟩
    · have hp := item_sim hR hn hs h
      cases he : itemM nest s with
      | error e => cases he' : itemM nest s' with
        | error e' => rw [he, he'] at hp; exact hp
        | ok y' => rw [he, he'] at hp; exact hp.elim
      | ok y => cases he' : itemM nest s' with
        | error e' => rw [he, he'] at hp; exact hp.elim
        | ok y' =>
          rw [he, he'] at hp
          have w1 := item_weak hn _ y he
          obtain ⟨k, t⟩ := y
          obtain ⟨k', t'⟩ := y'
          obtain ⟨hk, ht⟩ := hp
          simp only [bd_ok]
          simp only at hk ht w1
          have hks : ks' ++ [k'] = (ks ++ [k]).map (· + ns0.length) := by rw [hA, hk, List.map_append]; rfl
          rw [ht.isM hR]
          split
          · rename_i hi
            have := isM_lt hi (by decide)
            omega
          · exact ⟨hks, ht⟩
  | succ n ih =>
    intro ks ks' s s' hl hA h
    rw [itemsM_eq hn, itemsM_eq hn, h.isM hR]
    split
    · exact ⟨hA, h⟩
    · have hp := item_sim hR hn hs h
      cases he : itemM nest s with
      | error e => cases he' : itemM nest s' with
        | error e' => rw [he, he'] at hp; exact hp
        | ok y' => rw [he, he'] at hp; exact hp.elim
      | ok y => cases he' : itemM nest s' with
        | error e' => rw [he, he'] at hp; exact hp.elim
        | ok y' =>
          rw [he, he'] at hp
          have w1 := item_weak hn _ y he
          obtain ⟨k, t⟩ := y
          obtain ⟨k', t'⟩ := y'
          obtain ⟨hk, ht⟩ := hp
          simp only [bd_ok]
          simp only at hk ht w1
          have hks : ks' ++ [k'] = (ks ++ [k]).map (· + ns0.length) := by rw [hA, hk, List.map_append]; rfl
          rw [ht.isM hR]
          split
          · rename_i hi
            have := isM_lt hi (by decide)
            have := lns_le (tk t)
            exact ih _ _ _ _ (by omega) hks (ht.over hR)
          · exact ⟨hks, ht⟩
theorem cases_sim {s s' : S} (ln ln' : Nat) (h : SR R ns0 s s') (h3 : (nx s).k ≠ 3) : PR R ns0 (ND ns0.length) (casesM nest ln s) (casesM nest ln' s') :=
  pr_bd (raw_sim hR (h.tk hR h3)) fun t t' u u' ht hu => pr_bd (need_sim hR (hu.lns hR) (by decide)) fun _ _ v v' _ hv => pr_bd (items_sim hR hn hs _ _ _ _ _ (Nat.le_refl _) rfl (hv.lns hR)) fun ks ks' w w' hks hw => pr_bd (need_sim hR hw (by decide)) fun _ _ x x' _ hx => pr_ok (by rw [show ks' = _ from hks, show t' = _ from ht]; rfl) hx
omit hn in
theorem func_sim {s s' : S} (ln ln' : Nat) (h : SR R ns0 s s') : PR R ns0 (ND ns0.length) (funcM nest ln s) (funcM nest ln' s') := by
  unfold funcM
  refine pr_bd (raw_sim hR h) fun t t' u u' ht hu => pr_bd (need_sim hR hu (by decide)) fun _ _ v v' _ hv => pr_bd (need_sim hR hv (by decide)) fun _ _ w w' _ hw => ?_
  simp only
  rw [(hw.lns hR).isComp hR]
  split
  · exact pr_er
  · exact pr_bd (hs _ _ (hw.lns hR)) fun k k' z z' hk hz => pr_ok (by rw [show k' = _ from hk, show t' = _ from ht]; rfl) hz
theorem comp_sim {s s' : S} (ln ln' : Nat) (h : SR R ns0 s s') (h3 : (nx s).k ≠ 3) (h4 : (nx s).k ≠ 4) : PR R ns0 (ND ns0.length) (compM nest ln s) (compM nest ln' s') := by
  unfold compM
  rw [h.isM hR, h.t hR]
  split
  · exact sub_sim hR hn hs ln ln' h h3
  · split
    · exact group_sim hR hn hs ln ln' h h3
    · split
      · exact asks_sim hR hn hs _ s s' ln ln' (Nat.le_refl _) h h3 h4
      · split
        · exact each_sim hR hn hs ln ln' h h3
        · split
          · exact cases_sim hR hn hs ln ln' h h3
          · exact whil_sim hR hn hs ln ln' h h3
end
section
variable {R : List Tok → List Tok → Prop} {ns0 : List Nd} (hR : TokRel R)
theorem comp_kind {s : S} (h : isComp s = true) : (nx s).k = 1 ∨ (nx s).k = 2 := by
  unfold isComp at h
  rcases Bool.or_eq_true _ _ ▸ h with h | h
  · exact .inr (isM_k h)
  · exact .inl (of_decide_eq_true (Bool.and_eq_true _ _ ▸ h).2)
include hR
theorem nest_sim : ∀ (n : Nat) (s s' : S), SR R ns0 s s' → PR R ns0 (AN ns0.length) (nestD n s) (nestD n s')
  | 0, s, s', h => pr_er
  | n + 1, s, s', h => by
    unfold nestD
    rw [h.isComp hR]
    split
    · rename_i hc
      have hk := comp_kind hc
      exact pr_bd (comp_sim hR (nest_weak n) (nest_sim n) _ _ h (by omega) (by omega)) fun x x' t t' hx ht => pr_bd (redirs_sim hR ht) fun rs rs' u u' hrs hu => put_sim hu (by rw [show rs' = _ from hrs]; exact nd_of hx rs)
    · exact pr_bd (func_sim hR (nest_sim n) _ _ h) fun x x' t t' hx ht => put_sim ht hx
/-- Rows of tokens that are alike give trees that are alike. -/
theorem whole_sim {l l' : List Tok} (h : R l l') : PR R [] (AN 0) (listM (nestD 40) true ([], l)) (listM (nestD 40) true ([], l')) :=
  list_sim hR (nest_weak 40) (nest_sim hR 40) true ⟨⟨[], rfl, rfl⟩, h⟩
end
end Go.Proofs.YtknncfoaegmphaaGreatDoor.Sy

/-! SyBlank -/
set_option linter.unusedVariables false
set_option linter.unusedSimpArgs false
set_option maxRecDepth 100000
namespace Go.Proofs.YtknncfoaegmphaaGreatDoor.Sy
open Lx
/-! ### Rows that are alike but for lines, and one Line more behind each -/
inductive BL : List Tok → List Tok → Prop
  | nil : BL [] []
  | tok {t t' : Tok} {l l' : List Tok} (h : tkE t t') (h3 : t.k ≠ 3) (h5 : t.k ≠ 5) (hl : BL l l') : BL (t :: l) (t' :: l')
  | line {t t' t'' : Tok} {l l' : List Tok} (h : tkE t t') (h3 : t.k = 3) (h3' : t''.k = 3) (hl : BL l l') : BL (t :: l) (t' :: t'' :: l')
theorem drop3 {t : Tok} {l : List Tok} (h : t.k = 3) : dropL (t :: l) = dropL l := by rw [dropL, if_pos h]
theorem dropn {t : Tok} {l : List Tok} (h : t.k ≠ 3) : dropL (t :: l) = t :: l := by rw [dropL, if_neg h]
theorem bl_lns {l l' : List Tok} (h : BL l l') : BL (dropL l) (dropL l') := by
  induction h with
  | nil => exact .nil
  | tok h h3 h5 hl ih => rw [dropn h3, dropn (by rw [← h.1]; exact h3)]; exact .tok h h3 h5 hl
  | line h h3 h3' hl ih => rw [drop3 h3, drop3 (by rw [← h.1]; exact h3), drop3 h3']; exact ih
theorem bl_rel : TokRel BL where
  head h := by cases h with
    | nil => exact ⟨rfl, rfl, rfl⟩
    | tok h => exact h
    | line h => exact h
  nil h := by cases h <;> simp
  tail h hk := by cases h with
    | tok h h3 h5 hl => exact hl
    | line h h3 => exact absurd h3 hk
  lns h := bl_lns h
  over h := by cases h with
    | tok h h3 h5 hl => exact bl_lns hl
    | line h h3 h3' hl => rw [drop3 h3']; exact bl_lns hl
  io h hk := by cases h with
    | tok h h3 h5 hl => exact absurd hk h5
    | line h h3 => rw [h3] at hk; exact absurd hk (by decide)
theorem bl_append {a a' b b' : List Tok} (h : BL a a') (h2 : BL b b') : BL (a ++ b) (a' ++ b') := by
  induction h with
  | nil => exact h2
  | tok h h3 h5 hl ih => exact .tok h h3 h5 ih
  | line h h3 h3' hl ih => exact .line h h3 h3' ih
/-! ### What a line is read as, whatever stands behind -/
def okC (c : UInt8) : Bool := (97 ≤ c && c ≤ 122) || c == 59 || c == 38 || c == 124 || c == 40 || c == 41 || c == 123 || c == 125 || c == 33
def sigC (c : UInt8) : Bool := c == 59 || c == 38 || c == 124 || c == 40 || c == 41
theorem okC_ne : ∀ c : UInt8, okC c = true → c ≠ 10 ∧ c ≠ 35 ∧ c ≠ 92 ∧ c ≠ 32 ∧ c ≠ 9 ∧ c ≠ 60 ∧ c ≠ 62 ∧ digB c = false := by
  have h : ∀ n : Fin 256, okC (UInt8.ofNat n.val) = true → UInt8.ofNat n.val ≠ 10 ∧ UInt8.ofNat n.val ≠ 35 ∧ UInt8.ofNat n.val ≠ 92 ∧ UInt8.ofNat n.val ≠ 32 ∧ UInt8.ofNat n.val ≠ 9 ∧ UInt8.ofNat n.val ≠ 60 ∧ UInt8.ofNat n.val ≠ 62 ∧ digB (UInt8.ofNat n.val) = false := by decide
  intro c
  have := h ⟨c.toNat, c.toNat_lt⟩
  simpa using this
theorem okC_plain : ∀ c : UInt8, okC c = true → plainC c = !sigC c := by
  have h : ∀ n : Fin 256, okC (UInt8.ofNat n.val) = true → plainC (UInt8.ofNat n.val) = !sigC (UInt8.ofNat n.val) := by decide
  intro c
  have := h ⟨c.toNat, c.toNat_lt⟩
  simpa using this
theorem okC_sign : ∀ c : UInt8, okC c = true → signOf [c, 10] = signOf [c, 32] ∧ (signOf [c, 10] = none ∨ signOf [c, 10] = some [c]) := by
  have h : ∀ n : Fin 256, okC (UInt8.ofNat n.val) = true → signOf [UInt8.ofNat n.val, 10] = signOf [UInt8.ofNat n.val, 32] ∧ (signOf [UInt8.ofNat n.val, 10] = none ∨ signOf [UInt8.ofNat n.val, 10] = some [UInt8.ofNat n.val]) := by decide
  intro c
  have := h ⟨c.toNat, c.toNat_lt⟩
  simpa using this
theorem sign_two (c d : UInt8) (Y : Nm) : signOf (c :: d :: Y) = signOf [c, d] := by
  simp [signOf, signL, List.find?, has, List.isPrefixOf]
def Ctx (X : Nm) : Prop := ∃ c r, X = c :: r ∧ (c = 10 ∨ c = 32)
def mkT (g : Nat) (x : Nat × Nm) : Tok := ⟨x.1, x.2, [], g⟩
def LineRes (w : Nm) : Prop :=
  (∃ ts : List (Nat × Nm), (∀ x ∈ ts, x.1 = 1 ∨ x.1 = 2) ∧ ∀ K l X, Ctx X → isHere l = false → allS K (l, [], w ++ X) = allS K (l ++ ts.map (mkT (K - nl X)), [], X) ∧ isHere (l ++ ts.map (mkT (K - nl X))) = false) ∨
  (∀ K l X, Ctx X → isHere l = false → ∃ n, allS K (l, [], w ++ X) = .error (20, n))
theorem nl_ok {w : Nm} (h : w.all okC = true) : nl w = 0 := by
  unfold nl
  rw [List.count_eq_zero]
  intro hm
  rw [List.all_eq_true] at h
  exact absurd (h 10 hm) (by decide)
theorem line_step {w w' : Nm} {x : Nat × Nm} (hne : w ≠ []) (hw : w.all okC = true) (hx : x.1 = 1 ∨ x.1 = 2) (h1 : ∀ g l X, Ctx X → isHere l = false → oneM g l [] (w ++ X) = .ok (l ++ [mkT g x], [], w' ++ X) ∧ isHere (l ++ [mkT g x]) = false) (h : LineRes w') : LineRes w := by
  have hs : ∀ K l X, Ctx X → isHere l = false → allS K (l, [], w ++ X) = allS K (l ++ [mkT (K - nl X) x], [], w' ++ X) := fun K l X hX hl => by
    rw [allS_step K l [] (by simp [hne]), nl_append, nl_ok hw, Nat.zero_add, (h1 _ l X hX hl).1]
  rcases h with ⟨ts, h2, h3⟩ | h2
  · refine .inl ⟨x :: ts, fun y hy => ?_, fun K l X hX hl => ?_⟩
    · rcases List.mem_cons.1 hy with rfl | hy
      · exact hx
      · exact h2 y hy
    · have h4 := h3 K _ X hX (h1 (K - nl X) l X hX hl).2
      rw [List.append_assoc, List.singleton_append, ← List.map_cons] at h4
      exact ⟨(hs K l X hX hl).trans h4.1, h4.2⟩
  · exact .inr fun K l X hX hl => by
      obtain ⟨n, h3⟩ := h2 K _ X hX (h1 (K - nl X) l X hX hl).2
      exact ⟨n, (hs K l X hX hl).trans h3⟩
theorem sign_ctx {c : UInt8} {X : Nm} (hc : okC c = true) (hX : Ctx X) : signOf (c :: X) = signOf [c, 10] := by
  obtain ⟨d, r, rfl, rfl | rfl⟩ := hX
  · exact sign_two _ _ _
  · rw [sign_two]; exact (okC_sign c hc).1.symm
theorem one_sg {g : Nat} {l : List Tok} {h : List Nat} {c : UInt8} {r o : Nm} (h10 : c ≠ 10) (h35 : c ≠ 35) (hj : has [92, 10] (c :: r) = false) (hb : ¬ (c = 32 ∨ c = 9)) (hs : signOf (c :: r) = some o) : oneM g l h (c :: r) = .ok (l ++ [⟨2, o, [], g⟩], h, (c :: r).drop o.length) := by
  unfold oneM
  simp only
  rw [if_neg h10, if_neg h35, if_neg (by rw [hj]; decide), if_neg hb, hs]
theorem one_amp {g : Nat} {l : List Tok} {h : List Nat} {c : UInt8} {r : Nm} (h10 : c ≠ 10) (h35 : c ≠ 35) (hj : has [92, 10] (c :: r) = false) (hb : ¬ (c = 32 ∨ c = 9)) (hs : signOf (c :: r) = none) (h38 : c = 38) : oneM g l h (c :: r) = .error 20 := by
  unfold oneM
  simp only
  rw [if_neg h10, if_neg h35, if_neg (by rw [hj]; decide), if_neg hb, hs]
  simp only
  rw [if_pos h38]
/-- The part of a text that is one word. -/
def wordP : Nm → Nm × Nm
  | [] => ([], [])
  | c :: r => if plainC c then (c :: (wordP r).1, (wordP r).2) else ([], c :: r)
theorem wordP_eq : ∀ w : Nm, w = (wordP w).1 ++ (wordP w).2
  | [] => rfl
  | c :: r => by
    unfold wordP
    split
    · show c :: r = c :: ((wordP r).1 ++ (wordP r).2)
      rw [← wordP_eq r]
    · rfl
theorem wordP_all : ∀ w : Nm, (wordP w).1.all plainC = true
  | [] => rfl
  | c :: r => by
    unfold wordP
    split
    · rename_i h
      show (c :: (wordP r).1).all plainC = true
      rw [List.all_cons, h, wordP_all r]; rfl
    · rfl
theorem sigC_blk : ∀ c : UInt8, sigC c = true → blkL.contains c = true := by
  have h : ∀ n : Fin 256, sigC (UInt8.ofNat n.val) = true → blkL.contains (UInt8.ofNat n.val) = true := by decide
  intro c
  have := h ⟨c.toNat, c.toNat_lt⟩
  simpa using this
theorem wordP_ends : ∀ (w X : Nm), w.all okC = true → Ctx X → ends ((wordP w).2 ++ X) = true
  | [], X, _, hX => by
    obtain ⟨d, r, rfl, rfl | rfl⟩ := hX <;> rfl
  | c :: r, X, h, hX => by
    rw [List.all_cons, Bool.and_eq_true] at h
    unfold wordP
    split
    · exact wordP_ends r X h.2 hX
    · rename_i hp
      have := okC_plain c h.1
      have hs : sigC c = true := by
        cases hc : sigC c with
        | true => rfl
        | false => rw [hc] at this; exact absurd this hp
      exact sigC_blk c hs
theorem line_res : ∀ (n : Nat) (w : Nm), w.length ≤ n → w.all okC = true → LineRes w
  | _, [], _, _ => .inl ⟨[], fun x h => absurd h List.not_mem_nil, fun K l X hX hl => by simp [hl]⟩
  | 0, c :: r, h, _ => absurd h (by simp)
  | n + 1, c :: r, h, hw => by
    have hw' := hw
    rw [List.all_cons, Bool.and_eq_true] at hw
    obtain ⟨h10, h35, h92, h32, h9, h60, h62, hd⟩ := okC_ne c hw.1
    have hlen : r.length ≤ n := by simpa using h
    have hbl : ¬ (c = 32 ∨ c = 9) := fun e => e.elim h32 h9
    -- the sign, whatever stands behind
    have hsig : ∃ z, (∀ X, Ctx X → signOf (c :: r ++ X) = z) ∧ ∀ o, z = some o → o.length ≤ r.length + 1 := by
      cases r with
      | nil =>
        refine ⟨signOf [c, 10], fun X hX => sign_ctx hw.1 hX, fun o ho => ?_⟩
        rcases (okC_sign c hw.1).2 with e | e
        · rw [e] at ho; cases ho
        · rw [e] at ho; injection ho with ho; subst ho; simp
      | cons d r =>
        refine ⟨signOf [c, d], fun X hX => sign_two _ _ _, fun o ho => ?_⟩
        have := (sign_pos (sign_has ho).2).2.1
        simp; omega
    obtain ⟨z, hz, hzl⟩ := hsig
    cases z with
    | some o =>
      have ho : o ∈ signL := by
        have := hz [10] ⟨10, [], rfl, .inl rfl⟩
        exact (sign_has this).2
      have hne : o ≠ [60, 60] := fun e => by
        have := (sign_has (hz [10] ⟨10, [], rfl, .inl rfl⟩)).1
        rw [e, List.cons_append, has_first h60.symm] at this
        cases this
      have hl2 := hzl o rfl
      have hp := (sign_pos ho).1
      refine line_step (w' := (c :: r).drop o.length) (x := (2, o)) (by simp) hw' (.inr rfl) (fun g l X hX hl => ⟨?_, ?_⟩) (line_res n _ (by rw [List.length_drop, List.length_cons]; omega) ?_)
      · have := hz X hX
        rw [List.cons_append] at this ⊢
        rw [one_sg h10 h35 (join_ne h92) hbl this, ← List.cons_append, List.drop_append_of_le_length (by simpa using hl2)]
        rfl
      · unfold isHere
        rw [List.getLast?_append]
        show (decide (2 = 2) && decide (o = [60, 60])) = false
        simp [hne]
      · rw [List.all_eq_true] at hw' ⊢
        exact fun d hd => hw' d (List.mem_of_mem_drop hd)
    | none =>
      by_cases h38 : c = 38
      · refine .inr fun K l X hX hl => ⟨K - nl (c :: r ++ X), ?_⟩
        have := hz X hX
        rw [allS_step K l [] (by simp)]
        rw [List.cons_append] at this ⊢
        rw [one_amp h10 h35 (join_ne h92) hbl this h38]
      · have hns : sigC c = false := by
          have h0 := hz [10] ⟨10, [], rfl, .inl rfl⟩
          rw [List.cons_append] at h0
          have h1 := sign_none h0
          unfold sigC
          simp [h1, h38]
        have hpl : plainC c = true := by rw [okC_plain c hw.1, hns]; rfl
        have e1 : wordP (c :: r) = (c :: (wordP r).1, (wordP r).2) := by rw [wordP, if_pos hpl]
        have e2 := wordP_eq r
        refine line_step (w' := (wordP r).2) (x := (1, c :: (wordP r).1)) (by simp) hw' (.inl rfl) (fun g l X hX hl => ⟨?_, ?_⟩) (line_res n _ (by have := congrArg List.length e2; rw [List.length_append] at this; omega) ?_)
        · have e3 : c :: r ++ X = (c :: (wordP r).1) ++ ((wordP r).2 ++ X) := by
            rw [← List.append_assoc]
            show c :: (r ++ X) = c :: ((wordP r).1 ++ (wordP r).2 ++ X)
            rw [← e2]
          have e4 := word_plain (c :: (wordP r).1) ((wordP r).2 ++ X) (by rw [List.all_cons, hpl, wordP_all]; rfl)
          rw [w_end (wordP_ends r X hw.2 hX), pre_ok, List.append_nil] at e4
          rw [← e3] at e4
          rw [List.cons_append] at e4 ⊢
          rw [one_word h10 h35 (join_ne h92) (plain_ne hpl).1, e4, bnd_ok]
          have hio : isIo (c :: (r ++ X)) (c :: (wordP r).1) ((wordP r).2 ++ X) = false := by
            unfold isIo
            have : (c :: (wordP r).1).all digB = false := by simp [hd]
            rw [this]; simp
          rw [if_neg (by simp only [hio]; decide), hl]
          rfl
        · unfold isHere
          rw [List.getLast?_append]
          show (decide (1 = 2) && _) = false
          rfl
        · rw [List.all_eq_true]
          have h2 := hw.2
          rw [List.all_eq_true] at h2
          exact fun d hd => h2 d (by rw [e2]; exact List.mem_append_right _ hd)
/-! ### Both scripts -/
def aText : List Nm → Nm
  | [] => []
  | w :: ws => w ++ 10 :: aText ws
def bText (more : Nm) : List Nm → Nm
  | [] => []
  | w :: ws => 32 :: 9 :: (w ++ 32 :: 35 :: (more ++ 10 :: 10 :: bText more ws))
theorem bl_line {g1 g2 : Nat} : ∀ ts : List (Nat × Nm), (∀ x ∈ ts, x.1 = 1 ∨ x.1 = 2) → BL (ts.map (mkT g1)) (ts.map (mkT g2))
  | [], _ => .nil
  | x :: ts, h => by
    have h1 := h x List.mem_cons_self
    exact .tok ⟨rfl, rfl, rfl⟩ (by show x.1 ≠ 3; omega) (by show x.1 ≠ 5; omega) (bl_line ts fun y hy => h y (List.mem_cons_of_mem _ hy))
theorem here_line (l : List Tok) (g : Nat) : isHere (l ++ [⟨3, [], [], g⟩]) = false := by
  unfold isHere
  rw [List.getLast?_append]
  rfl
theorem all_line (K : Nat) (l : List Tok) (s : Nm) : allS K (l, [], 10 :: s) = allS K (l ++ [⟨3, [], [], K - nl (10 :: s)⟩], [], s) := by
  rw [allS_step K l [] (by simp)]
  rfl
theorem all_blank (K : Nat) (l : List Tok) (s : Nm) : allS K (l, [], 32 :: s) = allS K (l, [], s) := by
  rw [allS_step K l [] (by simp)]
  rfl
theorem all_tab (K : Nat) (l : List Tok) (s : Nm) : allS K (l, [], 9 :: s) = allS K (l, [], s) := by
  rw [allS_step K l [] (by simp)]
  rfl
theorem all_note (K : Nat) (l : List Tok) (m s : Nm) (hm : (10 : UInt8) ∉ m) : allS K (l, [], 35 :: (m ++ 10 :: s)) = allS K (l, [], 10 :: s) := by
  rw [allS_step K l [] (by simp)]
  have hc : cutLn (35 :: (m ++ 10 :: s)) = (35 :: m, s) := by
    unfold cutLn
    have := cut_at (c := 10) (35 :: m) s (by simp [hm])
    rw [List.cons_append] at this
    rw [this]
  have : oneM (K - nl (35 :: (m ++ 10 :: s))) l [] (35 :: (m ++ 10 :: s)) = .ok (l, [], 10 :: s) := by
    unfold oneM
    simp only [hc]
    rw [if_neg (by decide)]
    simp
  rw [this]
theorem blank_lex (more : Nm) (hm : (10 : UInt8) ∉ more) : ∀ (ws : List Nm) (K1 K2 : Nat) (l1 l2 : List Tok), (∀ w ∈ ws, w.all okC = true) → isHere l1 = false → isHere l2 = false →
    (∃ x1 x2, allS K1 (l1, [], aText ws) = .ok (l1 ++ x1) ∧ allS K2 (l2, [], bText more ws) = .ok (l2 ++ x2) ∧ BL x1 x2) ∨ ∃ n1 n2, allS K1 (l1, [], aText ws) = .error (20, n1) ∧ allS K2 (l2, [], bText more ws) = .error (20, n2)
  | [], K1, K2, l1, l2, _, h1, h2 => .inl ⟨[⟨4, [], [], K1⟩], [⟨4, [], [], K2⟩], rfl, rfl, .tok ⟨rfl, rfl, rfl⟩ (by show (4 : Nat) ≠ 3; decide) (by show (4 : Nat) ≠ 5; decide) .nil⟩
  | w :: ws, K1, K2, l1, l2, hw, h1, h2 => by
    have hw1 := hw w List.mem_cons_self
    have hw2 := fun v hv => hw v (List.mem_cons_of_mem _ hv)
    have ha : aText (w :: ws) = w ++ 10 :: aText ws := rfl
    have hb : allS K2 (l2, [], bText more (w :: ws)) = allS K2 (l2, [], w ++ 32 :: 35 :: (more ++ 10 :: 10 :: bText more ws)) := by
      show allS K2 (l2, [], 32 :: 9 :: (w ++ 32 :: 35 :: (more ++ 10 :: 10 :: bText more ws))) = _
      rw [all_blank, all_tab]
    rw [ha, hb]
    have c1 : Ctx (10 :: aText ws) := ⟨10, _, rfl, .inl rfl⟩
    have c2 : Ctx (32 :: 35 :: (more ++ 10 :: 10 :: bText more ws)) := ⟨32, _, rfl, .inr rfl⟩
    rcases line_res _ w (Nat.le_refl _) hw1 with ⟨ts, t1, t2⟩ | t2
    · have e1 := t2 K1 l1 _ c1 h1
      have e2 := t2 K2 l2 _ c2 h2
      rw [e1.1, e2.1, all_line, all_blank, all_note _ _ _ _ hm, all_line, all_line]
      rcases blank_lex more hm ws K1 K2 (l1 ++ ts.map (mkT (K1 - nl (10 :: aText ws))) ++ [⟨3, [], [], K1 - nl (10 :: aText ws)⟩]) (l2 ++ ts.map (mkT (K2 - nl (32 :: 35 :: (more ++ 10 :: 10 :: bText more ws)))) ++ [⟨3, [], [], K2 - nl (10 :: 10 :: bText more ws)⟩] ++ [⟨3, [], [], K2 - nl (10 :: bText more ws)⟩]) hw2 (here_line _ _) (here_line _ _) with ⟨x1, x2, e3, e4, e5⟩ | h
      · rw [e3, e4]
        refine .inl ⟨ts.map (mkT (K1 - nl (10 :: aText ws))) ++ (⟨3, [], [], K1 - nl (10 :: aText ws)⟩ :: x1), ts.map (mkT (K2 - nl (32 :: 35 :: (more ++ 10 :: 10 :: bText more ws)))) ++ (⟨3, [], [], K2 - nl (10 :: 10 :: bText more ws)⟩ :: ⟨3, [], [], K2 - nl (10 :: bText more ws)⟩ :: x2), by simp, by simp, bl_append (bl_line ts t1) (.line ⟨rfl, rfl, rfl⟩ rfl rfl e5)⟩
      · exact .inr h
    · obtain ⟨n1, e1⟩ := t2 K1 l1 _ c1 h1
      obtain ⟨n2, e2⟩ := t2 K2 l2 _ c2 h2
      exact .inr ⟨n1, n2, e1, e2⟩
/-- Trees that are alike but for lines, or the same error. -/
def Alike : Except (Int × Nat) (List Nd) → Except (Int × Nat) (List Nd) → Prop
  | .error e, .error e' => e.1 = e'.1
  | .ok x, .ok y => y.map bare = x.map bare
  | _, _ => False
theorem sh_zero (x : Nd) : sh 0 x = bare x := by
  unfold sh bare
  simp
theorem parse_alike {R : List Tok → List Tok → Prop} (hR : TokRel R) {l l' : List Tok} (h : R l l') {s s' : Nm} (h1 : allM s = .ok l) (h2 : allM s' = .ok l') : Alike (parseM s) (parseM s') := by
  unfold parseM
  rw [h1, h2]
  simp only
  have hp := whole_sim hR h
  cases he : listM (nestD 40) true ([], l) with
  | error e => cases he' : listM (nestD 40) true ([], l') with
    | error e' => rw [he, he'] at hp; exact hp
    | ok y' => rw [he, he'] at hp; exact hp.elim
  | ok y => cases he' : listM (nestD 40) true ([], l') with
    | error e' => rw [he, he'] at hp; exact hp.elim
    | ok y' =>
      rw [he, he'] at hp
      obtain ⟨hk, hs⟩ := hp
      simp only
      rw [hs.k hR]
      split
      · rfl
      · obtain ⟨m, q1, q2⟩ := hs.ns
        show y'.2.1.map bare = y.2.1.map bare
        rw [q1, List.nil_append, q2]
        exact List.map_congr_left fun x _ => sh_zero x
theorem blanks_parse (more : Nm) (hm : (10 : UInt8) ∉ more) (ws : List Nm) (hw : ∀ w ∈ ws, w.all okC = true) : Alike (parseM (aText ws)) (parseM (bText more ws)) := by
  rcases blank_lex more hm ws (1 + nl (aText ws)) (1 + nl (bText more ws)) [] [] hw rfl rfl with ⟨x1, x2, e1, e2, e3⟩ | ⟨n1, n2, e1, e2⟩
  · exact parse_alike bl_rel e3 e1 e2
  · unfold parseM allM
    rw [e1, e2]
    rfl
end Go.Proofs.YtknncfoaegmphaaGreatDoor.Sy
