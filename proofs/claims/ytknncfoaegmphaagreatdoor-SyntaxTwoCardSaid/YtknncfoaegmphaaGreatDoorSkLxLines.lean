/-
  Lexer: lines of tokens, and what errors there are, as plain laws. No program stands here. Conditions: as each law says.
-/
import Derived.Test.YtknncfoaegmphaaGreatDoorSkLxPlain
set_option linter.unusedVariables false
set_option linter.unusedSimpArgs false
namespace Go.Proofs.YtknncfoaegmphaaGreatDoor.Lx
def E2 (e : Int) : Prop := e = 20 ∨ e = 21
def Sat {α : Type} (P : α → Prop) : Except Int α → Prop
  | .error e => E2 e
  | .ok a => P a
theorem sat_bnd {α β : Type} {P : α → Prop} {Q : β → Prop} {x : Except Int α} {f : α → Except Int β} (h : Sat P x) (hf : ∀ a, P a → Sat Q (f a)) : Sat Q (bnd x f) := by
  cases x with
  | error e => exact h
  | ok a => exact hf a h
theorem sat_mono {α : Type} {P Q : α → Prop} {x : Except Int α} (h : Sat P x) (hf : ∀ a, P a → Q a) : Sat Q x := by
  cases x with
  | error e => exact h
  | ok a => exact hf a h
theorem sat_pre {P : Nm → Prop} {o : Nm} {x : R} (h : Sat (fun y => P y.2) x) : Sat (fun y => P y.2) (pre o x) := by
  cases x with
  | error e => exact h
  | ok a => exact h
theorem sat20 {α : Type} {P : α → Prop} : Sat P (.error 20) := .inl rfl
abbrev Suf (s : Nm) (x : R) : Prop := Sat (fun y : Nm × Nm => y.2 <:+ s) x
theorem suf_mono {s t : Nm} {x : R} (h : Suf s x) (hs : s <:+ t) : Suf t x := sat_mono h (fun a ha => ha.trans hs)
theorem ari_suf : ∀ (s : Nm) (d : Nat), Suf s (ariM d s)
  | [], d => sat20
  | c :: r, d => by
    unfold ariM
    have hc : ∀ d', Suf (c :: r) (pre [c] (ariM d' r)) := fun d' => sat_pre (P := fun y => y <:+ c :: r) (suf_mono (ari_suf r d') (List.suffix_cons c r))
    split
    · exact (List.drop_suffix 1 r).trans (List.suffix_cons c r)
    · split
      · split
        · exact sat20
        · exact hc _
      · split
        · exact hc _
        · exact hc _
theorem loopF_suf {step : Nm → R} {stop : Nm → Bool} (h : ∀ s, Suf s (step s)) : ∀ f s, Suf s (loopF step stop f s)
  | 0, s => by
    unfold loopF
    split
    · exact List.suffix_refl s
    · exact sat20
  | f + 1, s => by
    unfold loopF
    split
    · exact List.suffix_refl s
    · exact sat_bnd (h s) fun x hx => sat_pre (P := fun y => y <:+ s) (suf_mono (loopF_suf h f x.2) hx)
theorem dol_suf {inner : Nm → R} (hi : ∀ s, Suf s (inner s)) (deep : Nat) (s : Nm) : Suf s (dolM inner deep s) := by
  unfold dolM
  split
  · exact sat_pre (P := fun y => y <:+ s) (suf_mono (ari_suf _ _) (List.drop_suffix 3 s))
  · split
    · exact sat20
    · split
      · exact List.drop_suffix 1 s
      · split
        · exact .inr rfl
        · exact sat_bnd (hi (s.drop 2)) fun x hx => ((List.drop_suffix 1 x.2).trans hx).trans (List.drop_suffix 2 s)
theorem inq_suf {dol : Nm → R} (hd : ∀ s, Suf s (dol s)) (s : Nm) : Suf s (inqM dol s) := by
  unfold inqM
  split
  · exact sat20
  · rename_i c r
    split
    · exact (List.drop_suffix 1 r).trans (List.suffix_cons c r)
    · split
      · split
        · exact sat20
        · exact (List.suffix_cons _ _).trans (List.suffix_cons c _)
      · split
        · exact hd _
        · split
          · exact sat20
          · exact List.suffix_cons c r
theorem cut_suf {c : UInt8} {s : Nm} {x : Nm × Nm} (h : cutAt c s = some x) : x.2 <:+ s := by
  rw [cut_len h]
  exact (List.suffix_cons c x.2).trans (List.suffix_append x.1 _)
theorem par_suf {dol : Nm → R} (hd : ∀ s, Suf s (dol s)) (f : Nat) (s : Nm) : Suf s (parM dol f s) := by
  unfold parM
  split
  · exact sat20
  · rename_i c r
    split
    · exact (List.drop_suffix 1 r).trans (List.suffix_cons c r)
    · split
      · split
        · exact sat20
        · exact (List.suffix_cons _ _).trans (List.suffix_cons c _)
      · split
        · split
          · exact sat20
          · rename_i y hy
            exact (cut_suf hy).trans (List.suffix_cons c r)
        · split
          · exact sat_bnd (loopF_suf (inq_suf hd) f r) fun x hx => ((List.drop_suffix 1 x.2).trans hx).trans (List.suffix_cons c r)
          · split
            · exact hd _
            · split
              · exact sat20
              · exact List.suffix_cons c r
theorem partF_suf : ∀ (f deep : Nat) (s : Nm), Suf s (partF f deep s)
  | 0, deep, s => sat20
  | f + 1, deep, s => par_suf (dol_suf (loopF_suf (partF_suf f (deep + 1)) f) deep) f s
theorem part_suf (deep : Nat) (s : Nm) : Suf s (parA deep s) := partF_suf _ _ s
theorem word_suf (s : Nm) : Suf s (wordM s) := loopF_suf (part_suf 0) _ s
theorem cutLn_suf (s : Nm) : (cutLn s).2 <:+ s := by
  unfold cutLn
  cases h : cutAt 10 s with
  | none => exact List.nil_suffix
  | some x => exact cut_suf h
theorem hereF_suf (e : Nm) : ∀ f s, Suf s (hereF e f s)
  | 0, s => sat20
  | f + 1, s => by
    unfold hereF
    split
    · exact sat20
    · split
      · exact cutLn_suf s
      · exact sat_pre (P := fun y => y <:+ s) (suf_mono (hereF_suf e f _) (cutLn_suf s))
theorem nl_suf {s t : Nm} (h : s <:+ t) : nl s ≤ nl t := h.sublist.count_le 10
/-- Lines never fall, and lie between lo and hi. -/
def LnOk : Nat → Nat → List Tok → Prop
  | _, _, [] => True
  | lo, hi, t :: r => lo ≤ t.ln ∧ t.ln ≤ hi ∧ LnOk t.ln hi r
theorem lnOk_hi {hi hi' : Nat} (h : hi ≤ hi') : ∀ {l : List Tok} {lo : Nat}, LnOk lo hi l → LnOk lo hi' l
  | [], _, _ => trivial
  | t :: r, lo, hl => ⟨hl.1, Nat.le_trans hl.2.1 h, lnOk_hi h hl.2.2⟩
theorem lnOk_add {g : Nat} : ∀ {l : List Tok} {lo : Nat} {t : Tok}, LnOk lo g l → t.ln = g → lo ≤ g → LnOk lo g (l ++ [t])
  | [], lo, t, _, h, hg => ⟨by rw [h]; exact hg, by rw [h]; exact Nat.le_refl _, trivial⟩
  | u :: r, lo, t, hl, h, hg => ⟨hl.1, hl.2.1, lnOk_add hl.2.2 h hl.2.1⟩
theorem lnOk_mod {hi : Nat} (x : Nm) : ∀ {l : List Tok} {lo i : Nat}, LnOk lo hi l → LnOk lo hi (l.modify i (addB x))
  | [], _, i, _ => by cases i <;> trivial
  | t :: r, lo, 0, h => h
  | t :: r, lo, i + 1, h => ⟨h.1, h.2.1, lnOk_mod x h.2.2⟩
def kOk (t : Tok) : Prop := (t.k = 1 ∨ t.k = 2 ∨ t.k = 3 ∨ t.k = 5) ∧ (t.k ≠ 1 → t.b = [])
def cnt3 (l : List Tok) : Nat := l.countP fun t => decide (t.k = 3)
/-- What holds of a state between tokens. -/
structure LInv (K : Nat) (l : List Tok) (hh : List Nat) (q : Nm) : Prop where
  lns : LnOk 1 (K - nl q) l
  kok : ∀ t ∈ l, kOk t
  idx : ∀ i ∈ hh, ∃ t, l[i]? = some t ∧ t.k = 1
  cnt : cnt3 l + nl q + 1 ≤ K
theorem mem_modify {l : List Tok} {i : Nat} {x : Nm} {t : Tok} (h : t ∈ l.modify i (addB x)) : ∃ j u, l[j]? = some u ∧ t = if i = j then addB x u else u := by
  obtain ⟨j, hj⟩ := List.mem_iff_getElem?.1 h
  rw [List.getElem?_modify] at hj
  cases hlj : l[j]? with
  | none => rw [hlj] at hj; cases hj
  | some u =>
    rw [hlj] at hj
    refine ⟨j, u, hlj, ?_⟩
    simp only [Option.map_eq_map, Option.map_some, Option.some.injEq] at hj
    rw [← hj]
theorem cnt3_mod (x : Nm) : ∀ (l : List Tok) (i : Nat), cnt3 (l.modify i (addB x)) = cnt3 l
  | [], i => by cases i <;> rfl
  | t :: r, 0 => by simp [cnt3, List.countP_cons, addB]
  | t :: r, i + 1 => by
    have := cnt3_mod x r i
    simp only [cnt3, List.modify_succ_cons, List.countP_cons] at this ⊢
    rw [this]
theorem lInv_mod {K : Nat} {l : List Tok} {hh : List Nat} {q : Nm} {i : Nat} {x : Nm} (h : LInv K l hh q) (hi : ∃ t, l[i]? = some t ∧ t.k = 1) : LInv K (l.modify i (addB x)) hh q := by
  refine ⟨lnOk_mod x h.lns, fun t ht => ?_, fun j hj => ?_, by rw [cnt3_mod]; exact h.cnt⟩
  · obtain ⟨j, u, hu, rfl⟩ := mem_modify ht
    have hk := h.kok u (List.mem_of_getElem? hu)
    split
    · rename_i e
      subst e
      obtain ⟨t, ht1, ht2⟩ := hi
      rw [hu] at ht1
      obtain rfl := Option.some.inj ht1
      exact ⟨hk.1, fun hne => absurd ht2 hne⟩
    · exact hk
  · obtain ⟨t, h1, h2⟩ := h.idx j hj
    rw [List.getElem?_modify, h1]
    by_cases e : i = j
    · exact ⟨addB x t, by simp [e], h2⟩
    · exact ⟨t, by simp [e], h2⟩
theorem lInv_suf {K : Nat} {l : List Tok} {hh : List Nat} {q q' : Nm} (h : LInv K l hh q) (hs : q' <:+ q) : LInv K l hh q' := by
  have := nl_suf hs
  exact ⟨lnOk_hi (by omega) h.lns, h.kok, h.idx, by have := h.cnt; omega⟩
theorem lInv_add {K : Nat} {l : List Tok} {hh : List Nat} {q : Nm} {t : Tok} (h : LInv K l hh q) (ht : t.ln = K - nl q) (hk : kOk t) (h3 : t.k ≠ 3) : LInv K (l ++ [t]) hh q := by
  have hc := h.cnt
  refine ⟨lnOk_add h.lns ht (by omega), fun u hu => ?_, fun i hi => ?_, ?_⟩
  · rcases List.mem_append.1 hu with hu | hu
    · exact h.kok u hu
    · rw [List.mem_singleton.1 hu]; exact hk
  · obtain ⟨u, h1, h2⟩ := h.idx i hi
    exact ⟨u, by rw [List.getElem?_append_left (List.getElem?_eq_some_iff.1 h1).1]; exact h1, h2⟩
  · unfold cnt3 at hc ⊢
    rw [List.countP_append]
    simp [h3]
    omega
theorem bodies_inv {K : Nat} : ∀ (hh : List Nat) (l : List Tok) (s : Nm), LInv K l hh s → Sat (fun x : List Tok × Nm => LInv K x.1 [] x.2) (bodiesM hh l s)
  | [], l, s, h => h
  | i :: is, l, s, h => by
    unfold bodiesM
    refine sat_bnd (hereF_suf _ _ _) fun x hx => ?_
    have h1 := lInv_suf (lInv_mod (x := x.1) h (h.idx i List.mem_cons_self)) hx
    exact bodies_inv is _ _ ⟨h1.lns, h1.kok, fun j hj => h1.idx j (List.mem_cons_of_mem _ hj), h1.cnt⟩
theorem nl_cons10 (r : Nm) : nl (10 :: r) = nl r + 1 := by simp [nl]
theorem one_inv {K : Nat} {l : List Tok} {hh : List Nat} {s : Nm} (h : LInv K l hh s) : Sat (fun x : St => LInv K x.1 x.2.1 x.2.2) (oneM (K - nl s) l hh s) := by
  cases s with
  | nil => exact h
  | cons c r =>
    unfold oneM
    simp only
    split
    · rename_i h10
      subst h10
      have hc := h.cnt
      rw [nl_cons10] at hc ⊢
      refine sat_bnd (bodies_inv hh _ r ⟨?_, ?_, ?_, ?_⟩) fun x hx => hx
      · have h1 := h.lns
        rw [nl_cons10] at h1
        exact lnOk_hi (by omega) (lnOk_add (t := ⟨3, [], [], K - (nl r + 1)⟩) h1 rfl (by omega))
      · intro t ht
        rcases List.mem_append.1 ht with ht | ht
        · exact h.kok t ht
        · rw [List.mem_singleton.1 ht]; exact ⟨.inr (.inr (.inl rfl)), fun _ => rfl⟩
      · intro i hi
        obtain ⟨u, h1, h2⟩ := h.idx i hi
        exact ⟨u, by rw [List.getElem?_append_left (List.getElem?_eq_some_iff.1 h1).1]; exact h1, h2⟩
      · unfold cnt3 at hc ⊢
        rw [List.countP_append]
        simp
        omega
    · split
      · exact lInv_suf h (List.drop_suffix _ _)
      · split
        · exact lInv_suf h ((List.drop_suffix 1 r).trans (List.suffix_cons c r))
        · split
          · exact lInv_suf h (List.suffix_cons c r)
          · split
            · exact lInv_suf (lInv_add h rfl ⟨.inr (.inl rfl), fun _ => rfl⟩ (by simp)) (List.drop_suffix _ _)
            · split
              · exact sat20
              · refine sat_bnd (word_suf (c :: r)) fun x hx => ?_
                split
                · exact lInv_suf (lInv_add h rfl ⟨.inr (.inr (.inr rfl)), fun _ => rfl⟩ (by simp)) hx
                · have h1 := lInv_suf (lInv_add (t := ⟨1, x.1, [], K - nl (c :: r)⟩) h rfl ⟨.inl rfl, fun _ => rfl⟩ (by simp)) hx
                  refine ⟨h1.lns, h1.kok, fun i hi => ?_, h1.cnt⟩
                  simp only at hi ⊢
                  split at hi
                  · rcases List.mem_append.1 hi with hi | hi
                    · exact h1.idx i hi
                    · rw [List.mem_singleton.1 hi]
                      exact ⟨_, List.getElem?_concat_length, rfl⟩
                  · exact h1.idx i hi
/-- What All tells of lines. -/
def LinesOk (K : Nat) : RA → Prop
  | .error x => E2 x.1 ∧ 1 ≤ x.2 ∧ x.2 ≤ K
  | .ok l => ∃ l', l = l' ++ [⟨4, [], [], K⟩] ∧ LnOk 1 K l' ∧ (∀ t ∈ l', kOk t) ∧ cnt3 l' + 1 ≤ K
theorem lnOk_mem {lo hi : Nat} : ∀ {l : List Tok} {t : Tok}, LnOk lo hi l → t ∈ l → lo ≤ t.ln ∧ t.ln ≤ hi
  | u :: r, t, h, ht => by
    rcases List.mem_cons.1 ht with rfl | ht
    · exact ⟨h.1, h.2.1⟩
    · have := lnOk_mem h.2.2 ht
      exact ⟨Nat.le_trans h.1 this.1, this.2⟩
theorem allF_lines (K : Nat) (hK : 1 ≤ K) : ∀ f l hh q, q.length ≤ f → LInv K l hh q → LinesOk K (allF K f (l, hh, q))
  | 0, l, hh, q, hf, h => by
    obtain rfl : q = [] := List.length_eq_zero_iff.1 (Nat.le_zero.1 hf)
    show LinesOk K (if hh = [] then _ else _)
    have h0 : nl ([] : Nm) = 0 := rfl
    have hl := h.lns
    have hc := h.cnt
    rw [h0, Nat.sub_zero] at hl
    split
    · exact ⟨l, rfl, hl, h.kok, by rw [h0] at hc; omega⟩
    · rename_i hne
      refine ⟨.inl rfl, ?_⟩
      obtain ⟨i, hi⟩ := List.exists_mem_of_ne_nil _ hne
      obtain ⟨t, h1, _⟩ := h.idx i hi
      unfold lastLn
      cases hg : l.getLast? with
      | none => rw [List.getLast?_eq_none_iff] at hg; subst hg; simp at h1
      | some u => exact lnOk_mem hl (List.mem_of_getLast? hg)
  | f + 1, l, hh, q, hf, h => by
    unfold allF
    split
    · rename_i hq
      subst hq
      exact allF_lines K hK 0 l hh [] (Nat.le_refl _) h
    · rename_i hq
      have h1 := one_inv h
      have hc := h.cnt
      cases he : oneM (K - nl q) l hh q with
      | error e => rw [he] at h1; exact ⟨h1, by omega, by omega⟩
      | ok x =>
        rw [he] at h1
        have := one_len hq he
        exact allF_lines K hK f x.1 x.2.1 x.2.2 (by omega) h1
theorem all_lines (s : Nm) : LinesOk (1 + nl s) (allM s) := by
  refine allF_lines _ (by omega) _ _ _ _ (Nat.le_refl _) ⟨trivial, fun t ht => absurd ht List.not_mem_nil, fun i hi => absurd hi List.not_mem_nil, ?_⟩
  show 0 + nl s + 1 ≤ _
  omega
end Go.Proofs.YtknncfoaegmphaaGreatDoor.Lx
