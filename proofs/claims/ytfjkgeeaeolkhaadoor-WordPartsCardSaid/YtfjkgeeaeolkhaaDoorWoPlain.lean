/-
  Word: what a raw word is read as, as plain functions, and the statements' plain laws. No program stands here. Conditions: as each law says.
-/
import Derived.Test.YtfjkgeeaeolkhaaDoorWords
set_option linter.unusedVariables false
set_option linter.unusedSimpArgs false
set_option linter.unusedSimpArgs false
namespace Go.Proofs.YtfjkgeeaeolkhaaDoor
abbrev Nm := List UInt8
end Go.Proofs.YtfjkgeeaeolkhaaDoor
namespace Go.Proofs.YtfjkgeeaeolkhaaDoor.Wo
inductive Prt where
  | mk (k : Nat) (t o : Nm) (q : Bool) (w : List Prt)
def Prt.k : Prt → Nat | .mk k _ _ _ _ => k
def Prt.t : Prt → Nm | .mk _ t _ _ _ => t
def Prt.o : Prt → Nm | .mk _ _ o _ _ => o
def Prt.q : Prt → Bool | .mk _ _ _ q _ => q
def Prt.w : Prt → List Prt | .mk _ _ _ _ w => w
def ltrB (c : UInt8) : Bool := c == 95 || (97 ≤ c && c ≤ 122) || (65 ≤ c && c ≤ 90)
def digB (c : UInt8) : Bool := 48 ≤ c && c ≤ 57
def nameLen : Nm → Nat
  | [] => 0
  | c :: r => if ltrB c then 1 + (r.takeWhile fun c => ltrB c || digB c).length else 0
abbrev specs : Nm := [48,49,50,51,52,53,54,55,56,57,63,35,64,42,45]
def paramLen (s : Nm) : Nat := if nameLen s = 0 then (match s with | [] => 0 | c :: _ => if specs.contains c then 1 else 0) else nameLen s
def digLen (s : Nm) : Nat := (s.takeWhile digB).length
abbrev M (α : Type) := Option (Except Int α)
def bnd {α β : Type} : M α → (α → M β) → M β
  | none, _ => none
  | some (.error e), _ => some (.error e)
  | some (.ok a), f => f a
def ret {α : Type} (a : α) : M α := some (.ok a)
def err {α : Type} (e : Int) : M α := some (.error e)
def has (p s : Nm) : Bool := p.isPrefixOf s
def arithM (d : Nat) : Nm → M (Nm × Nm)
  | [] => err 11
  | c :: r =>
    if d = 0 ∧ has [41, 41] (c :: r) then ret ([], r.drop 1)
    else if c = 41 then (if d = 0 then err 11 else bnd (arithM (d - 1) r) fun x => ret (c :: x.1, x.2))
    else if c = 40 then bnd (arithM (d + 1) r) fun x => ret (c :: x.1, x.2)
    else bnd (arithM d r) fun x => ret (c :: x.1, x.2)
/-- What a step emits, and what is left. -/
abbrev Em := List Prt × Nm
def loopM (step : Nm → M Em) (stop : Nm → Bool) : Nat → Nm → M Em
  | 0, _ => none
  | f + 1, s => if stop s then ret ([], s) else bnd (step s) fun x => bnd (loopM step stop f x.2) fun y => ret (x.1 ++ y.1, y.2)
def putP (l : List Prt) (p : Prt) : List Prt :=
  match l.getLast? with
  | none => [p]
  | some x => if p.k ≤ 2 ∧ x.k = p.k then l.dropLast ++ [.mk x.k (x.t ++ p.t) x.o x.q x.w] else l ++ [p]
def puts (l ps : List Prt) : List Prt := ps.foldl putP l
abbrev opsL : List Nm := [[58,45],[58,61],[58,63],[58,43],[37,37],[35,35],[45],[61],[63],[43],[37],[35]]
def opOf (s : Nm) : Option Nm := opsL.find? (fun o => has o s)
/-- The last part of a brace: behind its name. -/
def restM (w : Nm → M (List Prt × Nm)) (t s : Nm) : M (Prt × Nm) :=
  if has [125] s then ret (.mk 3 t [] false [], s.drop 1)
  else match opOf s with
    | none => err 11
    | some o => bnd (w (s.drop o.length)) fun x => ret (.mk 3 t o false x.1, x.2)
def lenForm (s : Nm) : Bool := has [35] s && decide (0 < paramLen (s.drop 1)) && has [125] ((s.drop 1).drop (paramLen (s.drop 1)))
def braceM (w : Nm → M (List Prt × Nm)) (s : Nm) : M (Prt × Nm) :=
  if lenForm s then ret (.mk 3 ((s.drop 1).take (paramLen (s.drop 1))) [108, 101, 110] false [], ((s.drop 1).drop (paramLen (s.drop 1))).drop 1)
  else if max (paramLen s) (digLen s) = 0 then err 11
  else restM w (s.take (max (paramLen s) (digLen s))) (s.drop (max (paramLen s) (digLen s)))
/-- Behind a $. -/
def dollarM (w : Nm → M (List Prt × Nm)) (deep : Nat) (q : Bool) (s : Nm) : M Em :=
  if has [123] s then
    if deep = 8 then err 21 else bnd (braceM w (s.drop 1)) fun x => ret ([.mk 3 x.1.t x.1.o q x.1.w], x.2)
  else if has [40, 40] s then bnd (arithM 0 (s.drop 2)) fun x => ret ([.mk 4 x.1 [] q []], x.2)
  else if has [40] s then err 11
  else if 0 < paramLen s then ret ([.mk 3 (s.take (paramLen s)) [] q []], s.drop (paramLen s))
  else ret ([.mk (if q then 2 else 1) [36] [] false []], s)
def innerM (w : Nm → M (List Prt × Nm)) (deep : Nat) (some : Nm) : Nm → M Em
  | [] => err 11
  | c :: r =>
    if c = 36 then dollarM w deep true r
    else if c = 96 then err 11
    else if c = 92 then (match r with
      | [] => err 11
      | d :: r' => ret ([.mk 2 (if some.contains d then [d] else [92, d]) [] false []], r'))
    else ret ([.mk 2 [c] [] false []], r)
abbrev escs : Nm := [36, 96, 34, 92]
/-- Behind a quote. -/
def quotedM (inner : Nm → M Em) (f : Nat) (s : Nm) : M Em :=
  bnd (loopM inner (has [34]) f s) fun x => ret ((if has [34] s then [.mk 2 [] [] false []] else []) ++ x.1, x.2.drop 1)
def cutAt (c : UInt8) : Nm → Option (Nm × Nm)
  | [] => none
  | d :: r => if d = c then some ([], r) else (cutAt c r).map fun x => (d :: x.1, x.2)
mutual
def partM : Nat → Nat → Nm → M Em
  | 0, _, _ => none
  | _ + 1, _, [] => err 11
  | f + 1, deep, c :: r =>
    if c = 92 then (match r with
      | [] => err 11
      | d :: r' => ret ([.mk 2 [d] [] false []], r'))
    else if c = 39 then (match cutAt 39 r with
      | none => err 11
      | some x => ret ([.mk 2 x.1 [] false []], x.2))
    else if c = 34 then quotedM (innerM (withinM f deep) deep escs) f r
    else if c = 36 then dollarM (withinM f deep) deep false r
    else if c = 96 then err 11
    else ret ([.mk 1 [c] [] false []], r)
def withinM : Nat → Nat → Nm → M (List Prt × Nm)
  | 0, _, _ => none
  | f + 1, deep, s => bnd (loopM (partM f (deep + 1)) (has [125]) f s) fun x => ret (puts [] x.1, x.2.drop 1)
end
def isTilde (s : Nm) : Bool := s == [126] || has [126, 47] s
def parseE (f : Nat) (s : Nm) : M Em :=
  if isTilde s then bnd (loopM (partM f 0) (·.isEmpty) f (s.drop 1)) fun x => ret (.mk 5 [] [] false [] :: x.1, x.2)
  else loopM (partM f 0) (·.isEmpty) f s
def parseM (f : Nat) (s : Nm) : M (List Prt) := bnd (parseE f s) fun x => ret (puts [] x.1)
def bodyM (f : Nat) (s : Nm) : M (List Prt) := bnd (loopM (innerM (withinM f 0) 0 [36, 96, 92]) (·.isEmpty) f s) fun x => ret (puts [] x.1)
/-! ### What holds of whatever is read -/
def Sat {α : Type} (E : Int → Prop) (P : α → Prop) : M α → Prop
  | none => True
  | some (.error e) => E e
  | some (.ok a) => P a
theorem sat_bnd {α β : Type} {E : Int → Prop} {P : α → Prop} {Q : β → Prop} {x : M α} {f : α → M β} (h : Sat E P x) (hf : ∀ a, P a → Sat E Q (f a)) : Sat E Q (bnd x f) := by
  match x, h with
  | none, _ => trivial
  | some (.error e), h => exact h
  | some (.ok a), h => exact hf a h
theorem sat_mono {α : Type} {E : Int → Prop} {P Q : α → Prop} {x : M α} (h : Sat E P x) (hf : ∀ a, P a → Q a) : Sat E Q x := by
  match x, h with
  | none, _ => trivial
  | some (.error e), h => exact h
  | some (.ok a), h => exact hf a h
def E2 (e : Int) : Prop := e = 11 ∨ e = 21
theorem sat_err11 {α : Type} {P : α → Prop} : Sat E2 P (err 11) := .inl rfl
def wt (l : List Prt) : Nat := (l.map fun p => p.t.length + 1).sum
theorem wt_cons (p : Prt) (l : List Prt) : wt (p :: l) = p.t.length + 1 + wt l := by simp [wt]
theorem wt_append (l m : List Prt) : wt (l ++ m) = wt l + wt m := by simp [wt]
theorem wt_nil : wt [] = 0 := rfl
/-- How a part may be, but for where it stands. -/
structure Fine (p : Prt) : Prop where
  lo : 1 ≤ p.k
  hi : p.k ≤ 4
  op : p.k ≠ 3 → p.o = [] ∧ p.w = []
  tx : p.k = 1 → p.t ≠ []
def TidyN : Nat → List Prt → Prop
  | 0, l => l = []
  | n + 1, l => (∀ p ∈ l, Fine p ∧ TidyN n p.w) ∧ ∀ i (h : i + 1 < l.length), ¬ (l[i + 1].k ≤ 2 ∧ l[i].k = l[i + 1].k)
theorem tidy_up : ∀ {n : Nat} {l : List Prt}, TidyN n l → TidyN (n + 1) l
  | 0, l, h => by subst h; exact ⟨fun p hp => absurd hp (List.not_mem_nil), fun i h => absurd h (Nat.not_lt_zero _)⟩
  | n + 1, l, h => ⟨fun p hp => ⟨(h.1 p hp).1, tidy_up (h.1 p hp).2⟩, h.2⟩
theorem tidy_le {n m : Nat} {l : List Prt} (h : TidyN n l) (hm : n ≤ m) : TidyN m l := by
  induction hm with
  | refl => exact h
  | step _ ih => exact tidy_up ih
theorem tidy_nil (n : Nat) : TidyN n [] := tidy_le (n := 0) rfl (Nat.zero_le _)
/-- An emitted part. -/
def GoodN (n : Nat) (p : Prt) : Prop := Fine p ∧ TidyN n p.w
theorem fine_lit {t : Nm} (h : t ≠ []) (n : Nat) : GoodN n (.mk 1 t [] false []) := ⟨⟨(by decide : 1 ≤ 1), (by decide : 1 ≤ 4), fun _ => ⟨rfl, rfl⟩, fun _ => h⟩, tidy_nil _⟩
theorem fine_quo (t : Nm) (n : Nat) : GoodN n (.mk 2 t [] false []) := ⟨⟨(by decide : 1 ≤ 2), (by decide : 2 ≤ 4), fun _ => ⟨rfl, rfl⟩, fun h => absurd h (by decide : ¬ 2 = 1)⟩, tidy_nil _⟩
theorem fine_par (t o : Nm) (q : Bool) {w : List Prt} {n : Nat} (h : TidyN n w) : GoodN n (.mk 3 t o q w) := ⟨⟨(by decide : 1 ≤ 3), (by decide : 3 ≤ 4), fun h => absurd rfl h, fun h => absurd h (by decide : ¬ 3 = 1)⟩, h⟩
theorem fine_ari (t : Nm) (q : Bool) (n : Nat) : GoodN n (.mk 4 t [] q []) := ⟨⟨(by decide : 1 ≤ 4), (by decide : 4 ≤ 4), fun _ => ⟨rfl, rfl⟩, fun h => absurd h (by decide : ¬ 4 = 1)⟩, tidy_nil _⟩
/-- What a step leaves of a text: less, and what it emits is fine. -/
def Less (n : Nat) (s : Nm) (x : Em) : Prop := x.2.length < s.length ∧ wt x.1 + 2 * x.2.length ≤ 2 * s.length ∧ ∀ p ∈ x.1, GoodN n p
def LessE (n : Nat) (s : Nm) (x : Em) : Prop := x.2.length ≤ s.length ∧ wt x.1 + 2 * x.2.length ≤ 2 * s.length ∧ ∀ p ∈ x.1, GoodN n p
theorem loop_sat {n : Nat} {step : Nm → M Em} {stop : Nm → Bool} (hs : ∀ s, Sat E2 (Less n s) (step s)) : ∀ (f : Nat) (s : Nm), Sat E2 (fun x => LessE n s x ∧ stop x.2 = true) (loopM step stop f s)
  | 0, _ => trivial
  | f + 1, s => by
    unfold loopM
    split
    · rename_i h
      exact ⟨⟨Nat.le_refl _, by show wt [] + 2 * s.length ≤ _; rw [wt_nil]; omega, fun p hp => absurd hp List.not_mem_nil⟩, h⟩
    · refine sat_bnd (hs s) fun x hx => sat_bnd (loop_sat hs f x.2) fun y hy => ⟨⟨?_, ?_, ?_⟩, hy.2⟩
      · have := hx.1; have := hy.1.1; show y.2.length ≤ _; omega
      · have := hx.2.1; have := hy.1.2.1; show wt (x.1 ++ y.1) + 2 * y.2.length ≤ _; rw [wt_append]; omega
      · intro p hp
        rcases List.mem_append.1 hp with h | h
        · exact hx.2.2 p h
        · exact hy.1.2.2 p h
theorem arith_sat : ∀ (s : Nm) (d : Nat), Sat E2 (fun x : Nm × Nm => x.1.length + x.2.length + 2 ≤ s.length) (arithM d s)
  | [], d => sat_err11
  | c :: r, d => by
    unfold arithM
    have hc : ∀ d', Sat E2 (fun x : Nm × Nm => x.1.length + x.2.length + 2 ≤ (c :: r).length) (bnd (arithM d' r) fun x => ret (c :: x.1, x.2)) := fun d' =>
      sat_bnd (arith_sat r d') fun x hx => by show (c :: x.1).length + x.2.length + 2 ≤ _; simp only [List.length_cons]; omega
    split
    · rename_i h
      match r, h with
      | [], h => simp [has, List.isPrefixOf] at h
      | b :: r', h => show 0 + _ + 2 ≤ _; simp
    · split
      · split
        · exact sat_err11
        · exact hc _
      · split
        · exact hc _
        · exact hc _
theorem nameLen_le (s : Nm) : nameLen s ≤ s.length := by
  unfold nameLen
  split
  · exact Nat.le_refl _
  · split
    · simp only [List.length_cons]
      have := (List.takeWhile_sublist (p := fun c => ltrB c || digB c) (l := ‹Nm›)).length_le
      omega
    · exact Nat.zero_le _
theorem paramLen_le (s : Nm) : paramLen s ≤ s.length := by
  unfold paramLen
  split
  · split
    · exact Nat.le_refl _
    · split <;> simp
  · exact nameLen_le s
theorem digLen_le (s : Nm) : digLen s ≤ s.length := (List.takeWhile_sublist _).length_le
theorem has_len {p s : Nm} (h : has p s = true) : p.length ≤ s.length := by
  unfold has at h
  exact (List.isPrefixOf_iff_prefix.1 h).length_le
theorem opOf_has {s o : Nm} (h : opOf s = some o) : has o s = true ∧ o ∈ opsL := ⟨by simpa using List.find?_some h, List.mem_of_find?_eq_some h⟩
theorem ops_pos {o : Nm} (h : o ∈ opsL) : 1 ≤ o.length := by
  simp [opsL] at h
  rcases h with rfl | rfl | rfl | rfl | rfl | rfl | rfl | rfl | rfl | rfl | rfl | rfl <;> decide
/-- What is within a brace. -/
def Within (n : Nat) (s : Nm) (x : List Prt × Nm) : Prop := x.2.length < s.length ∧ TidyN n x.1
/-- A brace's part: its name, and what it is. -/
def Brace (n : Nat) (s : Nm) (x : Prt × Nm) : Prop := x.1.k = 3 ∧ x.1.q = false ∧ x.1.t.length + x.2.length + 1 ≤ s.length ∧ TidyN n x.1.w
theorem rest_sat {n : Nat} {w : Nm → M (List Prt × Nm)} (hw : ∀ s, Sat E2 (Within n s) (w s)) (t s : Nm) : Sat E2 (fun x : Prt × Nm => x.1.k = 3 ∧ x.1.q = false ∧ x.1.t = t ∧ x.2.length < s.length ∧ TidyN n x.1.w) (restM w t s) := by
  unfold restM
  split
  · rename_i h
    refine ⟨rfl, rfl, rfl, ?_, tidy_nil _⟩
    have := has_len h
    simp at this ⊢
    omega
  · split
    · exact sat_err11
    · rename_i o ho
      refine sat_bnd (hw _) fun x hx => ⟨rfl, rfl, rfl, ?_, hx.2⟩
      have h1 := hx.1
      have h2 := has_len (opOf_has ho).1
      have h3 := ops_pos (opOf_has ho).2
      rw [List.length_drop] at h1
      show x.2.length < _
      omega
theorem brace_sat {n : Nat} {w : Nm → M (List Prt × Nm)} (hw : ∀ s, Sat E2 (Within n s) (w s)) (s : Nm) : Sat E2 (Brace n s) (braceM w s) := by
  unfold braceM
  split
  · rename_i h
    unfold lenForm at h
    simp only [Bool.and_eq_true] at h
    have h1 := has_len h.1.1
    have h2 := has_len h.2
    have h3 := paramLen_le (s.drop 1)
    refine ⟨rfl, rfl, ?_, tidy_nil _⟩
    show (List.take _ _).length + (List.drop _ _).length + 1 ≤ _
    simp at *
    omega
  · split
    · exact sat_err11
    · refine sat_mono (rest_sat hw _ _) fun x hx => ⟨hx.1, hx.2.1, ?_, hx.2.2.2.2⟩
      have h1 := hx.2.2.1
      have h2 := hx.2.2.2.1
      have h3 : max (paramLen s) (digLen s) ≤ s.length := Nat.max_le.2 ⟨paramLen_le s, digLen_le s⟩
      rw [h1, List.length_take]
      rw [List.length_drop] at h2
      omega
theorem dollar_sat {n : Nat} {w : Nm → M (List Prt × Nm)} (hw : ∀ s, Sat E2 (Within n s) (w s)) (deep : Nat) (q : Bool) (s : Nm) (c : UInt8) : Sat E2 (Less n (c :: s)) (dollarM w deep q s) := by
  unfold dollarM
  split
  · split
    · exact .inr rfl
    · refine sat_bnd (brace_sat hw _) fun x hx => ?_
      have h1 := hx.2.2.1
      rw [List.length_drop] at h1
      refine ⟨?_, ?_, ?_⟩
      · show x.2.length < _; simp; omega
      · show wt [_] + 2 * x.2.length ≤ _; rw [wt_cons, wt_nil]; show x.1.t.length + 1 + 0 + _ ≤ _; simp; omega
      · intro p hp
        obtain rfl := List.mem_singleton.1 hp
        exact fine_par _ _ _ hx.2.2.2
  · split
    · refine sat_bnd (arith_sat _ _) fun x hx => ?_
      rw [List.length_drop] at hx
      refine ⟨?_, ?_, ?_⟩
      · show x.2.length < _; simp; omega
      · show wt [_] + 2 * x.2.length ≤ _; rw [wt_cons, wt_nil]; show x.1.length + 1 + 0 + _ ≤ _; simp; omega
      · intro p hp
        obtain rfl := List.mem_singleton.1 hp
        exact fine_ari _ _ _
    · split
      · exact sat_err11
      · split
        · have h := paramLen_le s
          refine ⟨?_, ?_, ?_⟩
          · show (List.drop _ _).length < _; simp; omega
          · show wt [_] + 2 * (List.drop _ _).length ≤ _; rw [wt_cons, wt_nil]; show (List.take _ _).length + 1 + 0 + _ ≤ _; simp; omega
          · intro p hp
            obtain rfl := List.mem_singleton.1 hp
            exact fine_par _ _ _ (tidy_nil _)
        · refine ⟨?_, ?_, ?_⟩
          · show s.length < _; simp
          · show wt [_] + 2 * s.length ≤ _; rw [wt_cons, wt_nil]; show 1 + 1 + 0 + _ ≤ _; simp; omega
          · intro p hp
            obtain rfl := List.mem_singleton.1 hp
            cases q
            · exact fine_lit (by decide) _
            · exact fine_quo _ _
theorem inner_sat {n : Nat} {w : Nm → M (List Prt × Nm)} (hw : ∀ s, Sat E2 (Within n s) (w s)) (deep : Nat) (some : Nm) (s : Nm) : Sat E2 (Less n s) (innerM w deep some s) := by
  unfold innerM
  split
  · exact sat_err11
  · split
    · exact dollar_sat hw _ _ _ _
    · split
      · exact sat_err11
      · split
        · split
          · exact sat_err11
          · refine ⟨by simp; omega, ?_, ?_⟩
            · show wt [_] + 2 * _ ≤ _; rw [wt_cons, wt_nil]
              split
              · show 1 + 1 + 0 + _ ≤ _; simp; omega
              · show 2 + 1 + 0 + _ ≤ _; simp; omega
            · intro p hp
              obtain rfl := List.mem_singleton.1 hp
              exact fine_quo _ _
        · refine ⟨by simp, ?_, ?_⟩
          · show wt [_] + 2 * _ ≤ _; rw [wt_cons, wt_nil]; show 1 + 1 + 0 + _ ≤ _; simp; omega
          · intro p hp
            obtain rfl := List.mem_singleton.1 hp
            exact fine_quo _ _
theorem quoted_sat {n : Nat} {inner : Nm → M Em} (hi : ∀ s, Sat E2 (Less n s) (inner s)) (f : Nat) (s : Nm) (c : UInt8) : Sat E2 (Less n (c :: s)) (quotedM inner f s) := by
  unfold quotedM
  refine sat_bnd (loop_sat hi f s) fun x hx => ?_
  obtain ⟨⟨h1, h2, h3⟩, h4⟩ := hx
  have h5 := has_len h4
  have h6 : wt (if has [34] s then [Prt.mk 2 [] [] false []] else []) ≤ 1 := by split <;> simp [wt, Prt.t]
  simp at h5
  refine ⟨?_, ?_, ?_⟩
  · show (List.drop _ _).length < _; simp; omega
  · show wt (_ ++ _) + 2 * (List.drop _ _).length ≤ _; rw [wt_append]; simp; omega
  · intro p hp
    rcases List.mem_append.1 hp with h | h
    · split at h
      · obtain rfl := List.mem_singleton.1 h
        exact fine_quo _ _
      · cases h
    · exact h3 p h
theorem cut_len {c : UInt8} : ∀ {s : Nm} {x : Nm × Nm}, cutAt c s = some x → x.1.length + x.2.length + 1 = s.length
  | [], x, h => by cases h
  | d :: r, x, h => by
    unfold cutAt at h
    split at h
    · injection h with h; subst h; simp
    · obtain ⟨y, hy, rfl⟩ := Option.map_eq_some_iff.1 h
      have := cut_len hy
      simp; omega
/-! Rows of parts that are put -/
def Adj (l : List Prt) : Prop := ∀ i (h : i + 1 < l.length), ¬ (l[i + 1].k ≤ 2 ∧ l[i].k = l[i + 1].k)
theorem put_nil (p : Prt) : putP [] p = [p] := rfl
theorem put_snoc (l : List Prt) (x p : Prt) : putP (l ++ [x]) p = if p.k ≤ 2 ∧ x.k = p.k then l ++ [.mk x.k (x.t ++ p.t) x.o x.q x.w] else l ++ [x, p] := by
  unfold putP
  rw [List.getLast?_concat, List.dropLast_concat]
  simp
theorem snoc_cases (l : List Prt) : l = [] ∨ ∃ m x, l = m ++ [x] := by
  rcases List.eq_nil_or_concat l with h | ⟨m, x, h⟩
  · exact .inl h
  · exact .inr ⟨m, x, by rw [h, List.concat_eq_append]⟩
theorem adj_snoc {m : List Prt} {x : Prt} (h : Adj m) (hx : ∀ y, m.getLast? = some y → ¬ (x.k ≤ 2 ∧ y.k = x.k)) : Adj (m ++ [x]) := by
  intro i hi
  rw [List.length_append, List.length_singleton] at hi
  by_cases h1 : i + 1 < m.length
  · rw [List.getElem_append_left h1, List.getElem_append_left (by omega)]
    exact h i h1
  · have h2 : i + 1 = m.length := by omega
    rw [List.getElem_append_right (by omega), List.getElem_append_left (by omega)]
    simp only [h2, Nat.sub_self, List.getElem_cons_zero]
    refine hx _ ?_
    rw [List.getLast?_eq_getElem?, show m.length - 1 = i by omega, List.getElem?_eq_getElem]
theorem adj_pre {m n : List Prt} (h : Adj (m ++ n)) : Adj m := by
  intro i hi
  have := h i (by rw [List.length_append]; omega)
  rw [List.getElem_append_left hi, List.getElem_append_left (by omega)] at this
  exact this
theorem adj_last {m : List Prt} {x : Prt} (h : Adj (m ++ [x])) : ∀ y, m.getLast? = some y → ¬ (x.k ≤ 2 ∧ y.k = x.k) := by
  intro y hy
  rcases snoc_cases m with rfl | ⟨m', z, rfl⟩
  · cases hy
  · rw [List.getLast?_concat] at hy
    injection hy with hy
    subst hy
    have := h m'.length (by simp)
    rw [List.getElem_append_right (by simp), List.getElem_append_left (by simp)] at this
    simpa using this
theorem put_adj {l : List Prt} {p : Prt} (h : Adj l) : Adj (putP l p) := by
  rcases snoc_cases l with rfl | ⟨m, x, rfl⟩
  · rw [put_nil]; intro i hi; simp at hi
  · rw [put_snoc]
    split
    · exact adj_snoc (adj_pre h) (adj_last (x := x) h)
    · rename_i hn
      have e : m ++ [x, p] = (m ++ [x]) ++ [p] := by simp
      rw [e]
      refine adj_snoc h ?_
      intro y hy
      rw [List.getLast?_concat] at hy
      injection hy with hy
      subst hy
      exact hn
theorem put_good {n : Nat} {l : List Prt} {p : Prt} (h : ∀ p ∈ l, GoodN n p) (hp : GoodN n p) : ∀ q ∈ putP l p, GoodN n q := by
  rcases snoc_cases l with rfl | ⟨m, x, rfl⟩
  · rw [put_nil]; intro q hq; obtain rfl := List.mem_singleton.1 hq; exact hp
  · rw [put_snoc]
    split
    · rename_i hc
      intro q hq
      rcases List.mem_append.1 hq with hq | hq
      · exact h q (List.mem_append.2 (.inl hq))
      · obtain rfl := List.mem_singleton.1 hq
        obtain ⟨⟨h1, h2, h3, h4⟩, h5⟩ := h x (List.mem_append.2 (.inr List.mem_cons_self))
        refine ⟨⟨h1, h2, h3, fun hk => ?_⟩, h5⟩
        show x.t ++ p.t ≠ []
        have := h4 hk
        simp [this]
    · intro q hq
      rcases List.mem_append.1 hq with hq | hq
      · exact h q (List.mem_append.2 (.inl hq))
      · rcases List.mem_cons.1 hq with rfl | hq
        · exact h q (List.mem_append.2 (.inr List.mem_cons_self))
        · obtain rfl := List.mem_singleton.1 hq
          exact hp
theorem puts_tidy {n : Nat} : ∀ (ps l : List Prt), Adj l → (∀ p ∈ l, GoodN n p) → (∀ p ∈ ps, GoodN n p) → Adj (puts l ps) ∧ ∀ p ∈ puts l ps, GoodN n p
  | [], l, h1, h2, _ => ⟨h1, h2⟩
  | p :: ps, l, h1, h2, h3 => puts_tidy ps (putP l p) (put_adj h1) (put_good h2 (h3 p List.mem_cons_self)) fun q hq => h3 q (List.mem_cons_of_mem _ hq)
theorem adj_nil : Adj [] := fun i h => absurd h (Nat.not_lt_zero _)
mutual
theorem part_sat : ∀ (f deep : Nat) (s : Nm), Sat E2 (Less f s) (partM f deep s)
  | 0, _, _ => by unfold partM; trivial
  | f + 1, deep, [] => by unfold partM; exact sat_err11
  | f + 1, deep, c :: r => by
    have hw := within_sat f deep
    have up : ∀ s x, Less f s x → Less (f + 1) s x := fun s x h => ⟨h.1, h.2.1, fun p hp => ⟨(h.2.2 p hp).1, tidy_up (h.2.2 p hp).2⟩⟩
    unfold partM
    split
    · split
      · exact sat_err11
      · refine ⟨by simp; omega, ?_, ?_⟩
        · show wt [_] + 2 * _ ≤ _; rw [wt_cons, wt_nil]; show 1 + 1 + 0 + _ ≤ _; simp; omega
        · intro p hp
          obtain rfl := List.mem_singleton.1 hp
          exact fine_quo _ _
    · split
      · split
        · exact sat_err11
        · rename_i x hx
          have := cut_len hx
          refine ⟨by simp; omega, ?_, ?_⟩
          · show wt [_] + 2 * _ ≤ _; rw [wt_cons, wt_nil]; show x.1.length + 1 + 0 + _ ≤ _; simp; omega
          · intro p hp
            obtain rfl := List.mem_singleton.1 hp
            exact fine_quo _ _
      · split
        · exact sat_mono (quoted_sat (fun s => inner_sat hw _ _ s) _ _ _) (up _)
        · split
          · exact sat_mono (dollar_sat hw _ _ _ _) (up _)
          · split
            · exact sat_err11
            · refine ⟨by simp, ?_, ?_⟩
              · show wt [_] + 2 * _ ≤ _; rw [wt_cons, wt_nil]; show 1 + 1 + 0 + _ ≤ _; simp; omega
              · intro p hp
                obtain rfl := List.mem_singleton.1 hp
                exact fine_lit (by simp) _
theorem within_sat : ∀ (f deep : Nat) (s : Nm), Sat E2 (Within f s) (withinM f deep s)
  | 0, _, _ => by unfold withinM; trivial
  | f + 1, deep, s => by
    unfold withinM
    refine sat_bnd (loop_sat (part_sat f (deep + 1)) f s) fun x hx => ⟨?_, ?_⟩
    · have h1 := hx.1.1
      have h2 := has_len hx.2
      simp at h2
      show (List.drop _ _).length < _
      simp; omega
    · have := puts_tidy x.1 [] adj_nil (fun p hp => absurd hp List.not_mem_nil) hx.1.2.2
      exact ⟨this.2, this.1⟩
end
/-! ### More fuel -/
def Le {α : Type} (x y : M α) : Prop := x = none ∨ x = y
theorem le_refl {α : Type} (x : M α) : Le x x := .inr rfl
theorem le_bnd {α β : Type} {x y : M α} {f g : α → M β} (h : Le x y) (hf : ∀ a, Le (f a) (g a)) : Le (bnd x f) (bnd y g) := by
  rcases h with rfl | rfl
  · exact .inl rfl
  · match x with
    | none => exact .inl rfl
    | some (.error e) => exact .inr rfl
    | some (.ok a) => exact hf a
theorem le_loop {step step' : Nm → M Em} {stop : Nm → Bool} (hs : ∀ s, Le (step s) (step' s)) : ∀ {f g : Nat} (s : Nm), f ≤ g → Le (loopM step stop f s) (loopM step' stop g s)
  | 0, _, _, _ => .inl rfl
  | f + 1, 0, _, h => absurd h (by omega)
  | f + 1, g + 1, s, h => by
    unfold loopM
    split
    · exact le_refl _
    · exact le_bnd (hs s) fun a => le_bnd (le_loop hs a.2 (by omega)) fun b => le_refl _
theorem le_rest {w w' : Nm → M (List Prt × Nm)} (hw : ∀ s, Le (w s) (w' s)) (t s : Nm) : Le (restM w t s) (restM w' t s) := by
  unfold restM
  split
  · exact le_refl _
  · split
    · exact le_refl _
    · exact le_bnd (hw _) fun a => le_refl _
theorem le_brace {w w' : Nm → M (List Prt × Nm)} (hw : ∀ s, Le (w s) (w' s)) (s : Nm) : Le (braceM w s) (braceM w' s) := by
  unfold braceM
  split
  · exact le_refl _
  · split
    · exact le_refl _
    · exact le_rest hw _ _
theorem le_dollar {w w' : Nm → M (List Prt × Nm)} (hw : ∀ s, Le (w s) (w' s)) (deep : Nat) (q : Bool) (s : Nm) : Le (dollarM w deep q s) (dollarM w' deep q s) := by
  unfold dollarM
  split
  · split
    · exact le_refl _
    · exact le_bnd (le_brace hw _) fun a => le_refl _
  · exact le_refl _
theorem le_inner {w w' : Nm → M (List Prt × Nm)} (hw : ∀ s, Le (w s) (w' s)) (deep : Nat) (some s : Nm) : Le (innerM w deep some s) (innerM w' deep some s) := by
  unfold innerM
  split
  · exact le_refl _
  · split
    · exact le_dollar hw _ _ _
    · exact le_refl _
theorem le_quoted {i i' : Nm → M Em} (hw : ∀ s, Le (i s) (i' s)) {f g : Nat} (h : f ≤ g) (s : Nm) : Le (quotedM i f s) (quotedM i' g s) := by
  unfold quotedM
  exact le_bnd (le_loop hw s h) fun a => le_refl _
mutual
theorem le_part : ∀ {f g : Nat} (deep : Nat) (s : Nm), f ≤ g → Le (partM f deep s) (partM g deep s)
  | 0, _, _, _, _ => by unfold partM; exact .inl rfl
  | f + 1, 0, _, _, h => absurd h (by omega)
  | f + 1, g + 1, deep, [], _ => by unfold partM; exact .inr rfl
  | f + 1, g + 1, deep, c :: r, h => by
    have hw : ∀ s, Le (withinM f deep s) (withinM g deep s) := fun s => le_within deep s (by omega)
    unfold partM
    split
    · exact le_refl _
    · split
      · exact le_refl _
      · split
        · exact le_quoted (fun s => le_inner hw _ _ _) (by omega) _
        · split
          · exact le_dollar hw _ _ _
          · exact le_refl _
theorem le_within : ∀ {f g : Nat} (deep : Nat) (s : Nm), f ≤ g → Le (withinM f deep s) (withinM g deep s)
  | 0, _, _, _, _ => by unfold withinM; exact .inl rfl
  | f + 1, 0, _, _, h => absurd h (by omega)
  | f + 1, g + 1, deep, s, h => by
    unfold withinM
    exact le_bnd (le_loop (fun s => le_part _ s (by omega)) s (by omega)) fun a => le_refl _
end
theorem le_parse {f g : Nat} (s : Nm) (h : f ≤ g) : Le (parseM f s) (parseM g s) := by
  unfold parseM parseE
  refine le_bnd ?_ fun a => le_refl _
  split
  · exact le_bnd (le_loop (fun s => le_part _ s h) _ h) fun a => le_refl _
  · exact le_loop (fun s => le_part _ s h) _ h
theorem le_eq {α : Type} {x y : M α} {a : Except Int α} (h : Le x y) (hx : x = some a) : y = some a := by
  rcases h with h | h
  · rw [h] at hx; cases hx
  · rw [← h]; exact hx
theorem parse_det {f g : Nat} {s : Nm} {a b : Except Int (List Prt)} (h : parseM f s = some a) (h2 : parseM g s = some b) : a = b := by
  have h3 := le_eq (le_parse s (Nat.le_max_left f g)) h
  have h4 := le_eq (le_parse s (Nat.le_max_right f g)) h2
  rw [h3] at h4
  exact Option.some.inj h4
/-! ### What stands behind -/
/-- What is read is read with a quote behind. -/
def Ext {α : Type} (t : Nm) (x y : M (α × Nm)) : Prop := ∀ a s, x = some (.ok (a, s)) → y = some (.ok (a, s ++ t))
theorem ext_err {α : Type} {t : Nm} {e : Int} {y : M (α × Nm)} : Ext t (err e) y := fun a s h => by cases h
theorem ext_ret {α : Type} {t s : Nm} {a : α} : Ext t (ret (a, s)) (ret (a, s ++ t)) := fun b u h => by cases h; rfl
theorem ext_bnd {α β : Type} {t : Nm} {x y : M (α × Nm)} {f g : α × Nm → M (β × Nm)} (h : Ext t x y) (hf : ∀ a s, Ext t (f (a, s)) (g (a, s ++ t))) : Ext t (bnd x f) (bnd y g) := by
  intro b u hb
  match x, h, hb with
  | none, h, hb => cases hb
  | some (.error e), h, hb => cases hb
  | some (.ok (a, s)), h, hb =>
    rw [h a s rfl]
    exact hf a s b u hb
theorem has_ext {p s t : Nm} (hp : (39 : UInt8) ∉ p) : has p (s ++ 39 :: t) = has p s := by
  unfold has
  rw [Bool.eq_iff_iff, List.isPrefixOf_iff_prefix, List.isPrefixOf_iff_prefix]
  constructor
  · intro h
    rcases Nat.lt_or_ge s.length p.length with h2 | h2
    · exfalso
      obtain ⟨u, hu⟩ := h
      have h3 : (s ++ 39 :: t)[s.length]? = some 39 := by rw [List.getElem?_append_right (Nat.le_refl _)]; simp
      rw [← hu, List.getElem?_append_left h2] at h3
      exact hp (List.mem_of_getElem? h3)
    · exact (List.prefix_append_right_inj []).1 (by
        have := List.prefix_of_prefix_length_le h (List.prefix_append s (39 :: t)) h2
        simpa using this)
  · intro h
    exact h.trans (List.prefix_append _ _)
theorem tw_ext {f : UInt8 → Bool} (hf : f 39 = false) (s t : Nm) : (s ++ 39 :: t).takeWhile f = s.takeWhile f := by
  induction s with
  | nil => simp [hf]
  | cons c r ih => simp only [List.cons_append, List.takeWhile_cons, ih]
theorem name_ext (s t : Nm) : nameLen (s ++ 39 :: t) = nameLen s := by
  match s with
  | [] => rfl
  | c :: r =>
    show (if ltrB c then 1 + ((r ++ 39 :: t).takeWhile _).length else 0) = _
    rw [tw_ext rfl]
    rfl
theorem param_ext (s t : Nm) : paramLen (s ++ 39 :: t) = paramLen s := by
  unfold paramLen
  rw [name_ext]
  split
  · match s with
    | [] => rfl
    | c :: r => rfl
  · rfl
theorem dig_ext (s t : Nm) : digLen (s ++ 39 :: t) = digLen s := by unfold digLen; rw [tw_ext rfl]
theorem find_congr {α : Type} {p q : α → Bool} : ∀ (l : List α), (∀ x ∈ l, p x = q x) → l.find? p = l.find? q
  | [], _ => rfl
  | x :: r, h => by
    rw [List.find?_cons, List.find?_cons, h x List.mem_cons_self, find_congr r fun y hy => h y (List.mem_cons_of_mem _ hy)]
theorem op_ext (s t : Nm) : opOf (s ++ 39 :: t) = opOf s := by
  unfold opOf
  refine find_congr _ fun o ho => has_ext ?_
  simp [opsL] at ho
  rcases ho with rfl | rfl | rfl | rfl | rfl | rfl | rfl | rfl | rfl | rfl | rfl | rfl <;> decide
theorem drop_ext {s t : Nm} {n : Nat} (h : n ≤ s.length) : (s ++ t).drop n = s.drop n ++ t := by rw [List.drop_append_of_le_length h]
theorem take_ext {s t : Nm} {n : Nat} (h : n ≤ s.length) : (s ++ t).take n = s.take n := by rw [List.take_append_of_le_length h]
theorem arith_ext (t : Nm) : ∀ (s : Nm) (d : Nat), Ext (39 :: t) (arithM d s) (arithM d (s ++ 39 :: t))
  | [], d => by unfold arithM; exact ext_err
  | c :: r, d => by
    have hc : ∀ d', Ext (39 :: t) (bnd (arithM d' r) fun x => ret (c :: x.1, x.2)) (bnd (arithM d' (r ++ 39 :: t)) fun x => ret (c :: x.1, x.2)) := fun d' => ext_bnd (arith_ext t r d') fun a s => ext_ret
    have hh := has_ext (p := [41, 41]) (s := c :: r) (t := t) (by decide)
    show Ext _ (arithM d (c :: r)) (arithM d (c :: (r ++ 39 :: t)))
    unfold arithM
    rw [show c :: (r ++ 39 :: t) = (c :: r) ++ 39 :: t from rfl, hh]
    split
    · rename_i h
      have := has_len h.2
      simp at this
      rw [drop_ext this]
      exact ext_ret
    · split
      · split
        · exact ext_err
        · exact hc _
      · split
        · exact hc _
        · exact hc _
theorem loop_ext {t : Nm} {step : Nm → M Em} {stop : Nm → Bool} (hst : ∀ s, stop (s ++ t) = stop s) (hs : ∀ s, Ext t (step s) (step (s ++ t))) : ∀ (f : Nat) (s : Nm), Ext t (loopM step stop f s) (loopM step stop f (s ++ t))
  | 0, _ => fun a s h => by cases h
  | f + 1, s => by
    unfold loopM
    rw [hst]
    split
    · exact ext_ret
    · exact ext_bnd (hs s) fun a u => ext_bnd (loop_ext hst hs f u) fun b v => ext_ret
theorem rest_ext {t : Nm} {w : Nm → M (List Prt × Nm)} (hw : ∀ s, Ext (39 :: t) (w s) (w (s ++ 39 :: t))) (n s : Nm) : Ext (39 :: t) (restM w n s) (restM w n (s ++ 39 :: t)) := by
  unfold restM
  rw [has_ext (by decide), op_ext]
  split
  · rename_i h
    rw [drop_ext (by have := has_len h; simpa using this)]
    exact ext_ret
  · split
    · exact ext_err
    · rename_i o ho
      rw [drop_ext (has_len (opOf_has ho).1)]
      exact ext_bnd (hw _) fun a s => ext_ret
theorem len_ext (s t : Nm) : lenForm (s ++ 39 :: t) = lenForm s := by
  unfold lenForm
  rw [has_ext (by decide)]
  by_cases h : has [35] s = true
  · have h1 := has_len h
    rw [drop_ext (by simpa using h1), param_ext, drop_ext (paramLen_le _), has_ext (by decide)]
  · simp [h]
theorem brace_ext {t : Nm} {w : Nm → M (List Prt × Nm)} (hw : ∀ s, Ext (39 :: t) (w s) (w (s ++ 39 :: t))) (s : Nm) : Ext (39 :: t) (braceM w s) (braceM w (s ++ 39 :: t)) := by
  unfold braceM
  rw [len_ext, param_ext, dig_ext]
  split
  · rename_i h
    unfold lenForm at h
    simp only [Bool.and_eq_true] at h
    have h1 : 1 ≤ s.length := by simpa using has_len h.1.1
    have h2 : 1 ≤ ((s.drop 1).drop (paramLen (s.drop 1))).length := by simpa using has_len h.2
    rw [drop_ext h1, param_ext, take_ext (paramLen_le _), drop_ext (paramLen_le _), drop_ext h2]
    exact ext_ret
  · split
    · exact ext_err
    · have h : max (paramLen s) (digLen s) ≤ s.length := Nat.max_le.2 ⟨paramLen_le s, digLen_le s⟩
      rw [take_ext h, drop_ext h]
      exact rest_ext hw _ _
theorem dollar_ext {t : Nm} {w : Nm → M (List Prt × Nm)} (hw : ∀ s, Ext (39 :: t) (w s) (w (s ++ 39 :: t))) (deep : Nat) (q : Bool) (s : Nm) : Ext (39 :: t) (dollarM w deep q s) (dollarM w deep q (s ++ 39 :: t)) := by
  unfold dollarM
  rw [has_ext (by decide), has_ext (by decide), has_ext (by decide), param_ext]
  split
  · rename_i h
    split
    · exact ext_err
    · rw [drop_ext (by simpa using has_len h)]
      exact ext_bnd (brace_ext hw _) fun a s => ext_ret
  · split
    · rename_i h
      rw [drop_ext (by simpa using has_len h)]
      exact ext_bnd (arith_ext _ _ _) fun a s => ext_ret
    · split
      · exact ext_err
      · split
        · rw [take_ext (paramLen_le _), drop_ext (paramLen_le _)]
          exact ext_ret
        · exact ext_ret
theorem inner_ext {t : Nm} {w : Nm → M (List Prt × Nm)} (hw : ∀ s, Ext (39 :: t) (w s) (w (s ++ 39 :: t))) (deep : Nat) (some s : Nm) : Ext (39 :: t) (innerM w deep some s) (innerM w deep some (s ++ 39 :: t)) := by
  match s with
  | [] => exact ext_err
  | c :: r =>
    show Ext _ (innerM w deep some (c :: r)) (innerM w deep some (c :: (r ++ 39 :: t)))
    unfold innerM
    simp only
    split
    · exact dollar_ext hw _ _ _
    · split
      · exact ext_err
      · split
        · match r with
          | [] => exact ext_err
          | d :: r' => exact ext_ret
        · exact ext_ret
theorem quoted_ext {t : Nm} {i : Nm → M Em} (hi : ∀ s, Ext (39 :: t) (i s) (i (s ++ 39 :: t))) (f : Nat) (s : Nm) : Ext (39 :: t) (quotedM i f s) (quotedM i f (s ++ 39 :: t)) := by
  unfold quotedM
  intro a u h
  have hl := loop_ext (stop := has [34]) (fun s => has_ext (t := t) (by decide)) hi f s
  rw [has_ext (by decide)]
  cases hx : loopM i (has [34]) f s with
  | none => rw [hx] at h; cases h
  | some x =>
    rw [hx] at h
    match x, hx, h with
    | .error e, hx, h => cases h
    | .ok (b, v), hx, h =>
      rw [hl b v hx]
      have hv : has [34] v = true := by
        have : ∀ (f : Nat) (s : Nm) (b : List Prt) (v : Nm), loopM i (has [34]) f s = some (.ok (b, v)) → has [34] v = true := by
          intro f
          induction f with
          | zero => intro s b v h; cases h
          | succ f ih =>
            intro s b v h
            unfold loopM at h
            split at h
            · rename_i h2; cases h; exact h2
            · cases h3 : i s with
              | none => rw [h3] at h; cases h
              | some y =>
                rw [h3] at h
                match y, h with
                | .error e, h => cases h
                | .ok y, h =>
                  cases h4 : loopM i (has [34]) f y.2 with
                  | none => simp only [bnd, h4] at h; cases h
                  | some z =>
                    simp only [bnd, h4] at h
                    match z, h4, h with
                    | .error e, h4, h => cases h
                    | .ok z, h4, h =>
                      cases h
                      exact ih _ _ _ h4
        exact this f s b v hx
      cases h
      show some (Except.ok (_, (v ++ 39 :: t).drop 1)) = _
      rw [drop_ext (by simpa using has_len hv)]
theorem cut_ext {c : UInt8} {t : Nm} : ∀ {s : Nm} {x : Nm × Nm}, cutAt c s = some x → cutAt c (s ++ t) = some (x.1, x.2 ++ t)
  | [], x, h => by cases h
  | d :: r, x, h => by
    unfold cutAt at h
    show cutAt c (d :: (r ++ t)) = _
    unfold cutAt
    split at h
    · rename_i hd
      rw [if_pos hd]
      injection h with h; subst h; rfl
    · rename_i hd
      rw [if_neg hd]
      obtain ⟨y, hy, rfl⟩ := Option.map_eq_some_iff.1 h
      rw [cut_ext hy]
      rfl
mutual
theorem part_ext (t : Nm) : ∀ (f deep : Nat) (s : Nm), Ext (39 :: t) (partM f deep s) (partM f deep (s ++ 39 :: t))
  | 0, _, _ => fun a s h => by unfold partM at h; cases h
  | f + 1, deep, [] => by unfold partM; exact ext_err
  | f + 1, deep, c :: r => by
    have hw := within_ext t f deep
    show Ext _ (partM (f + 1) deep (c :: r)) (partM (f + 1) deep (c :: (r ++ 39 :: t)))
    unfold partM
    split
    · match r with
      | [] => exact ext_err
      | d :: r' => exact ext_ret
    · split
      · cases hx : cutAt 39 r with
        | none => exact ext_err
        | some x => rw [cut_ext hx]; exact ext_ret
      · split
        · exact quoted_ext (fun s => inner_ext hw _ _ _) _ _
        · split
          · exact dollar_ext hw _ _ _
          · split
            · exact ext_err
            · exact ext_ret
theorem within_ext (t : Nm) : ∀ (f deep : Nat) (s : Nm), Ext (39 :: t) (withinM f deep s) (withinM f deep (s ++ 39 :: t))
  | 0, _, _ => fun a s h => by unfold withinM at h; cases h
  | f + 1, deep, s => by
    unfold withinM
    intro a u h
    have hl := loop_ext (stop := has [125]) (fun s => has_ext (t := t) (by decide)) (part_ext t f (deep + 1)) f s
    have hsat := loop_sat (stop := has [125]) (part_sat f (deep + 1)) f s
    cases hx : loopM (partM f (deep + 1)) (has [125]) f s with
    | none => rw [hx] at h; cases h
    | some x =>
      rw [hx] at h hsat
      match x, hx, h, hsat with
      | .error e, hx, h, _ => cases h
      | .ok (b, v), hx, h, hsat =>
        rw [hl b v hx]
        cases h
        show some (Except.ok (_, (v ++ 39 :: t).drop 1)) = _
        rw [drop_ext (by simpa using has_len hsat.2)]
end
/-! ### A row put behind another one -/
theorem List.reverseRecOn' {α : Type} {P : List α → Prop} (nil : P []) (snoc : ∀ l a, P l → P (l ++ [a])) (l : List α) : P l := by
  have : ∀ n (l : List α), l.length = n → P l := by
    intro n
    induction n with
    | zero => intro l h; rw [List.eq_nil_of_length_eq_zero h]; exact nil
    | succ n ih =>
      intro l h
      rcases List.eq_nil_or_concat l with h2 | ⟨m, x, h2⟩
      · rw [h2]; exact nil
      · rw [List.concat_eq_append] at h2
        subst h2
        rw [List.length_append, List.length_singleton] at h
        exact snoc m x (ih m (by omega))
  exact this _ l rfl

def joinP (X : List Prt) : List Prt → List Prt
  | [] => X
  | p :: M => putP X p ++ M
theorem puts_snoc (l ps : List Prt) (p : Prt) : puts l (ps ++ [p]) = putP (puts l ps) p := by unfold puts; rw [List.foldl_append]; rfl
theorem puts_append (l ps qs : List Prt) : puts l (ps ++ qs) = puts (puts l ps) qs := by unfold puts; rw [List.foldl_append]
theorem put_last (X : List Prt) (q : Prt) : ∃ Y y, putP X q = Y ++ [y] ∧ y.k = q.k := by
  rcases snoc_cases X with rfl | ⟨m, x, rfl⟩
  · exact ⟨[], q, rfl, rfl⟩
  · rw [put_snoc]
    split
    · rename_i h; exact ⟨m, _, rfl, h.2⟩
    · exact ⟨m ++ [x], q, by simp, rfl⟩
theorem put_put {X : List Prt} {q p : Prt} (h : p.k ≤ 2 ∧ q.k = p.k) : putP (putP X q) p = putP X (.mk q.k (q.t ++ p.t) q.o q.q q.w) := by
  rcases snoc_cases X with rfl | ⟨m, x, rfl⟩
  · rw [put_nil, put_nil]
    have := put_snoc [] q p
    rw [if_pos h] at this
    exact this
  · have e2 : putP (m ++ [x]) (.mk q.k (q.t ++ p.t) q.o q.q q.w) = if q.k ≤ 2 ∧ x.k = q.k then m ++ [.mk x.k (x.t ++ (q.t ++ p.t)) x.o x.q x.w] else m ++ [x, .mk q.k (q.t ++ p.t) q.o q.q q.w] := put_snoc m x (.mk q.k (q.t ++ p.t) q.o q.q q.w)
    rw [put_snoc m x q]
    by_cases hx : q.k ≤ 2 ∧ x.k = q.k
    · rw [if_pos hx, put_snoc, if_pos ⟨h.1, hx.2.trans h.2⟩, e2, if_pos hx]
      simp [Prt.k, Prt.t, Prt.o, Prt.q, Prt.w]
    · rw [if_neg hx, e2, if_neg hx]
      have e : m ++ [x, q] = (m ++ [x]) ++ [q] := by simp
      rw [e, put_snoc, if_pos h]
      simp
theorem puts_join (X : List Prt) (ps : List Prt) : puts X ps = joinP X (puts [] ps) := by
  induction ps using List.reverseRecOn' with
  | nil => rfl
  | snoc ps p ih =>
    rw [puts_snoc, puts_snoc, ih]
    match puts [] ps with
    | [] => show putP X p = putP X p ++ []; rw [List.append_nil]
    | q :: M =>
      show putP (putP X q ++ M) p = _
      rcases snoc_cases M with rfl | ⟨M', z, rfl⟩
      · rw [List.append_nil]
        have e1 := put_snoc [] q p
        rw [List.nil_append] at e1
        rw [e1]
        by_cases h : p.k ≤ 2 ∧ q.k = p.k
        · rw [if_pos h, put_put h]
          exact (List.append_nil _).symm
        · rw [if_neg h]
          obtain ⟨Y, y, hY, hk⟩ := put_last X q
          show _ = putP X q ++ [p]
          rw [hY, put_snoc, if_neg (fun h2 => h ⟨h2.1, hk.symm.trans h2.2⟩)]
          simp
      · have e1 := put_snoc (q :: M') z p
        rw [show q :: (M' ++ [z]) = (q :: M') ++ [z] from rfl, e1, show putP X q ++ (M' ++ [z]) = (putP X q ++ M') ++ [z] by simp, put_snoc]
        split
        · show _ = putP X q ++ (M' ++ _); simp
        · show _ = putP X q ++ (M' ++ _); simp
/-! ### The statements, as plain laws -/
def litP (t : Nm) : Prt := .mk 1 t [] false []
def quoP (t : Nm) : Prt := .mk 2 t [] false []
theorem puts_same (k : Nat) (hk : k ≤ 2) : ∀ (s : Nm) (u : Nm), puts [.mk k u [] false []] (s.map fun c => .mk k [c] [] false []) = [.mk k (u ++ s) [] false []]
  | [], u => by rw [List.append_nil]; rfl
  | c :: r, u => by
    have := puts_same k hk r (u ++ [c])
    rw [List.append_assoc] at this
    show _ = [Prt.mk k (u ++ ([c] ++ r)) [] false []]
    rw [← this]
    show puts (putP [.mk k u [] false []] (.mk k [c] [] false [])) _ = _
    have e := put_snoc [] (.mk k u [] false []) (.mk k [c] [] false [])
    rw [List.nil_append] at e
    rw [e, if_pos ⟨hk, rfl⟩]
    rfl
theorem puts_lits (k : Nat) (hk : k ≤ 2) (s : Nm) (h : s ≠ []) : puts [] (s.map fun c => .mk k [c] [] false []) = [.mk k s [] false []] := by
  match s, h with
  | c :: r, _ => exact puts_same k hk r [c]
def plainC (c : UInt8) : Bool := !(c == 92 || c == 39 || c == 34 || c == 36 || c == 126 || c == 96)
theorem plain_loop (f0 : Nat) : ∀ (f : Nat) (s : Nm) (x : Except Int Em), (∀ c ∈ s, plainC c = true) → loopM (partM f0 0) (·.isEmpty) f s = some x → x = .ok (s.map fun c => .mk 1 [c] [] false [], [])
  | 0, s, x, _, h => by cases h
  | f + 1, [], x, _, h => by
    unfold loopM at h
    injection h with h
    exact h.symm
  | f + 1, c :: r, x, hp, h => by
    have hc := hp c List.mem_cons_self
    unfold plainC at hc
    simp at hc
    unfold loopM at h
    cases f0 with
    | zero => unfold partM at h; cases h
    | succ g =>
      have e : partM (g + 1) 0 (c :: r) = ret ([.mk 1 [c] [] false []], r) := by
        unfold partM
        rw [if_neg hc.1.1.1.1.1, if_neg hc.1.1.1.1.2, if_neg hc.1.1.1.2, if_neg hc.1.1.2, if_neg hc.2]
      rw [e] at h
      cases hl : loopM (partM (g + 1) 0) (·.isEmpty) f r with
      | none =>
        rw [if_neg (by simp)] at h
        simp only [ret, bnd, hl] at h
        cases h
      | some y =>
        have := plain_loop (g + 1) f r y (fun d hd => hp d (List.mem_cons_of_mem _ hd)) hl
        subst this
        rw [if_neg (by simp)] at h
        simp only [ret, bnd, hl] at h
        injection h with h
        exact h.symm
/-- A raw word without quotes, dollars and tildes. -/
theorem plain_law {f : Nat} {s : Nm} {x : Except Int (List Prt)} (hp : ∀ c ∈ s, plainC c = true) (h : parseM f s = some x) : x = .ok (if s = [] then [] else [litP s]) := by
  have ht : isTilde s = false := by
    unfold isTilde
    match s, hp with
    | [], _ => rfl
    | c :: r, hp =>
      have hc := hp c List.mem_cons_self
      unfold plainC at hc
      simp at hc
      have h1 : c ≠ 126 := hc.1.2
      simp [has, List.isPrefixOf, h1, Ne.symm h1]
  unfold parseM parseE at h
  rw [ht] at h
  simp only [Bool.false_eq_true, if_false] at h
  cases hl : loopM (partM f 0) (·.isEmpty) f s with
  | none => rw [hl] at h; cases h
  | some y =>
    obtain rfl := plain_loop f f s y hp hl
    rw [hl] at h
    simp only [bnd, ret] at h
    injection h with h
    rw [← h]
    by_cases h0 : s = []
    · subst h0; rfl
    · rw [if_neg h0, puts_lits 1 (by decide) s h0]
      rfl
theorem cut_at : ∀ (s r : Nm), (39 : UInt8) ∉ s → cutAt 39 (s ++ 39 :: r) = some (s, r)
  | [], r, _ => rfl
  | c :: s, r, h => by
    have h1 : c ≠ 39 := fun e => h (by rw [e]; exact List.mem_cons_self)
    show cutAt 39 (c :: (s ++ 39 :: r)) = _
    unfold cutAt
    rw [if_neg h1, cut_at s r fun hm => h (List.mem_cons_of_mem _ hm)]
    rfl
theorem part_quote (g deep : Nat) (s r : Nm) (h : (39 : UInt8) ∉ s) : partM (g + 1) deep (39 :: (s ++ 39 :: r)) = ret ([quoP s], r) := by
  unfold partM
  rw [if_neg (by decide), if_pos rfl, cut_at s r h]
  rfl
/-- Between single quotes. -/
theorem single_law {f : Nat} {s : Nm} {x : Except Int (List Prt)} (hs : (39 : UInt8) ∉ s) (h : parseM f (39 :: (s ++ [39])) = some x) : x = .ok [quoP s] := by
  have e : parseM 2 (39 :: (s ++ [39])) = some (.ok [quoP s]) := by
    unfold parseM parseE
    have ht : isTilde (39 :: (s ++ [39])) = false := by unfold isTilde; simp [has, List.isPrefixOf]
    rw [ht]
    have hl : loopM (partM 2 0) (·.isEmpty) 2 (39 :: (s ++ [39])) = ret ([quoP s], []) := by
      unfold loopM
      rw [part_quote 1 0 s [] hs]
      rfl
    simp only [Bool.false_eq_true, if_false, hl]
    rfl
  exact parse_det h e
/-- What is refused, and how what is told is. -/
def TidyF (n : Nat) (l : List Prt) : Prop := ∀ i (h : i < l.length), (Fine l[i] ∧ TidyN n l[i].w ∨ i = 0 ∧ l[i].k = 5 ∧ l[i].t = [] ∧ l[i].o = [] ∧ l[i].w = []) ∧ (∀ h2 : i + 1 < l.length, ¬ (l[i + 1].k ≤ 2 ∧ l[i].k = l[i + 1].k))
theorem tidy_law {f : Nat} {s : Nm} {x : Except Int (List Prt)} (h : parseM f s = some x) : match x with
    | .error e => e = 11 ∨ e = 21
    | .ok l => TidyF f l := by
  have hs : Sat E2 (fun x : Em => LessE f s x ∧ x.2.isEmpty = true ∨ ∃ ps r, x = (.mk 5 [] [] false [] :: ps, r) ∧ (∀ p ∈ ps, GoodN f p)) (parseE f s) := by
    unfold parseE
    split
    · exact sat_bnd (loop_sat (part_sat f 0) f _) fun x hx => .inr ⟨x.1, x.2, rfl, hx.1.2.2⟩
    · exact sat_mono (loop_sat (part_sat f 0) f _) fun x hx => .inl hx
  have he : ∀ x, x = parseE f s → parseM f s = bnd x fun x => ret (puts [] x.1) := fun x hx => by rw [hx]; rfl
  cases hx : parseE f s with
  | none => rw [he _ hx.symm] at h; cases h
  | some y =>
    rw [he _ hx.symm] at h
    rw [hx] at hs
    match y, h, hs with
    | .error e, h, hs => cases h; exact hs
    | .ok y, h, hs =>
      cases h
      rcases hs with hs | ⟨ps, r, rfl, hs⟩
      · obtain ⟨h1, h2⟩ := puts_tidy y.1 [] adj_nil (fun p hp => absurd hp List.not_mem_nil) hs.1.2.2
        exact fun i hi => ⟨.inl (h2 _ (List.getElem_mem _)), fun h3 => h1 i h3⟩
      · show TidyF f (puts [] (Prt.mk 5 [] [] false [] :: ps))
        have e : puts [] (Prt.mk 5 [] [] false [] :: ps) = Prt.mk 5 [] [] false [] :: puts [] ps := by
          show puts [Prt.mk 5 [] [] false []] ps = _
          rw [puts_join]
          match puts [] ps with
          | [] => rfl
          | q :: M =>
            show putP ([] ++ [_]) q ++ M = _
            rw [put_snoc, if_neg (fun h => by have h1 := h.1; have h2 : 5 = q.k := h.2; omega)]
            rfl
        rw [e]
        obtain ⟨h1, h2⟩ := puts_tidy ps [] adj_nil (fun p hp => absurd hp List.not_mem_nil) hs
        intro i hi
        cases i with
        | zero => exact ⟨.inr ⟨rfl, rfl, rfl, rfl, rfl⟩, fun h3 => fun h4 => by
            have h5 := h4.1
            have h6 : 5 = _ := h4.2
            omega⟩
        | succ i => exact ⟨.inl (h2 _ (List.getElem_mem _)), fun h3 => h1 i (by simpa using h3)⟩
/-! ### Two words -/
theorem loop_end {step : Nm → M Em} : ∀ (f : Nat) (s : Nm) (ps : List Prt) (r : Nm), loopM step (·.isEmpty) f s = some (.ok (ps, r)) → r = []
  | 0, _, _, _, h => by cases h
  | f + 1, s, ps, r, h => by
    unfold loopM at h
    split at h
    · rename_i h2
      cases h
      exact List.isEmpty_iff.1 h2
    · cases h3 : step s with
      | none => rw [h3] at h; cases h
      | some y =>
        rw [h3] at h
        match y, h with
        | .error e, h => cases h
        | .ok y, h =>
          cases h4 : loopM step (·.isEmpty) f y.2 with
          | none => simp only [bnd, h4] at h; cases h
          | some z =>
            simp only [bnd, h4] at h
            match z, h4, h with
            | .error e, h4, h => cases h
            | .ok z, h4, h =>
              cases h
              exact loop_end f _ _ _ h4
theorem loop_two {t : Nm} {step : Nm → M Em} (hs : ∀ s, Ext t (step s) (step (s ++ t))) {g : Nat} {qs : List Prt} (hq : loopM step (·.isEmpty) g t = some (.ok (qs, []))) (ht : t ≠ []) :
    ∀ (f : Nat) (s : Nm) (ps : List Prt) (r : Nm), loopM step (·.isEmpty) f s = some (.ok (ps, r)) → ∃ m, loopM step (·.isEmpty) m (s ++ t) = some (.ok (ps ++ qs, []))
  | 0, _, _, _, h => by cases h
  | f + 1, s, ps, r, h => by
    unfold loopM at h
    split at h
    · rename_i h2
      cases h
      obtain rfl := List.isEmpty_iff.1 h2
      exact ⟨g, hq⟩
    · cases h3 : step s with
      | none => rw [h3] at h; cases h
      | some y =>
        rw [h3] at h
        match y, h3, h with
        | .error e, _, h => cases h
        | .ok (a, s'), h3, h =>
          cases h4 : loopM step (·.isEmpty) f s' with
          | none => simp only [bnd, h4] at h; cases h
          | some z =>
            simp only [bnd, h4] at h
            match z, h4, h with
            | .error e, h4, h => cases h
            | .ok (b, s''), h4, h =>
              cases h
              obtain ⟨m, hm⟩ := loop_two hs hq ht f _ _ _ h4
              refine ⟨m + 1, ?_⟩
              unfold loopM
              rw [if_neg (by cases s <;> cases t <;> simp at *), hs s a s' h3]
              simp only [bnd, hm, ret, List.append_assoc]
/-- What is emitted of two words with a quoted nothing between. -/
theorem two_emit {f g : Nat} {a b : Nm} {ea eb : Em} (ha : parseE f a = some (.ok ea)) (hb : parseE g b = some (.ok eb)) (hn : a ≠ [126]) (hb0 : ∀ r, b ≠ 126 :: r) :
    ∃ m, parseE m (a ++ 39 :: 39 :: b) = some (.ok (ea.1 ++ (quoP [] :: eb.1), [])) := by
  have htb : isTilde b = false := by
    unfold isTilde
    match b, hb0 with
    | [], _ => rfl
    | c :: r, hb0 =>
      have h1 : c ≠ 126 := fun e => hb0 r (by rw [e])
      simp [has, List.isPrefixOf, h1, Ne.symm h1]
  have hta : isTilde (a ++ 39 :: 39 :: b) = isTilde a := by
    unfold isTilde
    rw [has_ext (by decide)]
    have h1 : (a ++ 39 :: 39 :: b == [126]) = false := by
      rw [beq_eq_false_iff_ne]
      intro e
      have := congrArg List.length e
      simp at this
      omega
    rw [h1, beq_eq_false_iff_ne.2 hn]
  have hg : ∀ k, max f g + 1 ≤ k → ∃ h, loopM (partM k 0) (·.isEmpty) h (39 :: 39 :: b) = some (.ok (quoP [] :: eb.1, [])) := by
    intro k hk
    unfold parseE at hb
    rw [htb] at hb
    simp only [Bool.false_eq_true, if_false] at hb
    have h1 := le_eq (le_loop (stop := (·.isEmpty)) (fun s => le_part 0 s (show g ≤ k by omega)) b (Nat.le_refl g)) hb
    have h2 := loop_end _ _ _ _ h1
    refine ⟨g + 1, ?_⟩
    unfold loopM
    obtain ⟨k', rfl⟩ : ∃ k', k = k' + 1 := ⟨k - 1, by omega⟩
    have := part_quote k' 0 [] b (by simp)
    rw [List.nil_append] at this
    rw [this]
    simp only [List.isEmpty_cons, Bool.false_eq_true, if_false, ret, bnd, h1]
    rw [h2]
    rfl
  obtain ⟨h, hh⟩ := hg (max f g + 1) (Nat.le_refl _)
  unfold parseE at ha
  by_cases hT : isTilde a = true
  · rw [hT] at ha
    simp only [if_true] at ha
    have ha1 : 1 ≤ a.length := by
      cases a with
      | nil => simp [isTilde, has, List.isPrefixOf] at hT
      | cons c r => simp
    cases hl : loopM (partM f 0) (·.isEmpty) f (a.drop 1) with
    | none => rw [hl] at ha; cases ha
    | some y =>
      rw [hl] at ha
      match y, hl, ha with
      | .error e, _, ha => cases ha
      | .ok (ps, r), hl, ha =>
        cases ha
        have h1 := le_eq (le_loop (stop := (·.isEmpty)) (fun s => le_part 0 s (show f ≤ max f g + 1 by omega)) (a.drop 1) (Nat.le_refl f)) hl
        obtain ⟨m, hm⟩ := loop_two (part_ext (39 :: b) (max f g + 1) 0) hh (by simp) f _ _ _ h1
        refine ⟨max m (max f g + 1), ?_⟩
        unfold parseE
        rw [hta, hT]
        simp only [if_true]
        have h2 := le_eq (le_loop (stop := (·.isEmpty)) (fun s => le_part 0 s (Nat.le_max_right m (max f g + 1))) _ (Nat.le_max_left m (max f g + 1))) hm
        rw [drop_ext ha1, h2]
        rfl
  · have hT : isTilde a = false := by simpa using hT
    rw [hT] at ha
    simp only [Bool.false_eq_true, if_false] at ha
    have h1 := le_eq (le_loop (stop := (·.isEmpty)) (fun s => le_part 0 s (show f ≤ max f g + 1 by omega)) a (Nat.le_refl f)) ha
    obtain ⟨m, hm⟩ := loop_two (part_ext (39 :: b) (max f g + 1) 0) hh (by simp) f _ _ _ h1
    refine ⟨max m (max f g + 1), ?_⟩
    unfold parseE
    rw [hta, hT]
    simp only [Bool.false_eq_true, if_false]
    exact le_eq (le_loop (stop := (·.isEmpty)) (fun s => le_part 0 s (Nat.le_max_right m (max f g + 1))) _ (Nat.le_max_left m (max f g + 1))) hm
theorem parse_emits {f : Nat} {s : Nm} {l : List Prt} (h : parseM f s = some (.ok l)) : ∃ e, parseE f s = some (.ok e) ∧ l = puts [] e.1 := by
  have he : ∀ x, x = parseE f s → parseM f s = bnd x fun x => ret (puts [] x.1) := fun x hx => by rw [hx]; rfl
  cases hx : parseE f s with
  | none => rw [he _ hx.symm] at h; cases h
  | some y =>
    rw [he _ hx.symm] at h
    match y, h with
    | .error e, h => cases h
    | .ok y, h => cases h; exact ⟨y, rfl, rfl⟩
structure TwoL (l m n : List Prt) : Prop where
  lo : l.length ≤ n.length
  hi : n.length ≤ l.length + m.length + 1
  a : ∀ i (h : i < l.length) (h2 : i < n.length), n[i].k = l[i].k ∧ (i + 1 < l.length → n[i].t = l[i].t) ∧ n[i].o = l[i].o
  ge : m.length ≤ n.length
  b : ∀ i (h : i < m.length) (h2 : n.length - m.length + i < n.length), n[n.length - m.length + i].k = m[i].k ∧ (0 < i → n[n.length - m.length + i].t = m[i].t) ∧ n[n.length - m.length + i].o = m[i].o
theorem get_pre {α : Type} {Y M : List α} {i : Nat} (h : i < Y.length) (h2 : i < (Y ++ M).length) : (Y ++ M)[i] = Y[i] := List.getElem_append_left h
/-- The parts of one word, a quoted nothing, the parts of another one. -/
theorem two_rows {l m : List Prt} (hl : ∀ p ∈ l, p.k ≤ 2 → p.o = []) (hm : ∀ p ∈ m, p.k ≤ 2 → p.o = []) : TwoL l m (joinP (putP l (quoP [])) m) := by
  -- X: the first row with the nothing behind
  have hX : ∃ Y y, putP l (quoP []) = Y ++ [y] ∧ y.k = 2 ∧ y.o = [] ∧ l.length ≤ Y.length + 1 ∧ Y.length ≤ l.length ∧
      (∀ i (h : i < l.length) (h2 : i < Y.length), Y[i] = l[i]) ∧ (∀ h : Y.length < l.length, y.k = l[Y.length].k ∧ y.o = l[Y.length].o) := by
    rcases snoc_cases l with rfl | ⟨L, x, rfl⟩
    · exact ⟨[], quoP [], rfl, rfl, rfl, by simp, by simp, fun i h => absurd h (Nat.not_lt_zero _), fun h => absurd h (Nat.not_lt_zero _)⟩
    · rw [put_snoc]
      split
      · rename_i h
        have hx : x.k = 2 := h.2
        refine ⟨L, _, rfl, hx, hl x (List.mem_append.2 (.inr List.mem_cons_self)) (by omega), by simp, by simp, fun i h1 h2 => ?_, fun h1 => ?_⟩
        · rw [List.getElem_append_left h2]
        · simp [Prt.k, Prt.o]
      · refine ⟨L ++ [x], quoP [], by simp, rfl, rfl, by simp, by simp, fun i h1 h2 => rfl, fun h1 => absurd h1 (Nat.lt_irrefl _)⟩
  obtain ⟨Y, y, hX, hyk, hyo, hY1, hY2, hYi, hYl⟩ := hX
  rw [hX]
  match m, hm with
  | [], hm =>
    show TwoL l [] (Y ++ [y])
    refine ⟨by simp; omega, by simp; omega, fun i h h2 => ?_, Nat.zero_le _, fun i h => absurd h (Nat.not_lt_zero _)⟩
    by_cases hi : i < Y.length
    · rw [get_pre hi, hYi i h hi]
      exact ⟨rfl, fun _ => rfl, rfl⟩
    · have e : i = Y.length := by omega
      subst e
      have := hYl h
      rw [List.getElem_append_right (Nat.le_refl _)]
      simp only [Nat.sub_self, List.getElem_cons_zero]
      exact ⟨this.1, fun h9 => absurd h9 (by omega), this.2⟩
  | p :: M, hm =>
    show TwoL l (p :: M) (putP (Y ++ [y]) p ++ M)
    have hZ : ∃ Z z, putP (Y ++ [y]) p = Z ++ [z] ∧ z.k = p.k ∧ z.o = p.o ∧ Y.length ≤ Z.length ∧ Z.length ≤ Y.length + 1 ∧ (∀ i (h : i < Y.length) (h2 : i < Z.length), Z[i] = Y[i]) ∧
        (∀ h : Y.length < (Z ++ [z]).length, (Z ++ [z])[Y.length].k = y.k ∧ (Z ++ [z])[Y.length].o = y.o) := by
      rw [put_snoc]
      split
      · rename_i h
        refine ⟨Y, _, rfl, h.2, ?_, by simp, by simp, fun i h1 h2 => rfl, fun h1 => ?_⟩
        · show y.o = p.o
          rw [hyo, hm p List.mem_cons_self h.1]
        · simp [Prt.k, Prt.o]
      · refine ⟨Y ++ [y], p, by simp, rfl, rfl, by simp, by simp, fun i h1 h2 => by rw [List.getElem_append_left h1], fun h1 => ?_⟩
        rw [List.getElem_append_left (by simp), List.getElem_append_right (Nat.le_refl _)]
        simp
    obtain ⟨Z, z, hZ, hzk, hzo, hZ1, hZ2, hZi, hZl⟩ := hZ
    rw [hZ]
    have hlen : (Z ++ [z] ++ M).length = Z.length + 1 + M.length := by simp; omega
    refine ⟨by rw [hlen]; omega, by rw [hlen]; simp; omega, fun i h h2 => ?_, by rw [hlen]; simp; omega, fun i h h2 => ?_⟩
    · by_cases hi : i < Y.length
      · rw [get_pre (by simp; omega), get_pre (by omega), hZi i hi (by omega), hYi i h hi]
        exact ⟨rfl, fun _ => rfl, rfl⟩
      · have e : i = Y.length := by omega
        subst e
        have h9 := hYl h
        have h8 := hZl (by simp; omega)
        rw [get_pre (by simp; omega)]
        exact ⟨h8.1.trans h9.1, fun h7 => absurd h7 (by omega), h8.2.trans h9.2⟩
    · have e : (Z ++ [z] ++ M).length - (p :: M).length + i = Z.length + i := by rw [hlen]; simp; omega
      simp only [e]
      cases i with
      | zero =>
        have : (Z ++ [z] ++ M)[Z.length + 0]'(by rw [hlen]; omega) = z := by simp
        rw [this]
        exact ⟨hzk, fun h => absurd h (Nat.lt_irrefl _), hzo⟩
      | succ i =>
        have hi : i < M.length := by simpa using h
        have : (Z ++ [z] ++ M)[Z.length + (i + 1)]'(by rw [hlen]; omega) = M[i] := by
          rw [List.getElem_append_right (by simp; try omega)]
          congr 1
          simp; try omega
        rw [this]
        exact ⟨rfl, fun _ => rfl, rfl⟩
theorem tidy_ops {n : Nat} {l : List Prt} (h : TidyF n l) : ∀ p ∈ l, p.k ≤ 2 → p.o = [] := by
  intro p hp hk
  obtain ⟨i, hi, rfl⟩ := List.getElem_of_mem hp
  rcases (h i hi).1 with h1 | h1
  · exact (h1.1.op (by omega)).1
  · exact h1.2.2.2.1
theorem two_law {f g h : Nat} {a b : Nm} {l m : List Prt} {x : Except Int (List Prt)} (ha : parseM f a = some (.ok l)) (hb : parseM g b = some (.ok m)) (hn : a ≠ [126]) (hb0 : ∀ r, b ≠ 126 :: r) (hx : parseM h (a ++ 39 :: 39 :: b) = some x) : ∃ n, x = .ok n ∧ TwoL l m n := by
  have hl := tidy_ops (tidy_law ha)
  have hm := tidy_ops (tidy_law hb)
  obtain ⟨ea, ha2, rfl⟩ := parse_emits ha
  obtain ⟨eb, hb2, rfl⟩ := parse_emits hb
  obtain ⟨k, hk⟩ := two_emit ha2 hb2 hn hb0
  have h2 : parseM k (a ++ 39 :: 39 :: b) = some (.ok (puts [] (ea.1 ++ (quoP [] :: eb.1)))) := by
    have he : ∀ x, x = parseE k (a ++ 39 :: 39 :: b) → parseM k (a ++ 39 :: 39 :: b) = bnd x fun x => ret (puts [] x.1) := fun x hx => by rw [hx]; rfl
    rw [he _ hk.symm]
    rfl
  refine ⟨_, parse_det hx h2, ?_⟩
  rw [puts_append]
  show TwoL _ _ (puts (putP (puts [] ea.1) (quoP [])) eb.1)
  rw [puts_join (putP (puts [] ea.1) (quoP [])) eb.1]
  exact two_rows hl hm
/-! ### Braces within each other -/
def deepS (k : Nat) : Nm := (List.replicate k ([36, 123, 120, 58, 45] : Nm)).flatten ++ 97 :: List.replicate k 125
def deepP : Nat → List Prt
  | 0 => [litP [97]]
  | k + 1 => [.mk 3 [120] [58, 45] false (deepP k)]
def eqN : Nat → List Prt → List Prt → Bool
  | 0, _, _ => false
  | n + 1, l, m => l.length == m.length && (l.zip m).all fun x => x.1.k == x.2.k && x.1.t == x.2.t && x.1.o == x.2.o && x.1.q == x.2.q && eqN n x.1.w x.2.w
theorem eqN_eq : ∀ {n : Nat} {l m : List Prt}, eqN n l m = true → l = m
  | 0, _, _, h => by cases h
  | n + 1, l, m, h => by
    unfold eqN at h
    simp only [Bool.and_eq_true, beq_iff_eq, List.all_eq_true] at h
    refine List.ext_getElem h.1 fun i h1 h2 => ?_
    have := h.2 (l[i], m[i]) (by rw [List.mem_iff_getElem]; exact ⟨i, by simp; omega, by simp⟩)
    obtain ⟨⟨⟨⟨g1, g2⟩, g3⟩, g4⟩, g5⟩ := this
    have g6 := eqN_eq g5
    revert g1 g2 g3 g4 g6
    cases l[i]; cases m[i]
    simp [Prt.k, Prt.t, Prt.o, Prt.q, Prt.w]
    intros; simp [*]
def okIs (x : M (List Prt)) (l : List Prt) : Bool := match x with
  | some (.ok m) => eqN 20 m l
  | _ => false
def errIs (x : M (List Prt)) (e : Int) : Bool := match x with
  | some (.error d) => d == e
  | _ => false
theorem deep_all : ∀ k : Fin 12, (if k.1 + 1 ≤ 8 then okIs (parseM 40 (deepS (k.1 + 1))) (deepP (k.1 + 1)) else errIs (parseM 40 (deepS (k.1 + 1))) 21) = true := by decide +kernel
theorem deep_law {f k : Nat} {x : Except Int (List Prt)} (h1 : 1 ≤ k) (h2 : k ≤ 12) (h : parseM f (deepS k) = some x) : x = if k ≤ 8 then .ok (deepP k) else .error 21 := by
  have h3 := deep_all ⟨k - 1, by omega⟩
  simp only [Nat.sub_add_cancel h1] at h3
  split at h3
  · rename_i h4
    rw [if_pos h4]
    cases hp : parseM 40 (deepS k) with
    | none => rw [hp] at h3; cases h3
    | some y =>
      rw [hp] at h3
      match y, hp, h3 with
      | .error e, _, h3 => cases h3
      | .ok m, hp, h3 =>
        have := eqN_eq h3
        subst this
        exact parse_det h hp
  · rename_i h4
    rw [if_neg h4]
    cases hp : parseM 40 (deepS k) with
    | none => rw [hp] at h3; cases h3
    | some y =>
      rw [hp] at h3
      match y, hp, h3 with
      | .ok m, _, h3 => cases h3
      | .error e, hp, h3 =>
        have : e = 21 := by simpa [errIs] using h3
        subst this
        exact parse_det h hp
/-! ### In double quotes -/
def escC (c : UInt8) : Bool := c == 34 || c == 92 || c == 36 || c == 96
def escS (s : Nm) : Nm := s.flatMap fun c => if escC c then [92, c] else [c]
theorem esc_loop (w : Nm → M (List Prt × Nm)) (r : Nm) : ∀ (s : Nm) (f : Nat), s.length < f → loopM (innerM w 0 escs) (has [34]) f (escS s ++ 34 :: r) = some (.ok (s.map fun c => quoP [c], 34 :: r))
  | [], f + 1, _ => by unfold loopM; rfl
  | c :: s, f + 1, h => by
    have ih := esc_loop w r s f (by simpa using h)
    have e : escS (c :: s) ++ 34 :: r = (if escC c then [92, c] else [c]) ++ (escS s ++ 34 :: r) := by unfold escS; simp
    rw [e]
    generalize escS s ++ 34 :: r = u at *
    unfold loopM
    by_cases hc : escC c = true
    · rw [if_pos hc, if_neg (by simp [has, List.isPrefixOf])]
      have e2 : innerM w 0 escs ([92, c] ++ u) = ret ([quoP [c]], u) := by
        have : escs.contains c = true := by
          unfold escC at hc
          simp at hc
          rcases hc with ((rfl | rfl) | rfl) | rfl <;> decide
        show innerM w 0 escs (92 :: c :: u) = _
        unfold innerM
        simp only [this, if_true]
        rfl
      rw [e2]
      simp only [ret, bnd, ih]
      rfl
    · rw [if_neg hc]
      unfold escC at hc
      simp at hc
      have e2 : innerM w 0 escs ([c] ++ u) = ret ([quoP [c]], u) := by
        show innerM w 0 escs (c :: u) = _
        unfold innerM
        simp only [if_neg hc.1.2, if_neg hc.2, if_neg hc.1.1.2]
        rfl
      rw [if_neg (by simp [has, List.isPrefixOf, Ne.symm hc.1.1.1]), e2]
      simp only [ret, bnd, ih]
      rfl
theorem double_law {f : Nat} {s : Nm} {x : Except Int (List Prt)} (h : parseM f (34 :: (escS s ++ [34])) = some x) : x = .ok [quoP s] := by
  have e : parseM (s.length + 4) (34 :: (escS s ++ [34])) = some (.ok [quoP s]) := by
    unfold parseM parseE
    have ht : isTilde (34 :: (escS s ++ [34])) = false := by unfold isTilde; simp [has, List.isPrefixOf]
    rw [ht]
    simp only [Bool.false_eq_true, if_false]
    have hl : loopM (partM (s.length + 4) 0) (·.isEmpty) (s.length + 4) (34 :: (escS s ++ [34])) = some (.ok ((if has [34] (escS s ++ [34]) then [quoP []] else []) ++ (s.map fun c => quoP [c]), [])) := by
      unfold loopM
      rw [if_neg (by simp)]
      have e1 : partM (s.length + 4) 0 (34 :: (escS s ++ [34])) = quotedM (innerM (withinM (s.length + 3) 0) 0 escs) (s.length + 3) (escS s ++ [34]) := by
        show partM ((s.length + 3) + 1) 0 _ = _
        unfold partM
        rw [if_neg (by decide), if_neg (by decide), if_pos rfl]
      rw [e1]
      unfold quotedM
      rw [esc_loop _ [] s _ (by omega)]
      simp only [ret, bnd]
      unfold loopM
      simp only [List.drop_succ_cons, List.drop_zero, List.isEmpty_nil, if_true, ret, List.append_nil]
      rfl
    rw [hl]
    show some (Except.ok (puts [] _)) = _
    congr 2
    match s with
    | [] => rfl
    | c :: r =>
      have : has [34] (escS (c :: r) ++ [34]) = false := by
        by_cases hc : escC c = true
        · simp [escS, hc, has, List.isPrefixOf]
        · have hc2 := hc
          unfold escC at hc2
          simp at hc2
          simp [escS, hc, has, List.isPrefixOf, Ne.symm hc2.1.1.1]
      rw [this]
      exact puts_lits 2 (Nat.le_refl _) (c :: r) (by simp)
  exact parse_det h e
end Go.Proofs.YtfjkgeeaeolkhaaDoor.Wo
