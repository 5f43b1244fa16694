/-
  Lexer: what a script is read as, as plain functions. No program stands here. Conditions: as each law says.
-/
import Derived.Test.YtiklkhbfilbpeaaGreatDoorSkWords
set_option linter.unusedVariables false
set_option linter.unusedSimpArgs false
namespace Go.Proofs.YtiklkhbfilbpeaaGreatDoor
abbrev Nm := List UInt8
end Go.Proofs.YtiklkhbfilbpeaaGreatDoor
namespace Go.Proofs.YtiklkhbfilbpeaaGreatDoor.Lx
abbrev R := Except Int (Nm × Nm)
def bnd {α β : Type} : Except Int α → (α → Except Int β) → Except Int β
  | .error e, _ => .error e
  | .ok a, f => f a
@[simp] theorem bnd_ok {α β : Type} (a : α) (f : α → Except Int β) : bnd (.ok a) f = f a := rfl
@[simp] theorem bnd_err {α β : Type} (e : Int) (f : α → Except Int β) : bnd (.error e) f = .error e := rfl
/-- A text ahead of what is read. -/
def pre (o : Nm) (x : R) : R := bnd x fun y => .ok (o ++ y.1, y.2)
@[simp] theorem pre_ok (o p q : Nm) : pre o (.ok (p, q)) = .ok (o ++ p, q) := rfl
@[simp] theorem pre_err (o : Nm) (e : Int) : pre o (.error e) = .error e := rfl
theorem pre_pre (o p : Nm) (x : R) : pre o (pre p x) = pre (o ++ p) x := by
  cases x with
  | error e => rfl
  | ok y => simp [pre]
theorem pre_nil (x : R) : pre [] x = x := by
  cases x <;> rfl
def has (p s : Nm) : Bool := p.isPrefixOf s
def nl (s : Nm) : Nat := s.count 10
def cutAt (c : UInt8) : Nm → Option (Nm × Nm)
  | [] => none
  | d :: r => if d = c then some ([], r) else (cutAt c r).map fun x => (d :: x.1, x.2)
/-- Behind $((. -/
def ariM (d : Nat) : Nm → R
  | [] => .error 20
  | c :: r =>
    if d = 0 ∧ has [41, 41] (c :: r) then .ok ([41, 41], r.drop 1)
    else if c = 41 then (if d = 0 then .error 20 else pre [c] (ariM (d - 1) r))
    else if c = 40 then pre [c] (ariM (d + 1) r)
    else pre [c] (ariM d r)
def loopF (step : Nm → R) (stop : Nm → Bool) : Nat → Nm → R
  | 0, s => if stop s then .ok ([], s) else .error 20
  | f + 1, s => if stop s then .ok ([], s) else bnd (step s) fun x => pre x.1 (loopF step stop f x.2)
def loop (step : Nm → R) (stop : Nm → Bool) (s : Nm) : R := loopF step stop s.length s
def dolM (inner : Nm → R) (deep : Nat) (s : Nm) : R :=
  if has [36, 40, 40] s then pre [36, 40, 40] (ariM 0 (s.drop 3))
  else if has [36, 40] s ∨ has [36, 92, 10] s then .error 20
  else if has [36, 123] s = false then .ok ([36], s.drop 1)
  else if deep = 8 then .error 21
  else bnd (inner (s.drop 2)) fun x => .ok (36 :: 123 :: x.1 ++ [125], x.2.drop 1)
def inqM (dol : Nm → R) : Nm → R
  | [] => .error 20
  | c :: r =>
    if has [92, 10] (c :: r) then .ok ([], r.drop 1)
    else if c = 92 then (match r with
      | [] => .error 20
      | d :: r' => .ok ([92, d], r'))
    else if c = 36 then dol (c :: r)
    else if c = 96 then .error 20
    else .ok ([c], r)
def quoM (dol : Nm → R) (f : Nat) (r : Nm) : R := bnd (loopF (inqM dol) (has [34]) f r) fun x => .ok (34 :: x.1 ++ [34], x.2.drop 1)
/-- A parA, by dollars that are within it. -/
def parM (dol : Nm → R) (f : Nat) : Nm → R
  | [] => .error 20
  | c :: r =>
    if has [92, 10] (c :: r) then .ok ([], r.drop 1)
    else if c = 92 then (match r with
      | [] => .error 20
      | d :: r' => .ok ([92, d], r'))
    else if c = 39 then (match cutAt 39 r with
      | none => .error 20
      | some x => .ok (39 :: x.1 ++ [39], x.2))
    else if c = 34 then quoM dol f r
    else if c = 36 then dol (c :: r)
    else if c = 96 then .error 20
    else .ok ([c], r)
def partF : Nat → Nat → Nm → R
  | 0, _, _ => .error 20
  | f + 1, deep, s => parM (dolM (loopF (partF f (deep + 1)) (has [125]) f) deep) f s
def parA (deep : Nat) (s : Nm) : R := partF s.length deep s
/-- What is within a brace. -/
def inner (deep : Nat) (s : Nm) : R := loop (parA (deep + 1)) (has [125]) s
def dollar (deep : Nat) (s : Nm) : R := dolM (inner deep) deep s
def inq (deep : Nat) (s : Nm) : R := inqM (dollar deep) s
/-- Behind a quote: what is within, and the rest from the quote that ends it. -/
def inquo (deep : Nat) (s : Nm) : R := loop (inq deep) (has [34]) s
def quoted (deep : Nat) (r : Nm) : R := bnd (inquo deep r) fun x => .ok (34 :: x.1 ++ [34], x.2.drop 1)
def Strict (step : Nm → R) : Prop := ∀ s x, step s = .ok x → x.2.length < s.length
def Weak (step : Nm → R) : Prop := ∀ s x, step s = .ok x → x.2.length ≤ s.length
theorem pre_ok_inv {o : Nm} {x : R} {y : Nm × Nm} (h : pre o x = .ok y) : ∃ p, x = .ok (p, y.2) ∧ y.1 = o ++ p := by
  cases x with
  | error e => cases h
  | ok z => simp only [pre, bnd_ok] at h; injection h with h; subst h; exact ⟨z.1, rfl, rfl⟩
theorem bnd_ok_inv {α β : Type} {x : Except Int α} {f : α → Except Int β} {y : β} (h : bnd x f = .ok y) : ∃ a, x = .ok a ∧ f a = .ok y := by
  cases x with
  | error e => cases h
  | ok a => exact ⟨a, rfl, h⟩
theorem loopF_len {step : Nm → R} {stop : Nm → Bool} (h : Weak step) : ∀ f s x, loopF step stop f s = .ok x → x.2.length ≤ s.length ∧ stop x.2 = true
  | 0, s, x, e => by
    unfold loopF at e
    split at e
    · rename_i hs
      injection e with e; subst e; exact ⟨Nat.le_refl _, hs⟩
    · cases e
  | f + 1, s, x, e => by
    unfold loopF at e
    split at e
    · rename_i hs
      injection e with e; subst e; exact ⟨Nat.le_refl _, hs⟩
    · obtain ⟨y, h1, h2⟩ := bnd_ok_inv e
      obtain ⟨p, h3, _⟩ := pre_ok_inv h2
      have h4 := loopF_len h f y.2 (p, x.2) h3
      have := h s y h1
      exact ⟨Nat.le_trans h4.1 this, h4.2⟩
theorem has_len {p s : Nm} (h : has p s = true) : p.length ≤ s.length := (List.isPrefixOf_iff_prefix.1 h).length_le
theorem ari_len : ∀ (s : Nm) (d : Nat) (x : Nm × Nm), ariM d s = .ok x → x.2.length + 2 ≤ s.length
  | [], d, x, e => by cases e
  | c :: r, d, x, e => by
    unfold ariM at e
    split at e
    · rename_i h
      injection e with e; subst e
      have := has_len h.2
      simp at this ⊢; omega
    · have hc : ∀ d', pre [c] (ariM d' r) = .ok x → x.2.length + 2 ≤ (c :: r).length := fun d' e => by
        obtain ⟨p, h1, _⟩ := pre_ok_inv e
        have h2 : x.2.length + 2 ≤ r.length := ari_len r d' (p, x.2) h1
        simp; omega
      split at e
      · split at e
        · cases e
        · exact hc _ e
      · split at e
        · exact hc _ e
        · exact hc _ e
theorem cut_len {c : UInt8} : ∀ {s : Nm} {x : Nm × Nm}, cutAt c s = some x → s = x.1 ++ c :: x.2
  | [], x, e => by cases e
  | d :: r, x, e => by
    unfold cutAt at e
    split at e
    · rename_i h; injection e with e; subst e; subst h; rfl
    · cases hc : cutAt c r with
      | none => rw [hc] at e; cases e
      | some y =>
        rw [hc] at e
        simp only [Option.map_some] at e
        injection e with e
        subst e
        show d :: r = d :: (y.1 ++ c :: y.2)
        rw [← cut_len hc]
theorem dol_len {inner : Nm → R} {deep : Nat} (hi : Weak inner) {s : Nm} (hs : has [36] s = true) {x : Nm × Nm} (e : dolM inner deep s = .ok x) : x.2.length < s.length := by
  have h0 := has_len hs
  unfold dolM at e
  split at e
  · rename_i h
    obtain ⟨p, h1, _⟩ := pre_ok_inv e
    have h2 : x.2.length + 2 ≤ (s.drop 3).length := ari_len _ _ (p, x.2) h1
    rw [List.length_drop] at h2; omega
  · split at e
    · cases e
    · split at e
      · injection e with e; subst e; simp at h0 ⊢; omega
      · split at e
        · cases e
        · rename_i h _
          obtain ⟨y, h1, h2⟩ := bnd_ok_inv e
          injection h2 with h2; subst h2
          have := hi _ _ h1
          have h3 := has_len (p := [36, 123]) (by simpa using h)
          simp at this h3 ⊢; omega
theorem inq_strict {dol : Nm → R} (hd : ∀ s x, has [36] s = true → dol s = .ok x → x.2.length < s.length) : Strict (inqM dol) := by
  intro s x e
  unfold inqM at e
  split at e
  · cases e
  · split at e
    · injection e with e; subst e; simp; omega
    · split at e
      · split at e
        · cases e
        · injection e with e; subst e; simp; omega
      · split at e
        · rename_i h
          subst h
          exact hd _ _ rfl e
        · split at e
          · cases e
          · injection e with e; subst e; simp
theorem par_strict {dol : Nm → R} {f : Nat} (hd : ∀ s x, has [36] s = true → dol s = .ok x → x.2.length < s.length) : Strict (parM dol f) := by
  intro s x e
  unfold parM at e
  split at e
  · cases e
  · split at e
    · injection e with e; subst e; simp; omega
    · split at e
      · split at e
        · cases e
        · injection e with e; subst e; simp; omega
      · split at e
        · split at e
          · cases e
          · rename_i y hy
            injection e with e; subst e
            have := congrArg List.length (cut_len hy)
            simp at this ⊢; omega
        · split at e
          · obtain ⟨y, h1, h2⟩ := bnd_ok_inv e
            injection h2 with h2; subst h2
            have := (loopF_len (fun s x h => Nat.le_of_lt (inq_strict hd s x h)) _ _ _ h1).1
            simp; omega
          · split at e
            · rename_i h; subst h; exact hd _ _ rfl e
            · split at e
              · cases e
              · injection e with e; subst e; simp
theorem partF_strict : ∀ (f deep : Nat), Strict (partF f deep)
  | 0, deep => fun s x e => by cases e
  | f + 1, deep => par_strict fun s x hs e => dol_len (fun s x h => (loopF_len (fun s x h => Nat.le_of_lt (partF_strict f (deep + 1) s x h)) _ _ _ h).1) hs e
theorem loopF_eq {step step' : Nm → R} {stop : Nm → Bool} (hs : Strict step) : ∀ (f g : Nat) (s : Nm), s.length ≤ f → s.length ≤ g → (∀ t, t.length ≤ s.length → step t = step' t) → (step [] = .error 20) → loopF step stop f s = loopF step' stop g s
  | 0, 0, s, hf, hg, h, h0 => rfl
  | 0, g + 1, s, hf, hg, h, h0 => by
    obtain rfl := List.length_eq_zero_iff.1 (Nat.le_zero.1 hf)
    unfold loopF
    rw [← h [] (Nat.le_refl _), h0]
    rfl
  | f + 1, 0, s, hf, hg, h, h0 => by
    obtain rfl := List.length_eq_zero_iff.1 (Nat.le_zero.1 hg)
    unfold loopF
    rw [h0]
    rfl
  | f + 1, g + 1, s, hf, hg, h, h0 => by
    unfold loopF
    rw [← h s (Nat.le_refl _)]
    split
    · rfl
    · cases he : step s with
      | error e => rfl
      | ok x =>
        have := hs s x he
        simp only [bnd_ok]
        rw [loopF_eq hs f g x.2 (by omega) (by omega) (fun t ht => h t (by omega)) h0]
theorem dol_congr {i j : Nm → R} {deep : Nat} {s : Nm} (h : i (s.drop 2) = j (s.drop 2)) : dolM i deep s = dolM j deep s := by
  unfold dolM; rw [h]
theorem dol_weak {i : Nm → R} {deep : Nat} (hi : Weak i) : ∀ s x, has [36] s = true → dolM i deep s = .ok x → x.2.length < s.length := fun s x hs e => dol_len hi hs e
theorem par_congr {d e : Nm → R} {f g : Nat} {s : Nm} (hd : ∀ s x, has [36] s = true → d s = .ok x → x.2.length < s.length) (h : ∀ t, t.length ≤ s.length → has [36] t = true → d t = e t) (hf : s.length ≤ f + 1) (hg : s.length ≤ g + 1) : parM d f s = parM e g s := by
  unfold parM
  cases s with
  | nil => rfl
  | cons c r =>
    simp only
    have hq : quoM d f r = quoM e g r := by
      unfold quoM
      rw [loopF_eq (step' := inqM e) (inq_strict hd) f g r (by simpa using hf) (by simpa using hg) ?_ rfl]
      intro t ht
      unfold inqM
      cases t with
      | nil => rfl
      | cons b t =>
        simp only
        by_cases hb : b = 36
        · subst hb; rw [h _ (by simp at ht ⊢; omega) rfl]
        · simp only [if_neg hb]
    rw [hq]
    by_cases hc : c = 36
    · subst hc; rw [h _ (Nat.le_refl _) rfl]
    · simp only [if_neg hc]
theorem inner_weak (f deep : Nat) : Weak (loopF (partF f deep) (has [125]) f) := fun s x h => (loopF_len (fun s x h => Nat.le_of_lt (partF_strict f deep s x h)) _ _ _ h).1
theorem partF_nil (f deep : Nat) : partF f deep [] = .error 20 := by cases f <;> rfl
theorem partF_eq : ∀ (N f g deep : Nat) (s : Nm), s.length ≤ N → s.length ≤ f → s.length ≤ g → partF f deep s = partF g deep s
  | 0, f, g, deep, s, hN, _, _ => by
    obtain rfl := List.length_eq_zero_iff.1 (Nat.le_zero.1 hN)
    rw [partF_nil, partF_nil]
  | N + 1, f, g, deep, [], hN, hf, hg => by rw [partF_nil, partF_nil]
  | N + 1, 0, g, deep, c :: r, hN, hf, hg => by simp at hf
  | N + 1, f + 1, 0, deep, c :: r, hN, hf, hg => by simp at hg
  | N + 1, f + 1, g + 1, deep, c :: r, hN, hf, hg => by
    unfold partF
    refine par_congr (dol_weak (inner_weak _ _)) (fun t ht h36 => dol_congr ?_) hf hg
    have h36 := has_len h36
    simp at hN hf hg ht h36
    refine loopF_eq (partF_strict _ _) _ _ _ (by simp; omega) (by simp; omega) (fun u hu => ?_) (partF_nil _ _)
    rw [List.length_drop] at hu
    exact partF_eq N f g (deep + 1) u (by omega) (by omega) (by omega)
theorem part_strict (deep : Nat) : Strict (parA deep) := fun s x h => partF_strict _ _ s x h
theorem part_nil (deep : Nat) : parA deep [] = .error 20 := rfl
theorem inner_eq (f deep : Nat) (s : Nm) (h : s.length ≤ f) : loopF (partF f (deep + 1)) (has [125]) f s = inner deep s :=
  loopF_eq (partF_strict _ _) _ _ _ h (Nat.le_refl _) (fun t ht => partF_eq t.length _ _ _ t (Nat.le_refl _) (by omega) (Nat.le_refl _)) (partF_nil _ _)
theorem inner_weak' (deep : Nat) : Weak (inner deep) := fun s x h => (loopF_len (fun s x h => Nat.le_of_lt (part_strict _ s x h)) _ _ _ h).1
theorem dollar_strict (deep : Nat) : ∀ s x, has [36] s = true → dollar deep s = .ok x → x.2.length < s.length := dol_weak (inner_weak' deep)
theorem inq_strict' (deep : Nat) : Strict (inq deep) := inq_strict (dollar_strict deep)
theorem parA_eq (deep : Nat) (c : UInt8) (r : Nm) : parA deep (c :: r) =
    if has [92, 10] (c :: r) then .ok ([], r.drop 1)
    else if c = 92 then (match r with
      | [] => .error 20
      | d :: r' => .ok ([92, d], r'))
    else if c = 39 then (match cutAt 39 r with
      | none => .error 20
      | some x => .ok (39 :: x.1 ++ [39], x.2))
    else if c = 34 then quoted deep r
    else if c = 36 then dollar deep (c :: r)
    else if c = 96 then .error 20
    else .ok ([c], r) := by
  show parM _ r.length (c :: r) = parM (dollar deep) r.length (c :: r)
  refine par_congr (dol_weak (inner_weak _ _)) (fun t ht h36 => dol_congr ?_) (Nat.le_refl _) (Nat.le_refl _)
  have h36 := has_len h36
  simp at ht h36
  exact inner_eq _ _ _ (by simp; omega)
/-- A loop, taken apart. -/
theorem loop_stop {step : Nm → R} {stop : Nm → Bool} {s : Nm} (h : stop s = true) : loop step stop s = .ok ([], s) := by
  unfold loop
  cases hl : s.length <;> (unfold loopF; rw [if_pos h])
theorem loop_step {step : Nm → R} {stop : Nm → Bool} (hs : Strict step) (h0 : step [] = .error 20) {s : Nm} (h : stop s = false) : loop step stop s = bnd (step s) fun x => pre x.1 (loop step stop x.2) := by
  unfold loop
  cases s with
  | nil => unfold loopF; simp [h, h0]
  | cons c r =>
    show loopF step stop (r.length + 1) (c :: r) = _
    rw [loopF, if_neg (by simp [h])]
    cases he : step (c :: r) with
    | error e => rfl
    | ok x =>
      have := hs _ x he
      simp at this
      simp only [bnd_ok]
      rw [loopF_eq hs r.length x.2.length x.2 (by omega) (Nat.le_refl _) (fun _ _ => rfl) h0]
structure Tok where
  k : Nat
  t : Nm
  b : Nm
  ln : Nat
  deriving DecidableEq
abbrev blkL : Nm := [32, 9, 10, 59, 38, 124, 40, 41, 60, 62]
def ends : Nm → Bool
  | [] => true
  | c :: _ => blkL.contains c
def digB (c : UInt8) : Bool := 48 ≤ c && c ≤ 57
/-- A word: its text without joins, and what is left. -/
def wordM (s : Nm) : R := loop (parA 0) ends s
abbrev signL : List Nm := [[38, 38], [124, 124], [59, 59], [60, 60], [62, 62], [59], [124], [40], [41], [60], [62]]
def signOf (s : Nm) : Option Nm := signL.find? fun o => has o s
/-- A line, and what stands behind its end. -/
def cutLn (s : Nm) : Nm × Nm := match cutAt 10 s with
  | none => (s, [])
  | some x => x
/-- A here-document: its body, and what is left. -/
def hereF (e : Nm) : Nat → Nm → R
  | 0, _ => .error 20
  | f + 1, s => if s = [] then .error 20 else if (cutLn s).1 = e then .ok ([], (cutLn s).2) else pre ((cutLn s).1 ++ [10]) (hereF e f (cutLn s).2)
def hereM (e s : Nm) : R := hereF e s.length s
def bare (s : Nm) : Nm := s.filter fun c => c != 39 && c != 34 && c != 92
def addB (x : Nm) (t : Tok) : Tok := { t with b := t.b ++ x }
def bareAt (l : List Tok) (i : Nat) : Nm := match l[i]? with
  | some t => bare t.t
  | none => []
def bodiesM : List Nat → List Tok → Nm → Except Int (List Tok × Nm)
  | [], l, s => .ok (l, s)
  | i :: is, l, s => bnd (hereM (bareAt l i) s) fun x => bodiesM is (l.modify i (addB x.1)) x.2
def isIo (s out q : Nm) : Bool := decide (s.length = out.length + q.length) && out.all digB && (has [60] q || has [62] q)
def isHere (l : List Tok) : Bool := match l.getLast? with
  | some t => decide (t.k = 2) && decide (t.t = [60, 60])
  | none => false
abbrev St := List Tok × List Nat × Nm
/-- What is next, in line g. -/
def oneM (g : Nat) (l : List Tok) (h : List Nat) (s : Nm) : Except Int St :=
  match s with
  | [] => .ok (l, h, [])
  | c :: r =>
    if c = 10 then bnd (bodiesM h (l ++ [⟨3, [], [], g⟩]) r) fun x => .ok (x.1, [], x.2)
    else if c = 35 then .ok (l, h, (c :: r).drop (cutLn (c :: r)).1.length)
    else if has [92, 10] (c :: r) then .ok (l, h, r.drop 1)
    else if c = 32 ∨ c = 9 then .ok (l, h, r)
    else match signOf (c :: r) with
      | some o => .ok (l ++ [⟨2, o, [], g⟩], h, (c :: r).drop o.length)
      | none =>
        if c = 38 then .error 20
        else bnd (wordM (c :: r)) fun x =>
          if isIo (c :: r) x.1 x.2 then .ok (l ++ [⟨5, x.1, [], g⟩], h, x.2)
          else .ok (l ++ [⟨1, x.1, [], g⟩], if isHere l then h ++ [l.length] else h, x.2)
abbrev RA := Except (Int × Nat) (List Tok)
def lastLn (l : List Tok) : Nat := match l.getLast? with
  | some t => t.ln
  | none => 0
def allF (K : Nat) : Nat → St → RA
  | 0, (l, h, s) => if s = [] then (if h = [] then .ok (l ++ [⟨4, [], [], K⟩]) else .error (20, lastLn l)) else .error (20, 0)
  | f + 1, (l, h, s) => if s = [] then (if h = [] then .ok (l ++ [⟨4, [], [], K⟩]) else .error (20, lastLn l))
    else match oneM (K - nl s) l h s with
      | .error e => .error (e, K - nl s)
      | .ok x => allF K f x
/-- From a state on, up to the end. -/
def allS (K : Nat) (x : St) : RA := allF K x.2.2.length x
def allM (s : Nm) : RA := allS (1 + nl s) ([], [], s)
theorem cutLn_len (s : Nm) (h : s ≠ []) : (cutLn s).2.length < s.length := by
  unfold cutLn
  cases hc : cutAt 10 s with
  | none => simp only; have := List.length_pos_iff.2 h; simpa
  | some x => have := congrArg List.length (cut_len hc); simp at this ⊢; omega
theorem hereF_len (e : Nm) : ∀ f s x, hereF e f s = .ok x → x.2.length < s.length
  | 0, s, x, h => by cases h
  | f + 1, s, x, h => by
    unfold hereF at h
    split at h
    · cases h
    · rename_i hs
      have h1 := cutLn_len s hs
      split at h
      · injection h with h; subst h; exact h1
      · obtain ⟨p, h2, _⟩ := pre_ok_inv h
        have := hereF_len e f _ (p, x.2) h2
        exact Nat.lt_trans this h1
theorem hereF_eq (e : Nm) : ∀ f g s, s.length ≤ f → s.length ≤ g → hereF e f s = hereF e g s
  | 0, 0, s, _, _ => rfl
  | 0, g + 1, s, hf, _ => by
    obtain rfl := List.length_eq_zero_iff.1 (Nat.le_zero.1 hf)
    rfl
  | f + 1, 0, s, _, hg => by
    obtain rfl := List.length_eq_zero_iff.1 (Nat.le_zero.1 hg)
    rfl
  | f + 1, g + 1, s, hf, hg => by
    unfold hereF
    split
    · rfl
    · rename_i hs
      have h1 := cutLn_len s hs
      rw [hereF_eq e f g _ (by omega) (by omega)]
theorem hereM_eq (e s : Nm) (h : s ≠ []) : hereM e s = if (cutLn s).1 = e then .ok ([], (cutLn s).2) else pre ((cutLn s).1 ++ [10]) (hereM e (cutLn s).2) := by
  unfold hereM
  have h1 := cutLn_len s h
  cases s with
  | nil => exact absurd rfl h
  | cons c r =>
    show hereF e (r.length + 1) (c :: r) = _
    rw [hereF, if_neg h, hereF_eq e r.length _ _ (by simp at h1 ⊢; omega) (Nat.le_refl _)]
theorem hereM_len {e s : Nm} {x : Nm × Nm} (h : hereM e s = .ok x) : x.2.length < s.length := hereF_len e _ _ _ h
theorem bodies_len : ∀ (h : List Nat) (l : List Tok) (s : Nm) (x : List Tok × Nm), bodiesM h l s = .ok x → x.2.length ≤ s.length
  | [], l, s, x, e => by injection e with e; subst e; exact Nat.le_refl _
  | i :: is, l, s, x, e => by
    obtain ⟨y, h1, h2⟩ := bnd_ok_inv (x := hereM (bareAt l i) s) e
    have := hereM_len h1
    have := bodies_len is _ _ _ h2
    omega
theorem word_len {s : Nm} (h : ends s = false) {x : Nm × Nm} (e : wordM s = .ok x) : x.2.length < s.length := by
  unfold wordM at e
  rw [loop_step (part_strict 0) (part_nil 0) h] at e
  obtain ⟨y, h1, h2⟩ := bnd_ok_inv e
  obtain ⟨p, h3, _⟩ := pre_ok_inv h2
  have h4 := part_strict 0 _ _ h1
  have := (loopF_len (fun s x h => Nat.le_of_lt (part_strict 0 s x h)) _ _ _ h3).1
  simp at this; omega
theorem sign_has {s o : Nm} (h : signOf s = some o) : has o s = true ∧ o ∈ signL := ⟨by simpa using List.find?_some h, List.mem_of_find?_eq_some h⟩
theorem sign_pos {o : Nm} (h : o ∈ signL) : 1 ≤ o.length ∧ o.length ≤ 2 ∧ o.count 10 = 0 := by
  simp [signL] at h
  rcases h with rfl | rfl | rfl | rfl | rfl | rfl | rfl | rfl | rfl | rfl | rfl <;> decide
theorem has_single {c d : UInt8} {r : Nm} : has [d] (c :: r) = decide (d = c) := by
  simp only [has, List.isPrefixOf, Bool.and_true]
  by_cases h : d = c <;> simp [h]
theorem sign_none {c : UInt8} {r : Nm} (h : signOf (c :: r) = none) : c ≠ 59 ∧ c ≠ 124 ∧ c ≠ 40 ∧ c ≠ 41 ∧ c ≠ 60 ∧ c ≠ 62 := by
  unfold signOf at h
  rw [List.find?_eq_none] at h
  have hh : ∀ d : UInt8, [d] ∈ signL → c ≠ d := fun d hd e => by
    have := h [d] hd
    rw [has_single] at this
    simp [e] at this
  exact ⟨hh _ (by decide), hh _ (by decide), hh _ (by decide), hh _ (by decide), hh _ (by decide), hh _ (by decide)⟩
theorem cutLn_pos {c : UInt8} {r : Nm} (h : c ≠ 10) : 0 < (cutLn (c :: r)).1.length := by
  unfold cutLn
  unfold cutAt
  rw [if_neg h]
  cases hc : cutAt 10 r <;> simp
theorem word_at {c : UInt8} {r : Nm} (h10 : c ≠ 10) (hb : ¬ (c = 32 ∨ c = 9)) (hs : signOf (c :: r) = none) (h38 : c ≠ 38) : ends (c :: r) = false := by
  obtain ⟨h1, h2, h3, h4, h5, h6⟩ := sign_none hs
  have h7 : c ≠ 32 := fun e => hb (.inl e)
  have h8 : c ≠ 9 := fun e => hb (.inr e)
  simp [ends, blkL, *]
theorem one_len {g : Nat} {l : List Tok} {h : List Nat} {s : Nm} (hs : s ≠ []) {x : St} (e : oneM g l h s = .ok x) : x.2.2.length < s.length := by
  cases s with
  | nil => exact absurd rfl hs
  | cons c r =>
    unfold oneM at e
    simp only at e
    split at e
    · obtain ⟨y, h1, h2⟩ := bnd_ok_inv e
      injection h2 with h2; subst h2
      have := bodies_len _ _ _ _ h1
      simp; omega
    · rename_i h10
      split at e
      · injection e with e; subst e
        have := cutLn_pos (r := r) h10
        simp only [List.length_drop, List.length_cons] at this ⊢; omega
      · split at e
        · injection e with e; subst e; simp; omega
        · split at e
          · injection e with e; subst e; simp
          · rename_i hb
            split at e
            · rename_i o ho
              injection e with e; subst e
              have := (sign_pos (sign_has ho).2).1
              simp; omega
            · rename_i hn
              split at e
              · cases e
              · rename_i h38
                obtain ⟨y, h1, h2⟩ := bnd_ok_inv e
                have := word_len (word_at h10 hb hn h38) h1
                split at h2 <;> (injection h2 with h2; subst h2; exact this)
theorem allF_eq (K : Nat) : ∀ f g (x : St), x.2.2.length ≤ f → x.2.2.length ≤ g → allF K f x = allF K g x
  | 0, 0, x, _, _ => rfl
  | 0, g + 1, (l, h, s), hf, _ => by
    obtain rfl : s = [] := List.length_eq_zero_iff.1 (Nat.le_zero.1 hf)
    rfl
  | f + 1, 0, (l, h, s), _, hg => by
    obtain rfl : s = [] := List.length_eq_zero_iff.1 (Nat.le_zero.1 hg)
    rfl
  | f + 1, g + 1, (l, h, s), hf, hg => by
    unfold allF
    split
    · rfl
    · rename_i hs
      cases he : oneM (K - nl s) l h s with
      | error e => rfl
      | ok x =>
        have := one_len hs he
        simp only
        simp at hf hg
        exact allF_eq K f g x (by omega) (by omega)
theorem allS_end (K : Nat) (l : List Tok) (h : List Nat) : allS K (l, h, []) = if h = [] then .ok (l ++ [⟨4, [], [], K⟩]) else .error (20, lastLn l) := rfl
theorem allS_step (K : Nat) (l : List Tok) (h : List Nat) {s : Nm} (hs : s ≠ []) : allS K (l, h, s) = match oneM (K - nl s) l h s with
    | .error e => .error (e, K - nl s)
    | .ok x => allS K x := by
  cases s with
  | nil => exact absurd rfl hs
  | cons c r =>
    show allF K (r.length + 1) (l, h, c :: r) = _
    rw [allF, if_neg hs]
    cases he : oneM (K - nl (c :: r)) l h (c :: r) with
    | error e => rfl
    | ok x =>
      have := one_len hs he
      simp only
      exact allF_eq K _ _ x (by simp at this; omega) (Nat.le_refl _)
def Out (step : Nm → R) : Prop := ∀ s x, step s = .ok x → x.1.length + x.2.length ≤ s.length
theorem loopF_out {step : Nm → R} {stop : Nm → Bool} (h : Out step) : ∀ f s x, loopF step stop f s = .ok x → x.1.length + x.2.length ≤ s.length
  | 0, s, x, e => by
    unfold loopF at e
    split at e
    · injection e with e; subst e; simp
    · cases e
  | f + 1, s, x, e => by
    unfold loopF at e
    split at e
    · injection e with e; subst e; simp
    · obtain ⟨y, h1, h2⟩ := bnd_ok_inv e
      obtain ⟨p, h3, h5⟩ := pre_ok_inv h2
      have h4 := loopF_out h f y.2 (p, x.2) h3
      have := h s y h1
      rw [h5, List.length_append]
      simp at h4; omega
theorem ari_out : ∀ (s : Nm) (d : Nat) (x : Nm × Nm), ariM d s = .ok x → x.1.length + x.2.length ≤ s.length
  | [], d, x, e => by cases e
  | c :: r, d, x, e => by
    unfold ariM at e
    split at e
    · rename_i h
      injection e with e; subst e
      have := has_len h.2
      simp at this ⊢; omega
    · have hc : ∀ d', pre [c] (ariM d' r) = .ok x → x.1.length + x.2.length ≤ (c :: r).length := fun d' e => by
        obtain ⟨p, h1, h5⟩ := pre_ok_inv e
        have h2 : p.length + x.2.length ≤ r.length := ari_out r d' (p, x.2) h1
        rw [h5]; simp; omega
      split at e
      · split at e
        · cases e
        · exact hc _ e
      · split at e
        · exact hc _ e
        · exact hc _ e
theorem dol_out {inner : Nm → R} {deep : Nat} (hi : Out inner) (hk : ∀ s x, inner s = .ok x → has [125] x.2 = true) {s : Nm} (hs : has [36] s = true) {x : Nm × Nm} (e : dolM inner deep s = .ok x) : x.1.length + x.2.length ≤ s.length := by
  have h0 := has_len hs
  unfold dolM at e
  split at e
  · rename_i h
    have h3 := has_len h
    obtain ⟨p, h1, h5⟩ := pre_ok_inv e
    have h2 : p.length + x.2.length ≤ (s.drop 3).length := ari_out _ _ (p, x.2) h1
    rw [List.length_drop] at h2; rw [h5]; simp at h3 ⊢; omega
  · split at e
    · cases e
    · split at e
      · injection e with e; subst e; simp at h0 ⊢; omega
      · split at e
        · cases e
        · rename_i h _
          obtain ⟨y, h1, h2⟩ := bnd_ok_inv e
          injection h2 with h2; subst h2
          have := hi _ _ h1
          have h4 := has_len (hk _ _ h1)
          have h3 := has_len (p := [36, 123]) (by simpa using h)
          simp at this h3 h4 ⊢; omega
theorem inq_out {dol : Nm → R} (hd : ∀ s x, has [36] s = true → dol s = .ok x → x.1.length + x.2.length ≤ s.length) : Out (inqM dol) := by
  intro s x e
  unfold inqM at e
  split at e
  · cases e
  · split at e
    · injection e with e; subst e; simp; omega
    · split at e
      · split at e
        · cases e
        · injection e with e; subst e; simp; omega
      · split at e
        · rename_i h
          subst h
          exact hd _ _ rfl e
        · split at e
          · cases e
          · injection e with e; subst e; simp; omega
theorem par_out {dol : Nm → R} {f : Nat} (hd : ∀ s x, has [36] s = true → dol s = .ok x → x.1.length + x.2.length ≤ s.length) (hs : ∀ s x, has [36] s = true → dol s = .ok x → x.2.length < s.length) : Out (parM dol f) := by
  intro s x e
  unfold parM at e
  split at e
  · cases e
  · split at e
    · injection e with e; subst e; simp; omega
    · split at e
      · split at e
        · cases e
        · injection e with e; subst e; simp; omega
      · split at e
        · split at e
          · cases e
          · rename_i y hy
            injection e with e; subst e
            have := congrArg List.length (cut_len hy)
            simp at this ⊢; omega
        · split at e
          · obtain ⟨y, h1, h2⟩ := bnd_ok_inv e
            injection h2 with h2; subst h2
            have h3 := loopF_out (inq_out hd) _ _ _ h1
            have h4 := has_len (loopF_len (fun s x h => Nat.le_of_lt (inq_strict hs s x h)) _ _ _ h1).2
            simp at h3 h4 ⊢; omega
          · split at e
            · rename_i h; subst h; exact hd _ _ rfl e
            · split at e
              · cases e
              · injection e with e; subst e; simp; omega
theorem inner_stop (f deep : Nat) : ∀ s x, loopF (partF f deep) (has [125]) f s = .ok x → has [125] x.2 = true := fun s x h => (loopF_len (fun s x h => Nat.le_of_lt (partF_strict f deep s x h)) _ _ _ h).2
theorem partF_out : ∀ (f deep : Nat), Out (partF f deep)
  | 0, deep => fun s x e => by cases e
  | f + 1, deep => par_out (fun s x hs e => dol_out (loopF_out (partF_out f (deep + 1)) f) (inner_stop _ _) hs e) (dol_weak (inner_weak _ _))
theorem part_out (deep : Nat) : Out (parA deep) := fun s x h => partF_out _ _ s x h
theorem dollar_out (deep : Nat) : ∀ s x, has [36] s = true → dollar deep s = .ok x → x.1.length + x.2.length ≤ s.length :=
  fun s x hs e => dol_out (fun s x h => loopF_out (part_out _) _ _ _ h) (fun s x h => (loopF_len (fun s x h => Nat.le_of_lt (part_strict _ s x h)) _ _ _ h).2) hs e
theorem inq_out' (deep : Nat) : Out (inq deep) := inq_out (dollar_out deep)
def fin (c : UInt8) (x : Nm × Nm) : R := .ok (x.1 ++ [c], x.2.drop 1)
theorem inner_fin (z : R) : (bnd z fun x => .ok (36 :: 123 :: x.1 ++ [125], x.2.drop 1)) = bnd (pre [36, 123] z) (fin 125) := by cases z <;> rfl
theorem quo_fin (z : R) : (bnd z fun x => .ok (34 :: x.1 ++ [34], x.2.drop 1)) = bnd (pre [34] z) (fin 34) := by cases z <;> rfl
theorem lp_stop {step : Nm → R} {stop : Nm → Bool} {F : Nm × Nm → R} {o q : Nm} (h : stop q = true) : bnd (pre o (loop step stop q)) F = F (o, q) := by
  rw [loop_stop h, pre_ok, bnd_ok, List.append_nil]
theorem lp_step {step : Nm → R} {stop : Nm → Bool} {F : Nm × Nm → R} {o q p q' : Nm} (hs : Strict step) (h0 : step [] = .error 20) (h : stop q = false) (he : step q = .ok (p, q')) : bnd (pre o (loop step stop q)) F = bnd (pre (o ++ p) (loop step stop q')) F := by
  rw [loop_step hs h0 h, he, bnd_ok, pre_pre]
theorem lp_err {step : Nm → R} {stop : Nm → Bool} {F : Nm × Nm → R} {o q : Nm} {e : Int} (hs : Strict step) (h0 : step [] = .error 20) (h : stop q = false) (he : step q = .error e) : bnd (pre o (loop step stop q)) F = .error e := by
  rw [loop_step hs h0 h, he, bnd_err, pre_err, bnd_err]
theorem inq_cons (deep : Nat) (c : UInt8) (r : Nm) : inq deep (c :: r) = if has [92, 10] (c :: r) then .ok ([], r.drop 1)
    else if c = 92 then (match r with
      | [] => .error 20
      | d :: r' => .ok ([92, d], r'))
    else if c = 36 then dollar deep (c :: r)
    else if c = 96 then .error 20
    else .ok ([c], r) := rfl
theorem has_first {k c : UInt8} {p r : Nm} (h : k ≠ c) : has (k :: p) (c :: r) = false := by simp [has, List.isPrefixOf, h]
end Go.Proofs.YtiklkhbfilbpeaaGreatDoor.Lx
