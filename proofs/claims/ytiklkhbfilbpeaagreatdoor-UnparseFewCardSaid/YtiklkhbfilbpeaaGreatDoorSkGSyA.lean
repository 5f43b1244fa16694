/-
  Syntax: what a script's tree is, as plain functions. No program stands here but for what a name is (LxName). Conditions: as each law says.
  Syntax: each node but the last one is the kid of one node behind it. No program stands here. Conditions: as each law says.
  Syntax: each turn of a loop takes a token. No program stands here. Conditions: as each law says.
  Syntax: tokens that are alike give trees that are alike: but for lines, behind other nodes. No program stands here. Conditions: as each law says.
  Syntax: few nodes are put: fewer than eight for each token. No program stands here. Conditions: as each law says.
-/
import Derived.Test.YtiklkhbfilbpeaaGreatDoorSkLxName
set_option linter.unusedVariables false
set_option linter.unusedSimpArgs false
namespace Go.Proofs.YtiklkhbfilbpeaaGreatDoor.Sy
open Lx
structure Rdr where
  fd : Nat
  o : Nm
  w : Nm
  b : Nm
  deriving DecidableEq
structure Nd where
  k : Nat
  t : Nm := []
  fl : Bool := false
  ws : List Nm := []
  st : Nat := 0
  rs : List Rdr := []
  ks : List Nat := []
  ln : Nat
  deriving DecidableEq
/-- The nodes that were put, and the tokens that are left. -/
abbrev S := List Nd × List Tok
abbrev P (α : Type) := Except (Int × Nat) (α × S)
def bd {α β : Type} : P α → (α → S → P β) → P β
  | .error e, _ => .error e
  | .ok x, f => f x.1 x.2
@[simp] theorem bd_ok {α β : Type} (a : α) (s : S) (f : α → S → P β) : bd (.ok (a, s)) f = f a s := rfl
@[simp] theorem bd_err {α β : Type} (e : Int × Nat) (f : α → S → P β) : bd (.error e) f = .error e := rfl
def nx (s : S) : Tok := s.2.headD ⟨4, [], [], 0⟩
def er {α : Type} (e : Int) (s : S) : P α := .error (e, (nx s).ln)
def tk (s : S) : S := if (nx s).k = 4 then s else (s.1, s.2.tail)
def isM (k : Nat) (ts : List Nm) (s : S) : Bool := decide ((nx s).k = k) && ts.contains (nx s).t
def needM (k : Nat) (ts : List Nm) (s : S) : P Unit := if isM k ts s then .ok ((), tk s) else er 20 s
def rawM (s : S) : P Nm := if (nx s).k = 1 then .ok ((nx s).t, tk s) else er 20 s
def dropL : List Tok → List Tok
  | [] => []
  | t :: l => if t.k = 3 then dropL l else t :: l
def lns (s : S) : S := (s.1, dropL s.2)
def putM (n : Nd) (s : S) : P Nat := .ok (s.1.length, (s.1 ++ [n], s.2))
abbrev resL : List Nm := [[33], [123], [125], [99, 97, 115, 101], [100, 111], [100, 111, 110, 101], [101, 108, 105, 102], [101, 108, 115, 101], [101, 115, 97, 99], [102, 105], [102, 111, 114], [105, 102], [116, 104, 101, 110], [117, 110, 116, 105, 108], [119, 104, 105, 108, 101]]
def begins (s : S) : Bool :=
  if (nx s).k = 1 then !resL.contains (nx s).t || [[33], [123], [99, 97, 115, 101], [102, 111, 114], [105, 102], [117, 110, 116, 105, 108], [119, 104, 105, 108, 101]].contains (nx s).t
  else if (nx s).k = 2 then [[40], [60], [62], [60, 60], [62, 62]].contains (nx s).t
  else decide ((nx s).k = 5)
/-- A loop over what is left: each turn takes a token at least. -/
def loopP {α : Type} (cond : S → Bool) (step : α → S → P α) : Nat → α → S → P α
  | 0, a, s => .ok (a, s)
  | f + 1, a, s => if cond s then bd (step a s) (loopP cond step f) else .ok (a, s)
def whileM {α : Type} (cond : S → Bool) (step : α → S → P α) (a : α) (s : S) : P α := loopP cond step s.2.length a s
def redirects (s : S) : Bool := decide ((nx s).k = 5) || isM 2 [[60], [62], [60, 60], [62, 62]] s
def num (w : Nm) : Nat := w.foldl (fun n c => n * 10 + (c.toNat - 48)) 0
def redirM (s : S) : P Rdr :=
  let io := decide ((nx s).k = 5)
  let s1 := if io then tk s else s
  let op := (nx s1).t
  let fd := if io then min (num (nx s).t) 99 else if op.head? = some 60 then 0 else 1
  let s2 := tk s1
  bd (rawM s2) fun w s3 => .ok (⟨fd, op, w, (nx s2).b⟩, s3)
def redirsM (s : S) : P (List Rdr) := whileM redirects (fun l s => bd (redirM s) fun x s => .ok (l ++ [x], s)) [] s
def addW (n : Nd) (w : Nm) : Nd := { n with ws := n.ws ++ [w], st := if (setsM w).2.2 ∧ n.st = n.ws.length then n.st + 1 else n.st }
def simpleM (s : S) : P Nat :=
  bd (whileM (fun s => redirects s || decide ((nx s).k = 1)) (fun n s => if redirects s then bd (redirM s) fun x s => .ok ({ n with rs := n.rs ++ [x] }, s) else bd (rawM s) fun w s => .ok (addW n w, s)) ({ k := 1, ln := (nx s).ln } : Nd) s) putM
def isComp (s : S) : Bool := isM 2 [[40]] s || ([[123], [105, 102], [119, 104, 105, 108, 101], [117, 110, 116, 105, 108], [102, 111, 114], [99, 97, 115, 101]].contains (nx s).t && decide ((nx s).k = 1))
def names (s : S) : Bool := decide ((nx s).k = 1) && (match s.2 with
  | _ :: t :: _ :: _ => decide (t.k = 2) && decide (t.t = [40])
  | _ => false) && nameB (nx s).t
def cmdM (nest : S → P Nat) (s : S) : P Nat := if begins s = false ∨ isM 1 [[33]] s = true then er 20 s else if isComp s = false ∧ names s = false then simpleM s else nest s
def pipeM (nest : S → P Nat) (s : S) : P Nat :=
  let fl := isM 1 [[33]] s
  let s1 := if fl then tk s else s
  bd (cmdM nest s1) fun k s2 => bd (whileM (isM 2 [[124]]) (fun l s => bd (cmdM nest (lns (tk s))) fun k s => .ok (l ++ [k], s)) [k] s2) fun ks s3 =>
    if fl = false ∧ ks.length = 1 then .ok (k, s3) else putM { k := 2, fl := fl, ks := ks, ln := (nx s).ln } s3
def andorM (nest : S → P Nat) (s : S) : P Nat :=
  bd (pipeM nest s) fun k s1 => whileM (isM 2 [[38, 38], [124, 124]]) (fun k s2 => bd (pipeM nest (lns (tk s2))) fun k2 s3 => putM { k := if (nx s2).t = [124, 124] then 4 else 3, ks := [k, k2], ln := (nx s).ln } s3) k s1
def listF (nest : S → P Nat) : Nat → List Nat → S → P (List Nat)
  | 0, ks, s => .ok (ks, s)
  | f + 1, ks, s => if begins s then bd (andorM nest s) fun k s1 =>
      if isM 2 [[59]] s1 = false ∧ (nx s1).k ≠ 3 then .ok (ks ++ [k], s1) else listF nest f (ks ++ [k]) (lns (tk s1))
    else .ok (ks, s)
def listM (nest : S → P Nat) (em : Bool) (s : S) : P Nat :=
  bd (listF nest s.2.length [] (lns s)) fun ks s1 => if ks = [] ∧ em = false then er 20 s1 else putM { k := 5, ks := ks, ln := (nx (lns s)).ln } s1
def bodyM (nest : S → P Nat) (s : S) : P Nat := bd (needM 1 [[100, 111]] s) fun _ s => bd (listM nest false s) fun k s => bd (needM 1 [[100, 111, 110, 101]] s) fun _ s => .ok (k, s)
def groupM (nest : S → P Nat) (ln : Nat) (s : S) : P Nd := bd (listM nest false (tk s)) fun k s => bd (needM 1 [[125]] s) fun _ s => .ok ({ k := 11, ks := [k], ln := ln }, s)
def subM (nest : S → P Nat) (ln : Nat) (s : S) : P Nd := bd (listM nest false (tk s)) fun k s => bd (needM 2 [[41]] s) fun _ s => .ok ({ k := 12, ks := [k], ln := ln }, s)
def asksF (nest : S → P Nat) : Nat → Nat → S → P Nd
  | 0, ln, s => er 20 s
  | f + 1, ln, s => bd (listM nest false (tk s)) fun c s => bd (needM 1 [[116, 104, 101, 110]] s) fun _ s => bd (listM nest false s) fun b s =>
      if isM 1 [[101, 108, 105, 102]] s then bd (asksF nest f (nx s).ln s) fun n s => bd (putM n s) fun k s => .ok ({ k := 6, ks := [c, b, k], ln := ln }, s)
      else if isM 1 [[101, 108, 115, 101]] s then bd (listM nest false (tk s)) fun k s => bd (needM 1 [[102, 105]] s) fun _ s => .ok ({ k := 6, ks := [c, b, k], ln := ln }, s)
      else bd (needM 1 [[102, 105]] s) fun _ s => .ok ({ k := 6, ks := [c, b], ln := ln }, s)
def asksM (nest : S → P Nat) (ln : Nat) (s : S) : P Nd := asksF nest s.2.length ln s
def whilM (nest : S → P Nat) (ln : Nat) (s : S) : P Nd :=
  bd (listM nest false (tk s)) fun c s1 => bd (bodyM nest s1) fun b s2 => .ok ({ k := 7, fl := decide ((nx s).t = [117, 110, 116, 105, 108]), ks := [c, b], ln := ln }, s2)
def eachM (nest : S → P Nat) (ln : Nat) (s : S) : P Nd :=
  let s := tk s
  if nameB (nx s).t = false then er 20 s else bd (rawM s) fun t s =>
    if isM 2 [[59]] s then bd (bodyM nest (lns (tk s))) fun b s => .ok ({ k := 8, t := t, fl := true, ks := [b], ln := ln }, s)
    else
      let s := lns s
      if isM 1 [[105, 110]] s then bd (whileM (fun s => decide ((nx s).k = 1)) (fun l s => bd (rawM s) fun w s => .ok (l ++ [w], s)) [] (tk s)) fun ws s =>
        if isM 2 [[59]] s = false ∧ (nx s).k ≠ 3 then er 20 s else bd (bodyM nest (lns (tk s))) fun b s => .ok ({ k := 8, t := t, ws := ws, ks := [b], ln := ln }, s)
      else bd (bodyM nest s) fun b s => .ok ({ k := 8, t := t, fl := true, ks := [b], ln := ln }, s)
def itemM (nest : S → P Nat) (s : S) : P Nat :=
  bd (rawM (if isM 2 [[40]] s then tk s else s)) fun w s1 => bd (whileM (isM 2 [[124]]) (fun l s => bd (rawM (tk s)) fun w s => .ok (l ++ [w], s)) [w] s1) fun ws s2 =>
    bd (needM 2 [[41]] s2) fun _ s3 => bd (listM nest true s3) fun k s4 => putM { k := 10, ws := ws, ks := [k], ln := (nx s).ln } s4
def itemsF (nest : S → P Nat) : Nat → List Nat → S → P (List Nat)
  | 0, ks, s => .ok (ks, s)
  | f + 1, ks, s => if isM 1 [[101, 115, 97, 99]] s then .ok (ks, s) else bd (itemM nest s) fun k s =>
      if isM 2 [[59, 59]] s then itemsF nest f (ks ++ [k]) (lns (tk s)) else .ok (ks ++ [k], s)
def itemsM (nest : S → P Nat) (ks : List Nat) (s : S) : P (List Nat) := itemsF nest (s.2.length + 1) ks s
def casesM (nest : S → P Nat) (ln : Nat) (s : S) : P Nd :=
  bd (rawM (tk s)) fun t s => bd (needM 1 [[105, 110]] (lns s)) fun _ s => bd (itemsM nest [] (lns s)) fun ks s => bd (needM 1 [[101, 115, 97, 99]] s) fun _ s =>
    .ok ({ k := 9, t := t, ks := ks, ln := ln }, s)
def funcM (nest : S → P Nat) (ln : Nat) (s : S) : P Nd :=
  bd (rawM s) fun t s => bd (needM 2 [[40]] s) fun _ s => bd (needM 2 [[41]] s) fun _ s =>
    let s := lns s
    if isComp s = false then er 20 s else bd (nest s) fun k s => .ok ({ k := 13, t := t, ks := [k], ln := ln }, s)
def compM (nest : S → P Nat) (ln : Nat) (s : S) : P Nd :=
  if isM 2 [[40]] s then subM nest ln s
  else if (nx s).t = [123] then groupM nest ln s
  else if (nx s).t = [105, 102] then asksM nest ln s
  else if (nx s).t = [102, 111, 114] then eachM nest ln s
  else if (nx s).t = [99, 97, 115, 101] then casesM nest ln s
  else whilM nest ln s
/-- So many levels are left. -/
def nestD : Nat → S → P Nat
  | 0, s => er 21 s
  | n + 1, s =>
    if isComp s then bd (compM (nestD n) (nx s).ln s) fun x s => bd (redirsM s) fun rs s => putM { x with rs := rs } s
    else bd (funcM (nestD n) (nx s).ln s) putM
/-- The tree of a script of at most 4096 bytes. -/
def parseM (s : Nm) : Except (Int × Nat) (List Nd) := match allM s with
  | .error x => .error x
  | .ok l => match listM (nestD 40) true ([], l) with
    | .error x => .error x
    | .ok x => if (nx x.2).k ≠ 4 then .error (20, (nx x.2).ln) else .ok x.2.1
def Weak {α : Type} (s : S) (x : P α) : Prop := ∀ y, x = .ok y → y.2.2.length ≤ s.2.length
theorem weak_er {α : Type} {e : Int} {s t : S} : Weak (α := α) s (er e t) := fun y h => by cases h
theorem weak_ok {α : Type} {a : α} {s t : S} (h : t.2.length ≤ s.2.length) : Weak s (.ok (a, t)) := fun y e => by injection e with e; subst e; exact h
theorem weak_bd {α β : Type} {s : S} {x : P α} {f : α → S → P β} (h : Weak s x) (hf : ∀ a t, t.2.length ≤ s.2.length → Weak t (f a t)) : Weak s (bd x f) := by
  cases x with
  | error e => exact fun y h => by cases h
  | ok x =>
    have h1 := h x rfl
    exact fun y e => Nat.le_trans (hf x.1 x.2 h1 y e) h1
theorem weak_of {α : Type} {s t : S} {x : P α} (h : Weak t x) (ht : t.2.length ≤ s.2.length) : Weak s x := fun y e => Nat.le_trans (h y e) ht
theorem tk_le (s : S) : (tk s).2.length ≤ s.2.length := by
  unfold tk
  split
  · exact Nat.le_refl _
  · simp
theorem tk_lt {s : S} (h : (nx s).k ≠ 4) : (tk s).2.length < s.2.length := by
  unfold tk
  rw [if_neg h]
  obtain ⟨n, l⟩ := s
  cases l with
  | nil => exact absurd rfl h
  | cons t l => simp
theorem dropL_le : ∀ l : List Tok, (dropL l).length ≤ l.length
  | [] => Nat.le_refl _
  | t :: l => by
    unfold dropL
    split
    · have := dropL_le l; simp; omega
    · exact Nat.le_refl _
theorem lns_le (s : S) : (lns s).2.length ≤ s.2.length := dropL_le s.2
theorem isM_k {k : Nat} {ts : List Nm} {s : S} (h : isM k ts s = true) : (nx s).k = k := by
  unfold isM at h
  simp at h
  exact h.1
theorem need_weak {k : Nat} {ts : List Nm} {s : S} : Weak s (needM k ts s) := by
  unfold needM
  split
  · exact weak_ok (tk_le s)
  · exact weak_er
theorem raw_weak {s : S} : Weak s (rawM s) := by
  unfold rawM
  split
  · exact weak_ok (tk_le s)
  · exact weak_er
theorem put_weak {n : Nd} {s : S} : Weak s (putM n s) := weak_ok (Nat.le_refl _)
theorem loop_weak {α : Type} {cond : S → Bool} {step : α → S → P α} (h : ∀ a s, Weak s (step a s)) : ∀ (f : Nat) (a : α) (s : S), Weak s (loopP cond step f a s)
  | 0, a, s => weak_ok (Nat.le_refl _)
  | f + 1, a, s => by
    unfold loopP
    split
    · exact weak_bd (h a s) fun a t ht => loop_weak h f a t
    · exact weak_ok (Nat.le_refl _)
theorem while_weak {α : Type} {cond : S → Bool} {step : α → S → P α} (h : ∀ a s, Weak s (step a s)) (a : α) (s : S) : Weak s (whileM cond step a s) := loop_weak h _ a s
/-- Each turn takes a token at least. -/
def Takes {α : Type} (cond : S → Bool) (step : α → S → P α) : Prop := ∀ a s x, cond s = true → step a s = .ok x → x.2.2.length < s.2.length
theorem loop_eq {α : Type} {cond : S → Bool} {step : α → S → P α} (h : Takes cond step) (h0 : ∀ s, cond s = true → s.2 ≠ []) : ∀ (f g : Nat) (a : α) (s : S), s.2.length ≤ f → s.2.length ≤ g → loopP cond step f a s = loopP cond step g a s
  | 0, 0, a, s, _, _ => rfl
  | 0, g + 1, a, s, hf, _ => by
    have hs : s.2 = [] := List.length_eq_zero_iff.1 (Nat.le_zero.1 hf)
    unfold loopP
    rw [if_neg (fun hc => h0 s hc hs)]
  | f + 1, 0, a, s, _, hg => by
    have hs : s.2 = [] := List.length_eq_zero_iff.1 (Nat.le_zero.1 hg)
    unfold loopP
    rw [if_neg (fun hc => h0 s hc hs)]
  | f + 1, g + 1, a, s, hf, hg => by
    unfold loopP
    split
    · rename_i hc
      cases he : step a s with
      | error e => rfl
      | ok x =>
        have := h a s x hc he
        exact loop_eq h h0 f g x.1 x.2 (by omega) (by omega)
    · rfl
theorem while_eq {α : Type} {cond : S → Bool} {step : α → S → P α} (h : Takes cond step) (h0 : ∀ s, cond s = true → s.2 ≠ []) (a : α) (s : S) : whileM cond step a s = if cond s then bd (step a s) (whileM cond step) else .ok (a, s) := by
  unfold whileM
  cases hl : s.2.length with
  | zero =>
    have hs : s.2 = [] := List.length_eq_zero_iff.1 hl
    rw [if_neg (fun hc => h0 s hc hs)]
    rfl
  | succ n =>
    rw [loopP]
    split
    · rename_i hc
      cases he : step a s with
      | error e => rfl
      | ok x =>
        have := h a s x hc he
        exact loop_eq h h0 _ _ x.1 x.2 (by omega) (Nat.le_refl _)
    · rfl
theorem weak_tk {α : Type} {s : S} {x : P α} (h : Weak (tk s) x) : Weak s x := weak_of h (tk_le s)
theorem weak_lns {α : Type} {s : S} {x : P α} (h : Weak (lns s) x) : Weak s x := weak_of h (lns_le s)
theorem redir_weak (s : S) : Weak s (redirM s) := by
  unfold redirM
  simp only
  refine weak_of (t := tk (if decide ((nx s).k = 5) = true then tk s else s)) (weak_bd raw_weak fun w t ht => weak_ok (Nat.le_refl _)) ?_
  split
  · exact Nat.le_trans (tk_le _) (tk_le _)
  · exact tk_le _
theorem redirs_weak (s : S) : Weak s (redirsM s) := while_weak (fun l s => weak_bd (redir_weak s) fun x t _ => weak_ok (Nat.le_refl _)) _ s
theorem simple_weak (s : S) : Weak s (simpleM s) := by
  unfold simpleM
  refine weak_bd (while_weak (fun n s => ?_) _ s) fun n t _ => put_weak
  split
  · exact weak_bd (redir_weak s) fun x t _ => weak_ok (Nat.le_refl _)
  · exact weak_bd raw_weak fun x t _ => weak_ok (Nat.le_refl _)
theorem begins_ne {s : S} (h : begins s = true) : (nx s).k ≠ 4 := fun e => by
  unfold begins at h
  rw [if_neg (by omega), if_neg (by omega)] at h
  simp [e] at h
section
variable {nest : S → P Nat} (hn : ∀ s, Weak s (nest s))
include hn
theorem cmd_weak (s : S) : Weak s (cmdM nest s) := by
  unfold cmdM
  split
  · exact weak_er
  · split
    · exact simple_weak s
    · exact hn s
theorem pipe_weak (s : S) : Weak s (pipeM nest s) := by
  unfold pipeM
  simp only
  refine weak_of (t := if isM 1 [[33]] s = true then tk s else s) (weak_bd (cmd_weak hn _) fun k t _ => weak_bd (while_weak (fun l u => weak_tk (weak_lns (weak_bd (cmd_weak hn _) fun k v _ => weak_ok (Nat.le_refl _)))) _ _) fun ks u _ => ?_) ?_
  · split
    · exact weak_ok (Nat.le_refl _)
    · exact put_weak
  · split
    · exact tk_le s
    · exact Nat.le_refl _
theorem andor_weak (s : S) : Weak s (andorM nest s) := by
  unfold andorM
  exact weak_bd (pipe_weak hn s) fun k t _ => while_weak (fun l u => weak_tk (weak_lns (weak_bd (pipe_weak hn _) fun k v _ => put_weak))) _ _
theorem listF_weak : ∀ (f : Nat) (ks : List Nat) (s : S), Weak s (listF nest f ks s)
  | 0, ks, s => weak_ok (Nat.le_refl _)
  | f + 1, ks, s => by
    unfold listF
    split
    · refine weak_bd (andor_weak hn s) fun k t _ => ?_
      split
      · exact weak_ok (Nat.le_refl _)
      · exact weak_tk (weak_lns (listF_weak f _ _))
    · exact weak_ok (Nat.le_refl _)
theorem list_weak (em : Bool) (s : S) : Weak s (listM nest em s) := by
  unfold listM
  refine weak_lns (weak_bd (listF_weak hn _ _ _) fun ks t _ => ?_)
  split
  · exact weak_er
  · exact put_weak
/-- A list, taken apart, without fuel. -/
theorem listF_eq : ∀ (f g : Nat) (ks : List Nat) (s : S), s.2.length ≤ f → s.2.length ≤ g → listF nest f ks s = listF nest g ks s
  | 0, 0, ks, s, _, _ => rfl
  | 0, g + 1, ks, s, hf, _ => by
    have hs : s.2 = [] := List.length_eq_zero_iff.1 (Nat.le_zero.1 hf)
    have hb : ¬ begins s = true := fun h => by
      have := tk_lt (begins_ne h)
      rw [hs] at this
      simp at this
    unfold listF
    rw [if_neg hb]
  | f + 1, 0, ks, s, _, hg => by
    have hs : s.2 = [] := List.length_eq_zero_iff.1 (Nat.le_zero.1 hg)
    have hb : ¬ begins s = true := fun h => by
      have := tk_lt (begins_ne h)
      rw [hs] at this
      simp at this
    unfold listF
    rw [if_neg hb]
  | f + 1, g + 1, ks, s, hf, hg => by
    unfold listF
    split
    · cases he : andorM nest s with
      | error e => rfl
      | ok x =>
        have h1 : x.2.2.length ≤ s.2.length := andor_weak hn s x he
        obtain ⟨k, t⟩ := x
        simp only [bd_ok]
        split
        · rfl
        · rename_i hc
          have h4 : (nx t).k ≠ 4 := fun e => hc ⟨by
            cases hi : isM 2 [[59]] t with
            | false => rfl
            | true => have := isM_k hi; omega, by omega⟩
          have h2 := tk_lt h4
          have h3 := lns_le (tk t)
          simp only at h1
          exact listF_eq f g _ _ (by omega) (by omega)
    · rfl
/-- A list, from a place on. -/
def runM (nest : S → P Nat) (ks : List Nat) (s : S) : P (List Nat) := listF nest s.2.length ks s
theorem run_eq (ks : List Nat) (s : S) : runM nest ks s = if begins s then bd (andorM nest s) fun k s1 =>
      if isM 2 [[59]] s1 = false ∧ (nx s1).k ≠ 3 then .ok (ks ++ [k], s1) else runM nest (ks ++ [k]) (lns (tk s1))
    else .ok (ks, s) := by
  unfold runM
  rw [listF_eq hn s.2.length (s.2.length + 1) ks s (Nat.le_refl _) (by omega)]
  rw [listF]
  split
  · cases he : andorM nest s with
    | error e => rfl
    | ok x =>
      have h1 : x.2.2.length ≤ s.2.length := andor_weak hn s x he
      obtain ⟨k, t⟩ := x
      simp only [bd_ok]
      simp only at h1
      split
      · rfl
      · have h2 := tk_le t
        have h3 := lns_le (tk t)
        exact listF_eq hn _ _ _ _ (by omega) (Nat.le_refl _)
  · rfl
theorem body_weak (s : S) : Weak s (bodyM nest s) := by
  unfold bodyM
  exact weak_bd need_weak fun _ t _ => weak_bd (list_weak hn false t) fun k u _ => weak_bd need_weak fun _ v _ => weak_ok (Nat.le_refl _)
theorem group_weak (ln : Nat) (s : S) : Weak s (groupM nest ln s) := by
  unfold groupM
  exact weak_tk (weak_bd (list_weak hn false _) fun k u _ => weak_bd need_weak fun _ v _ => weak_ok (Nat.le_refl _))
theorem sub_weak (ln : Nat) (s : S) : Weak s (subM nest ln s) := by
  unfold subM
  exact weak_tk (weak_bd (list_weak hn false _) fun k u _ => weak_bd need_weak fun _ v _ => weak_ok (Nat.le_refl _))
theorem asks_weak : ∀ (f ln : Nat) (s : S), Weak s (asksF nest f ln s)
  | 0, ln, s => weak_er
  | f + 1, ln, s => by
    unfold asksF
    refine weak_tk (weak_bd (list_weak hn false _) fun c t _ => weak_bd need_weak fun _ u _ => weak_bd (list_weak hn false _) fun b v _ => ?_)
    split
    · exact weak_bd (asks_weak f _ v) fun n w _ => weak_bd put_weak fun k x _ => weak_ok (Nat.le_refl _)
    · split
      · exact weak_tk (weak_bd (list_weak hn false _) fun k w _ => weak_bd need_weak fun _ x _ => weak_ok (Nat.le_refl _))
      · exact weak_bd need_weak fun _ x _ => weak_ok (Nat.le_refl _)
theorem whil_weak (ln : Nat) (s : S) : Weak s (whilM nest ln s) := by
  unfold whilM
  exact weak_tk (weak_bd (list_weak hn false _) fun c t _ => weak_bd (body_weak hn t) fun b u _ => weak_ok (Nat.le_refl _))
theorem item_weak (s : S) : Weak s (itemM nest s) := by
  unfold itemM
  refine weak_of (t := if isM 2 [[40]] s = true then tk s else s) (weak_bd raw_weak fun w t _ => weak_bd (while_weak (fun l u => weak_tk (weak_bd raw_weak fun w v _ => weak_ok (Nat.le_refl _))) _ _) fun ws u _ => weak_bd need_weak fun _ v _ => weak_bd (list_weak hn true v) fun k w _ => put_weak) ?_
  split
  · exact tk_le s
  · exact Nat.le_refl _
theorem items_weak : ∀ (f : Nat) (ks : List Nat) (s : S), Weak s (itemsF nest f ks s)
  | 0, ks, s => weak_ok (Nat.le_refl _)
  | f + 1, ks, s => by
    unfold itemsF
    split
    · exact weak_ok (Nat.le_refl _)
    · refine weak_bd (item_weak hn s) fun k t _ => ?_
      split
      · exact weak_tk (weak_lns (items_weak f _ _))
      · exact weak_ok (Nat.le_refl _)
theorem cases_weak (ln : Nat) (s : S) : Weak s (casesM nest ln s) := by
  unfold casesM
  exact weak_tk (weak_bd raw_weak fun t u _ => weak_lns (weak_bd need_weak fun _ v _ => weak_lns (weak_of (weak_bd (items_weak hn _ _ _) fun ks w _ => weak_bd need_weak fun _ x _ => weak_ok (Nat.le_refl _)) (Nat.le_refl _))))
theorem itemsF_eq : ∀ (f g : Nat) (ks : List Nat) (s : S), s.2.length ≤ f → s.2.length ≤ g → itemsF nest (f + 1) ks s = itemsF nest (g + 1) ks s := by
  intro f
  induction f with
  | zero =>
    intro g ks s hf hg
    have key : ∀ f, itemsF nest (f + 1) ks s = if isM 1 [[101, 115, 97, 99]] s then .ok (ks, s) else bd (itemM nest s) fun k s => if isM 2 [[59, 59]] s then itemsF nest f (ks ++ [k]) (lns (tk s)) else .ok (ks ++ [k], s) := fun f => rfl
    rw [key, key]
    split
    · rfl
    · cases he : itemM nest s with
      | error e => rfl
      | ok x =>
        have h1 := item_weak hn s x he
        obtain ⟨k, t⟩ := x
        simp only [bd_ok]
        simp only at h1
        split
        · rename_i hi
          have := tk_lt (s := t) (by rw [isM_k hi]; decide)
          omega
        · rfl
  | succ f ih =>
    intro g ks s hf hg
    have key : ∀ f, itemsF nest (f + 1) ks s = if isM 1 [[101, 115, 97, 99]] s then .ok (ks, s) else bd (itemM nest s) fun k s => if isM 2 [[59, 59]] s then itemsF nest f (ks ++ [k]) (lns (tk s)) else .ok (ks ++ [k], s) := fun f => rfl
    rw [key, key]
    split
    · rfl
    · cases he : itemM nest s with
      | error e => rfl
      | ok x =>
        have h1 := item_weak hn s x he
        obtain ⟨k, t⟩ := x
        simp only [bd_ok]
        simp only at h1
        split
        · rename_i hi
          have h2 := tk_lt (s := t) (by rw [isM_k hi]; decide)
          have h3 := lns_le (tk t)
          cases g with
          | zero => omega
          | succ g => exact ih g _ _ (by omega) (by omega)
        · rfl
theorem itemsM_eq (ks : List Nat) (s : S) : itemsM nest ks s = if isM 1 [[101, 115, 97, 99]] s then .ok (ks, s) else bd (itemM nest s) fun k s => if isM 2 [[59, 59]] s then itemsM nest (ks ++ [k]) (lns (tk s)) else .ok (ks ++ [k], s) := by
  unfold itemsM
  rw [itemsF]
  split
  · rfl
  · cases he : itemM nest s with
    | error e => rfl
    | ok x =>
      have h1 := item_weak hn s x he
      obtain ⟨k, t⟩ := x
      simp only [bd_ok]
      simp only at h1
      split
      · rename_i hi
        have h2 := tk_lt (s := t) (by rw [isM_k hi]; decide)
        have h3 := lns_le (tk t)
        cases hl : s.2.length with
        | zero => omega
        | succ n => exact itemsF_eq hn n _ _ _ (by omega) (Nat.le_refl _)
      · rfl
theorem each_weak (ln : Nat) (s : S) : Weak s (eachM nest ln s) := by
  unfold eachM
  refine weak_tk ?_
  simp only
  split
  · exact weak_er
  · refine weak_bd raw_weak fun t u _ => ?_
    split
    · exact weak_tk (weak_lns (weak_bd (body_weak hn _) fun b v _ => weak_ok (Nat.le_refl _)))
    · refine weak_lns ?_
      split
      · refine weak_tk (weak_bd (while_weak (fun l u => weak_bd raw_weak fun w v _ => weak_ok (Nat.le_refl _)) _ _) fun ws v _ => ?_)
        split
        · exact weak_er
        · exact weak_tk (weak_lns (weak_bd (body_weak hn _) fun b v _ => weak_ok (Nat.le_refl _)))
      · exact weak_bd (body_weak hn _) fun b v _ => weak_ok (Nat.le_refl _)
theorem func_weak (ln : Nat) (s : S) : Weak s (funcM nest ln s) := by
  unfold funcM
  refine weak_bd raw_weak fun t u _ => weak_bd need_weak fun _ v _ => weak_bd need_weak fun _ w _ => weak_lns ?_
  simp only
  split
  · exact weak_er
  · exact weak_bd (hn _) fun k x _ => weak_ok (Nat.le_refl _)
theorem comp_weak (ln : Nat) (s : S) : Weak s (compM nest ln s) := by
  unfold compM
  split
  · exact sub_weak hn ln s
  · split
    · exact group_weak hn ln s
    · split
      · exact asks_weak hn _ ln s
      · split
        · exact each_weak hn ln s
        · split
          · exact cases_weak hn ln s
          · exact whil_weak hn ln s
end
theorem nest_weak : ∀ (n : Nat) (s : S), Weak s (nestD n s)
  | 0, s => weak_er
  | n + 1, s => by
    unfold nestD
    split
    · exact weak_bd (comp_weak (nest_weak n) _ s) fun x t _ => weak_bd (redirs_weak t) fun rs u _ => put_weak
    · exact weak_bd (func_weak (nest_weak n) _ s) fun x t _ => put_weak
section
variable {nest : S → P Nat} (hn : ∀ s, Weak s (nest s))
include hn
theorem asksF_eq : ∀ (f g ln : Nat) (s : S), (tk s).2.length ≤ f → (tk s).2.length ≤ g → asksF nest (f + 1) ln s = asksF nest (g + 1) ln s
  | 0, g, ln, s, hf, hg => by
    have key : ∀ f, asksF nest (f + 1) ln s = bd (listM nest false (tk s)) fun c s => bd (needM 1 [[116, 104, 101, 110]] s) fun _ s => bd (listM nest false s) fun b s =>
      if isM 1 [[101, 108, 105, 102]] s then bd (asksF nest f (nx s).ln s) fun n s => bd (putM n s) fun k s => .ok ({ k := 6, ks := [c, b, k], ln := ln }, s)
      else if isM 1 [[101, 108, 115, 101]] s then bd (listM nest false (tk s)) fun k s => bd (needM 1 [[102, 105]] s) fun _ s => .ok ({ k := 6, ks := [c, b, k], ln := ln }, s)
      else bd (needM 1 [[102, 105]] s) fun _ s => .ok ({ k := 6, ks := [c, b], ln := ln }, s) := fun f => rfl
    rw [key, key]
    cases hc : listM nest false (tk s) with
    | error e => rfl
    | ok x =>
      obtain ⟨c, t⟩ := x
      have h1 := list_weak hn false _ _ hc
      simp only [bd_ok]
      simp only at h1
      cases hd : needM 1 [[116, 104, 101, 110]] t with
      | error e => rfl
      | ok y =>
        have h2 := need_weak _ hd
        obtain ⟨_, u⟩ := y
        simp only [bd_ok]
        simp only at h2
        cases he : listM nest false u with
        | error e => rfl
        | ok z =>
          obtain ⟨b, v⟩ := z
          have h3 := list_weak hn false _ _ he
          simp only [bd_ok]
          simp only at h3
          split
          · rename_i hi
            have h4 := tk_lt (s := v) (by rw [isM_k hi]; decide)
            omega
          · rfl
  | f + 1, g, ln, s, hf, hg => by
    have key : ∀ f, asksF nest (f + 1) ln s = bd (listM nest false (tk s)) fun c s => bd (needM 1 [[116, 104, 101, 110]] s) fun _ s => bd (listM nest false s) fun b s =>
      if isM 1 [[101, 108, 105, 102]] s then bd (asksF nest f (nx s).ln s) fun n s => bd (putM n s) fun k s => .ok ({ k := 6, ks := [c, b, k], ln := ln }, s)
      else if isM 1 [[101, 108, 115, 101]] s then bd (listM nest false (tk s)) fun k s => bd (needM 1 [[102, 105]] s) fun _ s => .ok ({ k := 6, ks := [c, b, k], ln := ln }, s)
      else bd (needM 1 [[102, 105]] s) fun _ s => .ok ({ k := 6, ks := [c, b], ln := ln }, s) := fun f => rfl
    rw [key, key]
    cases hc : listM nest false (tk s) with
    | error e => rfl
    | ok x =>
      obtain ⟨c, t⟩ := x
      have h1 := list_weak hn false _ _ hc
      simp only [bd_ok]
      simp only at h1
      cases hd : needM 1 [[116, 104, 101, 110]] t with
      | error e => rfl
      | ok y =>
        have h2 := need_weak _ hd
        obtain ⟨_, u⟩ := y
        simp only [bd_ok]
        simp only at h2
        cases he : listM nest false u with
        | error e => rfl
        | ok z =>
          obtain ⟨b, v⟩ := z
          have h3 := list_weak hn false _ _ he
          simp only [bd_ok]
          simp only at h3
          split
          · rename_i hi
            have h4 := tk_lt (s := v) (by rw [isM_k hi]; decide)
            cases g with
            | zero => omega
            | succ g => rw [asksF_eq f g (nx v).ln v (by omega) (by omega)]
          · rfl
theorem asksM_eq (ln : Nat) (s : S) (h : (nx s).k ≠ 4) : asksM nest ln s = bd (listM nest false (tk s)) fun c s => bd (needM 1 [[116, 104, 101, 110]] s) fun _ s => bd (listM nest false s) fun b s =>
      if isM 1 [[101, 108, 105, 102]] s then bd (asksM nest (nx s).ln s) fun n s => bd (putM n s) fun k s => .ok ({ k := 6, ks := [c, b, k], ln := ln }, s)
      else if isM 1 [[101, 108, 115, 101]] s then bd (listM nest false (tk s)) fun k s => bd (needM 1 [[102, 105]] s) fun _ s => .ok ({ k := 6, ks := [c, b, k], ln := ln }, s)
      else bd (needM 1 [[102, 105]] s) fun _ s => .ok ({ k := 6, ks := [c, b], ln := ln }, s) := by
  have hlt := tk_lt h
  unfold asksM
  cases hl : s.2.length with
  | zero => omega
  | succ f =>
    rw [asksF]
    cases hc : listM nest false (tk s) with
    | error e => rfl
    | ok x =>
      obtain ⟨c, t⟩ := x
      have h1 := list_weak hn false _ _ hc
      simp only [bd_ok]
      simp only at h1
      cases hd : needM 1 [[116, 104, 101, 110]] t with
      | error e => rfl
      | ok y =>
        have h2 := need_weak _ hd
        obtain ⟨_, u⟩ := y
        simp only [bd_ok]
        simp only at h2
        cases he : listM nest false u with
        | error e => rfl
        | ok z =>
          obtain ⟨b, v⟩ := z
          have h3 := list_weak hn false _ _ he
          simp only [bd_ok]
          simp only at h3
          split
          · rename_i hi
            have h4 := tk_lt (s := v) (by rw [isM_k hi]; decide)
            cases f with
            | zero => omega
            | succ f =>
              cases hv : v.2.length with
              | zero => omega
              | succ g => rw [asksF_eq hn f g (nx v).ln v (by omega) (by omega)]
          · rfl
end
end Go.Proofs.YtiklkhbfilbpeaaGreatDoor.Sy
set_option linter.unusedVariables false
set_option linter.unusedSimpArgs false
namespace Go.Proofs.YtiklkhbfilbpeaaGreatDoor.Sy
open Lx
def cnt (ns : List Nd) (R : List Nat) (i : Nat) : Nat := (ns.map fun n => n.ks.count i).sum + R.count i
def Fits (n : Nd) : Prop :=
  (n.k = 1 ∧ n.ks = [] ∧ 0 < n.ws.length + n.rs.length ∧ n.st ≤ n.ws.length) ∨
  (n.k = 2 ∧ (1 < n.ks.length ∨ (n.ks.length = 1 ∧ n.fl = true))) ∨
  ((n.k = 3 ∨ n.k = 4 ∨ n.k = 7) ∧ n.ks.length = 2) ∨
  (n.k = 6 ∧ (n.ks.length = 2 ∨ n.ks.length = 3)) ∨
  ((n.k = 8 ∨ n.k = 10 ∨ n.k = 11 ∨ n.k = 12 ∨ n.k = 13) ∧ n.ks.length = 1) ∨
  (n.k = 5 ∨ n.k = 9)
structure Inv (ns : List Nd) (R : List Nat) : Prop where
  one : ∀ i, cnt ns R i = if i < ns.length then 1 else 0
  kids : ∀ (j : Nat) (h : j < ns.length), ∀ k ∈ ns[j].ks, k < j
  fits : ∀ n ∈ ns, Fits n
theorem inv_nil : Inv [] [] := ⟨fun i => rfl, fun j h => absurd h (Nat.not_lt_zero _), fun n h => absurd h List.not_mem_nil⟩
theorem Inv.perm {ns : List Nd} {R R' : List Nat} (h : Inv ns R) (hp : ∀ i, R'.count i = R.count i) : Inv ns R' :=
  ⟨fun i => by have := h.one i; unfold cnt at this ⊢; rw [hp]; exact this, h.kids, h.fits⟩
theorem Inv.put {ns : List Nd} {R : List Nat} {n : Nd} (h : Inv ns (n.ks ++ R)) (hf : Fits n) : Inv (ns ++ [n]) (ns.length :: R) := by
  have hk : ∀ k ∈ n.ks, k < ns.length := fun k hk => by
    have h1 := h.one k
    have h2 : 0 < (n.ks ++ R).count k := List.count_pos_iff.2 (List.mem_append_left _ hk)
    unfold cnt at h1
    split at h1
    · assumption
    · omega
  refine ⟨fun i => ?_, fun j hj k hk2 => ?_, fun m hm => ?_⟩
  · have h1 := h.one i
    unfold cnt at h1 ⊢
    rw [List.count_append] at h1
    rw [List.map_append, List.sum_append, List.map_cons, List.map_nil, List.sum_cons, List.sum_nil, List.count_cons, List.length_append, List.length_singleton]
    by_cases hi : i = ns.length
    · subst hi
      rw [if_neg (Nat.lt_irrefl _)] at h1
      rw [if_pos (Nat.lt_succ_self _)]
      simp
      omega
    · have hne : (ns.length == i) = false := by rw [beq_eq_false_iff_ne]; exact fun e => hi e.symm
      rw [hne]
      simp only [Bool.false_eq_true, if_false]
      by_cases hl : i < ns.length
      · have hl2 : i < ns.length + 1 := by omega
        rw [if_pos hl] at h1; rw [if_pos hl2]; omega
      · have hl2 : ¬ i < ns.length + 1 := by omega
        rw [if_neg hl] at h1; rw [if_neg hl2]; omega
  · by_cases hl : j < ns.length
    · rw [List.getElem_append_left hl] at hk2
      exact h.kids j hl k hk2
    · have e : j = ns.length := by simp at hj; omega
      subst e
      rw [List.getElem_append_right (Nat.le_refl _)] at hk2
      simp at hk2
      exact hk k hk2
  · rcases List.mem_append.1 hm with hm | hm
    · exact h.fits m hm
    · obtain rfl := List.mem_singleton.1 hm; exact hf
/-- What keeps the invariant: Q is what is yet to be taken. -/
def Keep {α : Type} (x : P α) (R : List Nat) (Q : α → List Nat) (C : α → Prop) : Prop := ∀ y, x = .ok y → Inv y.2.1 (Q y.1 ++ R) ∧ C y.1
theorem bd_inv {α β : Type} {x : P α} {f : α → S → P β} {y : β × S} (h : bd x f = .ok y) : ∃ a t, x = .ok (a, t) ∧ f a t = .ok y := by
  cases x with
  | error e => cases h
  | ok z => exact ⟨z.1, z.2, rfl, h⟩
theorem keep_bd {α β : Type} {x : P α} {f : α → S → P β} {R R' : List Nat} {Q : α → List Nat} {Q' : β → List Nat} {C : α → Prop} {C' : β → Prop} (h : Keep x R Q C) (hf : ∀ a t, Inv t.1 (Q a ++ R) → C a → Keep (f a t) R' Q' C') : Keep (bd x f) R' Q' C' := fun y hy => by
  obtain ⟨a, t, h1, h2⟩ := bd_inv hy
  have h3 := h _ h1
  exact hf a t h3.1 h3.2 y h2
theorem keep_er {α : Type} {e : Int} {s : S} {R : List Nat} {Q : α → List Nat} {C : α → Prop} : Keep (er e s) R Q C := fun y h => by cases h
theorem keep_ok {α : Type} {a : α} {s : S} {R : List Nat} {Q : α → List Nat} {C : α → Prop} (h : Inv s.1 (Q a ++ R)) (hc : C a) : Keep (.ok (a, s)) R Q C := fun y e => by injection e with e; subst e; exact ⟨h, hc⟩
abbrev T1 {α : Type} : α → Prop := fun _ => True
abbrev Q0 {α : Type} : α → List Nat := fun _ => []
abbrev Q1 : Nat → List Nat := fun k => [k]
abbrev QN : Nd → List Nat := fun n => n.ks
theorem keep_put {n : Nd} {s : S} {R : List Nat} (h : Inv s.1 (n.ks ++ R)) (hf : Fits n) : Keep (putM n s) R Q1 T1 := keep_ok (h.put hf) trivial
/-- What changes no node. -/
def Idle {α : Type} (s : S) (x : P α) : Prop := ∀ y, x = .ok y → y.2.1 = s.1
theorem keep_idle {α : Type} {x : P α} {s : S} {R : List Nat} (h : Idle s x) (hs : Inv s.1 R) : Keep x R Q0 T1 := fun y hy => ⟨by rw [h y hy]; exact hs, trivial⟩
theorem idle_bd {α β : Type} {s : S} {x : P α} {f : α → S → P β} (h : Idle s x) (hf : ∀ a t, Idle t (f a t)) : Idle s (bd x f) := fun y hy => by
  obtain ⟨a, t, h1, h2⟩ := bd_inv hy
  exact (hf a t y h2).trans (h _ h1)
theorem idle_er {α : Type} {e : Int} {s t : S} : Idle s (er (α := α) e t) := fun y h => by cases h
theorem idle_ok {α : Type} {a : α} {s t : S} (h : t.1 = s.1) : Idle s (.ok (a, t)) := fun y e => by injection e with e; subst e; exact h
theorem tk_ns (s : S) : (tk s).1 = s.1 := by unfold tk; split <;> rfl
theorem lns_ns (s : S) : (lns s).1 = s.1 := rfl
theorem need_idle {k : Nat} {ts : List Nm} {s : S} : Idle s (needM k ts s) := by
  unfold needM
  split
  · exact idle_ok (tk_ns s)
  · exact idle_er
theorem raw_idle {s : S} : Idle s (rawM s) := by
  unfold rawM
  split
  · exact idle_ok (tk_ns s)
  · exact idle_er
theorem idle_of {α : Type} {s t : S} {x : P α} (h : Idle t x) (e : t.1 = s.1) : Idle s x := fun y hy => (h y hy).trans e
theorem loop_idle {α : Type} {cond : S → Bool} {step : α → S → P α} (h : ∀ a s, Idle s (step a s)) : ∀ (f : Nat) (a : α) (s : S), Idle s (loopP cond step f a s)
  | 0, a, s => idle_ok rfl
  | f + 1, a, s => by
    unfold loopP
    split
    · exact idle_bd (h a s) fun a t => loop_idle h f a t
    · exact idle_ok rfl
theorem redir_idle (s : S) : Idle s (redirM s) := by
  unfold redirM
  simp only
  refine idle_of (t := tk (if decide ((nx s).k = 5) = true then tk s else s)) (idle_bd raw_idle fun w t => idle_ok rfl) ?_
  rw [tk_ns]
  split
  · exact tk_ns s
  · rfl
theorem redirs_idle (s : S) : Idle s (redirsM s) := loop_idle (fun l s => idle_bd (redir_idle s) fun x t => idle_ok rfl) _ _ s
theorem loop_inv {α : Type} {cond : S → Bool} {step : α → S → P α} {I : α → S → Prop} (h : ∀ a s y, I a s → cond s = true → step a s = .ok y → I y.1 y.2) : ∀ (f : Nat) (a : α) (s : S) (y : α × S), I a s → loopP cond step f a s = .ok y → I y.1 y.2
  | 0, a, s, y, hi, e => by injection e with e; subst e; exact hi
  | f + 1, a, s, y, hi, e => by
    unfold loopP at e
    split at e
    · rename_i hc
      obtain ⟨b, t, h1, h2⟩ := bd_inv e
      exact loop_inv h f b t y (h a s _ hi hc h1) h2
    · injection e with e; subst e; exact hi
theorem keep_loop {α : Type} {cond : S → Bool} {step : α → S → P α} {R : List Nat} {Q : α → List Nat} {C : α → Prop} (h : ∀ a s, Inv s.1 (Q a ++ R) → C a → Keep (step a s) R Q C) (a : α) (s : S) (hi : Inv s.1 (Q a ++ R)) (hc : C a) : Keep (whileM cond step a s) R Q C := fun y e =>
  loop_inv (I := fun a s => Inv s.1 (Q a ++ R) ∧ C a) (fun a s y hi _ e => h a s hi.1 hi.2 y e) _ _ _ y ⟨hi, hc⟩ e
def SimI (ns : List Nd) (n : Nd) (s : S) : Prop := s.1 = ns ∧ n.k = 1 ∧ n.ks = [] ∧ n.st ≤ n.ws.length
theorem add_le {n : Nd} {w : Nm} (h : n.st ≤ n.ws.length) : (addW n w).st ≤ (addW n w).ws.length := by
  unfold addW
  simp only [List.length_append, List.length_singleton]
  split <;> omega
abbrev simC (s : S) : Bool := redirects s || decide ((nx s).k = 1)
abbrev simS (n : Nd) (s : S) : P Nd := if redirects s then bd (redirM s) fun x s => .ok ({ n with rs := n.rs ++ [x] }, s) else bd (rawM s) fun w s => .ok (addW n w, s)
theorem sim_step {ns : List Nd} {n : Nd} {s : S} {y : Nd × S} (h : SimI ns n s) (e : simS n s = .ok y) : SimI ns y.1 y.2 ∧ 0 < y.1.ws.length + y.1.rs.length := by
  obtain ⟨h1, h2, h3, h4⟩ := h
  unfold simS at e
  split at e
  · obtain ⟨x, t, e1, e2⟩ := bd_inv e
    injection e2 with e2
    subst e2
    exact ⟨⟨(redir_idle s _ e1).trans h1, h2, h3, h4⟩, by simp; omega⟩
  · obtain ⟨x, t, e1, e2⟩ := bd_inv e
    injection e2 with e2
    subst e2
    exact ⟨⟨(raw_idle (s := s) _ e1).trans h1, h2, h3, add_le h4⟩, by simp [addW]; omega⟩
theorem simple_keep (s : S) (R : List Nat) (hs : Inv s.1 R) (hb : simC s = true) : Keep (simpleM s) R Q1 T1 := by
  intro y e
  unfold simpleM at e
  obtain ⟨n, t, e1, e2⟩ := bd_inv e
  have h0 : SimI s.1 ({ k := 1, ln := (nx s).ln } : Nd) s := ⟨rfl, rfl, rfl, Nat.zero_le _⟩
  have hfin : SimI s.1 n t ∧ 0 < n.ws.length + n.rs.length := by
    unfold whileM at e1
    cases hl : s.2.length with
    | zero =>
      have hs2 : s.2 = [] := List.length_eq_zero_iff.1 hl
      exfalso
      unfold simC redirects isM nx at hb
      rw [hs2] at hb
      simp at hb
    | succ f =>
      rw [hl, loopP, if_pos hb] at e1
      obtain ⟨a, u, h1, h2⟩ := bd_inv e1
      have h3 := sim_step h0 h1
      exact loop_inv (I := fun n t => SimI s.1 n t ∧ 0 < n.ws.length + n.rs.length) (fun a s y hi _ e => sim_step hi.1 e) f a u (n, t) h3 h2
  obtain ⟨⟨h1, h2, h3, h4⟩, h5⟩ := hfin
  exact keep_put (by rw [h3, h1]; exact hs) (.inl ⟨h2, h3, h5, h4⟩) y e2
def NestK (nest : S → P Nat) : Prop := ∀ (s : S) (R : List Nat), Inv s.1 R → Keep (nest s) R Q1 T1
theorem begins_sim {s : S} (h1 : begins s = true) (h2 : isComp s = false) : simC s = true := by
  unfold begins at h1
  unfold isComp at h2
  unfold simC redirects isM
  simp only [Bool.or_eq_false_iff] at h2
  split at h1
  · rename_i hk
    simp [hk]
  · split at h1
    · rename_i hk
      have h3 := h2.1
      unfold isM at h3
      simp only [hk, decide_true, Bool.true_and] at h3 ⊢
      simp only [List.contains_cons, List.contains_nil, Bool.or_false] at h3 h1 ⊢
      rw [h3, Bool.false_or] at h1
      simp only [decide_false, Bool.false_or, Nat.reduceEqDiff]
      rw [h1]; rfl
    · simp at h1 ⊢
      simp [h1]
section
variable {nest : S → P Nat} (hn : NestK nest)
include hn
theorem cmd_keep (s : S) (R : List Nat) (hs : Inv s.1 R) : Keep (cmdM nest s) R Q1 T1 := by
  unfold cmdM
  split
  · exact keep_er
  · rename_i hb
    split
    · rename_i hc
      refine simple_keep s R hs (begins_sim ?_ hc.1)
      cases h : begins s with
      | true => rfl
      | false => exact absurd (.inl h) hb
    · exact hn s R hs
theorem pipe_keep (s : S) (R : List Nat) (hs : Inv s.1 R) : Keep (pipeM nest s) R Q1 T1 := by
  unfold pipeM
  simp only
  refine keep_bd (cmd_keep hn _ R (by split <;> first | exact hs | (rw [tk_ns]; exact hs))) fun k t ht _ => ?_
  refine keep_bd (C := fun ks => 0 < ks.length ∧ (ks.length = 1 → ks = [k])) (Q := fun ks => ks) (keep_loop (fun l u hu hc => keep_bd (cmd_keep hn (lns (tk u)) (l ++ R) (by rw [lns_ns, tk_ns]; exact hu)) fun k2 v hv _ => keep_ok ?_ ?_) [k] t ht ⟨by simp, fun _ => rfl⟩) fun ks u hu hc => ?_
  · exact hv.perm (fun i => by simp only [Q0, Q1, QN, List.count_append, List.count_cons, List.count_nil]; omega)
  · have := hc.1
    exact ⟨by simp, fun h => by rw [List.length_append, List.length_singleton] at h; omega⟩
  · split
    · rename_i h
      exact keep_ok (by have := hc.2 h.2; subst this; exact hu) trivial
    · rename_i h
      refine keep_put hu (.inr (.inl ⟨rfl, ?_⟩))
      show 1 < ks.length ∨ (ks.length = 1 ∧ _)
      by_cases h1 : ks.length = 1
      · exact .inr ⟨h1, by simpa [h1] using h⟩
      · exact .inl (by have := hc.1; omega)
theorem andor_keep (s : S) (R : List Nat) (hs : Inv s.1 R) : Keep (andorM nest s) R Q1 T1 := by
  unfold andorM
  refine keep_bd (pipe_keep hn s R hs) fun k t ht _ => keep_loop (fun k u hu _ => keep_bd (pipe_keep hn (lns (tk u)) ([k] ++ R) (by rw [lns_ns, tk_ns]; exact hu)) fun k2 v hv _ => keep_put ?_ (.inr (.inr (.inl ⟨?_, rfl⟩)))) k t ht trivial
  · exact hv.perm (fun i => by simp only [Q0, Q1, QN, List.count_append, List.count_cons, List.count_nil]; omega)
  · show (if _ then 4 else 3) = 3 ∨ (if _ then 4 else 3) = 4 ∨ _
    split
    · exact .inr (.inl rfl)
    · exact .inl rfl
theorem listF_keep : ∀ (f : Nat) (ks : List Nat) (s : S) (R : List Nat), Inv s.1 (ks ++ R) → Keep (listF nest f ks s) R (fun ks => ks) T1
  | 0, ks, s, R, hs => keep_ok hs trivial
  | f + 1, ks, s, R, hs => by
    unfold listF
    split
    · refine keep_bd (andor_keep hn s (ks ++ R) hs) fun k t ht _ => ?_
      have ht2 : Inv t.1 ((ks ++ [k]) ++ R) := ht.perm (fun i => by simp only [Q0, Q1, QN, List.count_append, List.count_cons, List.count_nil]; omega)
      split
      · exact keep_ok ht2 trivial
      · exact listF_keep f _ _ R (by rw [lns_ns, tk_ns]; exact ht2)
    · exact keep_ok hs trivial
theorem list_keep (em : Bool) (s : S) (R : List Nat) (hs : Inv s.1 R) : Keep (listM nest em s) R Q1 T1 := by
  unfold listM
  refine keep_bd (listF_keep hn _ [] (lns s) R hs) fun ks t ht _ => ?_
  split
  · exact keep_er
  · exact keep_put ht (.inr (.inr (.inr (.inr (.inr (.inl rfl))))))
theorem body_keep (s : S) (R : List Nat) (hs : Inv s.1 R) : Keep (bodyM nest s) R Q1 T1 := by
  unfold bodyM
  exact keep_bd (keep_idle need_idle hs) fun _ t ht _ => keep_bd (list_keep hn false t R ht) fun k u hu _ => keep_bd (keep_idle need_idle hu) fun _ v hv _ => keep_ok hv trivial
abbrev FitX (n : Nd) : Prop := ∀ rs, Fits { n with rs := rs }
theorem group_keep (ln : Nat) (s : S) (R : List Nat) (hs : Inv s.1 R) : Keep (groupM nest ln s) R QN FitX := by
  unfold groupM
  exact keep_bd (list_keep hn false (tk s) R (by rw [tk_ns]; exact hs)) fun k u hu _ => keep_bd (keep_idle need_idle hu) fun _ v hv _ => keep_ok hv (fun rs => .inr (.inr (.inr (.inr (.inl ⟨by simp, rfl⟩)))))
theorem sub_keep (ln : Nat) (s : S) (R : List Nat) (hs : Inv s.1 R) : Keep (subM nest ln s) R QN FitX := by
  unfold subM
  exact keep_bd (list_keep hn false (tk s) R (by rw [tk_ns]; exact hs)) fun k u hu _ => keep_bd (keep_idle need_idle hu) fun _ v hv _ => keep_ok hv (fun rs => .inr (.inr (.inr (.inr (.inl ⟨by simp, rfl⟩)))))
theorem asks_keep : ∀ (f ln : Nat) (s : S) (R : List Nat), Inv s.1 R → Keep (asksF nest f ln s) R QN FitX
  | 0, ln, s, R, hs => keep_er
  | f + 1, ln, s, R, hs => by
    unfold asksF
    refine keep_bd (list_keep hn false (tk s) R (by rw [tk_ns]; exact hs)) fun c t ht _ => keep_bd (keep_idle need_idle ht) fun _ u hu _ => keep_bd (list_keep hn false u ([c] ++ R) hu) fun b v hv _ => ?_
    split
    · refine keep_bd (asks_keep f _ v ([b] ++ ([c] ++ R)) hv) fun n w hw hf => keep_bd (keep_put hw (hf n.rs)) fun k x hx _ => keep_ok ?_ (fun rs => .inr (.inr (.inr (.inl ⟨rfl, .inr rfl⟩))))
      exact hx.perm (fun i => by simp only [Q0, Q1, QN, List.count_append, List.count_cons, List.count_nil]; omega)
    · split
      · refine keep_bd (list_keep hn false (tk v) ([b] ++ ([c] ++ R)) (by rw [tk_ns]; exact hv)) fun k w hw _ => keep_bd (keep_idle need_idle hw) fun _ x hx _ => keep_ok ?_ (fun rs => .inr (.inr (.inr (.inl ⟨rfl, .inr rfl⟩))))
        exact hx.perm (fun i => by simp only [Q0, Q1, QN, List.count_append, List.count_cons, List.count_nil]; omega)
      · refine keep_bd (keep_idle need_idle hv) fun _ x hx _ => keep_ok ?_ (fun rs => .inr (.inr (.inr (.inl ⟨rfl, .inl rfl⟩))))
        exact hx.perm (fun i => by simp only [Q0, Q1, QN, List.count_append, List.count_cons, List.count_nil]; omega)
theorem whil_keep (ln : Nat) (s : S) (R : List Nat) (hs : Inv s.1 R) : Keep (whilM nest ln s) R QN FitX := by
  unfold whilM
  refine keep_bd (list_keep hn false (tk s) R (by rw [tk_ns]; exact hs)) fun c t ht _ => keep_bd (body_keep hn t ([c] ++ R) ht) fun b u hu _ => keep_ok ?_ (fun rs => .inr (.inr (.inl ⟨.inr (.inr rfl), rfl⟩)))
  exact hu.perm (fun i => by simp only [Q0, Q1, QN, List.count_append, List.count_cons, List.count_nil]; omega)
theorem each_keep (ln : Nat) (s : S) (R : List Nat) (hs : Inv s.1 R) : Keep (eachM nest ln s) R QN FitX := by
  unfold eachM
  simp only
  have F8 : ∀ n : Nd, n.k = 8 → n.ks.length = 1 → FitX n := fun n h1 h2 rs => .inr (.inr (.inr (.inr (.inl ⟨.inl h1, h2⟩))))
  split
  · exact keep_er
  · refine keep_bd (keep_idle raw_idle (by rw [tk_ns]; exact hs)) fun t u hu _ => ?_
    split
    · exact keep_bd (body_keep hn _ R (by rw [lns_ns, tk_ns]; exact hu)) fun b v hv _ => keep_ok hv (F8 _ rfl rfl)
    · split
      · refine keep_bd (keep_idle (loop_idle (fun l u => idle_bd raw_idle fun w v => idle_ok rfl) _ _ _) (by rw [tk_ns, lns_ns]; exact hu)) fun ws v hv _ => ?_
        split
        · exact keep_er
        · exact keep_bd (body_keep hn _ R (by rw [lns_ns, tk_ns]; exact hv)) fun b w hw _ => keep_ok hw (F8 _ rfl rfl)
      · exact keep_bd (body_keep hn _ R (by rw [lns_ns]; exact hu)) fun b w hw _ => keep_ok hw (F8 _ rfl rfl)
theorem item_keep (s : S) (R : List Nat) (hs : Inv s.1 R) : Keep (itemM nest s) R Q1 T1 := by
  unfold itemM
  refine keep_bd (keep_idle raw_idle (by split <;> first | exact hs | (rw [tk_ns]; exact hs))) fun w t ht _ => keep_bd (keep_idle (loop_idle (fun l u => idle_of (idle_bd raw_idle fun w v => idle_ok rfl) (tk_ns u)) _ _ _) ht) fun ws u hu _ => keep_bd (keep_idle need_idle hu) fun _ v hv _ => keep_bd (list_keep hn true v R hv) fun k x hx _ => keep_put hx (.inr (.inr (.inr (.inr (.inl ⟨.inr (.inl rfl), rfl⟩)))))
theorem items_keep : ∀ (f : Nat) (ks : List Nat) (s : S) (R : List Nat), Inv s.1 (ks ++ R) → Keep (itemsF nest f ks s) R (fun ks => ks) T1
  | 0, ks, s, R, hs => keep_ok hs trivial
  | f + 1, ks, s, R, hs => by
    unfold itemsF
    split
    · exact keep_ok hs trivial
    · refine keep_bd (item_keep hn s (ks ++ R) hs) fun k t ht _ => ?_
      have ht2 : Inv t.1 ((ks ++ [k]) ++ R) := ht.perm (fun i => by simp only [Q0, Q1, QN, List.count_append, List.count_cons, List.count_nil]; omega)
      split
      · exact items_keep f _ _ R (by rw [lns_ns, tk_ns]; exact ht2)
      · exact keep_ok ht2 trivial
theorem cases_keep (ln : Nat) (s : S) (R : List Nat) (hs : Inv s.1 R) : Keep (casesM nest ln s) R QN FitX := by
  unfold casesM
  exact keep_bd (keep_idle raw_idle (by rw [tk_ns]; exact hs)) fun t u hu _ => keep_bd (keep_idle need_idle (by rw [lns_ns]; exact hu)) fun _ v hv _ => keep_bd (items_keep hn _ [] (lns v) R (by rw [lns_ns]; exact hv)) fun ks w hw _ => keep_bd (keep_idle need_idle hw) fun _ x hx _ => keep_ok hx (fun rs => .inr (.inr (.inr (.inr (.inr (.inr rfl))))))
theorem func_keep (ln : Nat) (s : S) (R : List Nat) (hs : Inv s.1 R) : Keep (funcM nest ln s) R QN FitX := by
  unfold funcM
  refine keep_bd (keep_idle raw_idle hs) fun t u hu _ => keep_bd (keep_idle need_idle hu) fun _ v hv _ => keep_bd (keep_idle need_idle hv) fun _ w hw _ => ?_
  simp only
  split
  · exact keep_er
  · exact keep_bd (hn _ R (by rw [lns_ns]; exact hw)) fun k x hx _ => keep_ok hx (fun rs => .inr (.inr (.inr (.inr (.inl ⟨.inr (.inr (.inr (.inr rfl))), rfl⟩)))))
theorem comp_keep (ln : Nat) (s : S) (R : List Nat) (hs : Inv s.1 R) : Keep (compM nest ln s) R QN FitX := by
  unfold compM
  split
  · exact sub_keep hn ln s R hs
  · split
    · exact group_keep hn ln s R hs
    · split
      · exact asks_keep hn _ ln s R hs
      · split
        · exact each_keep hn ln s R hs
        · split
          · exact cases_keep hn ln s R hs
          · exact whil_keep hn ln s R hs
end
theorem nest_keep : ∀ n : Nat, NestK (nestD n)
  | 0 => fun s R hs => keep_er
  | n + 1 => fun s R hs => by
    unfold nestD
    split
    · refine keep_bd (comp_keep (nest_keep n) _ s R hs) fun x t ht hf => keep_bd (keep_idle (redirs_idle t) ht) fun rs u hu _ => keep_put hu (hf rs)
    · refine keep_bd (func_keep (nest_keep n) _ s R hs) fun x t ht hf => keep_put ht (hf x.rs)
theorem list_last {nest : S → P Nat} {em : Bool} {s : S} {y : Nat × S} (e : listM nest em s = .ok y) : ∃ ns n, y.2.1 = ns ++ [n] ∧ n.k = 5 ∧ y.1 = ns.length := by
  unfold listM at e
  obtain ⟨ks, t, h1, h2⟩ := bd_inv e
  split at h2
  · cases h2
  · injection h2 with h2
    subst h2
    exact ⟨_, _, rfl, rfl, rfl⟩
/-- A script's tree. -/
theorem parse_keep {s : Nm} {l : List Nd} (h : parseM s = .ok l) : ∃ ns n, l = ns ++ [n] ∧ n.k = 5 ∧ Inv l [ns.length] := by
  unfold parseM at h
  split at h
  · cases h
  · split at h
    · cases h
    · rename_i x hx
      split at h
      · cases h
      · injection h with h
        obtain ⟨ns, n, h1, h2, h3⟩ := list_last hx
        have h4 := (list_keep (nest_keep 40) true ([], _) [] inv_nil x hx).1
        refine ⟨ns, n, by rw [← h]; exact h1, h2, ?_⟩
        rw [← h, ← h3]
        exact h4
end Go.Proofs.YtiklkhbfilbpeaaGreatDoor.Sy
set_option linter.unusedVariables false
set_option linter.unusedSimpArgs false
namespace Go.Proofs.YtiklkhbfilbpeaaGreatDoor.Sy
open Lx
theorem bd_ok_inv {α β : Type} {x : P α} {f : α → S → P β} {y : β × S} (h : bd x f = .ok y) : ∃ a t, x = .ok (a, t) ∧ f a t = .ok y := by
  cases x with
  | error e => cases h
  | ok z => exact ⟨z.1, z.2, rfl, h⟩
theorem k_ne {s : S} (h : (nx s).k ≠ 4) : s.2 ≠ [] := fun e => h (by unfold nx; rw [e]; rfl)
theorem isM_ne {k : Nat} {ts : List Nm} {s : S} (h : isM k ts s = true) (hk : k ≠ 4) : s.2 ≠ [] := k_ne (by rw [isM_k h]; exact hk)
theorem isM_lt {k : Nat} {ts : List Nm} {s : S} (h : isM k ts s = true) (hk : k ≠ 4) : (tk s).2.length < s.2.length := tk_lt (by rw [isM_k h]; exact hk)
theorem redirects_k {s : S} (h : redirects s = true) : (nx s).k ≠ 4 := by
  unfold redirects at h
  rcases Bool.or_eq_true _ _ ▸ h with h | h
  · rw [of_decide_eq_true h]; decide
  · rw [isM_k h]; decide
theorem redir_lt {s : S} {y : Rdr × S} (h : redirects s = true) (e : redirM s = .ok y) : y.2.2.length < s.2.length := by
  have h1 := tk_lt (redirects_k h)
  unfold redirM at e
  simp only at e
  obtain ⟨w, t, e1, e2⟩ := bd_ok_inv e
  injection e2 with e2
  subst e2
  have h2 := raw_weak _ e1
  refine Nat.lt_of_le_of_lt h2 ?_
  split
  · exact Nat.lt_of_le_of_lt (tk_le _) h1
  · exact h1
theorem raw_lt {s : S} {y : Nm × S} (e : rawM s = .ok y) : y.2.2.length < s.2.length := by
  unfold rawM at e
  split at e
  · rename_i h
    injection e with e
    subst e
    exact tk_lt (by rw [h]; decide)
  · cases e
abbrev redS (l : List Rdr) (s : S) : P (List Rdr) := bd (redirM s) fun x s => .ok (l ++ [x], s)
theorem redirs_takes : Takes redirects redS := fun a s x hc e => by
  obtain ⟨w, t, e1, e2⟩ := bd_ok_inv e
  injection e2 with e2
  subst e2
  exact redir_lt hc e1
theorem redirs_ne (s : S) (h : redirects s = true) : s.2 ≠ [] := k_ne (redirects_k h)
abbrev simB (s : S) : Bool := redirects s || decide ((nx s).k = 1)
abbrev simT (n : Nd) (s : S) : P Nd := if redirects s then bd (redirM s) fun x s => .ok ({ n with rs := n.rs ++ [x] }, s) else bd (rawM s) fun w s => .ok (addW n w, s)
theorem sim_takes : Takes simB simT := fun a s x hc e => by
  unfold simT at e
  split at e
  · rename_i h
    obtain ⟨w, t, e1, e2⟩ := bd_ok_inv e
    injection e2 with e2
    subst e2
    exact redir_lt h e1
  · obtain ⟨w, t, e1, e2⟩ := bd_ok_inv e
    injection e2 with e2
    subst e2
    exact raw_lt e1
theorem sim_ne (s : S) (h : simB s = true) : s.2 ≠ [] := by
  unfold simB at h
  rcases Bool.or_eq_true _ _ ▸ h with h | h
  · exact redirs_ne s h
  · exact k_ne (by rw [of_decide_eq_true h]; decide)
abbrev wrdB (s : S) : Bool := decide ((nx s).k = 1)
abbrev wrdT (l : List Nm) (s : S) : P (List Nm) := bd (rawM s) fun w s => .ok (l ++ [w], s)
theorem wrd_takes : Takes wrdB wrdT := fun a s x hc e => by
  obtain ⟨w, t, e1, e2⟩ := bd_ok_inv e
  injection e2 with e2
  subst e2
  exact raw_lt e1
theorem wrd_ne (s : S) (h : wrdB s = true) : s.2 ≠ [] := k_ne (by rw [of_decide_eq_true h]; decide)
abbrev altT (l : List Nm) (s : S) : P (List Nm) := bd (rawM (tk s)) fun w s => .ok (l ++ [w], s)
theorem alt_takes : Takes (isM 2 [[124]]) altT := fun a s x hc e => by
  obtain ⟨w, t, e1, e2⟩ := bd_ok_inv e
  injection e2 with e2
  subst e2
  exact Nat.lt_trans (raw_lt e1) (isM_lt hc (by decide))
theorem alt_ne (s : S) (h : isM 2 [[124]] s = true) : s.2 ≠ [] := isM_ne h (by decide)
section
variable {nest : S → P Nat} (hn : ∀ s, Weak s (nest s))
abbrev pipT (nest : S → P Nat) (l : List Nat) (s : S) : P (List Nat) := bd (cmdM nest (lns (tk s))) fun k s => .ok (l ++ [k], s)
abbrev aoT (nest : S → P Nat) (ln : Nat) (k : Nat) (s2 : S) : P Nat := bd (pipeM nest (lns (tk s2))) fun k2 s3 => putM { k := if (nx s2).t = [124, 124] then 4 else 3, ks := [k, k2], ln := ln } s3
include hn
theorem pip_takes : Takes (isM 2 [[124]]) (pipT nest) := fun a s x hc e => by
  obtain ⟨w, t, e1, e2⟩ := bd_ok_inv e
  injection e2 with e2
  subst e2
  have h1 := cmd_weak hn _ _ e1
  have h2 := lns_le (tk s)
  have h3 := isM_lt hc (by decide)
  simp only at h1 ⊢
  omega
theorem ao_takes (ln : Nat) : Takes (isM 2 [[38, 38], [124, 124]]) (aoT nest ln) := fun a s x hc e => by
  obtain ⟨w, t, e1, e2⟩ := bd_ok_inv e
  have h1 := pipe_weak hn _ _ e1
  have h4 := put_weak _ e2
  have h2 := lns_le (tk s)
  have h3 := isM_lt hc (by decide)
  simp only at h1 h4 ⊢
  omega
end
end Go.Proofs.YtiklkhbfilbpeaaGreatDoor.Sy
set_option linter.unusedVariables false
set_option linter.unusedSimpArgs false
namespace Go.Proofs.YtiklkhbfilbpeaaGreatDoor.Sy
open Lx
def tkE (t u : Tok) : Prop := t.k = u.k ∧ t.t = u.t ∧ t.b = u.b
abbrev noTok : Tok := ⟨4, [], [], 0⟩
/-- A way in which rows of tokens are alike. -/
structure TokRel (R : List Tok → List Tok → Prop) : Prop where
  head : ∀ {l l'}, R l l' → tkE (l.headD noTok) (l'.headD noTok)
  nil : ∀ {l l'}, R l l' → (l = [] ↔ l' = [])
  tail : ∀ {t t' l l'}, R (t :: l) (t' :: l') → t.k ≠ 3 → R l l'
  lns : ∀ {l l'}, R l l' → R (dropL l) (dropL l')
  over : ∀ {t t' l l'}, R (t :: l) (t' :: l') → R (dropL l) (dropL l')
  io : ∀ {t t' u u' l l'}, R (t :: u :: l) (t' :: u' :: l') → t.k = 5 → R l l'
/-- A node without its line; its kids n places further. -/
def bare (x : Nd) : Nd := { x with ln := 0 }
def sh (n : Nat) (x : Nd) : Nd := { x with ks := x.ks.map (· + n), ln := 0 }
/-- States are alike: ns0 stand ahead. -/
structure SR (R : List Tok → List Tok → Prop) (ns0 : List Nd) (s s' : S) : Prop where
  ns : ∃ m, s'.1 = ns0 ++ m ∧ m.map bare = s.1.map (sh ns0.length)
  ts : R s.2 s'.2
section
variable {R : List Tok → List Tok → Prop} {ns0 : List Nd}
variable (hR : TokRel R)
include hR
theorem SR.nx {s s' : S} (h : SR R ns0 s s') : tkE (nx s) (nx s') := hR.head h.ts
theorem SR.k {s s' : S} (h : SR R ns0 s s') : (Sy.nx s').k = (Sy.nx s).k := (h.nx hR).1.symm
theorem SR.t {s s' : S} (h : SR R ns0 s s') : (Sy.nx s').t = (Sy.nx s).t := (h.nx hR).2.1.symm
theorem SR.b {s s' : S} (h : SR R ns0 s s') : (Sy.nx s').b = (Sy.nx s).b := (h.nx hR).2.2.symm
theorem SR.cons {s s' : S} (h : SR R ns0 s s') : (s.2 = [] ∧ s'.2 = []) ∨ ∃ t l t' l', s.2 = t :: l ∧ s'.2 = t' :: l' := by
  cases h1 : s.2 with
  | nil => exact .inl ⟨rfl, (hR.nil h.ts).1 h1⟩
  | cons t l => cases h2 : s'.2 with
    | nil => have := (hR.nil h.ts).2 h2; rw [h1] at this; cases this
    | cons t' l' => exact .inr ⟨t, l, t', l', rfl, rfl⟩
theorem SR.tk {s s' : S} (h : SR R ns0 s s') (hk : (Sy.nx s).k ≠ 3) : SR R ns0 (Sy.tk s) (Sy.tk s') := by
  unfold Sy.tk
  rw [h.k hR]
  split
  · exact h
  · refine ⟨h.ns, ?_⟩
    rcases h.cons hR with ⟨h1, h2⟩ | ⟨t, l, t', l', h1, h2⟩
    · show R s.2.tail s'.2.tail
      have := h.ts
      rw [h1, h2] at this ⊢
      exact this
    · show R s.2.tail s'.2.tail
      have h3 := h.ts
      unfold Sy.nx at hk
      rw [h1, h2] at h3
      rw [h1] at hk
      rw [h1, h2]
      exact hR.tail h3 hk
theorem SR.lns {s s' : S} (h : SR R ns0 s s') : SR R ns0 (Sy.lns s) (Sy.lns s') := ⟨h.ns, hR.lns h.ts⟩
theorem SR.over {s s' : S} (h : SR R ns0 s s') : SR R ns0 (Sy.lns (Sy.tk s)) (Sy.lns (Sy.tk s')) := by
  by_cases h4 : (Sy.nx s).k = 4
  · exact (h.tk hR (by omega)).lns hR
  · rcases h.cons hR with ⟨h1, h2⟩ | ⟨t, l, t', l', h1, h2⟩
    · exact absurd (by unfold Sy.nx; rw [h1]; rfl) h4
    · have h5 : (Sy.nx s').k ≠ 4 := by rw [h.k hR]; exact h4
      unfold Sy.tk
      rw [if_neg h4, if_neg h5]
      refine ⟨h.ns, ?_⟩
      show R (dropL s.2.tail) (dropL s'.2.tail)
      have h3 := h.ts
      rw [h1, h2] at h3 ⊢
      exact hR.over h3
theorem SR.isM {s s' : S} (h : SR R ns0 s s') (k : Nat) (ts : List Nm) : Sy.isM k ts s' = Sy.isM k ts s := by unfold Sy.isM; rw [h.k hR, h.t hR]
theorem SR.begins {s s' : S} (h : SR R ns0 s s') : Sy.begins s' = Sy.begins s := by unfold Sy.begins; rw [h.k hR, h.t hR]
theorem SR.redirects {s s' : S} (h : SR R ns0 s s') : Sy.redirects s' = Sy.redirects s := by unfold Sy.redirects; rw [h.k hR, h.isM hR]
theorem SR.isComp {s s' : S} (h : SR R ns0 s s') : Sy.isComp s' = Sy.isComp s := by unfold Sy.isComp; rw [h.k hR, h.t hR, h.isM hR]
theorem SR.names {s s' : S} (h : SR R ns0 s s') : Sy.names s' = Sy.names s := by
  unfold Sy.names
  rw [h.k hR, h.t hR]
  by_cases hk : (Sy.nx s).k = 1
  · congr 1
    congr 1
    rcases h.cons hR with ⟨h1, h2⟩ | ⟨t, l, t', l', h1, h2⟩
    · rw [h1, h2]
    · have h3 := h.ts
      rw [h1, h2] at h3
      unfold Sy.nx at hk
      rw [h1] at hk
      have h4 := hR.tail h3 (by rw [show t.k = 1 from hk]; decide)
      rw [h1, h2]
      have h5 := hR.head h4
      have h6 := hR.nil h4
      cases l with
      | nil => rw [h6.1 rfl]
      | cons u l => cases l' with
        | nil => have := h6.2 rfl; cases this
        | cons u' l' =>
          have h5' : tkE u u' := h5
          have e1 : u.k = u'.k := h5'.1
          have e2 : u.t = u'.t := h5'.2.1
          clear h5 h5'
          by_cases h7 : u.k = 3
          · have h8 : u'.k = 3 := e1 ▸ h7
            cases l <;> cases l' <;> simp [h7, h8]
          · have h8 := hR.nil (hR.tail h4 h7)
            cases l with
            | nil => rw [h8.1 rfl]
            | cons v l => cases l' with
              | nil => have := h8.2 rfl; cases this
              | cons v' l' => simp [e1, e2]
  · simp [hk]
end
end Go.Proofs.YtiklkhbfilbpeaaGreatDoor.Sy
set_option linter.unusedVariables false
set_option linter.unusedSimpArgs false
namespace Go.Proofs.YtiklkhbfilbpeaaGreatDoor.Sy
open Lx
def ph (s : S) : Nat := s.1.length + 8 * s.2.length
def Le {α : Type} (c m : Nat) (x : P α) : Prop := ∀ y, x = .ok y → ph y.2 + c ≤ m
theorem le_bd {α β : Type} {c m c' m' : Nat} {x : P α} {f : α → S → P β} (h : Le c m x) (hf : ∀ a t, ph t + c ≤ m → Le c' m' (f a t)) : Le c' m' (bd x f) := fun y hy => by
  obtain ⟨a, t, h1, h2⟩ := bd_ok_inv hy
  exact hf a t (h _ h1) y h2
theorem le_er {α : Type} {e : Int} {s : S} {c m : Nat} : Le (α := α) c m (er e s) := fun y h => by cases h
theorem le_ok {α : Type} {a : α} {s : S} {c m : Nat} (h : ph s + c ≤ m) : Le c m (.ok (a, s)) := fun y e => by injection e with e; subst e; exact h
theorem ph_tk (s : S) : ph (tk s) ≤ ph s := by
  have := tk_le s
  have e : (tk s).1 = s.1 := by unfold tk; split <;> rfl
  unfold ph
  rw [e]; omega
theorem ph_tk8 {s : S} (h : (nx s).k ≠ 4) : ph (tk s) + 8 ≤ ph s := by
  have := tk_lt h
  have e : (tk s).1 = s.1 := by unfold tk; split <;> rfl
  unfold ph
  rw [e]; omega
theorem ph_lns (s : S) : ph (lns s) ≤ ph s := by
  have := lns_le s
  unfold ph
  show s.1.length + _ ≤ _
  omega
theorem need_cost {k : Nat} {ts : List Nm} {s : S} (hk : k ≠ 4) : Le 8 (ph s) (needM k ts s) := by
  unfold needM
  split
  · rename_i h
    exact le_ok (ph_tk8 (by rw [isM_k h]; exact hk))
  · exact le_er
theorem raw_cost {s : S} : Le 8 (ph s) (rawM s) := by
  unfold rawM
  split
  · rename_i h
    exact le_ok (ph_tk8 (by rw [h]; decide))
  · exact le_er
theorem put_cost {n : Nd} {s : S} {c m : Nat} (h : ph s + 1 + c ≤ m) : Le c m (putM n s) := le_ok (by
  unfold ph at h ⊢
  simp only [List.length_append, List.length_singleton]
  omega)
theorem loop_cost {α : Type} {cond : S → Bool} {step : α → S → P α} (h : ∀ a s, cond s = true → Le 0 (ph s) (step a s)) : ∀ (f : Nat) (a : α) (s : S), Le 0 (ph s) (loopP cond step f a s)
  | 0, a, s => le_ok (Nat.le_refl _)
  | f + 1, a, s => by
    unfold loopP
    split
    · rename_i hc
      exact le_bd (h a s hc) fun a t ht => fun y hy => Nat.le_trans (loop_cost h f a t y hy) ht
    · exact le_ok (Nat.le_refl _)
theorem le_mono {α : Type} {c m c' m' : Nat} {x : P α} (h : Le c m x) (hc : c' + m ≤ c + m') : Le c' m' x := fun y e => by have := h y e; omega
theorem redir_cost (s : S) : Le 8 (ph s) (redirM s) := by
  unfold redirM
  simp only
  refine le_bd (c := 8) (m := ph s) (le_mono raw_cost ?_) fun w t ht => le_ok ht
  have h1 := ph_tk (if decide ((nx s).k = 5) = true then tk s else s)
  have h2 := ph_tk s
  split at h1 <;> rename_i hh
  · rw [if_pos hh]; omega
  · rw [if_neg hh]; omega
theorem redirs_cost (s : S) : Le 0 (ph s) (redirsM s) := loop_cost (fun l s _ => le_bd (redir_cost s) fun x t ht => le_ok (by omega)) _ _ s
theorem simple_cost (s : S) (hb : simB s = true) : Le 7 (ph s) (simpleM s) := by
  intro y e
  unfold simpleM at e
  obtain ⟨n, t, e1, e2⟩ := bd_ok_inv e
  have step8 : ∀ (a : Nd) (u : S), Le 8 (ph u) (simT a u) := fun a u => by
    unfold simT
    split
    · exact le_bd (redir_cost u) fun x v hv => le_ok hv
    · exact le_bd raw_cost fun x v hv => le_ok hv
  have hfin : ph t + 8 ≤ ph s := by
    unfold whileM at e1
    cases hl : s.2.length with
    | zero => exact absurd (List.length_eq_zero_iff.1 hl) (sim_ne s hb)
    | succ f =>
      rw [hl, loopP, if_pos hb] at e1
      obtain ⟨a, u, h1, h2⟩ := bd_ok_inv e1
      have h3 := step8 _ _ _ h1
      have h4 := loop_cost (cond := simB) (step := simT) (fun a u _ => le_mono (step8 a u) (by omega)) f a u _ h2
      simp only at h3 h4
      omega
  exact put_cost (m := ph s) (c := 7) (by omega) y e2
theorem begins_simB {s : S} (h1 : begins s = true) (h2 : isComp s = false) : simB s = true := by
  unfold begins at h1
  unfold isComp at h2
  unfold simB redirects isM
  simp only [Bool.or_eq_false_iff] at h2
  split at h1
  · rename_i hk
    simp [hk]
  · split at h1
    · rename_i hk
      have h3 := h2.1
      unfold isM at h3
      simp only [hk, decide_true, Bool.true_and] at h3 ⊢
      simp only [List.contains_cons, List.contains_nil, Bool.or_false] at h3 h1 ⊢
      rw [h3, Bool.false_or] at h1
      simp only [decide_false, Bool.false_or, Nat.reduceEqDiff]
      rw [h1]; rfl
    · simp at h1 ⊢
      simp [h1]
def NestC (nest : S → P Nat) : Prop := ∀ s : S, (isComp s = true ∨ names s = true) → Le 7 (ph s) (nest s)
section
variable {nest : S → P Nat} (hn : NestC nest)
include hn
theorem cmd_cost (s : S) : Le 7 (ph s) (cmdM nest s) := by
  unfold cmdM
  split
  · exact le_er
  · rename_i hb
    split
    · rename_i hc
      refine simple_cost s (begins_simB ?_ hc.1)
      cases h : begins s with
      | true => rfl
      | false => exact absurd (.inl h) hb
    · rename_i hc
      refine hn s ?_
      cases h : isComp s with
      | true => exact .inl rfl
      | false => cases h2 : names s with
        | true => exact .inr rfl
        | false => exact absurd ⟨h, h2⟩ hc
theorem pipe_cost (s : S) : Le 6 (ph s) (pipeM nest s) := by
  unfold pipeM
  simp only
  have h0 : ph (if isM 1 [[33]] s = true then tk s else s) ≤ ph s := by
    split
    · exact ph_tk s
    · exact Nat.le_refl _
  refine le_bd (cmd_cost hn _) fun k t ht => le_bd (loop_cost (cond := isM 2 [[124]]) (step := pipT nest) (fun l u hc => le_bd (cmd_cost hn _) fun k v hv => le_ok ?_) _ _ _) fun ks u hu => ?_
  · have h1 := ph_lns (tk u)
    have h2 := ph_tk u
    omega
  · split
    · exact le_ok (by omega)
    · exact put_cost (by omega)
theorem andor_cost (s : S) : Le 6 (ph s) (andorM nest s) := by
  unfold andorM
  refine le_bd (pipe_cost hn s) fun k t ht => le_mono (c := 0) (m := ph t) (loop_cost (fun l u hc => le_bd (pipe_cost hn _) fun k v hv => put_cost ?_) _ _ _) (by omega)
  have h1 := ph_lns (tk u)
  have h2 := ph_tk u
  omega
theorem listF_cost : ∀ (f : Nat) (ks : List Nat) (s : S), Le 0 (ph s) (listF nest f ks s)
  | 0, ks, s => le_ok (Nat.le_refl _)
  | f + 1, ks, s => by
    unfold listF
    split
    · refine le_bd (andor_cost hn s) fun k t ht => ?_
      split
      · exact le_ok (by omega)
      · have h1 := ph_lns (tk t)
        have h2 := ph_tk t
        exact le_mono (listF_cost f _ _) (by omega)
    · exact le_ok (Nat.le_refl _)
theorem list_cost (em : Bool) (s : S) : Le 0 (ph s + 1) (listM nest em s) := by
  unfold listM
  refine le_bd (listF_cost hn _ _ _) fun ks t ht => ?_
  have h1 := ph_lns s
  split
  · exact le_er
  · exact put_cost (by omega)
theorem body_cost (s : S) : Le 8 (ph s) (bodyM nest s) := by
  unfold bodyM
  exact le_bd (need_cost (by decide)) fun _ t ht => le_bd (list_cost hn false t) fun k u hu => le_bd (need_cost (by decide)) fun _ v hv => le_ok (by omega)
theorem group_cost (ln : Nat) (s : S) (h4 : (nx s).k ≠ 4) : Le 8 (ph s) (groupM nest ln s) := by
  unfold groupM
  have h := ph_tk8 h4
  exact le_bd (list_cost hn false _) fun k u hu => le_bd (need_cost (by decide)) fun _ v hv => le_ok (by omega)
theorem sub_cost (ln : Nat) (s : S) (h4 : (nx s).k ≠ 4) : Le 8 (ph s) (subM nest ln s) := by
  unfold subM
  have h := ph_tk8 h4
  exact le_bd (list_cost hn false _) fun k u hu => le_bd (need_cost (by decide)) fun _ v hv => le_ok (by omega)
theorem asks_cost : ∀ (f ln : Nat) (s : S), (nx s).k ≠ 4 → Le 8 (ph s) (asksF nest f ln s)
  | 0, ln, s, _ => le_er
  | f + 1, ln, s, h4 => by
    unfold asksF
    have h := ph_tk8 h4
    refine le_bd (list_cost hn false _) fun c t ht => le_bd (need_cost (by decide)) fun _ u hu => le_bd (list_cost hn false _) fun b v hv => ?_
    split
    · rename_i hi
      exact le_bd (asks_cost f _ v (by rw [isM_k hi]; decide)) fun n w hw => le_bd (put_cost (c := 0) (m := ph w + 1) (Nat.le_refl _)) fun k x hx => le_ok (by omega)
    · split
      · have h5 := ph_tk v
        exact le_bd (list_cost hn false _) fun k w hw => le_bd (need_cost (by decide)) fun _ x hx => le_ok (by omega)
      · exact le_bd (need_cost (by decide)) fun _ x hx => le_ok (by omega)
theorem whil_cost (ln : Nat) (s : S) (h4 : (nx s).k ≠ 4) : Le 8 (ph s) (whilM nest ln s) := by
  unfold whilM
  have h := ph_tk8 h4
  exact le_bd (list_cost hn false _) fun c t ht => le_bd (body_cost hn t) fun b u hu => le_ok (by omega)
theorem each_cost (ln : Nat) (s : S) (h4 : (nx s).k ≠ 4) : Le 8 (ph s) (eachM nest ln s) := by
  unfold eachM
  have h := ph_tk8 h4
  simp only
  split
  · exact le_er
  · refine le_bd raw_cost fun t u hu => ?_
    split
    · have h1 := ph_lns (tk u)
      have h2 := ph_tk u
      exact le_bd (body_cost hn _) fun b v hv => le_ok (by omega)
    · have h0 := ph_lns u
      split
      · have h2 := ph_tk (lns u)
        refine le_bd (loop_cost (cond := wrdB) (step := wrdT) (fun l u _ => le_bd raw_cost fun w v hv => le_ok (by omega)) _ _ _) fun ws v hv => ?_
        split
        · exact le_er
        · have h3 := ph_lns (tk v)
          have h5 := ph_tk v
          exact le_bd (body_cost hn _) fun b w hw => le_ok (by omega)
      · exact le_bd (body_cost hn _) fun b v hv => le_ok (by omega)
theorem item_cost (s : S) : Le 14 (ph s) (itemM nest s) := by
  unfold itemM
  have h0 : ph (if isM 2 [[40]] s = true then tk s else s) ≤ ph s := by
    split
    · exact ph_tk s
    · exact Nat.le_refl _
  exact le_bd raw_cost fun w t ht => le_bd (loop_cost (cond := isM 2 [[124]]) (step := altT) (fun l u _ => le_bd (raw_cost (s := tk u)) fun w v hv => le_ok (by have := ph_tk u; omega)) _ _ _) fun ws u hu => le_bd (need_cost (by decide)) fun _ v hv => le_bd (list_cost hn true v) fun k w hw => put_cost (by omega)
theorem items_cost : ∀ (f : Nat) (ks : List Nat) (s : S), Le 0 (ph s) (itemsF nest f ks s)
  | 0, ks, s => le_ok (Nat.le_refl _)
  | f + 1, ks, s => by
    unfold itemsF
    split
    · exact le_ok (Nat.le_refl _)
    · refine le_bd (item_cost hn s) fun k t ht => ?_
      split
      · have h1 := ph_lns (tk t)
        have h2 := ph_tk t
        exact le_mono (items_cost f _ _) (by omega)
      · exact le_ok (by omega)
theorem cases_cost (ln : Nat) (s : S) (h4 : (nx s).k ≠ 4) : Le 8 (ph s) (casesM nest ln s) := by
  unfold casesM
  have h := ph_tk8 h4
  refine le_bd raw_cost fun t u hu => ?_
  have h1 := ph_lns u
  refine le_bd (need_cost (by decide)) fun _ v hv => ?_
  have h2 := ph_lns v
  exact le_bd (items_cost hn _ _ _) fun ks w hw => le_bd (need_cost (by decide)) fun _ x hx => le_ok (by omega)
theorem comp_cost (ln : Nat) (s : S) (h4 : (nx s).k ≠ 4) : Le 8 (ph s) (compM nest ln s) := by
  unfold compM
  split
  · exact sub_cost hn ln s h4
  · split
    · exact group_cost hn ln s h4
    · split
      · exact asks_cost hn _ ln s h4
      · split
        · exact each_cost hn ln s h4
        · split
          · exact cases_cost hn ln s h4
          · exact whil_cost hn ln s h4
theorem func_cost (ln : Nat) (s : S) : Le 8 (ph s) (funcM nest ln s) := by
  unfold funcM
  refine le_bd raw_cost fun t u hu => le_bd (need_cost (by decide)) fun _ v hv => le_bd (need_cost (by decide)) fun _ w hw => ?_
  have h1 := ph_lns w
  simp only
  split
  · exact le_er
  · rename_i hc
    have hc : isComp (lns w) = true := by simpa using hc
    exact le_bd (hn (lns w) (.inl hc)) fun k x hx => le_ok (by omega)
end
theorem comp_k {s : S} (h : isComp s = true) : (nx s).k ≠ 4 := by
  unfold isComp at h
  rcases Bool.or_eq_true _ _ ▸ h with h | h
  · rw [isM_k h]; decide
  · rw [Bool.and_eq_true] at h
    rw [of_decide_eq_true h.2]; decide
theorem nest_cost : ∀ n : Nat, NestC (nestD n)
  | 0 => fun s _ => le_er
  | n + 1 => fun s h => by
    unfold nestD
    split
    · rename_i hc
      exact le_bd (comp_cost (nest_cost n) _ s (comp_k hc)) fun x t ht => le_bd (redirs_cost t) fun rs u hu => put_cost (by omega)
    · exact le_bd (func_cost (nest_cost n) _ s) fun x t ht => put_cost (by omega)
end Go.Proofs.YtiklkhbfilbpeaaGreatDoor.Sy
