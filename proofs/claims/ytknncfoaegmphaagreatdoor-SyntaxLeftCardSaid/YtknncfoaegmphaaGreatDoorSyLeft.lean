/-
  Syntax: a chain of && and ||, plainly. Conditions: none.
-/
import Derived.Test.YtknncfoaegmphaaGreatDoorGSyG
import Derived.Test.YtknncfoaegmphaaGreatDoorLxShort
import Derived.KernelRfl
set_option linter.unusedVariables false
set_option linter.unusedSimpArgs false
set_option maxRecDepth 100000
namespace Go.Proofs.YtknncfoaegmphaaGreatDoor.Sx
open Go.RowKit Base Lx Sy

def piece (b : Bool) : Nm := if b then [32, 38, 38, 32, 98] else [32, 124, 124, 10, 32, 98]
def restT (l : List Bool) : Nm := l.flatMap piece
def leftS (l : List Bool) : Nm := 97 :: 48 :: restT l
def sg (b : Bool) : Nm := if b then [38, 38] else [124, 124]
def leftT (K : Nat) : List Bool → List Tok
  | [] => [⟨4, [], [], K⟩]
  | b :: r => ⟨2, sg b, [], K - nl (restT (b :: r))⟩ :: ((if b then [] else [⟨3, [], [], K - nl (restT (b :: r))⟩]) ++ ⟨1, [98], [], K - nl (restT r)⟩ :: leftT K r)
theorem rest_cons (b : Bool) (r : List Bool) : restT (b :: r) = piece b ++ restT r := rfl
theorem rest_ends (l : List Bool) : ends (restT l) = true := by
  cases l with
  | nil => rfl
  | cons b r => cases b <;> rfl
theorem rest_word (l : List Bool) : wordM (restT l) = .ok ([], restT l) := w_end (rest_ends l)
theorem left_lex (K : Nat) : ∀ (l : List Bool) (L : List Tok), allS K (L, [], restT l) = .ok (L ++ leftT K l)
  | [], L => by
    show allS K (L, [], []) = _
    rw [allS_end, if_pos rfl]
    rfl
  | true :: r, L => by
    have e1 : restT (true :: r) = 32 :: 38 :: 38 :: 32 :: 98 :: restT r := rfl
    have n1 : nl (restT (true :: r)) = nl (restT r) := by rw [e1]; unfold nl; simp
    have n2 : nl (38 :: 38 :: 32 :: 98 :: restT r) = nl (restT r) := by unfold nl; simp
    have n3 : nl (32 :: 98 :: restT r) = nl (restT r) := by unfold nl; simp
    have n4 : nl (98 :: restT r) = nl (restT r) := by unfold nl; simp
    rw [show leftT K (true :: r) = ⟨2, [38, 38], [], K - nl (restT (true :: r))⟩ :: ⟨1, [98], [], K - nl (restT r)⟩ :: leftT K r from rfl, n1, e1]
    rw [allS_step K L [] (by simp), one_blank]
    simp only
    rw [allS_step K L [] (by simp), n2, show ∀ g, oneM g L [] (38 :: 38 :: 32 :: 98 :: restT r) = .ok (L ++ [⟨2, [38, 38], [], g⟩], [], 32 :: 98 :: restT r) from fun g => rfl]
    simp only
    rw [allS_step K _ [] (by simp), one_blank]
    simp only
    have h5 : ∀ g, oneM g (L ++ [⟨2, [38, 38], [], K - nl (restT r)⟩]) [] (98 :: restT r) = .ok (L ++ [⟨2, [38, 38], [], K - nl (restT r)⟩] ++ [⟨1, [98], [], g⟩], [], restT r) := fun g => one_letters (a := [98]) (t := restT r) (by decide) (by simp) (rest_word r) (by rw [isHere_app]; rfl)
    rw [allS_step K _ [] (by simp), h5, n4]
    simp only
    rw [left_lex K r]
    simp
  | false :: r, L => by
    have e1 : restT (false :: r) = 32 :: 124 :: 124 :: 10 :: 32 :: 98 :: restT r := rfl
    have n2 : nl (124 :: 124 :: 10 :: 32 :: 98 :: restT r) = nl (restT (false :: r)) := by rw [e1]; unfold nl; simp
    have n3 : nl (10 :: 32 :: 98 :: restT r) = nl (restT (false :: r)) := by rw [e1]; unfold nl; simp
    have n4 : nl (98 :: restT r) = nl (restT r) := by unfold nl; simp
    rw [show leftT K (false :: r) = ⟨2, [124, 124], [], K - nl (restT (false :: r))⟩ :: ⟨3, [], [], K - nl (restT (false :: r))⟩ :: ⟨1, [98], [], K - nl (restT r)⟩ :: leftT K r from rfl]
    rw [show allS K (L, [], restT (false :: r)) = allS K (L, [], 32 :: 124 :: 124 :: 10 :: 32 :: 98 :: restT r) from rfl]
    generalize hG : K - nl (restT (false :: r)) = G at *
    rw [allS_step K L [] (by simp), one_blank]
    simp only
    rw [allS_step K L [] (by simp), n2, hG, show ∀ g, oneM g L [] (124 :: 124 :: 10 :: 32 :: 98 :: restT r) = .ok (L ++ [⟨2, [124, 124], [], g⟩], [], 10 :: 32 :: 98 :: restT r) from fun g => rfl]
    simp only
    rw [allS_step K _ [] (by simp), n3, hG, show ∀ (g : Nat) (L : List Tok), oneM g L [] (10 :: 32 :: 98 :: restT r) = .ok (L ++ [⟨3, [], [], g⟩], [], 32 :: 98 :: restT r) from fun g L => rfl]
    simp only
    rw [allS_step K _ [] (by simp), one_blank]
    simp only
    have h5 : ∀ g, oneM g (L ++ [⟨2, [124, 124], [], G⟩] ++ [⟨3, [], [], G⟩]) [] (98 :: restT r) = .ok (L ++ [⟨2, [124, 124], [], G⟩] ++ [⟨3, [], [], G⟩] ++ [⟨1, [98], [], g⟩], [], restT r) := fun g => one_letters (a := [98]) (t := restT r) (by decide) (by simp) (rest_word r) (by rw [isHere_app]; rfl)
    rw [allS_step K _ [] (by simp), h5, n4]
    simp only
    rw [left_lex K r]
    simp
theorem left_all (l : List Bool) : ∃ g, allM (leftS l) = .ok (⟨1, [97, 48], [], g⟩ :: leftT (1 + nl (leftS l)) l) := by
  unfold allM leftS
  have hw : wordM (97 :: 48 :: restT l) = .ok ([97, 48], restT l) := by
    rw [show 97 :: 48 :: restT l = [97, 48] ++ restT l from rfl, word_plain [97, 48] (restT l) (by decide), rest_word]
    rfl
  have h1 : ∀ g, oneM g [] [] (97 :: 48 :: restT l) = .ok ([⟨1, [97, 48], [], g⟩], [], restT l) := fun g => by
    rw [one_word (by decide) (by decide) rfl (by decide), hw]
    simp [isIo, digB, isHere]
  rw [allS_step _ _ [] (by simp), h1]
  simp only
  rw [left_lex]
  exact ⟨_, rfl⟩
/-! ### What they are parsed as -/
abbrev wB : Nm := [98]
abbrev wA : Nm := [97, 48]
theorem pipe_bs (nest : S → Sy.P Nat) (ns : List Nd) (g g2 : Nat) (b : Bool) (t : List Tok) : pipeM nest (ns, ⟨1, [98], [], g⟩ :: ⟨2, sg b, [], g2⟩ :: t) = .ok (ns.length, (ns ++ [{ k := 1, ws := [[98]], ln := g }], ⟨2, sg b, [], g2⟩ :: t)) := by cases b <;> cases t <;> rfl
theorem pipe_be (nest : S → Sy.P Nat) (ns : List Nd) (g g2 : Nat) : pipeM nest (ns, [⟨1, [98], [], g⟩, ⟨4, [], [], g2⟩]) = .ok (ns.length, (ns ++ [{ k := 1, ws := [[98]], ln := g }], [⟨4, [], [], g2⟩])) := by rfl
theorem pipe_as (nest : S → Sy.P Nat) (ns : List Nd) (g g2 : Nat) (b : Bool) (t : List Tok) : pipeM nest (ns, ⟨1, [97, 48], [], g⟩ :: ⟨2, sg b, [], g2⟩ :: t) = .ok (ns.length, (ns ++ [{ k := 1, ws := [[97, 48]], ln := g }], ⟨2, sg b, [], g2⟩ :: t)) := by cases b <;> cases t <;> rfl
theorem pipe_ae (nest : S → Sy.P Nat) (ns : List Nd) (g g2 : Nat) : pipeM nest (ns, [⟨1, [97, 48], [], g⟩, ⟨4, [], [], g2⟩]) = .ok (ns.length, (ns ++ [{ k := 1, ws := [[97, 48]], ln := g }], [⟨4, [], [], g2⟩])) := by rfl
theorem pipe_bt (nest : S → Sy.P Nat) (ns : List Nd) (g K : Nat) (r : List Bool) : pipeM nest (ns, ⟨1, [98], [], g⟩ :: leftT K r) = .ok (ns.length, (ns ++ [{ k := 1, ws := [[98]], ln := g }], leftT K r)) := by
  cases r with
  | nil => exact pipe_be nest ns g K
  | cons b r => exact pipe_bs nest ns g _ b _
theorem pipe_at (nest : S → Sy.P Nat) (ns : List Nd) (g K : Nat) (r : List Bool) : pipeM nest (ns, ⟨1, [97, 48], [], g⟩ :: leftT K r) = .ok (ns.length, (ns ++ [{ k := 1, ws := [[97, 48]], ln := g }], leftT K r)) := by
  cases r with
  | nil => exact pipe_ae nest ns g K
  | cons b r => exact pipe_as nest ns g _ b _
def leftN (K g0 : Nat) : Nat → Nat → List Bool → List Nd
  | _, _, [] => []
  | n, k, b :: r => { k := 1, ws := [[98]], ln := K - nl (restT r) } :: { k := if b then 3 else 4, ks := [k, n], ln := g0 } :: leftN K g0 (n + 2) (n + 1) r
def leftK : Nat → Nat → List Bool → Nat
  | _, k, [] => k
  | n, _, _ :: r => leftK (n + 2) (n + 1) r
theorem left_loop (nest : S → Sy.P Nat) (K g0 : Nat) : ∀ (l : List Bool) (f : Nat) (ns : List Nd) (k : Nat), l.length ≤ f →
    loopP (isM 2 [[38, 38], [124, 124]]) (fun k s2 => bd (pipeM nest (lns (tk s2))) fun k2 s3 => Sy.putM { k := if (nx s2).t = [124, 124] then 4 else 3, ks := [k, k2], ln := g0 } s3) f k (ns, leftT K l) = .ok (leftK ns.length k l, (ns ++ leftN K g0 ns.length k l, [⟨4, [], [], K⟩]))
  | [], f, ns, k, _ => by
    have e : ns ++ leftN K g0 ns.length k [] = ns := List.append_nil _
    rw [e]
    cases f <;> rfl
  | b :: r, 0, ns, k, h => by simp at h
  | b :: r, f + 1, ns, k, h => by
    rw [loopP]
    have hc : isM 2 [[38, 38], [124, 124]] (ns, leftT K (b :: r)) = true := by cases b <;> rfl
    rw [if_pos hc]
    have hl : lns (tk (ns, leftT K (b :: r))) = (ns, ⟨1, [98], [], K - nl (restT r)⟩ :: leftT K r) := by cases b <;> rfl
    have hn : (nx (ns, leftT K (b :: r))).t = sg b := by cases b <;> rfl
    rw [hl, pipe_bt, hn]
    have hk : (if sg b = [124, 124] then 4 else 3) = (if b then 3 else 4) := by cases b <;> rfl
    rw [hk]
    have hi := left_loop nest K g0 r f (ns ++ [{ k := 1, ws := [[98]], ln := K - nl (restT r) }] ++ [{ k := if b then 3 else 4, ks := [k, ns.length], ln := g0 }]) (ns.length + 1) (by simpa using h)
    have hlen : (ns ++ [({ k := 1, ws := [[98]], ln := K - nl (restT r) } : Nd)] ++ [({ k := if b then 3 else 4, ks := [k, ns.length], ln := g0 } : Nd)]).length = ns.length + 2 := by simp
    rw [hlen] at hi
    have hput : (bd (Sy.putM { k := if b then 3 else 4, ks := [k, ns.length], ln := g0 } (ns ++ [({ k := 1, ws := [[98]], ln := K - nl (restT r) } : Nd)], leftT K r)) fun a s => loopP (isM 2 [[38, 38], [124, 124]]) (fun k s2 => bd (pipeM nest (lns (tk s2))) fun k2 s3 => Sy.putM { k := if (nx s2).t = [124, 124] then 4 else 3, ks := [k, k2], ln := g0 } s3) f a s) = .ok (leftK ns.length k (b :: r), (ns ++ leftN K g0 ns.length k (b :: r), [⟨4, [], [], K⟩])) := by
      show loopP _ _ f _ _ = _
      rw [show (ns ++ [({ k := 1, ws := [[98]], ln := K - nl (restT r) } : Nd)]).length = ns.length + 1 by simp]
      rw [hi]
      rw [List.append_assoc, List.append_assoc]
      rfl
    exact hput
theorem left_len (K : Nat) (l : List Bool) : l.length ≤ (leftT K l).length := by
  induction l with
  | nil => simp
  | cons b r ih => simp only [leftT, List.length_cons, List.length_append]; omega
def leftR (K g0 : Nat) (l : List Bool) : List Nd := ({ k := 1, ws := [[97, 48]], ln := g0 } :: leftN K g0 1 0 l) ++ [{ k := 5, ks := [leftK 1 0 l], ln := g0 }]
theorem left_andor (nest : S → Sy.P Nat) (K g0 : Nat) (l : List Bool) : andorM nest ([], ⟨1, [97, 48], [], g0⟩ :: leftT K l) = .ok (leftK 1 0 l, ({ k := 1, ws := [[97, 48]], ln := g0 } :: leftN K g0 1 0 l, [⟨4, [], [], K⟩])) := by
  unfold andorM
  rw [pipe_at]
  exact left_loop nest K g0 l (leftT K l).length [{ k := 1, ws := [[97, 48]], ln := g0 }] 0 (left_len K l)
theorem left_parse (l : List Bool) : ∃ K g0, parseM (leftS l) = .ok (leftR K g0 l) := by
  obtain ⟨g0, h⟩ := left_all l
  refine ⟨1 + nl (leftS l), g0, ?_⟩
  unfold parseM
  rw [h]
  simp only
  generalize 1 + nl (leftS l) = K
  have hl : lns (([], ⟨1, [97, 48], [], g0⟩ :: leftT K l) : S) = ([], ⟨1, [97, 48], [], g0⟩ :: leftT K l) := rfl
  have hb : begins (([], ⟨1, [97, 48], [], g0⟩ :: leftT K l) : S) = true := rfl
  have hf : listF (nestD 40) ((⟨1, [97, 48], [], g0⟩ :: leftT K l : List Tok).length) [] ([], ⟨1, [97, 48], [], g0⟩ :: leftT K l) = .ok ([leftK 1 0 l], ({ k := 1, ws := [[97, 48]], ln := g0 } :: leftN K g0 1 0 l, [⟨4, [], [], K⟩])) := by
    rw [List.length_cons, listF, if_pos hb, left_andor]
    rfl
  have hm : listM (nestD 40) true ([], ⟨1, [97, 48], [], g0⟩ :: leftT K l) = .ok (({ k := 1, ws := [[97, 48]], ln := g0 } :: leftN K g0 1 0 l : List Nd).length, (leftR K g0 l, [⟨4, [], [], K⟩])) := by
    unfold listM
    rw [hl, hf]
    rfl
  rw [hm]
  rfl
theorem leftN_len (K g0 : Nat) : ∀ (r : List Bool) (n k : Nat), (leftN K g0 n k r).length = 2 * r.length
  | [], n, k => rfl
  | b :: r, n, k => by
    have := leftN_len K g0 r (n + 2) (n + 1)
    simp only [leftN, List.length_cons]
    omega
theorem leftK_eq : ∀ (r : List Bool) (i : Nat), leftK (2 * i + 1) (2 * i) r = 2 * (i + r.length)
  | [], i => rfl
  | b :: r, i => by
    have := leftK_eq r (i + 1)
    show leftK (2 * i + 1 + 2) (2 * i + 1 + 1) r = _
    rw [show 2 * i + 1 + 2 = 2 * (i + 1) + 1 by omega, show 2 * i + 1 + 1 = 2 * (i + 1) by omega, this]
    simp only [List.length_cons]
    omega
theorem leftN_at (K g0 : Nat) : ∀ (r : List Bool) (i j : Nat) (hj : j < r.length), (∃ ln, (leftN K g0 (2 * i + 1) (2 * i) r)[2 * j]? = some { k := 1, ws := [[98]], ln := ln }) ∧ (leftN K g0 (2 * i + 1) (2 * i) r)[2 * j + 1]? = some { k := if r[j] then 3 else 4, ks := [2 * (i + j), 2 * (i + j) + 1], ln := g0 }
  | [], i, j, hj => absurd hj (Nat.not_lt_zero _)
  | b :: r, i, 0, hj => ⟨⟨_, rfl⟩, rfl⟩
  | b :: r, i, j + 1, hj => by
    have h := leftN_at K g0 r (i + 1) j (by simpa using hj)
    have e : leftN K g0 (2 * i + 1) (2 * i) (b :: r) = { k := 1, ws := [[98]], ln := K - nl (restT r) } :: { k := if b then 3 else 4, ks := [2 * i, 2 * i + 1], ln := g0 } :: leftN K g0 (2 * (i + 1) + 1) (2 * (i + 1)) r := rfl
    rw [e, show 2 * (j + 1) = 2 * j + 1 + 1 by omega, show 2 * j + 1 + 1 + 1 = (2 * j + 1) + 1 + 1 by omega]
    simp only [List.getElem?_cons_succ, List.getElem_cons_succ]
    refine ⟨h.1, h.2.trans ?_⟩
    rw [show i + 1 + j = i + (j + 1) by omega]
theorem leftR_len (K g0 : Nat) (l : List Bool) : (leftR K g0 l).length = 2 * l.length + 2 := by
  unfold leftR
  simp only [List.length_append, List.length_cons, List.length_nil, leftN_len]
theorem leftR_first (K g0 : Nat) (l : List Bool) : (leftR K g0 l)[0]? = some { k := 1, ws := [[97, 48]], ln := g0 } := rfl
theorem leftR_last (K g0 : Nat) (l : List Bool) : (leftR K g0 l)[2 * l.length + 1]? = some { k := 5, ks := [2 * l.length], ln := g0 } := by
  unfold leftR
  rw [List.getElem?_append_right (by simp [leftN_len])]
  have h := leftK_eq l 0
  simp only [Nat.mul_zero, Nat.zero_add] at h
  simp [leftN_len, h]
theorem leftR_b (K g0 : Nat) (l : List Bool) (j : Nat) (hj : j < l.length) : ∃ ln, (leftR K g0 l)[2 * j + 1]? = some { k := 1, ws := [[98]], ln := ln } := by
  obtain ⟨ln, h⟩ := (leftN_at K g0 l 0 j hj).1
  refine ⟨ln, ?_⟩
  unfold leftR
  rw [List.getElem?_append_left (by simp [leftN_len]; omega), List.getElem?_cons_succ]
  exact h
theorem leftR_op (K g0 : Nat) (l : List Bool) (j : Nat) (hj : j < l.length) : (leftR K g0 l)[2 * (j + 1)]? = some { k := if l[j] then 3 else 4, ks := [2 * j, 2 * j + 1], ln := g0 } := by
  have h := (leftN_at K g0 l 0 j hj).2
  unfold leftR
  rw [List.getElem?_append_left (by simp [leftN_len]; omega), show 2 * (j + 1) = (2 * j + 1) + 1 by omega, List.getElem?_cons_succ]
  simpa using h
end Go.Proofs.YtknncfoaegmphaaGreatDoor.Sx
