/-
  Unparse: a tree as a script, as plain functions: how many lines, how it ends, how long. No program stands here. Conditions: as each law says.
-/
import Derived.Test.YtiklkhbfilbpeaaGreatDoorSkGSyA
import Derived.Lib.ItoaNum
import Derived.Lib.Join
set_option linter.unusedVariables false
set_option linter.unusedSimpArgs false
namespace Go.Proofs.YtiklkhbfilbpeaaGreatDoor.Un
open Lx Sy
/-- What was printed, and what stands behind the next newline. -/
abbrev PS := Nm × Nm
def putS (t : Nm) (s : PS) : PS := (s.1 ++ t, s.2)
def lnS (s : PS) : PS := (s.1 ++ 10 :: s.2, [])
def redirS (x : Rdr) (s : PS) : PS := (s.1 ++ (Lib.itoa (x.fd : Int) ++ (x.o ++ x.w)), if x.o = [60, 60] then s.2 ++ (x.b ++ (Lx.bare x.w ++ [10])) else s.2)
def tailS : List Rdr → PS → PS
  | [], s => s
  | x :: rs, s => tailS rs (redirS x (putS [32] s))
def redsS : List Rdr → PS → PS
  | [], s => s
  | x :: rs, s => tailS rs (redirS x s)
def simS (n : Nd) (s : PS) : PS :=
  let s1 := redsS n.rs s
  let s2 := if 0 < n.rs.length ∧ 0 < n.ws.length then putS [32] s1 else s1
  putS (Lib.join n.ws [32]) s2
def betR (sep : Nm) (f : Nat → PS → PS) : List Nat → PS → PS
  | [], s => s
  | k :: ks, s => betR sep f ks (f k (putS sep s))
def betS (sep : Nm) (f : Nat → PS → PS) : List Nat → PS → PS
  | [], s => s
  | k :: ks, s => betR sep f ks (f k s)
def seqS (f : Nat → PS → PS) : List Nat → PS → PS
  | [], s => s
  | k :: ks, s => seqS f ks (lnS (f k s))
def partS (w : Nm) (f : PS → PS) (s : PS) : PS := f (lnS (putS w s))
def kid (n : Nd) (i : Nat) : Nat := n.ks.getD i 0
def asksS (kd : Nat → Nat) (f : Nat → PS → PS) (n : Nd) (s : PS) : PS :=
  let s2 := partS [116, 104, 101, 110] (f (kid n 1)) (partS [105, 102] (f (kid n 0)) s)
  let s3 := if 2 < n.ks.length then (let s := partS [101, 108, 115, 101] (f (kid n 2)) s2; if kd (kid n 2) = 6 then lnS s else s) else s2
  putS [102, 105] s3
def loopS (f : Nat → PS → PS) (n : Nd) (s : PS) : PS :=
  putS [100, 111, 110, 101] (partS [100, 111] (f (kid n 1)) (partS (if n.fl then [117, 110, 116, 105, 108] else [119, 104, 105, 108, 101]) (f (kid n 0)) s))
def eachS (f : Nat → PS → PS) (n : Nd) (s : PS) : PS :=
  let s1 := putS ([102, 111, 114, 32] ++ n.t) s
  let s2 := if n.fl then s1 else putS (Lib.join ([32, 105, 110] :: n.ws) [32]) s1
  putS [100, 111, 110, 101] (partS [100, 111] (f (kid n 0)) (lnS s2))
def casesS (f : Nat → PS → PS) (n : Nd) (s : PS) : PS := putS [101, 115, 97, 99] (betS [] f n.ks (lnS (putS ([99, 97, 115, 101, 32] ++ n.t ++ [32, 105, 110]) s)))
def itemS (f : Nat → PS → PS) (n : Nd) (s : PS) : PS := lnS (putS [59, 59] (partS ([40] ++ Lib.join n.ws [124] ++ [41]) (f (kid n 0)) s))
def bodyS (kd : Nat → Nat) (f : Nat → PS → PS) (n : Nd) (s : PS) : PS :=
  if n.k = 1 then simS n s
  else if n.k = 2 then betS [32, 124, 32] f n.ks (if n.fl then putS [33, 32] s else s)
  else if n.k = 3 then betS [32, 38, 38, 32] f n.ks s
  else if n.k = 4 then betS [32, 124, 124, 32] f n.ks s
  else if n.k = 5 then seqS f n.ks s
  else if n.k = 6 then asksS kd f n s
  else if n.k = 7 then loopS f n s
  else if n.k = 8 then eachS f n s
  else if n.k = 9 then casesS f n s
  else if n.k = 10 then itemS f n s
  else if n.k = 11 then putS [125] (partS [123] (f (kid n 0)) s)
  else if n.k = 12 then putS [41] (partS [40] (f (kid n 0)) s)
  else f (kid n 0) (putS (n.t ++ [40, 41, 32]) s)
def kdOf (l : List Nd) (j : Nat) : Nat := ((l[j]?).map Nd.k).getD 0
def nodeS (l : List Nd) (f : Nat → PS → PS) (n : Nd) (s : PS) : PS := if n.k = 1 then bodyS (kdOf l) f n s else tailS n.rs (bodyS (kdOf l) f n s)
def nodeF (l : List Nd) : Nat → Nat → PS → PS
  | 0, _, s => s
  | f + 1, k, s => match l[k]? with
    | none => s
    | some n => if 1 ≤ n.k ∧ n.k ≤ 13 then nodeS l (nodeF l f) n s else s
/-- The node at a place. -/
def showAt (l : List Nd) (k : Nat) (s : PS) : PS := nodeF l (k + 1) k s
/-- A tree as a script. -/
def showL (l : List Nd) : Nm := if l = [] then [] else (showAt l (l.length - 1) ([], [])).1
/-- Kids are as many as their kind has. -/
def KidN (n : Nd) : Prop := (n.k = 6 → n.ks.length = 2 ∨ n.ks.length = 3) ∧ (n.k = 7 → n.ks.length = 2) ∧ (n.k = 8 ∨ 10 ≤ n.k → n.ks.length = 1) ∧ (1 ≤ n.k ∧ (n.k = 1 → n.ks = [])) ∧ n.k ≤ 13
structure Tr (l : List Nd) : Prop where
  kids : ∀ (j : Nat) (h : j < l.length), ∀ k ∈ l[j].ks, k < j
  fits : ∀ n ∈ l, KidN n
  one : ∀ i, i < l.length → (l.flatMap (·.ks)).count i = if i + 1 = l.length then 0 else 1
theorem kid_mem {n : Nd} {i : Nat} (h : i < n.ks.length) : kid n i ∈ n.ks := by
  unfold kid
  rw [List.getD_eq_getElem?_getD, List.getElem?_eq_getElem h]
  exact List.getElem_mem h
theorem betR_congr {sep : Nm} {f g : Nat → PS → PS} : ∀ {ks : List Nat} (h : ∀ k ∈ ks, ∀ s, f k s = g k s) (s : PS), betR sep f ks s = betR sep g ks s
  | [], _, s => rfl
  | k :: ks, h, s => by
    unfold betR
    rw [h k List.mem_cons_self, betR_congr fun j hj => h j (List.mem_cons_of_mem _ hj)]
theorem betS_congr {sep : Nm} {f g : Nat → PS → PS} {ks : List Nat} (h : ∀ k ∈ ks, ∀ s, f k s = g k s) (s : PS) : betS sep f ks s = betS sep g ks s := by
  cases ks with
  | nil => rfl
  | cons k ks =>
    show betR sep f ks (f k s) = betR sep g ks (g k s)
    rw [h k List.mem_cons_self, betR_congr fun j hj => h j (List.mem_cons_of_mem _ hj)]
theorem seqS_congr {f g : Nat → PS → PS} : ∀ {ks : List Nat} (h : ∀ k ∈ ks, ∀ s, f k s = g k s) (s : PS), seqS f ks s = seqS g ks s
  | [], _, s => rfl
  | k :: ks, h, s => by
    unfold seqS
    rw [h k List.mem_cons_self, seqS_congr fun j hj => h j (List.mem_cons_of_mem _ hj)]
theorem body_congr {kd : Nat → Nat} {f g : Nat → PS → PS} {n : Nd} (hn : KidN n) (h : ∀ k ∈ n.ks, ∀ s, f k s = g k s) (s : PS) : bodyS kd f n s = bodyS kd g n s := by
  obtain ⟨h6, h7, h8, _, _⟩ := hn
  unfold bodyS
  by_cases e1 : n.k = 1
  · rw [if_pos e1, if_pos e1]
  rw [if_neg e1, if_neg e1]
  by_cases e2 : n.k = 2
  · rw [if_pos e2, if_pos e2, betS_congr h]
  rw [if_neg e2, if_neg e2]
  by_cases e3 : n.k = 3
  · rw [if_pos e3, if_pos e3, betS_congr h]
  rw [if_neg e3, if_neg e3]
  by_cases e4 : n.k = 4
  · rw [if_pos e4, if_pos e4, betS_congr h]
  rw [if_neg e4, if_neg e4]
  by_cases e5 : n.k = 5
  · rw [if_pos e5, if_pos e5, seqS_congr h]
  rw [if_neg e5, if_neg e5]
  by_cases e6 : n.k = 6
  · rw [if_pos e6, if_pos e6]
    have hl := h6 e6
    unfold asksS partS
    simp only
    rw [h _ (kid_mem (i := 0) (by omega)), h _ (kid_mem (i := 1) (by omega))]
    by_cases h2 : 2 < n.ks.length
    · rw [if_pos h2, if_pos h2, h _ (kid_mem h2)]
    · rw [if_neg h2, if_neg h2]
  rw [if_neg e6, if_neg e6]
  by_cases e7 : n.k = 7
  · rw [if_pos e7, if_pos e7]
    have hl := h7 e7
    unfold loopS partS
    rw [h _ (kid_mem (i := 0) (by omega)), h _ (kid_mem (i := 1) (by omega))]
  rw [if_neg e7, if_neg e7]
  by_cases e9 : n.k = 9
  · rw [if_neg (by omega), if_pos e9, if_neg (by omega), if_pos e9]
    unfold casesS
    rw [betS_congr h]
  have hl := h8 (by omega)
  have h0 := h _ (kid_mem (i := 0) (by omega))
  unfold eachS itemS partS
  simp only [h0, if_neg e9]
theorem nodeF_eq {l : List Nd} (ht : Tr l) : ∀ (k f g : Nat) (s : PS), k < f → k < g → nodeF l f k s = nodeF l g k s := by
  intro k
  induction k using Nat.strongRecOn with
  | _ k ih =>
    intro f g s hf hg
    obtain ⟨f, rfl⟩ : ∃ f', f = f' + 1 := ⟨f - 1, by omega⟩
    obtain ⟨g, rfl⟩ : ∃ g', g = g' + 1 := ⟨g - 1, by omega⟩
    unfold nodeF
    cases hn : l[k]? with
    | none => rfl
    | some n =>
      obtain ⟨hk, rfl⟩ := List.getElem?_eq_some_iff.1 hn
      have hc := fun s => body_congr (kd := kdOf l) (ht.fits l[k] (List.getElem_mem hk)) (f := nodeF l f) (g := nodeF l g) (fun j hj s => ih j (ht.kids k hk j hj) f g s (by have := ht.kids k hk j hj; omega) (by have := ht.kids k hk j hj; omega)) s
      simp only
      unfold nodeS
      rw [hc]
/-- The node at a place, without fuel. -/
theorem showAt_eq {l : List Nd} (ht : Tr l) {k : Nat} {n : Nd} (hn : l[k]? = some n) (s : PS) : showAt l k s = nodeS l (showAt l) n s := by
  obtain ⟨hk, rfl⟩ := List.getElem?_eq_some_iff.1 hn
  have hf := ht.fits l[k] (List.getElem_mem hk)
  unfold showAt
  rw [nodeF, hn]
  simp only
  rw [if_pos ⟨hf.2.2.2.1.1, hf.2.2.2.2⟩]
  unfold nodeS
  have hc := body_congr (kd := kdOf l) hf (f := nodeF l k) (g := fun k s => nodeF l (k + 1) k s) (fun j hj s => nodeF_eq ht j _ _ s (ht.kids k hk j hj) (Nat.lt_succ_self _)) s
  rw [hc]
def wF (c : Nd → Nat) (l : List Nd) : Nat → Nat → Nat
  | 0, _ => 0
  | f + 1, k => match l[k]? with
    | none => 0
    | some n => c n + (n.ks.map (wF c l f)).sum
def wAt (c : Nd → Nat) (l : List Nd) (k : Nat) : Nat := wF c l (k + 1) k
theorem wF_eq {c : Nd → Nat} {l : List Nd} (ht : Tr l) : ∀ (k f g : Nat), k < f → k < g → wF c l f k = wF c l g k := by
  intro k
  induction k using Nat.strongRecOn with
  | _ k ih =>
    intro f g hf hg
    obtain ⟨f, rfl⟩ : ∃ f', f = f' + 1 := ⟨f - 1, by omega⟩
    obtain ⟨g, rfl⟩ : ∃ g', g = g' + 1 := ⟨g - 1, by omega⟩
    unfold wF
    cases hn : l[k]? with
    | none => rfl
    | some n =>
      obtain ⟨hk, rfl⟩ := List.getElem?_eq_some_iff.1 hn
      simp only
      congr 2
      exact List.map_congr_left fun j hj => ih j (ht.kids k hk j hj) f g (by have := ht.kids k hk j hj; omega) (by have := ht.kids k hk j hj; omega)
theorem wAt_eq {c : Nd → Nat} {l : List Nd} (ht : Tr l) {k : Nat} {n : Nd} (hn : l[k]? = some n) : wAt c l k = c n + (n.ks.map (wAt c l)).sum := by
  obtain ⟨hk, rfl⟩ := List.getElem?_eq_some_iff.1 hn
  unfold wAt
  rw [wF, hn]
  simp only
  congr 2
  exact List.map_congr_left fun j hj => wF_eq ht j _ _ (ht.kids k hk j hj) (Nat.lt_succ_self _)
def sumTo (f : Nat → Nat) : Nat → Nat
  | 0 => 0
  | n + 1 => sumTo f n + f n
theorem sumTo_add (f g : Nat → Nat) : ∀ n, sumTo (fun i => f i + g i) n = sumTo f n + sumTo g n
  | 0 => rfl
  | n + 1 => by unfold sumTo; rw [sumTo_add f g n]; omega
theorem sumTo_congr {f g : Nat → Nat} : ∀ {n}, (∀ i, i < n → f i = g i) → sumTo f n = sumTo g n
  | 0, _ => rfl
  | n + 1, h => by unfold sumTo; rw [sumTo_congr fun i hi => h i (by omega), h n (by omega)]
theorem sumTo_one (x : Nat) (W : Nat → Nat) : ∀ n, x < n → sumTo (fun j => (if x = j then 1 else 0) * W j) n = W x
  | 0, h => absurd h (Nat.not_lt_zero _)
  | n + 1, h => by
    unfold sumTo
    by_cases e : x = n
    · subst e
      rw [if_pos rfl, Nat.one_mul]
      have : sumTo (fun j => (if x = j then 1 else 0) * W j) x = sumTo (fun _ => 0) x := sumTo_congr fun i hi => by rw [if_neg (by omega), Nat.zero_mul]
      rw [this]
      have h0 : ∀ m, sumTo (fun _ => 0) m = 0 := fun m => by
        induction m with
        | zero => rfl
        | succ m ih => unfold sumTo; rw [ih]
      rw [h0]; omega
    · rw [if_neg e, sumTo_one x W n (by omega)]; omega
theorem sum_count (W : Nat → Nat) (n : Nat) : ∀ L : List Nat, (∀ x ∈ L, x < n) → (L.map W).sum = sumTo (fun j => L.count j * W j) n
  | [], _ => by
    have h0 : ∀ m, sumTo (fun j => ([] : List Nat).count j * W j) m = 0 := fun m => by
      induction m with
      | zero => rfl
      | succ m ih => unfold sumTo; rw [ih]; simp
    rw [h0]; rfl
  | x :: L, h => by
    rw [List.map_cons, List.sum_cons, sum_count W n L fun y hy => h y (List.mem_cons_of_mem _ hy)]
    have h1 : sumTo (fun j => (x :: L).count j * W j) n = sumTo (fun j => (if x = j then 1 else 0) * W j + L.count j * W j) n := sumTo_congr fun j hj => by
      rw [List.count_cons, Nat.add_mul, Nat.add_comm]
      congr 1
      by_cases e : x = j <;> simp [e]
    rw [h1, sumTo_add, sumTo_one x W n (h x List.mem_cons_self)]
theorem sumTo_shift (f : Nat → Nat) : ∀ n, sumTo f (n + 1) = f 0 + sumTo (fun i => f (i + 1)) n
  | 0 => by show 0 + f 0 = f 0 + 0; omega
  | n + 1 => by
    show sumTo f (n + 1) + f (n + 1) = f 0 + (sumTo (fun i => f (i + 1)) n + f (n + 1))
    rw [sumTo_shift f n]; omega
theorem sumTo_list (F : Nd → Nat) : ∀ l : List Nd, (l.map F).sum = sumTo (fun i => ((l[i]?).map F).getD 0) l.length
  | [] => rfl
  | x :: l => by
    rw [List.map_cons, List.sum_cons, sumTo_list F l, List.length_cons, sumTo_shift]
    rfl
/-- Each node counts once. -/
theorem tree_sum {c : Nd → Nat} {l : List Nd} (ht : Tr l) (hl : l ≠ []) : wAt c l (l.length - 1) = (l.map c).sum := by
  have hpos := List.length_pos_iff.2 hl
  obtain ⟨n, hn⟩ : ∃ n, l.length = n + 1 := ⟨l.length - 1, by omega⟩
  have hW : sumTo (wAt c l) (n + 1) = sumTo (fun i => ((l[i]?).map c).getD 0 + ((l[i]?).map fun x => (x.ks.map (wAt c l)).sum).getD 0) (n + 1) := sumTo_congr fun i hi => by
    have hi2 : i < l.length := by omega
    rw [wAt_eq ht (List.getElem?_eq_getElem hi2), List.getElem?_eq_getElem hi2]
    rfl
  rw [sumTo_add] at hW
  have h1 : sumTo (fun i => ((l[i]?).map c).getD 0) (n + 1) = (l.map c).sum := by rw [sumTo_list, hn]
  have h2 : sumTo (fun i => ((l[i]?).map fun x => (x.ks.map (wAt c l)).sum).getD 0) (n + 1) = ((l.flatMap (·.ks)).map (wAt c l)).sum := by
    have := sumTo_list (fun x => (x.ks.map (wAt c l)).sum) l
    rw [hn] at this
    rw [← this]
    clear this hW h1 hn hpos hl ht
    generalize wAt c l = W
    induction l with
    | nil => rfl
    | cons x l ih => rw [List.map_cons, List.sum_cons, List.flatMap_cons, List.map_append, List.sum_append, ih]
  have h3 : ((l.flatMap (·.ks)).map (wAt c l)).sum = sumTo (fun j => (l.flatMap (·.ks)).count j * wAt c l j) (n + 1) := sum_count _ _ _ fun x hx => by
    obtain ⟨m, hm, hx⟩ := List.mem_flatMap.1 hx
    obtain ⟨i, hi, rfl⟩ := List.mem_iff_getElem.1 hm
    have := ht.kids i hi x hx
    omega
  have h4 : sumTo (fun j => (l.flatMap (·.ks)).count j * wAt c l j) (n + 1) = sumTo (wAt c l) n := by
    show sumTo (fun j => (l.flatMap (·.ks)).count j * wAt c l j) n + (l.flatMap (·.ks)).count n * wAt c l n = _
    rw [ht.one n (by omega), if_pos (by omega), Nat.zero_mul, Nat.add_zero]
    exact sumTo_congr fun j hj => by rw [ht.one j (by omega), if_neg (by omega), Nat.one_mul]
  rw [h1, h2, h3, h4] at hW
  have h5 : sumTo (wAt c l) (n + 1) = sumTo (wAt c l) n + wAt c l n := rfl
  rw [h5] at hW
  have h6 : l.length - 1 = n := by omega
  rw [h6]
  omega
end Go.Proofs.YtiklkhbfilbpeaaGreatDoor.Un
