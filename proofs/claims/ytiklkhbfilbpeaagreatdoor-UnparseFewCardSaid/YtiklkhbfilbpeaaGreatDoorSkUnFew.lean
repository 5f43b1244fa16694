/-
  Unparse: how many lines are shown at least, how the text ends, how long it is at most, as plain laws. No program stands here. Conditions: as each law says.
-/
import Derived.Test.YtiklkhbfilbpeaaGreatDoorSkUnPlain
set_option linter.unusedVariables false
set_option linter.unusedSimpArgs false
namespace Go.Proofs.YtiklkhbfilbpeaaGreatDoor.Un
open Lx Sy
/-- A way to count what is printed. -/
structure Acc where
  R : PS → PS → Nat → Prop
  p : Nm → Nat
  rc : Rdr → Nat
  zero : ∀ s, R s s 0
  tr : ∀ {s s' s'' a b}, R s s' a → R s' s'' b → R s s'' (a + b)
  put : ∀ t s, R s (putS t s) (p t)
  ln : ∀ s, R s (lnS s) 1
  rd : ∀ x s, R s (redirS x s) (rc x)
namespace Acc
variable (A : Acc)
def tailC (rs : List Rdr) : Nat := (rs.map fun x => A.p [32] + A.rc x).sum
def redsC : List Rdr → Nat
  | [] => 0
  | x :: rs => A.rc x + A.tailC rs
def simC (n : Nd) : Nat := A.redsC n.rs + (if 0 < n.rs.length ∧ 0 < n.ws.length then A.p [32] else 0) + A.p (Lib.join n.ws [32])
def bodyC (kd : Nat → Nat) (n : Nd) : Nat :=
  if n.k = 1 then A.simC n
  else if n.k = 2 then (if n.fl then A.p [33, 32] else 0) + (n.ks.length - 1) * A.p [32, 124, 32]
  else if n.k = 3 then (n.ks.length - 1) * A.p [32, 38, 38, 32]
  else if n.k = 4 then (n.ks.length - 1) * A.p [32, 124, 124, 32]
  else if n.k = 5 then n.ks.length
  else if n.k = 6 then A.p [105, 102] + 1 + (A.p [116, 104, 101, 110] + 1) + (if 2 < n.ks.length then A.p [101, 108, 115, 101] + 1 + (if kd (kid n 2) = 6 then 1 else 0) else 0) + A.p [102, 105]
  else if n.k = 7 then A.p (if n.fl then [117, 110, 116, 105, 108] else [119, 104, 105, 108, 101]) + 1 + (A.p [100, 111] + 1) + A.p [100, 111, 110, 101]
  else if n.k = 8 then A.p ([102, 111, 114, 32] ++ n.t) + (if n.fl then 0 else A.p (Lib.join ([32, 105, 110] :: n.ws) [32])) + 1 + (A.p [100, 111] + 1) + A.p [100, 111, 110, 101]
  else if n.k = 9 then A.p ([99, 97, 115, 101, 32] ++ n.t ++ [32, 105, 110]) + 1 + (n.ks.length - 1) * A.p [] + A.p [101, 115, 97, 99]
  else if n.k = 10 then A.p ([40] ++ Lib.join n.ws [124] ++ [41]) + 1 + A.p [59, 59] + 1
  else if n.k = 11 then A.p [123] + 1 + A.p [125]
  else if n.k = 12 then A.p [40] + 1 + A.p [41]
  else A.p (n.t ++ [40, 41, 32])
def nodeC (l : List Nd) (n : Nd) : Nat := A.bodyC (kdOf l) n + (if n.k = 1 then 0 else A.tailC n.rs)
theorem cast {s s' : PS} {a b : Nat} (h : A.R s s' a) (e : a = b) : A.R s s' b := e ▸ h
theorem tail : ∀ (rs : List Rdr) (s : PS), A.R s (tailS rs s) (A.tailC rs)
  | [], s => A.zero s
  | x :: rs, s => A.cast (A.tr (A.tr (A.put [32] s) (A.rd x _)) (tail rs _)) (by unfold tailC; rw [List.map_cons, List.sum_cons])
theorem reds (rs : List Rdr) (s : PS) : A.R s (redsS rs s) (A.redsC rs) := by
  cases rs with
  | nil => exact A.zero s
  | cons x rs => exact A.tr (A.rd x s) (A.tail rs _)
theorem sim (n : Nd) (s : PS) : A.R s (simS n s) (A.simC n) := by
  unfold simS simC
  refine A.tr (A.tr (A.reds n.rs s) ?_) (A.put _ _)
  split
  · exact A.put _ _
  · exact A.zero _
variable {f : Nat → PS → PS} {w : Nat → Nat}
theorem betR (sep : Nm) : ∀ {ks : List Nat} (h : ∀ k ∈ ks, ∀ s, A.R s (f k s) (w k)) (s : PS), A.R s (betR sep f ks s) (ks.length * A.p sep + (ks.map w).sum)
  | [], _, s => A.cast (A.zero s) (by simp)
  | k :: ks, h, s => A.cast (A.tr (A.tr (A.put sep s) (h k List.mem_cons_self _)) (betR sep (fun j hj => h j (List.mem_cons_of_mem _ hj)) _)) (by
    rw [List.map_cons, List.sum_cons, List.length_cons, Nat.succ_mul]; omega)
theorem betS (sep : Nm) {ks : List Nat} (h : ∀ k ∈ ks, ∀ s, A.R s (f k s) (w k)) (s : PS) : A.R s (betS sep f ks s) ((ks.length - 1) * A.p sep + (ks.map w).sum) := by
  cases ks with
  | nil => exact A.cast (A.zero s) (by simp)
  | cons k ks =>
    exact A.cast (A.tr (h k List.mem_cons_self s) (A.betR sep (fun j hj => h j (List.mem_cons_of_mem _ hj)) _)) (by
      rw [List.map_cons, List.sum_cons, List.length_cons, Nat.add_sub_cancel]; omega)
theorem seqS : ∀ {ks : List Nat} (h : ∀ k ∈ ks, ∀ s, A.R s (f k s) (w k)) (s : PS), A.R s (seqS f ks s) (ks.length + (ks.map w).sum)
  | [], _, s => A.cast (A.zero s) (by simp)
  | k :: ks, h, s => A.cast (A.tr (A.tr (h k List.mem_cons_self s) (A.ln _)) (seqS (fun j hj => h j (List.mem_cons_of_mem _ hj)) _)) (by
    rw [List.map_cons, List.sum_cons, List.length_cons]; omega)
theorem partS (t : Nm) {g : PS → PS} {c : Nat} (h : ∀ s, A.R s (g s) c) (s : PS) : A.R s (partS t g s) (A.p t + 1 + c) := A.tr (A.tr (A.put t s) (A.ln _)) (h _)
theorem body (kd : Nat → Nat) {n : Nd} (hn : KidN n) (h : ∀ k ∈ n.ks, ∀ s, A.R s (f k s) (w k)) (s : PS) : A.R s (bodyS kd f n s) (A.bodyC kd n + (n.ks.map w).sum) := by
  obtain ⟨h6, h7, h8, ⟨_, h1⟩, _⟩ := hn
  unfold bodyS bodyC
  by_cases e1 : n.k = 1
  · rw [if_pos e1, if_pos e1]
    rw [h1 e1]
    exact A.cast (A.sim n s) (by simp)
  rw [if_neg e1, if_neg e1]
  by_cases e2 : n.k = 2
  · rw [if_pos e2, if_pos e2]
    refine A.cast (A.tr (s' := if n.fl then putS [33, 32] s else s) (a := if n.fl then A.p [33, 32] else 0) ?_ (A.betS _ h _)) (by omega)
    split
    · exact A.put _ _
    · exact A.zero _
  rw [if_neg e2, if_neg e2]
  by_cases e3 : n.k = 3
  · rw [if_pos e3, if_pos e3]; exact A.betS _ h _
  rw [if_neg e3, if_neg e3]
  by_cases e4 : n.k = 4
  · rw [if_pos e4, if_pos e4]; exact A.betS _ h _
  rw [if_neg e4, if_neg e4]
  by_cases e5 : n.k = 5
  · rw [if_pos e5, if_pos e5]; exact A.seqS h _
  rw [if_neg e5, if_neg e5]
  by_cases e6 : n.k = 6
  · rw [if_pos e6, if_pos e6]
    have hl := h6 e6
    have h0 := h _ (kid_mem (n := n) (i := 0) (by omega))
    have h1 := h _ (kid_mem (n := n) (i := 1) (by omega))
    unfold asksS
    simp only
    by_cases hc : 2 < n.ks.length
    · rw [if_pos hc, if_pos hc]
      have h2 := h _ (kid_mem hc)
      have hs : (n.ks.map w).sum = w (kid n 0) + w (kid n 1) + w (kid n 2) := by
        unfold kid
        match hk : n.ks with
        | [a, b, c] => simp; omega
        | [] => rw [hk] at hc; simp at hc
        | [_] => rw [hk] at hc; simp at hc
        | [_, _] => rw [hk] at hc; simp at hc
        | _ :: _ :: _ :: _ :: _ => rw [hk] at hl; simp at hl
      rw [hs]
      by_cases hd : kd (kid n 2) = 6
      · rw [if_pos hd, if_pos hd]
        exact A.cast (A.tr (A.tr (A.tr (A.tr (A.partS [105, 102] h0 s) (A.partS [116, 104, 101, 110] h1 _)) (A.partS [101, 108, 115, 101] h2 _)) (A.ln _)) (A.put _ _)) (by omega)
      · rw [if_neg hd, if_neg hd]
        exact A.cast (A.tr (A.tr (A.tr (A.partS [105, 102] h0 s) (A.partS [116, 104, 101, 110] h1 _)) (A.partS [101, 108, 115, 101] h2 _)) (A.put _ _)) (by omega)
    · rw [if_neg hc, if_neg hc]
      have hs : (n.ks.map w).sum = w (kid n 0) + w (kid n 1) := by
        unfold kid
        match hk : n.ks with
        | [a, b] => simp
        | [] => rw [hk] at hl; simp at hl
        | [_] => rw [hk] at hl; simp at hl
        | _ :: _ :: _ :: _ => rw [hk] at hc; simp at hc
      rw [hs]
      exact A.cast (A.tr (A.tr (A.partS [105, 102] h0 s) (A.partS [116, 104, 101, 110] h1 _)) (A.put _ _)) (by omega)
  rw [if_neg e6, if_neg e6]
  by_cases e7 : n.k = 7
  · rw [if_pos e7, if_pos e7]
    have hl := h7 e7
    have h0 := h _ (kid_mem (n := n) (i := 0) (by omega))
    have h1 := h _ (kid_mem (n := n) (i := 1) (by omega))
    have hs : (n.ks.map w).sum = w (kid n 0) + w (kid n 1) := by
      unfold kid
      match hk : n.ks with
      | [a, b] => simp
      | [] => rw [hk] at hl; simp at hl
      | [_] => rw [hk] at hl; simp at hl
      | _ :: _ :: _ :: _ => rw [hk] at hl; simp at hl
    rw [hs]
    unfold loopS
    exact A.cast (A.tr (A.tr (A.partS _ h0 s) (A.partS _ h1 _)) (A.put _ _)) (by omega)
  rw [if_neg e7, if_neg e7]
  by_cases e9 : n.k = 9
  · rw [if_neg (by omega), if_pos e9, if_neg (by omega), if_pos e9]
    unfold casesS
    exact A.cast (A.tr (A.tr (A.tr (A.put _ _) (A.ln _)) (A.betS _ h _)) (A.put _ _)) (by omega)
  rw [if_neg e9, if_neg e9]
  have hl := h8 (by omega)
  have h0 := h _ (kid_mem (n := n) (i := 0) (by omega))
  have hs : (n.ks.map w).sum = w (kid n 0) := by
    unfold kid
    match hk : n.ks with
    | [a] => simp
    | [] => rw [hk] at hl; simp at hl
    | _ :: _ :: _ => rw [hk] at hl; simp at hl
  rw [hs]
  by_cases e8 : n.k = 8
  · rw [if_pos e8, if_pos e8]
    unfold eachS
    simp only
    refine A.cast (A.tr (A.tr (A.tr (A.tr (A.put ([102, 111, 114, 32] ++ n.t) s) (s'' := if n.fl then _ else putS (Lib.join ([32, 105, 110] :: n.ws) [32]) _) (b := if n.fl then 0 else A.p (Lib.join ([32, 105, 110] :: n.ws) [32])) ?_) (A.ln _)) (A.partS _ h0 _)) (A.put _ _)) (by omega)
    split
    · exact A.zero _
    · exact A.put _ _
  rw [if_neg e8, if_neg e8]
  by_cases e10 : n.k = 10
  · rw [if_pos e10, if_pos e10]
    unfold itemS
    exact A.cast (A.tr (A.tr (A.partS _ h0 _) (A.put _ _)) (A.ln _)) (by omega)
  rw [if_neg e10, if_neg e10]
  by_cases e11 : n.k = 11
  · rw [if_pos e11, if_pos e11]
    exact A.cast (A.tr (A.partS _ h0 _) (A.put _ _)) (by omega)
  rw [if_neg e11, if_neg e11]
  by_cases e12 : n.k = 12
  · rw [if_pos e12, if_pos e12]
    exact A.cast (A.tr (A.partS _ h0 _) (A.put _ _)) (by omega)
  rw [if_neg e12, if_neg e12]
  exact A.tr (A.put _ _) (h0 _)
theorem showAt {l : List Nd} (ht : Tr l) : ∀ (k : Nat), k < l.length → ∀ s, A.R s (showAt l k s) (wAt (A.nodeC l) l k) := by
  intro k
  induction k using Nat.strongRecOn with
  | _ k ih =>
    intro hk s
    have hn := List.getElem?_eq_getElem hk
    rw [showAt_eq ht hn, wAt_eq ht hn]
    have hb := fun s => A.body (kdOf l) (ht.fits _ (List.getElem_mem hk)) (f := Un.showAt l) (w := wAt (A.nodeC l) l) (fun j hj s => ih j (ht.kids k hk j hj) (by have := ht.kids k hk j hj; omega) s) s
    have hc : A.nodeC l l[k] = A.bodyC (kdOf l) l[k] + (if l[k].k = 1 then 0 else A.tailC l[k].rs) := rfl
    rw [hc]
    unfold nodeS
    by_cases e1 : l[k].k = 1
    · rw [if_pos e1, if_pos e1]; exact A.cast (hb s) (by omega)
    · rw [if_neg e1, if_neg e1]; exact A.cast (A.tr (hb s) (A.tail _ _)) (by omega)
theorem whole {l : List Nd} (ht : Tr l) (hl : l ≠ []) (s : PS) : A.R s (Un.showAt l (l.length - 1) s) ((l.map (A.nodeC l)).sum) := by
  have := A.showAt ht (l.length - 1) (by have := List.length_pos_iff.2 hl; omega) s
  rw [tree_sum ht hl] at this
  exact this
end Acc
theorem nl_app (a b : Nm) : nl (a ++ b) = nl a + nl b := List.count_append
def accN : Acc where
  R s s' c := nl s.1 + c ≤ nl s'.1
  p _ := 0
  rc _ := 0
  zero s := Nat.le_refl _
  tr h1 h2 := by omega
  put t s := by show nl s.1 + 0 ≤ nl (s.1 ++ t); rw [nl_app]; omega
  ln s := by show nl s.1 + 1 ≤ nl (s.1 ++ 10 :: s.2); rw [nl_app, show nl (10 :: s.2) = nl s.2 + 1 by simp [nl]]; omega
  rd x s := by show nl s.1 + 0 ≤ nl (s.1 ++ _); rw [nl_app]; omega
def cntS (n : Nd) : Nat := if n.k = 5 then n.ks.length else 0
theorem cnt_le (l : List Nd) (n : Nd) : cntS n ≤ accN.nodeC l n := by
  unfold cntS
  split
  · rename_i h
    unfold Acc.nodeC Acc.bodyC
    rw [if_neg (by omega), if_neg (by omega), if_neg (by omega), if_neg (by omega), if_pos h]
    omega
  · exact Nat.zero_le _
theorem sum_le {α : Type} {f g : α → Nat} (h : ∀ x, f x ≤ g x) : ∀ l : List α, (l.map f).sum ≤ (l.map g).sum
  | [] => Nat.le_refl _
  | x :: l => by rw [List.map_cons, List.sum_cons, List.map_cons, List.sum_cons]; have := h x; have := sum_le h l; omega
/-- There are as many lines as lists have commands, at least. -/
theorem show_lines {l : List Nd} (ht : Tr l) : (l.map cntS).sum ≤ nl (showL l) := by
  unfold showL
  by_cases hl : l = []
  · subst hl; exact Nat.le_refl _
  · rw [if_neg hl]
    have h1 : nl ([] : Nm) + (l.map (accN.nodeC l)).sum ≤ nl (showAt l (l.length - 1) ([], [])).1 := accN.whole ht hl ([], [])
    have h2 := sum_le (cnt_le l) l
    have h3 : nl ([] : Nm) = 0 := rfl
    omega
def EndsN (b : Nm) : Prop := b = [] ∨ b.getLast? = some 10
def accE : Acc where
  R s s' _ := EndsN s.2 → EndsN s'.2
  p _ := 0
  rc _ := 0
  zero s h := h
  tr h1 h2 h := h2 (h1 h)
  put t s h := h
  ln s h := .inl rfl
  rd x s h := by
    unfold redirS
    simp only
    split
    · refine .inr ?_
      rw [← List.append_assoc, ← List.append_assoc, List.getLast?_append]
      rfl
    · exact h
theorem ends_ln {s : PS} (h : EndsN s.2) : (lnS s).1.getLast? = some 10 := by
  unfold lnS
  simp only
  rw [List.getLast?_append]
  rcases h with h | h
  · rw [h]; rfl
  · rw [List.getLast?_cons, h]; rfl
theorem seq_ends {f : Nat → PS → PS} : ∀ {ks : List Nat} (h : ∀ k ∈ ks, ∀ s, EndsN s.2 → EndsN (f k s).2) (s : PS), EndsN s.2 → ks ≠ [] → (seqS f ks s).1.getLast? = some 10
  | [], _, s, _, hn => absurd rfl hn
  | [k], h, s, hs, _ => by
    unfold seqS seqS
    exact ends_ln (h k List.mem_cons_self s hs)
  | k :: j :: ks, h, s, hs, _ => by
    rw [seqS]
    exact seq_ends (fun i hi => h i (List.mem_cons_of_mem _ hi)) _ (.inl rfl) (by simp)
/-- It ends with a newline; it is empty just if there are no commands. -/
theorem show_ends {l : List Nd} (ht : Tr l) (hl : l ≠ []) (hr : ∀ n, l[l.length - 1]? = some n → n.k = 5 ∧ n.rs = []) : (showL l = [] ∧ (l.map cntS).sum = 0) ∨ ((showL l).getLast? = some 10 ∧ 0 < (l.map cntS).sum) := by
  have hpos := List.length_pos_iff.2 hl
  have hk : l.length - 1 < l.length := by omega
  have hn := List.getElem?_eq_getElem hk
  obtain ⟨hk5, hrs⟩ := hr _ hn
  have hsh : showL l = (seqS (showAt l) l[l.length - 1].ks ([], [])).1 := by
    unfold showL
    rw [if_neg hl, showAt_eq ht hn]
    unfold nodeS bodyS
    rw [if_neg (by omega), if_neg (by omega), if_neg (by omega), if_neg (by omega), if_neg (by omega), if_pos hk5, hrs]
    rfl
  have hw := tree_sum (c := cntS) ht hl
  rw [wAt_eq ht hn] at hw
  by_cases hks : l[l.length - 1].ks = []
  · refine .inl ⟨?_, ?_⟩
    · rw [hsh, hks]; rfl
    · rw [← hw, hks]
      unfold cntS
      rw [if_pos hk5, hks]
      rfl
  · refine .inr ⟨?_, ?_⟩
    · rw [hsh]
      exact seq_ends (fun k hkm s hs => accE.showAt ht k (by have := ht.kids _ hk k hkm; omega) s hs) _ (.inl rfl) hks
    · rw [← hw]
      unfold cntS
      rw [if_pos hk5]
      have := List.length_pos_iff.2 hks
      omega
def lenS (s : PS) : Nat := s.1.length + s.2.length
def rdLen (x : Rdr) : Nat := (Lib.itoa (x.fd : Int)).length + x.o.length + 2 * x.w.length + x.b.length + 1
def accL : Acc where
  R s s' c := lenS s' ≤ lenS s + c
  p t := t.length
  rc := rdLen
  zero s := Nat.le_refl _
  tr h1 h2 := by omega
  put t s := by show (s.1 ++ t).length + s.2.length ≤ _; rw [List.length_append]; show _ ≤ (s.1.length + s.2.length) + _; omega
  ln s := by show (s.1 ++ 10 :: s.2).length + 0 ≤ (s.1.length + s.2.length) + 1; rw [List.length_append, List.length_cons]; omega
  rd x s := by
    have hb : (Lx.bare x.w).length ≤ x.w.length := List.length_filter_le _ _
    show (s.1 ++ (Lib.itoa (x.fd : Int) ++ (x.o ++ x.w))).length + (if x.o = [60, 60] then s.2 ++ (x.b ++ (Lx.bare x.w ++ [10])) else s.2).length ≤ (s.1.length + s.2.length) + rdLen x
    unfold rdLen
    split
    · simp only [List.length_append, List.length_cons, List.length_nil]; omega
    · simp only [List.length_append]; omega
end Go.Proofs.YtiklkhbfilbpeaaGreatDoor.Un
