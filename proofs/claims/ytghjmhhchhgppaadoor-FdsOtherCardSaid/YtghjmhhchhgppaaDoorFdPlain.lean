/-
  Plain mathematics of chapter 16 (numbers that stand for files): rows of pairs that rise. No program stands here. Conditions: as each law says.
-/
import Derived.Test.YtghjmhhchhgppaaDoorFdSlices2
import Derived.Lib.ItoaNum
import Derived.Lib.Join
set_option linter.unusedVariables false
namespace Go.Proofs.YtghjmhhchhgppaaDoor
open Go.RowKit Base

def Rises (l : List Pr) : Prop := l.Pairwise fun a b => a.1 < b.1
def lowB (l : List Pr) (fd : Int) : Nat := (l.takeWhile fun p => decide (p.1 < fd)).length
/-- How a place parts a row. -/
def Parts (l : List Pr) (fd : Int) (i : Nat) : Prop := i ≤ l.length ∧ ∀ j (h : j < l.length), (j < i ↔ l[j].1 < fd)
theorem rises_get {l : List Pr} (h : Rises l) {i j : Nat} (hij : i < j) (hj : j < l.length) : l[i].1 < l[j].1 := List.pairwise_iff_getElem.1 h i j (by omega) hj hij
theorem parts_low {l : List Pr} (h : Rises l) (fd : Int) : Parts l fd (lowB l fd) := by
  refine ⟨by unfold lowB; exact (List.takeWhile_sublist _).length_le, ?_⟩
  unfold lowB
  induction l with
  | nil => intro j hj; exact absurd hj (Nat.not_lt_zero _)
  | cons p r ih =>
    have hr : Rises r := (List.pairwise_cons.1 h).2
    have hp := (List.pairwise_cons.1 h).1
    intro j hj
    by_cases hlt : p.1 < fd
    · rw [List.takeWhile_cons_of_pos (by simpa using hlt), List.length_cons]
      cases j with
      | zero => simpa using hlt
      | succ j =>
        have := ih hr j (by simpa using hj)
        simpa using this
    · rw [List.takeWhile_cons_of_neg (by simpa using hlt)]
      refine ⟨fun h0 => absurd h0 (Nat.not_lt_zero _), fun h0 => ?_⟩
      cases j with
      | zero => exact absurd (by simpa using h0) hlt
      | succ j =>
        have hj' : j < r.length := by simpa using hj
        have h1 : p.1 < r[j].1 := hp _ (List.getElem_mem hj')
        have h2 : r[j].1 < fd := by simpa using h0
        omega
theorem parts_unique {l : List Pr} {fd : Int} {i k : Nat} (hi : Parts l fd i) (hk : Parts l fd k) : i = k := by
  rcases Nat.lt_trichotomy i k with h | h | h
  · have hl : i < l.length := by have := hk.1; omega
    have := (hi.2 i hl).2 ((hk.2 i hl).1 h)
    omega
  · exact h
  · have hl : k < l.length := by have := hi.1; omega
    have := (hk.2 k hl).2 ((hi.2 k hl).1 h)
    omega
def hasB (l : List Pr) (fd : Int) : Bool := l.any fun p => decide (p.1 = fd)
theorem has_at {l : List Pr} {fd : Int} {i : Nat} (hr : Rises l) (hi : Parts l fd i) : hasB l fd = true ↔ ∃ h : i < l.length, l[i].1 = fd := by
  unfold hasB
  rw [List.any_eq_true]
  constructor
  · rintro ⟨p, hp, he⟩
    obtain ⟨j, hj, rfl⟩ := List.getElem_of_mem hp
    have he : l[j].1 = fd := by simpa using he
    have h1 : ¬ j < i := fun h => by have := (hi.2 j hj).1 h; omega
    refine ⟨by omega, ?_⟩
    by_cases hij : i = j
    · subst hij; exact he
    · have h2 := rises_get hr (show i < j by omega) hj
      have h3 : ¬ l[i].1 < fd := fun h => by have := (hi.2 i (by omega)).2 h; omega
      omega
  · rintro ⟨h, he⟩
    exact ⟨l[i], List.getElem_mem h, by simpa using he⟩
def withoutB (l : List Pr) (fd : Int) : List Pr := l.filter fun p => decide (p.1 ≠ fd)
theorem erase_eq {l : List Pr} {fd : Int} {i : Nat} (hr : Rises l) (hi : i < l.length) (he : l[i].1 = fd) : l.eraseIdx i = withoutB l fd := by
  induction l generalizing i with
  | nil => exact absurd hi (Nat.not_lt_zero _)
  | cons p r ih =>
    have hp := (List.pairwise_cons.1 hr).1
    have hr' : Rises r := (List.pairwise_cons.1 hr).2
    unfold withoutB
    cases i with
    | zero =>
      have he : p.1 = fd := he
      rw [List.eraseIdx_cons_zero, List.filter_cons_of_neg (by simpa using he)]
      refine (List.filter_eq_self.2 fun q hq => ?_).symm
      have := hp q hq
      simp
      omega
    | succ i =>
      have hi' : i < r.length := by simpa using hi
      have he : r[i].1 = fd := by simpa using he
      have h1 : p.1 < r[i].1 := hp _ (List.getElem_mem hi')
      rw [List.eraseIdx_cons_succ, List.filter_cons_of_pos (by simp; omega), ih hr' hi' he]
      rfl
theorem without_none {l : List Pr} {fd : Int} (h : hasB l fd = false) : withoutB l fd = l := by
  unfold withoutB
  refine List.filter_eq_self.2 fun q hq => ?_
  unfold hasB at h
  rw [List.any_eq_false] at h
  simpa using h q hq
theorem rises_without {l : List Pr} (fd : Int) (h : Rises l) : Rises (withoutB l fd) := List.Pairwise.filter _ h
theorem has_without (l : List Pr) (fd : Int) : hasB (withoutB l fd) fd = false := by
  unfold hasB withoutB
  rw [List.any_eq_false]
  intro q hq
  rw [List.mem_filter] at hq
  simpa using hq.2
/-- As the document puts it. -/
def withB (fd k : Int) : List Pr → List Pr
  | [] => [(fd, k)]
  | p :: r => if fd ≤ p.1 then (fd, k) :: withoutB (p :: r) fd else p :: withB fd k r
theorem insert_eq (fd k : Int) {l : List Pr} (hr : Rises l) : ∀ {i : Nat}, Parts (withoutB l fd) fd i → (withoutB l fd).insertIdx i (fd, k) = withB fd k l := by
  induction l with
  | nil =>
    intro i hi
    have : i = 0 := by have := hi.1; simpa [withoutB] using this
    subst this
    rfl
  | cons p r ih =>
    have hp := (List.pairwise_cons.1 hr).1
    have hr' : Rises r := (List.pairwise_cons.1 hr).2
    intro i hi
    unfold withB
    by_cases hle : fd ≤ p.1
    · rw [if_pos hle]
      have h0 : i = 0 := by
        rcases Nat.eq_zero_or_pos i with h | h
        · exact h
        · exfalso
          have hl : 0 < (withoutB (p :: r) fd).length := by have := hi.1; omega
          have h1 := (hi.2 0 hl).1 h
          have hm : (withoutB (p :: r) fd)[0] ∈ p :: r := (List.mem_filter.1 (List.getElem_mem hl)).1
          rcases List.mem_cons.1 hm with h2 | h2
          · rw [h2] at h1; omega
          · have := hp _ h2; omega
      subst h0
      rfl
    · rw [if_neg hle]
      have hw : withoutB (p :: r) fd = p :: withoutB r fd := by unfold withoutB; rw [List.filter_cons_of_pos (by simp; omega)]
      rw [hw] at hi ⊢
      have hi0 : 0 < i := (hi.2 0 (by simp)).2 (by show p.1 < fd; omega)
      obtain ⟨m, rfl⟩ : ∃ m, i = m + 1 := ⟨i - 1, by omega⟩
      rw [List.insertIdx_succ_cons]
      congr 1
      refine ih hr' ⟨by have := hi.1; simpa using this, fun j hj => ?_⟩
      have := hi.2 (j + 1) (by simpa using hj)
      simpa using this
theorem withB_mem (fd k : Int) (l : List Pr) : ∀ q ∈ withB fd k l, q = (fd, k) ∨ q ∈ l := by
  induction l with
  | nil => intro q hq; simp [withB] at hq; exact .inl hq
  | cons p r ih =>
    intro q hq
    unfold withB at hq
    split at hq
    · rcases List.mem_cons.1 hq with h | h
      · exact .inl h
      · exact .inr ((List.mem_filter.1 h).1)
    · rcases List.mem_cons.1 hq with h | h
      · exact .inr (h ▸ List.mem_cons_self ..)
      · rcases ih q h with h | h
        · exact .inl h
        · exact .inr (List.mem_cons_of_mem _ h)
theorem rises_with (fd k : Int) {l : List Pr} (h : Rises l) : Rises (withB fd k l) := by
  induction l with
  | nil => exact List.pairwise_singleton ..
  | cons p r ih =>
    have hp := (List.pairwise_cons.1 h).1
    have hr : Rises r := (List.pairwise_cons.1 h).2
    unfold withB
    split
    · rename_i hle
      refine List.pairwise_cons.2 ⟨fun q hq => ?_, rises_without fd h⟩
      have hm := List.mem_filter.1 hq
      have h1 : q.1 ≠ fd := by simpa using hm.2
      show fd < q.1
      rcases List.mem_cons.1 hm.1 with h2 | h2
      · rw [h2] at h1 ⊢; omega
      · have := hp q h2; omega
    · rename_i hle
      refine List.pairwise_cons.2 ⟨fun q hq => ?_, ih hr⟩
      rcases withB_mem fd k r q hq with h2 | h2
      · rw [h2]; show p.1 < fd; omega
      · exact hp q h2
theorem with_len (fd k : Int) (l : List Pr) : (withB fd k l).length ≤ l.length + 1 := by
  induction l with
  | nil => simp [withB]
  | cons p r ih =>
    unfold withB
    split
    · have : (withoutB (p :: r) fd).length ≤ (p :: r).length := List.length_filter_le ..
      rw [List.length_cons]; omega
    · rw [List.length_cons, List.length_cons]; omega
theorem without_len (fd : Int) (l : List Pr) : (withoutB l fd).length ≤ l.length := List.length_filter_le ..
/-- The document's loop. -/
theorem withB_snoc_all (fd k : Int) (l : List Pr) (h : ∀ q ∈ l, q.1 < fd) : withB fd k l = l ++ [(fd, k)] := by
  induction l with
  | nil => rfl
  | cons p r ih =>
    have hp := h p (List.mem_cons_self ..)
    unfold withB
    rw [if_neg (by omega), ih (fun q hq => h q (List.mem_cons_of_mem _ hq))]
    rfl
theorem withB_app (fd k : Int) (l : List Pr) (p : Pr) : withB fd k (l ++ [p]) = if ∃ q ∈ l, fd ≤ q.1 then withB fd k l ++ withoutB [p] fd else l ++ (if fd ≤ p.1 then (fd, k) :: withoutB [p] fd else [p, (fd, k)]) := by
  induction l with
  | nil =>
    rw [if_neg (by simp)]
    show withB fd k [p] = _
    unfold withB
    split <;> rfl
  | cons x r ih =>
    show withB fd k (x :: (r ++ [p])) = _
    unfold withB
    by_cases hx : fd ≤ x.1
    · rw [if_pos hx, if_pos ⟨x, List.mem_cons_self .., hx⟩, if_pos hx]
      show (fd, k) :: withoutB ((x :: r) ++ [p]) fd = (fd, k) :: withoutB (x :: r) fd ++ withoutB [p] fd
      unfold withoutB
      rw [List.filter_append]
      rfl
    · rw [if_neg hx, if_neg hx, ih]
      by_cases hr : ∃ q ∈ r, fd ≤ q.1
      · rw [if_pos hr, if_pos (by obtain ⟨q, h1, h2⟩ := hr; exact ⟨q, List.mem_cons_of_mem _ h1, h2⟩)]
        rfl
      · rw [if_neg hr, if_neg (show ¬ ∃ q ∈ x :: r, fd ≤ q.1 from fun hq => by
          obtain ⟨q, h1, h2⟩ := hq
          rcases List.mem_cons.1 h1 with h | h
          · rw [h] at h2; exact hx h2
          · exact hr ⟨q, h, h2⟩)]
        rfl
def getB (l : List Pr) (fd : Int) : Option Int := (l.find? fun p => decide (p.1 = fd)).map (·.2)
theorem get_at {l : List Pr} {fd : Int} {i : Nat} (hr : Rises l) (hi : i < l.length) (he : l[i].1 = fd) : getB l fd = some l[i].2 := by
  unfold getB
  induction l generalizing i with
  | nil => exact absurd hi (Nat.not_lt_zero _)
  | cons p r ih =>
    have hp := (List.pairwise_cons.1 hr).1
    cases i with
    | zero =>
      rw [List.find?_cons_of_pos (by simpa using he)]
      rfl
    | succ i =>
      have hi' : i < r.length := by simpa using hi
      have he' : r[i].1 = fd := by simpa using he
      have h1 : p.1 < r[i].1 := hp _ (List.getElem_mem hi')
      rw [List.find?_cons_of_neg (by simp; omega)]
      exact ih (List.pairwise_cons.1 hr).2 hi' he'
theorem get_none {l : List Pr} {fd : Int} (h : hasB l fd = false) : getB l fd = none := by
  unfold getB
  unfold hasB at h
  rw [List.any_eq_false] at h
  rw [List.find?_eq_none.2 (fun q hq => by simpa using h q hq)]
  rfl
theorem get_isSome (l : List Pr) (fd : Int) : (getB l fd).isSome = hasB l fd := by
  unfold getB hasB
  rw [Option.isSome_map, Bool.eq_iff_iff, List.find?_isSome, List.any_eq_true]
/-- All pairs as a text. -/
def pairT (p : Pr) : List UInt8 := Lib.itoa p.1 ++ 61 :: Lib.itoa p.2
def showB (l : List Pr) : List UInt8 := Lib.join (l.map pairT) [32]
def firstB : List Pr := [(0, 0), (1, 1), (2, 2)]
theorem rises_first : Rises firstB := by unfold Rises firstB; simp
theorem joinTail_snoc (sep : List UInt8) (r : List (List UInt8)) (x : List UInt8) : Lib.joinTail sep (r ++ [x]) = Lib.joinTail sep r ++ (sep ++ x) := by
  unfold Lib.joinTail; simp
theorem show_take (l : List Pr) (k : Nat) (h : k < l.length) : showB (l.take (k + 1)) = showB (l.take k) ++ ((if k = 0 then [] else [32]) ++ pairT l[k]) := by
  unfold showB
  rw [List.take_succ_eq_append_getElem h, List.map_append]
  cases l with
  | nil => exact absurd h (Nat.not_lt_zero _)
  | cons p r =>
    cases k with
    | zero => simp [Lib.join]
    | succ k =>
      rw [List.take_succ_cons, List.map_cons, List.cons_append, Lib.join_cons, Lib.join_cons, List.map_cons, List.map_nil, joinTail_snoc, if_neg (by omega), List.append_assoc]
theorem dec_len (n : Nat) : ∀ u, u < 10 ^ n → 0 < n → (Lib.decDigits u).length ≤ n := by
  induction n with
  | zero => intro u _ h; omega
  | succ n ih =>
    intro u hu _
    rw [Lib.decDigits]
    split
    · simp
    · rename_i h
      rw [List.length_append]
      have hn : 0 < n := by
        rcases Nat.eq_zero_or_pos n with h0 | h0
        · subst h0; omega
        · exact h0
      have : u / 10 < 10 ^ n := by rw [Nat.pow_succ] at hu; omega
      have := ih (u / 10) this hn
      simp
      omega
def I64n (n : Int) : Prop := -9223372036854775808 ≤ n ∧ n ≤ 9223372036854775807
theorem itoa_len {n : Int} (h : I64n n) : (Lib.itoa n).length ≤ 20 := by
  unfold Lib.itoa
  split
  · have := dec_len 19 n.natAbs (by have := h.1; omega) (by decide)
    simp; omega
  · have := dec_len 19 n.toNat (by have := h.2; omega) (by decide)
    omega
def Smalls (l : List Pr) : Prop := ∀ p ∈ l, I64n p.1 ∧ I64n p.2
theorem pairT_len {p : Pr} (h : I64n p.1 ∧ I64n p.2) : (pairT p).length ≤ 41 := by
  unfold pairT
  rw [List.length_append, List.length_cons]
  have h1 := itoa_len h.1
  have h2 := itoa_len h.2
  omega
theorem joinTail_len (r : List Pr) (h : Smalls r) : (Lib.joinTail [32] (r.map pairT)).length ≤ 42 * r.length := by
  unfold Lib.joinTail
  induction r with
  | nil => simp
  | cons p r ih =>
    have h1 := pairT_len (h p (List.mem_cons_self ..))
    have h2 := ih (fun q hq => h q (List.mem_cons_of_mem _ hq))
    simp only [List.map_cons, List.flatten_cons, List.length_append, List.length_cons, List.length_nil] at h2 ⊢
    omega
theorem show_len (l : List Pr) (h : Smalls l) : (showB l).length ≤ 42 * l.length := by
  unfold showB
  cases l with
  | nil => simp [Lib.join]
  | cons p r =>
    rw [List.map_cons, Lib.join_cons, List.length_append, List.length_cons]
    have h1 := pairT_len (h p (List.mem_cons_self ..))
    have h2 := joinTail_len r (fun q hq => h q (List.mem_cons_of_mem _ hq))
    omega
theorem smalls_without {l : List Pr} (fd : Int) (h : Smalls l) : Smalls (withoutB l fd) := fun p hp => h p (List.mem_filter.1 hp).1
theorem smalls_with {l : List Pr} {fd k : Int} (hf : I64n fd) (hk : I64n k) (h : Smalls l) : Smalls (withB fd k l) := by
  intro q hq
  rcases withB_mem fd k l q hq with rfl | h1
  · exact ⟨hf, hk⟩
  · exact h q h1
theorem smalls_take {l : List Pr} (k : Nat) (h : Smalls l) : Smalls (l.take k) := fun p hp => h p (List.mem_of_mem_take hp)
theorem smalls_first : Smalls firstB := by
  unfold Smalls firstB I64n; simp
end Go.Proofs.YtghjmhhchhgppaaDoor
