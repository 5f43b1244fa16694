/-
  What was set is got: plain laws. Conditions: as each law says.
-/
import Derived.Test.YtchmpkgjjkfjcaaDoorEnActs
set_option linter.unusedVariables false
set_option maxRecDepth 100000
namespace Go.Proofs.YtchmpkgjjkfjcaaDoor
open Go.RowKit Base

def setAll (l : List Act5) : List Vr := l.foldl (fun m q => setB q.2.1 q.2.2.1 m) []
theorem setAll_step {l : List Act5} {k : Nat} (h : k < l.length) : setAll (l.take (k + 1)) = setB l[k].2.1 l[k].2.2.1 (setAll (l.take k)) := by
  unfold setAll
  rw [List.take_add_one, List.getElem?_eq_getElem h, List.foldl_append]
  rfl
theorem setAll_rises (l : List Act5) : Rises (setAll l) := by
  unfold setAll
  have : ∀ (l : List Act5) (m : List Vr), Rises m → Rises (l.foldl (fun m q => setB q.2.1 q.2.2.1 m) m) := by
    intro l
    induction l with
    | nil => intro m h; exact h
    | cons q r ih => intro m h; exact ih _ (setB_rises _ _ h)
  exact this l [] List.Pairwise.nil
theorem setAll_len (l : List Act5) : (setAll l).length ≤ l.length := by
  unfold setAll
  have : ∀ (l : List Act5) (m : List Vr), (l.foldl (fun m q => setB q.2.1 q.2.2.1 m) m).length ≤ m.length + l.length := by
    intro l
    induction l with
    | nil => intro m; exact Nat.le_refl _
    | cons q r ih =>
      intro m
      have h1 := ih (setB q.2.1 q.2.2.1 m)
      have h2 := setB_len q.2.1 q.2.2.1 m
      rw [List.foldl_cons, List.length_cons]
      omega
  have := this l []
  simpa using this
/-- Without arguments what no name is, is not got of variables. -/
theorem gotB_plain (l m : List Vr) (st : Int) (fl s : Nm) (h : nameB s = false) : gotB l [] st fl s = gotB m [] st fl s := by
  simp only [gotB, h, Bool.false_eq_true, if_false, if_true]
theorem gotB_name (l : List Vr) (A : List Nm) (st : Int) (fl s : Nm) (h : nameB s = true) : gotB l A st fl s = getB l s := if_pos h
theorem got_other {l : List Vr} {name value other : Nm} {st : Int} {fl : Nm} (h : name ≠ other) : gotB (setB name value l) [] st fl other = gotB l [] st fl other := by
  rcases hn : nameB other with _ | _
  · exact gotB_plain _ _ _ _ _ hn
  · rw [gotB_name _ _ _ _ _ hn, gotB_name _ _ _ _ _ hn]
    unfold setB
    split
    · exact get_with_other value l (fun e => h e.symm)
    · rfl
theorem got_same {l : List Vr} {name value : Nm} {A : List Nm} {st : Int} {fl : Nm} (h : nameB name = true) : gotB (setB name value l) A st fl name = some value := by
  rw [gotB_name _ _ _ _ _ h]
  unfold setB
  rw [if_pos h]
  exact get_with_same name value l
theorem got_gone {l : List Vr} {name : Nm} {A : List Nm} {st : Int} {fl : Nm} (h : nameB name = true) : gotB (withoutB l name) A st fl name = none := by
  rw [gotB_name _ _ _ _ _ h]
  exact get_none (has_without l name)
theorem len_gone {l : List Vr} {name value : Nm} (h : nameB name = true) : (withoutB (setB name value l) name).length + 1 = (setB name value l).length := by
  unfold setB
  rw [if_pos h, without_with, with_len]
theorem set_noname {l : List Vr} {name value : Nm} (h : nameB name = false) : setB name value l = l := by
  unfold setB
  rw [if_neg (by rw [h]; decide)]
theorem rises_step {l : List Vr} (h : Rises l) {k : Nat} (hk : k + 1 < l.length) : ltB l[k].1 l[k + 1].1 = true := rises_get h (Nat.lt_succ_self k) hk
end Go.Proofs.YtchmpkgjjkfjcaaDoor
