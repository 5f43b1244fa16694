/-
  slices.Clone at bytes, Open, Texts: each computes what the plain mathematics says. Conditions: the arguments can be read; as each contract says.
-/
import Derived.Test.YtnmlnaoljkhjeaaVarReader2
import Derived.WalkSpells
set_option linter.unusedVariables false
namespace Go.Proofs.Ytnmlnaoljkhjeaa
open Go.RowKit Base

theorem own_empty (w : World) (B : Nat) (hB : B ≤ w.heap.size) : (w.alloc (.cells #[] 5)).ownsRow B 5 1 (.slice (some ⟨w.heap.size, 0, none⟩) 0 0) 0 (([] : List UInt8).map bv) :=
  World.ownsRow_made w #[] 0 hB (Nat.zero_le _) rfl

theorem run_eql_slice_nil_any {P : Program} (w : World) (t e : TypeId) (a : Option Addr) (n c n' c' : Nat) (h : P.underlying t = some (.slice e)) :
    (binOp .eql t (.slice a n c) (.slice none n' c')).run P w = .ok (.bool a.isNone) w := by
  simp only [binOp]
  simp [Op.equal, Op.maxDepth, Lib.run_equalIn_slice_nil w 9999 t e a n c n' c' h]

set_option maxRecDepth 100000 in
theorem clone_calls (w : World) (a : Option Addr) (n cap : Nat) (l : List UInt8) (h : Bytes w a n cap l) (hs : n ≤ 1000000000) :
    Calls Try.prog 41 #[.slice a n cap] w fun e w' => ∃ v, e = .returned v ∧ w'.ownsRow w.heap.size 5 1 v n (l.map bv) ∧ Below w.heap.size w w' := by
  obtain ⟨i0, hi, hz0, hz1, hz2⟩ := info_parts info_u8
  have hbw := (Below.refl w.heap.size w).alloc (Nat.le_refl _) (.cells #[] 5)
  have hB2 := h.below stable_byteAt hbw
  have hown := own_empty w w.heap.size (Nat.le_refl _)
  have hbb : w.heap.size ≤ w.heap.size := Nat.le_refl _
  generalize hB : w.heap.size = B at hbw hbb hown ⊢
  have HB := Lib.hid hB; clear hB
  rw [← HB.out] at hown
  cases a with
  | none =>
    obtain ⟨h1, h2, h3, b, off, h4, h5⟩ := h
    have hn : n = 0 := by
      rcases h4 with h | h
      · exact h
      · cases h
    subst hn
    have hl : l = [] := List.eq_nil_of_length_eq_zero h1.symm
    subst hl
    have heq : ∀ w : World, (binOp .eql 43 (.slice none 0 cap) (.slice none 0 0)).run Try.prog w = .ok (.bool true) w := fun w => run_eql_slice_nil_any w 43 5 none 0 cap 0 0 Try.underlying43
    clear hown hB2 hbw h1 h2 h3 h4 h5
    go_enter Try.func41, Try.ntmps41
    go_wp2_with fail
    go_ret
    exact ⟨_, rfl, World.ownsRow_nil _ _ _ _, Below.refl _ _⟩
  | some ad =>
    have hcap := h.2.2.1
    unfold maxLen at hcap
    have heq : ∀ w : World, (binOp .eql 43 (.slice (some ad) n cap) (.slice none 0 0)).run Try.prog w = .ok (.bool false) w := fun w => run_eql_slice_nil_any w 43 5 (some ad) n cap 0 0 Try.underlying43
    clear h
    go_enter Try.func41, Try.ntmps41
    go_wp2_with (at_builtin; refine wpList_append_src rfl (.tmp 5) (.tmp 6) 43 43 rfl B 5 i0 (.int .u8 0) 1 1 Try.underlying43 (append_side Try.underlying43) hi hz0 hz1 hz2 rfl (by decide) (by decide) _ 0 _ rfl (by rw [HB.out] at hown; rw [← HB.out]; rw [← HB.out] at hown; exact hown) _ n _ rfl (src_bytes hB2) ?_ ?_ ?_ ?_)
    case _ => unfold maxLen; omega
    case _ => omega
    case _ => rw [← HB.out]; simp
    intro v1 w1 hown1 hg1 _
    have hb1 : Below B w w1 := hbw.grown hg1 (by rw [← HB.out]; simp) (fun j hj => by simp [Value.ownBlock] at hj; have := HB.out; omega)
    have hown2 : w1.ownsRow B 5 1 v1 n (l.map bv) := by simpa using hown1
    clear hown1 hg1
    go_wp2_with fail
    go_ret
    exact ⟨_, rfl, hown2, hb1⟩

set_option maxRecDepth 100000 in
theorem open_calls (w : World) (a : Option Addr) (n cap : Nat) (l : List UInt8) (h : Bytes w a n cap l) (hs : n ≤ 1000000000) :
    Calls Try.prog 15 #[.slice a n cap] w fun e w' => ∃ q, e = .returned (.pointer (some ⟨q, 0, none⟩)) ∧ w.heap.size ≤ q ∧ q < w'.heap.size ∧ Rd w' q l 0 ∧ Below w.heap.size w w' := by
  have H := Lib.hid (clone_calls w a n cap l h hs); clear h
  go_enter Try.func15, Try.ntmps15
  go_wp2_with fail
  refine H.out.mono ?_
  rintro e w1 ⟨v, rfl, hown, hb⟩
  obtain ⟨av, cv, rfl, hrow⟩ := ownsRow_bytes hown
  clear hown
  have Hrow := Lib.hid hrow; clear hrow
  have hs1 := hb.size
  go_wp2_with fail
  go_ret
  refine ⟨_, rfl, hs1, by simp, ⟨av, n, cv, heap_alloc_new w1 _, Hrow.out.below stable_byteAt ((Below.refl _ _).alloc (Nat.le_refl _) _)⟩, hb.alloc hs1 _⟩

end Go.Proofs.Ytnmlnaoljkhjeaa
