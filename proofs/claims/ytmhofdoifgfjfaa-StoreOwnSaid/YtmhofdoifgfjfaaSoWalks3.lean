/-
  Store: New, Places. Conditions: as each contract says.
-/
import Derived.Test.YtmhofdoifgfjfaaSoWalks2
set_option linter.unusedVariables false
set_option maxRecDepth 100000
namespace Go.Proofs.Ytmhofdoifgfjfaa
open Go.RowKit Base

theorem sto_new (W : World) (ev mo : Int) (h1 : 1 ≤ ev) (h2 : 1 ≤ mo) (f : Int → StateD) : Sto ((W.alloc (.map #[] 0)).alloc (.cells #[.int .i64 ev, .int .i64 mo, .slice none 0 0, .map (some W.heap.size)] soT)) W.heap.size (W.heap.size + 1) W.heap.size (.slice none 0 0) ev mo [] f 0 := by
  have hm := World.ownsMap_made W Try.prog 3 keptR
  have hb := heap_alloc_new (W.alloc (.map #[] 0)) (.cells #[.int .i64 ev, .int .i64 mo, .slice none 0 0, .map (some W.heap.size)] soT)
  rw [World.size_alloc] at hb
  exact ⟨Nat.le_succ _, Nat.le_refl _, hb, World.ownsRow_nil _ _ _ _, ⟨_, hm.alloc _, (fun p hp => by cases hp)⟩, List.Pairwise.nil, (fun _ h => by cases h), h1, h2, (by show ((([] : List Int).length : Nat) : Int) ≤ mo; simp; omega), Nat.le_refl _, (fun _ h => by cases h)⟩
set_option maxHeartbeats 1000000 in
theorem new_calls (W : World) (ev mo : Int) (f : Int → StateD) : Calls Try.prog 7 #[.int .i64 ev, .int .i64 mo] W fun r W' => r = .returned (.pointer (some ⟨W.heap.size + 1, 0, none⟩)) ∧ Sto W' W.heap.size (W.heap.size + 1) W.heap.size (.slice none 0 0) (max ev 1) (max mo 1) [] f 0 ∧ Below W.heap.size W W' := by
  have HS := Lib.hid (sto_new W (max ev 1) (max mo 1) (by omega) (by omega) f)
  have HB := Lib.hid (((Below.refl W.heap.size W).alloc (Nat.le_refl _) (.map #[] 0)).alloc (by rw [World.size_alloc]; omega) (.cells #[.int .i64 (max ev 1), .int .i64 (max mo 1), .slice none 0 0, .map (some W.heap.size)] soT))
  have hmm := @run_makeMap Try.prog
  go_enter Try.func7, Try.ntmps7
  go_wp2_with fail
  go_ret
  exact ⟨rfl, HS.out, HB.out⟩
set_option maxHeartbeats 1000000 in
theorem places_calls (W : World) (B s m : Nat) (v : Value) (ev mo : Int) (pl : List Int) (f : Int → StateD) (n : Nat) (h : Sto W B s m v ev mo pl f n) (hn : n ≤ 1000000) :
    Calls Try.prog 10 #[.pointer (some ⟨s, 0, none⟩)] W fun r W' => ∃ v', r = .returned v' ∧ OwnI W' W.heap.size v' pl ∧ Below W.heap.size W W' := by
  obtain ⟨⟨y0, y1, y2, y3⟩, _⟩ := so_cells h.box
  obtain ⟨a, c, rfl, hi⟩ := own_ints h.row
  have hln := h.ln
  have HI := Lib.hid hi
  clear h hi
  have hcl : Hid (Calls Try.prog 20 #[.slice a pl.length c] W fun r W' => ∃ v', r = .returned v' ∧ OwnI W' W.heap.size v' pl ∧ Below W.heap.size W W') := by
    show Calls _ _ _ _ _
    obtain ⟨b, o, hc, _⟩ := HI.out.at (P := Try.prog)
    rcases a with _ | ad
    · refine (Try.slices_Clone_int_nil pl.length c W).mono ?_
      rintro r w ⟨rfl, rfl⟩
      obtain ⟨_, _, _, b2, o2, h4, _⟩ := HI.out
      have h0 : pl = [] := by
        rcases h4 with h4 | h4
        · exact List.eq_nil_of_length_eq_zero h4
        · cases h4
      subst h0
      exact ⟨_, rfl, World.ownsRow_nil _ _ _ _, Below.refl _ _⟩
    · by_cases h0 : pl.length = 0
      · rw [h0]
        refine (Try.slices_Clone_int_zero ad c W).mono ?_
        rintro r w ⟨v', rfl, ho, _, hb⟩
        obtain rfl : pl = [] := List.eq_nil_of_length_eq_zero h0
        exact ⟨v', rfl, ho, hb⟩
      · obtain ⟨h1, h2, h3, b2, o2, h4, h5⟩ := HI.out
        obtain rfl : ad = ⟨b2, o2, none⟩ := by
          rcases h4 with h4 | h4
          · exact absurd h4 h0
          · exact Option.some.inj h4
        refine (Try.slices_Clone_int b2 o2 pl.length c pl W (Nat.le_refl _) (by omega) (fun j hj => by
          have := h5 j hj
          rw [Nat.mul_one] at this
          rw [List.getD_eq_getElem?_getD, List.getElem?_eq_getElem hj]
          exact this)).mono ?_
        rintro r w ⟨v', rfl, ho, _, hb⟩
        rw [List.take_length] at ho
        exact ⟨v', rfl, ho, hb⟩
  go_enter Try.func10, Try.ntmps10
  go_wp2_with fail
  refine hcl.out.mono ?_
  rintro r w1 ⟨v', rfl, ho, hb⟩
  have HO := Lib.hid ho
  have HB := Lib.hid hb
  clear ho hb
  go_wp2_with fail
  go_ret
  exact ⟨_, rfl, HO.out, HB.out⟩
end Go.Proofs.Ytmhofdoifgfjfaa
