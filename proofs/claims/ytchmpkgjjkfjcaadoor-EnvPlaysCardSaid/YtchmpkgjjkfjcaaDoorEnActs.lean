/-
  What is done, in rows; whether they are few. Conditions: as each law says.
-/
import Derived.Test.YtchmpkgjjkfjcaaDoorEnBox
set_option linter.unusedVariables false
set_option maxRecDepth 100000
namespace Go.Proofs.YtchmpkgjjkfjcaaDoor
open Go.RowKit Base

abbrev Act5 := Int × Nm × Nm × Bool × Int
def actC5 (x : Act5) : List Value := [.int .u8 x.1, .string (str x.2.1), .string (str x.2.2.1), .bool x.2.2.2.1, .int .i64 x.2.2.2.2]
abbrev Acts := RowOf (Ap.cellsAt actC5) 5
theorem info_act : (Tryd.prog.info? 31).map (fun i => i.size) = some 5 := by kernel_rfl
theorem acts_at {w : World} {a : Option Addr} {n cap : Nat} {L : List Act5} (h : Acts w a n cap L) : ∃ b off, (∀ k (hk : k < L.length), w.cell? ⟨b, off + k * 5, none⟩ = some (.int .u8 L[k].1) ∧ w.cell? ⟨b, off + k * 5 + 1, none⟩ = some (.string (str L[k].2.1)) ∧ w.cell? ⟨b, off + k * 5 + 2, none⟩ = some (.string (str L[k].2.2.1)) ∧ w.cell? ⟨b, off + k * 5 + 3, none⟩ = some (.bool L[k].2.2.2.1) ∧ w.cell? ⟨b, off + k * 5 + 4, none⟩ = some (.int .i64 L[k].2.2.2.2)) ∧
    ∀ (t : TypeId) (ht : Tryd.prog.underlying t = some (.slice 31)) (kd : IntKind) (k : Nat) (w' : World), k < n → (Instr.indexAt t (.slice a n cap) (.int kd (k : Int))).run Tryd.prog w' = .ok (.pointer (some ⟨b, off + k * 5, none⟩)) w' := by
  obtain ⟨i0, hi, hi2⟩ := Option.map_eq_some_iff.1 info_act
  obtain ⟨b, off, h1, h2⟩ := h.at (P := Tryd.prog)
  exact ⟨b, off, fun k hk => ⟨h1 k hk 0 _ rfl, h1 k hk 1 _ rfl, h1 k hk 2 _ rfl, h1 k hk 3 _ rfl, h1 k hk 4 _ rfl⟩, fun t ht kd k w' hk => h2 t 31 i0 ht hi hi2 kd k w' hk⟩
def okA (q : Act5) : Bool := decide (q.2.1.length ≤ 30) && decide (q.2.2.1.length ≤ 60)
def fewB (l : List Act5) : Bool := l.all okA && decide (l.length ≤ 60)
theorem few_bad {l : List Act5} {k : Nat} (h : k < l.length) (hb : okA l[k] = false) : fewB l = false := by
  unfold fewB
  rw [List.all_eq_false.2 ⟨l[k], List.getElem_mem h, by rw [hb]; decide⟩]
  rfl
theorem few_step {l : List Act5} {k : Nat} (h : k < l.length) (h1 : (l.take k).all okA = true) (h2 : okA l[k] = true) : (l.take (k + 1)).all okA = true := by
  rw [List.take_add_one, List.getElem?_eq_getElem h, List.all_append, h1]
  simp [h2]
theorem few_all {l : List Act5} (h : (l.take l.length).all okA = true) : fewB l = decide (l.length ≤ 60) := by
  rw [List.take_length] at h
  unfold fewB
  rw [h]; rfl
set_option maxHeartbeats 4000000 in
theorem few_calls (w : World) (a : Option Addr) (n c : Nat) (l : List Act5) (h : Acts w a n c l) :
    Calls Tryd.prog 7 #[.slice a n c] w fun e w' => e = .returned (.bool (fewB l)) ∧ w' = w := by
  obtain rfl := h.1
  obtain ⟨b, off, hcs, hix⟩ := acts_at h
  have HCs := Lib.hid hcs
  have HIx := Lib.hid hix
  have HMax := Lib.hid (show l.length ≤ 9223372036854775807 by have h1 := h.2.1; have h2 := h.2.2.1; unfold maxLen at h2; omega)
  clear h hcs hix
  go_enter Tryd.func7, Tryd.ntmps7
  go_wp2_with fail
  go_loopw [3] (fun v3 wr => ∃ k : Nat, k ≤ l.length ∧ v3 = .int .i64 k ∧ Hid ((l.take k).all okA = true) ∧ wr = w) (fun v3 _ => l.length - (intOf v3).toNat)
  case atStart => exact ⟨0, Nat.zero_le _, rfl, Lib.hid rfl, rfl⟩
  case round =>
    obtain ⟨k, hk, rfl, HT, rfl⟩ := hrel
    by_cases hlt : k < l.length
    · have hx := fun W => HIx.out 22 Tryd.underlying22 .i64 k W hlt
      obtain ⟨x0, x1, x2, x3, x4⟩ := HCs.out k hlt
      have hmx : (l.length : Int) ≤ 9223372036854775807 := by have := HMax.out; omega
      have HBad := Lib.hid fun h => few_bad hlt h
      have HStep := Lib.hid fun h => few_step hlt HT.out h
      generalize l[k]'hlt = q at *
      have hs1 : (str q.2.1).size = q.2.1.length := rfl
      have hs2 : (str q.2.2.1).size = q.2.2.1.length := rfl
      have u3 : decide (k < l.length) = true := decide_eq_true (by omega)
      have u1 : decide ((k : Int) < (l.length : Int)) = true := decide_eq_true (by omega)
      have u2 : (k : Int) < (l.length : Int) := by omega
      by_cases h1 : q.2.1.length ≤ 30
      · have y1 : decide ((30 : Int) < (q.2.1.length : Int)) = false := decide_eq_false (by omega)
        by_cases h2 : q.2.2.1.length ≤ 60
        · have y2 : decide ((60 : Int) < (q.2.2.1.length : Int)) = false := decide_eq_false (by omega)
          have HN := Lib.hid (HStep.out (by unfold okA; rw [decide_eq_true h1, decide_eq_true h2]; rfl))
          clear HBad HStep h1 h2
          go_wp2_with fail
          go_roundw
          case rel => exact ⟨k + 1, by omega, by go_num, HN, trivial⟩
          case measure => simp [intOf]; omega
        · have y2 : decide ((60 : Int) < (q.2.2.1.length : Int)) = true := decide_eq_true (by omega)
          have HN := Lib.hid (HBad.out (by unfold okA; rw [decide_eq_false h2, Bool.and_false]))
          clear HBad HStep h1 h2
          go_wp2_with fail
          go_ret
          rw [HN.out]
          exact ⟨rfl, rfl⟩
      · have y1 : decide ((30 : Int) < (q.2.1.length : Int)) = true := decide_eq_true (by omega)
        have HN := Lib.hid (HBad.out (by unfold okA; rw [decide_eq_false h1]; rfl))
        clear HBad HStep h1
        go_wp2_with fail
        go_ret
        rw [HN.out]
        exact ⟨rfl, rfl⟩
    · obtain rfl : k = l.length := by omega
      have HN := Lib.hid (few_all HT.out)
      have u3 : decide (l.length < l.length) = false := decide_eq_false (by omega)
      have u1 : decide ((l.length : Int) < (l.length : Int)) = false := decide_eq_false (by omega)
      have u2 : ¬ ((l.length : Int) < (l.length : Int)) := by omega
      have hd : decide ((l.length : Int) ≤ 60) = decide (l.length ≤ 60) := by rw [Bool.eq_iff_iff]; simp; omega
      go_wp2_with fail
      go_ret
      rw [HN.out]
      first | exact ⟨rfl, rfl⟩ | (rw [← hd]; exact ⟨rfl, rfl⟩)
theorem few_sizes {l : List Act5} (h : fewB l = true) : l.length ≤ 60 ∧ ∀ k (hk : k < l.length), l[k].2.1.length ≤ 30 ∧ l[k].2.2.1.length ≤ 60 := by
  unfold fewB at h
  rw [Bool.and_eq_true, List.all_eq_true, decide_eq_true_eq] at h
  refine ⟨h.2, fun k hk => ?_⟩
  have := h.1 l[k] (List.getElem_mem hk)
  unfold okA at this
  rw [Bool.and_eq_true, decide_eq_true_eq, decide_eq_true_eq] at this
  exact this
end Go.Proofs.YtchmpkgjjkfjcaaDoor
