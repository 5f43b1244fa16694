/-
  Store: gap, compare, New, Places, the law's at. Conditions: as each contract says.
-/
import Derived.Test.YtmhofdoifgfjfaaSoMem
import Derived.Test.YtmhofdoifgfjfaaShelf
import Derived.BigQuiet
set_option linter.unusedVariables false
set_option maxRecDepth 100000
namespace Go.Proofs.Ytmhofdoifgfjfaa
open Go.RowKit Base

theorem drewN_below (w : World) (n : Nat) : Below w.heap.size w (w.drewN n) := ⟨rfl, rfl, rfl, Nat.le_refl _, fun _ _ => rfl⟩
theorem at_ints {w : World} {a : Option Addr} {n cap : Nat} {l : List Int} (h : Ints .i64 w a n cap l) : ∃ b off, (∀ k (hk : k < l.length), w.cell? ⟨b, off + k, none⟩ = some (.int .i64 l[k])) ∧
    ∀ (kd : IntKind) (k : Nat) (w' : World), k < n → (Instr.indexAt 41 (.slice a n cap) (.int kd (k : Int))).run Try.prog w' = .ok (.pointer (some ⟨b, off + k, none⟩)) w' := by
  obtain ⟨i, hi, _, hs, _⟩ := info_parts zinfo_i64
  obtain ⟨b, off, h1, h2⟩ := h.at (P := Try.prog)
  exact ⟨b, off, fun k hk => by simpa [intAt] using h1 k hk, fun kd k w' hk => by simpa using h2 41 3 i Try.underlying41 hi hs kd k w' hk⟩
theorem so_cells {w : World} {s : Nat} {c0 c1 c2 c3 : Value} (h : w.heap[s]? = some (.cells #[c0, c1, c2, c3] soT)) :
    (w.cell? ⟨s, 0, none⟩ = some c0 ∧ w.cell? ⟨s, 1, none⟩ = some c1 ∧ w.cell? ⟨s, 2, none⟩ = some c2 ∧ w.cell? ⟨s, 3, none⟩ = some c3) ∧ w.frozen? ⟨s, 0, none⟩ = false ∧ w.frozen? ⟨s, 1, none⟩ = false ∧ w.frozen? ⟨s, 2, none⟩ = false ∧ w.frozen? ⟨s, 3, none⟩ = false := by
  refine ⟨⟨?_, ?_, ?_, ?_⟩, ?_, ?_, ?_, ?_⟩ <;> simp [World.cell?, World.frozen?, h]
set_option maxHeartbeats 1000000 in
theorem gap_calls (W : World) (s : Nat) (c0 c1 c3 : Value) (a : Option Addr) (n c : Nat) (q : List Int) (i : Nat) (hb : W.heap[s]? = some (.cells #[c0, c1, .slice a n c, c3] soT)) (hq : Ints .i64 W a n c q) (hl : ∀ x ∈ q, 0 ≤ x ∧ x ≤ 1000000) (h1 : 1 ≤ i) (h2 : i < n) (hn : n ≤ 1000000) :
    Calls Try.prog 50 #[.pointer (some ⟨s, 0, none⟩), .int .i64 (i : Int)] W fun r W' => r = .returned (.int .i64 (gapL q i)) ∧ Below W.heap.size W W' := by
  obtain ⟨⟨y0, y1, y2, y3⟩, _⟩ := so_cells hb
  obtain rfl := hq.1
  obtain ⟨b, o, hc, hi⟩ := at_ints hq
  have HB0 := Lib.hid (Below.refl W.heap.size W)
  obtain ⟨j, rfl⟩ : ∃ j, i = j + 1 := ⟨i - 1, by omega⟩
  have e0 := hc j (by omega)
  have e1 := hc (j + 1) h2
  have i0 := fun kd w' => hi kd j w' (by omega)
  have i1 := fun kd w' => hi kd (j + 1) w' h2
  have l0 := hl q[j] (List.getElem_mem _)
  have l1 := hl q[j + 1] (List.getElem_mem _)
  have g0 : q.getD j 0 = q[j] := by rw [List.getD_eq_getElem?_getD, List.getElem?_eq_getElem (by omega)]; rfl
  have g1 : q.getD (j + 1) 0 = q[j + 1] := by rw [List.getD_eq_getElem?_getD, List.getElem?_eq_getElem h2]; rfl
  by_cases he : j + 1 + 1 = q.length
  · have HG : Hid (gapL q (j + 1) = q[j + 1] - q[j]) := by
      show gapL _ _ = _
      unfold gapL
      rw [if_pos he, Nat.add_sub_cancel, g1, g0]
    generalize q[j] = z0 at *
    generalize q[j + 1] = z1 at *
    rw [HG.out]
    clear hq hl hc hi g0 g1 hb
    push_cast at i1 ⊢
    have e5 : (j : Int) + 1 - 1 = (j : Int) := by omega
    have u1 : decide ((j : Int) + 1 + 1 = (q.length : Int)) = true := decide_eq_true (by omega)
    have u2 : (j : Int) + 1 + 1 = (q.length : Int) := by omega
    have u3 : (((j : Int) + 1 + 1) == (q.length : Int)) = true := by rw [beq_iff_eq]; exact u2
    generalize q.length = L at *
    go_enter Try.func50, Try.ntmps50
    go_wp2_with fail
    go_quiet (fail)
    go_wp2_with fail
    go_ret
    exact ⟨rfl, drewN_below _ _⟩
  · have h3 : j + 1 + 1 < q.length := by omega
    have e2 := hc (j + 1 + 1) h3
    have i2 := fun kd w' => hi kd (j + 1 + 1) w' h3
    have l2 := hl q[j + 1 + 1] (List.getElem_mem _)
    have g2 : q.getD (j + 1 + 1) 0 = q[j + 1 + 1] := by rw [List.getD_eq_getElem?_getD, List.getElem?_eq_getElem h3]; rfl
    have HG : Hid (gapL q (j + 1) = q[j + 1 + 1] - q[j]) := by
      show gapL _ _ = _
      unfold gapL
      rw [if_neg he, Nat.add_sub_cancel, g2, g0]
    generalize q[j] = z0 at *
    generalize q[j + 1] = z1 at *
    generalize q[j + 1 + 1] = z2 at *
    rw [HG.out]
    clear hq hl hc hi g0 g1 g2 hb
    push_cast at i1 i2 ⊢
    have e5 : (j : Int) + 1 - 1 = (j : Int) := by omega
    have u1 : decide ((j : Int) + 1 + 1 = (q.length : Int)) = false := decide_eq_false (by omega)
    have u2 : ¬ (j : Int) + 1 + 1 = (q.length : Int) := by omega
    have u3 : (((j : Int) + 1 + 1) == (q.length : Int)) = false := by rw [beq_eq_false_iff_ne]; exact u2
    generalize q.length = L at *
    go_enter Try.func50, Try.ntmps50
    go_wp2_with fail
    go_quiet (fail)
    go_wp2_with fail
    go_ret
    exact ⟨rfl, drewN_below _ _⟩

set_option maxHeartbeats 1000000 in
theorem nan_calls (W : World) (x : Int) : Calls Try.prog 35 #[.int .i64 x] W fun r W' => r = .returned (.bool false) ∧ Below W.heap.size W W' := by
  have h : (x != x) = false := by simp
  have HB0 := Lib.hid (Below.refl W.heap.size W)
  go_enter Try.func35, Try.ntmps35
  go_wp2_with fail
  go_ret
  exact ⟨rfl, HB0.out⟩
def cmpI (x y : Int) : Int := if x < y then -1 else if y < x then 1 else 0
set_option maxHeartbeats 1000000 in
theorem cmp_calls (W : World) (x y : Int) : Calls Try.prog 49 #[.int .i64 x, .int .i64 y] W fun r W' => r = .returned (.int .i64 (cmpI x y)) ∧ Below W.heap.size W W' := by
  go_enter Try.func49, Try.ntmps49
  go_wp2_with fail
  refine (nan_calls W x).mono ?_
  rintro r w1 ⟨rfl, hb1⟩
  have HB1 := Lib.hid hb1
  clear hb1
  go_wp2_with fail
  refine (nan_calls w1 y).mono ?_
  rintro r w2 ⟨rfl, hb2⟩
  have HB2 := Lib.hid (HB1.out.trans (hb2.mono HB1.out.size))
  clear hb2
  by_cases h1 : x < y
  · have hc : cmpI x y = -1 := by unfold cmpI; rw [if_pos h1]
    have u : decide (x < y) = true := decide_eq_true h1
    go_wp2_with fail
    go_ret
    exact ⟨by rw [hc]; rfl, HB2.out⟩
  · have u : decide (x < y) = false := decide_eq_false h1
    by_cases h2 : y < x
    · have hc : cmpI x y = 1 := by unfold cmpI; rw [if_neg h1, if_pos h2]
      have u2 : decide (y < x) = true := decide_eq_true h2
      go_wp2_with fail
      go_ret
      exact ⟨by rw [hc]; rfl, HB2.out⟩
    · have hc : cmpI x y = 0 := by unfold cmpI; rw [if_neg h1, if_neg h2]
      have u2 : decide (y < x) = false := decide_eq_false h2
      go_wp2_with fail
      go_ret
      exact ⟨by rw [hc]; rfl, HB2.out⟩
/-- What 'gap' needs to know. -/
structure GapI (W : World) (s : Nat) (c0 c1 c3 : Value) (a : Option Addr) (n c : Nat) (q : List Int) : Prop where
  box : W.heap[s]? = some (.cells #[c0, c1, .slice a n c, c3] soT)
  row : Ints .i64 W a n c q
  lo : ∀ x ∈ q, 0 ≤ x ∧ x ≤ 1000000
  le : n ≤ 1000000
theorem GapI.below {W W' : World} {s : Nat} {c0 c1 c3 : Value} {a : Option Addr} {n c : Nat} {q : List Int} (h : GapI W s c0 c1 c3 a n c q) (hb : Below W.heap.size W W') : GapI W' s c0 c1 c3 a n c q :=
  ⟨(hb.block s (Array.getElem?_eq_some_iff.1 h.box).1).trans h.box, h.row.below (stable_intAt _) hb, h.lo, h.le⟩
set_option maxHeartbeats 1000000 in
theorem compare_calls (W : World) (s : Nat) (c0 c1 c3 : Value) (a : Option Addr) (n c : Nat) (q : List Int) (h : GapI W s c0 c1 c3 a n c q) (i k : Nat) (hi : 1 ≤ i ∧ i < n) (hk : 1 ≤ k ∧ k < n) :
    Calls Try.prog 29 #[.pointer (some ⟨s, 0, none⟩), .int .i64 (i : Int), .int .i64 (k : Int)] W fun r W' => r = .returned (.int .i64 (cmpI (gapL q i) (gapL q k))) ∧ Below W.heap.size W W' := by
  have H := Lib.hid h
  clear h
  go_enter Try.func29, Try.ntmps29
  go_wp2_with fail
  refine (gap_calls W s c0 c1 c3 a n c q i H.out.box H.out.row H.out.lo hi.1 hi.2 H.out.le).mono ?_
  rintro r w1 ⟨rfl, hb1⟩
  have HB1 := Lib.hid hb1
  have H1 := Lib.hid (H.out.below hb1)
  clear hb1
  go_wp2_with fail
  refine (gap_calls w1 s c0 c1 c3 a n c q k H1.out.box H1.out.row H1.out.lo hk.1 hk.2 H1.out.le).mono ?_
  rintro r w2 ⟨rfl, hb2⟩
  have HB2 := Lib.hid (HB1.out.trans (hb2.mono HB1.out.size))
  clear hb2
  go_wp2_with fail
  refine (cmp_calls w2 _ _).mono ?_
  rintro r w3 ⟨rfl, hb3⟩
  have HB3 := Lib.hid (HB2.out.trans (hb3.mono HB2.out.size))
  clear hb3
  go_wp2_with fail
  go_ret
  exact ⟨rfl, HB3.out⟩
abbrev oneTo (k : Nat) : List Int := (List.range k).map fun (i : Nat) => (i : Int) + 1
theorem bestTo_succ (q : List Int) (k : Nat) : bestTo q (k + 1) = if gapL q (k + 2) < gapL q (bestTo q k) then k + 2 else bestTo q k := rfl
theorem cmp_neg (x y : Int) : (cmpI x y < 0) ↔ x < y := by
  unfold cmpI
  split
  · simp; assumption
  · split <;> simp <;> omega
set_option maxHeartbeats 1000000 in
theorem min_calls (W : World) (s : Nat) (c0 c1 c3 : Value) (a : Option Addr) (n c : Nat) (q : List Int) (h : GapI W s c0 c1 c3 a n c q) (b : Option Addr) (k d : Nat) (hm : Ints .i64 W b (k + 1) d (oneTo (k + 1))) (hk : k + 1 < n) :
    Calls Try.prog 28 #[.slice b (k + 1) d, .func (.func 29) #[.pointer (some ⟨s, 0, none⟩)] #[]] W fun r W' => r = .returned (.int .i64 (bestTo q k : Int)) ∧ Below W.heap.size W W' := by
  obtain ⟨bb, o, hc, hi⟩ := at_ints hm
  have hc' : ∀ j, j < k + 1 → ∀ w', Below W.heap.size W w' → w'.cell? ⟨bb, o + j, none⟩ = some (.int .i64 ((j : Int) + 1)) := fun j hj w' hb => by
    have h1 := hc j (by simpa using hj)
    rw [List.getElem_map, List.getElem_range] at h1
    exact cell_below hb (Nat.le_refl _) h1
  have HC := Lib.hid hc'
  have HI := Lib.hid hi
  have H := Lib.hid h
  have hn := h.le
  have z0 : W.cell? ⟨bb, o, none⟩ = some (.int .i64 1) := HC.out 0 (by omega) W (Below.refl _ _)
  have x0 : ∀ (kd : IntKind) (w' : World), (Instr.indexAt 41 (.slice b (k + 1) d) (.int kd 0)).run Try.prog w' = .ok (.pointer (some ⟨bb, o, none⟩)) w' := fun kd w' => hi kd 0 w' (by omega)
  have u1 : decide ((k : Int) + 1 < 1) = false := decide_eq_false (by omega)
  have u2 : ¬ ((k : Int) + 1 < 1) := by omega
  clear hc hi hc' hm h
  go_enter Try.func28, Try.ntmps28
  go_wp2_with fail
  clear z0 x0 u1 u2
  go_loopw [5, 6] (fun v5 v6 wr => ∃ j : Nat, j ≤ k ∧ v6 = .int .i64 ((j : Int) + 1) ∧ v5 = .int .i64 (bestTo q j : Int) ∧ Below W.heap.size W wr) (fun _ v6 _ => k + 1 - (intOf v6).toNat)
  case atStart => exact ⟨0, Nat.zero_le _, rfl, rfl, Below.refl _ _⟩
  case round =>
    obtain ⟨j, hj, rfl, rfl, hbr⟩ := hrel
    have HBr := Lib.hid hbr
    by_cases hlt : j < k
    · have z0 := HC.out (j + 1) (by omega) wr hbr
      have x0 := fun kd w' => HI.out kd (j + 1) w' (by omega)
      push_cast at z0 x0
      have u1 : decide ((j : Int) + 1 < (k : Int) + 1) = true := decide_eq_true (by omega)
      have u2 : (j : Int) + 1 < (k : Int) + 1 := by omega
      have u3 : decide (j + 1 < k + 1) = true := decide_eq_true (by omega)
      have hbj := bestTo_ge q j
      have hcm := (compare_calls wr s c0 c1 c3 a n c q (H.out.below hbr) (j + 2) (bestTo q j) ⟨by omega, by omega⟩ ⟨hbj.1, by omega⟩)
      rw [show ((j + 2 : Nat) : Int) = (j : Int) + 2 by omega] at hcm
      have HCm := Lib.hid hcm
      clear hbr hcm
      have e2 : (j : Int) + 1 + 1 = ((j + 2 : Nat) : Int) := by omega
      go_wp2_with fail
      refine HCm.out.mono ?_
      rintro r w1 ⟨rfl, hb1⟩
      have HB1 := Lib.hid (HBr.out.trans (hb1.mono HBr.out.size))
      have z1 := HC.out (j + 1) (by omega) w1 HB1.out
      push_cast at z1
      have HT := Lib.hid (bestTo_succ q j)
      clear hb1 z0
      by_cases hg : gapL q (j + 2) < gapL q (bestTo q j)
      · rw [if_pos hg] at HT
        have v2 := (cmp_neg (gapL q (j + 2)) (gapL q (bestTo q j))).2 hg
        have v1 : decide (cmpI (gapL q (j + 2)) (gapL q (bestTo q j)) < 0) = true := decide_eq_true v2
        generalize cmpI (gapL q (j + 2)) (gapL q (bestTo q j)) = cv at *
        go_wp2_with fail
        go_roundw
        case rel => exact ⟨j + 1, by omega, by go_num, by rw [HT.out]; go_num, HB1.out⟩
        case measure => simp [intOf]; omega
      · rw [if_neg hg] at HT
        have v2 : ¬ cmpI (gapL q (j + 2)) (gapL q (bestTo q j)) < 0 := fun h => hg ((cmp_neg _ _).1 h)
        have v1 : decide (cmpI (gapL q (j + 2)) (gapL q (bestTo q j)) < 0) = false := decide_eq_false v2
        generalize cmpI (gapL q (j + 2)) (gapL q (bestTo q j)) = cv at *
        go_wp2_with fail
        go_roundw
        case rel => exact ⟨j + 1, by omega, by go_num, by rw [HT.out], HB1.out⟩
        case measure => simp [intOf]; omega
    · obtain rfl : j = k := by omega
      have u1 : decide ((j : Int) + 1 < (j : Int) + 1) = false := decide_eq_false (by omega)
      have u2 : ¬ ((j : Int) + 1 < (j : Int) + 1) := by omega
      have u3 : decide (j + 1 < j + 1) = false := decide_eq_false (by omega)
      go_wp2_with fail
      go_ret
      exact ⟨rfl, HBr.out⟩
end Go.Proofs.Ytmhofdoifgfjfaa
