/-
  Store: the reference, walked: New, Near. Conditions: as each contract says.
-/
import Derived.Test.YtmhofdoifgfjfaaSoAt
set_option linter.unusedVariables false
set_option maxRecDepth 100000
namespace Go.Proofs.Ytmhofdoifgfjfaa
open Go.RowKit Base

abbrev rfT : TypeId := 52
theorem cell3 {w : World} {b : Nat} {x y z : Value} {t : TypeId} (h : w.heap[b]? = some (.cells #[x, y, z] t)) : (w.cell? ⟨b, 0, none⟩ = some x ∧ w.cell? ⟨b, 1, none⟩ = some y ∧ w.cell? ⟨b, 2, none⟩ = some z) ∧ w.frozen? ⟨b, 0, none⟩ = false ∧ w.frozen? ⟨b, 1, none⟩ = false ∧ w.frozen? ⟨b, 2, none⟩ = false := by
  refine ⟨⟨?_, ?_, ?_⟩, ?_, ?_, ?_⟩ <;> simp [World.cell?, World.frozen?, h]
theorem und_rf : (Try.prog.underlying rfT).map TypeDesc.isRow = some true := by kernel_rfl
theorem info_rf : (Try.prog.info? rfT).map (fun i => i.size) = some 3 := by kernel_rfl
set_option maxHeartbeats 1000000 in
theorem ref_new_calls (W : World) (ev0 mo0 : Int) : Calls Try.prog 12 #[.int .i64 ev0, .int .i64 mo0] W fun r W' => r = .returned (.agg #[.int .i64 (max ev0 1), .int .i64 (max mo0 1), .slice none 0 0]) ∧ Below W.heap.size W W' := by
  have hb : ∀ x y z, Below W.heap.size W (W.alloc (.cells #[x, y, z] rfT)) := fun x y z => (Below.refl W.heap.size W).alloc (Nat.le_refl _) _
  have HB := Lib.hid hb
  clear hb
  by_cases h1 : ev0 < 1
  · by_cases h2 : mo0 < 1
    · have e1 : max ev0 1 = 1 := by omega
      have e2 : max mo0 1 = 1 := by omega
      rw [e1, e2]
      have u1 : decide (ev0 < 1) = true := decide_eq_true h1
      have u2 : decide (mo0 < 1) = true := decide_eq_true h2
      clear e1 e2
      go_enter Try.func12, Try.ntmps12
      go_wp2_with fail
      refine bodyPost_ret (results_cell1 rfl _ _ _ W.heap.size (.agg #[.int .i64 1, .int .i64 1, .slice none 0 0]) rfl (loadv_cut (us := [.int .i64 1, .int .i64 1, .slice none 0 0]) (heap_alloc_new W _) und_rf info_rf)) rfl ?_
      exact ⟨rfl, HB.out _ _ _⟩
    · have e1 : max ev0 1 = 1 := by omega
      have e2 : max mo0 1 = mo0 := by omega
      rw [e1, e2]
      have u1 : decide (ev0 < 1) = true := decide_eq_true h1
      have u2 : decide (mo0 < 1) = false := decide_eq_false h2
      clear e1 e2
      go_enter Try.func12, Try.ntmps12
      go_wp2_with fail
      refine bodyPost_ret (results_cell1 rfl _ _ _ W.heap.size (.agg #[.int .i64 1, .int .i64 mo0, .slice none 0 0]) rfl (loadv_cut (us := [.int .i64 1, .int .i64 mo0, .slice none 0 0]) (heap_alloc_new W _) und_rf info_rf)) rfl ?_
      exact ⟨rfl, HB.out _ _ _⟩
  · by_cases h2 : mo0 < 1
    · have e1 : max ev0 1 = ev0 := by omega
      have e2 : max mo0 1 = 1 := by omega
      rw [e1, e2]
      have u1 : decide (ev0 < 1) = false := decide_eq_false h1
      have u2 : decide (mo0 < 1) = true := decide_eq_true h2
      clear e1 e2
      go_enter Try.func12, Try.ntmps12
      go_wp2_with fail
      refine bodyPost_ret (results_cell1 rfl _ _ _ W.heap.size (.agg #[.int .i64 ev0, .int .i64 1, .slice none 0 0]) rfl (loadv_cut (us := [.int .i64 ev0, .int .i64 1, .slice none 0 0]) (heap_alloc_new W _) und_rf info_rf)) rfl ?_
      exact ⟨rfl, HB.out _ _ _⟩
    · have e1 : max ev0 1 = ev0 := by omega
      have e2 : max mo0 1 = mo0 := by omega
      rw [e1, e2]
      have u1 : decide (ev0 < 1) = false := decide_eq_false h1
      have u2 : decide (mo0 < 1) = false := decide_eq_false h2
      clear e1 e2
      go_enter Try.func12, Try.ntmps12
      go_wp2_with fail
      refine bodyPost_ret (results_cell1 rfl _ _ _ W.heap.size (.agg #[.int .i64 ev0, .int .i64 mo0, .slice none 0 0]) rfl (loadv_cut (us := [.int .i64 ev0, .int .i64 mo0, .slice none 0 0]) (heap_alloc_new W _) und_rf info_rf)) rfl ?_
      exact ⟨rfl, HB.out _ _ _⟩
/-- The last place that is not behind, going on from what stood so far. -/
def nearR (p : Int) (l : List Int) : Int := l.foldl (fun b x => if x ≤ p then x else b) (-1)
theorem nearR_snoc (p : Int) (l : List Int) (x : Int) : nearR p (l ++ [x]) = if x ≤ p then x else nearR p l := by unfold nearR; rw [List.foldl_append]; rfl
theorem nearB_snoc {r : List Int} {x : Int} (h : Up (r ++ [x])) (p : Int) : nearB (r ++ [x]) p = if x ≤ p then x else nearB r p := by
  have hx : ∀ z ∈ r, z < x := fun z hz => (List.pairwise_append.1 h).2.2 z hz x (by simp)
  by_cases hle : x ≤ p
  · have e : uptoN (r ++ [x]) p = r.length + 1 := by
      unfold uptoN
      rw [List.countP_append, List.countP_eq_length.2 (fun z hz => by have := hx z hz; simp; omega), List.countP_singleton, if_pos (by simpa using hle)]
    rw [if_pos hle]
    unfold nearB
    rw [e, if_neg (by omega), Nat.add_sub_cancel, List.getD_eq_getElem?_getD, List.getElem?_append_right (Nat.le_refl _), Nat.sub_self]
    rfl
  · have e : uptoN (r ++ [x]) p = uptoN r p := by
      unfold uptoN
      rw [List.countP_append, List.countP_singleton, if_neg (by simpa using hle), Nat.add_zero]
    have hl : uptoN r p ≤ r.length := List.countP_le_length
    rw [if_neg hle]
    unfold nearB
    rw [e]
    split
    · rfl
    · rename_i h0
      rw [List.getD_eq_getElem?_getD, List.getD_eq_getElem?_getD, List.getElem?_append_left (by omega)]
theorem nearR_eq {l : List Int} (h : Up l) (p : Int) : nearR p l = nearB l p := by
  have : ∀ k, k ≤ l.length → nearR p (l.take k) = nearB (l.take k) p := by
    intro k
    induction k with
    | zero => intro _; rfl
    | succ k ih =>
      intro hk
      have hu : Up (l.take (k + 1)) := h.sublist (List.take_sublist _ _)
      rw [List.take_succ_eq_append_getElem (by omega)] at hu ⊢
      rw [nearR_snoc, nearB_snoc hu, ih (by omega)]
  have h2 := this l.length (Nat.le_refl _)
  rwa [List.take_length] at h2
set_option maxHeartbeats 1000000 in
theorem ref_near_calls (W : World) (ev mo : Value) (a : Option Addr) (c : Nat) (pl : List Int) (p : Int) (h : Ints .i64 W a pl.length c pl) (hu : Up pl) (hl : pl.length ≤ 1000000) (h1 : ev.oneCell' = true) (h2 : mo.oneCell' = true) :
    Calls Try.prog 14 #[.agg #[ev, mo, .slice a pl.length c], .int .i64 p] W fun r W' => r = .returned (.int .i64 (nearB pl p)) ∧ Below W.heap.size W W' := by
  rw [← nearR_eq hu]
  have hb := (Below.refl W.heap.size W).alloc (Nat.le_refl _) (.cells #[ev, mo, .slice a pl.length c] rfT)
  have hk := heap_alloc_new W (.cells #[ev, mo, .slice a pl.length c] rfT)
  obtain ⟨w1, hw1⟩ : ∃ w1, W.alloc (.cells #[ev, mo, .slice a pl.length c] rfT) = w1 := ⟨_, rfl⟩
  obtain ⟨B, hB⟩ : ∃ B, W.heap.size = B := ⟨_, rfl⟩
  rw [hw1, hB] at hk
  rw [hw1] at hb
  obtain ⟨⟨y0, y1, y2⟩, _⟩ := cell3 hk
  obtain ⟨bb, o, hc, hi⟩ := at_ints (h.below (stable_intAt _) hb)
  have HW := Lib.hid hw1
  have HBe := Lib.hid hB
  have HBl : Hid (Below B W w1) := by show Below B W w1; rw [← hB]; exact hb
  have HBs : Hid (B ≤ w1.heap.size) := by have := hb.size; show _ ≤ _; omega
  have HC := Lib.hid hc
  have HI := Lib.hid hi
  have HY := Lib.hid y2
  clear hb hk hw1 hc hi h hu y0 y1 y2
  go_enter Try.func14, Try.ntmps14
  go_upto_region 1 with fail
  rw [HW.out]
  go_wp2_with fail
  go_loopw [5, 6] (fun v5 v6 wr => ∃ k : Nat, k ≤ pl.length ∧ v6 = .int .i64 (k : Int) ∧ v5 = .int .i64 (nearR p (pl.take k)) ∧ Below w1.heap.size w1 wr) (fun _ v6 _ => pl.length - (intOf v6).toNat)
  case atStart => exact ⟨0, Nat.zero_le _, rfl, rfl, Below.refl _ _⟩
  case round =>
    obtain ⟨k, hk, rfl, rfl, hbr⟩ := hrel
    have HBr := Lib.hid hbr
    have y2 := cell_below hbr (Nat.le_refl _) HY.out
    by_cases hlt : k < pl.length
    · have e0 := cell_below hbr (Nat.le_refl _) (HC.out k hlt)
      have x0 := fun kd w' => HI.out kd k w' hlt
      have HT := Lib.hid (List.take_succ_eq_append_getElem hlt)
      have u3 : decide (k < pl.length) = true := decide_eq_true (by omega)
      have u1 : decide ((k : Int) < (pl.length : Int)) = true := decide_eq_true (by omega)
      have u2 : (k : Int) < (pl.length : Int) := by omega
      clear hbr
      generalize pl[k] = x at *
      have HN := Lib.hid (nearR_snoc p (pl.take k) x)
      generalize nearR p (pl.take k) = z at *
      by_cases hx : x ≤ p
      · rw [if_pos hx] at HN
        have v1 : decide (x ≤ p) = true := decide_eq_true hx
        go_wp2_with fail
        go_roundw
        case rel => exact ⟨k + 1, by omega, by go_num, by rw [HT.out, HN.out], HBr.out⟩
        case measure => simp [intOf]; omega
      · rw [if_neg hx] at HN
        have v1 : decide (x ≤ p) = false := decide_eq_false hx
        go_wp2_with fail
        go_roundw
        case rel => exact ⟨k + 1, by omega, by go_num, by rw [HT.out, HN.out], HBr.out⟩
        case measure => simp [intOf]; omega
    · obtain rfl : k = pl.length := by omega
      have u3 : decide (pl.length < pl.length) = false := decide_eq_false (by omega)
      have u1 : decide ((pl.length : Int) < (pl.length : Int)) = false := decide_eq_false (by omega)
      have u2 : ¬ ((pl.length : Int) < (pl.length : Int)) := by omega
      rw [List.take_length]
      clear hbr
      go_wp2_with fail
      go_ret
      exact ⟨rfl, HBl.out.trans (HBr.out.mono HBs.out)⟩
end Go.Proofs.Ytmhofdoifgfjfaa
