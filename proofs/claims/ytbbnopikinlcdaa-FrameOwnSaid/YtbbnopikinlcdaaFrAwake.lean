/-
  The document's examples of chapter 3: 'awake' answers true; whether rows are few. Conditions: the rows can be read.
-/
import Derived.Test.YtbbnopikinlcdaaFrScan
import Derived.Test.YtbbnopikinlcdaaFrWalks4
set_option linter.unusedVariables false
namespace Go.Proofs.Ytbbnopikinlcdaa
open Go.RowKit Base

/-- Few rows, and short ones. -/
def fewF (l : List (List UInt8)) : Bool := l.all (fun s => decide (s.length ≤ 600)) && decide (l.length ≤ 20)
theorem fewF_iff (l : List (List UInt8)) : fewF l = true ↔ (∀ s ∈ l, s.length ≤ 600) ∧ l.length ≤ 20 := by
  unfold fewF
  simp only [Bool.and_eq_true, List.all_eq_true, decide_eq_true_eq]
set_option maxHeartbeats 400000 in
set_option maxRecDepth 100000 in
theorem fr_few_calls (w : World) (a : Option Addr) (n cap : Nat) (l : List (List UInt8)) (h : ByteRows w a n cap l) :
    Calls Try.prog 42 #[.slice a n cap] w fun e w' => e = .returned (.bool (fewF l)) ∧ w = w' := by
  have hcap := h.2.2.1
  have hnc := h.2.1
  unfold maxLen at hcap
  obtain ⟨b, off, hrow, hidx⟩ := at_rows h
  have Hn := Lib.hid h.1
  have Hrow := Lib.hid hrow; clear hrow
  have Hidx := Lib.hid hidx; clear hidx h
  have HF : Hid (fewF l = (l.all (fun s => decide (s.length ≤ 600)) && decide (l.length ≤ 20))) := rfl
  go_enter Try.func42, Try.ntmps42
  go_wp2_with fail
  go_loop [3] (fun i => ∃ k : Nat, k ≤ n ∧ i = .int .i64 k ∧ ∀ s ∈ l.take k, s.length ≤ 600) (fun i => n - (intOf i).toNat)
  case atStart => exact ⟨0, Nat.zero_le _, rfl, by simp⟩
  case round =>
    obtain ⟨k, hk, rfl, hall⟩ := hrel
    have HA := Lib.hid hall; clear hall
    by_cases hlt : k < n
    · have hkl : k < l.length := by rw [← Hn.out]; exact hlt
      obtain ⟨ar, cr, hc, _⟩ := Hrow.out k hkl
      have hix := Hidx.out .i64 k w hlt
      have Hmem : Hid (l[k] ∈ l) := List.getElem_mem hkl
      have Hnext : Hid (l[k].length ≤ 600 → ∀ s ∈ l.take (k + 1), s.length ≤ 600) := by
        intro h s hs
        rw [List.take_succ_eq_append_getElem hkl] at hs
        rcases List.mem_append.1 hs with hs | hs
        · exact HA.out s hs
        · rw [List.mem_singleton.1 hs]; exact h
      generalize l[k]'hkl = s at *
      by_cases hbs : 600 < s.length
      · have hbs2 : decide ((600 : Int) < (s.length : Int)) = true := by simp; omega
        have H : Hid (fewF l = false) := by
          show _ = _
          rw [HF.out, Bool.and_eq_false_iff]
          left
          rw [List.all_eq_false]
          exact ⟨s, Hmem.out, by simp; omega⟩
        go_wp2_with fail
        go_ret
        exact ⟨by rw [H.out]; rfl, rfl⟩
      · have hbs2 : decide ((600 : Int) < (s.length : Int)) = false := by simp; omega
        have HN := Lib.hid (Hnext.out (by omega))
        go_wp2_with fail
        go_round
        case rel => exact ⟨k + 1, by omega, by go_num, HN.out⟩
        case measure => simp [intOf]; omega
    · obtain rfl : n = k := by omega
      have ht : l.take n = l := List.take_of_length_le (by rw [← Hn.out]; exact Nat.le_refl _)
      have H : Hid (fewF l = decide (n ≤ 20)) := by
        show _ = _
        rw [HF.out, Hn.out]
        have : (l.all fun s => decide (s.length ≤ 600)) = true := by
          rw [List.all_eq_true]
          intro s hs
          have := HA.out s (by rw [ht]; exact hs)
          simpa using this
        rw [this, Bool.true_and]
      clear ht
      by_cases h20 : n ≤ 20
      · have t1 : decide ((n : Int) ≤ 20) = true := by simp; omega
        have t2 : (n : Int) ≤ 20 := by omega
        have H2 : Hid (fewF l = true) := by show _ = _; rw [H.out]; simpa using h20
        go_wp2_with fail
        go_ret
        exact ⟨by rw [H2.out]; rfl, rfl⟩
      · have t1 : decide ((n : Int) ≤ 20) = false := by simp; omega
        have H2 : Hid (fewF l = false) := by show _ = _; rw [H.out]; simpa using h20
        go_wp2_with fail
        go_ret
        exact ⟨by rw [H2.out]; rfl, rfl⟩

theorem framesB_len {ls : List (List UInt8)} (h : ∀ s ∈ ls, s.length ≤ 600) : (framesB ls).length ≤ 614 * ls.length := by
  induction ls with
  | nil => exact Nat.le_refl _
  | cons l ls ih =>
    have h1 := ih (fun s hs => h s (List.mem_cons_of_mem _ hs))
    have h2 := h l (List.mem_cons_self ..)
    have h3 := num_len l.length (by unfold Lt64; omega)
    have e : framesB (l :: ls) = oneF l ++ framesB ls := rfl
    rw [e, List.length_append, oneF_len, List.length_cons]
    omega
/-- Scan, where it is known how many rows there are. -/
theorem frame_scan_at (w0 : World) (a : Option Addr) (n cap : Nat) (b : List UInt8) (hB : Bytes w0 a n cap b) (hs : n ≤ 100000000) (K : Nat) (hK : EndsF b K) :
    Calls Try.prog 44 #[.slice a n cap] w0 fun r w' => ∃ a' c' vs, r = .returned (.tuple #[.slice a' K c', .int .i64 ((stF b K).2 : Int), .int .i64 (endE3 b K)]) ∧
      w'.ownsRow w0.heap.size 22 1 (.slice a' K c') K vs ∧ OwnRows w' w0.heap.size vs (stF b K).1 ∧ Below w0.heap.size w0 w' := by
  refine (frame_scan_calls w0 a n cap b hB hs).mono ?_
  rintro r w' ⟨K', v, vs, hE, rfl, hrow, hvs, hb⟩
  obtain rfl := endsF_one hK hE
  obtain ⟨a', c', rfl, _, _, _, _⟩ := ownsRow_slice hrow
  exact ⟨a', c', vs, rfl, hrow, hvs, hb⟩

theorem aw_ends : EndsF (framesB [[97, 98], []]) 2 ∧ stF (framesB [[97, 98], []]) 2 = ([[97, 98], []], 12) ∧ endE3 (framesB [[97, 98], []]) 2 = 0 := by
  have h := endsF_frames [[97, 98], []] (by simp) [] (by rw [takeF_nil]; decide)
  rw [List.append_nil] at h
  have hl : (framesB [[97, 98], []]).length = 12 := by
    have e : framesB [[97, 98], []] = oneF [97, 98] ++ (oneF [] ++ []) := rfl
    rw [e, List.length_append, List.length_append, oneF_len, oneF_len, VarPlain.num_small (by decide), VarPlain.num_small (by decide)]
    rfl
  rw [hl] at h
  refine ⟨h.1, h.2, ?_⟩
  unfold endE3
  have h2 : stF (framesB [[97, 98], []]) 2 = ([[97, 98], []], 12) := h.2
  rw [h2, hl]
  rfl
theorem aw_take : takeF (framesB [[97, 98], []]) = ([97, 98], 7, 0) := by
  have e : framesB [[97, 98], []] = oneF [97, 98] ++ framesB [[]] := rfl
  rw [e, takeF_one _ (by simp), oneF_len, VarPlain.num_small (by decide)]
  rfl
theorem aw_len : (framesB [[97, 98], []]).length = 12 := by
  have e : framesB [[97, 98], []] = oneF [97, 98] ++ (oneF [] ++ []) := rfl
  rw [e, List.length_append, List.length_append, oneF_len, oneF_len, VarPlain.num_small (by decide), VarPlain.num_small (by decide)]
  rfl

set_option maxHeartbeats 1000000 in
set_option maxRecDepth 100000 in
theorem fr_awake_calls (w : World) : Calls Try.prog 41 #[] w fun e w' => e = .returned (.bool true) ∧ Below w.heap.size w w' := by
  have hr0 := bytes_lit w [97, 98] 5 (by decide) (2, 3)
  have hb0 := (Below.refl w.heap.size w).alloc (Nat.le_refl _) (.cells #[.int .u8 97, .int .u8 98] 5 (2, 3))
  have hba := (Below.refl (w.alloc (.cells #[.int .u8 97, .int .u8 98] 5 (2, 3))).heap.size (w.alloc (.cells #[.int .u8 97, .int .u8 98] 5 (2, 3)))).alloc (Nat.le_refl _) (.cells #[.slice (some ⟨w.heap.size, 0, none⟩) 2 2, .slice none 0 0] 22)
  have HR := Lib.hid (two_rows (w := w.alloc (.cells #[.int .u8 97, .int .u8 98] 5 (2, 3))) hr0 (RowOf.nil (R := byteAt) (size := 1)) 22)
  have HB0 : Hid (Below w.heap.size w ((w.alloc (.cells #[.int .u8 97, .int .u8 98] 5 (2, 3))).alloc (.cells #[.slice (some ⟨w.heap.size, 0, none⟩) 2 2, .slice none 0 0] 22))) := hb0.trans (hba.mono (by simp))
  have hcv := conv_const w #[.int .u8 97, .int .u8 98] 2 2
  simp only [List.size_toArray, List.length_cons, List.length_nil] at hcv
  have hsz : (w.alloc (.cells #[.int .u8 97, .int .u8 98] 5 (2, 3))).heap.size = w.heap.size + 1 := by simp
  rw [hsz] at HR
  clear hr0 hb0 hba hsz
  go_enter Try.func41, Try.ntmps41
  go_wp2_with fail
  refine (frame_put_calls _ _ 2 2 [[97, 98], []] HR.out (by simp) (by rw [aw_len]; decide)).mono ?_
  rintro e w1 ⟨v1, rfl, hown1, hb1⟩
  rw [aw_len] at hown1
  have HB1 : Hid (Below w.heap.size w w1) := HB0.out.trans (hb1.mono HB0.out.size)
  obtain ⟨a1, c1, rfl, hrow1⟩ := ownsRow_bytes hown1
  have hcap1 := hrow1.2.2.1
  have hnc1 := hrow1.2.1
  unfold maxLen at hcap1
  have H1 := Lib.hid hrow1
  clear hown1 hb1 hrow1 HR HB0 hcv
  have HS := Lib.hid (frame_scan_at w1 a1 12 c1 _ H1.out (by decide) 2 aw_ends.1)
  rw [aw_ends.2.1, aw_ends.2.2] at HS
  simp only [] at HS
  go_wp2_with fail
  refine HS.out.mono ?_
  rintro e w2 ⟨a2, c2, vs, rfl, hrow2, hvs2, hb2⟩
  have HB2 : Hid (Below w.heap.size w w2) := HB1.out.trans (hb2.mono HB1.out.size)
  have HT := Lib.hid (frame_take_calls w2 a1 12 c1 _ (H1.out.below stable_byteAt hb2) (by decide))
  rw [aw_take] at HT
  simp only [] at HT
  clear hrow2 hvs2 hb2 HS HB1 H1
  go_wp2_with fail
  refine HT.out.mono ?_
  rintro e w3 ⟨v3, rfl, hown3, hb3⟩
  have HB3 : Hid (Below w.heap.size w w3) := HB2.out.trans (hb3.mono HB2.out.size)
  obtain ⟨a3, c3, rfl, hrow3⟩ := ownsRow_bytes hown3
  have hst : (convert 22 9 (.slice a3 2 c3)).run Try.prog w3 = .ok (.string ⟨#[97, 98]⟩) w3 := str_bytes hrow3
  clear hown3 hb3 HT HB2
  go_wp2_with fail
  go_ret
  exact ⟨rfl, HB3.out⟩

end Go.Proofs.Ytbbnopikinlcdaa
