/-
  The walk of the statement EventKinds: each kind has a name of its own, and other numbers none; an answer fits one kind alone: true; nothing that was there turns. Conditions: the arguments can be read; the names stand where they were laid.
-/
import Derived.Test.YtbbnopikinlcdaaDoorEvAwake
set_option linter.unusedVariables false
namespace Go.Proofs.YtbbnopikinlcdaaDoor
open Go.RowKit Base

def mayP (q : Ans) : Prop := 1 ≤ q.kind ∧ q.kind ≤ 11 ∧ 0 ≤ q.err ∧ q.err ≤ 255 ∧ 0 ≤ q.sig ∧ q.sig ≤ 64
open Classical in
/-- How many of the kinds below n an answer fits. -/
noncomputable def cntF (q : Ans) (n : Nat) : Int := if mayP q ∧ q.kind < (n : Int) then 1 else 0
theorem cntF_bd (q : Ans) (n : Nat) : 0 ≤ cntF q n ∧ cntF q n ≤ 1 := by unfold cntF; split <;> omega
theorem cntF_hit {q : Ans} {n : Nat} (h : fitsB (n : Int) q = true) : cntF q n = 0 ∧ cntF q (n + 1) = 1 := by
  obtain ⟨h1, h2, h3, h4, h5, h6, h7, _⟩ := (fitsB_iff _ _).1 h
  unfold cntF
  rw [if_neg (by rintro ⟨_, h⟩; omega), if_pos ⟨⟨by omega, by omega, h4, h5, h6, h7⟩, by omega⟩]
  exact ⟨rfl, rfl⟩
theorem cntF_miss {q : Ans} {n : Nat} (hn : 1 ≤ n) (hn2 : n < 12) (hl : q.list.length ≤ 4096) (h : fitsB (n : Int) q = false) : cntF q (n + 1) = cntF q n := by
  unfold cntF
  congr 1
  apply propext
  constructor
  · rintro ⟨hm, hk⟩
    refine ⟨hm, ?_⟩
    rcases (by omega : q.kind < (n : Int) ∨ q.kind = (n : Int)) with h1 | h1
    · exact h1
    · exfalso
      rw [Bool.eq_false_iff] at h
      exact h ((fitsB_iff _ _).2 ⟨h1, by omega, by omega, hm.2.2.1, hm.2.2.2.1, hm.2.2.2.2.1, hm.2.2.2.2.2, hl⟩)
  · rintro ⟨hm, hk⟩; exact ⟨hm, by omega⟩
theorem cntF_all {q : Ans} (h : mayP q) : cntF q 12 = 1 := by unfold cntF; rw [if_pos ⟨h, by have := h.2.1; omega⟩]
theorem cntF_none {q : Ans} (h : ¬ mayP q) : cntF q 12 = 0 := by unfold cntF; rw [if_neg (fun hc => h hc.1)]
theorem names_all : ∀ a : Fin 12, ∀ b : Fin 12, 1 ≤ a.val → (names.getD a.val [] ≠ []) ∧ (1 ≤ b.val → a ≠ b → names.getD b.val [] ≠ names.getD a.val []) := by decide
theorem name_ne {j : Int} (h : kindB j = true) : nameOf j ≠ [] := by
  have hk : 1 ≤ j ∧ j ≤ 11 := by unfold kindB at h; simpa using h
  unfold nameOf
  rw [if_pos h]
  exact (names_all ⟨j.toNat, by omega⟩ ⟨0, by omega⟩ (by simp only []; omega)).1
theorem name_inj {j k : Int} (h : kindB j = true) (hne : j ≠ k) : nameOf k ≠ nameOf j := by
  have hk : 1 ≤ j ∧ j ≤ 11 := by unfold kindB at h; simpa using h
  by_cases hkk : kindB k = true
  · have hk2 : 1 ≤ k ∧ k ≤ 11 := by unfold kindB at hkk; simpa using hkk
    unfold nameOf
    rw [if_pos h, if_pos hkk]
    exact (names_all ⟨j.toNat, by omega⟩ ⟨k.toNat, by omega⟩ (by simp only []; omega)).2 (by simp only []; omega) (by intro he; have := congrArg Fin.val he; simp only [] at this; omega)
  · intro he
    have e1 : nameOf k = [] := by unfold nameOf; rw [if_neg hkk]
    rw [e1] at he
    exact name_ne h he.symm
theorem name_none {j : Int} (h : kindB j = false) : nameOf j = [] := by unfold nameOf; rw [if_neg (by rw [h]; simp)]

set_option maxHeartbeats 8000000 in
set_option maxRecDepth 100000 in
theorem ev_kinds_law (w : World) (q : Ans) (a0 : Option Addr) (cap : Nat) (j k : Int) (hn : NamesAt w) :
    Calls Tryd.prog 7 #[ansV q a0 cap, .int .i64 j, .int .i64 k] w fun e w' => e = .returned (.bool true) ∧ Below w.heap.size w w' := by
  have hbA := (Below.refl w.heap.size w).alloc (Nat.le_refl _) (.cells #[.int .i64 q.kind, .int .i64 q.err, .int .i64 q.n, .int .i64 q.m, .string (str q.text), .slice a0 q.list.length cap, .int .i64 q.sig] 26)
  have Haw := Lib.hid (ev_awake_calls _ (hn.below hbA))
  have HN := Lib.hid hn; clear hn
  have HA0 : Hid ((w.alloc (.cells #[.int .i64 q.kind, .int .i64 q.err, .int .i64 q.n, .int .i64 q.m, .string (str q.text), .slice a0 q.list.length cap, .int .i64 q.sig] 26)).heap[w.heap.size]? = some (.cells #[.int .i64 q.kind, .int .i64 q.err, .int .i64 q.n, .int .i64 q.m, .string (str q.text), .slice a0 q.list.length cap, .int .i64 q.sig] 26)) := heap_alloc_new w _
  have HbA := Lib.hid hbA; clear hbA
  unfold ansV
  by_cases hbig : 4096 < q.list.length
  · have t1 : (4096 : Int) < ((q.list.length : Nat) : Int) := by omega
    go_enter Tryd.func7, Tryd.ntmps7
    go_wp2_with fail
    refine Haw.out.mono ?_
    rintro e w1 ⟨rfl, hb1⟩
    have HB1 : Hid (Below w.heap.size w w1) := HbA.out.trans (hb1.mono (by simp))
    have HA1 := Lib.hid (heap_below hb1 HA0.out)
    have hz1 : w.heap.size < w1.heap.size := by have := hb1.size; simp at this; omega
    clear hb1
    have c0 : w1.cell? ⟨w.heap.size, 0, none⟩ = some (.int .i64 q.kind) := by have := HA1.out; simp [World.cell?, this]
    have c1 : w1.cell? ⟨w.heap.size, 1, none⟩ = some (.int .i64 q.err) := by have := HA1.out; simp [World.cell?, this]
    have c2 : w1.cell? ⟨w.heap.size, 2, none⟩ = some (.int .i64 q.n) := by have := HA1.out; simp [World.cell?, this]
    have c3 : w1.cell? ⟨w.heap.size, 3, none⟩ = some (.int .i64 q.m) := by have := HA1.out; simp [World.cell?, this]
    have c4 : w1.cell? ⟨w.heap.size, 4, none⟩ = some (.string (str q.text)) := by have := HA1.out; simp [World.cell?, this]
    have c5 : w1.cell? ⟨w.heap.size, 5, none⟩ = some (.slice a0 q.list.length cap) := by have := HA1.out; simp [World.cell?, this]
    have c6 : w1.cell? ⟨w.heap.size, 6, none⟩ = some (.int .i64 q.sig) := by have := HA1.out; simp [World.cell?, this]
    go_wp2_with fail
    go_ret
    exact ⟨rfl, HB1.out⟩
  have hl4 : q.list.length ≤ 4096 := by omega
  have t1 : ¬ (4096 : Int) < ((q.list.length : Nat) : Int) := by omega
  clear hbig
  have HNO := Lib.hid (ev_name_calls w j)
  clear HNO
  by_cases hj1 : 1 ≤ j
  case neg =>
    have v1 : j < 1 := by omega
    have v1d : decide (1 ≤ j) = false := by simp; omega
    have Hnone := Lib.hid (name_none (j := j) (kindB_f (by omega)))
    have Hs : Hid (str (nameOf j) = ⟨#[]⟩) := by show _ = _; rw [Hnone.out]; rfl
    clear hj1
    go_enter Tryd.func7, Tryd.ntmps7
    go_wp2_with fail
    refine Haw.out.mono ?_
    rintro e w1 ⟨rfl, hb1⟩
    have HB1 : Hid (Below w.heap.size w w1) := HbA.out.trans (hb1.mono (by simp))
    have HA1 := Lib.hid (heap_below hb1 HA0.out)
    have hz1 : w.heap.size < w1.heap.size := by have := hb1.size; simp at this; omega
    clear hb1
    have c0 : w1.cell? ⟨w.heap.size, 0, none⟩ = some (.int .i64 q.kind) := by have := HA1.out; simp [World.cell?, this]
    have c1 : w1.cell? ⟨w.heap.size, 1, none⟩ = some (.int .i64 q.err) := by have := HA1.out; simp [World.cell?, this]
    have c2 : w1.cell? ⟨w.heap.size, 2, none⟩ = some (.int .i64 q.n) := by have := HA1.out; simp [World.cell?, this]
    have c3 : w1.cell? ⟨w.heap.size, 3, none⟩ = some (.int .i64 q.m) := by have := HA1.out; simp [World.cell?, this]
    have c4 : w1.cell? ⟨w.heap.size, 4, none⟩ = some (.string (str q.text)) := by have := HA1.out; simp [World.cell?, this]
    have c5 : w1.cell? ⟨w.heap.size, 5, none⟩ = some (.slice a0 q.list.length cap) := by have := HA1.out; simp [World.cell?, this]
    have c6 : w1.cell? ⟨w.heap.size, 6, none⟩ = some (.int .i64 q.sig) := by have := HA1.out; simp [World.cell?, this]
    have Hnm := Lib.hid (ev_name_calls w1 j (HN.out.below HB1.out))
    go_wp2_with fail
    refine Hnm.out.mono ?_
    rintro e w2 ⟨rfl, rfl⟩
    rw [Hs.out]
    clear Hnm
    clear c0 c1 c2 c3 c4 c5 c6
    have HC1 : Hid (cntF q 1 = 0) := by show _ = _; unfold cntF; rw [if_neg]; rintro ⟨hm, hk⟩; have := hm.1; omega
    go_wp2_with fail
    go_loopw [10, 11] (fun f i wr => ∃ n : Nat, 1 ≤ n ∧ n ≤ 12 ∧ i = .int .i64 n ∧ f = .int .i64 (cntF q n) ∧ wr.heap[w.heap.size]? = some (.cells #[.int .i64 q.kind, .int .i64 q.err, .int .i64 q.n, .int .i64 q.m, .string (str q.text), .slice a0 q.list.length cap, .int .i64 q.sig] 26) ∧ Below w.heap.size w wr ∧ w.heap.size < wr.heap.size) (fun _ i _ => 12 - (intOf i).toNat)
    case atStart => exact ⟨1, by omega, by omega, rfl, by rw [HC1.out], HA1.out, HB1.out, hz1⟩
    case round =>
      clear HA1 HB1 hz1 HC1
      obtain ⟨n, hn1, hn12, rfl, rfl, hheap, hbel, hz⟩ := hrel
      have HA := Lib.hid hheap; clear hheap
      have HB := Lib.hid hbel; clear hbel
      have c0 : wr.cell? ⟨w.heap.size, 0, none⟩ = some (.int .i64 q.kind) := by have := HA.out; simp [World.cell?, this]
      have c1 : wr.cell? ⟨w.heap.size, 1, none⟩ = some (.int .i64 q.err) := by have := HA.out; simp [World.cell?, this]
      have c2 : wr.cell? ⟨w.heap.size, 2, none⟩ = some (.int .i64 q.n) := by have := HA.out; simp [World.cell?, this]
      have c3 : wr.cell? ⟨w.heap.size, 3, none⟩ = some (.int .i64 q.m) := by have := HA.out; simp [World.cell?, this]
      have c4 : wr.cell? ⟨w.heap.size, 4, none⟩ = some (.string (str q.text)) := by have := HA.out; simp [World.cell?, this]
      have c5 : wr.cell? ⟨w.heap.size, 5, none⟩ = some (.slice a0 q.list.length cap) := by have := HA.out; simp [World.cell?, this]
      have c6 : wr.cell? ⟨w.heap.size, 6, none⟩ = some (.int .i64 q.sig) := by have := HA.out; simp [World.cell?, this]
      obtain ⟨hcl, hcu⟩ := cntF_bd q n
      by_cases hlt : n < 12
      · by_cases hf : fitsB (n : Int) q = true
        · have Hft := Lib.hid (ev_fits_calls wr (n : Int) q a0 cap)
          rw [hf] at Hft
          obtain ⟨e0, e1⟩ := cntF_hit hf
          rw [e0]
          have HE1 := Lib.hid e1
          clear hf e0 e1 hcl hcu
          go_wp2_with fail
          refine Hft.out.mono ?_
          rintro e w3 ⟨rfl, hb3⟩
          have hA3 := heap_below hb3 HA.out
          have hB3 := HB.out.trans (hb3.mono (by omega))
          have hz3 : w.heap.size < w3.heap.size := by have := hb3.size; omega
          have HA3 := Lib.hid hA3
          have HB3 := Lib.hid hB3
          clear hA3 hB3 hb3 c0 c1 c2 c3 c4 c5 c6 Hft HA HB
          go_wp2_with fail
          go_roundw
          case rel => exact ⟨n + 1, by omega, by omega, by go_num, by rw [HE1.out], HA3.out, HB3.out, hz3⟩
          case measure => simp [intOf]; omega
        · have Hft := Lib.hid (ev_fits_calls wr (n : Int) q a0 cap)
          have hf' : fitsB (n : Int) q = false := by simpa using hf
          rw [hf'] at Hft
          have HE1 := Lib.hid (cntF_miss hn1 hlt hl4 hf')
          clear hf hf'
          go_wp2_with fail
          refine Hft.out.mono ?_
          rintro e w3 ⟨rfl, hb3⟩
          have hA3 := heap_below hb3 HA.out
          have hB3 := HB.out.trans (hb3.mono (by omega))
          have hz3 : w.heap.size < w3.heap.size := by have := hb3.size; omega
          have HA3 := Lib.hid hA3
          have HB3 := Lib.hid hB3
          clear hA3 hB3 hb3 c0 c1 c2 c3 c4 c5 c6 Hft HA HB
          go_wp2_with fail
          go_roundw
          case rel => exact ⟨n + 1, by omega, by omega, by go_num, by rw [HE1.out], HA3.out, HB3.out, hz3⟩
          case measure => simp [intOf]; omega
      · obtain rfl : 12 = n := by omega
        have HNm := Lib.hid (ev_name_calls wr k (HN.out.below HB.out))
        by_cases h0 : 1 ≤ q.kind
        case neg =>
          have HC := Lib.hid (cntF_none (q := q) (fun hm => h0 hm.1))
          rw [HC.out]
          clear hcl hcu
          have u0 : q.kind < 1 := by omega
          have ud0 : decide (1 ≤ q.kind) = false := by rw [decide_eq_false_iff_not]; omega
          clear h0
          go_wp2_with fail
          go_ret
          exact ⟨rfl, HB.out⟩
        by_cases h1 : q.kind ≤ 11
        case neg =>
          have HC := Lib.hid (cntF_none (q := q) (fun hm => h1 hm.2.1))
          rw [HC.out]
          clear hcl hcu
          have u0 : 1 ≤ q.kind := h0
          have u1 : 11 < q.kind := by omega
          have ud1 : decide (q.kind ≤ 11) = false := by rw [decide_eq_false_iff_not]; omega
          clear h0
          clear h1
          go_wp2_with fail
          go_ret
          exact ⟨rfl, HB.out⟩
        by_cases h2 : 0 ≤ q.err
        case neg =>
          have HC := Lib.hid (cntF_none (q := q) (fun hm => h2 hm.2.2.1))
          rw [HC.out]
          clear hcl hcu
          have u0 : 1 ≤ q.kind := h0
          have u1 : q.kind ≤ 11 := h1
          have u2 : q.err < 0 := by omega
          have ud2 : decide (0 ≤ q.err) = false := by rw [decide_eq_false_iff_not]; omega
          clear h0
          clear h1
          clear h2
          go_wp2_with fail
          go_ret
          exact ⟨rfl, HB.out⟩
        by_cases h3 : q.err ≤ 255
        case neg =>
          have HC := Lib.hid (cntF_none (q := q) (fun hm => h3 hm.2.2.2.1))
          rw [HC.out]
          clear hcl hcu
          have u0 : 1 ≤ q.kind := h0
          have u1 : q.kind ≤ 11 := h1
          have u2 : 0 ≤ q.err := h2
          have u3 : 255 < q.err := by omega
          have ud3 : decide (q.err ≤ 255) = false := by rw [decide_eq_false_iff_not]; omega
          clear h0
          clear h1
          clear h2
          clear h3
          go_wp2_with fail
          go_ret
          exact ⟨rfl, HB.out⟩
        by_cases h4 : 0 ≤ q.sig
        case neg =>
          have HC := Lib.hid (cntF_none (q := q) (fun hm => h4 hm.2.2.2.2.1))
          rw [HC.out]
          clear hcl hcu
          have u0 : 1 ≤ q.kind := h0
          have u1 : q.kind ≤ 11 := h1
          have u2 : 0 ≤ q.err := h2
          have u3 : q.err ≤ 255 := h3
          have u4 : q.sig < 0 := by omega
          have ud4 : decide (0 ≤ q.sig) = false := by rw [decide_eq_false_iff_not]; omega
          clear h0
          clear h1
          clear h2
          clear h3
          clear h4
          go_wp2_with fail
          go_ret
          exact ⟨rfl, HB.out⟩
        by_cases h5 : q.sig ≤ 64
        case neg =>
          have HC := Lib.hid (cntF_none (q := q) (fun hm => h5 hm.2.2.2.2.2))
          rw [HC.out]
          clear hcl hcu
          have u0 : 1 ≤ q.kind := h0
          have u1 : q.kind ≤ 11 := h1
          have u2 : 0 ≤ q.err := h2
          have u3 : q.err ≤ 255 := h3
          have u4 : 0 ≤ q.sig := h4
          have u5 : 64 < q.sig := by omega
          have ud5 : decide (q.sig ≤ 64) = false := by rw [decide_eq_false_iff_not]; omega
          clear h0
          clear h1
          clear h2
          clear h3
          clear h4
          clear h5
          go_wp2_with fail
          go_ret
          exact ⟨rfl, HB.out⟩
        have HC := Lib.hid (cntF_all (q := q) ⟨h0, h1, h2, h3, h4, h5⟩)
        rw [HC.out]
        clear hcl hcu
        have u0 : 1 ≤ q.kind := h0
        have u1 : q.kind ≤ 11 := h1
        have u2 : 0 ≤ q.err := h2
        have u3 : q.err ≤ 255 := h3
        have u4 : 0 ≤ q.sig := h4
        have u5 : q.sig ≤ 64 := h5
        clear h0
        clear h1
        clear h2
        clear h3
        clear h4
        clear h5
        go_wp2_with fail
        go_ret
        exact ⟨rfl, HB.out⟩
  by_cases hj2 : j ≤ 11
  case neg =>
    have v2 : 11 < j := by omega
    have v2d : decide (j ≤ 11) = false := by simp; omega
    have Hnone := Lib.hid (name_none (j := j) (kindB_f (by omega)))
    have Hs : Hid (str (nameOf j) = ⟨#[]⟩) := by show _ = _; rw [Hnone.out]; rfl
    clear hj2
    go_enter Tryd.func7, Tryd.ntmps7
    go_wp2_with fail
    refine Haw.out.mono ?_
    rintro e w1 ⟨rfl, hb1⟩
    have HB1 : Hid (Below w.heap.size w w1) := HbA.out.trans (hb1.mono (by simp))
    have HA1 := Lib.hid (heap_below hb1 HA0.out)
    have hz1 : w.heap.size < w1.heap.size := by have := hb1.size; simp at this; omega
    clear hb1
    have c0 : w1.cell? ⟨w.heap.size, 0, none⟩ = some (.int .i64 q.kind) := by have := HA1.out; simp [World.cell?, this]
    have c1 : w1.cell? ⟨w.heap.size, 1, none⟩ = some (.int .i64 q.err) := by have := HA1.out; simp [World.cell?, this]
    have c2 : w1.cell? ⟨w.heap.size, 2, none⟩ = some (.int .i64 q.n) := by have := HA1.out; simp [World.cell?, this]
    have c3 : w1.cell? ⟨w.heap.size, 3, none⟩ = some (.int .i64 q.m) := by have := HA1.out; simp [World.cell?, this]
    have c4 : w1.cell? ⟨w.heap.size, 4, none⟩ = some (.string (str q.text)) := by have := HA1.out; simp [World.cell?, this]
    have c5 : w1.cell? ⟨w.heap.size, 5, none⟩ = some (.slice a0 q.list.length cap) := by have := HA1.out; simp [World.cell?, this]
    have c6 : w1.cell? ⟨w.heap.size, 6, none⟩ = some (.int .i64 q.sig) := by have := HA1.out; simp [World.cell?, this]
    have Hnm := Lib.hid (ev_name_calls w1 j (HN.out.below HB1.out))
    go_wp2_with fail
    refine Hnm.out.mono ?_
    rintro e w2 ⟨rfl, rfl⟩
    rw [Hs.out]
    clear Hnm
    clear c0 c1 c2 c3 c4 c5 c6
    have HC1 : Hid (cntF q 1 = 0) := by show _ = _; unfold cntF; rw [if_neg]; rintro ⟨hm, hk⟩; have := hm.1; omega
    go_wp2_with fail
    go_loopw [10, 11] (fun f i wr => ∃ n : Nat, 1 ≤ n ∧ n ≤ 12 ∧ i = .int .i64 n ∧ f = .int .i64 (cntF q n) ∧ wr.heap[w.heap.size]? = some (.cells #[.int .i64 q.kind, .int .i64 q.err, .int .i64 q.n, .int .i64 q.m, .string (str q.text), .slice a0 q.list.length cap, .int .i64 q.sig] 26) ∧ Below w.heap.size w wr ∧ w.heap.size < wr.heap.size) (fun _ i _ => 12 - (intOf i).toNat)
    case atStart => exact ⟨1, by omega, by omega, rfl, by rw [HC1.out], HA1.out, HB1.out, hz1⟩
    case round =>
      clear HA1 HB1 hz1 HC1
      obtain ⟨n, hn1, hn12, rfl, rfl, hheap, hbel, hz⟩ := hrel
      have HA := Lib.hid hheap; clear hheap
      have HB := Lib.hid hbel; clear hbel
      have c0 : wr.cell? ⟨w.heap.size, 0, none⟩ = some (.int .i64 q.kind) := by have := HA.out; simp [World.cell?, this]
      have c1 : wr.cell? ⟨w.heap.size, 1, none⟩ = some (.int .i64 q.err) := by have := HA.out; simp [World.cell?, this]
      have c2 : wr.cell? ⟨w.heap.size, 2, none⟩ = some (.int .i64 q.n) := by have := HA.out; simp [World.cell?, this]
      have c3 : wr.cell? ⟨w.heap.size, 3, none⟩ = some (.int .i64 q.m) := by have := HA.out; simp [World.cell?, this]
      have c4 : wr.cell? ⟨w.heap.size, 4, none⟩ = some (.string (str q.text)) := by have := HA.out; simp [World.cell?, this]
      have c5 : wr.cell? ⟨w.heap.size, 5, none⟩ = some (.slice a0 q.list.length cap) := by have := HA.out; simp [World.cell?, this]
      have c6 : wr.cell? ⟨w.heap.size, 6, none⟩ = some (.int .i64 q.sig) := by have := HA.out; simp [World.cell?, this]
      obtain ⟨hcl, hcu⟩ := cntF_bd q n
      by_cases hlt : n < 12
      · by_cases hf : fitsB (n : Int) q = true
        · have Hft := Lib.hid (ev_fits_calls wr (n : Int) q a0 cap)
          rw [hf] at Hft
          obtain ⟨e0, e1⟩ := cntF_hit hf
          rw [e0]
          have HE1 := Lib.hid e1
          clear hf e0 e1 hcl hcu
          go_wp2_with fail
          refine Hft.out.mono ?_
          rintro e w3 ⟨rfl, hb3⟩
          have hA3 := heap_below hb3 HA.out
          have hB3 := HB.out.trans (hb3.mono (by omega))
          have hz3 : w.heap.size < w3.heap.size := by have := hb3.size; omega
          have HA3 := Lib.hid hA3
          have HB3 := Lib.hid hB3
          clear hA3 hB3 hb3 c0 c1 c2 c3 c4 c5 c6 Hft HA HB
          go_wp2_with fail
          go_roundw
          case rel => exact ⟨n + 1, by omega, by omega, by go_num, by rw [HE1.out], HA3.out, HB3.out, hz3⟩
          case measure => simp [intOf]; omega
        · have Hft := Lib.hid (ev_fits_calls wr (n : Int) q a0 cap)
          have hf' : fitsB (n : Int) q = false := by simpa using hf
          rw [hf'] at Hft
          have HE1 := Lib.hid (cntF_miss hn1 hlt hl4 hf')
          clear hf hf'
          go_wp2_with fail
          refine Hft.out.mono ?_
          rintro e w3 ⟨rfl, hb3⟩
          have hA3 := heap_below hb3 HA.out
          have hB3 := HB.out.trans (hb3.mono (by omega))
          have hz3 : w.heap.size < w3.heap.size := by have := hb3.size; omega
          have HA3 := Lib.hid hA3
          have HB3 := Lib.hid hB3
          clear hA3 hB3 hb3 c0 c1 c2 c3 c4 c5 c6 Hft HA HB
          go_wp2_with fail
          go_roundw
          case rel => exact ⟨n + 1, by omega, by omega, by go_num, by rw [HE1.out], HA3.out, HB3.out, hz3⟩
          case measure => simp [intOf]; omega
      · obtain rfl : 12 = n := by omega
        have HNm := Lib.hid (ev_name_calls wr k (HN.out.below HB.out))
        by_cases h0 : 1 ≤ q.kind
        case neg =>
          have HC := Lib.hid (cntF_none (q := q) (fun hm => h0 hm.1))
          rw [HC.out]
          clear hcl hcu
          have u0 : q.kind < 1 := by omega
          have ud0 : decide (1 ≤ q.kind) = false := by rw [decide_eq_false_iff_not]; omega
          clear h0
          go_wp2_with fail
          go_ret
          exact ⟨rfl, HB.out⟩
        by_cases h1 : q.kind ≤ 11
        case neg =>
          have HC := Lib.hid (cntF_none (q := q) (fun hm => h1 hm.2.1))
          rw [HC.out]
          clear hcl hcu
          have u0 : 1 ≤ q.kind := h0
          have u1 : 11 < q.kind := by omega
          have ud1 : decide (q.kind ≤ 11) = false := by rw [decide_eq_false_iff_not]; omega
          clear h0
          clear h1
          go_wp2_with fail
          go_ret
          exact ⟨rfl, HB.out⟩
        by_cases h2 : 0 ≤ q.err
        case neg =>
          have HC := Lib.hid (cntF_none (q := q) (fun hm => h2 hm.2.2.1))
          rw [HC.out]
          clear hcl hcu
          have u0 : 1 ≤ q.kind := h0
          have u1 : q.kind ≤ 11 := h1
          have u2 : q.err < 0 := by omega
          have ud2 : decide (0 ≤ q.err) = false := by rw [decide_eq_false_iff_not]; omega
          clear h0
          clear h1
          clear h2
          go_wp2_with fail
          go_ret
          exact ⟨rfl, HB.out⟩
        by_cases h3 : q.err ≤ 255
        case neg =>
          have HC := Lib.hid (cntF_none (q := q) (fun hm => h3 hm.2.2.2.1))
          rw [HC.out]
          clear hcl hcu
          have u0 : 1 ≤ q.kind := h0
          have u1 : q.kind ≤ 11 := h1
          have u2 : 0 ≤ q.err := h2
          have u3 : 255 < q.err := by omega
          have ud3 : decide (q.err ≤ 255) = false := by rw [decide_eq_false_iff_not]; omega
          clear h0
          clear h1
          clear h2
          clear h3
          go_wp2_with fail
          go_ret
          exact ⟨rfl, HB.out⟩
        by_cases h4 : 0 ≤ q.sig
        case neg =>
          have HC := Lib.hid (cntF_none (q := q) (fun hm => h4 hm.2.2.2.2.1))
          rw [HC.out]
          clear hcl hcu
          have u0 : 1 ≤ q.kind := h0
          have u1 : q.kind ≤ 11 := h1
          have u2 : 0 ≤ q.err := h2
          have u3 : q.err ≤ 255 := h3
          have u4 : q.sig < 0 := by omega
          have ud4 : decide (0 ≤ q.sig) = false := by rw [decide_eq_false_iff_not]; omega
          clear h0
          clear h1
          clear h2
          clear h3
          clear h4
          go_wp2_with fail
          go_ret
          exact ⟨rfl, HB.out⟩
        by_cases h5 : q.sig ≤ 64
        case neg =>
          have HC := Lib.hid (cntF_none (q := q) (fun hm => h5 hm.2.2.2.2.2))
          rw [HC.out]
          clear hcl hcu
          have u0 : 1 ≤ q.kind := h0
          have u1 : q.kind ≤ 11 := h1
          have u2 : 0 ≤ q.err := h2
          have u3 : q.err ≤ 255 := h3
          have u4 : 0 ≤ q.sig := h4
          have u5 : 64 < q.sig := by omega
          have ud5 : decide (q.sig ≤ 64) = false := by rw [decide_eq_false_iff_not]; omega
          clear h0
          clear h1
          clear h2
          clear h3
          clear h4
          clear h5
          go_wp2_with fail
          go_ret
          exact ⟨rfl, HB.out⟩
        have HC := Lib.hid (cntF_all (q := q) ⟨h0, h1, h2, h3, h4, h5⟩)
        rw [HC.out]
        clear hcl hcu
        have u0 : 1 ≤ q.kind := h0
        have u1 : q.kind ≤ 11 := h1
        have u2 : 0 ≤ q.err := h2
        have u3 : q.err ≤ 255 := h3
        have u4 : 0 ≤ q.sig := h4
        have u5 : q.sig ≤ 64 := h5
        clear h0
        clear h1
        clear h2
        clear h3
        clear h4
        clear h5
        go_wp2_with fail
        go_ret
        exact ⟨rfl, HB.out⟩
  by_cases hjk : j = k
  case pos =>
    have Hne := Lib.hid (name_ne (kindB_t hj1 hj2))
    have x1 : ((str (nameOf j)).toList == []) = false := by rw [beq_eq_false_iff_ne, ByteArray.toList_eq]; exact Hne.out
    have x2 : (str (nameOf j)).toList.isEmpty = false := by
      rw [ByteArray.toList_eq, str_data]
      cases h : nameOf j with
      | nil => exact absurd h Hne.out
      | cons _ _ => rfl
    have v3 : (j == k) = true := by rw [beq_iff_eq]; exact hjk
    clear hjk
    go_enter Tryd.func7, Tryd.ntmps7
    go_wp2_with fail
    refine Haw.out.mono ?_
    rintro e w1 ⟨rfl, hb1⟩
    have HB1 : Hid (Below w.heap.size w w1) := HbA.out.trans (hb1.mono (by simp))
    have HA1 := Lib.hid (heap_below hb1 HA0.out)
    have hz1 : w.heap.size < w1.heap.size := by have := hb1.size; simp at this; omega
    clear hb1
    have c0 : w1.cell? ⟨w.heap.size, 0, none⟩ = some (.int .i64 q.kind) := by have := HA1.out; simp [World.cell?, this]
    have c1 : w1.cell? ⟨w.heap.size, 1, none⟩ = some (.int .i64 q.err) := by have := HA1.out; simp [World.cell?, this]
    have c2 : w1.cell? ⟨w.heap.size, 2, none⟩ = some (.int .i64 q.n) := by have := HA1.out; simp [World.cell?, this]
    have c3 : w1.cell? ⟨w.heap.size, 3, none⟩ = some (.int .i64 q.m) := by have := HA1.out; simp [World.cell?, this]
    have c4 : w1.cell? ⟨w.heap.size, 4, none⟩ = some (.string (str q.text)) := by have := HA1.out; simp [World.cell?, this]
    have c5 : w1.cell? ⟨w.heap.size, 5, none⟩ = some (.slice a0 q.list.length cap) := by have := HA1.out; simp [World.cell?, this]
    have c6 : w1.cell? ⟨w.heap.size, 6, none⟩ = some (.int .i64 q.sig) := by have := HA1.out; simp [World.cell?, this]
    have Hnm := Lib.hid (ev_name_calls w1 j (HN.out.below HB1.out))
    go_wp2_with fail
    refine Hnm.out.mono ?_
    rintro e w2 ⟨rfl, rfl⟩
    clear Hnm
    clear c0 c1 c2 c3 c4 c5 c6
    have HC1 : Hid (cntF q 1 = 0) := by show _ = _; unfold cntF; rw [if_neg]; rintro ⟨hm, hk⟩; have := hm.1; omega
    go_wp2_with fail
    go_loopw [10, 11] (fun f i wr => ∃ n : Nat, 1 ≤ n ∧ n ≤ 12 ∧ i = .int .i64 n ∧ f = .int .i64 (cntF q n) ∧ wr.heap[w.heap.size]? = some (.cells #[.int .i64 q.kind, .int .i64 q.err, .int .i64 q.n, .int .i64 q.m, .string (str q.text), .slice a0 q.list.length cap, .int .i64 q.sig] 26) ∧ Below w.heap.size w wr ∧ w.heap.size < wr.heap.size) (fun _ i _ => 12 - (intOf i).toNat)
    case atStart => exact ⟨1, by omega, by omega, rfl, by rw [HC1.out], HA1.out, HB1.out, hz1⟩
    case round =>
      clear HA1 HB1 hz1 HC1
      obtain ⟨n, hn1, hn12, rfl, rfl, hheap, hbel, hz⟩ := hrel
      have HA := Lib.hid hheap; clear hheap
      have HB := Lib.hid hbel; clear hbel
      have c0 : wr.cell? ⟨w.heap.size, 0, none⟩ = some (.int .i64 q.kind) := by have := HA.out; simp [World.cell?, this]
      have c1 : wr.cell? ⟨w.heap.size, 1, none⟩ = some (.int .i64 q.err) := by have := HA.out; simp [World.cell?, this]
      have c2 : wr.cell? ⟨w.heap.size, 2, none⟩ = some (.int .i64 q.n) := by have := HA.out; simp [World.cell?, this]
      have c3 : wr.cell? ⟨w.heap.size, 3, none⟩ = some (.int .i64 q.m) := by have := HA.out; simp [World.cell?, this]
      have c4 : wr.cell? ⟨w.heap.size, 4, none⟩ = some (.string (str q.text)) := by have := HA.out; simp [World.cell?, this]
      have c5 : wr.cell? ⟨w.heap.size, 5, none⟩ = some (.slice a0 q.list.length cap) := by have := HA.out; simp [World.cell?, this]
      have c6 : wr.cell? ⟨w.heap.size, 6, none⟩ = some (.int .i64 q.sig) := by have := HA.out; simp [World.cell?, this]
      obtain ⟨hcl, hcu⟩ := cntF_bd q n
      by_cases hlt : n < 12
      · by_cases hf : fitsB (n : Int) q = true
        · have Hft := Lib.hid (ev_fits_calls wr (n : Int) q a0 cap)
          rw [hf] at Hft
          obtain ⟨e0, e1⟩ := cntF_hit hf
          rw [e0]
          have HE1 := Lib.hid e1
          clear hf e0 e1 hcl hcu
          go_wp2_with fail
          refine Hft.out.mono ?_
          rintro e w3 ⟨rfl, hb3⟩
          have hA3 := heap_below hb3 HA.out
          have hB3 := HB.out.trans (hb3.mono (by omega))
          have hz3 : w.heap.size < w3.heap.size := by have := hb3.size; omega
          have HA3 := Lib.hid hA3
          have HB3 := Lib.hid hB3
          clear hA3 hB3 hb3 c0 c1 c2 c3 c4 c5 c6 Hft HA HB
          go_wp2_with fail
          go_roundw
          case rel => exact ⟨n + 1, by omega, by omega, by go_num, by rw [HE1.out], HA3.out, HB3.out, hz3⟩
          case measure => simp [intOf]; omega
        · have Hft := Lib.hid (ev_fits_calls wr (n : Int) q a0 cap)
          have hf' : fitsB (n : Int) q = false := by simpa using hf
          rw [hf'] at Hft
          have HE1 := Lib.hid (cntF_miss hn1 hlt hl4 hf')
          clear hf hf'
          go_wp2_with fail
          refine Hft.out.mono ?_
          rintro e w3 ⟨rfl, hb3⟩
          have hA3 := heap_below hb3 HA.out
          have hB3 := HB.out.trans (hb3.mono (by omega))
          have hz3 : w.heap.size < w3.heap.size := by have := hb3.size; omega
          have HA3 := Lib.hid hA3
          have HB3 := Lib.hid hB3
          clear hA3 hB3 hb3 c0 c1 c2 c3 c4 c5 c6 Hft HA HB
          go_wp2_with fail
          go_roundw
          case rel => exact ⟨n + 1, by omega, by omega, by go_num, by rw [HE1.out], HA3.out, HB3.out, hz3⟩
          case measure => simp [intOf]; omega
      · obtain rfl : 12 = n := by omega
        have HNm := Lib.hid (ev_name_calls wr k (HN.out.below HB.out))
        by_cases h0 : 1 ≤ q.kind
        case neg =>
          have HC := Lib.hid (cntF_none (q := q) (fun hm => h0 hm.1))
          rw [HC.out]
          clear hcl hcu
          have u0 : q.kind < 1 := by omega
          have ud0 : decide (1 ≤ q.kind) = false := by rw [decide_eq_false_iff_not]; omega
          clear h0
          go_wp2_with fail
          go_ret
          exact ⟨rfl, HB.out⟩
        by_cases h1 : q.kind ≤ 11
        case neg =>
          have HC := Lib.hid (cntF_none (q := q) (fun hm => h1 hm.2.1))
          rw [HC.out]
          clear hcl hcu
          have u0 : 1 ≤ q.kind := h0
          have u1 : 11 < q.kind := by omega
          have ud1 : decide (q.kind ≤ 11) = false := by rw [decide_eq_false_iff_not]; omega
          clear h0
          clear h1
          go_wp2_with fail
          go_ret
          exact ⟨rfl, HB.out⟩
        by_cases h2 : 0 ≤ q.err
        case neg =>
          have HC := Lib.hid (cntF_none (q := q) (fun hm => h2 hm.2.2.1))
          rw [HC.out]
          clear hcl hcu
          have u0 : 1 ≤ q.kind := h0
          have u1 : q.kind ≤ 11 := h1
          have u2 : q.err < 0 := by omega
          have ud2 : decide (0 ≤ q.err) = false := by rw [decide_eq_false_iff_not]; omega
          clear h0
          clear h1
          clear h2
          go_wp2_with fail
          go_ret
          exact ⟨rfl, HB.out⟩
        by_cases h3 : q.err ≤ 255
        case neg =>
          have HC := Lib.hid (cntF_none (q := q) (fun hm => h3 hm.2.2.2.1))
          rw [HC.out]
          clear hcl hcu
          have u0 : 1 ≤ q.kind := h0
          have u1 : q.kind ≤ 11 := h1
          have u2 : 0 ≤ q.err := h2
          have u3 : 255 < q.err := by omega
          have ud3 : decide (q.err ≤ 255) = false := by rw [decide_eq_false_iff_not]; omega
          clear h0
          clear h1
          clear h2
          clear h3
          go_wp2_with fail
          go_ret
          exact ⟨rfl, HB.out⟩
        by_cases h4 : 0 ≤ q.sig
        case neg =>
          have HC := Lib.hid (cntF_none (q := q) (fun hm => h4 hm.2.2.2.2.1))
          rw [HC.out]
          clear hcl hcu
          have u0 : 1 ≤ q.kind := h0
          have u1 : q.kind ≤ 11 := h1
          have u2 : 0 ≤ q.err := h2
          have u3 : q.err ≤ 255 := h3
          have u4 : q.sig < 0 := by omega
          have ud4 : decide (0 ≤ q.sig) = false := by rw [decide_eq_false_iff_not]; omega
          clear h0
          clear h1
          clear h2
          clear h3
          clear h4
          go_wp2_with fail
          go_ret
          exact ⟨rfl, HB.out⟩
        by_cases h5 : q.sig ≤ 64
        case neg =>
          have HC := Lib.hid (cntF_none (q := q) (fun hm => h5 hm.2.2.2.2.2))
          rw [HC.out]
          clear hcl hcu
          have u0 : 1 ≤ q.kind := h0
          have u1 : q.kind ≤ 11 := h1
          have u2 : 0 ≤ q.err := h2
          have u3 : q.err ≤ 255 := h3
          have u4 : 0 ≤ q.sig := h4
          have u5 : 64 < q.sig := by omega
          have ud5 : decide (q.sig ≤ 64) = false := by rw [decide_eq_false_iff_not]; omega
          clear h0
          clear h1
          clear h2
          clear h3
          clear h4
          clear h5
          go_wp2_with fail
          go_ret
          exact ⟨rfl, HB.out⟩
        have HC := Lib.hid (cntF_all (q := q) ⟨h0, h1, h2, h3, h4, h5⟩)
        rw [HC.out]
        clear hcl hcu
        have u0 : 1 ≤ q.kind := h0
        have u1 : q.kind ≤ 11 := h1
        have u2 : 0 ≤ q.err := h2
        have u3 : q.err ≤ 255 := h3
        have u4 : 0 ≤ q.sig := h4
        have u5 : q.sig ≤ 64 := h5
        clear h0
        clear h1
        clear h2
        clear h3
        clear h4
        clear h5
        go_wp2_with fail
        go_ret
        exact ⟨rfl, HB.out⟩
  have Hne := Lib.hid (name_ne (kindB_t hj1 hj2))
  have x1 : ((str (nameOf j)).toList == []) = false := by rw [beq_eq_false_iff_ne, ByteArray.toList_eq]; exact Hne.out
  have x2 : (str (nameOf j)).toList.isEmpty = false := by
    rw [ByteArray.toList_eq, str_data]
    cases h : nameOf j with
    | nil => exact absurd h Hne.out
    | cons _ _ => rfl
  have v3 : (j == k) = false := by rw [beq_eq_false_iff_ne]; exact hjk
  have x3 := str_eq_f (name_inj (kindB_t hj1 hj2) hjk)
  clear hjk
  go_enter Tryd.func7, Tryd.ntmps7
  go_wp2_with fail
  refine Haw.out.mono ?_
  rintro e w1 ⟨rfl, hb1⟩
  have HB1 : Hid (Below w.heap.size w w1) := HbA.out.trans (hb1.mono (by simp))
  have HA1 := Lib.hid (heap_below hb1 HA0.out)
  have hz1 : w.heap.size < w1.heap.size := by have := hb1.size; simp at this; omega
  clear hb1
  have c0 : w1.cell? ⟨w.heap.size, 0, none⟩ = some (.int .i64 q.kind) := by have := HA1.out; simp [World.cell?, this]
  have c1 : w1.cell? ⟨w.heap.size, 1, none⟩ = some (.int .i64 q.err) := by have := HA1.out; simp [World.cell?, this]
  have c2 : w1.cell? ⟨w.heap.size, 2, none⟩ = some (.int .i64 q.n) := by have := HA1.out; simp [World.cell?, this]
  have c3 : w1.cell? ⟨w.heap.size, 3, none⟩ = some (.int .i64 q.m) := by have := HA1.out; simp [World.cell?, this]
  have c4 : w1.cell? ⟨w.heap.size, 4, none⟩ = some (.string (str q.text)) := by have := HA1.out; simp [World.cell?, this]
  have c5 : w1.cell? ⟨w.heap.size, 5, none⟩ = some (.slice a0 q.list.length cap) := by have := HA1.out; simp [World.cell?, this]
  have c6 : w1.cell? ⟨w.heap.size, 6, none⟩ = some (.int .i64 q.sig) := by have := HA1.out; simp [World.cell?, this]
  have Hnm := Lib.hid (ev_name_calls w1 j (HN.out.below HB1.out))
  go_wp2_with fail
  refine Hnm.out.mono ?_
  rintro e w2 ⟨rfl, rfl⟩
  clear Hnm
  clear c0 c1 c2 c3 c4 c5 c6
  have HC1 : Hid (cntF q 1 = 0) := by show _ = _; unfold cntF; rw [if_neg]; rintro ⟨hm, hk⟩; have := hm.1; omega
  go_wp2_with fail
  go_loopw [10, 11] (fun f i wr => ∃ n : Nat, 1 ≤ n ∧ n ≤ 12 ∧ i = .int .i64 n ∧ f = .int .i64 (cntF q n) ∧ wr.heap[w.heap.size]? = some (.cells #[.int .i64 q.kind, .int .i64 q.err, .int .i64 q.n, .int .i64 q.m, .string (str q.text), .slice a0 q.list.length cap, .int .i64 q.sig] 26) ∧ Below w.heap.size w wr ∧ w.heap.size < wr.heap.size) (fun _ i _ => 12 - (intOf i).toNat)
  case atStart => exact ⟨1, by omega, by omega, rfl, by rw [HC1.out], HA1.out, HB1.out, hz1⟩
  case round =>
    clear HA1 HB1 hz1 HC1
    obtain ⟨n, hn1, hn12, rfl, rfl, hheap, hbel, hz⟩ := hrel
    have HA := Lib.hid hheap; clear hheap
    have HB := Lib.hid hbel; clear hbel
    have c0 : wr.cell? ⟨w.heap.size, 0, none⟩ = some (.int .i64 q.kind) := by have := HA.out; simp [World.cell?, this]
    have c1 : wr.cell? ⟨w.heap.size, 1, none⟩ = some (.int .i64 q.err) := by have := HA.out; simp [World.cell?, this]
    have c2 : wr.cell? ⟨w.heap.size, 2, none⟩ = some (.int .i64 q.n) := by have := HA.out; simp [World.cell?, this]
    have c3 : wr.cell? ⟨w.heap.size, 3, none⟩ = some (.int .i64 q.m) := by have := HA.out; simp [World.cell?, this]
    have c4 : wr.cell? ⟨w.heap.size, 4, none⟩ = some (.string (str q.text)) := by have := HA.out; simp [World.cell?, this]
    have c5 : wr.cell? ⟨w.heap.size, 5, none⟩ = some (.slice a0 q.list.length cap) := by have := HA.out; simp [World.cell?, this]
    have c6 : wr.cell? ⟨w.heap.size, 6, none⟩ = some (.int .i64 q.sig) := by have := HA.out; simp [World.cell?, this]
    obtain ⟨hcl, hcu⟩ := cntF_bd q n
    by_cases hlt : n < 12
    · by_cases hf : fitsB (n : Int) q = true
      · have Hft := Lib.hid (ev_fits_calls wr (n : Int) q a0 cap)
        rw [hf] at Hft
        obtain ⟨e0, e1⟩ := cntF_hit hf
        rw [e0]
        have HE1 := Lib.hid e1
        clear hf e0 e1 hcl hcu
        go_wp2_with fail
        refine Hft.out.mono ?_
        rintro e w3 ⟨rfl, hb3⟩
        have hA3 := heap_below hb3 HA.out
        have hB3 := HB.out.trans (hb3.mono (by omega))
        have hz3 : w.heap.size < w3.heap.size := by have := hb3.size; omega
        have HA3 := Lib.hid hA3
        have HB3 := Lib.hid hB3
        clear hA3 hB3 hb3 c0 c1 c2 c3 c4 c5 c6 Hft HA HB
        go_wp2_with fail
        go_roundw
        case rel => exact ⟨n + 1, by omega, by omega, by go_num, by rw [HE1.out], HA3.out, HB3.out, hz3⟩
        case measure => simp [intOf]; omega
      · have Hft := Lib.hid (ev_fits_calls wr (n : Int) q a0 cap)
        have hf' : fitsB (n : Int) q = false := by simpa using hf
        rw [hf'] at Hft
        have HE1 := Lib.hid (cntF_miss hn1 hlt hl4 hf')
        clear hf hf'
        go_wp2_with fail
        refine Hft.out.mono ?_
        rintro e w3 ⟨rfl, hb3⟩
        have hA3 := heap_below hb3 HA.out
        have hB3 := HB.out.trans (hb3.mono (by omega))
        have hz3 : w.heap.size < w3.heap.size := by have := hb3.size; omega
        have HA3 := Lib.hid hA3
        have HB3 := Lib.hid hB3
        clear hA3 hB3 hb3 c0 c1 c2 c3 c4 c5 c6 Hft HA HB
        go_wp2_with fail
        go_roundw
        case rel => exact ⟨n + 1, by omega, by omega, by go_num, by rw [HE1.out], HA3.out, HB3.out, hz3⟩
        case measure => simp [intOf]; omega
    · obtain rfl : 12 = n := by omega
      have HNm := Lib.hid (ev_name_calls wr k (HN.out.below HB.out))
      by_cases h0 : 1 ≤ q.kind
      case neg =>
        have HC := Lib.hid (cntF_none (q := q) (fun hm => h0 hm.1))
        rw [HC.out]
        clear hcl hcu
        have u0 : q.kind < 1 := by omega
        have ud0 : decide (1 ≤ q.kind) = false := by rw [decide_eq_false_iff_not]; omega
        clear h0
        go_wp2_with fail
        refine HNm.out.mono ?_
        rintro e w4 ⟨rfl, rfl⟩
        go_wp2_with fail
        go_ret
        exact ⟨rfl, HB.out⟩
      by_cases h1 : q.kind ≤ 11
      case neg =>
        have HC := Lib.hid (cntF_none (q := q) (fun hm => h1 hm.2.1))
        rw [HC.out]
        clear hcl hcu
        have u0 : 1 ≤ q.kind := h0
        have u1 : 11 < q.kind := by omega
        have ud1 : decide (q.kind ≤ 11) = false := by rw [decide_eq_false_iff_not]; omega
        clear h0
        clear h1
        go_wp2_with fail
        refine HNm.out.mono ?_
        rintro e w4 ⟨rfl, rfl⟩
        go_wp2_with fail
        go_ret
        exact ⟨rfl, HB.out⟩
      by_cases h2 : 0 ≤ q.err
      case neg =>
        have HC := Lib.hid (cntF_none (q := q) (fun hm => h2 hm.2.2.1))
        rw [HC.out]
        clear hcl hcu
        have u0 : 1 ≤ q.kind := h0
        have u1 : q.kind ≤ 11 := h1
        have u2 : q.err < 0 := by omega
        have ud2 : decide (0 ≤ q.err) = false := by rw [decide_eq_false_iff_not]; omega
        clear h0
        clear h1
        clear h2
        go_wp2_with fail
        refine HNm.out.mono ?_
        rintro e w4 ⟨rfl, rfl⟩
        go_wp2_with fail
        go_ret
        exact ⟨rfl, HB.out⟩
      by_cases h3 : q.err ≤ 255
      case neg =>
        have HC := Lib.hid (cntF_none (q := q) (fun hm => h3 hm.2.2.2.1))
        rw [HC.out]
        clear hcl hcu
        have u0 : 1 ≤ q.kind := h0
        have u1 : q.kind ≤ 11 := h1
        have u2 : 0 ≤ q.err := h2
        have u3 : 255 < q.err := by omega
        have ud3 : decide (q.err ≤ 255) = false := by rw [decide_eq_false_iff_not]; omega
        clear h0
        clear h1
        clear h2
        clear h3
        go_wp2_with fail
        refine HNm.out.mono ?_
        rintro e w4 ⟨rfl, rfl⟩
        go_wp2_with fail
        go_ret
        exact ⟨rfl, HB.out⟩
      by_cases h4 : 0 ≤ q.sig
      case neg =>
        have HC := Lib.hid (cntF_none (q := q) (fun hm => h4 hm.2.2.2.2.1))
        rw [HC.out]
        clear hcl hcu
        have u0 : 1 ≤ q.kind := h0
        have u1 : q.kind ≤ 11 := h1
        have u2 : 0 ≤ q.err := h2
        have u3 : q.err ≤ 255 := h3
        have u4 : q.sig < 0 := by omega
        have ud4 : decide (0 ≤ q.sig) = false := by rw [decide_eq_false_iff_not]; omega
        clear h0
        clear h1
        clear h2
        clear h3
        clear h4
        go_wp2_with fail
        refine HNm.out.mono ?_
        rintro e w4 ⟨rfl, rfl⟩
        go_wp2_with fail
        go_ret
        exact ⟨rfl, HB.out⟩
      by_cases h5 : q.sig ≤ 64
      case neg =>
        have HC := Lib.hid (cntF_none (q := q) (fun hm => h5 hm.2.2.2.2.2))
        rw [HC.out]
        clear hcl hcu
        have u0 : 1 ≤ q.kind := h0
        have u1 : q.kind ≤ 11 := h1
        have u2 : 0 ≤ q.err := h2
        have u3 : q.err ≤ 255 := h3
        have u4 : 0 ≤ q.sig := h4
        have u5 : 64 < q.sig := by omega
        have ud5 : decide (q.sig ≤ 64) = false := by rw [decide_eq_false_iff_not]; omega
        clear h0
        clear h1
        clear h2
        clear h3
        clear h4
        clear h5
        go_wp2_with fail
        refine HNm.out.mono ?_
        rintro e w4 ⟨rfl, rfl⟩
        go_wp2_with fail
        go_ret
        exact ⟨rfl, HB.out⟩
      have HC := Lib.hid (cntF_all (q := q) ⟨h0, h1, h2, h3, h4, h5⟩)
      rw [HC.out]
      clear hcl hcu
      have u0 : 1 ≤ q.kind := h0
      have u1 : q.kind ≤ 11 := h1
      have u2 : 0 ≤ q.err := h2
      have u3 : q.err ≤ 255 := h3
      have u4 : 0 ≤ q.sig := h4
      have u5 : q.sig ≤ 64 := h5
      clear h0
      clear h1
      clear h2
      clear h3
      clear h4
      clear h5
      go_wp2_with fail
      refine HNm.out.mono ?_
      rintro e w4 ⟨rfl, rfl⟩
      go_wp2_with fail
      go_ret
      exact ⟨rfl, HB.out⟩

end Go.Proofs.YtbbnopikinlcdaaDoor
