/-
  The walk of the statement TapeLong. Conditions: the arguments can be read.
-/
import Derived.Test.YtgbnfipbedlmhaaTpAwake
set_option linter.unusedVariables false
set_option maxRecDepth 100000
namespace Go.Proofs.Ytgbnfipbedlmhaa
open Go.RowKit Base

theorem own_bytesT {w : World} {base : Nat} {a : Option Addr} {n cap : Nat} {l : List UInt8} {e : TypeId} (h : w.ownsRow base e 1 (.slice a n cap) n (l.map bv)) : Bytes w a n cap l := by
  obtain ⟨a', c', he, hb⟩ := ownsRow_bytes h
  cases he
  exact hb
theorem readR_nohead {r : List UInt8} (hs : r.length ≤ 65536) (hh : isHead r = false) : ∀ K, EndsF (framesB [r]) K → readR (stF (framesB [r]) K).1 (stF (framesB [r]) K).2 (endE3 (framesB [r]) K) = ⟨[], [], 0, 11⟩ := by
  intro K hK
  have h := endsF_frames [r] (fun l hl => by rw [List.mem_singleton.1 hl]; exact hs) [] (by rw [takeF_nil]; decide)
  rw [List.append_nil] at h
  obtain rfl := endsF_one h.1 hK
  rw [h.2]
  unfold readR
  simp only [if_pos hh]
set_option maxHeartbeats 8000000 in
theorem tapeLong_calls (w : World) (x : Nat) (hx : x ≤ 255) (a : Option Addr) (n cap : Nat) (r : List UInt8) (hr : Bytes w a n cap r) :
    Calls Try.prog 7 #[.int .u8 (x : Int), .slice a n cap] w fun e w' => e = .returned (.bool true) ∧ Below w.heap.size w w' := by
  have HAw := Lib.hid (tp_awake_calls w)
  have HR := Lib.hid hr
  have HNr : Hid (n = r.length) := hr.1
  obtain ⟨i0, hi, hz0, hz1, hz2⟩ := info_parts info_u8
  clear hr
  go_enter Try.func7, Try.ntmps7
  go_wp2_with fail
  refine HAw.out.mono ?_
  rintro e w1 ⟨rfl, hb1⟩
  by_cases h300 : 300 < n
  · have t1 : decide ((300 : Int) < (n : Int)) = true := by simp; omega
    have t2 : (300 : Int) < (n : Int) := by omega
    go_wp2_with fail
    go_ret
    exact ⟨rfl, hb1⟩
  · have t1 : decide ((300 : Int) < (n : Int)) = false := by simp; omega
    have t2 : ¬ (300 : Int) < (n : Int) := by omega
    obtain ⟨N, hN⟩ : ∃ N, N = 4090 + x % 12 := ⟨_, rfl⟩
    have hN1 : N ≤ 4101 := by omega
    have hNi : (N : Int) = 4090 + (x : Int) % 12 := by omega
    obtain ⟨w2, hmk, hown2, hg2⟩ := run_makeSlice_full (P := Try.prog) (w := w1) w1.heap.size 28 5 i0 (.int .u8 0) 1 Try.underlying28 hi hz0 hz1 .i64 .i64 N (by omega) (by rw [hz2]; omega) (by unfold maxLen; omega) (Nat.le_refl _)
    rw [Nat.mul_one, show (Value.int .u8 0).cells = #[.int .u8 0] from rfl, toList_madeCells_one] at hown2
    have hown2' : w2.ownsRow w1.heap.size 5 1 (.slice (some ⟨w1.heap.size, 0, none⟩) N N) N ((List.replicate N (0 : UInt8)).map bv) := by rw [List.map_replicate]; exact hown2
    have hconv := str_bytes (own_bytesT hown2')
    have hB2 : Below w1.heap.size w1 w2 := ⟨hg2.os, hg2.tape, hg2.output, hg2.size, fun k hk => hg2.block k hk (by simp)⟩
    have HSl : Hid ((List.replicate N (0 : UInt8)).length = N) := List.length_replicate
    rw [hNi] at hmk
    have HB2 := Lib.hid (hb1.trans (hB2.mono hb1.size))
    clear hown2 hown2' hg2 hB2 hb1
    generalize List.replicate N (0 : UInt8) = s at *
    by_cases hbig : 4096 < N
    · have HNew := Lib.hid (new_long_calls w2 s (by rw [HSl.out]; exact hbig))
      have u1 : decide ((4096 : Int) < 4090 + (x : Int) % 12) = true := by simp only [decide_eq_true_eq]; omega
      have u2 : (4096 : Int) < 4090 + (x : Int) % 12 := by omega
      clear hN hN1 hNi hbig
      generalize str s = S at *
      go_wp2_with fail
      refine HNew.out.mono ?_
      rintro e w' ⟨rfl, rfl⟩
      go_wp2_with fail
      go_ret
      exact ⟨rfl, HB2.out⟩
    · have HNew := Lib.hid (new_calls w2 s (by rw [HSl.out]; omega))
      have u1 : decide ((4096 : Int) < 4090 + (x : Int) % 12) = false := by simp only [decide_eq_false_iff_not]; omega
      have u2 : ¬ (4096 : Int) < 4090 + (x : Int) % 12 := by omega
      have hs4 : s.length ≤ 4096 := by rw [HSl.out]; omega
      have HLen := Lib.hid (head_len hs4)
      have HRd : Hid (∀ K, EndsF (framesB [headB s]) K → readR (stF (framesB [headB s]) K).1 (stF (framesB [headB s]) K).2 (endE3 (framesB [headB s]) K) = ⟨s, [], (framesB [headB s]).length, 0⟩) :=
        fun K hK => readR_whole (l := []) hs4 (fun q hq => by cases hq) (fun q hq => by cases hq) hK
      clear hN hN1 hNi hbig hs4
      go_wp2_with fail
      refine HNew.out.mono ?_
      rintro e w3 ⟨rfl, v3, hw3, hb3⟩
      generalize framesB [headB s] = b at *
      have HW3 := Lib.hid hw3
      have HBytes := Lib.hid (bytes_calls w3 _ _ _ hw3 (by have := HLen.out; omega))
      have HB3 := Lib.hid (HB2.out.trans (hb3.mono HB2.out.size))
      clear hw3 hb3 HNew
      generalize hS : str s = S at *
      have HSs := Lib.hid hS
      clear hS
      go_wp2_with fail
      refine HBytes.out.mono ?_
      rintro e w4 ⟨u4, rfl, hown4, hb4⟩
      obtain ⟨a4, c4, rfl, hby4⟩ := ownsRow_bytes hown4
      have HRead := Lib.hid (read_calls_at w4 a4 b.length c4 b hby4 (by have := HLen.out; omega) _ _ _ _ HRd.out)
      have HB4 : Hid (Below w3.heap.size w3 w4) := hb4
      clear hown4 hby4 hb4 HBytes
      go_wp2_with fail
      refine HRead.out.mono ?_
      rintro e w5 ⟨aa, ca, he, hans, hb5⟩
      rw [HSs.out] at he
      replace he : e = .returned (.tuple #[.agg #[.string S, .slice aa 0 ca], .int .i64 (b.length : Int), .int .i64 0]) := he
      subst he
      have hal := (Below.refl w5.heap.size w5).alloc (Nat.le_refl _) (.cells #[.string S, .slice aa 0 ca] 41)
      have hT6 : (w5.alloc (.cells #[.string S, .slice aa 0 ca] 41)).heap[w5.heap.size]? = some (.cells #[.string S, .slice aa 0 ca] 41) := heap_alloc_new w5 _
      have HT6 := Lib.hid hT6
      have hB6 := (HB4.out.trans (hb5.mono HB4.out.size)).trans (hal.mono (by have := HB4.out.size; have := hb5.size; omega))
      have HBytes := Lib.hid (bytes_calls _ _ _ _ (HW3.out.stay hB6) (by have := HLen.out; omega))
      have HB6 := Lib.hid (HB3.out.trans (hB6.mono HB3.out.size))
      clear hb5 hal hB6 hans HRead HRd HW3 hT6
      go_wp2_with fail
      refine HBytes.out.mono ?_
      rintro e w7 ⟨u7, rfl, hown7, hb7⟩
      obtain ⟨a7, c7, rfl, _⟩ := ownsRow_bytes hown7
      have hT7 := (hb7.block _ (Array.getElem?_eq_some_iff.1 HT6.out).1).trans HT6.out
      have d0 : w7.cell? ⟨w5.heap.size, 0, none⟩ = some (.string S) := by simp only [World.cell?, hT7]; rfl
      have HB7 := Lib.hid (HB6.out.trans (hb7.mono HB6.out.size))
      clear hown7 hb7 HBytes hT7
      go_upto_region 14 with fail
      clear d0
      have fin : Hid (Calls Try.prog 17 #[.slice (some ⟨w7.heap.size, 0, none⟩) 1 1] (w7.alloc (.cells #[.slice a n cap] 28)) fun e w' => ∃ v, e = .returned v ∧ w'.ownsRow (w7.alloc (.cells #[.slice a n cap] 28)).heap.size 5 1 v (framesB [r]).length ((framesB [r]).map bv) ∧ Below (w7.alloc (.cells #[.slice a n cap] 28)).heap.size (w7.alloc (.cells #[.slice a n cap] 28)) w') :=
        frame_put_calls _ _ 1 1 [r] (one_row (HR.out.below stable_byteAt HB7.out) 28) (fun y hy => by rw [List.mem_singleton.1 hy]; have := HNr.out; omega) (by rw [framesB_one, oneF_len]; have h1 := HNr.out; have := num_len r.length (by unfold Lt64; omega); omega)
      by_cases h14 : 14 ≤ n
      · have q1 : decide ((14 : Int) ≤ (n : Int)) = true := by simp; omega
        have q2 : (14 : Int) ≤ (n : Int) := by omega
        obtain ⟨asb, hbs, hS⟩ := sub_bytes (HR.out.below stable_byteAt HB7.out) 0 14 (by omega) h14
        have hsl : ∀ w', (Instr.slice 28 (.slice a n cap) none (some (.int .i64 14)) none).run Try.prog w' = .ok (.slice asb 14 cap) w' := fun w' => (hS w').2.1 rfl .i64
        have hcv := str_bytes hbs
        rw [List.drop_zero] at hcv
        replace hcv : (convert 28 9 (.slice asb 14 cap)).run Try.prog w7 = .ok (.string (str (r.take 14))) w7 := hcv
        clear hbs hS h14
        by_cases hm : r.take 14 = magicB
        · have hbq : ((str (r.take 14)).toList == [107, 105, 110, 101, 116, 111, 115, 99, 111, 112, 101, 32, 49, 10]) = true := by rw [ByteArray.toList_eq]; show (r.take 14 == magicB) = true; rw [hm]; exact beq_self_eq_true _
          clear hm
          generalize str (r.take 14) = R at *
          go_wp2_with fail
          go_ret
          exact ⟨rfl, HB7.out⟩
        · have hbq : ((str (r.take 14)).toList == [107, 105, 110, 101, 116, 111, 115, 99, 111, 112, 101, 32, 49, 10]) = false := by
            rw [beq_eq_false_iff_ne, ByteArray.toList_eq]
            exact hm
          have hh : isHead r = false := by unfold isHead; rw [decide_eq_false hm, Bool.false_and]
          clear hm
          generalize str (r.take 14) = R at *
          have HRq := Lib.hid (readR_nohead (r := r) (by have := HNr.out; omega) hh)
          clear hh
          go_wp2_with fail
          refine fin.out.mono ?_
          rintro e w8 ⟨u8, rfl, hown8, hb8⟩
          have hB8 := Below.trans (Below.alloc (Below.refl w7.heap.size w7) (Nat.le_refl _) (.cells #[.slice a n cap] 28)) (hb8.mono (by simp))
          obtain ⟨a8, c8, rfl, hby8⟩ := ownsRow_bytes hown8
          have HFl : Hid ((framesB [r]).length ≤ 1000000) := by
            show _ ≤ _
            rw [framesB_one, oneF_len]; have h1 := HNr.out; have := num_len r.length (by unfold Lt64; omega); omega
          have HRead := Lib.hid (read_calls_at w8 a8 _ c8 _ hby8 HFl.out _ _ _ _ HRq.out)
          have HB8 := Lib.hid (HB7.out.trans (hB8.mono HB7.out.size))
          clear hown8 hby8 hb8 hB8 fin HRq
          generalize framesB [r] = fb at *
          go_wp2_with fail
          refine HRead.out.mono ?_
          rintro e w9 ⟨ab, cb, he, hans, hb9⟩
          replace he : e = .returned (.tuple #[.agg #[.string ⟨#[]⟩, .slice ab 0 cb], .int .i64 0, .int .i64 11]) := he
          subst he
          have HB9 := Lib.hid ((HB8.out.trans (hb9.mono HB8.out.size)).trans ((Below.alloc (Below.refl w9.heap.size w9) (Nat.le_refl _) (.cells #[.string ⟨#[]⟩, .slice ab 0 cb] 41)).mono (by have := HB8.out.size; have := hb9.size; omega)))
          clear hans hb9 HRead
          go_wp2_with fail
          go_ret
          exact ⟨rfl, HB9.out⟩
      · have q1 : decide ((14 : Int) ≤ (n : Int)) = false := by simp; omega
        have q2 : ¬ (14 : Int) ≤ (n : Int) := by omega
        have hh : isHead r = false := by
          unfold isHead
          rw [decide_eq_false (fun hm => by have := take_magic_len hm; have := HNr.out; omega), Bool.false_and]
        have HRq := Lib.hid (readR_nohead (r := r) (by have := HNr.out; omega) hh)
        clear hh
        go_wp2_with fail
        refine fin.out.mono ?_
        rintro e w8 ⟨u8, rfl, hown8, hb8⟩
        have hB8 := Below.trans (Below.alloc (Below.refl w7.heap.size w7) (Nat.le_refl _) (.cells #[.slice a n cap] 28)) (hb8.mono (by simp))
        obtain ⟨a8, c8, rfl, hby8⟩ := ownsRow_bytes hown8
        have HFl : Hid ((framesB [r]).length ≤ 1000000) := by
          show _ ≤ _
          rw [framesB_one, oneF_len]; have h1 := HNr.out; have := num_len r.length (by unfold Lt64; omega); omega
        have HRead := Lib.hid (read_calls_at w8 a8 _ c8 _ hby8 HFl.out _ _ _ _ HRq.out)
        have HB8 := Lib.hid (HB7.out.trans (hB8.mono HB7.out.size))
        clear hown8 hby8 hb8 hB8 fin HRq
        generalize framesB [r] = fb at *
        go_wp2_with fail
        refine HRead.out.mono ?_
        rintro e w9 ⟨ab, cb, he, hans, hb9⟩
        replace he : e = .returned (.tuple #[.agg #[.string ⟨#[]⟩, .slice ab 0 cb], .int .i64 0, .int .i64 11]) := he
        subst he
        have HB9 := Lib.hid ((HB8.out.trans (hb9.mono HB8.out.size)).trans ((Below.alloc (Below.refl w9.heap.size w9) (Nat.le_refl _) (.cells #[.string ⟨#[]⟩, .slice ab 0 cb] 41)).mono (by have := HB8.out.size; have := hb9.size; omega)))
        clear hans hb9 HRead
        go_wp2_with fail
        go_ret
        exact ⟨rfl, HB9.out⟩
end Go.Proofs.Ytgbnfipbedlmhaa
