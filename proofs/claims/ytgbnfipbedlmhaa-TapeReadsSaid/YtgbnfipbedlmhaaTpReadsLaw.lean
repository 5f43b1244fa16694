/-
  The walk of the statement TapeReads. Conditions: the arguments can be read.
-/
import Derived.Test.YtgbnfipbedlmhaaRefTape
set_option linter.unusedVariables false
set_option maxRecDepth 100000
namespace Go.Proofs.Ytgbnfipbedlmhaa
open Go.RowKit Base

theorem own_bytesT {w : World} {base : Nat} {a : Option Addr} {n cap : Nat} {l : List UInt8} {e : TypeId} (h : w.ownsRow base e 1 (.slice a n cap) n (l.map bv)) : Bytes w a n cap l := by
  obtain ⟨a', c', he, hb⟩ := ownsRow_bytes h
  cases he
  exact hb
theorem str_size_le (s : List UInt8) : (str s).size ≤ s.length ∧ s.length ≤ (str s).size := ⟨Nat.le_refl _, Nat.le_refl _⟩
/-- What another reading of the same bytes leaves. -/
theorem read_again {b : List UInt8} {K : Nat} {t : TOut} (hE : EndsF b K) (ht : t = readR (stF b K).1 (stF b K).2 (endE3 b K)) {w2 : World} {r2 : Ending} {w2' : World} (h2 : ReadPost b w2 r2 w2') :
    ∃ (a2 : Option Addr) (c2 : Nat), r2 = .returned (.tuple #[.agg #[.string (str t.script), .slice a2 t.qs.length c2], .int .i64 (t.n : Int), .int .i64 t.e]) ∧ Anss w2' a2 t.qs.length c2 t.qs ∧ Below w2.heap.size w2 w2' := by
  obtain ⟨K2, t2, a2, c2, hE2, ht2, hr2, ha2, hb2⟩ := h2
  obtain rfl := endsF_one hE hE2
  rw [← ht] at ht2
  subst ht2
  exact ⟨a2, c2, hr2, ha2, hb2⟩
set_option maxHeartbeats 16000000 in
theorem tapeReads_calls (w : World) (s : List UInt8) (hs : s.length ≤ maxLen) (ax : Option Addr) (n cap : Nat) (l : List Ans) (hA : Anss w ax n cap l) (hF : ∀ q ∈ l, q.Fine) (cu : Nat) (hcu : cu ≤ 65535)
    (am : Option Addr) (nm cm : Nat) (ls : List (List UInt8)) (hM : ByteRows w am nm cm ls) :
    Calls Try.prog 4 #[.string (str s), .slice ax n cap, .int .u16 (cu : Int), .slice am nm cm] w fun e w' => e = .returned (.bool true) ∧ Below w.heap.size w w' := by
  have HAw := Lib.hid (tp_awake_calls w)
  have hcap := hA.2.2.1
  have hnc := hA.2.1
  have hcm := hM.2.2.1
  have hnm := hM.2.1
  unfold maxLen at hcap hs hcm
  obtain ⟨hz1, hz2⟩ := str_size_le s
  obtain ⟨i0, hi, hz0, hy1, hy2⟩ := info_parts info_u8
  have Hn : Hid (n = l.length) := hA.1
  have Hm : Hid (nm = ls.length) := hM.1
  have HA := Lib.hid hA
  have HF := Lib.hid hF
  have HM := Lib.hid hM
  clear hA hF hM
  go_enter Try.func4, Try.ntmps4
  go_wp2_with fail
  refine (HAw.out).mono ?_
  rintro e w1 ⟨rfl, hb1⟩
  have HA1 := Lib.hid (HA.out.below stable_ansAt hb1)
  have HM1 := Lib.hid (HM.out.below stable_bytesCell hb1)
  have HB1 := Lib.hid hb1
  have HFew := Lib.hid (tp_few_calls w1 ax n cap l HA1.out)
  clear hb1
  by_cases hfew : fewT l = true
  rotate_left
  · have hff : fewT l = false := by simpa using hfew
    rw [hff] at HFew
    clear hfew hff
    go_wp2_with fail
    refine (HFew.out).mono ?_
    rintro e w2 ⟨rfl, rfl⟩
    go_wp2_with fail
    go_ret
    exact ⟨rfl, HB1.out⟩
  rw [hfew] at HFew
  have HSh : Hid ((∀ q ∈ l, q.Short) ∧ l.length ≤ 40) := (fewT_iff l).1 hfew
  clear hfew
  go_wp2_with fail
  refine (HFew.out).mono ?_
  rintro e w2 ⟨rfl, rfl⟩
  by_cases h4 : 4096 < s.length
  · have t1 : decide ((4096 : Int) < ((str s).size : Int)) = true := decide_eq_true (by omega)
    have t2 : (4096 : Int) < ((str s).size : Int) := by omega
    go_wp2_with fail
    go_ret
    exact ⟨rfl, HB1.out⟩
  have t1 : decide ((4096 : Int) < ((str s).size : Int)) = false := decide_eq_false (by omega)
  have t2 : ¬ ((4096 : Int) < ((str s).size : Int)) := by omega
  by_cases h9 : 9 < nm
  · have u1 : decide ((9 : Int) < (nm : Int)) = true := decide_eq_true (by omega)
    have u2 : (9 : Int) < (nm : Int) := by omega
    go_wp2_with fail
    go_ret
    exact ⟨rfl, HB1.out⟩
  have u1 : decide ((9 : Int) < (nm : Int)) = false := decide_eq_false (by omega)
  have u2 : ¬ ((9 : Int) < (nm : Int)) := by omega
  obtain ⟨rb, ro, hrow, hidx⟩ := at_rows HM1.out
  have Hrow := Lib.hid hrow
  have Hidx := Lib.hid hidx
  clear hrow hidx
  go_wp2_with fail
  go_loop [11] (fun i => ∃ k : Nat, k ≤ nm ∧ i = .int .i64 k ∧ ∀ r ∈ ls.take k, r.length ≤ 600) (fun i => nm - (intOf i).toNat)
  case atStart => exact ⟨0, Nat.zero_le _, rfl, by simp⟩
  case round =>
    obtain ⟨k, hk, rfl, hall⟩ := hrel
    have Hall := Lib.hid hall
    clear hall
    by_cases hlt : k < nm
    · have hkl : k < ls.length := by rw [← Hm.out]; exact hlt
      obtain ⟨ab, cb, hc, hbb⟩ := Hrow.out k hkl
      have hix := fun w' => Hidx.out .i64 k w' hlt
      have Hnext : Hid (ls[k].length ≤ 600 → ∀ r ∈ ls.take (k + 1), r.length ≤ 600) := by
        intro h r hr
        rw [List.take_succ_eq_append_getElem hkl] at hr
        rcases List.mem_append.1 hr with hr | hr
        · exact Hall.out r hr
        · rw [List.mem_singleton.1 hr]; exact h
      clear hbb
      generalize ls[k].length = N at *
      have v1 : decide ((k : Int) < (nm : Int)) = true := decide_eq_true (by omega)
      have v2 : (k : Int) < (nm : Int) := by omega
      by_cases h6 : 600 < N
      · have x1 : decide ((600 : Int) < (N : Int)) = true := decide_eq_true (by omega)
        have x2 : (600 : Int) < (N : Int) := by omega
        go_wp2_with fail
        go_ret
        exact ⟨rfl, HB1.out⟩
      · have x1 : decide ((600 : Int) < (N : Int)) = false := decide_eq_false (by omega)
        have x2 : ¬ ((600 : Int) < (N : Int)) := by omega
        have HN2 := Lib.hid (Hnext.out (by omega))
        go_wp2_with fail
        go_round
        case rel => exact ⟨k + 1, by omega, by go_num, HN2.out⟩
        case measure => simp [intOf]; omega
    · have v1 : decide ((k : Int) < (nm : Int)) = false := decide_eq_false (by omega)
      have v2 : ¬ ((k : Int) < (nm : Int)) := by omega
      have HSm : Hid (∀ r ∈ ls, r.length ≤ 600) := fun r hr => Hall.out r (by rw [List.take_of_length_le (by rw [← Hm.out]; omega)]; exact hr)
      have HFb : Hid ((framesB ls).length ≤ 600000) := by
        have h1 := framesB_le ls (fun r hr => by have := HSm.out r hr; omega)
        show _ ≤ _
        have h2 := Hm.out
        have : ls.length * 65550 ≤ 9 * 65550 := Nat.mul_le_mul_right _ (by omega)
        omega
      have HNew := Lib.hid (new_calls w1 s (by omega))
      have hhl := head_len (s := s) (by omega)
      have HLs := Lib.hid hhl
      clear hhl Hall Hrow Hidx hk
      go_wp2_with fail
      refine (HNew.out).mono ?_
      rintro e w2 ⟨rfl, v2, hw2, hb2⟩
      generalize framesB [headB s] = hd at *
      have HWl : Hid (∀ k, k ≤ fitN l → (wroteA l k).length ≤ k * 3020) := wroteA_le (fun q hq => ⟨HSh.out.1 q hq, HF.out q hq⟩) (fun i hi h => fitN_lt h hi)
      have hq2 : w1.heap.size < w2.heap.size := hw2.lt
      have hlow : ∀ j, v2.ownBlock = some j → w1.heap.size ≤ j := fun j hj => Nat.le_of_lt (hw2.low hj).1
      have HAdd := Lib.hid (add_calls w2 w1.heap.size v2 hd hw2 ax n cap l (fun w' v' hst => HA1.out.below stable_ansAt (hb2.trans (hst.below (Nat.le_of_lt hq2) (Nat.le_refl _) hlow))) (fun q hq => ⟨HSh.out.1 q hq, HF.out q hq⟩) (by have := HSh.out.2; omega) (by have := HLs.out; omega))
      have HTot : Hid ((hd ++ wroteA l (fitN l)).length ≤ 200000) := by show _ ≤ _; rw [List.length_append]; have := HLs.out; have := HWl.out _ (Nat.le_refl _); have := fitN_le l; have := HSh.out.2; omega
      have Hw2 := Lib.hid hw2
      have Hb2 := Lib.hid hb2
      have Hq2 := Lib.hid hq2
      have Hlow := Lib.hid hlow
      clear hw2 hb2 hq2 hlow
      generalize decide (fitN l = l.length) = bd at *
      go_wp2_with fail
      refine (HAdd.out).mono ?_
      rintro e w4 ⟨rfl, v4, hw4, hst4⟩
      have HB4 : Hid (Below w1.heap.size w1 w4) := Hb2.out.trans (hst4.below (Nat.le_of_lt Hq2.out) (Nat.le_refl _) Hlow.out)
      have HBy := Lib.hid (bytes_calls w4 _ _ _ hw4 (by have := HTot.out; omega))
      clear hw4 hst4
      generalize hd ++ wroteA l (fitN l) = bs at *
      go_wp2_with fail
      refine (HBy.out).mono ?_
      rintro e w5 ⟨u5, rfl, hown5, hb5⟩
      obtain ⟨a5, c5, rfl, hby5⟩ := ownsRow_bytes hown5
      have HB5 := Lib.hid (HB4.out.trans (hb5.mono HB4.out.size))
      obtain ⟨L, hL⟩ : ∃ L, L = bs.length := ⟨_, rfl⟩
      have hLb : L ≤ 200000 := by have := HTot.out; omega
      rw [← hL] at hby5
      have HLb := Lib.hid hL
      have hLc := hby5.2.1
      have hLm := hby5.2.2.1
      unfold maxLen at hLm
      obtain ⟨k2, hk2⟩ : ∃ k2 : Nat, k2 = cu % (L + 1) := ⟨_, rfl⟩
      have hkl2 : k2 ≤ L := by have := Nat.mod_lt cu (show 0 < L + 1 by omega); omega
      have hkI : (cu : Int) % ((L : Int) + 1) = (k2 : Int) := by rw [hk2]; simp
      have hkT : Int.tmod (cu : Int) ((L : Int) + 1) = (k2 : Int) := by rw [← hkI]; exact Int.tmod_eq_emod_of_nonneg (by omega)
      obtain ⟨as2, hsub, hS⟩ := sub_bytes hby5 0 k2 (by omega) hkl2
      have hsl : ∀ w', (Instr.slice 28 (.slice a5 L c5) none (some (.int .i64 (k2 : Int))) none).run Try.prog w' = .ok (.slice as2 k2 c5) w' := fun w' => (hS w').2.1 rfl .i64
      rw [List.drop_zero] at hsub
      rw [← hL]
      have HSub : Hid (Src Try.prog w5 1 (.slice as2 k2 c5) k2 ((bs.take k2).map bv)) := src_bytes hsub
      have HT2 : Hid ((bs.take k2).length = k2) := hsub.1.symm
      clear hk2 hown5 hby5 hb5 hS hsub hL
      go_wp2_with (at_builtin; refine wpList_append_src rfl (.tmp 60) (.tmp 68) 28 28 rfl w5.heap.size 5 i0 _ 1 1 Try.underlying28 (append_side Try.underlying28) hi hz0 hy1 hy2 rfl (by decide) (by decide) (.slice none 0 0) 0 [] rfl (World.ownsRow_nil _ _ _ _) _ k2 _ rfl HSub.out ?_ ?_ ?_ ?_)
      case _ => unfold maxLen; omega
      case _ => omega
      case _ => exact Nat.le_refl _
      intro v6 w6 hown6 hg6 _
      replace hown6 : w6.ownsRow w5.heap.size 5 1 v6 k2 ((bs.take k2).map bv) := by simpa [List.map_take] using hown6
      have hb6 : Below w5.heap.size w5 w6 := ⟨hg6.os, hg6.tape, hg6.output, hg6.size, fun k hk => hg6.block k hk (by simp [Value.ownBlock])⟩
      have HB6 := Lib.hid (HB5.out.trans (hb6.mono HB5.out.size))
      have HS6 : Hid (w5.heap.size ≤ w6.heap.size) := hg6.size
      have HPut := Lib.hid (frame_put_calls w6 am nm cm ls (HM1.out.below stable_bytesCell HB6.out) (fun r hr => by have := HSm.out r hr; omega) (by have := HFb.out; omega))
      obtain ⟨a6, c6, rfl, _, _, _, _⟩ := ownsRow_slice hown6
      have Hown6 := Lib.hid hown6
      clear hown6
      clear hg6 hb6 hsl hkI hkT
      go_wp2_with fail
      refine (HPut.out).mono ?_
      rintro e w7 ⟨u7, rfl, hown7, hb7⟩
      have hsrc := bytes_src (P := Try.prog) hown7
      obtain ⟨a7, c7, rfl, _, _, _, _⟩ := ownsRow_slice hown7
      have Hown67 := Lib.hid (ownsRow_below Hown6.out hb7)
      have HS7 : Hid (w5.heap.size ≤ w7.heap.size) := Nat.le_trans HS6.out hb7.size
      have HB7 := Lib.hid (HB6.out.trans (hb7.mono HB6.out.size))
      have HSrc := Lib.hid hsrc
      obtain ⟨F, hFe⟩ : ∃ F, F = (framesB ls).length := ⟨_, rfl⟩
      have hF1 : F ≤ 600000 := by have := HFb.out; omega
      rw [← hFe] at HSrc
      rw [← hFe]
      have HFe := Lib.hid hFe
      clear hown7 hb7 hsrc hFe
      go_wp2_with (at_builtin; refine wpList_append_src rfl (.tmp 70) (.tmp 72) 28 28 rfl w5.heap.size 5 i0 _ 1 1 Try.underlying28 (append_side Try.underlying28) hi hz0 hy1 hy2 rfl (by decide) (by decide) _ k2 _ rfl Hown67.out _ F _ rfl HSrc.out ?_ ?_ ?_ ?_)
      case _ => unfold maxLen; omega
      case _ => omega
      case _ => exact HS7.out
      intro v8 w8 hown8 hg8 _
      replace hown8 : w8.ownsRow w5.heap.size 5 1 v8 (k2 + F) ((bs.take k2 ++ framesB ls).map bv) := by simpa [List.map_take] using hown8
      have HB8 : Hid (Below w1.heap.size w1 w8) := HB7.out.grown hg8 HB7.out.size (fun k hk => by have := (Hown67.out.lt k hk).1; have := HB5.out.size; omega)
      obtain ⟨a8, c8, rfl, hby8⟩ := ownsRow_bytes hown8
      have HBy8 := Lib.hid hby8
      clear hown8 hg8 hby8 Hown67 HSrc Hown6
      go_wp2_with fail
      go_loopw [14, 15] (fun v14 v15 wr => ∃ (k N C : Nat) (a : Option Addr) (b : List UInt8), k ≤ 2 ∧ v15 = .int .i64 k ∧ v14 = .slice a N C ∧ Bytes wr a N C b ∧ N ≤ 1000000 ∧ Below w1.heap.size w1 wr) (fun _ i _ => 2 - (intOf i).toNat)
      case atStart => exact ⟨0, _, _, _, _, by omega, rfl, rfl, HBy8.out, by omega, HB8.out⟩
      case round =>
        obtain ⟨j, N, C, a, b, hj, rfl, rfl, hby, hNb, hbel⟩ := hrel
        have Hby := Lib.hid hby
        have Hbel := Lib.hid hbel
        clear hby hbel
        by_cases hlt2 : j < 2
        · have y1 : decide ((j : Int) < 2) = true := decide_eq_true (by omega)
          have y2 : (j : Int) < 2 := by omega
          have HRead := Lib.hid (read_calls wr a N C b Hby.out hNb)
          have hbl : b.length = N := Hby.out.1.symm
          have HRef := Lib.hid fun w => ref_tape_read_calls w b (by omega)
          clear hbl
          go_wp2_with fail
          refine HRead.out.mono ?_
          rintro e1 w9 hp1
          obtain ⟨K0, t, x1, d1, hE0, ht0, he1, hq0, hb9⟩ := hp1
          subst he1
          have HE0 := Lib.hid hE0
          have Ht0 := Lib.hid ht0
          have Hq0 := Lib.hid hq0
          clear hE0 ht0 hq0
          have hcv := str_bytes (Hby.out.below stable_byteAt hb9)
          have hal := (Below.refl w9.heap.size w9).alloc (Nat.le_refl _) (.cells #[.string (str t.script), .slice x1 t.qs.length d1] 41)
          have hcv2 := str_bytes ((Hby.out.below stable_byteAt hb9).below stable_byteAt hal)
          have HB9 := Lib.hid (Hbel.out.trans (hb9.mono Hbel.out.size))
          have HB10 := Lib.hid (HB9.out.trans (hal.mono HB9.out.size))
          have HAl := Lib.hid hal
          have HT9 : Hid ((w9.alloc (.cells #[.string (str t.script), .slice x1 t.qs.length d1] 41)).heap[w9.heap.size]? = some (.cells #[.string (str t.script), .slice x1 t.qs.length d1] 41)) := heap_alloc_new w9 _
          clear hb9 hal hcv
          go_wp2_with fail
          refine (HRef.out _).mono ?_
          rintro e2 w11 hp2
          obtain ⟨x2, d2, h2, ha2, hb2'⟩ := read_again HE0.out Ht0.out hp2
          subst h2
          clear hp2
          have hal2 := (Below.refl w11.heap.size w11).alloc (Nat.le_refl _) (.cells #[.string (str t.script), .slice x2 t.qs.length d2] 45)
          have HA1' := Lib.hid ((Hq0.out.below stable_ansAt HAl.out |>.below stable_ansAt hb2').below stable_ansAt hal2)
          have HA2' := Lib.hid (ha2.below stable_ansAt hal2)
          have HT12 := Lib.hid ((hal2.block _ (Nat.lt_of_lt_of_le (Array.getElem?_eq_some_iff.1 HT9.out).1 hb2'.size)).trans ((hb2'.block _ (Array.getElem?_eq_some_iff.1 HT9.out).1).trans HT9.out))
          have HR12 : Hid ((w11.alloc (.cells #[.string (str t.script), .slice x2 t.qs.length d2] 45)).heap[w11.heap.size]? = some (.cells #[.string (str t.script), .slice x2 t.qs.length d2] 45)) := heap_alloc_new w11 _
          have HB12 := Lib.hid ((HB10.out.trans (hb2'.mono HB10.out.size)).trans (hal2.mono (Nat.le_trans HB10.out.size hb2'.size)))
          clear ha2 hb2' hal2 hcv2
          go_upto_region 25 with fail
          generalize (w11.alloc (.cells #[.string (str t.script), .slice x2 t.qs.length d2] 45)) = w12 at *
          generalize str t.script = SS at *
          have p0 : w12.cell? ⟨w9.heap.size, 0, none⟩ = some (.string SS) := by have := HT12.out; simp [World.cell?, this]
          have p1 : w12.cell? ⟨w9.heap.size, 1, none⟩ = some (.slice x1 t.qs.length d1) := by have := HT12.out; simp [World.cell?, this]
          have p2 : w12.cell? ⟨w11.heap.size, 0, none⟩ = some (.string SS) := by have := HR12.out; simp [World.cell?, this]
          have p3 : w12.cell? ⟨w11.heap.size, 1, none⟩ = some (.slice x2 t.qs.length d2) := by have := HR12.out; simp [World.cell?, this]
          have HSame := Lib.hid (tp_same_calls w12 x1 x2 t.qs.length d1 d2 t.qs HA1'.out HA2'.out)
          generalize t.qs.length = NQ at *
          generalize (t.n : Int) = TN at *
          generalize t.e = TE at *
          go_wp2_with fail
          refine (HSame.out).mono ?_
          rintro e w13 ⟨rfl, hb13⟩
          have HB13 := Lib.hid (HB12.out.trans (hb13.mono HB12.out.size))
          have HPut2 := Lib.hid (frame_put_calls w13 am nm cm ls (HM1.out.below stable_bytesCell HB13.out) (fun r hr => by have := HSm.out r hr; omega) (by have := HFb.out; omega))
          clear hb13 p0 p1 p2 p3
          go_wp2_with fail
          refine (HPut2.out).mono ?_
          rintro e w14 ⟨u14, rfl, hown14, hb14⟩
          obtain ⟨a14, c14, rfl, hby14⟩ := ownsRow_bytes hown14
          have HBy14 := Lib.hid hby14
          have HB14 := Lib.hid (HB13.out.trans (hb14.mono HB13.out.size))
          clear hown14 hby14 hb14
          go_wp2_with fail
          go_roundw
          case rel => exact ⟨j + 1, _, _, _, _, by omega, by go_num, rfl, HBy14.out, by have := HFb.out; omega, HB14.out⟩
          case measure => simp [intOf]; omega
        · have y1 : decide ((j : Int) < 2) = false := decide_eq_false (by omega)
          have y2 : ¬ ((j : Int) < 2) := by omega
          go_wp2_with fail
          go_ret
          exact ⟨rfl, HB1.out.trans (Hbel.out.mono HB1.out.size)⟩
end Go.Proofs.Ytgbnfipbedlmhaa
