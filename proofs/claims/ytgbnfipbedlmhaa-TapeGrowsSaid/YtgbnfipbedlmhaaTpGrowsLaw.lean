/-
  The walk of the statement TapeGrows. Conditions: the arguments can be read.
-/
import Derived.Test.YtgbnfipbedlmhaaTpRefs
import Derived.Test.YtgbnfipbedlmhaaGReg
set_option linter.unusedVariables false
set_option maxRecDepth 100000
namespace Go.Proofs.Ytgbnfipbedlmhaa
open Go.RowKit Base

theorem str_size_le (s : List UInt8) : (str s).size ≤ s.length ∧ s.length ≤ (str s).size := ⟨Nat.le_refl _, Nat.le_refl _⟩
/-- Two writers apart. -/
structure Two (q1 q2 : Nat) (x : World) (va vb : Value) (la lb : List UInt8) : Prop where
  a : WtrAt x q1 va la
  b : WtrAt x q2 vb lb
  ne : q1 ≠ q2
  ab : va.ownBlock ≠ some q2
  ba : vb.ownBlock ≠ some q1
  vv : ∀ g, va.ownBlock = some g → vb.ownBlock ≠ some g
theorem Two.swap {q1 q2 : Nat} {x : World} {va vb : Value} {la lb : List UInt8} (h : Two q1 q2 x va vb la lb) : Two q2 q1 x vb va lb la :=
  ⟨h.b, h.a, h.ne.symm, h.ba, h.ab, fun g h1 h2 => h.vv g h2 h1⟩
theorem Two.below {q1 q2 : Nat} {x y : World} {va vb : Value} {la lb : List UInt8} (h : Two q1 q2 x va vb la lb) (hb : Below x.heap.size x y) : Two q1 q2 y va vb la lb :=
  ⟨h.a.stay hb, h.b.stay hb, h.ne, h.ab, h.ba, h.vv⟩
theorem Two.step {q1 q2 : Nat} {x y : World} {va vb va' : Value} {la lb la' : List UInt8} (h : Two q1 q2 x va vb la lb) (hs : WStep q1 x va y va') (ha : WtrAt y q1 va' la') : Two q1 q2 y va' vb la' lb := by
  refine ⟨ha, h.b.beside hs h.ne.symm h.ab h.ba ?_, h.ne, fun e => h.ab (hs.own _ e h.b.lt), h.ba, fun g h1 h2 => ?_⟩
  · cases hv : vb.ownBlock with
    | none => exact .inl rfl
    | some g => exact .inr (fun e => h.vv g e.symm hv)
  · exact h.vv g (hs.own g h1 (h.b.low h2).2) h2
theorem Two.mk' {q : Nat} {x y : World} {va vb : Value} {la lb : List UInt8} (h : WtrAt x q va la) (hb : Below x.heap.size x y) (h2 : WtrAt y x.heap.size vb lb) : Two q x.heap.size y va vb la lb := by
  have hq := h.lt
  refine ⟨h.stay hb, h2, by omega, fun e => ?_, fun e => ?_, fun g h3 h4 => ?_⟩
  · have := (h.low e).2; omega
  · have := (h2.low e).1; omega
  · have := (h.low h3).2; have := (h2.low h4).1; omega
theorem anss_cells {y : World} {g : Nat} {q : Ans} {ar : Option Addr} {cr : Nat} {t : TypeId} (h : y.heap[g]? = some (.cells (ansCells q ar cr).toArray t)) (hs : Strs y ar q.list.length cr q.list) : Anss y (some ⟨g, 0, none⟩) 1 1 [q] := by
  refine ⟨rfl, Nat.le_refl _, by unfold maxLen; omega, g, 0, .inr rfl, fun k hk => ?_⟩
  have hk' : k = 0 := by simpa using hk
  subst hk'
  refine ⟨ar, cr, fun j u hu => ?_, hs⟩
  have hu' : (ansCells q ar cr)[j]? = some u := hu
  simp [World.cell?, h, hu']
theorem fitN_one (q : Ans) : fitN [q] = if fitsB q.kind q = true then 1 else 0 := by
  unfold fitN
  by_cases h : fitsB q.kind q = true
  · rw [if_pos h, List.takeWhile_cons, if_pos h]; rfl
  · rw [if_neg h, List.takeWhile_cons, if_neg h]; rfl
theorem fitN_take (l : List Ans) : fitN (l.take (fitN l)) = (l.take (fitN l)).length := by
  have hl : (l.take (fitN l)).length = fitN l := by rw [List.length_take]; have := fitN_le l; omega
  refine fitN_eq (fun i hi h => ?_) (Nat.le_refl _) (fun h => absurd h (Nat.lt_irrefl _))
  rw [List.getElem_take]
  rw [hl] at hi
  exact fitN_lt hi (by have := fitN_le l; omega)
theorem wroteA_take (l : List Ans) (f : Nat) : wroteA (l.take f) (l.take f).length = wroteA l f := by
  unfold wroteA
  rw [List.take_length]
set_option maxHeartbeats 16000000 in
theorem tapeGrows_calls (w : World) (s : List UInt8) (hs : s.length ≤ maxLen) (ax : Option Addr) (n cap : Nat) (l : List Ans) (hA : Anss w ax n cap l) (hF : ∀ q ∈ l, q.Fine) :
    Calls Try.prog 6 #[.string (str s), .slice ax n cap] w fun e w' => e = .returned (.bool true) ∧ Below w.heap.size w w' := by
  have HAw := Lib.hid (tp_awake_calls w)
  have hcap := hA.2.2.1
  have hnc := hA.2.1
  unfold maxLen at hcap hs
  obtain ⟨hz1, hz2⟩ := str_size_le s
  obtain ⟨i0, hi, hi1, hi2, hi3⟩ := info_parts info_ans
  have Hn : Hid (n = l.length) := hA.1
  have HA := Lib.hid hA
  have HF := Lib.hid hF
  clear hA hF
  go_enter Try.func6, Try.ntmps6
  go_wp2_with fail
  refine (HAw.out).mono ?_
  rintro e w1 ⟨rfl, hb1⟩
  have HA1 := Lib.hid (HA.out.below stable_ansAt hb1)
  have HB1 := Lib.hid hb1
  have HFew := Lib.hid (tp_few_calls w1 ax n cap l HA1.out)
  clear hb1
  by_cases hfew : fewT l = true
  rotate_left
  · have hff : fewT l = false := by simpa using hfew
    rw [hff] at HFew
    clear hfew hff
    go_wp2_with fail
    refine (HFew.out).mono ?_
    rintro e w2 ⟨rfl, rfl⟩
    go_wp2_with fail
    go_ret
    exact ⟨rfl, HB1.out⟩
  rw [hfew] at HFew
  have HSh : Hid ((∀ q ∈ l, q.Short) ∧ l.length ≤ 40) := (fewT_iff l).1 hfew
  clear hfew
  go_wp2_with fail
  refine (HFew.out).mono ?_
  rintro e w2 ⟨rfl, rfl⟩
  by_cases h4 : 4096 < s.length
  · have t1 : decide ((4096 : Int) < ((str s).size : Int)) = true := decide_eq_true (by omega)
    have t2 : (4096 : Int) < ((str s).size : Int) := by omega
    go_wp2_with fail
    go_ret
    exact ⟨rfl, HB1.out⟩
  have t1 : decide ((4096 : Int) < ((str s).size : Int)) = false := decide_eq_false (by omega)
  have t2 : ¬ ((4096 : Int) < ((str s).size : Int)) := by omega
  have HS4 : Hid (s.length ≤ 4096) := by show _ ≤ _; omega
  have HNew := Lib.hid fun w => new_calls w s HS4.out
  have HHl := Lib.hid (head_len HS4.out)
  have HSF : Hid (∀ q ∈ l, q.Short ∧ q.Fine) := fun q hq => ⟨HSh.out.1 q hq, HF.out q hq⟩
  have HWl : Hid (∀ k, k ≤ fitN l → (wroteA l k).length ≤ k * 3020) := wroteA_le HSF.out (fun i hi h => fitN_lt h hi)
  have HRow : Hid (framesB [headB s] ++ wroteA l (fitN l) = framesB (rowsT s (l.take (fitN l)))) := wrote_rows s l (fitN l)
  go_wp2_with fail
  refine (HNew.out _).mono ?_
  rintro e w2 ⟨rfl, va, hwa, hb2⟩
  have HWa := Lib.hid hwa
  have HB2 := Lib.hid hb2
  clear hwa hb2
  go_wp2_with fail
  refine (HNew.out _).mono ?_
  rintro e w3 ⟨rfl, vb, hwb, hb3⟩
  generalize framesB [headB s] = hd at *
  have hTwo := Two.mk' HWa.out hb3 hwb
  have hB3 := HB2.out.trans (hb3.mono HB2.out.size)
  have hq12 : w1.heap.size ≤ w2.heap.size := HB2.out.size
  have hq3 : w1.heap.size < w3.heap.size := Nat.lt_of_lt_of_le HWa.out.lt hb3.size
  have hla : ∀ j, va.ownBlock = some j → w1.heap.size ≤ j := fun j hj => Nat.le_of_lt (HWa.out.low hj).1
  have HAdd := Lib.hid (add_calls w3 w1.heap.size va hd hTwo.a ax n cap l (fun w' v' hst => HA1.out.below stable_ansAt (hB3.trans (hst.below (Nat.le_of_lt hq3) (Nat.le_refl _) hla))) HSF.out (by have := HSh.out.2; omega) (by have := HHl.out; omega))
  have HTwo := Lib.hid hTwo
  have HB3 := Lib.hid hB3
  have Hq12 := Lib.hid hq12
  have Hq3 := Lib.hid hq3
  have Hla := Lib.hid hla
  clear hq12 hq3 hla
  have HFle : Hid (fitN l ≤ n) := by show _ ≤ _; rw [Hn.out]; exact fitN_le l
  have HN40 : Hid (n ≤ 40) := by show _ ≤ _; rw [Hn.out]; exact HSh.out.2
  obtain ⟨f, hf⟩ : ∃ f, f = fitN l := ⟨_, rfl⟩
  have HFE := Lib.hid hf
  rw [← hf] at HWl HFle HAdd HRow
  clear hf hTwo hB3 hb3 hwb HWa HB2
  generalize hq2 : w2.heap.size = q2 at *
  generalize decide (f = l.length) = bd at *
  clear hq2
  go_wp2_with fail
  refine (HAdd.out).mono ?_
  rintro e w4 ⟨rfl, va4, hwa4, hst4⟩
  have HTwo4 := Lib.hid (HTwo.out.step hst4 hwa4)
  have HB4 : Hid (Below w1.heap.size w1 w4) := HB3.out.trans (hst4.below (Nat.le_of_lt Hq3.out) (Nat.le_refl _) Hla.out)
  have HLa4 : Hid (∀ j, va4.ownBlock = some j → w1.heap.size ≤ j) := fun j hj => Nat.le_of_lt (hwa4.low hj).1
  clear hst4 hwa4
  go_wp2_with fail
  go_loopw [9, 10] (fun al i wr => ∃ (k m : Nat) (b : Bool) (vb : Value), k ≤ n ∧ i = .int .i64 k ∧ al = .bool b ∧ Two w1.heap.size q2 wr va4 vb (hd ++ wroteA l f) (hd ++ wroteA l m) ∧ Below w1.heap.size w1 wr ∧ ((b = true ∧ m = k ∧ k ≤ f) ∨ (b = false ∧ m = f ∧ k = f + 1))) (fun _ i _ => n - (intOf i).toNat)
  case atStart => exact ⟨0, 0, true, vb, Nat.zero_le _, rfl, rfl, by simpa [wroteA, framesB] using HTwo4.out, HB4.out, .inl ⟨rfl, rfl, Nat.zero_le _⟩⟩
  case round =>
    obtain ⟨k, m, b, vb, hk, rfl, rfl, htwo, hbel, hcase⟩ := hrel
    have HBel := Lib.hid hbel
    have HTw := Lib.hid htwo
    clear hbel htwo
    by_cases hgo : k < n ∧ b = true
    · obtain ⟨hlt, rfl⟩ := hgo
      obtain ⟨rfl, hkf⟩ : m = k ∧ k ≤ f := by rcases hcase with ⟨_, h1, h2⟩ | ⟨h1, _⟩; exact ⟨h1, h2⟩; cases h1
      have hkl : m < l.length := by rw [← Hn.out]; exact hlt
      obtain ⟨bb, off, hrow, hidx⟩ := (HA1.out).at (P := Try.prog)
      have hix := fun w' => hidx 22 34 i0 Try.underlying22 hi hi2 .i64 m w' hlt
      obtain ⟨ar, cr, hcells, hstr⟩ := hrow m hkl
      have hx : l[m].Short ∧ l[m].Fine := ⟨HSh.out.1 _ (List.getElem_mem hkl), HF.out _ (List.getElem_mem hkl)⟩
      have hstp := wroteA_step hkl
      have hfit : m < f → fitsB l[m].kind l[m] = true := fun h => fitN_lt (by rw [← HFE.out]; exact h) hkl
      have hnot : m = f → fitsB l[m].kind l[m] = false := fun h => by subst h; have h3 := fitN_at (l := l); rw [← HFE.out] at h3; exact h3 hkl
      have hwl := HWl.out m hkf
      clear hrow hidx hcase
      generalize l[m]'hkl = q at *
      have c0 : wr.cell? ⟨bb, off + m * 7, none⟩ = some (.int .i64 q.kind) := cell_below HBel.out (Nat.le_refl _) (hcells 0 _ rfl)
      have c1 : wr.cell? ⟨bb, off + m * 7 + 1, none⟩ = some (.int .i64 q.err) := cell_below HBel.out (Nat.le_refl _) (hcells 1 _ rfl)
      have c2 : wr.cell? ⟨bb, off + m * 7 + 2, none⟩ = some (.int .i64 q.n) := cell_below HBel.out (Nat.le_refl _) (hcells 2 _ rfl)
      have c3 : wr.cell? ⟨bb, off + m * 7 + 3, none⟩ = some (.int .i64 q.m) := cell_below HBel.out (Nat.le_refl _) (hcells 3 _ rfl)
      have c4 : wr.cell? ⟨bb, off + m * 7 + 4, none⟩ = some (.string (str q.text)) := cell_below HBel.out (Nat.le_refl _) (hcells 4 _ rfl)
      have c5 : wr.cell? ⟨bb, off + m * 7 + 5, none⟩ = some (.slice ar q.list.length cr) := cell_below HBel.out (Nat.le_refl _) (hcells 5 _ rfl)
      have c6 : wr.cell? ⟨bb, off + m * 7 + 6, none⟩ = some (.int .i64 q.sig) := cell_below HBel.out (Nat.le_refl _) (hcells 6 _ rfl)
      have hal := (Below.refl wr.heap.size wr).alloc (Nat.le_refl _) (.cells (ansCells q ar cr).toArray 34)
      have hnew : (wr.alloc (.cells (ansCells q ar cr).toArray 34)).heap[wr.heap.size]? = some (.cells (ansCells q ar cr).toArray 34) := heap_alloc_new wr _
      have hsz : (wr.alloc (.cells (ansCells q ar cr).toArray 34)).heap.size = wr.heap.size + 1 := World.size_alloc _ _
      have HTwA := Lib.hid (HTw.out.below hal)
      have HBA := Lib.hid (HBel.out.trans (hal.mono HBel.out.size))
      have hvb : ∀ j, vb.ownBlock = some j → q2 < j ∧ j < wr.heap.size := fun j hj => HTw.out.b.low hj
      have hq2l := HTw.out.b.lt
      have HLo : Hid (∀ j, vb.ownBlock = some j → w1.heap.size ≤ j) := fun j hj => by have := (hvb j hj).1; have := Hq12.out; omega
      have HAdd2 := Lib.hid (add_calls (wr.alloc (.cells (ansCells q ar cr).toArray 34)) q2 vb (hd ++ wroteA l m) HTwA.out.b (some ⟨wr.heap.size, 0, none⟩) 1 1 [q] (fun w' v' hst =>
        anss_cells (t := 34) ((hst.block wr.heap.size (by omega) (by omega) (fun e => by have := (hvb _ e).2; omega)).trans hnew) (hstr.below stable_strAt (HBA.out.trans (hst.below HBA.out.size Hq12.out HLo.out))))
        (fun x hx' => by rw [List.mem_singleton.1 hx']; exact hx) (by simp) (by rw [List.length_append]; have := HHl.out; have := HFle.out; have := HN40.out; omega))
      clear hal hnew hsz hvb hq2l hcells hstr hwl hx
      have t1 : decide ((m : Int) < (n : Int)) = true := decide_eq_true (by omega)
      have t2 : (m : Int) < (n : Int) := by omega
      by_cases hkf2 : m < f
      · have hft := hfit hkf2
        rw [fitN_one, if_pos hft, show decide (1 = [q].length) = true from rfl, show wroteA [q] 1 = framesB [tellB q] from rfl, List.append_assoc, ← hstp] at HAdd2
        clear hfit hnot hft hstp
        unfold ansCells at HAdd2 HBA HTwA
        go_wp2_with fail
        refine (HAdd2.out).mono ?_
        rintro e w6 ⟨rfl, vb6, hwb6, hst6⟩
        have HTw6 := Lib.hid (HTwA.out.swap.step hst6 hwb6).swap
        have HB6 : Hid (Below w1.heap.size w1 w6) := HBA.out.trans (hst6.below HBA.out.size Hq12.out HLo.out)
        clear hst6 hwb6
        go_wp2_with fail
        go_roundw
        case rel => exact ⟨m + 1, m + 1, true, vb6, by omega, by go_num, rfl, HTw6.out, HB6.out, .inl ⟨rfl, rfl, by omega⟩⟩
        case measure => simp [intOf]; omega
      · have hkf3 : m = f := by omega
        have hft := hnot hkf3
        rw [fitN_one, if_neg (by rw [hft]; decide), show decide (0 = [q].length) = false from rfl, show wroteA [q] 0 = [] from rfl, List.append_nil] at HAdd2
        have HKF := Lib.hid hkf3
        clear hfit hnot hft hstp hkf3
        unfold ansCells at HAdd2 HBA HTwA
        go_wp2_with fail
        refine (HAdd2.out).mono ?_
        rintro e w6 ⟨rfl, vb6, hwb6, hst6⟩
        have HTw6 := Lib.hid (HTwA.out.swap.step hst6 hwb6).swap
        have HB6 : Hid (Below w1.heap.size w1 w6) := HBA.out.trans (hst6.below HBA.out.size Hq12.out HLo.out)
        clear hst6 hwb6
        go_wp2_with fail
        go_roundw
        case rel => exact ⟨m + 1, m, false, vb6, by omega, by go_num, rfl, HTw6.out, HB6.out, .inr ⟨rfl, HKF.out, by rw [HKF.out]⟩⟩
        case measure => simp [intOf]; omega
    · have hmf : m = f := by
        have hfn := HFle.out
        rcases hcase with ⟨rfl, rfl, h2⟩ | ⟨rfl, rfl, h2⟩
        · have : ¬ m < n := fun h => hgo ⟨h, rfl⟩
          omega
        · rfl
      subst hmf
      have h3 : ((decide ((k : Int) < (n : Int)) = true ∧ (k : Int) < (n : Int)) ∧ b = false) ∨ (decide ((k : Int) < (n : Int)) = false ∧ ¬ (k : Int) < (n : Int)) := by
        by_cases hlt : k < n
        · refine .inl ⟨⟨decide_eq_true (by omega), by omega⟩, ?_⟩
          cases b
          · rfl
          · exact absurd ⟨hlt, rfl⟩ hgo
        · exact .inr ⟨decide_eq_false (by omega), by omega⟩
      have hwl := HWl.out m (Nat.le_refl _)
      have HTot : Hid ((hd ++ wroteA l m).length ≤ 200000) := by show _ ≤ _; rw [List.length_append]; have := HHl.out; have := HFle.out; have := HN40.out; omega
      have HBy := Lib.hid (bytes_calls wr _ _ _ HTw.out.a (by have := HTot.out; omega))
      have HLf : Hid ((l.take m).length = m) := by show _ = _; rw [List.length_take]; have := HFle.out; have := Hn.out; omega
      have HRd : Hid (∀ K, EndsF (hd ++ wroteA l m) K → readR (stF (hd ++ wroteA l m) K).1 (stF (hd ++ wroteA l m) K).2 (endE3 (hd ++ wroteA l m) K) = ⟨s, l.take m, (hd ++ wroteA l m).length, 0⟩) := fun K hK => by
        rw [HRow.out] at hK ⊢
        exact readR_whole HS4.out (fun q hq => HSF.out q (List.mem_of_mem_take hq)) (fun q hq => by
          obtain ⟨i, hi, rfl⟩ := List.getElem_of_mem hq
          rw [HLf.out] at hi
          rw [List.getElem_take]
          exact fitN_lt (by rw [← HFE.out]; exact hi) (by have := HFle.out; have := Hn.out; omega)) hK
      have HFT : Hid (fitN (l.take m) = (l.take m).length ∧ wroteA (l.take m) (fitN (l.take m)) = wroteA l m) := by
        have h1 := fitN_take l
        rw [← HFE.out] at h1
        exact ⟨h1, by rw [h1]; exact wroteA_take l m⟩
      clear hgo hcase hwl
      rcases h3 with ⟨⟨t1, t2⟩, rfl⟩ | ⟨t1, t2⟩
      all_goals
        go_wp2_with fail
        refine (HBy.out).mono ?_
        rintro e w5 ⟨u5, rfl, hown5, hb5⟩
        obtain ⟨a5, c5, rfl, hby5⟩ := ownsRow_bytes hown5
        have HRead := Lib.hid (read_calls_at w5 a5 _ c5 _ hby5 (by have := HTot.out; omega) _ _ _ _ HRd.out)
        rw [HLf.out] at HRead
        have HTw5 := Lib.hid (HTw.out.below hb5)
        have HB5 := Lib.hid (HBel.out.trans (hb5.mono HBel.out.size))
        clear hown5 hby5 hb5
        obtain ⟨LN, hLN⟩ : ∃ LN, LN = (hd ++ wroteA l m).length := ⟨_, rfl⟩
        rw [← hLN] at HRead
        rw [← hLN]
        have HLN := Lib.hid hLN
        clear hLN
        go_wp2_with fail
        refine (HRead.out).mono ?_
        rintro e w6 ⟨aa, ca, rfl, hans, hb6⟩
        go_upto_region 18 with fail
        have hal := (Below.refl w6.heap.size w6).alloc (Nat.le_refl _) (.cells #[.string (str s), .slice aa m ca] 41)
        have HT7 : Hid ((w6.alloc (.cells #[.string (str s), .slice aa m ca] 41)).heap[w6.heap.size]? = some (.cells #[.string (str s), .slice aa m ca] 41)) := heap_alloc_new w6 _
        have HB7 := Lib.hid ((HB5.out.trans (hb6.mono HB5.out.size)).trans (hal.mono (Nat.le_trans HB5.out.size hb6.size)))
        have HTw7 := Lib.hid ((HTw5.out.below hb6).below hal)
        have HAns7 := Lib.hid (hans.below stable_ansAt hal)
        clear hal hb6 hans HRead
        generalize (w6.alloc (.cells #[.string (str s), .slice aa m ca] 41)) = w7 at *
        generalize w6.heap.size = PT at *
        have d0 : w7.cell? ⟨PT, 0, none⟩ = some (.string (str s)) := by have := HT7.out; simp [World.cell?, this]
        go_wp2_with fail
        refine (HNew.out _).mono ?_
        rintro e w8 ⟨rfl, vc, hwc, hb8⟩
        have hT8 := (hb8.block _ (Array.getElem?_eq_some_iff.1 HT7.out).1).trans HT7.out
        have d1 : w8.cell? ⟨PT, 1, none⟩ = some (.slice aa m ca) := by simp [World.cell?, hT8]
        have hq7 : w7.heap.size < w8.heap.size := hwc.lt
        have hlc : ∀ j, vc.ownBlock = some j → w7.heap.size ≤ j := fun j hj => Nat.le_of_lt (hwc.low hj).1
        have HAddC := Lib.hid (add_calls w8 w7.heap.size vc hd (by assumption) aa m ca (l.take m) (fun w' v' hst => by
          have h1 := HAns7.out.below stable_ansAt (hb8.trans (hst.below (Nat.le_of_lt hq7) (Nat.le_refl _) hlc))
          exact h1) (fun q hq => HSF.out q (List.mem_of_mem_take hq)) (by rw [HLf.out]; have := HFle.out; have := HN40.out; omega) (by have := HHl.out; omega))
        rw [HFT.out.2, decide_eq_true HFT.out.1] at HAddC
        have Hb8 := Lib.hid hb8
        have Hq7 := Lib.hid hq7
        have Hlc := Lib.hid hlc
        clear hq7 hlc
        clear hT8 hb8 hwc d0
        go_wp2_with fail
        refine (HAddC.out).mono ?_
        rintro e w9 ⟨rfl, vc9, hwc9, hst9⟩
        have hb79 : Below w7.heap.size w7 w9 := Hb8.out.trans (hst9.below (Nat.le_of_lt Hq7.out) (Nat.le_refl _) Hlc.out)
        have HTw9 := Lib.hid (HTw7.out.below hb79)
        have HB9 := Lib.hid (HB7.out.trans (hb79.mono HB7.out.size))
        have HWc := Lib.hid hwc9
        clear hb79 hst9 hwc9 d1
        generalize hd ++ wroteA l m = LA at *
        generalize w7.heap.size = q3 at *
        go_upto_region 22 with fail
        refine Rg.wp_region_rgl [] [Rg.Is (.pointer (some ⟨w1.heap.size, 0, none⟩)), (fun u x => x.ownsRow 0 5 1 u LA.length (LA.map bv)), Rg.Is (.string (str LA)), Rg.Is (.pointer (some ⟨q2, 0, none⟩)), (fun u x => x.ownsRow 0 5 1 u LA.length (LA.map bv)), Rg.Is (.string (str LA)), Rg.Is (.bool true), Rg.Is (.bool true), Rg.Is (.bool true), Rg.Is (.bool true), Rg.Is (.bool true), Rg.Is (.int .i64 0), Rg.Is (.bool true), Rg.Is (.bool true), Rg.Is (.bool true), Rg.Is (.int .i64 (LN : Int)), Rg.Is (.pointer (some ⟨w1.heap.size, 0, none⟩)), (fun u x => x.ownsRow 0 5 1 u LA.length (LA.map bv)), Rg.Is (.int .i64 (LN : Int)), Rg.Is (.bool true), Rg.Is (.bool true), Rg.Is (.bool true), Rg.Is (.pointer (some ⟨q3, 0, none⟩)), (fun u x => x.ownsRow 0 5 1 u LA.length (LA.map bv)), Rg.Is (.string (str LA)), Rg.Is (.pointer (some ⟨w1.heap.size, 0, none⟩)), (fun u x => x.ownsRow 0 5 1 u LA.length (LA.map bv)), Rg.Is (.string (str LA)), Rg.Is (.bool true), Rg.Is (.bool true), Rg.Is (.bool true)] (by kernel_rfl) (by kernel_rfl) (by kernel_rfl) ⟨Rg.st_is _, fun _ _ _ h hb => ownsRow_below h hb, Rg.st_is _, Rg.st_is _, fun _ _ _ h hb => ownsRow_below h hb, Rg.st_is _, Rg.st_is _, Rg.st_is _, Rg.st_is _, Rg.st_is _, Rg.st_is _, Rg.st_is _, Rg.st_is _, Rg.st_is _, Rg.st_is _, Rg.st_is _, Rg.st_is _, fun _ _ _ h hb => ownsRow_below h hb, Rg.st_is _, Rg.st_is _, Rg.st_is _, Rg.st_is _, Rg.st_is _, fun _ _ _ h hb => ownsRow_below h hb, Rg.st_is _, Rg.st_is _, fun _ _ _ h hb => ownsRow_below h hb, Rg.st_is _, Rg.st_is _, Rg.st_is _, Rg.st_is _, trivial⟩ ⟨rfl, rfl, rfl, rfl, rfl, rfl, rfl, rfl, ⟨rfl, fun _ _ h => h⟩, rfl, rfl, ⟨rfl, fun _ _ h => h⟩, ⟨rfl, fun _ _ h => h⟩, rfl, rfl, ⟨rfl, fun _ _ h => h⟩, ⟨rfl, fun _ _ h => h⟩, ⟨rfl, fun _ _ h => h⟩, ⟨rfl, fun _ _ h => h⟩, ⟨rfl, fun _ _ h => h⟩, rfl, rfl, ⟨rfl, fun _ _ h => h⟩, ⟨rfl, fun _ _ h => h⟩, ⟨rfl, fun _ _ h => h⟩, ⟨rfl, fun _ _ h => h⟩, ⟨rfl, fun _ _ h => h⟩, ⟨rfl, fun _ _ h => h⟩, ⟨rfl, fun _ _ h => h⟩, rfl, rfl, trivial⟩ ⟨?_, ?_, ?_, ?_, ?_, ?_, ?_, ?_, ?_, ?_, ?_, ?_, ?_, ?_, ?_, ?_, ?_, ?_, ?_, ?_, ?_, ?_, ?_, ?_, ?_, ?_, ?_, ?_, ?_, ?_, ?_, trivial⟩ ?_
        · intro _ a wx hb hk
          have h7 : a.eval (.tmp 7) = .pointer (some ⟨w1.heap.size, 0, none⟩) := Eq.mp (by kernel_rfl) (hk 7 (by decide))
          exact Rg.does_move ⟨Below.refl _ _, h7⟩
        · intro _ a wx hb hk
          have h73 : a.eval (.tmp 73) = .pointer (some ⟨w1.heap.size, 0, none⟩) := Eq.mp (by kernel_rfl) (hk 73 (by decide))
          refine Rg.does_func #[.pointer (some ⟨w1.heap.size, 0, none⟩)] Try.func12 (by kernel_rfl) (by kernel_rfl) (by simp [h73]) (bytes_calls wx _ _ _ (WtrAt.stay HTw9.out.a hb) (by have := HTot.out; omega)) ?_
          rintro e w' ⟨u, rfl, ho, hb'⟩
          exact ⟨u, rfl, hb', ownsRow_mono ho (Nat.zero_le _)⟩
        · intro _ a wx hb hk
          have h74 : (fun u x => x.ownsRow 0 5 1 u LA.length (LA.map bv)) (a.eval (.tmp 74)) wx := Eq.mp (by kernel_rfl) (hk 74 (by decide))
          obtain ⟨a', c', he, hby⟩ := ownsRow_bytes h74
          exact Rg.does_convert _ _ he (str_bytes hby) ⟨Below.refl _ _, rfl⟩
        · intro _ a wx hb hk
          have h8 : a.eval (.tmp 8) = .pointer (some ⟨q2, 0, none⟩) := Eq.mp (by kernel_rfl) (hk 8 (by decide))
          exact Rg.does_move ⟨Below.refl _ _, h8⟩
        · intro _ a wx hb hk
          have h76 : a.eval (.tmp 76) = .pointer (some ⟨q2, 0, none⟩) := Eq.mp (by kernel_rfl) (hk 76 (by decide))
          refine Rg.does_func #[.pointer (some ⟨q2, 0, none⟩)] Try.func12 (by kernel_rfl) (by kernel_rfl) (by simp [h76]) (bytes_calls wx _ _ _ (WtrAt.stay HTw9.out.b hb) (by have := HTot.out; omega)) ?_
          rintro e w' ⟨u, rfl, ho, hb'⟩
          exact ⟨u, rfl, hb', ownsRow_mono ho (Nat.zero_le _)⟩
        · intro _ a wx hb hk
          have h77 : (fun u x => x.ownsRow 0 5 1 u LA.length (LA.map bv)) (a.eval (.tmp 77)) wx := Eq.mp (by kernel_rfl) (hk 77 (by decide))
          obtain ⟨a', c', he, hby⟩ := ownsRow_bytes h77
          exact Rg.does_convert _ _ he (str_bytes hby) ⟨Below.refl _ _, rfl⟩
        · intro _ a wx hb hk
          have h75 : a.eval (.tmp 75) = .string (str LA) := Eq.mp (by kernel_rfl) (hk 75 (by decide))
          have h78 : a.eval (.tmp 78) = .string (str LA) := Eq.mp (by kernel_rfl) (hk 78 (by decide))
          exact Rg.does_same_string _ h75 h78 ⟨Below.refl _ _, rfl⟩
        · intro _ a wx hb hk
          have h79 : a.eval (.tmp 79) = .bool true := Eq.mp (by kernel_rfl) (hk 79 (by decide))
          exact Rg.does_move ⟨Below.refl _ _, h79⟩
        · intro _ a wx hb hk
          have h15 : a.eval (.tmp 15) = .bool true := Eq.mp (by kernel_rfl) (hk 15 (by decide))
          exact Rg.does_move ⟨Below.refl _ _, h15⟩
        · intro _ a wx hb hk
          have h80 : a.eval (.tmp 80) = .bool true := Eq.mp (by kernel_rfl) (hk 80 (by decide))
          have h81 : a.eval (.tmp 81) = .bool true := Eq.mp (by kernel_rfl) (hk 81 (by decide))
          exact Rg.does_pick true h80 ⟨Below.refl _ _, h81⟩
        · intro _ a wx hb hk
          have h82 : a.eval (.tmp 82) = .bool true := Eq.mp (by kernel_rfl) (hk 82 (by decide))
          exact Rg.does_move ⟨Below.refl _ _, h82⟩
        · intro _ a wx hb hk
          have h13 : a.eval (.tmp 13) = .int .i64 0 := Eq.mp (by kernel_rfl) (hk 13 (by decide))
          exact Rg.does_move ⟨Below.refl _ _, h13⟩
        · intro _ a wx hb hk
          have h84 : a.eval (.tmp 84) = .int .i64 0 := Eq.mp (by kernel_rfl) (hk 84 (by decide))
          exact Rg.does_same_int _ _ h84 rfl ⟨Below.refl _ _, rfl⟩
        · intro _ a wx hb hk
          have h83 : a.eval (.tmp 83) = .bool true := Eq.mp (by kernel_rfl) (hk 83 (by decide))
          have h85 : a.eval (.tmp 85) = .bool true := Eq.mp (by kernel_rfl) (hk 85 (by decide))
          exact Rg.does_pick true h83 ⟨Below.refl _ _, h85⟩
        · intro _ a wx hb hk
          have h86 : a.eval (.tmp 86) = .bool true := Eq.mp (by kernel_rfl) (hk 86 (by decide))
          exact Rg.does_move ⟨Below.refl _ _, h86⟩
        · intro _ a wx hb hk
          have h12 : a.eval (.tmp 12) = .int .i64 (LN : Int) := Eq.mp (by kernel_rfl) (hk 12 (by decide))
          exact Rg.does_move ⟨Below.refl _ _, h12⟩
        · intro _ a wx hb hk
          have h7 : a.eval (.tmp 7) = .pointer (some ⟨w1.heap.size, 0, none⟩) := Eq.mp (by kernel_rfl) (hk 7 (by decide))
          exact Rg.does_move ⟨Below.refl _ _, h7⟩
        · intro _ a wx hb hk
          have h89 : a.eval (.tmp 89) = .pointer (some ⟨w1.heap.size, 0, none⟩) := Eq.mp (by kernel_rfl) (hk 89 (by decide))
          refine Rg.does_func #[.pointer (some ⟨w1.heap.size, 0, none⟩)] Try.func12 (by kernel_rfl) (by kernel_rfl) (by simp [h89]) (bytes_calls wx _ _ _ (WtrAt.stay HTw9.out.a hb) (by have := HTot.out; omega)) ?_
          rintro e w' ⟨u, rfl, ho, hb'⟩
          exact ⟨u, rfl, hb', ownsRow_mono ho (Nat.zero_le _)⟩
        · intro _ a wx hb hk
          have h90 : (fun u x => x.ownsRow 0 5 1 u LA.length (LA.map bv)) (a.eval (.tmp 90)) wx := Eq.mp (by kernel_rfl) (hk 90 (by decide))
          obtain ⟨a', c', he, hby⟩ := ownsRow_bytes h90
          exact Rg.does_len _ _ _ Try.underlying28 he ⟨Below.refl _ _, by show Value.int .i64 _ = _; rw [HLN.out]⟩
        · intro _ a wx hb hk
          have h88 : a.eval (.tmp 88) = .int .i64 (LN : Int) := Eq.mp (by kernel_rfl) (hk 88 (by decide))
          have h91 : a.eval (.tmp 91) = .int .i64 (LN : Int) := Eq.mp (by kernel_rfl) (hk 91 (by decide))
          exact Rg.does_same_int _ _ h88 h91 ⟨Below.refl _ _, rfl⟩
        · intro _ a wx hb hk
          have h87 : a.eval (.tmp 87) = .bool true := Eq.mp (by kernel_rfl) (hk 87 (by decide))
          have h92 : a.eval (.tmp 92) = .bool true := Eq.mp (by kernel_rfl) (hk 92 (by decide))
          exact Rg.does_pick true h87 ⟨Below.refl _ _, h92⟩
        · intro _ a wx hb hk
          have h93 : a.eval (.tmp 93) = .bool true := Eq.mp (by kernel_rfl) (hk 93 (by decide))
          exact Rg.does_move ⟨Below.refl _ _, h93⟩
        · intro _ a wx hb hk
          have h14 : a.eval (.tmp 14) = .pointer (some ⟨q3, 0, none⟩) := Eq.mp (by kernel_rfl) (hk 14 (by decide))
          exact Rg.does_move ⟨Below.refl _ _, h14⟩
        · intro _ a wx hb hk
          have h95 : a.eval (.tmp 95) = .pointer (some ⟨q3, 0, none⟩) := Eq.mp (by kernel_rfl) (hk 95 (by decide))
          refine Rg.does_func #[.pointer (some ⟨q3, 0, none⟩)] Try.func12 (by kernel_rfl) (by kernel_rfl) (by simp [h95]) (bytes_calls wx _ _ _ (WtrAt.stay HWc.out hb) (by have := HTot.out; omega)) ?_
          rintro e w' ⟨u, rfl, ho, hb'⟩
          exact ⟨u, rfl, hb', ownsRow_mono ho (Nat.zero_le _)⟩
        · intro _ a wx hb hk
          have h96 : (fun u x => x.ownsRow 0 5 1 u LA.length (LA.map bv)) (a.eval (.tmp 96)) wx := Eq.mp (by kernel_rfl) (hk 96 (by decide))
          obtain ⟨a', c', he, hby⟩ := ownsRow_bytes h96
          exact Rg.does_convert _ _ he (str_bytes hby) ⟨Below.refl _ _, rfl⟩
        · intro _ a wx hb hk
          have h7 : a.eval (.tmp 7) = .pointer (some ⟨w1.heap.size, 0, none⟩) := Eq.mp (by kernel_rfl) (hk 7 (by decide))
          exact Rg.does_move ⟨Below.refl _ _, h7⟩
        · intro _ a wx hb hk
          have h98 : a.eval (.tmp 98) = .pointer (some ⟨w1.heap.size, 0, none⟩) := Eq.mp (by kernel_rfl) (hk 98 (by decide))
          refine Rg.does_func #[.pointer (some ⟨w1.heap.size, 0, none⟩)] Try.func12 (by kernel_rfl) (by kernel_rfl) (by simp [h98]) (bytes_calls wx _ _ _ (WtrAt.stay HTw9.out.a hb) (by have := HTot.out; omega)) ?_
          rintro e w' ⟨u, rfl, ho, hb'⟩
          exact ⟨u, rfl, hb', ownsRow_mono ho (Nat.zero_le _)⟩
        · intro _ a wx hb hk
          have h99 : (fun u x => x.ownsRow 0 5 1 u LA.length (LA.map bv)) (a.eval (.tmp 99)) wx := Eq.mp (by kernel_rfl) (hk 99 (by decide))
          obtain ⟨a', c', he, hby⟩ := ownsRow_bytes h99
          exact Rg.does_convert _ _ he (str_bytes hby) ⟨Below.refl _ _, rfl⟩
        · intro _ a wx hb hk
          have h97 : a.eval (.tmp 97) = .string (str LA) := Eq.mp (by kernel_rfl) (hk 97 (by decide))
          have h100 : a.eval (.tmp 100) = .string (str LA) := Eq.mp (by kernel_rfl) (hk 100 (by decide))
          exact Rg.does_same_string _ h97 h100 ⟨Below.refl _ _, rfl⟩
        · intro _ a wx hb hk
          have h94 : a.eval (.tmp 94) = .bool true := Eq.mp (by kernel_rfl) (hk 94 (by decide))
          have h101 : a.eval (.tmp 101) = .bool true := Eq.mp (by kernel_rfl) (hk 101 (by decide))
          exact Rg.does_pick true h94 ⟨Below.refl _ _, h101⟩
        · intro _ a wx hb hk
          have h102 : a.eval (.tmp 102) = .bool true := Eq.mp (by kernel_rfl) (hk 102 (by decide))
          exact Rg.does_assign ⟨Below.refl _ _, h102⟩
        intro vals wD hbD hL
        obtain ⟨g0, g1, g2, g3, g4, g5, g6, g7, g8, g9, g10, g11, g12, g13, g14, g15, g16, g17, g18, g19, g20, g21, g22, g23, g24, g25, g26, g27, g28, g29, g30, _⟩ := hL
        have g30' : vals 30 = .bool true := g30
        have HBD := Lib.hid hbD
        clear g0 g1 g2 g3 g4 g5 g6 g7 g8 g9 g10 g11 g12 g13 g14 g15 g16 g17 g18 g19 g20 g21 g22 g23 g24 g25 g26 g27 g28 g29 g30 hbD
        simp only [Rg.putAll, List.setIfInBounds_toArray, List.set_cons_succ, List.set_cons_zero, g30']
        clear g30'
        go_wp2_with fail
        go_ret
        exact ⟨rfl, HB1.out.trans ((HB9.out.trans (HBD.out.mono HB9.out.size)).mono HB1.out.size)⟩
end Go.Proofs.Ytgbnfipbedlmhaa
