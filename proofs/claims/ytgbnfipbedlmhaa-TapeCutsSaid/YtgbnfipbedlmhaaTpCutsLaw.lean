/-
  The walk of the statement TapeCuts. Conditions: the arguments can be read.
-/
import Derived.Test.YtgbnfipbedlmhaaTpRefs
import Derived.Test.YtgbnfipbedlmhaaGReg
set_option linter.unusedVariables false
set_option maxRecDepth 100000
namespace Go.Proofs.Ytgbnfipbedlmhaa
open Go.RowKit Base

theorem does_same_bool {P : Program} {a : Act} {w : World} {post : Value → World → Prop} {dst : Option Tmp} {x y : Operand} {t u : TypeId} {ty : TypeId} {pos : String} {after : Array Edge} {guard : Option (Nat × Bool)} (m : Bool)
    (ht : P.underlying t = some .bool) (hx : a.eval x = .bool m) (hy : a.eval y = .bool m) (hp : post (.bool true) w) : Rg.does P { dst, op := .binOp .eql t x y u, type := ty, pos, after, guard } a w post := by
  refine Rg.does_value (v := .bool true) ?_ hp
  have h := run_eql_bool (P := P) (w := w) t m m ht
  rw [beq_self_eq_true] at h
  simp [execOp, hx, hy, eqGuard_at_bool, h, Result.andThen]
theorem str_size_le (s : List UInt8) : (str s).size ≤ s.length ∧ s.length ≤ (str s).size := ⟨Nat.le_refl _, Nat.le_refl _⟩
/-- The last number of rows that has room. -/
theorem last_le (f : Nat → Nat) (k : Nat) (h0 : f 0 ≤ k) : ∀ n, ∃ m, m ≤ n ∧ (∀ j, j ≤ m → f j ≤ k) ∧ (m = n ∨ k < f (m + 1)) := by
  intro n
  induction n with
  | zero =>
    refine ⟨0, Nat.le_refl _, fun j hj => ?_, .inl rfl⟩
    have e : j = 0 := by omega
    rw [e]
    exact h0
  | succ n ih =>
    obtain ⟨m, h1, h2, h3⟩ := ih
    rcases h3 with rfl | h3
    · by_cases h : f (m + 1) ≤ k
      · refine ⟨m + 1, Nat.le_refl _, fun j hj => ?_, .inl rfl⟩
        by_cases e : j = m + 1
        · rw [e]; exact h
        · exact h2 j (by omega)
      · exact ⟨m, by omega, h2, .inr (by omega)⟩
    · exact ⟨m, by omega, h2, .inr h3⟩
theorem rowsT_take (s : List UInt8) (l : List Ans) (m : Nat) : (rowsT s l).take (m + 1) = rowsT s (l.take m) := by
  unfold rowsT
  rw [List.take_succ_cons, List.map_take]
theorem rowsT_next (s : List UInt8) (l : List Ans) (m : Nat) (hm : m < l.length) : framesB (rowsT s (l.take (m + 1))) = framesB (rowsT s (l.take m)) ++ oneF (tellB l[m]) := by
  unfold rowsT
  rw [List.take_succ_eq_append_getElem hm, List.map_append, List.map_cons, List.map_nil, ← List.cons_append, framesB_snoc]
theorem rowsT_get (s : List UInt8) (l : List Ans) (m : Nat) (hm : m < l.length) (h : m + 1 < (rowsT s l).length) : (rowsT s l)[m + 1] = tellB l[m] := by
  have h1 : (rowsT s l)[m + 1]? = some (tellB l[m]) := by
    unfold rowsT
    rw [List.getElem?_cons_succ, List.getElem?_map, List.getElem?_eq_getElem hm]
    rfl
  rw [List.getElem?_eq_getElem h] at h1
  exact Option.some.inj h1
theorem cut_early {s : List UInt8} {l : List Ans} (hs : s.length ≤ 4096) (hl : ∀ q ∈ l, q.Short ∧ q.Fine) (hf : ∀ q ∈ l, fitsB q.kind q = true) (k : Nat) (hk : k ≤ (framesB (rowsT s l)).length) (h : k < (framesB [headB s]).length) {K : Nat} (hK : EndsF ((framesB (rowsT s l)).take k) K) :
    readR (stF ((framesB (rowsT s l)).take k) K).1 (stF ((framesB (rowsT s l)).take k) K).2 (endE3 ((framesB (rowsT s l)).take k) K) = ⟨[], [], 0, 10⟩ := by
  obtain ⟨h1, h2, h3⟩ := cut_frames (rowsT s l) (rowsT_short hs hl hf) k 0 (Nat.zero_le _) (Nat.zero_le _) hk (fun hn => by
    rw [framesB_one] at h
    have : (rowsT s l)[0] = headB s := rfl
    rw [this]
    have : (framesB ((rowsT s l).take 0)).length = 0 := rfl
    omega)
  obtain rfl := endsF_one h1 hK
  rw [h2, h3]
  have e : (framesB ((rowsT s l).take 0)).length = 0 := rfl
  rw [e]
  show readR [] 0 _ = _
  unfold readR
  by_cases h0 : 0 = k
  · simp [h0]
  · simp [h0]
theorem cut_late {s : List UInt8} {l : List Ans} (hs : s.length ≤ 4096) (hl : ∀ q ∈ l, q.Short ∧ q.Fine) (hf : ∀ q ∈ l, fitsB q.kind q = true) (k : Nat) (hk : k ≤ (framesB (rowsT s l)).length) (m : Nat) (hm : m ≤ l.length)
    (h1 : (framesB (rowsT s (l.take m))).length ≤ k) (h2 : m = l.length ∨ k < (framesB (rowsT s (l.take (m + 1)))).length) {K : Nat} (hK : EndsF ((framesB (rowsT s l)).take k) K) :
    readR (stF ((framesB (rowsT s l)).take k) K).1 (stF ((framesB (rowsT s l)).take k) K).2 (endE3 ((framesB (rowsT s l)).take k) K) = ⟨s, l.take m, (framesB (rowsT s (l.take m))).length, if (framesB (rowsT s (l.take m))).length = k then 0 else 10⟩ := by
  have hlen : (rowsT s l).length = l.length + 1 := by unfold rowsT; simp
  obtain ⟨g1, g2, g3⟩ := cut_frames (rowsT s l) (rowsT_short hs hl hf) k (m + 1) (by omega) (by rw [rowsT_take]; exact h1) hk (fun hn => by
    rcases h2 with h2 | h2
    · omega
    · have hml : m < l.length := by omega
      rw [rowsT_next s l m hml, List.length_append] at h2
      rw [rowsT_get s l m hml hn, rowsT_take]
      exact h2)
  obtain rfl := endsF_one g1 hK
  rw [g2, g3, rowsT_take]
  exact readR_written s hs (l.take m) (fun a ha => ⟨(hl a (List.mem_of_mem_take ha)).2, hf a (List.mem_of_mem_take ha)⟩) _ _
theorem tape_f0 (b o : Nat) (w : World) : (Instr.fieldAt 41 (.pointer (some ⟨b, o, none⟩)) 0).run Try.prog w = .ok (.pointer (some ⟨b, o, none⟩)) w := by rfl
theorem tape_f1 (b o : Nat) (w : World) : (Instr.fieldAt 41 (.pointer (some ⟨b, o, none⟩)) 1).run Try.prog w = .ok (.pointer (some ⟨b, o + 1, none⟩)) w := by rfl
theorem load_anss {w : World} {ad : Addr} {v : Value} (h : w.cell? ad = some v) : (Instr.loadAt 22 (.pointer (some ad))).run Try.prog w = .ok v w := load_plain (by simp [isAgg]) h
set_option maxHeartbeats 16000000 in
theorem tapeCuts_calls (w : World) (s : List UInt8) (hs : s.length ≤ maxLen) (ax : Option Addr) (n cap : Nat) (l : List Ans) (hA : Anss w ax n cap l) (hF : ∀ q ∈ l, q.Fine) (cu : Nat) (hcu : cu ≤ 65535) :
    Calls Try.prog 5 #[.string (str s), .slice ax n cap, .int .u16 (cu : Int)] w fun e w' => e = .returned (.bool true) ∧ Below w.heap.size w w' := by
  have HAw := Lib.hid (tp_awake_calls w)
  have hcap := hA.2.2.1
  have hnc := hA.2.1
  unfold maxLen at hcap hs
  obtain ⟨hz1, hz2⟩ := str_size_le s
  obtain ⟨i0, hi, hi1, hi2, hi3⟩ := info_parts info_ans
  have Hn : Hid (n = l.length) := hA.1
  have HA := Lib.hid hA
  have HF := Lib.hid hF
  clear hA hF
  go_enter Try.func5, Try.ntmps5
  go_wp2_with fail
  refine (HAw.out).mono ?_
  rintro e w1 ⟨rfl, hb1⟩
  have HA1 := Lib.hid (HA.out.below stable_ansAt hb1)
  have HB1 := Lib.hid hb1
  have HFew := Lib.hid (tp_few_calls w1 ax n cap l HA1.out)
  clear hb1
  by_cases hfew : fewT l = true
  rotate_left
  · have hff : fewT l = false := by simpa using hfew
    rw [hff] at HFew
    clear hfew hff
    go_wp2_with fail
    refine (HFew.out).mono ?_
    rintro e w2 ⟨rfl, rfl⟩
    go_wp2_with fail
    go_ret
    exact ⟨rfl, HB1.out⟩
  rw [hfew] at HFew
  have HSh : Hid ((∀ q ∈ l, q.Short) ∧ l.length ≤ 40) := (fewT_iff l).1 hfew
  clear hfew
  go_wp2_with fail
  refine (HFew.out).mono ?_
  rintro e w2 ⟨rfl, rfl⟩
  by_cases h4 : 4096 < s.length
  · have t1 : decide ((4096 : Int) < ((str s).size : Int)) = true := decide_eq_true (by omega)
    have t2 : (4096 : Int) < ((str s).size : Int) := by omega
    go_wp2_with fail
    go_ret
    exact ⟨rfl, HB1.out⟩
  have t1 : decide ((4096 : Int) < ((str s).size : Int)) = false := decide_eq_false (by omega)
  have t2 : ¬ ((4096 : Int) < ((str s).size : Int)) := by omega
  have HS4 : Hid (s.length ≤ 4096) := by show _ ≤ _; omega
  have HNew := Lib.hid (new_calls w1 s HS4.out)
  have HHl := Lib.hid (head_len HS4.out)
  have HSF : Hid (∀ q ∈ l, q.Short ∧ q.Fine) := fun q hq => ⟨HSh.out.1 q hq, HF.out q hq⟩
  go_wp2_with fail
  refine (HNew.out).mono ?_
  rintro e w2 ⟨rfl, v2, hw2, hb2⟩
  have HWl : Hid (∀ k, k ≤ fitN l → (wroteA l k).length ≤ k * 3020) := wroteA_le HSF.out (fun i hi h => fitN_lt h hi)
  have hq2 : w1.heap.size < w2.heap.size := hw2.lt
  have hlow : ∀ j, v2.ownBlock = some j → w1.heap.size ≤ j := fun j hj => Nat.le_of_lt (hw2.low hj).1
  have HAdd := Lib.hid (add_calls w2 w1.heap.size v2 (framesB [headB s]) hw2 ax n cap l (fun w' v' hst => HA1.out.below stable_ansAt (hb2.trans (hst.below (Nat.le_of_lt hq2) (Nat.le_refl _) hlow))) HSF.out (by have := HSh.out.2; omega) (by have := HHl.out; omega))
  have Hw2 := Lib.hid hw2
  have Hb2 := Lib.hid hb2
  have Hq2 := Lib.hid hq2
  have Hlow := Lib.hid hlow
  clear hw2 hb2 hq2 hlow
  by_cases hfit : fitN l = l.length
  rotate_left
  · rw [decide_eq_false hfit] at HAdd
    clear hfit
    go_wp2_with fail
    refine (HAdd.out).mono ?_
    rintro e w4 ⟨rfl, v4, hw4, hst4⟩
    have HB4 : Hid (Below w.heap.size w w4) := HB1.out.trans ((Hb2.out.trans (hst4.below (Nat.le_of_lt Hq2.out) (Nat.le_refl _) Hlow.out)).mono HB1.out.size)
    clear hw4 hst4
    go_wp2_with fail
    go_ret
    exact ⟨rfl, HB4.out⟩
  have HFit := Lib.hid (fitN_all hfit)
  have HTot : Hid ((framesB (rowsT s l)).length ≤ 200000) := by show (framesB (rowsT s l)).length ≤ 200000; have h0 := wrote_rows s l l.length; rw [List.take_length] at h0; rw [← h0, List.length_append]; have := HHl.out; have := HWl.out _ (Nat.le_refl _); rw [hfit] at this; have := HSh.out.2; omega
  rw [decide_eq_true hfit, hfit, wrote_rows, List.take_length] at HAdd
  clear hfit
  go_wp2_with fail
  refine (HAdd.out).mono ?_
  rintro e w4 ⟨rfl, v4, hw4, hst4⟩
  have HB4 : Hid (Below w1.heap.size w1 w4) := Hb2.out.trans (hst4.below (Nat.le_of_lt Hq2.out) (Nat.le_refl _) Hlow.out)
  have HBy := Lib.hid (bytes_calls w4 _ _ _ hw4 (by have := HTot.out; omega))
  clear hw4 hst4
  go_wp2_with fail
  refine (HBy.out).mono ?_
  rintro e w5 ⟨u5, rfl, hown5, hb5⟩
  obtain ⟨a5, c5, rfl, hby5⟩ := ownsRow_bytes hown5
  have HB5 := Lib.hid (HB4.out.trans (hb5.mono HB4.out.size))
  obtain ⟨L, hL⟩ : ∃ L, L = (framesB (rowsT s l)).length := ⟨_, rfl⟩
  have hLb : L ≤ 200000 := by have := HTot.out; omega
  rw [← hL] at hby5
  rw [← hL]
  have HLb := Lib.hid hL
  have hLc := hby5.2.1
  have hLm := hby5.2.2.1
  unfold maxLen at hLm
  obtain ⟨k, hk2⟩ : ∃ k2 : Nat, k2 = cu % (L + 1) := ⟨_, rfl⟩
  have hkl : k ≤ L := by have := Nat.mod_lt cu (show 0 < L + 1 by omega); omega
  have hkI : (cu : Int) % ((L : Int) + 1) = (k : Int) := by rw [hk2]; simp
  have hkT : Int.tmod (cu : Int) ((L : Int) + 1) = (k : Int) := by rw [← hkI]; exact Int.tmod_eq_emod_of_nonneg (by omega)
  obtain ⟨as2, hsub, hS⟩ := sub_bytes hby5 0 k (by omega) hkl
  have hsl : ∀ w', (Instr.slice 28 (.slice a5 L c5) none (some (.int .i64 (k : Int))) none).run Try.prog w' = .ok (.slice as2 k c5) w' := fun w' => (hS w').2.1 rfl .i64
  rw [List.drop_zero] at hsub
  have hsub' : Bytes w5 as2 k c5 ((framesB (rowsT s l)).take k) := hsub
  clear hk2 hown5 hby5 hb5 hS hL hsub
  have HKL : Hid (k ≤ (framesB (rowsT s l)).length) := by show k ≤ (framesB (rowsT s l)).length; rw [← HLb.out]; exact hkl
  by_cases hearly : k < (framesB [headB s]).length
  · have HRead := Lib.hid (read_calls_at w5 as2 k c5 _ hsub' (by omega) [] [] 0 10 (fun K hK => cut_early HS4.out HSF.out HFit.out k HKL.out hearly hK))
    have HHead := Lib.hid fun w => ref_head_calls w s (by have := HS4.out; omega)
    obtain ⟨y1, y2⟩ := str_size_le (framesB [headB s])
    have v3 : decide (k < (str (framesB [headB s])).size) = true := decide_eq_true (by omega)
    have v1 : decide ((k : Int) < ((str (framesB [headB s])).size : Int)) = true := decide_eq_true (by omega)
    have v2 : (k : Int) < ((str (framesB [headB s])).size : Int) := by omega
    clear hsub' hearly
    generalize str (framesB [headB s]) = HD at *
    go_wp2_with fail
    refine (HRead.out).mono ?_
    rintro e w6 ⟨aa, ca, he, _, hb6⟩
    replace he : e = .returned (.tuple #[.agg #[.string ⟨#[]⟩, .slice aa 0 ca], .int .i64 0, .int .i64 10]) := he
    subst he
    have hal := (Below.refl w6.heap.size w6).alloc (Nat.le_refl _) (.cells #[.string ⟨#[]⟩, .slice aa 0 ca] 41)
    have HT6 : Hid ((w6.alloc (.cells #[.string ⟨#[]⟩, .slice aa 0 ca] 41)).heap[w6.heap.size]? = some (.cells #[.string ⟨#[]⟩, .slice aa 0 ca] 41)) := heap_alloc_new w6 _
    have HB6 := Lib.hid ((HB5.out.trans (hb6.mono HB5.out.size)).trans (hal.mono (Nat.le_trans HB5.out.size hb6.size)))
    clear hal hb6
    go_wp2_with fail
    refine (HHead.out _).mono ?_
    rintro e w7 ⟨rfl, hb7⟩
    have hT7 := (hb7.block _ (Array.getElem?_eq_some_iff.1 HT6.out).1).trans HT6.out
    have d0 : w7.cell? ⟨w6.heap.size, 0, none⟩ = some (.string ⟨#[]⟩) := by simp [World.cell?, hT7]
    have d1 : w7.cell? ⟨w6.heap.size, 1, none⟩ = some (.slice aa 0 ca) := by simp [World.cell?, hT7]
    have HB7 := Lib.hid (HB6.out.trans (hb7.mono HB6.out.size))
    clear hT7 hb7
    go_wp2_with fail
    go_ret
    exact ⟨rfl, HB1.out.trans (HB7.out.mono HB1.out.size)⟩
  have h00 : (framesB (rowsT s (l.take 0))).length ≤ k := by have : rowsT s (l.take 0) = [headB s] := rfl; rw [this]; omega
  obtain ⟨m, hml, hmk, hmc⟩ := last_le (fun m => (framesB (rowsT s (l.take m))).length) k h00 l.length
  have HRead := Lib.hid (read_calls_at w5 as2 k c5 _ hsub' (by omega) s (l.take m) _ _ (fun K hK => cut_late HS4.out HSF.out HFit.out k HKL.out m hml (hmk m (Nat.le_refl _)) hmc hK))
  have HHead := Lib.hid fun w => ref_head_calls w s (by have := HS4.out; omega)
  obtain ⟨y1, y2⟩ := str_size_le (framesB [headB s])
  have v3 : decide (k < (str (framesB [headB s])).size) = false := decide_eq_false (by omega)
  have v1 : decide ((k : Int) < ((str (framesB [headB s])).size : Int)) = false := decide_eq_false (by omega)
  have v2 : ¬ ((k : Int) < ((str (framesB [headB s])).size : Int)) := by omega
  have hcase : ((framesB (rowsT s (l.take m))).length = k ∧ (if (framesB (rowsT s (l.take m))).length = k then (0 : Int) else 10) = 0) ∨ ((framesB (rowsT s (l.take m))).length ≠ k ∧ (if (framesB (rowsT s (l.take m))).length = k then (0 : Int) else 10) = 10) := by
    by_cases h : (framesB (rowsT s (l.take m))).length = k
    · exact .inl ⟨h, if_pos h⟩
    · exact .inr ⟨h, if_neg h⟩
  generalize (if (framesB (rowsT s (l.take m))).length = k then (0 : Int) else 10) = er at *
  have HLm : Hid ((l.take m).length = m) := by show _ = _; rw [List.length_take]; omega
  rw [HLm.out] at HRead
  have HMk : Hid (∀ j, j ≤ m → (framesB (rowsT s (l.take j))).length ≤ k) := hmk
  have HMc : Hid (m = l.length ∨ k < (framesB (rowsT s (l.take (m + 1)))).length) := hmc
  have HML : Hid (m ≤ l.length) := hml
  have hmn : m ≤ n := by rw [Hn.out]; exact hml
  have HHd : Hid ((str (framesB [headB s])).size = (framesB (rowsT s (l.take 0))).length) := rfl
  have HCase := Lib.hid hcase
  clear hsub' hearly h00 hmk hmc hml hcase
  obtain ⟨E, hE⟩ : ∃ E, E = (framesB (rowsT s (l.take m))).length := ⟨_, rfl⟩
  have HE := Lib.hid hE
  rw [← hE] at HRead
  clear hE
  have hEk : E ≤ k := by rw [HE.out]; exact HMk.out m (Nat.le_refl _)
  generalize str (framesB [headB s]) = HD at *
  go_wp2_with fail
  refine (HRead.out).mono ?_
  rintro e w6 ⟨aa, ca, rfl, hans, hb6⟩
  have hal := (Below.refl w6.heap.size w6).alloc (Nat.le_refl _) (.cells #[.string (str s), .slice aa m ca] 41)
  have HT6 : Hid ((w6.alloc (.cells #[.string (str s), .slice aa m ca] 41)).heap[w6.heap.size]? = some (.cells #[.string (str s), .slice aa m ca] 41)) := heap_alloc_new w6 _
  have HB6 := Lib.hid ((HB5.out.trans (hb6.mono HB5.out.size)).trans (hal.mono (Nat.le_trans HB5.out.size hb6.size)))
  have HAns := Lib.hid (hans.below stable_ansAt hal)
  clear hal hb6 hans
  go_wp2_with fail
  refine (HHead.out _).mono ?_
  rintro e w7 ⟨rfl, hb7⟩
  have HT7 := Lib.hid ((hb7.block _ (Array.getElem?_eq_some_iff.1 HT6.out).1).trans HT6.out)
  have HB7 := Lib.hid (HB6.out.trans (hb7.mono HB6.out.size))
  have HAns7 := Lib.hid (HAns.out.below stable_ansAt hb7)
  have HA7 := Lib.hid (HA1.out.below stable_ansAt HB7.out)
  generalize w6.heap.size = PT at *
  clear hb7 HT6 HAns HHead HRead
  go_wp2_with fail
  go_loopw [15, 16] (fun v15 v16 wr => ∃ j : Nat, j ≤ m ∧ v16 = .int .i64 j ∧ v15 = .int .i64 ((framesB (rowsT s (l.take j))).length : Int) ∧ Below w7.heap.size w7 wr) (fun _ i _ => n - (intOf i).toNat)
  case atStart => exact ⟨0, Nat.zero_le _, rfl, by rw [HHd.out], Below.refl _ _⟩
  case round =>
    obtain ⟨j, hj, rfl, rfl, hbel⟩ := hrel
    have Hbel := Lib.hid hbel
    clear hbel
    have hstep : ∀ (hjl : j < l.length), (framesB (rowsT s (l.take (j + 1)))).length = (framesB (rowsT s (l.take j))).length + (str (oneF (tellB l[j]))).size := fun hjl => by rw [rowsT_next s l j hjl, List.length_append]; rfl
    have hjk := HMk.out j hj
    have hnext : j < m → (framesB (rowsT s (l.take (j + 1)))).length ≤ k := fun h => HMk.out (j + 1) h
    have hover : j = m → j < l.length → k < (framesB (rowsT s (l.take (j + 1)))).length := fun h h2 => by subst h; rcases HMc.out with h3 | h3; omega; exact h3
    have hlast : j = m → (framesB (rowsT s (l.take j))).length = E := fun h => by rw [h, HE.out]
    generalize (framesB (rowsT s (l.take j))).length = X at *
    have Hnext := Lib.hid hnext
    have Hover := Lib.hid hover
    have Hlast := Lib.hid hlast
    have Hstep := Lib.hid hstep
    clear hnext hover hlast hstep
    have fin : (j < n ∧ ∃ hjl : j < l.length, True) ∨ (j = m ∧ ¬ j < n) := by
      by_cases h : j < n
      · exact .inl ⟨h, by rw [← Hn.out]; exact h, trivial⟩
      · exact .inr ⟨by omega, h⟩
    rcases fin with ⟨hjn, hjl, _⟩ | ⟨hjm, hjn⟩
    case' inl =>
      have hx := HSF.out _ (List.getElem_mem hjl)
      have hft := HFit.out _ (List.getElem_mem hjl)
      have hst := Hstep.out hjl
      obtain ⟨bb, off, hrow, hidx⟩ := (HA7.out.below stable_ansAt Hbel.out).at (P := Try.prog)
      have hix := fun w' => hidx 22 34 i0 Try.underlying22 hi hi2 .i64 j w' hjn
      obtain ⟨ar, cr, hcells, hstr⟩ := hrow j hjl
      clear hrow hidx
      generalize l[j]'hjl = q at *
      have c0 : wr.cell? ⟨bb, off + j * 7, none⟩ = some (.int .i64 q.kind) := hcells 0 _ rfl
      have c1 : wr.cell? ⟨bb, off + j * 7 + 1, none⟩ = some (.int .i64 q.err) := hcells 1 _ rfl
      have c2 : wr.cell? ⟨bb, off + j * 7 + 2, none⟩ = some (.int .i64 q.n) := hcells 2 _ rfl
      have c3 : wr.cell? ⟨bb, off + j * 7 + 3, none⟩ = some (.int .i64 q.m) := hcells 3 _ rfl
      have c4 : wr.cell? ⟨bb, off + j * 7 + 4, none⟩ = some (.string (str q.text)) := hcells 4 _ rfl
      have c5 : wr.cell? ⟨bb, off + j * 7 + 5, none⟩ = some (.slice ar q.list.length cr) := hcells 5 _ rfl
      have c6 : wr.cell? ⟨bb, off + j * 7 + 6, none⟩ = some (.int .i64 q.sig) := hcells 6 _ rfl
      have HTell := Lib.hid (ev_ref_tell_calls wr q ar cr hstr hx.2.n hx.2.m (by have := hx.1.text; omega) (by have := texts_short' hx.1; omega))
      have hl3 := tellB_short hx.1 hx.2 hft
      have hout : tellBOut q = tellB q := by unfold tellBOut; rw [if_pos hft]
      unfold ansV at HTell
      rw [hout] at HTell
      have HOne := Lib.hid fun w => ref_one_calls w (tellB q) (by omega)
      have hos : (str (oneF (tellB q))).size ≤ 4000 := by rw [str_size, oneF_len]; have := num_len (tellB q).length (by unfold Lt64; omega); omega
      clear hcells hstr hout hft hx
      generalize str (oneF (tellB q)) = OO at *
      have HStep := Lib.hid hst
      clear hst hl3
      have p3 : decide (j < n) = true := decide_eq_true (by omega)
      have p1 : decide ((j : Int) < (n : Int)) = true := decide_eq_true (by omega)
      have p2 : (j : Int) < (n : Int) := by omega
      by_cases hjm : j < m
      case' pos =>
        have hr := Hnext.out hjm
        rw [HStep.out] at hr
        have o1 : decide ((k : Int) < (X : Int) + (OO.size : Int)) = false := decide_eq_false (by omega)
        have o2 : ¬ ((k : Int) < (X : Int) + (OO.size : Int)) := by omega
        go_wp2_with fail
        refine (HTell.out).mono ?_
        rintro e w8 ⟨rfl, hb8⟩
        have HB8 := Lib.hid (Hbel.out.trans (hb8.mono Hbel.out.size))
        clear hb8 c0 c1 c2 c3 c4 c5 c6
        go_wp2_with fail
        refine (HOne.out _).mono ?_
        rintro e w9 ⟨rfl, hb9⟩
        have HB9 := Lib.hid (HB8.out.trans (hb9.mono HB8.out.size))
        clear hb9
        go_wp2_with fail
        go_roundw
        case rel => exact ⟨j + 1, by omega, by go_num, by rw [HStep.out]; go_num, HB9.out⟩
        case measure => simp [intOf]; omega
      have hjm2 : j = m := by omega
      have hr := Hover.out hjm2 hjl
      rw [HStep.out] at hr
      have hXE := (Hlast.out hjm2).symm
      subst hXE
      subst hjm2
      have o1 : decide ((k : Int) < (E : Int) + (OO.size : Int)) = true := decide_eq_true (by omega)
      have o2 : (k : Int) < (E : Int) + (OO.size : Int) := by omega
      clear hjm
      go_wp2_with fail
      refine (HTell.out).mono ?_
      rintro e w8 ⟨rfl, hb8⟩
      have HB8 := Lib.hid (Hbel.out.trans (hb8.mono Hbel.out.size))
      clear hb8 c0 c1 c2 c3 c4 c5 c6
      go_wp2_with fail
      refine (HOne.out _).mono ?_
      rintro e wz ⟨rfl, hb9⟩
      have HBz := Lib.hid (HB8.out.trans (hb9.mono HB8.out.size))
      clear hb9
      go_upto_region 24 with fail
      clear HB8 hr HOne HTell HStep o1 o2 p1 p2 p3
    case' inr =>
      have hXE := (Hlast.out hjm).symm
      subst hXE
      subst hjm
      have p3 : decide (j < n) = false := decide_eq_false (by omega)
      have p1 : decide ((j : Int) < (n : Int)) = false := decide_eq_false (by omega)
      have p2 : ¬ ((j : Int) < (n : Int)) := by omega
      obtain ⟨wz, rfl⟩ : ∃ wz : World, wz = wr := ⟨_, rfl⟩
      have HBz := Lib.hid Hbel.out
      go_upto_region 24 with fail
      clear p1 p2 p3
    all_goals
      have hTz := Lib.hid ((HBz.out.block _ (Array.getElem?_eq_some_iff.1 HT7.out).1).trans HT7.out)
      have K0 : Hid (wz.cell? ⟨PT, 0, none⟩ = some (.string (str s))) := by show _ = _; have := hTz.out; simp [World.cell?, this]
      have K1 : Hid (wz.cell? ⟨PT, 1, none⟩ = some (.slice aa j ca)) := by show _ = _; have := hTz.out; simp [World.cell?, this]
      have HAz := Lib.hid (HA7.out.below stable_ansAt HBz.out)
      have HTz := Lib.hid (HAns7.out.below stable_ansAt HBz.out)
      obtain ⟨asz, hsz, hSz⟩ := HAz.out.sub (P := Try.prog) 0 j (by omega) hmn
      have hslz : ∀ w', (Instr.slice 22 (.slice ax n cap) none (some (.int .i64 (j : Int))) none).run Try.prog w' = .ok (.slice asz j cap) w' := fun w' => (hSz 22 34 i0 Try.underlying22 hi hi2 w').2.1 rfl .i64
      have HSz : Hid (Anss wz asz j cap (l.take j)) := hsz
      have HSl := Lib.hid hslz
      clear hsz hSz hslz hTz
      have hcs := HCase.out
      rw [← HE.out] at hcs
      rcases hcs with ⟨hEq, rfl⟩ | ⟨hEq, rfl⟩
      · subst hEq
        refine Rg.wp_region_rgl (true :: true :: true :: true :: true :: true :: true :: true :: true :: true :: true :: true :: true :: true :: true :: true :: true :: true :: true :: true :: true :: true :: true :: true :: true :: true :: true :: true :: true :: false :: false :: true :: true :: true :: []) (Rg.Is (.pointer (some ⟨PT, 0, none⟩)) :: Rg.Is (.string (str s)) :: Rg.Is (.string (str s)) :: Rg.Is (.bool true) :: Rg.Is (.bool true) :: Rg.Is (.pointer (some ⟨PT, 1, none⟩)) :: Rg.Is (.slice aa j ca) :: Rg.Is (.slice ax n cap) :: Rg.Is (.int .i64 (j : Int)) :: Rg.Is (.slice asz j cap) :: Rg.Is (.bool true) :: Rg.Is (.bool true) :: Rg.Is (.bool true) :: Rg.Is (.int .i64 (E : Int)) :: Rg.Is (.int .i64 (E : Int)) :: Rg.Is (.bool true) :: Rg.Is (.bool true) :: Rg.Is (.bool true) :: Rg.Is (.int .i64 0) :: Rg.Is (.bool true) :: Rg.Is (.int .i64 (E : Int)) :: Rg.Is (.int .i64 (E : Int)) :: Rg.Is (.bool true) :: Rg.Is (.bool true) :: Rg.Is (.bool true) :: Rg.Is (.bool true) :: Rg.Is (.int .i64 0) :: Rg.Is (.bool true) :: Rg.Is (.bool true) :: (fun _ _ => True) :: (fun _ _ => True) :: Rg.Is (.bool true) :: Rg.Is (.bool true) :: Rg.Is (.bool true) :: []) ?_ ?_ ?_ ?_ ?_ ?_ ?_
        · kernel_rfl
        · kernel_rfl
        · kernel_rfl
        · exact ⟨Rg.st_is _, Rg.st_is _, Rg.st_is _, Rg.st_is _, Rg.st_is _, Rg.st_is _, Rg.st_is _, Rg.st_is _, Rg.st_is _, Rg.st_is _, Rg.st_is _, Rg.st_is _, Rg.st_is _, Rg.st_is _, Rg.st_is _, Rg.st_is _, Rg.st_is _, Rg.st_is _, Rg.st_is _, Rg.st_is _, Rg.st_is _, Rg.st_is _, Rg.st_is _, Rg.st_is _, Rg.st_is _, Rg.st_is _, Rg.st_is _, Rg.st_is _, Rg.st_is _, fun _ _ _ h _ => h, fun _ _ _ h _ => h, Rg.st_is _, Rg.st_is _, Rg.st_is _, trivial⟩
        · exact ⟨rfl, rfl, rfl, rfl, rfl, ⟨rfl, fun _ _ h => h⟩, ⟨rfl, fun _ _ h => h⟩, ⟨rfl, fun _ _ h => h⟩, ⟨rfl, fun _ _ h => h⟩, ⟨rfl, fun _ _ h => h⟩, ⟨rfl, fun _ _ h => h⟩, rfl, rfl, ⟨rfl, fun _ _ h => h⟩, ⟨rfl, fun _ _ h => h⟩, ⟨rfl, fun _ _ h => h⟩, rfl, rfl, ⟨rfl, fun _ _ h => h⟩, ⟨rfl, fun _ _ h => h⟩, ⟨rfl, fun _ _ h => h⟩, ⟨rfl, fun _ _ h => h⟩, ⟨rfl, fun _ _ h => h⟩, ⟨rfl, fun _ _ h => h⟩, rfl, rfl, ⟨rfl, fun _ _ h => h⟩, ⟨rfl, fun _ _ h => h⟩, ⟨rfl, fun _ _ h => h⟩, Or.inr fun _ _ h => h, Or.inr fun _ _ h => h, ⟨rfl, fun _ _ h => h⟩, rfl, rfl, trivial⟩
        · refine ⟨?_, ?_, ?_, ?_, ?_, ?_, ?_, ?_, ?_, ?_, ?_, ?_, ?_, ?_, ?_, ?_, ?_, ?_, ?_, ?_, ?_, ?_, ?_, ?_, ?_, ?_, ?_, ?_, ?_, ?_, ?_, ?_, ?_, ?_, trivial⟩
          · intro _ a wx hb hk
            have h12 : a.eval (.tmp 12) = .pointer (some ⟨PT, 0, none⟩) := Eq.mp (by kernel_rfl) (hk 12 (by decide))
            exact Rs.does_field _ _ h12 (tape_f0 PT 0 wx) ⟨Below.refl _ _, rfl⟩
          · intro _ a wx hb hk
            have h98 : a.eval (.tmp 98) = .pointer (some ⟨PT, 0, none⟩) := Eq.mp (by kernel_rfl) (hk 98 (by decide))
            exact Rg.does_load _ _ h98 (load_string (cell_below hb (Nat.le_refl _) K0.out)) ⟨Below.refl _ _, rfl⟩
          · intro _ a wx hb hk
            have h0 : a.eval (.tmp 0) = .string (str s) := Eq.mp (by kernel_rfl) (hk 0 (by decide))
            exact Rg.does_move ⟨Below.refl _ _, h0⟩
          · intro _ a wx hb hk
            have h99 : a.eval (.tmp 99) = .string (str s) := Eq.mp (by kernel_rfl) (hk 99 (by decide))
            have h100 : a.eval (.tmp 100) = .string (str s) := Eq.mp (by kernel_rfl) (hk 100 (by decide))
            exact Rg.does_same_string _ h99 h100 ⟨Below.refl _ _, rfl⟩
          · intro _ a wx hb hk
            have h101 : a.eval (.tmp 101) = .bool true := Eq.mp (by kernel_rfl) (hk 101 (by decide))
            exact Rg.does_move ⟨Below.refl _ _, h101⟩
          · intro _ a wx hb hk
            have h12 : a.eval (.tmp 12) = .pointer (some ⟨PT, 0, none⟩) := Eq.mp (by kernel_rfl) (hk 12 (by decide))
            exact Rs.does_field _ _ h12 (tape_f1 PT 0 wx) ⟨Below.refl _ _, rfl⟩
          · intro _ a wx hb hk
            have h103 : a.eval (.tmp 103) = .pointer (some ⟨PT, 1, none⟩) := Eq.mp (by kernel_rfl) (hk 103 (by decide))
            exact Rg.does_load _ _ h103 (load_anss (cell_below hb (Nat.le_refl _) K1.out)) ⟨Below.refl _ _, rfl⟩
          · intro _ a wx hb hk
            have h1 : a.eval (.tmp 1) = .slice ax n cap := Eq.mp (by kernel_rfl) (hk 1 (by decide))
            exact Rg.does_move ⟨Below.refl _ _, h1⟩
          · intro _ a wx hb hk
            have h16 : a.eval (.tmp 16) = .int .i64 (j : Int) := Eq.mp (by kernel_rfl) (hk 16 (by decide))
            exact Rg.does_move ⟨Below.refl _ _, h16⟩
          · intro _ a wx hb hk
            have h105 : a.eval (.tmp 105) = .slice ax n cap := Eq.mp (by kernel_rfl) (hk 105 (by decide))
            have h106 : a.eval (.tmp 106) = .int .i64 (j : Int) := Eq.mp (by kernel_rfl) (hk 106 (by decide))
            refine Rg.does_sub _ Try.underlying22 (by rw [h105, Option.map_none, Option.map_some, h106]; exact HSl.out wx) ⟨Below.refl _ _, rfl⟩
          · intro _ a wx hb hk
            have h104 : a.eval (.tmp 104) = .slice aa j ca := Eq.mp (by kernel_rfl) (hk 104 (by decide))
            have h107 : a.eval (.tmp 107) = .slice asz j cap := Eq.mp (by kernel_rfl) (hk 107 (by decide))
            refine Rg.does_func #[.slice aa j ca, .slice asz j cap] Try.func20 (by kernel_rfl) (by kernel_rfl) (by simp [h104, h107]) (tp_same_calls wx aa asz j ca cap _ (HTz.out.below stable_ansAt hb) (HSz.out.below stable_ansAt hb)) ?_
            rintro e w' ⟨rfl, hb'⟩
            exact ⟨_, rfl, hb', rfl⟩
          · intro _ a wx hb hk
            have h102 : a.eval (.tmp 102) = .bool true := Eq.mp (by kernel_rfl) (hk 102 (by decide))
            have h108 : a.eval (.tmp 108) = .bool true := Eq.mp (by kernel_rfl) (hk 108 (by decide))
            exact Rg.does_pick true h102 ⟨Below.refl _ _, h108⟩
          · intro _ a wx hb hk
            have h109 : a.eval (.tmp 109) = .bool true := Eq.mp (by kernel_rfl) (hk 109 (by decide))
            exact Rg.does_move ⟨Below.refl _ _, h109⟩
          · intro _ a wx hb hk
            have h13 : a.eval (.tmp 13) = .int .i64 (E : Int) := Eq.mp (by kernel_rfl) (hk 13 (by decide))
            exact Rg.does_move ⟨Below.refl _ _, h13⟩
          · intro _ a wx hb hk
            have h15 : a.eval (.tmp 15) = .int .i64 (E : Int) := Eq.mp (by kernel_rfl) (hk 15 (by decide))
            exact Rg.does_move ⟨Below.refl _ _, h15⟩
          · intro _ a wx hb hk
            have h111 : a.eval (.tmp 111) = .int .i64 (E : Int) := Eq.mp (by kernel_rfl) (hk 111 (by decide))
            have h112 : a.eval (.tmp 112) = .int .i64 (E : Int) := Eq.mp (by kernel_rfl) (hk 112 (by decide))
            exact Rg.does_same_int _ _ h111 h112 ⟨Below.refl _ _, rfl⟩
          · intro _ a wx hb hk
            have h110 : a.eval (.tmp 110) = .bool true := Eq.mp (by kernel_rfl) (hk 110 (by decide))
            have h113 : a.eval (.tmp 113) = .bool true := Eq.mp (by kernel_rfl) (hk 113 (by decide))
            exact Rg.does_pick true h110 ⟨Below.refl _ _, h113⟩
          · intro _ a wx hb hk
            have h114 : a.eval (.tmp 114) = .bool true := Eq.mp (by kernel_rfl) (hk 114 (by decide))
            exact Rg.does_move ⟨Below.refl _ _, h114⟩
          · intro _ a wx hb hk
            have h14 : a.eval (.tmp 14) = .int .i64 0 := Eq.mp (by kernel_rfl) (hk 14 (by decide))
            exact Rg.does_move ⟨Below.refl _ _, h14⟩
          · intro _ a wx hb hk
            have h116 : a.eval (.tmp 116) = .int .i64 0 := Eq.mp (by kernel_rfl) (hk 116 (by decide))
            exact Rg.does_bin .i64 _ _ _ h116 rfl (Sw.run_eq_int true (by decide)) ⟨Below.refl _ _, rfl⟩
          · intro _ a wx hb hk
            have h15 : a.eval (.tmp 15) = .int .i64 (E : Int) := Eq.mp (by kernel_rfl) (hk 15 (by decide))
            exact Rg.does_move ⟨Below.refl _ _, h15⟩
          · intro _ a wx hb hk
            have h11 : a.eval (.tmp 11) = .int .i64 (E : Int) := Eq.mp (by kernel_rfl) (hk 11 (by decide))
            exact Rg.does_move ⟨Below.refl _ _, h11⟩
          · intro _ a wx hb hk
            have h118 : a.eval (.tmp 118) = .int .i64 (E : Int) := Eq.mp (by kernel_rfl) (hk 118 (by decide))
            have h119 : a.eval (.tmp 119) = .int .i64 (E : Int) := Eq.mp (by kernel_rfl) (hk 119 (by decide))
            exact Rg.does_bin .i64 _ _ _ h118 h119 (Sw.run_eq_int true (by simp)) ⟨Below.refl _ _, rfl⟩
          · intro _ a wx hb hk
            have h117 : a.eval (.tmp 117) = .bool true := Eq.mp (by kernel_rfl) (hk 117 (by decide))
            have h120 : a.eval (.tmp 120) = .bool true := Eq.mp (by kernel_rfl) (hk 120 (by decide))
            exact does_same_bool _ Try.underlying4 h117 h120 ⟨Below.refl _ _, rfl⟩
          · intro _ a wx hb hk
            have h115 : a.eval (.tmp 115) = .bool true := Eq.mp (by kernel_rfl) (hk 115 (by decide))
            have h121 : a.eval (.tmp 121) = .bool true := Eq.mp (by kernel_rfl) (hk 121 (by decide))
            exact Rg.does_pick true h115 ⟨Below.refl _ _, h121⟩
          · intro _ a wx hb hk
            have h122 : a.eval (.tmp 122) = .bool true := Eq.mp (by kernel_rfl) (hk 122 (by decide))
            exact Rg.does_move ⟨Below.refl _ _, h122⟩
          · intro _ a wx hb hk
            have h14 : a.eval (.tmp 14) = .int .i64 0 := Eq.mp (by kernel_rfl) (hk 14 (by decide))
            exact Rg.does_move ⟨Below.refl _ _, h14⟩
          · intro _ a wx hb hk
            have h124 : a.eval (.tmp 124) = .int .i64 0 := Eq.mp (by kernel_rfl) (hk 124 (by decide))
            exact Rg.does_bin .i64 _ _ _ h124 rfl (Sw.run_eq_int true (by decide)) ⟨Below.refl _ _, rfl⟩
          · intro _ a wx hb hk
            have h125 : a.eval (.tmp 125) = .bool true := Eq.mp (by kernel_rfl) (hk 125 (by decide))
            exact Rg.does_move ⟨Below.refl _ _, h125⟩
          · intro h; exact absurd h (by decide)
          · intro h; exact absurd h (by decide)
          · intro _ a wx hb hk
            have h126 : a.eval (.tmp 126) = .bool true := Eq.mp (by kernel_rfl) (hk 126 (by decide))
            have h128 : a.eval (.tmp 128) = undef := Eq.mp (by kernel_rfl) (hk 128 (by decide))
            exact Rg.does_pick true h126 ⟨Below.refl _ _, rfl⟩
          · intro _ a wx hb hk
            have h123 : a.eval (.tmp 123) = .bool true := Eq.mp (by kernel_rfl) (hk 123 (by decide))
            have h129 : a.eval (.tmp 129) = .bool true := Eq.mp (by kernel_rfl) (hk 129 (by decide))
            exact Rg.does_pick true h123 ⟨Below.refl _ _, h129⟩
          · intro _ a wx hb hk
            have h130 : a.eval (.tmp 130) = .bool true := Eq.mp (by kernel_rfl) (hk 130 (by decide))
            exact Rg.does_assign ⟨Below.refl _ _, h130⟩
        intro vals wD hbD hL
        obtain ⟨g0, g1, g2, g3, g4, g5, g6, g7, g8, g9, g10, g11, g12, g13, g14, g15, g16, g17, g18, g19, g20, g21, g22, g23, g24, g25, g26, g27, g28, g29, g30, g31, g32, g33, _⟩ := hL
        have g33' : vals 33 = .bool true := g33
        have HBD := Lib.hid hbD
        clear g0 g1 g2 g3 g4 g5 g6 g7 g8 g9 g10 g11 g12 g13 g14 g15 g16 g17 g18 g19 g20 g21 g22 g23 g24 g25 g26 g27 g28 g29 g30 g31 g32 g33 hbD
        simp only [Rg.putAll, List.setIfInBounds_toArray, List.set_cons_succ, List.set_cons_zero, g33']
        clear g33'
        go_wp2_with fail
        go_ret
        exact ⟨rfl, HB1.out.trans (((HB7.out.trans (HBz.out.mono HB7.out.size)).trans (HBD.out.mono (Nat.le_trans HB7.out.size HBz.out.size))).mono HB1.out.size)⟩
      · have HEq := Lib.hid hEq
        clear hEq
        refine Rg.wp_region_rgl [] (Rg.Is (.pointer (some ⟨PT, 0, none⟩)) :: Rg.Is (.string (str s)) :: Rg.Is (.string (str s)) :: Rg.Is (.bool true) :: Rg.Is (.bool true) :: Rg.Is (.pointer (some ⟨PT, 1, none⟩)) :: Rg.Is (.slice aa j ca) :: Rg.Is (.slice ax n cap) :: Rg.Is (.int .i64 (j : Int)) :: Rg.Is (.slice asz j cap) :: Rg.Is (.bool true) :: Rg.Is (.bool true) :: Rg.Is (.bool true) :: Rg.Is (.int .i64 (E : Int)) :: Rg.Is (.int .i64 (E : Int)) :: Rg.Is (.bool true) :: Rg.Is (.bool true) :: Rg.Is (.bool true) :: Rg.Is (.int .i64 10) :: Rg.Is (.bool false) :: Rg.Is (.int .i64 (E : Int)) :: Rg.Is (.int .i64 (k : Int)) :: Rg.Is (.bool false) :: Rg.Is (.bool true) :: Rg.Is (.bool true) :: Rg.Is (.bool true) :: Rg.Is (.int .i64 10) :: Rg.Is (.bool false) :: Rg.Is (.bool false) :: Rg.Is (.int .i64 10) :: Rg.Is (.bool true) :: Rg.Is (.bool true) :: Rg.Is (.bool true) :: Rg.Is (.bool true) :: []) ?_ ?_ ?_ ?_ ?_ ?_ ?_
        · kernel_rfl
        · kernel_rfl
        · kernel_rfl
        · exact ⟨Rg.st_is _, Rg.st_is _, Rg.st_is _, Rg.st_is _, Rg.st_is _, Rg.st_is _, Rg.st_is _, Rg.st_is _, Rg.st_is _, Rg.st_is _, Rg.st_is _, Rg.st_is _, Rg.st_is _, Rg.st_is _, Rg.st_is _, Rg.st_is _, Rg.st_is _, Rg.st_is _, Rg.st_is _, Rg.st_is _, Rg.st_is _, Rg.st_is _, Rg.st_is _, Rg.st_is _, Rg.st_is _, Rg.st_is _, Rg.st_is _, Rg.st_is _, Rg.st_is _, Rg.st_is _, Rg.st_is _, Rg.st_is _, Rg.st_is _, Rg.st_is _, trivial⟩
        · exact ⟨rfl, rfl, rfl, rfl, rfl, ⟨rfl, fun _ _ h => h⟩, ⟨rfl, fun _ _ h => h⟩, ⟨rfl, fun _ _ h => h⟩, ⟨rfl, fun _ _ h => h⟩, ⟨rfl, fun _ _ h => h⟩, ⟨rfl, fun _ _ h => h⟩, rfl, rfl, ⟨rfl, fun _ _ h => h⟩, ⟨rfl, fun _ _ h => h⟩, ⟨rfl, fun _ _ h => h⟩, rfl, rfl, ⟨rfl, fun _ _ h => h⟩, ⟨rfl, fun _ _ h => h⟩, ⟨rfl, fun _ _ h => h⟩, ⟨rfl, fun _ _ h => h⟩, ⟨rfl, fun _ _ h => h⟩, ⟨rfl, fun _ _ h => h⟩, rfl, rfl, ⟨rfl, fun _ _ h => h⟩, ⟨rfl, fun _ _ h => h⟩, ⟨rfl, fun _ _ h => h⟩, ⟨rfl, fun _ _ h => h⟩, ⟨rfl, fun _ _ h => h⟩, ⟨rfl, fun _ _ h => h⟩, rfl, rfl, trivial⟩
        · refine ⟨?_, ?_, ?_, ?_, ?_, ?_, ?_, ?_, ?_, ?_, ?_, ?_, ?_, ?_, ?_, ?_, ?_, ?_, ?_, ?_, ?_, ?_, ?_, ?_, ?_, ?_, ?_, ?_, ?_, ?_, ?_, ?_, ?_, ?_, trivial⟩
          · intro _ a wx hb hk
            have h12 : a.eval (.tmp 12) = .pointer (some ⟨PT, 0, none⟩) := Eq.mp (by kernel_rfl) (hk 12 (by decide))
            exact Rs.does_field _ _ h12 (tape_f0 PT 0 wx) ⟨Below.refl _ _, rfl⟩
          · intro _ a wx hb hk
            have h98 : a.eval (.tmp 98) = .pointer (some ⟨PT, 0, none⟩) := Eq.mp (by kernel_rfl) (hk 98 (by decide))
            exact Rg.does_load _ _ h98 (load_string (cell_below hb (Nat.le_refl _) K0.out)) ⟨Below.refl _ _, rfl⟩
          · intro _ a wx hb hk
            have h0 : a.eval (.tmp 0) = .string (str s) := Eq.mp (by kernel_rfl) (hk 0 (by decide))
            exact Rg.does_move ⟨Below.refl _ _, h0⟩
          · intro _ a wx hb hk
            have h99 : a.eval (.tmp 99) = .string (str s) := Eq.mp (by kernel_rfl) (hk 99 (by decide))
            have h100 : a.eval (.tmp 100) = .string (str s) := Eq.mp (by kernel_rfl) (hk 100 (by decide))
            exact Rg.does_same_string _ h99 h100 ⟨Below.refl _ _, rfl⟩
          · intro _ a wx hb hk
            have h101 : a.eval (.tmp 101) = .bool true := Eq.mp (by kernel_rfl) (hk 101 (by decide))
            exact Rg.does_move ⟨Below.refl _ _, h101⟩
          · intro _ a wx hb hk
            have h12 : a.eval (.tmp 12) = .pointer (some ⟨PT, 0, none⟩) := Eq.mp (by kernel_rfl) (hk 12 (by decide))
            exact Rs.does_field _ _ h12 (tape_f1 PT 0 wx) ⟨Below.refl _ _, rfl⟩
          · intro _ a wx hb hk
            have h103 : a.eval (.tmp 103) = .pointer (some ⟨PT, 1, none⟩) := Eq.mp (by kernel_rfl) (hk 103 (by decide))
            exact Rg.does_load _ _ h103 (load_anss (cell_below hb (Nat.le_refl _) K1.out)) ⟨Below.refl _ _, rfl⟩
          · intro _ a wx hb hk
            have h1 : a.eval (.tmp 1) = .slice ax n cap := Eq.mp (by kernel_rfl) (hk 1 (by decide))
            exact Rg.does_move ⟨Below.refl _ _, h1⟩
          · intro _ a wx hb hk
            have h16 : a.eval (.tmp 16) = .int .i64 (j : Int) := Eq.mp (by kernel_rfl) (hk 16 (by decide))
            exact Rg.does_move ⟨Below.refl _ _, h16⟩
          · intro _ a wx hb hk
            have h105 : a.eval (.tmp 105) = .slice ax n cap := Eq.mp (by kernel_rfl) (hk 105 (by decide))
            have h106 : a.eval (.tmp 106) = .int .i64 (j : Int) := Eq.mp (by kernel_rfl) (hk 106 (by decide))
            refine Rg.does_sub _ Try.underlying22 (by rw [h105, Option.map_none, Option.map_some, h106]; exact HSl.out wx) ⟨Below.refl _ _, rfl⟩
          · intro _ a wx hb hk
            have h104 : a.eval (.tmp 104) = .slice aa j ca := Eq.mp (by kernel_rfl) (hk 104 (by decide))
            have h107 : a.eval (.tmp 107) = .slice asz j cap := Eq.mp (by kernel_rfl) (hk 107 (by decide))
            refine Rg.does_func #[.slice aa j ca, .slice asz j cap] Try.func20 (by kernel_rfl) (by kernel_rfl) (by simp [h104, h107]) (tp_same_calls wx aa asz j ca cap _ (HTz.out.below stable_ansAt hb) (HSz.out.below stable_ansAt hb)) ?_
            rintro e w' ⟨rfl, hb'⟩
            exact ⟨_, rfl, hb', rfl⟩
          · intro _ a wx hb hk
            have h102 : a.eval (.tmp 102) = .bool true := Eq.mp (by kernel_rfl) (hk 102 (by decide))
            have h108 : a.eval (.tmp 108) = .bool true := Eq.mp (by kernel_rfl) (hk 108 (by decide))
            exact Rg.does_pick true h102 ⟨Below.refl _ _, h108⟩
          · intro _ a wx hb hk
            have h109 : a.eval (.tmp 109) = .bool true := Eq.mp (by kernel_rfl) (hk 109 (by decide))
            exact Rg.does_move ⟨Below.refl _ _, h109⟩
          · intro _ a wx hb hk
            have h13 : a.eval (.tmp 13) = .int .i64 (E : Int) := Eq.mp (by kernel_rfl) (hk 13 (by decide))
            exact Rg.does_move ⟨Below.refl _ _, h13⟩
          · intro _ a wx hb hk
            have h15 : a.eval (.tmp 15) = .int .i64 (E : Int) := Eq.mp (by kernel_rfl) (hk 15 (by decide))
            exact Rg.does_move ⟨Below.refl _ _, h15⟩
          · intro _ a wx hb hk
            have h111 : a.eval (.tmp 111) = .int .i64 (E : Int) := Eq.mp (by kernel_rfl) (hk 111 (by decide))
            have h112 : a.eval (.tmp 112) = .int .i64 (E : Int) := Eq.mp (by kernel_rfl) (hk 112 (by decide))
            exact Rg.does_same_int _ _ h111 h112 ⟨Below.refl _ _, rfl⟩
          · intro _ a wx hb hk
            have h110 : a.eval (.tmp 110) = .bool true := Eq.mp (by kernel_rfl) (hk 110 (by decide))
            have h113 : a.eval (.tmp 113) = .bool true := Eq.mp (by kernel_rfl) (hk 113 (by decide))
            exact Rg.does_pick true h110 ⟨Below.refl _ _, h113⟩
          · intro _ a wx hb hk
            have h114 : a.eval (.tmp 114) = .bool true := Eq.mp (by kernel_rfl) (hk 114 (by decide))
            exact Rg.does_move ⟨Below.refl _ _, h114⟩
          · intro _ a wx hb hk
            have h14 : a.eval (.tmp 14) = .int .i64 10 := Eq.mp (by kernel_rfl) (hk 14 (by decide))
            exact Rg.does_move ⟨Below.refl _ _, h14⟩
          · intro _ a wx hb hk
            have h116 : a.eval (.tmp 116) = .int .i64 10 := Eq.mp (by kernel_rfl) (hk 116 (by decide))
            exact Rg.does_bin .i64 _ _ _ h116 rfl (Sw.run_eq_int false (by decide)) ⟨Below.refl _ _, rfl⟩
          · intro _ a wx hb hk
            have h15 : a.eval (.tmp 15) = .int .i64 (E : Int) := Eq.mp (by kernel_rfl) (hk 15 (by decide))
            exact Rg.does_move ⟨Below.refl _ _, h15⟩
          · intro _ a wx hb hk
            have h11 : a.eval (.tmp 11) = .int .i64 (k : Int) := Eq.mp (by kernel_rfl) (hk 11 (by decide))
            exact Rg.does_move ⟨Below.refl _ _, h11⟩
          · intro _ a wx hb hk
            have h118 : a.eval (.tmp 118) = .int .i64 (E : Int) := Eq.mp (by kernel_rfl) (hk 118 (by decide))
            have h119 : a.eval (.tmp 119) = .int .i64 (k : Int) := Eq.mp (by kernel_rfl) (hk 119 (by decide))
            exact Rg.does_bin .i64 _ _ _ h118 h119 (Sw.run_eq_int false (decide_eq_false (fun h => HEq.out (by omega)))) ⟨Below.refl _ _, rfl⟩
          · intro _ a wx hb hk
            have h117 : a.eval (.tmp 117) = .bool false := Eq.mp (by kernel_rfl) (hk 117 (by decide))
            have h120 : a.eval (.tmp 120) = .bool false := Eq.mp (by kernel_rfl) (hk 120 (by decide))
            exact does_same_bool _ Try.underlying4 h117 h120 ⟨Below.refl _ _, rfl⟩
          · intro _ a wx hb hk
            have h115 : a.eval (.tmp 115) = .bool true := Eq.mp (by kernel_rfl) (hk 115 (by decide))
            have h121 : a.eval (.tmp 121) = .bool true := Eq.mp (by kernel_rfl) (hk 121 (by decide))
            exact Rg.does_pick true h115 ⟨Below.refl _ _, h121⟩
          · intro _ a wx hb hk
            have h122 : a.eval (.tmp 122) = .bool true := Eq.mp (by kernel_rfl) (hk 122 (by decide))
            exact Rg.does_move ⟨Below.refl _ _, h122⟩
          · intro _ a wx hb hk
            have h14 : a.eval (.tmp 14) = .int .i64 10 := Eq.mp (by kernel_rfl) (hk 14 (by decide))
            exact Rg.does_move ⟨Below.refl _ _, h14⟩
          · intro _ a wx hb hk
            have h124 : a.eval (.tmp 124) = .int .i64 10 := Eq.mp (by kernel_rfl) (hk 124 (by decide))
            exact Rg.does_bin .i64 _ _ _ h124 rfl (Sw.run_eq_int false (by decide)) ⟨Below.refl _ _, rfl⟩
          · intro _ a wx hb hk
            have h125 : a.eval (.tmp 125) = .bool false := Eq.mp (by kernel_rfl) (hk 125 (by decide))
            exact Rg.does_move ⟨Below.refl _ _, h125⟩
          · intro _ a wx hb hk
            have h14 : a.eval (.tmp 14) = .int .i64 10 := Eq.mp (by kernel_rfl) (hk 14 (by decide))
            exact Rg.does_move ⟨Below.refl _ _, h14⟩
          · intro _ a wx hb hk
            have h127 : a.eval (.tmp 127) = .int .i64 10 := Eq.mp (by kernel_rfl) (hk 127 (by decide))
            exact Rg.does_same_int _ _ h127 rfl ⟨Below.refl _ _, rfl⟩
          · intro _ a wx hb hk
            have h126 : a.eval (.tmp 126) = .bool false := Eq.mp (by kernel_rfl) (hk 126 (by decide))
            have h128 : a.eval (.tmp 128) = .bool true := Eq.mp (by kernel_rfl) (hk 128 (by decide))
            exact Rg.does_pick false h126 ⟨Below.refl _ _, h128⟩
          · intro _ a wx hb hk
            have h123 : a.eval (.tmp 123) = .bool true := Eq.mp (by kernel_rfl) (hk 123 (by decide))
            have h129 : a.eval (.tmp 129) = .bool true := Eq.mp (by kernel_rfl) (hk 129 (by decide))
            exact Rg.does_pick true h123 ⟨Below.refl _ _, h129⟩
          · intro _ a wx hb hk
            have h130 : a.eval (.tmp 130) = .bool true := Eq.mp (by kernel_rfl) (hk 130 (by decide))
            exact Rg.does_assign ⟨Below.refl _ _, h130⟩
        intro vals wD hbD hL
        obtain ⟨g0, g1, g2, g3, g4, g5, g6, g7, g8, g9, g10, g11, g12, g13, g14, g15, g16, g17, g18, g19, g20, g21, g22, g23, g24, g25, g26, g27, g28, g29, g30, g31, g32, g33, _⟩ := hL
        have g33' : vals 33 = .bool true := g33
        have HBD := Lib.hid hbD
        clear g0 g1 g2 g3 g4 g5 g6 g7 g8 g9 g10 g11 g12 g13 g14 g15 g16 g17 g18 g19 g20 g21 g22 g23 g24 g25 g26 g27 g28 g29 g30 g31 g32 g33 hbD
        simp only [Rg.putAll, List.setIfInBounds_toArray, List.set_cons_succ, List.set_cons_zero, g33']
        clear g33'
        go_wp2_with fail
        go_ret
        exact ⟨rfl, HB1.out.trans (((HB7.out.trans (HBz.out.mono HB7.out.size)).trans (HBD.out.mono (Nat.le_trans HB7.out.size HBz.out.size))).mono HB1.out.size)⟩
end Go.Proofs.Ytgbnfipbedlmhaa
