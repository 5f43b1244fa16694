/-
  The reference's reading of a tape: what the plain mathematics says of the rows that are scanned. Conditions: the text is short.
-/
import Derived.Test.YtgbnfipbedlmhaaRefScan2
import Derived.Test.YtgbnfipbedlmhaaEvReads5
set_option linter.unusedVariables false
set_option maxRecDepth 100000
namespace Go.Proofs.Ytgbnfipbedlmhaa
open Go.RowKit Base

theorem strs_ownT {w : World} {base : Nat} {a : Option Addr} {n c : Nat} {ls : List (List UInt8)} (h : w.ownsRow base 9 1 (.slice a n c) n (ls.map sv)) : Strs w a n c ls := by
  obtain ⟨a', c', he, hb⟩ := ownsRow_row (R := strAt) h (fun _ _ _ h => h)
  cases he
  exact hb
/-- The reading, while it goes on: the result's block as it was made, the tape's block, the answers so far. -/
structure RSt (w : World) (D : Nat) (S : ByteArray) (vr : Value) (j : Nat) (ts : ATs) (x : World) : Prop where
  gz : x.heap[w.heap.size]? = some (.cells #[.string ⟨#[]⟩, .slice none 0 0] 45)
  dz : x.heap[D]? = some (.cells #[.string S, vr] 45)
  own : x.ownsRow (D + 1) 34 7 vr j (cells7 ts)
  lies : ∀ t ∈ ts, Lies x D vr t
  low : Below w.heap.size w x
  lt : w.heap.size < D
theorem RSt.dlt {w : World} {D : Nat} {S : ByteArray} {vr : Value} {j : Nat} {ts : ATs} {x : World} (h : RSt w D S vr j ts x) : D < x.heap.size := (Array.getElem?_eq_some_iff.1 h.dz).1
theorem RSt.below {w : World} {D : Nat} {S : ByteArray} {vr : Value} {j : Nat} {ts : ATs} {x y : World} (h : RSt w D S vr j ts x) (hb : Below x.heap.size x y) : RSt w D S vr j ts y :=
  ⟨(hb.block _ (Nat.lt_trans h.lt h.dlt)).trans h.gz, (hb.block _ h.dlt).trans h.dz, ownsRow_below h.own hb, fun t ht => lies_below (h.lies t ht) hb, h.low.trans (hb.mono h.low.size), h.lt⟩
theorem RSt.cells {w : World} {D : Nat} {S : ByteArray} {vr : Value} {j : Nat} {ts : ATs} {x : World} (h : RSt w D S vr j ts x) :
    x.cell? ⟨D, 0, none⟩ = some (.string S) ∧ x.cell? ⟨D, 1, none⟩ = some vr ∧ x.frozen? ⟨D, 1, none⟩ = false ∧ x.cell? ⟨w.heap.size, 0, none⟩ = some (.string ⟨#[]⟩) ∧ x.cell? ⟨w.heap.size, 1, none⟩ = some (.slice none 0 0) ∧
      x.frozen? ⟨w.heap.size, 0, none⟩ = false ∧ x.frozen? ⟨w.heap.size, 1, none⟩ = false := by
  have h1 := h.dz
  have h2 := h.gz
  refine ⟨?_, ?_, ?_, ?_, ?_, ?_, ?_⟩ <;> simp [World.cell?, World.frozen?, h1, h2]
theorem RSt.push {w : World} {D : Nat} {S : ByteArray} {v v' : Value} {j : Nat} {ts : ATs} {x y : World} (h : RSt w D S v j ts x) {q : Ans} {a : Option Addr} {c : Nat} (hg : x.grownBy y v.ownBlock)
    (hown : y.ownsRow (D + 1) 34 7 v' (j + 1) (cells7 ts ++ ansCells q a c)) (hat : ∀ g, v'.ownBlock = some g → g < x.heap.size → v.ownBlock = some g) (hnew : Lies x D v (q, a, c)) :
    RSt w D S v' (j + 1) (ts ++ [(q, a, c)]) (y.setCell ⟨D, 1, none⟩ v') := by
  have hlow : ∀ k, v.ownBlock = some k → D + 1 ≤ k := fun k hk => (h.own.lt k hk).1
  have hD : y.heap[D]? = some (.cells #[.string S, v] 45) := (hg.block _ h.dlt (fun e => by have := hlow _ e.symm; omega)).trans h.dz
  have hG : y.heap[w.heap.size]? = some (.cells #[.string ⟨#[]⟩, .slice none 0 0] 45) := (hg.block _ (Nat.lt_trans h.lt h.dlt) (fun e => by have := hlow _ e.symm; have := h.lt; omega)).trans h.gz
  have hgs := grown_set y D 1 v'
  refine ⟨?_, heap_setCell_same _ _ 1 _ _ _ hD, ?_, ?_, ?_, h.lt⟩
  · exact (hgs.block _ (Nat.lt_of_lt_of_le (Nat.lt_trans h.lt h.dlt) hg.size) (fun e => by cases e; exact absurd h.lt (Nat.lt_irrefl _))).trans hG
  · rw [cells7_snoc]
    exact hown.kept hgs (by
      cases hj : v'.ownBlock with
      | none => exact .inl rfl
      | some k => exact .inr (fun e => by cases e; have := (hown.lt _ hj).1; omega))
  · intro t ht
    have h7 : Lies x D v t := by
      rcases List.mem_append.1 ht with ht | ht
      · exact h.lies t ht
      · rw [List.mem_singleton.1 ht]; exact hnew
    exact lies_set (lies_append h7 hg hat) hgs (Nat.le_refl _)
  · exact (h.low.grown hg h.low.size (fun k hk => by have := hlow k hk; have := h.lt; omega)).setCell (Nat.le_of_lt h.lt) _
def set2R (x : World) (G : Nat) (a b : Value) : World := (x.setCell ⟨G, 0, none⟩ a).setCell ⟨G, 1, none⟩ b
theorem set2R_at {w : World} {G : Nat} {t : TypeId} {a b : Value} (x y : Value) (h : w.heap[G]? = some (.cells #[a, b] t)) :
    (set2R w G x y).cell? ⟨G, 0, none⟩ = some x ∧ (set2R w G x y).cell? ⟨G, 1, none⟩ = some y := by
  have hz := set2 x y h
  unfold set2R
  simp [World.cell?, hz]
theorem RSt.done {w : World} {D : Nat} {S : ByteArray} {v : Option Addr} {c : Nat} {j : Nat} {ts : ATs} {x : World} (h : RSt w D S (.slice v j c) j ts x) (a b : Value) :
    Anss (set2R x w.heap.size a b) v j c (ts.map (·.1)) ∧ Below w.heap.size w (set2R x w.heap.size a b) := by
  refine ⟨fin_anss _ _ h.lt h.own h.lies, ?_⟩
  unfold set2R
  exact (h.low.setCell (Nat.le_refl _) _).setCell (Nat.le_refl _) _
theorem readR_bad {first : List UInt8} {rest : List (List UInt8)} (hh : isHead first = false) (m : Nat) (e : Int) : readR (first :: rest) m e = ⟨[], [], 0, 11⟩ := by unfold readR; simp only [if_pos hh]
set_option maxHeartbeats 8000000 in
theorem ref_tape_read_calls (w : World) (b : List UInt8) (hb : b.length ≤ 1000000) :
    Calls Try.prog 19 #[.string (str b)] w fun r w' => ReadPost b w r w' := by
  have hal := (Below.refl w.heap.size w).alloc (Nat.le_refl _) (.cells #[.string ⟨#[]⟩, .slice none 0 0] 45)
  have HScan := Lib.hid (ref_scanF_calls (w.alloc (.cells #[.string ⟨#[]⟩, .slice none 0 0] 45)) b (by omega))
  have HG0 : Hid ((w.alloc (.cells #[.string ⟨#[]⟩, .slice none 0 0] 45)).heap[w.heap.size]? = some (.cells #[.string ⟨#[]⟩, .slice none 0 0] 45)) := heap_alloc_new w _
  have hq : (w.alloc (.cells #[.string ⟨#[]⟩, .slice none 0 0] 45)).heap.size = w.heap.size + 1 := World.size_alloc _ _
  have Hal := Lib.hid hal
  have Hq := Lib.hid hq
  clear hal hq
  obtain ⟨ia, hia, hza, hza1, hza2⟩ := info_parts info_ans
  go_enter Try.func19, Try.ntmps19
  go_wp2_with fail
  refine (HScan.out).mono ?_
  rintro e w1 ⟨K, rv, hE, rfl, hown, hb1⟩
  have hK := (goodF_le hE.1)
  have hrl := stF_rows hE.1
  have hln := stF_len b K
  have HB1 : Hid (Below w.heap.size w w1) := Hal.out.trans (hb1.mono Hal.out.size)
  have HG1 : Hid (w1.heap[w.heap.size]? = some (.cells #[.string ⟨#[]⟩, .slice none 0 0] 45)) := by show w1.heap[w.heap.size]? = some (.cells #[.string ⟨#[]⟩, .slice none 0 0] 45); rw [hb1.block _ (by rw [Hq.out]; omega)]; exact HG0.out
  have HS1 : Hid (w.heap.size < w1.heap.size) := by show w.heap.size < w1.heap.size; have := hb1.size; rw [Hq.out] at this; exact this
  obtain ⟨ar, cr, rfl, _, _, _, _⟩ := ownsRow_slice hown
  have HRows := Lib.hid (strs_ownT hown)
  have HE := Lib.hid hE
  clear hE hown hb1 Hal HG0 Hq HScan
  generalize hls : (stF b K).1 = ls at *
  generalize hev : endE3 b K = ev at *
  generalize hsn : (stF b K).2 = sn at *
  have Hls := Lib.hid hls
  have Hrl := Lib.hid hrl
  have Hev := Lib.hid hev
  have Hsn := Lib.hid hsn
  clear hls hrl hev hsn
  have g0 : w1.cell? ⟨w.heap.size, 0, none⟩ = some (.string ⟨#[]⟩) := by have := HG1.out; simp [World.cell?, this]
  have g1 : w1.cell? ⟨w.heap.size, 1, none⟩ = some (.slice none 0 0) := by have := HG1.out; simp [World.cell?, this]
  have f0 : w1.frozen? ⟨w.heap.size, 0, none⟩ = false := by have := HG1.out; simp [World.frozen?, this]
  have f1 : w1.frozen? ⟨w.heap.size, 1, none⟩ = false := by have := HG1.out; simp [World.frozen?, this]
  have HZ := Lib.hid (set2R_at (.string ⟨#[]⟩) (.slice none 0 0) HG1.out)
  have HBS : Hid (∀ v0 v1, Below w.heap.size w ((w1.setCell ⟨w.heap.size, 0, none⟩ v0).setCell ⟨w.heap.size, 1, none⟩ v1)) := fun v0 v1 => (HB1.out.setCell (Nat.le_refl _) _).setCell (Nat.le_refl _) _
  by_cases hK0 : K = 0
  · subst hK0
    have hl0 : ls = [] := List.eq_nil_of_length_eq_zero hln
    have HLS0 : Hid ((stF b 0).1 = []) := by show (stF b 0).1 = []; rw [Hls.out, hl0]
    clear hln hl0
    by_cases he : ev = 0
    · subst he
      go_wp2_with fail
      have z0 := HZ.out.1
      have z1 := HZ.out.2
      unfold set2R at z0 z1
      refine bodyPost_ret (v := .tuple #[.agg #[.string ⟨#[]⟩, .slice none 0 0], .int .i64 0, .int .i64 10]) (by simp [results, Try.results19, go_sem, z0, z1]) rfl ?_
      refine ⟨0, ⟨[], [], 0, 10⟩, none, 0, HE.out, ?_, rfl, RowOf.nil, HBS.out _ _⟩
      rw [HLS0.out, Hev.out]
      rfl
    · have d1 : decide (ev = 0) = false := decide_eq_false he
      have HNe := Lib.hid he
      go_wp2_with fail
      have z0 := HZ.out.1
      have z1 := HZ.out.2
      unfold set2R at z0 z1
      refine bodyPost_ret (v := .tuple #[.agg #[.string ⟨#[]⟩, .slice none 0 0], .int .i64 0, .int .i64 ev]) (by simp [results, Try.results19, go_sem, z0, z1]) rfl ?_
      refine ⟨0, ⟨[], [], 0, ev⟩, none, 0, HE.out, ?_, rfl, RowOf.nil, HBS.out _ _⟩
      rw [HLS0.out, Hev.out]
      unfold readR
      simp only [if_neg HNe.out]
  have d1 : decide ((K : Int) = 0) = false := by simp [hK0]
  have d2 : ¬ (K : Int) = 0 := by omega
  obtain ⟨first, rest, rfl⟩ : ∃ f r, ls = f :: r := by
    cases ls with
    | nil => exact absurd hln.symm hK0
    | cons f r => exact ⟨f, r, rfl⟩
  have hrest : rest.length + 1 = K := by simpa using hln
  obtain ⟨rb, ro, hrow, hidx⟩ := at_strs HRows.out
  have hc0 := hrow 0 (by simp)
  have hix : ∀ w', (Instr.indexAt 32 (.slice ar K cr) (.int .i64 0)).run Try.prog w' = .ok (.pointer (some ⟨rb, ro, none⟩)) w' := fun w' => by simpa using hidx .i64 0 w' (by omega)
  have hfl := Hrl.out first (List.mem_cons_self ..)
  have hc1 : w1.cell? ⟨rb, ro, none⟩ = some (.string (str first)) := by simpa using hc0
  obtain ⟨hz1, hz2⟩ : (str first).size ≤ first.length ∧ first.length ≤ (str first).size := ⟨Nat.le_refl _, Nat.le_refl _⟩
  have Hrow := Lib.hid hrow
  have Hidx := Lib.hid hidx
  have Hrest := Lib.hid hrest
  clear hrow hidx hc0 hrest hln
  by_cases hh : isHead first = false
  · have HRR := Lib.hid (readR_bad (rest := rest) hh)
    by_cases h14 : first.length < 14
    · have t1 : decide (((str first).size : Int) < 14) = true := decide_eq_true (by omega)
      have t2 : ((str first).size : Int) < 14 := by omega
      clear hh
      go_wp2_with fail
      have z0 := HZ.out.1
      have z1 := HZ.out.2
      unfold set2R at z0 z1
      refine bodyPost_ret (v := .tuple #[.agg #[.string ⟨#[]⟩, .slice none 0 0], .int .i64 0, .int .i64 11]) (by simp [results, Try.results19, go_sem, z0, z1]) rfl ?_
      exact ⟨K, ⟨[], [], 0, 11⟩, none, 0, HE.out, by rw [Hls.out, HRR.out], rfl, RowOf.nil, HBS.out _ _⟩
    · have t1 : decide (((str first).size : Int) < 14) = false := decide_eq_false (by omega)
      have t2 : ¬ (((str first).size : Int) < 14) := by omega
      by_cases hbig : 4110 < first.length
      · have u1 : decide ((4110 : Int) < ((str first).size : Int)) = true := decide_eq_true (by omega)
        have u2 : (4110 : Int) < ((str first).size : Int) := by omega
        clear hh
        go_wp2_with fail
        have z0 := HZ.out.1
        have z1 := HZ.out.2
        unfold set2R at z0 z1
        refine bodyPost_ret (v := .tuple #[.agg #[.string ⟨#[]⟩, .slice none 0 0], .int .i64 0, .int .i64 11]) (by simp [results, Try.results19, go_sem, z0, z1]) rfl ?_
        exact ⟨K, ⟨[], [], 0, 11⟩, none, 0, HE.out, by rw [Hls.out, HRR.out], rfl, RowOf.nil, HBS.out _ _⟩
      · have u1 : decide ((4110 : Int) < ((str first).size : Int)) = false := decide_eq_false (by omega)
        have u2 : ¬ ((4110 : Int) < ((str first).size : Int)) := by omega
        have hm : first.take 14 ≠ magicB := by
          intro hm
          unfold isHead at hh
          rw [decide_eq_true hm, Bool.true_and, decide_eq_false_iff_not] at hh
          omega
        have hbq : ((str (first.take 14)).toList == [107, 105, 110, 101, 116, 111, 115, 99, 111, 112, 101, 32, 49, 10]) = false := by
          rw [beq_eq_false_iff_ne, ByteArray.toList_eq]
          exact hm
        have hs : ∀ w', (Instr.sliceAt 9 (.string (str first)) none (some (.int .i64 14)) none).run Try.prog w' = .ok (.string (str (first.take 14))) w' := fun w' => Sw.run_sub_h (P := Try.prog) (w := w') Try.underlying9 first .i64 14 (by omega)
        clear hh hm
        generalize str (first.take 14) = R at *
        go_wp2_with fail
        have z0 := HZ.out.1
        have z1 := HZ.out.2
        unfold set2R at z0 z1
        refine bodyPost_ret (v := .tuple #[.agg #[.string ⟨#[]⟩, .slice none 0 0], .int .i64 0, .int .i64 11]) (by simp [results, Try.results19, go_sem, z0, z1]) rfl ?_
        exact ⟨K, ⟨[], [], 0, 11⟩, none, 0, HE.out, by rw [Hls.out, HRR.out], rfl, RowOf.nil, HBS.out _ _⟩
  have hhm : first.take 14 = magicB ∧ first.length ≤ 4110 := by
    unfold isHead at hh
    simpa using hh
  obtain ⟨hm, hshort⟩ := hhm
  have h14 := take_magic_len hm
  have HRR : Hid (∀ m e, readR (first :: rest) m e = if goodT rest = rest.length then ⟨first.drop 14, rest.map toldA, m, e⟩ else ⟨first.drop 14, (rest.take (goodT rest)).map toldA, (framesB (first :: rest.take (goodT rest))).length, toldE (rest.getD (goodT rest) [])⟩) := fun m e => by unfold readR; simp only [if_neg hh]
  have hbq : ((str (first.take 14)).toList == [107, 105, 110, 101, 116, 111, 115, 99, 111, 112, 101, 32, 49, 10]) = true := by
    rw [ByteArray.toList_eq]; show (first.take 14 == magicB) = true; rw [hm]; exact beq_self_eq_true _
  have hs : ∀ w', (Instr.sliceAt 9 (.string (str first)) none (some (.int .i64 14)) none).run Try.prog w' = .ok (.string (str (first.take 14))) w' := fun w' => Sw.run_sub_h (P := Try.prog) (w := w') Try.underlying9 first .i64 14 (by omega)
  have hs2 : ∀ w', (Instr.sliceAt 9 (.string (str first)) (some (.int .i64 14)) none none).run Try.prog w' = .ok (.string (str (first.drop 14))) w' := fun w' => Sw.run_sub_l (P := Try.prog) (w := w') Try.underlying9 first .i64 14 (by omega)
  have t1 : decide (((str first).size : Int) < 14) = false := decide_eq_false (by omega)
  have t2 : ¬ (((str first).size : Int) < 14) := by omega
  have u1 : decide ((4110 : Int) < ((str first).size : Int)) = false := decide_eq_false (by omega)
  have u2 : ¬ ((4110 : Int) < ((str first).size : Int)) := by omega
  have HOne := Lib.hid fun w => ref_one_calls w first (by omega)
  have HLen : Hid ((str (oneF first)).size = (framesB [first]).length) := by rw [framesB_one]; exact rfl
  clear hm hh
  generalize hS : str (first.drop 14) = S at *
  generalize str (first.take 14) = R at *
  have HSc := Lib.hid hS
  clear hS
  have hB2 := (Below.refl w1.heap.size w1).alloc (Nat.le_refl _) (.cells #[.string S, .slice none 0 0] 45)
  have HR2 : Hid (RSt w w1.heap.size S (.slice none 0 0) 0 [] (w1.alloc (.cells #[.string S, .slice none 0 0] 45))) :=
    ⟨(hB2.block _ HS1.out).trans HG1.out, heap_alloc_new w1 _, World.ownsRow_nil _ _ _ _, fun t ht => by simp at ht, HB1.out.trans (hB2.mono (Nat.le_of_lt HS1.out)), HS1.out⟩
  have HB2 := Lib.hid hB2
  clear hB2
  go_wp2_with fail
  refine (HOne.out _).mono ?_
  rintro e w4 ⟨rfl, hb4⟩
  have HR4 := Lib.hid (HR2.out.below hb4)
  have HB14 : Hid (Below w1.heap.size w1 w4) := HB2.out.trans (hb4.mono HB2.out.size)
  obtain ⟨m, hmK⟩ : ∃ m, K = m + 1 := ⟨K - 1, by omega⟩
  subst hmK
  have HN : Hid (rest.length = m) := by show _ = _; have := Hrest.out; omega
  have HRL2 : Hid (∀ r ∈ rest, r.length ≤ 65536) := fun r hr => Hrl.out r (List.mem_cons_of_mem _ hr)
  have hm1 : m ≤ 1000000 := by omega
  have HFr : Hid (∀ k, (framesB (first :: rest.take k)).length ≤ (m + 1) * 65550) := fun k => by
    refine Nat.le_trans (framesB_le _ fun r hr => ?_) ?_
    · rcases List.mem_cons.1 hr with rfl | hr
      · exact hfl
      · exact HRL2.out r (List.mem_of_mem_take hr)
    · refine Nat.mul_le_mul_right _ ?_
      rw [List.length_cons, List.length_take]
      have := HN.out
      omega
  clear hb4 HR2 HB2 HOne g0 g1 f0 f1 hc1 hbq hs hs2 hix t1 u1 t2 u2 d1 d2
  generalize str (oneF first) = One at *
  go_wp2_with fail
  go_loopw [10, 11] (fun v10 v11 wr => ∃ (j : Nat) (vr : Value) (ts : ATs), j ≤ m ∧ v11 = .int .i64 ((j : Int) + 1) ∧ v10 = .int .i64 ((framesB (first :: rest.take j)).length : Int) ∧ RSt w w1.heap.size S vr j ts wr ∧ Below w1.heap.size w1 wr ∧
      ts.map (·.1) = (rest.take j).map toldA ∧ (∀ i (hi : i < rest.length), i < j → toldE rest[i] = 0)) (fun _ i _ => m + 1 - (intOf i).toNat)
  case atStart => exact ⟨0, .slice none 0 0, [], Nat.zero_le _, rfl, by rw [HLen.out]; rfl, HR4.out, HB14.out, rfl, fun i _ hi => absurd hi (by omega)⟩
  case round =>
    obtain ⟨j, vr, ts, hj, rfl, rfl, hst, hbel, hts, hgood⟩ := hrel
    obtain ⟨ar6, cr6, rfl, _, _, _, _⟩ := ownsRow_slice hst.own
    have Hst := Lib.hid hst
    have Hts := Lib.hid hts
    have Hbel := Lib.hid hbel
    have Hgood := Lib.hid hgood
    clear hst hts hbel hgood
    by_cases hlt : j < m
    · have hjl : j < rest.length := by rw [HN.out]; exact hlt
      have hc5 := cell_below Hbel.out (Nat.le_refl _) (Hrow.out (j + 1) (by simp; omega))
      have hix5 : ∀ w', (Instr.indexAt 32 (.slice ar (m + 1) cr) (.int .i64 ((j : Int) + 1))).run Try.prog w' = .ok (.pointer (some ⟨rb, ro + (j + 1), none⟩)) w' := fun w' => by
        have := Hidx.out .i64 (j + 1) w' (by omega)
        rwa [Int.natCast_succ] at this
      rw [List.getElem_cons_succ] at hc5
      have hrl := HRL2.out _ (List.getElem_mem hjl)
      have hst1 : rest.take (j + 1) = rest.take j ++ [rest[j]] := List.take_succ_eq_append_getElem hjl
      have hgd : rest.getD j [] = rest[j] := by simp [List.getD, hjl]
      generalize hr : rest[j]'hjl = r at hc5 hrl hst1 hgd
      have HT := Lib.hid (ref_told_calls_at wr r (by omega))
      have HOneR := Lib.hid fun w => ref_one_calls w r (by omega)
      have HL1 : Hid ((framesB (first :: rest.take (j + 1))).length = (framesB (first :: rest.take j)).length + (str (oneF r)).size) := by show (framesB (first :: rest.take (j + 1))).length = (framesB (first :: rest.take j)).length + (str (oneF r)).size; rw [hst1, ← List.cons_append, framesB_snoc, List.length_append]; rfl
      have HFr1 := Lib.hid (HFr.out (j + 1))
      have Hr := Lib.hid hr
      have Hst1 := Lib.hid hst1
      have Hgd := Lib.hid hgd
      have Hrl := Lib.hid hrl
      have Hix5 := Lib.hid hix5
      clear hr hst1 hgd hrl hix5
      have t1 : decide ((j : Int) + 1 < ((m + 1 : Nat) : Int)) = true := decide_eq_true (by omega)
      have t2 : (j : Int) + 1 < ((m + 1 : Nat) : Int) := by omega
      have hix5 := Hix5.out
      have HDs := Lib.hid Hst.out.dlt
      generalize hx : toldA r = x at HT
      generalize hfe : toldE r = fe at HT
      have Hx := Lib.hid hx
      have Hfe := Lib.hid hfe
      clear hx hfe
      unfold ansV at HT
      generalize hL : (framesB (first :: rest.take j)).length = L at *
      have HL := Lib.hid hL
      clear hL
      go_wp2_with fail
      refine (HT.out).mono ?_
      rintro e w5 ⟨a6, c6, rfl, hstr, hb5, hlow⟩
      go_upto_region 15 with fail
      have HE6 : Hid ((w5.alloc (.cells #[.int .i64 x.kind, .int .i64 x.err, .int .i64 x.n, .int .i64 x.m, .string (str x.text), .slice a6 x.list.length c6, .int .i64 x.sig] 34)).heap[w5.heap.size]? = some (.cells #[.int .i64 x.kind, .int .i64 x.err, .int .i64 x.n, .int .i64 x.m, .string (str x.text), .slice a6 x.list.length c6, .int .i64 x.sig] 34)) := heap_alloc_new w5 _
      have hB6 := (Below.refl w5.heap.size w5).alloc (Nat.le_refl _) (.cells #[.int .i64 x.kind, .int .i64 x.err, .int .i64 x.n, .int .i64 x.m, .string (str x.text), .slice a6 x.list.length c6, .int .i64 x.sig] 34)
      have Hst6 := Lib.hid ((Hst.out.below hb5).below hB6)
      have HB16 := Lib.hid (Hbel.out.trans ((hb5.trans (hB6.mono hb5.size)).mono Hbel.out.size))
      have HNew : Hid (Lies (w5.alloc (.cells #[.int .i64 x.kind, .int .i64 x.err, .int .i64 x.n, .int .i64 x.m, .string (str x.text), .slice a6 x.list.length c6, .int .i64 x.sig] 34)) w1.heap.size (.slice ar6 j cr6) (x, a6, c6)) := lies_below (lies_new hstr hlow HDs.out (fun k hk => (Hst.out.own.lt k hk).2)) hB6
      clear hb5 hB6 hstr hlow HT
      have HS6 : Hid ((w5.alloc (.cells #[.int .i64 x.kind, .int .i64 x.err, .int .i64 x.n, .int .i64 x.m, .string (str x.text), .slice a6 x.list.length c6, .int .i64 x.sig] 34)).heap.size = w5.heap.size + 1) := World.size_alloc _ _
      generalize (w5.alloc (.cells #[.int .i64 x.kind, .int .i64 x.err, .int .i64 x.n, .int .i64 x.m, .string (str x.text), .slice a6 x.list.length c6, .int .i64 x.sig] 34)) = w6 at *
      obtain ⟨d0, d1, d2, e0, e1, e2, e3⟩ := Hst6.out.cells
      by_cases he : fe = 0
      · subst he
        clear e0 e1 e2 e3 d0
        have k0 : w6.cell? ⟨w5.heap.size, 0, none⟩ = some (.int .i64 x.kind) := by have := HE6.out; simp only [World.cell?, this]; rfl
        have k1 : w6.cell? ⟨w5.heap.size, 1, none⟩ = some (.int .i64 x.err) := by have := HE6.out; simp only [World.cell?, this]; rfl
        have k2 : w6.cell? ⟨w5.heap.size, 2, none⟩ = some (.int .i64 x.n) := by have := HE6.out; simp only [World.cell?, this]; rfl
        have k3 : w6.cell? ⟨w5.heap.size, 3, none⟩ = some (.int .i64 x.m) := by have := HE6.out; simp only [World.cell?, this]; rfl
        have k4 : w6.cell? ⟨w5.heap.size, 4, none⟩ = some (.string (str x.text)) := by have := HE6.out; simp only [World.cell?, this]; rfl
        have k5 : w6.cell? ⟨w5.heap.size, 5, none⟩ = some (.slice a6 x.list.length c6) := by have := HE6.out; simp only [World.cell?, this]; rfl
        have k6 : w6.cell? ⟨w5.heap.size, 6, none⟩ = some (.int .i64 x.sig) := by have := HE6.out; simp only [World.cell?, this]; rfl
        have HJ : Hid (j ≤ 1000000) := by show _ ≤ _; omega
        have hal := (Below.refl w6.heap.size w6).alloc (Nat.le_refl _) (.cells #[.int .i64 x.kind, .int .i64 x.err, .int .i64 x.n, .int .i64 x.m, .string (str x.text), .slice a6 x.list.length c6, .int .i64 x.sig] 34)
        have Hst7 := Lib.hid (Hst6.out.below hal)
        have HNew7 := Lib.hid (lies_below HNew.out hal)
        have HB17 := Lib.hid (HB16.out.trans (hal.mono HB16.out.size))
        clear hal
        go_wp2_with (at_builtin; refine wpList_append_at rfl (.tmp 71) (.tmp 73) 22 22 rfl (w1.heap.size + 1) 34 ia _ 7 80 Try.underlying22 (append_side Try.underlying22) hia hza hza1 hza2 rfl (by decide) (by decide) (.slice ar6 j cr6) j (cells7 ts) rfl Hst7.out.own _ 1 _ rfl (src_new w6 [.int .i64 x.kind, .int .i64 x.err, .int .i64 x.n, .int .i64 x.m, .string (str x.text), .slice a6 x.list.length c6, .int .i64 x.sig] 34 7 1 rfl (by simp [Value.oneCell']) _) ?_ ?_ ?_ ?_)
        case _ => have := HJ.out; unfold maxLen; omega
        case _ => have := HJ.out; omega
        case _ => have := Hst7.out.dlt; omega
        intro v8 w8 hown8 hg8 hat8
        obtain ⟨a8, c8, rfl, _, _, _, _⟩ := ownsRow_slice hown8
        have hfz8 : w8.frozen? ⟨w1.heap.size, 1, none⟩ = false ∧ w8.cell? ⟨w1.heap.size, 1, none⟩ = some (.slice ar6 j cr6) := by
          have hD8 : w8.heap[w1.heap.size]? = some (.cells #[.string S, .slice ar6 j cr6] 45) := (hg8.block _ Hst7.out.dlt (fun e => by have := (Hst7.out.own.lt _ e.symm).1; omega)).trans Hst7.out.dz
          simp [World.cell?, World.frozen?, hD8]
        obtain ⟨hf8, hc8⟩ := hfz8
        have Hst9 := Lib.hid (Hst7.out.push hg8 hown8 (fun g h1 h2 => hat8 g h1 (by simpa using h2)) HNew7.out)
        have HB19 : Hid (Below w1.heap.size w1 (w8.setCell ⟨w1.heap.size, 1, none⟩ (.slice a8 (j + 1) c8))) := (HB17.out.grown hg8 HB17.out.size (fun k hk => by have := (Hst7.out.own.lt k hk).1; omega)).setCell (Nat.le_refl _) _
        have hc5' := cell_below HB19.out (Nat.le_refl _) (Hrow.out (j + 1) (by simp; omega))
        rw [List.getElem_cons_succ, Hr.out] at hc5'
        clear hg8 hown8 hat8 k0 k1 k2 k3 k4 k5 k6 d1 d2 hc5
        generalize hO : str (oneF r) = O at *
        have hos : O.size ≤ 100000 := by subst hO; rw [str_size, oneF_len]; have h1 := Hrl.out; have := num_len r.length (by unfold Lt64; omega); omega
        clear hO
        have hLb : L ≤ 100000000000 := by have := HL.out; have := HFr.out j; omega
        go_wp2_with fail
        refine (HOneR.out _).mono ?_
        rintro e w11 ⟨rfl, hb11⟩
        have Hst11 := Lib.hid (Hst9.out.below hb11)
        have HB11 := Lib.hid (HB19.out.trans (hb11.mono HB19.out.size))
        clear hb11
        go_wp2_with fail
        go_roundw
        case rel =>
          refine ⟨j + 1, .slice a8 (j + 1) c8, ts ++ [(x, a6, c6)], by omega, by go_num, by rw [HL1.out]; go_num, Hst11.out, HB11.out, ?_, fun i hi hij => ?_⟩
          · rw [Hst1.out, List.map_append, List.map_append, Hts.out, List.map_cons, List.map_nil, List.map_cons, List.map_nil, Hx.out]
          · by_cases hij' : i < j
            · exact Hgood.out i hi hij'
            · obtain rfl : i = j := by omega
              rw [Hr.out]
              exact Hfe.out
        case measure => simp [intOf]; omega
      · have e4 : decide (fe = 0) = false := decide_eq_false he
        have hgt : goodT rest = j := goodT_eq (fun i hi hij => Hgood.out i hi hij) (by rw [HN.out]; omega) (fun hj => by rw [Hr.out, Hfe.out]; exact he)
        have HRes : Hid (∀ mm e, readR (first :: rest) mm e = ⟨first.drop 14, (rest.take j).map toldA, L, fe⟩) := fun mm e => by
          rw [HRR.out, hgt, if_neg (by rw [HN.out]; omega), HL.out, Hgd.out, Hfe.out]
        have HZ6 := Lib.hid (set2R_at (.string S) (.slice ar6 j cr6) Hst6.out.gz)
        have HDone := Lib.hid (Hst6.out.done (.string S) (.slice ar6 j cr6))
        clear hgt hlt hj d2
        go_wp2_with fail
        obtain ⟨z0, z1⟩ := HZ6.out
        unfold set2R at z0 z1
        change bodyPost Try.prog Try.f19 _ .ret _ _
        refine bodyPost_ret (v := .tuple #[.agg #[.string S, .slice ar6 j cr6], .int .i64 (L : Int), .int .i64 fe]) (by simp [results, Try.results19, go_sem, z0, z1]) rfl ?_
        have hlen : ((rest.take j).map toldA).length = j := by rw [← Hts.out, List.length_map]; have := Hst6.out.own.1; rw [cells7_len] at this; omega
        refine ⟨m + 1, ⟨first.drop 14, (rest.take j).map toldA, L, fe⟩, ar6, cr6, HE.out, (by rw [Hls.out, HRes.out]), ?_, ?_, HDone.out.2⟩
        · show _ = Ending.returned (.tuple #[.agg #[.string (str (first.drop 14)), .slice ar6 ((rest.take j).map toldA).length cr6], .int .i64 (L : Int), .int .i64 fe])
          rw [hlen, HSc.out]
        · show Anss _ ar6 ((rest.take j).map toldA).length cr6 ((rest.take j).map toldA)
          rw [hlen, ← Hts.out]
          exact HDone.out.1
    · have hjm : j = m := by omega
      have HGT : Hid (goodT rest = rest.length) := goodT_eq (fun i hi _ => Hgood.out i hi (by have := HN.out; omega)) (Nat.le_refl _) (fun h => absurd h (Nat.lt_irrefl _))
      have HTake : Hid (rest.take j = rest) := List.take_of_length_le (by have := HN.out; omega)
      have HRes : Hid (∀ mm e, readR (first :: rest) mm e = ⟨first.drop 14, rest.map toldA, mm, e⟩) := fun mm e => by rw [HRR.out, HGT.out, if_pos rfl]
      have t1 : decide ((j : Int) + 1 < ((m + 1 : Nat) : Int)) = false := decide_eq_false (by omega)
      have t2 : ¬ ((j : Int) + 1 < ((m + 1 : Nat) : Int)) := by omega
      obtain ⟨d0, d1, d2, e0, e1, e2, e3⟩ := Hst.out.cells
      have HZ6 := Lib.hid (set2R_at (.string S) (.slice ar6 j cr6) Hst.out.gz)
      have HDone := Lib.hid (Hst.out.done (.string S) (.slice ar6 j cr6))
      clear hlt hj hjm d2
      generalize (framesB (first :: rest.take j)).length = L at *
      go_wp2_with fail
      obtain ⟨z0, z1⟩ := HZ6.out
      unfold set2R at z0 z1
      change bodyPost Try.prog Try.f19 _ .ret _ _
      refine bodyPost_ret (v := .tuple #[.agg #[.string S, .slice ar6 j cr6], .int .i64 (sn : Int), .int .i64 ev]) (by simp [results, Try.results19, go_sem, z0, z1]) rfl ?_
      have hts := Hts.out
      rw [HTake.out] at hts
      have hlen : (rest.map toldA).length = j := by rw [← hts, List.length_map]; have := Hst.out.own.1; rw [cells7_len] at this; omega
      refine ⟨m + 1, ⟨first.drop 14, rest.map toldA, sn, ev⟩, ar6, cr6, HE.out, (by rw [Hls.out, Hsn.out, Hev.out, HRes.out]), ?_, ?_, HDone.out.2⟩
      · show _ = Ending.returned (.tuple #[.agg #[.string (str (first.drop 14)), .slice ar6 (rest.map toldA).length cr6], .int .i64 (sn : Int), .int .i64 ev])
        rw [hlen, HSc.out]
      · show Anss _ ar6 (rest.map toldA).length cr6 (rest.map toldA)
        rw [hlen, ← hts]
        exact HDone.out.1
end Go.Proofs.Ytgbnfipbedlmhaa
