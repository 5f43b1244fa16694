/-
  Split: rows, one behind the other. Conditions: the rows are few and short.
-/
import Derived.Test.YtiemlgfcmldnoaaSpWalks5
set_option linter.unusedVariables false
set_option maxRecDepth 100000
namespace Go.Proofs.Ytiemlgfcmldnoaa
open Go.RowKit Base

/-- A row as it comes in: its text and its mask may be of two lengths. -/
abbrev Pair := List UInt8 × List UInt8
def pairC (p : Pair) : List Value := [.string (str p.1), .string (str p.2)]
def zipP (p : Pair) : SRow := p.1.zip p.2
def joinP (l : List Pair) : SRow := l.flatMap zipP
theorem joinP_take (l : List Pair) (k : Nat) (h : k < l.length) : joinP (l.take (k + 1)) = joinP (l.take k) ++ zipP l[k] := by
  unfold joinP
  rw [List.take_succ_eq_append_getElem h, List.flatMap_append, List.flatMap_cons, List.flatMap_nil, List.append_nil]
theorem joinP_len (l : List Pair) (B : Nat) (h : ∀ p ∈ l, p.1.length ≤ B) : (joinP l).length ≤ l.length * B := by
  induction l with
  | nil => simp [joinP]
  | cons p r ih =>
    have h1 := ih fun q hq => h q (List.mem_cons_of_mem _ hq)
    have h2 := h p (List.mem_cons_self ..)
    unfold joinP at h1 ⊢
    rw [List.flatMap_cons, List.length_append, List.length_cons, Nat.add_mul]
    have : (zipP p).length ≤ p.1.length := by unfold zipP; rw [List.length_zip]; omega
    omega
abbrev SPairs := RowOf (Ap.cellsAt pairC) 2
def markD (D : Nat) : Deferred := { target := .collected D, args := #[] }
/-- Between two rounds. -/
structure JI (w : World) (o : SRow) (Ds : List Nat) (W : World) : Prop where
  z : W.heap[w.heap.size]? = some (.cells #[.string ⟨#[]⟩, .string ⟨#[]⟩] 23)
  o : W.heap[w.heap.size + 1]? = some (.cells #[.string (str (textS o)), .string (str (maskS o))] 23)
  low : Below w.heap.size w W
  size : w.heap.size + 1 + 1 ≤ W.heap.size
  ds : ∀ D ∈ Ds, w.heap.size + 1 + 1 ≤ D ∧ W.heap[D]? = some (.deferred (some []))
  nd : Ds.Nodup
theorem JI.below {w : World} {o : SRow} {Ds : List Nat} {A B : World} (h : JI w o Ds A) (hb : Below A.heap.size A B) : JI w o Ds B :=
  ⟨(hb.block _ (Array.getElem?_eq_some_iff.1 h.z).1).trans h.z, (hb.block _ (Array.getElem?_eq_some_iff.1 h.o).1).trans h.o, h.low.trans (hb.mono h.low.size), Nat.le_trans h.size hb.size,
    fun D hD => ⟨(h.ds D hD).1, (hb.block _ (Array.getElem?_eq_some_iff.1 (h.ds D hD).2).1).trans (h.ds D hD).2⟩, h.nd⟩
theorem JI.grown {w : World} {o : SRow} {Ds : List Nat} {A B : World} {q : Nat} (h : JI w o Ds A) (hg : A.grownBy B (some q)) (hq : w.heap.size + 1 + 1 ≤ q) (hD : ∀ D ∈ Ds, D < q) : JI w o Ds B :=
  ⟨(hg.block _ (Array.getElem?_eq_some_iff.1 h.z).1 (fun e => by cases e; omega)).trans h.z, (hg.block _ (Array.getElem?_eq_some_iff.1 h.o).1 (fun e => by cases e; omega)).trans h.o, h.low.grown hg h.low.size (fun j e => by cases e; omega), Nat.le_trans h.size hg.size,
    fun D hm => ⟨(h.ds D hm).1, (hg.block _ (Array.getElem?_eq_some_iff.1 (h.ds D hm).2).1 (fun e => by cases e; exact Nat.lt_irrefl _ (hD _ hm))).trans (h.ds D hm).2⟩, h.nd⟩
theorem JI.next {w : World} {o o' : SRow} {Ds : List Nat} {A B : World} {F : Nat} (h : JI w o Ds A) (hF : w.heap.size + 1 + 1 ≤ F) (ho : B.heap[w.heap.size + 1]? = some (.cells #[.string (str (textS o')), .string (str (maskS o'))] 23)) (hu : Upd (w.heap.size + 1) F A B) : JI w o' Ds B :=
  ⟨(hu.block _ (by omega) (by omega)).trans h.z, ho, h.low.trans (hu.below (by omega) (by omega)), Nat.le_trans h.size hu.size, fun D hm => ⟨(h.ds D hm).1, hu.others.same D _ (h.ds D hm).2 rfl⟩, h.nd⟩
theorem JI.push {w : World} {o : SRow} {Ds : List Nat} {A : World} {D : Nat} (h : JI w o Ds A) (hD : w.heap.size + 1 + 1 ≤ D) (hnew : ∀ E ∈ Ds, E < D) (hd : A.heap[D]? = some (.deferred (some []))) : JI w o (D :: Ds) A :=
  ⟨h.z, h.o, h.low, h.size, fun E hE => (List.mem_cons.1 hE).elim (fun e => by rw [e]; exact ⟨hD, hd⟩) (fun e => h.ds E e), List.nodup_cons.2 ⟨fun hm => Nat.lt_irrefl _ (hnew D hm), h.nd⟩⟩
theorem JI.lt {w : World} {o : SRow} {Ds : List Nat} {A : World} (h : JI w o Ds A) : ∀ D ∈ Ds, D < A.heap.size := fun D hD => (Array.getElem?_eq_some_iff.1 (h.ds D hD).2).1
/-- The frame on its way out: all marks are taken over; the results are read behind them. -/
theorem leaves_marks {F : Fence} {n : Nat} {P : Program} {fn : Func} {tmps : Array Value} {R : Ending → World → Prop} (b : Nat) (h : World → Prop) (hk : ∀ W D, h W → b ≤ D → h (W.putObj D (.deferred none)))
    (hR : ∀ W, h W → LeavesInM F n P fn tmps R [] .returning W) : ∀ (Ds : List Nat) (W : World), h W → Ds.Nodup → (∀ D ∈ Ds, b ≤ D ∧ W.heap[D]? = some (.deferred (some []))) → LeavesInM F n P fn tmps R (Ds.map markD) .returning W := by
  intro Ds
  induction Ds with
  | nil => exact fun W hW _ _ => hR W hW
  | cons D Ds ih =>
    intro W hW hnd hds
    have h1 := hds D (List.mem_cons_self ..)
    refine ⟨by simp, .inl ⟨_, _, rfl, run_takeDeferred h1.2, ?_⟩⟩
    refine ih _ (hk _ _ hW h1.1) (List.nodup_cons.1 hnd).2 fun E hE => ⟨(hds E (List.mem_cons_of_mem _ hE)).1, ?_⟩
    have hne : D ≠ E := fun e => (List.nodup_cons.1 hnd).1 (e ▸ hE)
    exact (World.putObj_heap_other (by first | exact hne | exact hne.symm)).trans (hds E (List.mem_cons_of_mem _ hE)).2
set_option maxHeartbeats 4000000 in
theorem sp_join_calls (w : World) (a : Option Addr) (n cap : Nat) (l : List Pair) (hl : SPairs w a n cap l) (hn : n ≤ 100) (hlen : ∀ p ∈ l, p.1.length ≤ 1000 ∧ p.2.length ≤ 1000) :
    Calls Try.prog 12 #[.slice a n cap] w fun e w' => e = .returned (rowV (joinP l)) ∧ Below w.heap.size w w' := by
  obtain rfl := hl.len
  have HL := Lib.hid hl
  obtain ⟨bb, off, hrow, hidx⟩ := HL.out.at (P := Try.prog)
  have HRow := Lib.hid hrow
  have HIdx := Lib.hid fun k W => hidx 25 23 _ Try.underlying25 rfl rfl .i64 k W
  clear hl hrow hidx
  refine (callsIn_wide (n := 3)).1 ?_
  refine callsIn_of_wp_marks Try.func12 rfl trivial ?_ rfl
  simp only [Try.ntmps12, List.size_toArray, List.length_cons, List.length_nil, Nat.reduceAdd, Nat.reduceSub, Array.replicate_succ, Array.replicate_zero, List.push_toArray, List.append_toArray, List.nil_append, List.cons_append]
  refine wpIn_wide.2 ?_
  go_wp2_with fail
  obtain ⟨hA0, hbl, hsz⟩ := heap2 w (.cells #[.string ⟨#[]⟩, .string ⟨#[]⟩] 23) (.cells #[.string ⟨#[]⟩, .string ⟨#[]⟩] 23)
  have hA1 := heap_alloc_new (w.alloc (.cells #[.string ⟨#[]⟩, .string ⟨#[]⟩] 23)) (.cells #[.string ⟨#[]⟩, .string ⟨#[]⟩] 23)
  rw [World.size_alloc] at hA1
  generalize (w.alloc (.cells #[.string ⟨#[]⟩, .string ⟨#[]⟩] 23)).alloc (.cells #[.string ⟨#[]⟩, .string ⟨#[]⟩] 23) = w0 at *
  have h0 : JI w (joinP (l.take 0)) [] w0 := ⟨hA0, hA1, hbl, by omega, fun D hD => absurd hD (by simp), List.nodup_nil⟩
  clear hA0 hA1 hbl
  refine wp_loop (fun aa W => ∃ (k : Nat) (u5 u11 u12 u13 u14 u15 u20 : Value) (Ds : List Nat), k ≤ l.length ∧ JI w (joinP (l.take k)) Ds W ∧ aa = { tmps := #[.slice a l.length cap, undef, .pointer (some ⟨w.heap.size, 0, none⟩), .pointer (some ⟨w.heap.size + 1, 0, none⟩), undef, u5, undef,
      .agg #[.string ⟨#[]⟩, .string ⟨#[]⟩], .slice a l.length cap, .int .i64 (l.length : Int), .int .i64 (k : Int), u11, u12, u13, u14, u15, undef, undef, undef, undef, u20, undef], defers := Ds.map markD })
    (fun aa _ => l.length - (intOf (aa.tmps.getD 10 undef)).toNat) ⟨0, undef, undef, undef, undef, undef, undef, undef, [], Nat.zero_le _, h0, rfl⟩ ?_
  clear h0 hsz w0
  rintro aa W ⟨k, u5, u11, u12, u13, u14, u15, u20, Ds, hk, hJ, rfl⟩
  have fin : (k < l.length ∧ ∃ hkl : k < l.length, True) ∨ k = l.length := by
    by_cases h : k < l.length
    · exact .inl ⟨h, h, trivial⟩
    · exact .inr (by omega)
  rcases fin with ⟨hkn, hkl, _⟩ | rfl
  · have hix := HIdx.out k
    have HJ := Lib.hid hJ
    have hb := hJ.low
    have hcl := HRow.out k hkl
    have htk := joinP_take l k hkl
    have hpl := hlen _ (List.getElem_mem hkl)
    have hix : ∀ W, Sem.run Try.prog (Instr.indexAt 25 (.slice a l.length cap) (.int .i64 (k : Int))) W = .ok (.pointer (some ⟨bb, off + k * 2, none⟩)) W := fun W => HIdx.out k W hkn
    have c0 : W.cell? ⟨bb, off + k * 2, none⟩ = some (.string (str l[k].1)) := Ap.stable_cellsAt pairC w W bb _ _ hb hcl 0 _ rfl
    have c1 : W.cell? ⟨bb, off + k * 2 + 1, none⟩ = some (.string (str l[k].2)) := Ap.stable_cellsAt pairC w W bb _ _ hb hcl 1 _ rfl
    have hol : (joinP (l.take k)).length ≤ 100000 := by
      have h1 := joinP_len (l.take k) 1000 fun p hp => (hlen p (List.mem_of_mem_take hp)).1
      have h2 : (l.take k).length ≤ 100 := by rw [List.length_take]; omega
      have h3 : (l.take k).length * 1000 ≤ 100 * 1000 := Nat.mul_le_mul_right _ h2
      omega
    have hSz := hJ.size
    generalize joinP (l.take k) = o at *
    unfold zipP at htk
    generalize l[k]'hkl = p at *
    obtain ⟨t, m⟩ := p
    simp only [] at c0 c1 hpl htk
    have HT := Lib.hid htk
    clear hcl htk hJ hb
    have u3 : decide (k < l.length) = true := decide_eq_true (by omega)
    have u1 : decide ((k : Int) < (l.length : Int)) = true := decide_eq_true (by omega)
    have u2 : (k : Int) < (l.length : Int) := by omega
    go_wp2_with fail
    refine (sp_cells_calls _ (str t) (str m)).mono ?_
    rintro e w' ⟨rfl, rfl⟩
    have hq := heap_alloc_new (W.alloc (.cells #[.string (str t), .string (str m)] 23)) (.cells #[.string (str t), .string (str m)] 23)
    rw [World.size_alloc] at hq
    have hJl : JI w o Ds ((W.alloc (.cells #[.string (str t), .string (str m)] 23)).alloc (.cells #[.string (str t), .string (str m)] 23)) := (HJ.out.below ((Below.refl _ W).alloc (Nat.le_refl _) _)).below ((Below.refl _ _).alloc (Nat.le_refl _) _)
    have hsl : ((W.alloc (.cells #[.string (str t), .string (str m)] 23)).alloc (.cells #[.string (str t), .string (str m)] 23)).heap.size = W.heap.size + 1 + 1 := by simp
    have HQ := Lib.hid hq
    have HJl := Lib.hid hJl
    clear hq hJl c0 c1 hix
    go_wp2_with fail
    have hq := HQ.out
    have hJl := HJl.out
    clear HQ HJl
    generalize (W.alloc (.cells #[.string (str t), .string (str m)] 23)).alloc (.cells #[.string (str t), .string (str m)] 23) = wl at *
    have hrl : (t.zip m).length ≤ 1000 := by rw [List.length_zip]; omega
    have hseq := sp_cells_seq wl t m (by rw [List.length_zip]; omega) (W.heap.size + 1) hq
    generalize t.zip m = r at *
    have hlt := HJ.out.lt
    have h0 : JI w (o ++ r.take 0) Ds wl := by rw [List.take_zero, List.append_nil]; exact hJl
    clear hq hJl
    refine wp_rangeFunc_it (gf := 26) (lb := #[.pointer (some ⟨W.heap.size + 1, 0, none⟩)]) rfl (enters_of Try.func26 (by kernel_rfl) rfl) (q := W.heap.size + 1) (by omega) hseq
      (fun j V => JI w (o ++ r.take j) Ds V) (fun j A B h hb => h.below hb) (fun j A B q h hg hq hc => h.grown hg (by omega) (fun D hD => by have := hlt D hD; omega)) h0
      (fun j a' V => ∃ C, W.heap.size + 1 + 1 ≤ C ∧ V.heap[C]? = some (.cells #[.int .u8 ((r.getD j (0, 0)).1.toNat : Int), .int .u8 ((r.getD j (0, 0)).2.toNat : Int)] 48) ∧
        a' = { tmps := #[.slice a l.length cap, undef, .pointer (some ⟨w.heap.size, 0, none⟩), .pointer (some ⟨w.heap.size + 1, 0, none⟩), undef, .pointer (some ⟨W.heap.size, 0, none⟩), .pointer (some ⟨C, 0, none⟩),
          .agg #[.string ⟨#[]⟩, .string ⟨#[]⟩], .slice a l.length cap, .int .i64 (l.length : Int), .int .i64 (k : Int), .bool true, .pointer (some ⟨bb, off + k * 2, none⟩), .agg #[.string (str t), .string (str m)], .agg #[.string (str t), .string (str m)],
          .func (.func 26) #[] #[.pointer (some ⟨W.heap.size + 1, 0, none⟩)], .agg #[.int .u8 ((r.getD j (0, 0)).1.toNat : Int), .int .u8 ((r.getD j (0, 0)).2.toNat : Int)], undef, undef, undef, u20, undef], defers := [] })
      ?hAx ?assign ?body ?done
    case hAx =>
      rintro j aa A B q ⟨C, hC, hcell, ha⟩ hg ⟨ob, ho, hno⟩
      refine ⟨C, hC, (hg.block C (Array.getElem?_eq_some_iff.1 hcell).1 (fun e => ?_)).trans hcell, ha⟩
      cases e
      rw [hcell] at ho
      cases ho
      cases hno
    case assign =>
      intro lk j V K hWs hK
      have hsem := fun ρ o h => Oper.semAt_some lk ρ o h
      unfold pairAt pairV
      have HK := Lib.hid fun a' W' => hK a' W'
      clear hK
      gi_wp2
      exact HK.out _ _ ((Below.refl _ V).alloc (Nat.le_refl _) _) ⟨V.heap.size, by omega, heap_alloc_new V _, rfl⟩
    case body =>
      rintro lk j a' W2 hI hkN ⟨C, hC, hcell, rfl⟩ hszW
      have hgd : r.getD j (0, 0) = r[j] := by rw [List.getD_eq_getElem?_getD, List.getElem?_eq_getElem hkN, Option.getD_some]
      rw [hgd] at hcell ⊢
      have hbt : o ++ r.take (j + 1) = (o ++ r.take j) ++ [r[j]] := by rw [List.take_succ_eq_append_getElem hkN, List.append_assoc]
      have htk : (r.take j).length ≤ 1000 := by rw [List.length_take]; omega
      have hol2 : (o ++ r.take j).length ≤ 200000 := by rw [List.length_append]; omega
      have HNext := Lib.hid fun B ho hu => hI.next (B := B) (o' := o ++ r.take (j + 1)) (F := W.heap.size + 1 + 1) (by omega) ho hu
      rw [hsl]
      have HBT := Lib.hid hbt
      have HO := Lib.hid hI.o
      generalize r[j]'hkN = x at *
      have hFin : Hid (∀ (B : World) (a2 : Act), B.heap[w.heap.size + 1]? = some (.cells #[.string (str (textS ((o ++ r.take j) ++ [x]))), .string (str (maskS ((o ++ r.take j) ++ [x])))] 23) → Upd (w.heap.size + 1) (W.heap.size + 1 + 1) W2 B →
          bodyEndI (W.heap.size + 1 + 1) (W.heap.size + 1) (fun j V => JI w (o ++ r.take j) Ds V) (j + 1) W2 .normal a2 B) := by
        intro B a2 ho hu
        refine ⟨hu.others.from _, hu.block _ (by omega) (by omega), ?_⟩
        exact HNext.out B (by rw [HBT.out]; exact ho) hu
      clear HBT HNext hbt
      generalize o ++ r.take j = oo at *
      obtain ⟨c0, c1, f0, f1⟩ := row_facts hI.o
      obtain ⟨c, lt⟩ := x
      simp only [] at hcell ⊢
      obtain ⟨e0, e1, _, _⟩ := row_facts hcell
      have hsem := fun ρ o h => Oper.semAt_some lk ρ o h
      have HAdd := Lib.hid (sp_add_calls W2 oo (c, lt) (by omega))
      unfold rowV pairV at HAdd
      clear hgd hI htk hseq h0 hcell
      gi_wp2
      refine ⟨trivial, CallsIn.inRound lk (callsIn_wide.2 (HAdd.out.mono ?_))⟩
      rintro e w3 ⟨rfl, hb3⟩
      have HO3 := Lib.hid ((hb3.block _ (Array.getElem?_eq_some_iff.1 HO.out).1).trans HO.out)
      have HU3 := Lib.hid (Upd.of_below (F := w.heap.size + 1) (show W.heap.size + 1 + 1 ≤ W2.heap.size by omega) hb3)
      clear c0 c1 f0 f1 hb3 HO HAdd
      obtain ⟨c0, c1, f0, f1⟩ := row_facts HO3.out
      gi_wp2
      exact hFin.out _ _ (row_set2 HO3.out _ _) ((HU3.out.set 0 _).set 1 _)
    case done =>
      rintro D V hD hI hK
      rw [List.take_length, ← HT.out] at hI
      have HI := Lib.hid (hI.push (D := D) (by omega) (fun E hE => by have := hlt E hE; omega) hK)
      clear hI hK hseq h0 hlt HT
      go_wp2_with fail
      refine ⟨⟨k + 1, .pointer (some ⟨W.heap.size, 0, none⟩), .bool true, .pointer (some ⟨bb, off + k * 2, none⟩), .agg #[.string (str t), .string (str m)], .agg #[.string (str t), .string (str m)], .func (.func 26) #[] #[.pointer (some ⟨W.heap.size + 1, 0, none⟩)], .int .i64 ((k : Int) + 1), D :: Ds, by omega, HI.out, rfl⟩, ?_⟩
      simp [intOf]
      omega
  · rw [List.take_length] at hJ
    obtain ⟨c0, c1, f0, f1⟩ := row_facts hJ.o
    obtain ⟨d0, d1, g0, g1⟩ := row_facts hJ.z
    have HJ := Lib.hid hJ
    obtain ⟨o, ho⟩ : ∃ o, o = joinP l := ⟨_, rfl⟩
    have HJoin : Hid (Ending.returned (.agg #[.string (str (textS o)), .string (str (maskS o))]) = Ending.returned (rowV (joinP l))) := by show _ = _; rw [← ho]; rfl
    rw [← ho] at HJ c0 c1
    clear hJ ho
    have u3 : decide (l.length < l.length) = false := decide_eq_false (by omega)
    have u1 : decide ((l.length : Int) < (l.length : Int)) = false := decide_eq_false (by omega)
    have u2 : ¬ ((l.length : Int) < (l.length : Int)) := by omega
    go_wp2_with fail
    have hw := row_set2 HJ.out.z (.string (str (textS o))) (.string (str (maskS o)))
    have hlow := (HJ.out.low.setCell (p := ⟨w.heap.size, 0, none⟩) (Nat.le_refl _) (.string (str (textS o)))).setCell (p := ⟨w.heap.size, 1, none⟩) (Nat.le_refl _) (.string (str (maskS o)))
    have hrow := HJ.out
    refine leaves_marks (w.heap.size + 1 + 1) (fun V => V.heap[w.heap.size]? = some (.cells #[.string (str (textS o)), .string (str (maskS o))] 23) ∧ Below w.heap.size w V ∧ w.heap.size + 1 + 1 ≤ V.heap.size) ?_ ?_ Ds _ ⟨hw, hlow, by simp; exact HJ.out.size⟩ HJ.out.nd ?_
    · rintro V D ⟨h1, h2, h3⟩ hD
      have hg := grownBy_putObj' V D (.deferred none)
      exact ⟨(World.putObj_heap_other (by omega)).trans h1, h2.grown hg h2.size (fun j e => by cases e; omega), Nat.le_trans h3 hg.size⟩
    · rintro V ⟨h1, h2, h3⟩
      obtain ⟨y0, y1, _, _⟩ := row_facts h1
      exact ⟨.agg #[.string (str (textS o)), .string (str (maskS o))], by simp [results, Try.results12, go_sem, y0, y1], HJoin.out, h2⟩
    · intro D hD
      exact ⟨(HJ.out.ds D hD).1, (set_other _ w.heap.size 1 _ D (by have := (HJ.out.ds D hD).1; omega)).trans ((set_other _ w.heap.size 0 _ D (by have := (HJ.out.ds D hD).1; omega)).trans (HJ.out.ds D hD).2)⟩
end Go.Proofs.Ytiemlgfcmldnoaa
