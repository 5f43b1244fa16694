/-
  Split: a text of one sort, and a row's text. Conditions: the texts are short.
-/
import Derived.Test.YtiemlgfcmldnoaaSpWalks4
set_option linter.unusedVariables false
set_option maxRecDepth 100000
namespace Go.Proofs.Ytiemlgfcmldnoaa
open Go.RowKit Base

theorem heap2 (w : World) (o0 o1 : Obj) : ((w.alloc o0).alloc o1).heap[w.heap.size]? = some o0 ∧ Below w.heap.size w ((w.alloc o0).alloc o1) ∧ ((w.alloc o0).alloc o1).heap.size = w.heap.size + 1 + 1 := by
  have h : ((w.alloc o0).alloc o1).heap = (w.heap.push o0).push o1 := rfl
  refine ⟨?_, ((Below.refl _ w).alloc (Nat.le_refl _) _).alloc (by simp) _, by rw [h]; simp⟩
  rw [h]
  simp only [Array.getElem?_push, Array.size_push]
  repeat (first | rw [if_pos rfl] | rw [if_pos trivial] | rw [if_neg (by omega)])
theorem row_facts {x : World} {b : Nat} {t : TypeId} {u v : Value} (h : x.heap[b]? = some (.cells #[u, v] t)) :
    x.cell? ⟨b, 0, none⟩ = some u ∧ x.cell? ⟨b, 1, none⟩ = some v ∧ x.frozen? ⟨b, 0, none⟩ = false ∧ x.frozen? ⟨b, 1, none⟩ = false := by
  refine ⟨?_, ?_, ?_, ?_⟩ <;> simp [World.cell?, World.frozen?, h]
theorem row_set2 {x : World} {b : Nat} {t : TypeId} {u v : Value} (h : x.heap[b]? = some (.cells #[u, v] t)) (u' v' : Value) : ((x.setCell ⟨b, 0, none⟩ u').setCell ⟨b, 1, none⟩ v').heap[b]? = some (.cells #[u', v'] t) :=
  heap_setCell_same _ _ 1 _ _ _ (heap_setCell_same _ _ 0 _ _ _ h)
/-- A text, all of one sort. -/
def ofS (s : List UInt8) (c : UInt8) : SRow := s.map fun b => (b, c)
theorem ofS_text (s : List UInt8) (c : UInt8) : textS (ofS s c) = s := by unfold textS ofS; rw [List.map_map]; exact List.map_id s
theorem ofS_mask (s : List UInt8) (c : UInt8) : maskS (ofS s c) = List.replicate s.length c := by unfold maskS ofS; rw [List.map_map]; exact List.map_const' ..
theorem str_repeat (c : UInt8) (n : Nat) : (⟨(Lib.repeatL (str [c]).data.toList n).toArray⟩ : ByteArray) = str (List.replicate n c) := by
  rw [str_data]
  have := Lib.repeatL_replicate c 1 n
  rw [Nat.mul_one] at this
  exact congrArg str this
set_option maxHeartbeats 1000000 in
theorem sp_of_calls (w : World) (s : List UInt8) (c : UInt8) (hs : s.length ≤ 100000) :
    Calls Try.prog 14 #[.string (str s), .int .u8 (c.toNat : Int)] w fun e w' => e = .returned (rowV (ofS s c)) ∧ Below w.heap.size w w' := by
  have HR := Lib.hid fun W => Try.strings_Repeat (str [c]) (str s).size W (by rw [str_size]; omega) (by rw [str_size, str_size]; simp; omega)
  have HS := Lib.hid fun (W : World) (o : Obj) => str_bytes (bytes_one (W.alloc o) (c.toNat : Int) c rfl 5)
  have hsz : (str s).size ≤ 100000 := hs
  go_enter Try.func14, Try.ntmps14
  go_wp2_with fail
  have h := HS.out w (.cells #[.string ⟨#[]⟩, .string ⟨#[]⟩] 23)
  rw [World.size_alloc] at h
  rw [h]
  clear h
  go_wp2_with fail
  have hb := heap2 w (.cells #[.string ⟨#[]⟩, .string ⟨#[]⟩] 23) (.cells #[.int .u8 (c.toNat : Int)] 5)
  obtain ⟨hb0, hbB, hbs⟩ := hb
  generalize (w.alloc (.cells #[.string ⟨#[]⟩, .string ⟨#[]⟩] 23)).alloc (.cells #[.int .u8 (c.toNat : Int)] 5) = w1 at *
  refine (HR.out w1).mono ?_
  rintro e w2 ⟨rfl, hb2⟩
  rw [str_repeat]
  have hk : w2.heap[w.heap.size]? = some (.cells #[.string ⟨#[]⟩, .string ⟨#[]⟩] 23) := (hb2.block _ (by omega)).trans hb0
  have HB := Lib.hid (hbB.trans (hb2.mono (by omega)))
  obtain ⟨c0, c1, f0, f1⟩ := row_facts hk
  have HK := Lib.hid hk
  clear hb0 hbB hb2 hk
  go_wp2_with fail
  obtain ⟨y0, y1, _, _⟩ := row_facts (row_set2 HK.out (.string (str s)) (.string (str (List.replicate (str s).size c))))
  refine bodyPost_ret (v := .agg #[.string (str s), .string (str (List.replicate (str s).size c))]) (by simp [results, Try.results14, go_sem, y0, y1]) rfl ?_
  refine ⟨?_, (HB.out.setCell (Nat.le_refl _) _).setCell (Nat.le_refl _) _⟩
  unfold rowV
  rw [ofS_text, ofS_mask, str_size]
/-- A row's bytes without its nothings and borders. -/
def bareS (r : SRow) : List UInt8 := (r.filter fun x => decide (x.2 ≠ 101) && decide (x.2 ≠ 98)).map (·.1)
theorem bareS_snoc (r : SRow) (x : UInt8 × UInt8) : bareS (r ++ [x]) = bareS r ++ (if x.2 ≠ 101 ∧ x.2 ≠ 98 then [x.1] else []) := by
  unfold bareS
  rw [List.filter_append, List.map_append]
  congr 1
  by_cases h : x.2 ≠ 101 ∧ x.2 ≠ 98
  · rw [if_pos h]; simp [h.1, h.2]
  · rw [if_neg h]
    have : (decide (x.2 ≠ 101) && decide (x.2 ≠ 98)) = false := by simpa using h
    simp only [List.filter_cons, this]
    rfl
theorem bareS_take (r : SRow) (k : Nat) (h : k < r.length) : bareS (r.take (k + 1)) = bareS (r.take k) ++ (if r[k].2 ≠ 101 ∧ r[k].2 ≠ 98 then [r[k].1] else []) := by
  rw [List.take_succ_eq_append_getElem h, bareS_snoc]
theorem bareS_len (r : SRow) : (bareS r).length ≤ r.length := by
  unfold bareS
  rw [List.length_map]
  exact List.length_filter_le _ _
/-- Between two rounds. -/
structure BrI (w : World) (r : SRow) (k : Nat) (W : World) : Prop where
  s : W.heap[w.heap.size + 1]? = some (.cells #[.string (str (bareS (r.take k)))] 9)
  low : Below w.heap.size w W
  size : w.heap.size + 1 + 1 + 1 ≤ W.heap.size
theorem BrI.below {w : World} {r : SRow} {k : Nat} {A B : World} (h : BrI w r k A) (hb : Below A.heap.size A B) : BrI w r k B :=
  ⟨(hb.block _ (Array.getElem?_eq_some_iff.1 h.s).1).trans h.s, h.low.trans (hb.mono h.low.size), Nat.le_trans h.size hb.size⟩
theorem BrI.grown {w : World} {r : SRow} {k : Nat} {A B : World} {q : Nat} (h : BrI w r k A) (hg : A.grownBy B (some q)) (hq : w.heap.size + 1 + 1 + 1 ≤ q) : BrI w r k B :=
  ⟨(hg.block _ (Array.getElem?_eq_some_iff.1 h.s).1 (fun e => by cases e; omega)).trans h.s, h.low.grown hg h.low.size (fun j e => by cases e; omega), Nat.le_trans h.size hg.size⟩
theorem str_cell {x : World} {b : Nat} {t : TypeId} {u : Value} (h : x.heap[b]? = some (.cells #[u] t)) : x.cell? ⟨b, 0, none⟩ = some u ∧ x.frozen? ⟨b, 0, none⟩ = false := by
  constructor <;> simp [World.cell?, World.frozen?, h]
theorem str_set {x : World} {b : Nat} {t : TypeId} {u : Value} (h : x.heap[b]? = some (.cells #[u] t)) (v : Value) : (x.setCell ⟨b, 0, none⟩ v).heap[b]? = some (.cells #[v] t) := heap_setCell_same _ _ 0 _ _ _ h
theorem BrI.next {w : World} {r : SRow} {k : Nat} {A B : World} (h : BrI w r k A) (hs : B.heap[w.heap.size + 1]? = some (.cells #[.string (str (bareS (r.take (k + 1))))] 9)) (hu : Upd (w.heap.size + 1) (w.heap.size + 1 + 1 + 1) A B) :
    KeepsFrom (w.heap.size + 1 + 1 + 1) A B ∧ B.heap[w.heap.size + 1 + 1]? = A.heap[w.heap.size + 1 + 1]? ∧ BrI w r (k + 1) B :=
  ⟨hu.others.from _, hu.block _ (by omega) (by omega), hs, h.low.trans (hu.below (by omega) (by omega)), Nat.le_trans h.size hu.size⟩
set_option maxHeartbeats 4000000 in
theorem sp_bare_calls (w : World) (t m : List UInt8) (ht : t.length ≤ 100000) (hm : m.length ≤ 100000) :
    Calls Try.prog 16 #[.agg #[.string (str t), .string (str m)]] w fun e w' => e = .returned (.string (str (bareS (t.zip m)))) ∧ Below w.heap.size w w' := by
  refine (callsIn_wide (n := 3)).1 ?_
  refine callsIn_of_wp_marks Try.func16 rfl trivial ?_ rfl
  simp only [Try.ntmps16, List.size_toArray, List.length_cons, List.length_nil, Nat.reduceAdd, Nat.reduceSub, Array.replicate_succ, Array.replicate_zero, List.push_toArray, List.append_toArray, List.nil_append, List.cons_append]
  refine wpIn_wide.2 ?_
  go_wp2_with fail
  refine (sp_cells_calls _ (str t) (str m)).mono ?_
  rintro e w' ⟨rfl, rfl⟩
  go_wp2_with fail
  have hA := Ap.heap3 w (.cells #[.string (str t), .string (str m)] 23) (.cells #[.string ⟨#[]⟩] 9) (.cells #[.string (str t), .string (str m)] 23)
  have hbl := (((Below.refl w.heap.size w).alloc (Nat.le_refl _) (.cells #[.string (str t), .string (str m)] 23)).alloc (by simp) (.cells #[.string ⟨#[]⟩] 9)).alloc (by simp; omega) (.cells #[.string (str t), .string (str m)] 23)
  have hsz : (((w.alloc (.cells #[.string (str t), .string (str m)] 23)).alloc (.cells #[.string ⟨#[]⟩] 9)).alloc (.cells #[.string (str t), .string (str m)] 23)).heap.size = w.heap.size + 1 + 1 + 1 := by simp
  generalize ((w.alloc (.cells #[.string (str t), .string (str m)] 23)).alloc (.cells #[.string ⟨#[]⟩] 9)).alloc (.cells #[.string (str t), .string (str m)] 23) = wl at *
  obtain ⟨hA0, hA1, hA2⟩ := hA
  have hrl : (t.zip m).length ≤ 100000 := by rw [List.length_zip]; omega
  have hseq := sp_cells_seq wl t m (by rw [List.length_zip]; omega) (w.heap.size + 1 + 1) hA2
  obtain ⟨r, hr⟩ : ∃ r, r = t.zip m := ⟨_, rfl⟩
  have HZ := Lib.hid hr
  rw [← hr] at hrl hseq
  clear hr
  have h0 : BrI w r 0 wl := ⟨hA1, hbl, by omega⟩
  clear hA0 hA1 hA2 hbl
  refine wp_rangeFunc_it (gf := 26) (lb := #[.pointer (some ⟨w.heap.size + 1 + 1, 0, none⟩)]) rfl (enters_of Try.func26 (by kernel_rfl) rfl) (q := w.heap.size + 1 + 1) (by omega) hseq
    (BrI w r) (fun k A B h hb => h.below hb) (fun k A B q h hg hq hc => h.grown hg (by omega)) h0
    (fun k a' W => ∃ C, w.heap.size + 1 + 1 + 1 ≤ C ∧ W.heap[C]? = some (.cells #[.int .u8 ((r.getD k (0, 0)).1.toNat : Int), .int .u8 ((r.getD k (0, 0)).2.toNat : Int)] 48) ∧
      a' = { tmps := #[.agg #[.string (str t), .string (str m)], .pointer (some ⟨w.heap.size, 0, none⟩), .string ⟨#[]⟩, .pointer (some ⟨w.heap.size + 1, 0, none⟩), .pointer (some ⟨C, 0, none⟩), .agg #[.string (str t), .string (str m)], .func (.func 26) #[] #[.pointer (some ⟨w.heap.size + 1 + 1, 0, none⟩)],
        .agg #[.int .u8 ((r.getD k (0, 0)).1.toNat : Int), .int .u8 ((r.getD k (0, 0)).2.toNat : Int)], undef, undef, undef, undef, undef, undef, undef, undef, undef, undef, undef, undef, undef], defers := [] })
    ?hAx ?assign ?body ?done
  case hAx =>
    rintro k a A B q ⟨C, hC, hcell, ha⟩ hg ⟨o, ho, hno⟩
    refine ⟨C, hC, (hg.block C (Array.getElem?_eq_some_iff.1 hcell).1 (fun e => ?_)).trans hcell, ha⟩
    cases e
    rw [hcell] at ho
    cases ho
    cases hno
  case assign =>
    intro l k W K hWs hK
    have hsem := fun ρ o h => Oper.semAt_some l ρ o h
    unfold pairAt pairV
    have HK := Lib.hid fun a' W' => hK a' W'
    clear hK
    gi_wp2
    exact HK.out _ _ ((Below.refl _ W).alloc (Nat.le_refl _) _) ⟨W.heap.size, by omega, heap_alloc_new W _, rfl⟩
  case body =>
    rintro l k a' W2 hI hkN ⟨C, hC, hcell, rfl⟩ hszW
    have hgd : r.getD k (0, 0) = r[k] := by rw [List.getD_eq_getElem?_getD, List.getElem?_eq_getElem hkN, Option.getD_some]
    rw [hgd] at hcell ⊢
    have hbt := bareS_take r k hkN
    have HNext := Lib.hid fun B hs hu => hI.next (B := B) hs hu
    rw [hbt] at HNext
    have hbl := bareS_len (r.take k)
    have htk : (r.take k).length ≤ 100000 := by rw [List.length_take]; omega
    obtain ⟨s0, s1⟩ := str_cell hI.s
    rw [hsz]
    have HS0 := Lib.hid hI.s
    generalize r[k]'hkN = x at *
    generalize bareS (r.take k) = bs at *
    obtain ⟨c, lt⟩ := x
    simp only [] at hcell HNext ⊢
    obtain ⟨e0, e1, _, _⟩ := row_facts hcell
    have HC := Lib.hid hC
    have hBW := hI.size
    have hsem := fun ρ o h => Oper.semAt_some l ρ o h
    have hst1 : bs.length ≤ 100000 := by omega
    clear hgd hcell hI hbl htk hseq h0 hbt
    by_cases h101 : lt = 101
    case' pos =>
      have d7 : decide ((lt.toNat : Int) = 101) = true := by subst h101; rfl
      have d8 : (lt.toNat : Int) = 101 := by subst h101; rfl
      have HP : Hid ((if lt ≠ 101 ∧ lt ≠ 98 then [c] else []) = ([] : List UInt8)) := if_neg (fun h => h.1 h101)
      rw [HP.out] at HNext
      rw [List.append_nil] at HNext
      clear h101 HP
      gi_wp2
      exact HNext.out _ HS0.out (Upd.refl _ _ W2)
    have d7 : decide ((lt.toNat : Int) = 101) = false := decide_eq_false (fun h => h101 (UInt8.toNat_inj.1 (show lt.toNat = (101 : UInt8).toNat by show lt.toNat = 101; omega)))
    have d8 : ¬ (lt.toNat : Int) = 101 := of_decide_eq_false d7
    by_cases h98 : lt = 98
    case' pos =>
      have d5 : decide ((lt.toNat : Int) = 98) = true := by subst h98; rfl
      have d6 : (lt.toNat : Int) = 98 := by subst h98; rfl
      have HP : Hid ((if lt ≠ 101 ∧ lt ≠ 98 then [c] else []) = ([] : List UInt8)) := if_neg (fun h => h.2 h98)
      rw [HP.out] at HNext
      rw [List.append_nil] at HNext
      clear h101 h98 HP
      gi_wp2
      exact HNext.out _ HS0.out (Upd.refl _ _ W2)
    have d5 : decide ((lt.toNat : Int) = 98) = false := decide_eq_false (fun h => h98 (UInt8.toNat_inj.1 (show lt.toNat = (98 : UInt8).toNat by show lt.toNat = 98; omega)))
    have d6 : ¬ (lt.toNat : Int) = 98 := of_decide_eq_false d5
    have HP : Hid ((if lt ≠ 101 ∧ lt ≠ 98 then [c] else []) = [c]) := if_pos ⟨h101, h98⟩
    rw [HP.out] at HNext
    clear h101 h98 HP
    have d9 : ((lt.toNat : Int) != 98) = true := by simpa using d6
    have d10 : ((lt.toNat : Int) != 101) = true := by simpa using d8
    gi_wp2
    have S0 := Lib.hid s0
    have E0 := Lib.hid e0
    clear s0 s1 e0 e1 d5 d6 d7 d8 d9 d10
    refine Rg.wpIn_region_rgt 4 [] [Rg.Is (.string (str bs)), Rg.Is (.slice (some ⟨C, 0, none⟩) 1 2), Rg.Is (.string (str [c])), Rg.Is (.string (str (bs ++ [c])))] (by kernel_rfl) (by kernel_rfl) (by kernel_rfl) (of_decide_eq_true (by kernel_rfl)) (by kernel_rfl) (by kernel_rfl) ⟨Rg.st_is _, Rg.st_is _, Rg.st_is _, Rg.st_is _, trivial⟩ ⟨rfl, rfl, rfl, rfl, trivial⟩ ⟨?_, ?_, ?_, ?_, trivial⟩ ?_
    · intro _ a wx hb hk
      have h3 : a.eval (.tmp 3) = .pointer (some ⟨w.heap.size + 1, 0, none⟩) := Eq.mp (by kernel_rfl) (hk 3 (by decide))
      exact Rg.does_load _ _ h3 (load_sp_str (cell_below hb (Nat.le_refl _) S0.out)) ⟨Below.refl _ _, rfl⟩
    · intro _ a wx hb hk
      have h4 : a.eval (.tmp 4) = .pointer (some ⟨C, 0, none⟩) := Eq.mp (by kernel_rfl) (hk 4 (by decide))
      refine Rg.does_slice _ (by rw [h4]; exact slice_pair_h wx C) ⟨Below.refl _ _, rfl⟩
    · intro _ a wx hb hk
      have h17 : a.eval (.tmp 17) = .slice (some ⟨C, 0, none⟩) 1 2 := Eq.mp (by kernel_rfl) (hk 17 (by decide))
      exact Rg.does_convert _ _ h17 (run_string_bytes (bytes_cell (cell_below hb (Nat.le_refl _) E0.out) (by omega) (by unfold maxLen; omega)) _ _ _ Try.underlying54 Try.underlying5 Try.underlying9) ⟨Below.refl _ _, rfl⟩
    · intro _ a wx hb hk
      have h16 : a.eval (.tmp 16) = .string (str bs) := Eq.mp (by kernel_rfl) (hk 16 (by decide))
      have h18 : a.eval (.tmp 18) = .string (str [c]) := Eq.mp (by kernel_rfl) (hk 18 (by decide))
      exact Sw.does_bin_str _ _ _ h16 h18 (Sw.run_cat (by simp; omega)) ⟨Below.refl _ _, rfl⟩
    intro vals wD hbD hL
    obtain ⟨g0, g1, g2, g3, _⟩ := hL
    have g3' : vals 3 = .string (str (bs ++ [c])) := g3
    have HSD := Lib.hid ((hbD.block _ (Array.getElem?_eq_some_iff.1 HS0.out).1).trans HS0.out)
    obtain ⟨s0, s1⟩ := str_cell HSD.out
    have HU := Lib.hid (Upd.of_below (F := w.heap.size + 1) hBW hbD)
    clear g0 g1 g2 g3 hbD
    simp only [Rg.putAll, List.take_succ_cons, List.take_zero, List.drop_succ_cons, List.drop_zero, List.setIfInBounds_toArray, List.set_cons_succ, List.set_cons_zero, g3']
    clear g3'
    gi_wp2
    exact HNext.out _ (str_set HSD.out _) (HU.out.set 0 _)
  case done =>
    rintro D W hD hI hK
    have hs := hI.s
    rw [List.take_length] at hs
    obtain ⟨s0, s1⟩ := str_cell hs
    have HI := Lib.hid hI
    have HK := Lib.hid hK
    clear hs hI hK hseq h0
    go_wp2_with fail
    refine ⟨by simp, .inl ⟨_, _, rfl, run_takeDeferred HK.out, ?_⟩⟩
    refine ⟨.string (str (bareS r)), by simp [results, Try.results16, go_sem], ?_⟩
    have hg := grownBy_putObj' W D (.deferred none)
    exact ⟨by rw [HZ.out], HI.out.low.grown hg HI.out.low.size (fun j e => by cases e; omega)⟩
end Go.Proofs.Ytiemlgfcmldnoaa
