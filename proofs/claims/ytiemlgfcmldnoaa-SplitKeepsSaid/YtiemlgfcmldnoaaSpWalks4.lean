/-
  Split: the fields of a row. Conditions: the texts are short.
-/
import Derived.Test.YtiemlgfcmldnoaaSpWalks3
import Derived.Test.YtiemlgfcmldnoaaShelf
set_option linter.unusedVariables false
set_option maxRecDepth 100000
namespace Go.Proofs.Ytiemlgfcmldnoaa
open Go.RowKit Base

theorem row_noncell {W : World} {base size k r : Nat} {e : TypeId} {v : Value} {xs : List Value} (h : W.ownsRow base e size v k xs) (hr : ∃ o : Obj, W.heap[r]? = some o ∧ o.isCells = false) : v.ownBlock = none ∨ v.ownBlock ≠ some r := by
  obtain ⟨o, ho, hc⟩ := hr
  rcases h.2 with ⟨e, _⟩ | ⟨g, cap, cur, e, _, hg, _⟩
  · left; rw [e]; rfl
  · right
    intro h2
    rw [e] at h2
    obtain rfl : g = r := by simpa [Value.ownBlock] using h2
    rw [hg] at ho
    cases ho
    cases hc
theorem heap5 (w : World) (o0 o1 o2 o3 o4 : Obj) : ∀ W, W = ((((w.alloc o0).alloc o1).alloc o2).alloc o3).alloc o4 →
    W.heap[w.heap.size + 1]? = some o1 ∧ W.heap[w.heap.size + 1 + 1]? = some o2 ∧ W.heap[w.heap.size + 1 + 1 + 1]? = some o3 ∧ W.heap[w.heap.size + 1 + 1 + 1 + 1]? = some o4 ∧ W.heap.size = w.heap.size + 1 + 1 + 1 + 1 + 1 ∧ Below w.heap.size w W := by
  rintro W rfl
  have h : (((((w.alloc o0).alloc o1).alloc o2).alloc o3).alloc o4).heap = ((((w.heap.push o0).push o1).push o2).push o3).push o4 := rfl
  refine ⟨?_, ?_, ?_, ?_, ?_, (((((Below.refl _ w).alloc (Nat.le_refl _) _).alloc (by simp) _).alloc (by simp; omega) _).alloc (by simp; omega) _).alloc (by simp; omega) _⟩
  all_goals (rw [h]; simp only [Array.getElem?_push, Array.size_push]; repeat (first | rw [if_pos rfl] | rw [if_pos trivial] | rw [if_neg (by omega)]))
theorem indexByte_iff (l : List UInt8) (c : UInt8) : 0 ≤ Lib.indexByte l c ↔ c ∈ l := by
  induction l with
  | nil => simp [Lib.indexByte]
  | cons b r ih =>
    unfold Lib.indexByte
    by_cases h : b = c
    · simp [h]
    · have h1 : (b == c) = false := by simpa using h
      have hge := Lib.indexByte_ge r c
      simp only [h1, Bool.false_eq_true, if_false, List.mem_cons]
      by_cases h2 : Lib.indexByte r c = -1
      · have h3 : c ∉ r := fun hc => by have := ih.2 hc; omega
        simp [h2, h3, Ne.symm h]
      · have h3 : c ∈ r := ih.1 (by omega)
        simp [h2, h3]
        omega
theorem sp_index_calls (w : World) (l : List UInt8) (c : UInt8) : Calls Try.prog 19 #[.string (str l), .int .u8 (c.toNat : Int)] w fun e w' => ∃ i : Int, e = .returned (.int .i64 i) ∧ (0 ≤ i ↔ c ∈ l) ∧ w = w' := by
  refine (Try.strings_IndexByte (str l) (c.toNat : Int) w).mono ?_
  rintro e w' ⟨rfl, rfl⟩
  refine ⟨_, rfl, ?_, rfl⟩
  have e1 : ((c.toNat : Int)).toNat.toUInt8 = c := by simp
  rw [e1, str_data]
  exact indexByte_iff l c
def blanksL : List UInt8 := [32, 9, 10]
theorem blanks_iff (c : UInt8) : whiteB c = true ↔ c ∈ blanksL := by
  unfold whiteB blanksL
  simp
theorem geB {i : Int} {b : Bool} {p : Prop} (h : 0 ≤ i ↔ p) (h2 : b = true ↔ p) : decide ((0 : Int) ≤ i) = b := by
  cases b
  · rw [decide_eq_false_iff_not]; exact fun h3 => by have := h2.2 (h.1 h3); cases this
  · rw [decide_eq_true_eq]; exact h.2 (h2.1 rfl)
/-- Between two rounds: Z is the size of the heap when the call began. -/
structure SpI (w : World) (ifs : List UInt8) (r : SRow) (k : Nat) (W : World) : Prop where
  f : ∃ v, FAt W (w.heap.size + 1 + 1) (w.heap.size + 1 + 1 + 1 + 1 + 1) (foldS ifs (r.take k)) v
  i : W.heap[w.heap.size + 1]? = some (.cells #[.string (str ifs)] 9)
  p : W.heap[w.heap.size + 1 + 1 + 1]? = some (.cells #[.pointer (some ⟨w.heap.size + 1 + 1, 0, none⟩)] 42)
  low : Below w.heap.size w W
  size : w.heap.size + 1 + 1 + 1 + 1 + 1 ≤ W.heap.size
theorem SpI.below {w : World} {ifs : List UInt8} {r : SRow} {k : Nat} {A B : World} (h : SpI w ifs r k A) (hb : Below A.heap.size A B) : SpI w ifs r k B := by
  obtain ⟨v, hv⟩ := h.f
  exact ⟨⟨v, hv.upd_below hb⟩, (hb.block _ (Array.getElem?_eq_some_iff.1 h.i).1).trans h.i, (hb.block _ (Array.getElem?_eq_some_iff.1 h.p).1).trans h.p, h.low.trans (hb.mono h.low.size), Nat.le_trans h.size hb.size⟩
theorem SpI.grown {w : World} {ifs : List UInt8} {r : SRow} {k : Nat} {A B : World} {q : Nat} (h : SpI w ifs r k A) (hg : A.grownBy B (some q)) (hq : w.heap.size + 1 + 1 + 1 + 1 + 1 ≤ q) (hc : ∃ o : Obj, A.heap[q]? = some o ∧ o.isCells = false) : SpI w ifs r k B := by
  obtain ⟨v, hv⟩ := h.f
  exact ⟨⟨v, hv.grown hg (fun e => by cases e; omega) (row_noncell hv.2 hc)⟩, (hg.block _ (Array.getElem?_eq_some_iff.1 h.i).1 (fun e => by cases e; omega)).trans h.i, (hg.block _ (Array.getElem?_eq_some_iff.1 h.p).1 (fun e => by cases e; omega)).trans h.p,
    h.low.grown hg h.low.size (fun j e => by cases e; omega), Nat.le_trans h.size hg.size⟩
theorem SpI.next {w : World} {ifs : List UInt8} {r : SRow} {k : Nat} {A B : World} (h : SpI w ifs r k A) (hk : k < r.length) (hf : ∃ v, FAt B (w.heap.size + 1 + 1) (w.heap.size + 1 + 1 + 1 + 1 + 1) (stepS ifs (foldS ifs (r.take k)) r[k]) v) (hu : Upd (w.heap.size + 1 + 1) (w.heap.size + 1 + 1 + 1 + 1 + 1) A B) :
    KeepsFrom (w.heap.size + 1 + 1 + 1 + 1 + 1) A B ∧ B.heap[w.heap.size + 1 + 1 + 1 + 1]? = A.heap[w.heap.size + 1 + 1 + 1 + 1]? ∧ SpI w ifs r (k + 1) B :=
  ⟨hu.others.from _, hu.block _ (by omega) (by omega), by rw [foldS_take ifs r k hk]; exact hf, (hu.block _ (by omega) (by omega)).trans h.i, (hu.block _ (by omega) (by omega)).trans h.p, h.low.trans (hu.below (by omega) (by omega)), Nat.le_trans h.size hu.size⟩
theorem FAt.set34 {x : World} {F B : Nat} {st : SpSt} {v : Value} (h : FAt x F B st v) (hFB : F < B) (b c : Bool) : FAt ((x.setCell ⟨F, 3, none⟩ (.bool b)).setCell ⟨F, 4, none⟩ (.bool c)) F B ⟨st.l, st.now, b, c⟩ v :=
  ⟨heap_setCell_same _ F 4 _ _ _ (heap_setCell_same _ F 3 _ _ _ h.1), own_setF (own_setF h.2 hFB) hFB⟩
theorem FAt.set12 {x : World} {F B : Nat} {st : SpSt} {v : Value} (h : FAt x F B st v) (hFB : F < B) (r : SRow) : FAt ((x.setCell ⟨F, 1, none⟩ (.string (str (textS r)))).setCell ⟨F, 2, none⟩ (.string (str (maskS r)))) F B ⟨st.l, r, st.begun, st.blank⟩ v :=
  ⟨heap_setCell_same _ F 2 _ _ _ (heap_setCell_same _ F 1 _ _ _ h.1), own_setF (own_setF h.2 hFB) hFB⟩
theorem foldS_len (ifs : List UInt8) (r : SRow) : (foldS ifs r).l.length ≤ r.length := by
  refine snoc_ind (P := fun r => (foldS ifs r).l.length ≤ r.length) (Nat.zero_le _) ?_ r
  intro r x ih
  rw [foldS_snoc, List.length_append]
  have he : ∀ (st : SpSt) b, (endS st b).l.length ≤ st.l.length + 1 := fun st b => by unfold endS; split <;> simp
  unfold stepS
  split
  · unfold sepS
    split
    · split
      · have := he (foldS ifs r) true; simp; omega
      · simp; omega
    · split
      · have := he (foldS ifs r) false; simp; omega
      · split
        · have := he (foldS ifs r) false; simp; omega
        · have := he ⟨(foldS ifs r).l, (foldS ifs r).now, true, (foldS ifs r).blank⟩ false; simp at this ⊢; omega
  · split
    · have := he (foldS ifs r) false; simp; omega
    · simp; omega
theorem foldS_now_len (ifs : List UInt8) (r : SRow) : (foldS ifs r).now.length ≤ r.length := by
  have h := whole_fold ifs r
  have h2 := congrArg List.length h
  unfold wholeS at h2
  rw [List.length_append] at h2
  have := List.length_filter_le (plainX ifs) r
  omega
theorem load_ptr {w : World} {ad : Addr} {v : Value} (h : w.cell? ad = some v) : (Instr.loadAt 42 (.pointer (some ad))).run Try.prog w = .ok v w := Ap.load_plainP (by simp [isAgg]) h
theorem load_byte {w : World} {ad : Addr} {v : Value} (h : w.cell? ad = some v) : (Instr.loadAt 5 (.pointer (some ad))).run Try.prog w = .ok v w := Ap.load_plainP (by simp [isAgg]) h
theorem load_pair {w : World} {b : Nat} {x y : Value} (h0 : w.cell? ⟨b, 0, none⟩ = some x) (h1 : w.cell? ⟨b, 1, none⟩ = some y) : (Instr.loadAt 48 (.pointer (some ⟨b, 0, none⟩))).run Try.prog w = .ok (.agg #[x, y]) w := by
  go_simp
theorem at_pair0 (w : World) (b : Nat) : (Instr.indexAt 48 (.pointer (some ⟨b, 0, none⟩)) (.int .i64 0)).run Try.prog w = .ok (.pointer (some ⟨b, 0, none⟩)) w := by rfl
def SplitPost (w : World) (l : List SRow) (e : Ending) (w' : World) : Prop := ∃ v, e = .returned v ∧ w'.ownsRow w.heap.size 23 2 v l.length (l.flatMap rowCells) ∧ Below w.heap.size w w'
set_option maxHeartbeats 8000000 in
theorem sp_split_callsZ (w : World) (t m ifs : List UInt8) (hrl : (t.zip m).length ≤ 100000) :
    Calls Try.prog 9 #[.agg #[.string (str t), .string (str m)], .string (str ifs)] w (SplitPost w (splitB ifs (t.zip m))) := by
  refine (callsIn_wide (n := 3)).1 ?_
  refine callsIn_of_wp_marks Try.func9 rfl trivial ?_ rfl
  simp only [Try.ntmps9, List.size_toArray, List.length_cons, List.length_nil, Nat.reduceAdd, Nat.reduceSub, Array.replicate_succ, Array.replicate_zero, List.push_toArray, List.append_toArray, List.nil_append, List.cons_append]
  refine wpIn_wide.2 ?_
  go_wp2_with fail
  refine (sp_cells_calls _ (str t) (str m)).mono ?_
  rintro e w' ⟨rfl, rfl⟩
  go_wp2_with fail
  obtain ⟨hI1, hI2, hI3, hI4, hsz, hbl⟩ := heap5 w (.cells #[.string (str t), .string (str m)] 23) (.cells #[.string (str ifs)] 9) (.cells #[.slice none 0 0, .string ⟨#[]⟩, .string ⟨#[]⟩, .bool false, .bool false] 44) (.cells #[.pointer (some ⟨w.heap.size + 1 + 1, 0, none⟩)] 42) (.cells #[.string (str t), .string (str m)] 23) _ rfl
  generalize ((((w.alloc (.cells #[.string (str t), .string (str m)] 23)).alloc (.cells #[.string (str ifs)] 9)).alloc (.cells #[.slice none 0 0, .string ⟨#[]⟩, .string ⟨#[]⟩, .bool false, .bool false] 44)).alloc (.cells #[.pointer (some ⟨w.heap.size + 1 + 1, 0, none⟩)] 42)).alloc (.cells #[.string (str t), .string (str m)] 23) = wl at *
  have hseq := sp_cells_seq wl t m (by omega) (w.heap.size + 1 + 1 + 1 + 1) hI4
  generalize t.zip m = r at *
  have h0 : SpI w ifs r 0 wl := ⟨⟨.slice none 0 0, hI2, World.ownsRow_nil _ _ _ _⟩, hI1, hI3, hbl, by omega⟩
  clear hI1 hI2 hI3 hI4 hbl
  refine wp_rangeFunc_it (gf := 26) (lb := #[.pointer (some ⟨w.heap.size + 1 + 1 + 1 + 1, 0, none⟩)]) rfl (enters_of Try.func26 (by kernel_rfl) rfl) (q := w.heap.size + 1 + 1 + 1 + 1) (by omega) hseq
    (SpI w ifs r) (fun k A B h hb => h.below hb) (fun k A B q h hg hq hc => h.grown hg (by omega) hc) h0
    (fun k a' W => ∃ C, w.heap.size + 1 + 1 + 1 + 1 + 1 ≤ C ∧ W.heap[C]? = some (.cells #[.int .u8 ((r.getD k (0, 0)).1.toNat : Int), .int .u8 ((r.getD k (0, 0)).2.toNat : Int)] 48) ∧
      a' = { tmps := #[.agg #[.string (str t), .string (str m)], .string (str ifs), .pointer (some ⟨w.heap.size, 0, none⟩), .pointer (some ⟨w.heap.size + 1, 0, none⟩), .slice none 0 0, .pointer (some ⟨w.heap.size + 1 + 1 + 1, 0, none⟩), .pointer (some ⟨C, 0, none⟩),
        .agg #[.slice none 0 0, .string ⟨#[]⟩, .string ⟨#[]⟩, .bool false, .bool false], .pointer (some ⟨w.heap.size + 1 + 1, 0, none⟩), .agg #[.string (str t), .string (str m)], .func (.func 26) #[] #[.pointer (some ⟨w.heap.size + 1 + 1 + 1 + 1, 0, none⟩)],
        .agg #[.int .u8 ((r.getD k (0, 0)).1.toNat : Int), .int .u8 ((r.getD k (0, 0)).2.toNat : Int)], undef, undef, undef, undef, undef, undef, undef, undef, undef, undef, undef, undef, undef, undef, undef, undef, undef, undef, undef, undef, undef, undef, undef, undef, undef, undef, undef, undef, undef, undef, undef, undef, undef, undef, undef, undef, undef, undef, undef, undef, undef, undef, undef, undef, undef, undef, undef], defers := [] })
    ?hAx ?assign ?body ?done
  case hAx =>
    rintro k a A B q ⟨C, hC, hcell, ha⟩ hg ⟨o, ho, hno⟩
    refine ⟨C, hC, (hg.block C (Array.getElem?_eq_some_iff.1 hcell).1 (fun e => ?_)).trans hcell, ha⟩
    cases e
    rw [hcell] at ho
    cases ho
    cases hno
  case assign =>
    intro l k W K hWs hK
    have hsem := fun ρ o h => Oper.semAt_some l ρ o h
    unfold pairAt pairV
    have HK := Lib.hid fun a' W' => hK a' W'
    clear hK
    gi_wp2
    exact HK.out _ _ ((Below.refl _ W).alloc (Nat.le_refl _) _) ⟨W.heap.size, by omega, heap_alloc_new W _, rfl⟩
  case body =>
    rintro l k a' W2 hI hkN ⟨C, hC, hcell, rfl⟩ hszW
    have hgd : r.getD k (0, 0) = r[k] := by rw [List.getD_eq_getElem?_getD, List.getElem?_eq_getElem hkN, Option.getD_some]
    rw [hgd] at hcell ⊢
    have HNext := Lib.hid fun B hf hu => hI.next (B := B) hkN hf hu
    have hfl := foldS_len ifs (r.take k)
    have hfn := foldS_now_len ifs (r.take k)
    have htk : (r.take k).length ≤ 100000 := by rw [List.length_take]; omega
    obtain ⟨v, hv⟩ := hI.f
    obtain ⟨⟨c0, c1, c2, c3, c4⟩, f0, f1, f2, f3, f4⟩ := hv.cells
    rw [hsz]
    generalize r[k]'hkN = x at *
    generalize foldS ifs (r.take k) = st at *
    obtain ⟨c, lt⟩ := x
    simp only [] at hcell ⊢
    have e0 : W2.cell? ⟨C, 0, none⟩ = some (.int .u8 (c.toNat : Int)) := by simp [World.cell?, hcell]
    have e1 : W2.cell? ⟨C, 1, none⟩ = some (.int .u8 (lt.toNat : Int)) := by simp [World.cell?, hcell]
    have p0 : W2.cell? ⟨w.heap.size + 1 + 1 + 1, 0, none⟩ = some (.pointer (some ⟨w.heap.size + 1 + 1, 0, none⟩)) := by have := hI.p; simp [World.cell?, this]
    have i0 : W2.cell? ⟨w.heap.size + 1, 0, none⟩ = some (.string (str ifs)) := by have := hI.i; simp [World.cell?, this]
    have HC := Lib.hid hC
    have Hcell := Lib.hid hcell
    have Hv := Lib.hid hv
    have hBW := hI.size
    have HI := Lib.hid hI
    have HIx := Lib.hid fun W => sp_index_calls W ifs c
    have hsem := fun ρ o h => Oper.semAt_some l ρ o h
    have hst1 : st.l.length ≤ 100000 := by omega
    have hst2 : st.now.length ≤ 100000 := by omega
    clear hgd hcell hv hI hfl hfn htk hseq h0
    by_cases hs : lt = 115
    case' pos =>
      have d1 : decide ((lt.toNat : Int) = 115) = true := by subst hs; rfl
      have d2 : (lt.toNat : Int) = 115 := by subst hs; rfl
      have HSt : Hid (∀ (hc : c ∈ ifs), stepS ifs st (c, lt) = sepS st (whiteB c)) := fun hc => by unfold stepS; rw [if_pos ⟨hs, hc⟩]
      have HNo : Hid (c ∉ ifs → stepS ifs st (c, lt) = ⟨st.l, st.now ++ [(c, lt)], true, false⟩) := fun hc => by
        unfold stepS; rw [if_neg (fun h => hc h.2), if_neg (by subst hs; show ¬ ((115 : UInt8) = 98); decide), if_neg (by subst hs; show ¬ ((115 : UInt8) = 101); decide)]
      clear hs
      by_cases hc : c ∈ ifs
      case' pos =>
        have HS := Lib.hid (HSt.out hc)
        have HEnd := Lib.hid fun W b h hB => sp_sep_calls W (w.heap.size + 1 + 1) (w.heap.size + 1 + 1 + 1 + 1 + 1) st v b h (by omega) hB (by omega)
        have HBk := Lib.hid (blanks_iff c)
        clear HSt HNo
        gi_wp2
        refine ⟨trivial, CallsIn.inRound l (callsIn_wide.2 ((HIx.out W2).mono ?_))⟩
        rintro e w3 ⟨i, rfl, hiff, rfl⟩
        have hi0 := hiff.2 hc
        have d3 : decide ((0 : Int) ≤ i) = true := decide_eq_true hi0
        clear hiff hc
        gi_wp2
        have P0 := Lib.hid p0
        have E0 := Lib.hid e0
        refine Rg.wpIn_region_rgt 5 [] [Rg.Is (.pointer (some ⟨w.heap.size + 1 + 1, 0, none⟩)), Rg.Is (.pointer (some ⟨C, 0, none⟩)), Rg.Is (.int .u8 (c.toNat : Int)), (fun u _ => ∃ i : Int, u = .int .i64 i ∧ (0 ≤ i ↔ c ∈ blanksL)), Rg.Is (.bool (whiteB c))] (by kernel_rfl) (by kernel_rfl) (by kernel_rfl) (of_decide_eq_true (by kernel_rfl)) (by kernel_rfl) (by kernel_rfl) ⟨Rg.st_is _, Rg.st_is _, Rg.st_is _, fun _ _ _ h _ => h, Rg.st_is _, trivial⟩ ⟨rfl, rfl, rfl, rfl, rfl, trivial⟩ ⟨?_, ?_, ?_, ?_, ?_, trivial⟩ ?_
        · intro _ a wx hb hk
          have h5 : a.eval (.tmp 5) = .pointer (some ⟨w.heap.size + 1 + 1 + 1, 0, none⟩) := Eq.mp (by kernel_rfl) (hk 5 (by decide))
          exact Rg.does_load _ _ h5 (load_ptr (cell_below hb (Nat.le_refl _) P0.out)) ⟨Below.refl _ _, rfl⟩
        · intro _ a wx hb hk
          have h6 : a.eval (.tmp 6) = .pointer (some ⟨C, 0, none⟩) := Eq.mp (by kernel_rfl) (hk 6 (by decide))
          exact Rg.does_index _ _ _ h6 rfl (at_pair0 wx C) ⟨Below.refl _ _, rfl⟩
        · intro _ a wx hb hk
          have h42 : a.eval (.tmp 42) = .pointer (some ⟨C, 0, none⟩) := Eq.mp (by kernel_rfl) (hk 42 (by decide))
          exact Rg.does_load _ _ h42 (load_byte (cell_below hb (Nat.le_refl _) E0.out)) ⟨Below.refl _ _, rfl⟩
        · intro _ a wx hb hk
          have h43 : a.eval (.tmp 43) = .int .u8 (c.toNat : Int) := Eq.mp (by kernel_rfl) (hk 43 (by decide))
          refine Rg.does_func #[.string (str blanksL), .int .u8 (c.toNat : Int)] Try.func19 (by kernel_rfl) (by kernel_rfl) (by simp [h43]; rfl) (sp_index_calls wx blanksL c) ?_
          rintro e w' ⟨i, rfl, hi, rfl⟩
          exact ⟨_, rfl, Below.refl _ _, i, rfl, hi⟩
        · intro _ a wx hb hk
          have h44 : (fun u _ => ∃ i : Int, u = .int .i64 i ∧ (0 ≤ i ↔ c ∈ blanksL)) (a.eval (.tmp 44)) wx := Eq.mp (by kernel_rfl) (hk 44 (by decide))
          obtain ⟨i, hi1, hi2⟩ := h44
          exact Rg.does_bin .i64 _ _ _ hi1 rfl (Sw.run_ge (whiteB c) (geB hi2 HBk.out)) ⟨Below.refl _ _, rfl⟩
        intro vals wD hbD hL
        obtain ⟨g0, g1, g2, g3, g4, _⟩ := hL
        have g0' : vals 0 = .pointer (some ⟨w.heap.size + 1 + 1, 0, none⟩) := g0
        have g4' : vals 4 = .bool (whiteB c) := g4
        have HCall := Lib.hid (HEnd.out wD (whiteB c) (Hv.out.upd_below hbD) (Nat.le_trans hBW hbD.size))
        have HU := Lib.hid (Upd.of_below (F := w.heap.size + 1 + 1) hBW hbD)
        clear g0 g1 g2 g3 g4 hbD HEnd
        simp only [Rg.putAll, List.take_succ_cons, List.take_zero, List.drop_succ_cons, List.drop_zero, List.setIfInBounds_toArray, List.set_cons_succ, List.set_cons_zero, g0', g4']
        clear g0' g4'
        gi_wp2
        refine ⟨trivial, CallsIn.inRound l (callsIn_wide.2 (HCall.out.mono ?_))⟩
        rintro e w3 ⟨rfl, hf3, hu3⟩
        have HN := Lib.hid (HNext.out w3 (by rw [HS.out]; exact hf3) (HU.out.trans hu3))
        clear hf3 hu3
        gi_wp2
        exact HN.out
      have HSF := Lib.hid (HNo.out hc)
      clear HSt HNo
      gi_wp2
      refine ⟨trivial, CallsIn.inRound l (callsIn_wide.2 ((HIx.out W2).mono ?_))⟩
      rintro e w3 ⟨i, rfl, hiff, rfl⟩
      have hi0 : ¬ 0 ≤ i := fun h => hc (hiff.1 h)
      have d3 : decide ((0 : Int) ≤ i) = false := decide_eq_false hi0
      have d4 : i < 0 := by omega
      have d5 : decide ((lt.toNat : Int) = 98) = false := decide_eq_false (by omega)
      have d6 : ¬ (lt.toNat : Int) = 98 := by omega
      have d7 : decide ((lt.toNat : Int) = 101) = false := decide_eq_false (by omega)
      have d8 : ¬ (lt.toNat : Int) = 101 := by omega
      clear hiff hc hi0
      gi_wp2
    case' neg =>
      have d1 : decide ((lt.toNat : Int) = 115) = false := decide_eq_false (fun h => hs (UInt8.toNat_inj.1 (show lt.toNat = (115 : UInt8).toNat by show lt.toNat = 115; omega)))
      have d2 : ¬ (lt.toNat : Int) = 115 := of_decide_eq_false d1
      by_cases h98 : lt = 98
      case' pos =>
        have HSF : Hid (stepS ifs st (c, lt) = endS st false) := by show _ = _; unfold stepS; rw [if_neg (fun h => hs h.1), if_pos h98]
        have d5 : decide ((lt.toNat : Int) = 98) = true := by subst h98; rfl
        have d6 : (lt.toNat : Int) = 98 := by subst h98; rfl
        have HEnd := Lib.hid (sp_end_calls W2 (w.heap.size + 1 + 1) (w.heap.size + 1 + 1 + 1 + 1 + 1) st v false Hv.out (by omega) hBW (by omega))
        clear hs h98
        gi_wp2
        refine ⟨trivial, ?_⟩
        gi_wp2
        refine ⟨trivial, CallsIn.inRound l (callsIn_wide.2 (HEnd.out.mono ?_))⟩
        rintro e w3 ⟨rfl, hf3, hu3⟩
        have HN := Lib.hid (HNext.out w3 (by rw [HSF.out]; exact hf3) hu3)
        clear hf3 hu3
        gi_wp2
        exact HN.out
      have d5 : decide ((lt.toNat : Int) = 98) = false := decide_eq_false (fun h => h98 (UInt8.toNat_inj.1 (show lt.toNat = (98 : UInt8).toNat by show lt.toNat = 98; omega)))
      have d6 : ¬ (lt.toNat : Int) = 98 := of_decide_eq_false d5
      by_cases h101 : lt = 101
      case' pos =>
        have HSF : Hid (stepS ifs st (c, lt) = ⟨st.l, st.now, true, false⟩) := by show _ = _; unfold stepS; rw [if_neg (fun h => hs h.1), if_neg h98, if_pos h101]
        have d7 : decide ((lt.toNat : Int) = 101) = true := by subst h101; rfl
        have d8 : (lt.toNat : Int) = 101 := by subst h101; rfl
        clear hs h98 h101
        gi_wp2
        refine ⟨trivial, ?_⟩
        gi_wp2
        exact HNext.out _ (by rw [HSF.out]; exact ⟨v, Hv.out.set34 (by omega) true false⟩) (((Upd.refl _ _ W2).set 3 _).set 4 _)
      have HSF : Hid (stepS ifs st (c, lt) = ⟨st.l, st.now ++ [(c, lt)], true, false⟩) := by show _ = _; unfold stepS; rw [if_neg (fun h => hs h.1), if_neg h98, if_neg h101]
      have d7 : decide ((lt.toNat : Int) = 101) = false := decide_eq_false (fun h => h101 (UInt8.toNat_inj.1 (show lt.toNat = (101 : UInt8).toNat by show lt.toNat = 101; omega)))
      have d8 : ¬ (lt.toNat : Int) = 101 := of_decide_eq_false d7
      clear hs h98 h101
      gi_wp2
      refine ⟨trivial, ?_⟩
      gi_wp2
    all_goals
      have hv3 := Hv.out.set34 (show w.heap.size + 1 + 1 < w.heap.size + 1 + 1 + 1 + 1 + 1 by omega) true false
      have hu3 := ((Upd.refl (w.heap.size + 1 + 1) (w.heap.size + 1 + 1 + 1 + 1 + 1) W2).set 3 (.bool true)).set 4 (.bool false)
      have hp3 := (set_other (W2.setCell ⟨w.heap.size + 1 + 1, 3, none⟩ (.bool true)) (w.heap.size + 1 + 1) 4 (.bool false) (w.heap.size + 1 + 1 + 1) (by omega)).trans ((set_other W2 (w.heap.size + 1 + 1) 3 (.bool true) (w.heap.size + 1 + 1 + 1) (by omega)).trans HI.out.p)
      have hC3 := (set_other (W2.setCell ⟨w.heap.size + 1 + 1, 3, none⟩ (.bool true)) (w.heap.size + 1 + 1) 4 (.bool false) C (by have := HC.out; omega)).trans ((set_other W2 (w.heap.size + 1 + 1) 3 (.bool true) C (by have := HC.out; omega)).trans Hcell.out)
      generalize (W2.setCell ⟨w.heap.size + 1 + 1, 3, none⟩ (.bool true)).setCell ⟨w.heap.size + 1 + 1, 4, none⟩ (.bool false) = W3 at *
      have P0 : Hid (W3.cell? ⟨w.heap.size + 1 + 1 + 1, 0, none⟩ = some (.pointer (some ⟨w.heap.size + 1 + 1, 0, none⟩))) := by show _ = _; simp [World.cell?, hp3]
      have E0 : Hid (W3.cell? ⟨C, 0, none⟩ = some (.int .u8 (c.toNat : Int))) := by show _ = _; simp [World.cell?, hC3]
      have E1 : Hid (W3.cell? ⟨C, 1, none⟩ = some (.int .u8 (lt.toNat : Int))) := by show _ = _; simp [World.cell?, hC3]
      obtain ⟨⟨_, k1, k2, _, _⟩, _⟩ := hv3.cells
      have C1 := Lib.hid k1; have C2 := Lib.hid k2
      have Hv3 := Lib.hid hv3
      have Hu3 := Lib.hid hu3
      have hBW3 : w.heap.size + 1 + 1 + 1 + 1 + 1 ≤ W3.heap.size := Nat.le_trans hBW hu3.size
      clear hv3 hu3 hp3 hC3 k1 k2 c0 c1 c2 c3 c4 f0 f1 f2 f3 f4 e0 e1 p0 i0
      refine Rg.wpIn_region_rgt 7 [] [Rg.Is (.pointer (some ⟨w.heap.size + 1 + 1, 0, none⟩)), Rg.Is (.pointer (some ⟨w.heap.size + 1 + 1, 0, none⟩)), Rg.Is (.pointer (some ⟨w.heap.size + 1 + 1, 0, none⟩)), Rg.Is (.pointer (some ⟨w.heap.size + 1 + 1, 1, none⟩)), Rg.Is (rowV st.now), Rg.Is (pairV (c, lt)), Rg.Is (.agg #[.string (str (textS (st.now ++ [(c, lt)]))), .string (str (maskS (st.now ++ [(c, lt)])))])] (by kernel_rfl) (by kernel_rfl) (by kernel_rfl) (of_decide_eq_true (by kernel_rfl)) (by kernel_rfl) (by kernel_rfl) ⟨Rg.st_is _, Rg.st_is _, Rg.st_is _, Rg.st_is _, Rg.st_is _, Rg.st_is _, Rg.st_is _, trivial⟩ ⟨rfl, rfl, rfl, rfl, rfl, rfl, rfl, trivial⟩ ⟨?_, ?_, ?_, ?_, ?_, ?_, ?_, trivial⟩ ?_
      · intro _ a wx hb hk
        have h5 : a.eval (.tmp 5) = .pointer (some ⟨w.heap.size + 1 + 1 + 1, 0, none⟩) := Eq.mp (by kernel_rfl) (hk 5 (by decide))
        exact Rg.does_load _ _ h5 (load_ptr (cell_below hb (Nat.le_refl _) P0.out)) ⟨Below.refl _ _, rfl⟩
      · intro _ a wx hb hk
        have h5 : a.eval (.tmp 5) = .pointer (some ⟨w.heap.size + 1 + 1 + 1, 0, none⟩) := Eq.mp (by kernel_rfl) (hk 5 (by decide))
        exact Rg.does_load _ _ h5 (load_ptr (cell_below hb (Nat.le_refl _) P0.out)) ⟨Below.refl _ _, rfl⟩
      · intro _ a wx hb hk
        have h22 : a.eval (.tmp 22) = .pointer (some ⟨w.heap.size + 1 + 1, 0, none⟩) := Eq.mp (by kernel_rfl) (hk 22 (by decide))
        exact Ap.does_nil _ h22 ⟨Below.refl _ _, rfl⟩
      · intro _ a wx hb hk
        have h23 : a.eval (.tmp 23) = .pointer (some ⟨w.heap.size + 1 + 1, 0, none⟩) := Eq.mp (by kernel_rfl) (hk 23 (by decide))
        exact Rs.does_field _ _ h23 (fields_f1 (w.heap.size + 1 + 1) 0 wx) ⟨Below.refl _ _, rfl⟩
      · intro _ a wx hb hk
        have h24 : a.eval (.tmp 24) = .pointer (some ⟨w.heap.size + 1 + 1, 1, none⟩) := Eq.mp (by kernel_rfl) (hk 24 (by decide))
        exact Rg.does_load _ _ h24 (load_row (cell_below hb (Nat.le_refl _) C1.out) (cell_below hb (Nat.le_refl _) C2.out)) ⟨Below.refl _ _, rfl⟩
      · intro _ a wx hb hk
        have h6 : a.eval (.tmp 6) = .pointer (some ⟨C, 0, none⟩) := Eq.mp (by kernel_rfl) (hk 6 (by decide))
        exact Rg.does_load _ _ h6 (load_pair (cell_below hb (Nat.le_refl _) E0.out) (cell_below hb (Nat.le_refl _) E1.out)) ⟨Below.refl _ _, rfl⟩
      · intro _ a wx hb hk
        have h25 : a.eval (.tmp 25) = rowV st.now := Eq.mp (by kernel_rfl) (hk 25 (by decide))
        have h26 : a.eval (.tmp 26) = pairV (c, lt) := Eq.mp (by kernel_rfl) (hk 26 (by decide))
        refine Rg.does_func #[rowV st.now, pairV (c, lt)] Try.func22 (by kernel_rfl) (by kernel_rfl) (by simp [h25, h26]) (sp_add_calls wx st.now (c, lt) (by omega)) ?_
        rintro e w' ⟨rfl, hb'⟩
        exact ⟨_, rfl, hb', rfl⟩
      intro vals wD hbD hL
      obtain ⟨g0, g1, g2, g3, g4, g5, g6, _⟩ := hL
      have g0' : vals 0 = .pointer (some ⟨w.heap.size + 1 + 1, 0, none⟩) := g0
      have g6' : vals 6 = .agg #[.string (str (textS (st.now ++ [(c, lt)]))), .string (str (maskS (st.now ++ [(c, lt)])))] := g6
      have hvD := Hv3.out.upd_below hbD
      obtain ⟨⟨c0, c1, c2, c3, c4⟩, f0, f1, f2, f3, f4⟩ := hvD.cells
      have HN := Lib.hid (HNext.out _ (by rw [HSF.out]; exact ⟨v, hvD.set12 (show w.heap.size + 1 + 1 < w.heap.size + 1 + 1 + 1 + 1 + 1 by omega) (st.now ++ [(c, lt)])⟩) (((Hu3.out.trans (Upd.of_below hBW3 hbD)).set 1 (.string (str (textS (st.now ++ [(c, lt)]))))).set 2 (.string (str (maskS (st.now ++ [(c, lt)]))))))
      clear g0 g1 g2 g3 g4 g5 g6 hbD hvD
      simp only [Rg.putAll, List.take_succ_cons, List.take_zero, List.drop_succ_cons, List.drop_zero, List.setIfInBounds_toArray, List.set_cons_succ, List.set_cons_zero, g0', g6']
      clear g0' g6'
      gi_wp2
      exact HN.out
  case done =>
    rintro D W hD hI hK
    obtain ⟨v, hv⟩ := hI.f
    rw [List.take_length] at hv
    have hfl := foldS_len ifs r
    have HSp : Hid (splitB ifs r = (endS (foldS ifs r) false).l) := rfl
    have p0 : W.cell? ⟨w.heap.size + 1 + 1 + 1, 0, none⟩ = some (.pointer (some ⟨w.heap.size + 1 + 1, 0, none⟩)) := by have := hI.p; simp [World.cell?, this]
    have HEnd := Lib.hid (sp_end_calls W (w.heap.size + 1 + 1) (w.heap.size + 1 + 1 + 1 + 1 + 1) (foldS ifs r) v false hv (by omega) hI.size (by omega))
    have HI := Lib.hid hI
    have HK := Lib.hid hK
    generalize endS (foldS ifs r) false = st2 at *
    clear hv hI hK hseq h0 hfl
    go_wp2_with fail
    refine (HEnd.out).mono ?_
    rintro e w3 ⟨rfl, ⟨v3, hf3⟩, hu3⟩
    have hp3 := (hu3.block _ (by omega) (by omega)).trans HI.out.p
    have p1 : w3.cell? ⟨w.heap.size + 1 + 1 + 1, 0, none⟩ = some (.pointer (some ⟨w.heap.size + 1 + 1, 0, none⟩)) := by simp [World.cell?, hp3]
    have hK3 : w3.heap[D]? = some (.deferred (some [])) := hu3.others.same D _ HK.out rfl
    obtain ⟨⟨c0, c1, c2, c3, c4⟩, f0, f1, f2, f3, f4⟩ := hf3.cells
    have HF := Lib.hid hf3
    have HU := Lib.hid hu3
    have HK3 := Lib.hid hK3
    clear hf3 hu3 hp3 p0 hK3
    go_wp2_with fail
    refine ⟨by simp, .inl ⟨_, _, rfl, run_takeDeferred HK3.out, ?_⟩⟩
    refine ⟨v3, by simp [results, Try.results9, go_sem], ?_⟩
    have hg := grownBy_putObj' w3 D (.deferred none)
    have hB3 := HI.out.low.trans (HU.out.below (show w.heap.size ≤ w.heap.size + 1 + 1 by omega) (show w.heap.size ≤ w.heap.size + 1 + 1 + 1 + 1 + 1 by omega))
    refine ⟨v3, rfl, ?_, hB3.grown hg hB3.size (fun j e => by cases e; omega)⟩
    rw [HSp.out]
    exact ownsRow_mono (HF.out.2.kept hg (row_noncell HF.out.2 ⟨_, HK3.out, rfl⟩)) (by omega)
theorem sp_split_calls (w : World) (t m ifs : List UInt8) (ht : t.length ≤ 100000) (hm : m.length ≤ 100000) :
    Calls Try.prog 9 #[.agg #[.string (str t), .string (str m)], .string (str ifs)] w (SplitPost w (splitB ifs (t.zip m))) := sp_split_callsZ w t m ifs (by rw [List.length_zip]; omega)
end Go.Proofs.Ytiemlgfcmldnoaa
