/-
  State: what came in, opened: each thing's cells, and how long its bytes are against the statement's measure. Conditions: as each law says.
-/
import Derived.Test.YtnmlnaoljkhjeaaRows
import Derived.Test.YtnmlnaoljkhjeaaStSame
import Derived.Test.YtnmlnaoljkhjeaaOpen
set_option linter.unusedVariables false
set_option maxRecDepth 100000
namespace Go.Proofs.Ytnmlnaoljkhjeaa
open Go.ChangeShapes Go.WideShapes Go.ChangeAt Go.RowKit Base Opn

/-- A row that came in. -/
def RowA {α : Type} (k : Nat) (A : World → List Value → α → Prop) (W : World) (vs : List Value) (zs : List α) : Prop :=
  ∃ p cap, vs = [.slice p zs.length cap] ∧ zs.length ≤ cap ∧ cap ≤ maxLen ∧
    (zs = [] ∨ ∃ b o, p = some ⟨b, o, none⟩ ∧ ∀ j (hj : j < zs.length), ∃ us, us.length = k ∧ CellsAt W b (o + j * k) us ∧ (∀ i, i < k → W.frozen? ⟨b, o + j * k + i, none⟩ = false) ∧ A W us zs[j])
structure OpnA {α : Type} (t : TypeId) (k : Nat) (c : Cd α) (A : World → List Value → α → Prop) (Q : α → Prop) : Prop where
  cells : Try.prog.cellsOf t = k
  go : ∀ {H : Type} {enc : TypeId × Value → H} {w : World} {fuel : Nat} {cs : List Value} {y : DataW H × List MemPlace}, cs.length = k → DataW.trod enc Try.prog w 0 (fun _ => true) true fuel t cs = some y → w.noneFrozen y.2 →
    ∃ a, A w cs a ∧ Q a ∧ (c.enc a).length ≤ 10 * Rows.uptoBulk y.1
theorem i64_wf {z : Int} (h : (Lit.int .i64 z).wf = true) : I64 z := by
  have := wf_bounds h
  simp [IntKind.min, IntKind.max, IntKind.signed, IntKind.bits] at this
  exact this
theorem intB_len {z : Int} (h : I64 z) : (intB z).length ≤ 10 := num_len _ (zig_lt h)
theorem opn_int {t : TypeId} (hu : Try.prog.underlying t = some (.int .i64)) (hc : Try.prog.cellsOf t = 1) : OpnA t 1 numC (flatH numV) I64 := by
  refine ⟨hc, ?_⟩
  intro H enc w fuel cs y hl hd hfz
  obtain ⟨z, rfl, rfl, hw⟩ := DataW.trod_int hu hd
  exact ⟨z, rfl, i64_wf hw, intB_len (i64_wf hw)⟩
theorem opn_txt : OpnA 9 1 txtC (flatH txtV) TxtP := by
  refine ⟨by kernel_rfl, ?_⟩
  intro H enc w fuel cs y hl hd hfz
  obtain ⟨s, rfl, rfl, hw⟩ := DataW.trod_string Try.underlying9 hd
  have hle : s.data.toList.length = s.size := by simp
  have h64 : Lt64 s.data.toList.length := by unfold Lt64; unfold maxLen at hw; omega
  refine ⟨s.data.toList, by show [Value.string s] = [Value.string (str s.data.toList)]; rw [str_of], h64, ?_⟩
  show (VarPlain.num s.data.toList.length ++ s.data.toList).length ≤ 10 * (s.data.toList.length + 1)
  have := num_len _ h64
  rw [List.length_append]
  omega
theorem opn_bit : OpnA 4 1 bitC (flatH bitV) (fun _ => True) := by
  refine ⟨by kernel_rfl, ?_⟩
  intro H enc w fuel cs y hl hd hfz
  obtain ⟨b, rfl, rfl⟩ := DataW.trod_bool Try.underlying4 hd
  exact ⟨b, rfl, trivial, intB_len (bit_i64 b)⟩
theorem encs_bulk {α H : Type} (c : Cd α) : ∀ (l : List α) (es : List (DataW H)), l.length = es.length → (∀ k (h1 : k < l.length) (h2 : k < es.length), (c.enc l[k]).length ≤ 10 * Rows.uptoBulk es[k]) → (encs c l).length ≤ 10 * Rows.uptoBulkAll es
  | [], [], _, _ => Nat.zero_le _
  | [], _ :: _, h, _ => by cases h
  | _ :: _, [], h, _ => by cases h
  | x :: l, e :: es, h, hk => by
    have h1 := hk 0 (Nat.succ_pos _) (Nat.succ_pos _)
    have h2 := encs_bulk c l es (by simpa using h) (fun k h1 h2 => hk (k + 1) (Nat.succ_lt_succ h1) (Nat.succ_lt_succ h2))
    rw [encs_cons, List.length_append]
    simp only [Rows.uptoBulkAll]
    simp only [List.getElem_cons_zero] at h1
    omega
theorem opn_row {α : Type} {t e : TypeId} {k : Nat} {c : Cd α} {A : World → List Value → α → Prop} {Q : α → Prop} (h : OpnA e k c A Q) (hk : 0 < k) (hu : Try.prog.underlying t = some (.slice e)) (hc : Try.prog.cellsOf t = 1) :
    OpnA t 1 (rowC c) (RowA k A) (fun zs => ∀ z ∈ zs, Q z) := by
  refine ⟨hc, ?_⟩
  intro H enc w fuel cs y hl hd hfz
  rcases DataW.trod_slice hu hd with ⟨rfl, rfl⟩ | ⟨ad, len, cap, elems, rest, m, _, rfl, rfl, hb, hln, hm, hlen, hel, hsp, hns⟩
  · exact ⟨[], ⟨none, 0, rfl, Nat.le_refl _, Nat.zero_le _, .inl rfl⟩, (fun z hz => by cases hz), by show (intB 0 ++ []).length ≤ 10 * 1; rw [List.append_nil]; exact intB_len ⟨by decide, by decide⟩⟩
  · rw [h.cells] at hel hfz
    have hfe : ∀ i (hi : i < len) j, j < k → w.frozen? ⟨ad.block, ad.off + (i * k + j), none⟩ = false := by
      intro i hi j hj
      refine hfz ad.block (ad.off + (i * k + j)) (List.mem_append_left _ ?_)
      unfold MemPlace.row
      rw [List.mem_map]
      refine ⟨i * k + j, ?_, rfl⟩
      rw [List.mem_range, hlen]
      have := Nat.mul_le_mul_right k (show i + 1 ≤ len + rest.length by omega)
      rw [Nat.add_mul i 1 k, Nat.one_mul] at this
      omega
    have each : ∀ i, i < len → ad.spot = none ∧ ∃ x, ∃ (hi : i < elems.length), (∃ us, us.length = k ∧ CellsAt w ad.block (ad.off + i * k) us ∧ (∀ j, j < k → w.frozen? ⟨ad.block, ad.off + i * k + j, none⟩ = false) ∧ A w us x) ∧ Q x ∧ (c.enc x).length ≤ 10 * Rows.uptoBulk elems[i].1 := by
      intro i hi
      have h1 := hel i hi
      have hie : i < elems.length := by omega
      rw [List.getElem?_eq_getElem hie, Option.bind_eq_some_iff] at h1
      obtain ⟨us, hus, hy⟩ := h1
      obtain ⟨hsp', hlc, hcell⟩ := cells_at hus hk
      have hspot : ad.spot = none := by
        have h2 := hel 0 (by omega)
        rw [List.getElem?_eq_getElem (show 0 < elems.length by omega), Option.bind_eq_some_iff] at h2
        obtain ⟨cs2, hcs2, _⟩ := h2
        have := (cells_at hcs2 hk).1
        rw [Nat.zero_mul] at this
        simpa [Addr.add] using this
      obtain ⟨x, hA, hQ, hL⟩ := h.go hlc hy (fun b o hm2 => hfz b o (List.mem_append_right _ (by
        rw [List.mem_flatMap]
        exact ⟨elems[i], List.mem_append_left _ (List.getElem_mem hie), hm2⟩)))
      refine ⟨hspot, x, hie, ⟨us, hlc, fun j hj => ?_, fun j hj => by rw [Nat.add_assoc]; exact hfe i hi j hj, hA⟩, hQ, hL⟩
      have h3 := hcell j hj
      obtain ⟨b, o, sp⟩ := ad
      simp only at hspot
      subst hspot
      rw [Addr.add_lit] at h3
      exact h3
    obtain ⟨l, hl1, hl2⟩ := list_of (Q := fun i x => ∃ (hi : i < elems.length), (∃ us, us.length = k ∧ CellsAt w ad.block (ad.off + i * k) us ∧ (∀ j, j < k → w.frozen? ⟨ad.block, ad.off + i * k + j, none⟩ = false) ∧ A w us x) ∧ Q x ∧ (c.enc x).length ≤ 10 * Rows.uptoBulk elems[i].1) len fun i hi => (each i hi).2
    refine ⟨l, ⟨some ad, cap, by rw [hl1], by omega, hm, ?_⟩, fun z hz => ?_, ?_⟩
    · rcases Nat.eq_zero_or_pos len with h0 | h0
      · exact .inl (List.eq_nil_of_length_eq_zero (by omega))
      · right
        have := (each 0 h0).1
        obtain ⟨b, o, sp⟩ := ad
        simp only at this
        subst this
        exact ⟨b, o, rfl, fun j hj => (hl2 j hj).2.1⟩
    · obtain ⟨j, hj, rfl⟩ := List.getElem_of_mem hz
      exact (hl2 j hj).2.2.1
    · show (intB (l.length : Int) ++ encs c l).length ≤ 10 * (Rows.uptoBulkAll (elems.map (·.1)) + Rows.uptoBulkAll (rest.map (·.1)) + 1)
      have hi : I64 (l.length : Int) := by unfold maxLen at hm; exact ⟨by omega, by omega⟩
      have h1 := intB_len hi
      have h2 := encs_bulk c l (elems.map (·.1)) (by rw [List.length_map, hl1, hlen]) (fun j h1 h2 => by rw [List.getElem_map]; exact (hl2 j h1).2.2.2)
      rw [List.length_append]
      omega
theorem opn_var : OpnA 132 2 varC (flatH varV) (VarP) := by
  refine ⟨by kernel_rfl, ?_⟩
  intro H enc w fuel cs y hcl hd hfz
  obtain ⟨xs, n, _, rfl, hl, hlen, hf⟩ := DataW.trod_struct Try.underlying132 hd
  match cs, hcl, hf with
  | [c0, c1], _, hf =>
  match xs, hlen, hf, hfz with
  | [y0, y1], _, hf, hfz =>
    have h0 : DataW.trod enc Try.prog w 0 (fun _ => true) true n 9 ((List.drop 0 [c0, c1]).take (Try.prog.cellsOf 9)) = some y0 := hf 0 _ rfl
    rw [(opn_txt : OpnA 9 _ _ _ _).cells] at h0
    obtain ⟨a0, hA0, hQ0, hL0⟩ := (opn_txt).go (cs := [c0]) rfl h0 (fun b o hm => hfz b o (by rw [List.mem_flatMap]; exact ⟨y0, by simp, hm⟩))
    have h1 : DataW.trod enc Try.prog w 0 (fun _ => true) true n 9 ((List.drop 1 [c0, c1]).take (Try.prog.cellsOf 9)) = some y1 := hf 1 _ rfl
    rw [(opn_txt : OpnA 9 _ _ _ _).cells] at h1
    obtain ⟨a1, hA1, hQ1, hL1⟩ := (opn_txt).go (cs := [c1]) rfl h1 (fun b o hm => hfz b o (by rw [List.mem_flatMap]; exact ⟨y1, by simp, hm⟩))
    refine ⟨(a0, a1), by show [c0, c1] = _; rw [(List.cons.inj hA0).1, (List.cons.inj hA1).1], ⟨hQ0, hQ1⟩, ?_⟩
    show ((txtC).enc a0 ++ ((txtC).enc a1)).length ≤ 10 * (Rows.uptoBulk y0.1 + (Rows.uptoBulk y1.1 + 0) + 1)
    rw [List.length_append]
    omega
theorem opn_cell : OpnA 92 2 varC (flatH varV) (VarP) := by
  refine ⟨by kernel_rfl, ?_⟩
  intro H enc w fuel cs y hcl hd hfz
  obtain ⟨xs, n, _, rfl, hl, hlen, hf⟩ := DataW.trod_struct Try.underlying92 hd
  match cs, hcl, hf with
  | [c0, c1], _, hf =>
  match xs, hlen, hf, hfz with
  | [y0, y1], _, hf, hfz =>
    have h0 : DataW.trod enc Try.prog w 0 (fun _ => true) true n 9 ((List.drop 0 [c0, c1]).take (Try.prog.cellsOf 9)) = some y0 := hf 0 _ rfl
    rw [(opn_txt : OpnA 9 _ _ _ _).cells] at h0
    obtain ⟨a0, hA0, hQ0, hL0⟩ := (opn_txt).go (cs := [c0]) rfl h0 (fun b o hm => hfz b o (by rw [List.mem_flatMap]; exact ⟨y0, by simp, hm⟩))
    have h1 : DataW.trod enc Try.prog w 0 (fun _ => true) true n 9 ((List.drop 1 [c0, c1]).take (Try.prog.cellsOf 9)) = some y1 := hf 1 _ rfl
    rw [(opn_txt : OpnA 9 _ _ _ _).cells] at h1
    obtain ⟨a1, hA1, hQ1, hL1⟩ := (opn_txt).go (cs := [c1]) rfl h1 (fun b o hm => hfz b o (by rw [List.mem_flatMap]; exact ⟨y1, by simp, hm⟩))
    refine ⟨(a0, a1), by show [c0, c1] = _; rw [(List.cons.inj hA0).1, (List.cons.inj hA1).1], ⟨hQ0, hQ1⟩, ?_⟩
    show ((txtC).enc a0 ++ ((txtC).enc a1)).length ≤ 10 * (Rows.uptoBulk y0.1 + (Rows.uptoBulk y1.1 + 0) + 1)
    rw [List.length_append]
    omega
theorem opn_fn : OpnA 134 3 fnC (flatH fnV) (FnP) := by
  refine ⟨by kernel_rfl, ?_⟩
  intro H enc w fuel cs y hcl hd hfz
  obtain ⟨xs, n, _, rfl, hl, hlen, hf⟩ := DataW.trod_struct Try.underlying134 hd
  match cs, hcl, hf with
  | [c0, c1, c2], _, hf =>
  match xs, hlen, hf, hfz with
  | [y0, y1, y2], _, hf, hfz =>
    have h0 : DataW.trod enc Try.prog w 0 (fun _ => true) true n 9 ((List.drop 0 [c0, c1, c2]).take (Try.prog.cellsOf 9)) = some y0 := hf 0 _ rfl
    rw [(opn_txt : OpnA 9 _ _ _ _).cells] at h0
    obtain ⟨a0, hA0, hQ0, hL0⟩ := (opn_txt).go (cs := [c0]) rfl h0 (fun b o hm => hfz b o (by rw [List.mem_flatMap]; exact ⟨y0, by simp, hm⟩))
    have h1 : DataW.trod enc Try.prog w 0 (fun _ => true) true n 3 ((List.drop 1 [c0, c1, c2]).take (Try.prog.cellsOf 3)) = some y1 := hf 1 _ rfl
    rw [(opn_int Try.underlying3 (by kernel_rfl) : OpnA 3 _ _ _ _).cells] at h1
    obtain ⟨a1, hA1, hQ1, hL1⟩ := (opn_int Try.underlying3 (by kernel_rfl)).go (cs := [c1]) rfl h1 (fun b o hm => hfz b o (by rw [List.mem_flatMap]; exact ⟨y1, by simp, hm⟩))
    have h2 : DataW.trod enc Try.prog w 0 (fun _ => true) true n 3 ((List.drop 2 [c0, c1, c2]).take (Try.prog.cellsOf 3)) = some y2 := hf 2 _ rfl
    rw [(opn_int Try.underlying3 (by kernel_rfl) : OpnA 3 _ _ _ _).cells] at h2
    obtain ⟨a2, hA2, hQ2, hL2⟩ := (opn_int Try.underlying3 (by kernel_rfl)).go (cs := [c2]) rfl h2 (fun b o hm => hfz b o (by rw [List.mem_flatMap]; exact ⟨y2, by simp, hm⟩))
    refine ⟨(a0, a1, a2), by show [c0, c1, c2] = _; rw [(List.cons.inj hA0).1, (List.cons.inj hA1).1, (List.cons.inj hA2).1], ⟨hQ0, hQ1, hQ2⟩, ?_⟩
    show ((txtC).enc a0 ++ ((numC).enc a1 ++ ((numC).enc a2))).length ≤ 10 * (Rows.uptoBulk y0.1 + (Rows.uptoBulk y1.1 + (Rows.uptoBulk y2.1 + 0)) + 1)
    rw [List.length_append, List.length_append]
    omega
theorem opn_trap : OpnA 135 2 trapC (flatH trapV) (TrapP) := by
  refine ⟨by kernel_rfl, ?_⟩
  intro H enc w fuel cs y hcl hd hfz
  obtain ⟨xs, n, _, rfl, hl, hlen, hf⟩ := DataW.trod_struct Try.underlying135 hd
  match cs, hcl, hf with
  | [c0, c1], _, hf =>
  match xs, hlen, hf, hfz with
  | [y0, y1], _, hf, hfz =>
    have h0 : DataW.trod enc Try.prog w 0 (fun _ => true) true n 3 ((List.drop 0 [c0, c1]).take (Try.prog.cellsOf 3)) = some y0 := hf 0 _ rfl
    rw [(opn_int Try.underlying3 (by kernel_rfl) : OpnA 3 _ _ _ _).cells] at h0
    obtain ⟨a0, hA0, hQ0, hL0⟩ := (opn_int Try.underlying3 (by kernel_rfl)).go (cs := [c0]) rfl h0 (fun b o hm => hfz b o (by rw [List.mem_flatMap]; exact ⟨y0, by simp, hm⟩))
    have h1 : DataW.trod enc Try.prog w 0 (fun _ => true) true n 9 ((List.drop 1 [c0, c1]).take (Try.prog.cellsOf 9)) = some y1 := hf 1 _ rfl
    rw [(opn_txt : OpnA 9 _ _ _ _).cells] at h1
    obtain ⟨a1, hA1, hQ1, hL1⟩ := (opn_txt).go (cs := [c1]) rfl h1 (fun b o hm => hfz b o (by rw [List.mem_flatMap]; exact ⟨y1, by simp, hm⟩))
    refine ⟨(a0, a1), by show [c0, c1] = _; rw [(List.cons.inj hA0).1, (List.cons.inj hA1).1], ⟨hQ0, hQ1⟩, ?_⟩
    show ((numC).enc a0 ++ ((txtC).enc a1)).length ≤ 10 * (Rows.uptoBulk y0.1 + (Rows.uptoBulk y1.1 + 0) + 1)
    rw [List.length_append]
    omega
theorem opn_pair : OpnA 136 2 prC (flatH prV) (PairP) := by
  refine ⟨by kernel_rfl, ?_⟩
  intro H enc w fuel cs y hcl hd hfz
  obtain ⟨xs, n, _, rfl, hl, hlen, hf⟩ := DataW.trod_struct Try.underlying136 hd
  match cs, hcl, hf with
  | [c0, c1], _, hf =>
  match xs, hlen, hf, hfz with
  | [y0, y1], _, hf, hfz =>
    have h0 : DataW.trod enc Try.prog w 0 (fun _ => true) true n 3 ((List.drop 0 [c0, c1]).take (Try.prog.cellsOf 3)) = some y0 := hf 0 _ rfl
    rw [(opn_int Try.underlying3 (by kernel_rfl) : OpnA 3 _ _ _ _).cells] at h0
    obtain ⟨a0, hA0, hQ0, hL0⟩ := (opn_int Try.underlying3 (by kernel_rfl)).go (cs := [c0]) rfl h0 (fun b o hm => hfz b o (by rw [List.mem_flatMap]; exact ⟨y0, by simp, hm⟩))
    have h1 : DataW.trod enc Try.prog w 0 (fun _ => true) true n 2 ((List.drop 1 [c0, c1]).take (Try.prog.cellsOf 2)) = some y1 := hf 1 _ rfl
    rw [(opn_int Try.underlying2 (by kernel_rfl) : OpnA 2 _ _ _ _).cells] at h1
    obtain ⟨a1, hA1, hQ1, hL1⟩ := (opn_int Try.underlying2 (by kernel_rfl)).go (cs := [c1]) rfl h1 (fun b o hm => hfz b o (by rw [List.mem_flatMap]; exact ⟨y1, by simp, hm⟩))
    refine ⟨(a0, a1), by show [c0, c1] = _; rw [(List.cons.inj hA0).1, (List.cons.inj hA1).1], ⟨hQ0, hQ1⟩, ?_⟩
    show ((numC).enc a0 ++ ((numC).enc a1)).length ≤ 10 * (Rows.uptoBulk y0.1 + (Rows.uptoBulk y1.1 + 0) + 1)
    rw [List.length_append]
    omega
abbrev strsA := RowA 1 (flatH txtV)
abbrev varsA := RowA 2 (flatH varV)
abbrev fnsA := RowA 3 (flatH fnV)
abbrev trapsA := RowA 2 (flatH trapV)
abbrev pairsA := RowA 2 (flatH prV)
abbrev numsA := RowA 1 (flatH numV)
abbrev RowQ {α : Type} (Q : α → Prop) (x : List α) : Prop := ∀ z ∈ x, Q z
abbrev EnvQ (p : EnvD) : Prop := RowQ VarP p.1 ∧ RowQ TxtP p.2.1 ∧ I64 p.2.2.1 ∧ TxtP p.2.2.2
abbrev KeepQ (p : KeepD) : Prop := EnvQ p.1 ∧ RowQ FnP p.2.1 ∧ RowQ TrapP p.2.2.1 ∧ RowQ PairP p.2.2.2
abbrev FrameQ (p : FrameD) : Prop := (I64 p.1.1 ∧ I64 p.1.2.1 ∧ I64 p.1.2.2.1 ∧ I64 p.1.2.2.2.1 ∧ I64 p.1.2.2.2.2) ∧ True ∧ I64 p.2.2.1 ∧ I64 p.2.2.2.1 ∧ TxtP p.2.2.2.2.1 ∧ RowQ I64 p.2.2.2.2.2.1 ∧ RowQ TxtP p.2.2.2.2.2.2.1 ∧ RowQ VarP p.2.2.2.2.2.2.2.1 ∧ KeepQ p.2.2.2.2.2.2.2.2
abbrev ReqQ (p : ReqD) : Prop := I64 p.1 ∧ I64 p.2.1 ∧ I64 p.2.2.1 ∧ TxtP p.2.2.2.1 ∧ RowQ TxtP p.2.2.2.2
abbrev AnsQ (p : AnsD) : Prop := (I64 p.1.1 ∧ I64 p.1.2) ∧ I64 p.2.1 ∧ I64 p.2.2.1 ∧ TxtP p.2.2.2.1 ∧ RowQ TxtP p.2.2.2.2.1 ∧ I64 p.2.2.2.2.2
abbrev StateQ (p : StateD) : Prop := KeepQ p.1 ∧ RowQ TxtP p.2.1 ∧ RowQ FrameQ p.2.2.1 ∧ ReqQ p.2.2.2.1 ∧ AnsQ p.2.2.2.2.1 ∧ RowQ I64 p.2.2.2.2.2.1 ∧ (I64 p.2.2.2.2.2.2.1.1 ∧ I64 p.2.2.2.2.2.2.1.2.1 ∧ I64 p.2.2.2.2.2.2.1.2.2) ∧ (True ∧ True ∧ True) ∧ I64 p.2.2.2.2.2.2.2.2
def envA : World → List Value → EnvD → Prop := pairH 1 varsA (pairH 1 strsA (pairH 1 (flatH numV) (flatH txtV)))
def keepA : World → List Value → KeepD → Prop := pairH 4 envA (pairH 1 fnsA (pairH 1 trapsA pairsA))
def frameA : World → List Value → FrameD → Prop := pairH 5 (flatH num5V) (pairH 1 (flatH bitV) (pairH 1 (flatH numV) (pairH 1 (flatH numV) (pairH 1 (flatH txtV) (pairH 1 numsA (pairH 1 strsA (pairH 1 varsA keepA)))))))
def reqA : World → List Value → ReqD → Prop := pairH 1 (flatH numV) (pairH 1 (flatH numV) (pairH 1 (flatH numV) (pairH 1 (flatH txtV) strsA)))
def ansA : World → List Value → AnsD → Prop := pairH 2 (flatH num2V) (pairH 1 (flatH numV) (pairH 1 (flatH numV) (pairH 1 (flatH txtV) (pairH 1 strsA (flatH numV)))))
abbrev framesA := RowA 19 frameA
def stateA : World → List Value → StateD → Prop := pairH 7 keepA (pairH 1 strsA (pairH 1 framesA (pairH 5 reqA (pairH 7 ansA (pairH 1 numsA (pairH 3 (flatH num3V) (pairH 3 (flatH bit3V) (flatH numV))))))))
theorem opn_env : OpnA 25 4 envC (envA) (EnvQ) := by
  refine ⟨by kernel_rfl, ?_⟩
  intro H enc w fuel cs y hcl hd hfz
  obtain ⟨xs, n, _, rfl, hl, hlen, hf⟩ := DataW.trod_struct Try.underlying25 hd
  match cs, hcl, hf with
  | [c0, c1, c2, c3], _, hf =>
  match xs, hlen, hf, hfz with
  | [y0, y1, y2, y3], _, hf, hfz =>
    have h0 : DataW.trod enc Try.prog w 0 (fun _ => true) true n 22 ((List.drop 0 [c0, c1, c2, c3]).take (Try.prog.cellsOf 22)) = some y0 := hf 0 _ rfl
    rw [(opn_row opn_var (by decide) Try.underlying22 (by kernel_rfl) : OpnA 22 _ _ _ _).cells] at h0
    obtain ⟨a0, hA0, hQ0, hL0⟩ := (opn_row opn_var (by decide) Try.underlying22 (by kernel_rfl)).go (cs := [c0]) rfl h0 (fun b o hm => hfz b o (by rw [List.mem_flatMap]; exact ⟨y0, by simp, hm⟩))
    have h1 : DataW.trod enc Try.prog w 0 (fun _ => true) true n 23 ((List.drop 1 [c0, c1, c2, c3]).take (Try.prog.cellsOf 23)) = some y1 := hf 1 _ rfl
    rw [(opn_row opn_txt (by decide) Try.underlying23 (by kernel_rfl) : OpnA 23 _ _ _ _).cells] at h1
    obtain ⟨a1, hA1, hQ1, hL1⟩ := (opn_row opn_txt (by decide) Try.underlying23 (by kernel_rfl)).go (cs := [c1]) rfl h1 (fun b o hm => hfz b o (by rw [List.mem_flatMap]; exact ⟨y1, by simp, hm⟩))
    have h2 : DataW.trod enc Try.prog w 0 (fun _ => true) true n 3 ((List.drop 2 [c0, c1, c2, c3]).take (Try.prog.cellsOf 3)) = some y2 := hf 2 _ rfl
    rw [(opn_int Try.underlying3 (by kernel_rfl) : OpnA 3 _ _ _ _).cells] at h2
    obtain ⟨a2, hA2, hQ2, hL2⟩ := (opn_int Try.underlying3 (by kernel_rfl)).go (cs := [c2]) rfl h2 (fun b o hm => hfz b o (by rw [List.mem_flatMap]; exact ⟨y2, by simp, hm⟩))
    have h3 : DataW.trod enc Try.prog w 0 (fun _ => true) true n 9 ((List.drop 3 [c0, c1, c2, c3]).take (Try.prog.cellsOf 9)) = some y3 := hf 3 _ rfl
    rw [(opn_txt : OpnA 9 _ _ _ _).cells] at h3
    obtain ⟨a3, hA3, hQ3, hL3⟩ := (opn_txt).go (cs := [c3]) rfl h3 (fun b o hm => hfz b o (by rw [List.mem_flatMap]; exact ⟨y3, by simp, hm⟩))
    refine ⟨(a0, a1, a2, a3), ⟨[c0], _, rfl, rfl, hA0, [c1], _, rfl, rfl, hA1, [c2], _, rfl, rfl, hA2, hA3⟩, ⟨hQ0, hQ1, hQ2, hQ3⟩, ?_⟩
    show ((rowC varC).enc a0 ++ ((rowC txtC).enc a1 ++ ((numC).enc a2 ++ ((txtC).enc a3)))).length ≤ 10 * (Rows.uptoBulk y0.1 + (Rows.uptoBulk y1.1 + (Rows.uptoBulk y2.1 + (Rows.uptoBulk y3.1 + 0))) + 1)
    rw [List.length_append, List.length_append, List.length_append]
    omega
theorem opn_keep : OpnA 31 7 keepC (keepA) (KeepQ) := by
  refine ⟨by kernel_rfl, ?_⟩
  intro H enc w fuel cs y hcl hd hfz
  obtain ⟨xs, n, _, rfl, hl, hlen, hf⟩ := DataW.trod_struct Try.underlying31 hd
  match cs, hcl, hf with
  | [c0, c1, c2, c3, c4, c5, c6], _, hf =>
  match xs, hlen, hf, hfz with
  | [y0, y1, y2, y3], _, hf, hfz =>
    have h0 : DataW.trod enc Try.prog w 0 (fun _ => true) true n 25 ((List.drop 0 [c0, c1, c2, c3, c4, c5, c6]).take (Try.prog.cellsOf 25)) = some y0 := hf 0 _ rfl
    rw [(opn_env : OpnA 25 _ _ _ _).cells] at h0
    obtain ⟨a0, hA0, hQ0, hL0⟩ := (opn_env).go (cs := [c0, c1, c2, c3]) rfl h0 (fun b o hm => hfz b o (by rw [List.mem_flatMap]; exact ⟨y0, by simp, hm⟩))
    have h1 : DataW.trod enc Try.prog w 0 (fun _ => true) true n 26 ((List.drop 4 [c0, c1, c2, c3, c4, c5, c6]).take (Try.prog.cellsOf 26)) = some y1 := hf 1 _ rfl
    rw [(opn_row opn_fn (by decide) Try.underlying26 (by kernel_rfl) : OpnA 26 _ _ _ _).cells] at h1
    obtain ⟨a1, hA1, hQ1, hL1⟩ := (opn_row opn_fn (by decide) Try.underlying26 (by kernel_rfl)).go (cs := [c4]) rfl h1 (fun b o hm => hfz b o (by rw [List.mem_flatMap]; exact ⟨y1, by simp, hm⟩))
    have h2 : DataW.trod enc Try.prog w 0 (fun _ => true) true n 27 ((List.drop 5 [c0, c1, c2, c3, c4, c5, c6]).take (Try.prog.cellsOf 27)) = some y2 := hf 2 _ rfl
    rw [(opn_row opn_trap (by decide) Try.underlying27 (by kernel_rfl) : OpnA 27 _ _ _ _).cells] at h2
    obtain ⟨a2, hA2, hQ2, hL2⟩ := (opn_row opn_trap (by decide) Try.underlying27 (by kernel_rfl)).go (cs := [c5]) rfl h2 (fun b o hm => hfz b o (by rw [List.mem_flatMap]; exact ⟨y2, by simp, hm⟩))
    have h3 : DataW.trod enc Try.prog w 0 (fun _ => true) true n 29 ((List.drop 6 [c0, c1, c2, c3, c4, c5, c6]).take (Try.prog.cellsOf 29)) = some y3 := hf 3 _ rfl
    rw [(opn_row opn_pair (by decide) Try.underlying29 (by kernel_rfl) : OpnA 29 _ _ _ _).cells] at h3
    obtain ⟨a3, hA3, hQ3, hL3⟩ := (opn_row opn_pair (by decide) Try.underlying29 (by kernel_rfl)).go (cs := [c6]) rfl h3 (fun b o hm => hfz b o (by rw [List.mem_flatMap]; exact ⟨y3, by simp, hm⟩))
    refine ⟨(a0, a1, a2, a3), ⟨[c0, c1, c2, c3], _, rfl, rfl, hA0, [c4], _, rfl, rfl, hA1, [c5], _, rfl, rfl, hA2, hA3⟩, ⟨hQ0, hQ1, hQ2, hQ3⟩, ?_⟩
    show ((envC).enc a0 ++ ((rowC fnC).enc a1 ++ ((rowC trapC).enc a2 ++ ((rowC prC).enc a3)))).length ≤ 10 * (Rows.uptoBulk y0.1 + (Rows.uptoBulk y1.1 + (Rows.uptoBulk y2.1 + (Rows.uptoBulk y3.1 + 0))) + 1)
    rw [List.length_append, List.length_append, List.length_append]
    omega
theorem opn_frame : OpnA 70 19 frameC (frameA) (FrameQ) := by
  refine ⟨by kernel_rfl, ?_⟩
  intro H enc w fuel cs y hcl hd hfz
  obtain ⟨xs, n, _, rfl, hl, hlen, hf⟩ := DataW.trod_struct Try.underlying70 hd
  match cs, hcl, hf with
  | [c0, c1, c2, c3, c4, c5, c6, c7, c8, c9, c10, c11, c12, c13, c14, c15, c16, c17, c18], _, hf =>
  match xs, hlen, hf, hfz with
  | [y0, y1, y2, y3, y4, y5, y6, y7, y8, y9, y10, y11, y12], _, hf, hfz =>
    have h0 : DataW.trod enc Try.prog w 0 (fun _ => true) true n 3 ((List.drop 0 [c0, c1, c2, c3, c4, c5, c6, c7, c8, c9, c10, c11, c12, c13, c14, c15, c16, c17, c18]).take (Try.prog.cellsOf 3)) = some y0 := hf 0 _ rfl
    rw [(opn_int Try.underlying3 (by kernel_rfl) : OpnA 3 _ _ _ _).cells] at h0
    obtain ⟨a0, hA0, hQ0, hL0⟩ := (opn_int Try.underlying3 (by kernel_rfl)).go (cs := [c0]) rfl h0 (fun b o hm => hfz b o (by rw [List.mem_flatMap]; exact ⟨y0, by simp, hm⟩))
    have h1 : DataW.trod enc Try.prog w 0 (fun _ => true) true n 3 ((List.drop 1 [c0, c1, c2, c3, c4, c5, c6, c7, c8, c9, c10, c11, c12, c13, c14, c15, c16, c17, c18]).take (Try.prog.cellsOf 3)) = some y1 := hf 1 _ rfl
    rw [(opn_int Try.underlying3 (by kernel_rfl) : OpnA 3 _ _ _ _).cells] at h1
    obtain ⟨a1, hA1, hQ1, hL1⟩ := (opn_int Try.underlying3 (by kernel_rfl)).go (cs := [c1]) rfl h1 (fun b o hm => hfz b o (by rw [List.mem_flatMap]; exact ⟨y1, by simp, hm⟩))
    have h2 : DataW.trod enc Try.prog w 0 (fun _ => true) true n 3 ((List.drop 2 [c0, c1, c2, c3, c4, c5, c6, c7, c8, c9, c10, c11, c12, c13, c14, c15, c16, c17, c18]).take (Try.prog.cellsOf 3)) = some y2 := hf 2 _ rfl
    rw [(opn_int Try.underlying3 (by kernel_rfl) : OpnA 3 _ _ _ _).cells] at h2
    obtain ⟨a2, hA2, hQ2, hL2⟩ := (opn_int Try.underlying3 (by kernel_rfl)).go (cs := [c2]) rfl h2 (fun b o hm => hfz b o (by rw [List.mem_flatMap]; exact ⟨y2, by simp, hm⟩))
    have h3 : DataW.trod enc Try.prog w 0 (fun _ => true) true n 3 ((List.drop 3 [c0, c1, c2, c3, c4, c5, c6, c7, c8, c9, c10, c11, c12, c13, c14, c15, c16, c17, c18]).take (Try.prog.cellsOf 3)) = some y3 := hf 3 _ rfl
    rw [(opn_int Try.underlying3 (by kernel_rfl) : OpnA 3 _ _ _ _).cells] at h3
    obtain ⟨a3, hA3, hQ3, hL3⟩ := (opn_int Try.underlying3 (by kernel_rfl)).go (cs := [c3]) rfl h3 (fun b o hm => hfz b o (by rw [List.mem_flatMap]; exact ⟨y3, by simp, hm⟩))
    have h4 : DataW.trod enc Try.prog w 0 (fun _ => true) true n 3 ((List.drop 4 [c0, c1, c2, c3, c4, c5, c6, c7, c8, c9, c10, c11, c12, c13, c14, c15, c16, c17, c18]).take (Try.prog.cellsOf 3)) = some y4 := hf 4 _ rfl
    rw [(opn_int Try.underlying3 (by kernel_rfl) : OpnA 3 _ _ _ _).cells] at h4
    obtain ⟨a4, hA4, hQ4, hL4⟩ := (opn_int Try.underlying3 (by kernel_rfl)).go (cs := [c4]) rfl h4 (fun b o hm => hfz b o (by rw [List.mem_flatMap]; exact ⟨y4, by simp, hm⟩))
    have h5 : DataW.trod enc Try.prog w 0 (fun _ => true) true n 4 ((List.drop 5 [c0, c1, c2, c3, c4, c5, c6, c7, c8, c9, c10, c11, c12, c13, c14, c15, c16, c17, c18]).take (Try.prog.cellsOf 4)) = some y5 := hf 5 _ rfl
    rw [(opn_bit : OpnA 4 _ _ _ _).cells] at h5
    obtain ⟨a5, hA5, hQ5, hL5⟩ := (opn_bit).go (cs := [c5]) rfl h5 (fun b o hm => hfz b o (by rw [List.mem_flatMap]; exact ⟨y5, by simp, hm⟩))
    have h6 : DataW.trod enc Try.prog w 0 (fun _ => true) true n 2 ((List.drop 6 [c0, c1, c2, c3, c4, c5, c6, c7, c8, c9, c10, c11, c12, c13, c14, c15, c16, c17, c18]).take (Try.prog.cellsOf 2)) = some y6 := hf 6 _ rfl
    rw [(opn_int Try.underlying2 (by kernel_rfl) : OpnA 2 _ _ _ _).cells] at h6
    obtain ⟨a6, hA6, hQ6, hL6⟩ := (opn_int Try.underlying2 (by kernel_rfl)).go (cs := [c6]) rfl h6 (fun b o hm => hfz b o (by rw [List.mem_flatMap]; exact ⟨y6, by simp, hm⟩))
    have h7 : DataW.trod enc Try.prog w 0 (fun _ => true) true n 2 ((List.drop 7 [c0, c1, c2, c3, c4, c5, c6, c7, c8, c9, c10, c11, c12, c13, c14, c15, c16, c17, c18]).take (Try.prog.cellsOf 2)) = some y7 := hf 7 _ rfl
    rw [(opn_int Try.underlying2 (by kernel_rfl) : OpnA 2 _ _ _ _).cells] at h7
    obtain ⟨a7, hA7, hQ7, hL7⟩ := (opn_int Try.underlying2 (by kernel_rfl)).go (cs := [c7]) rfl h7 (fun b o hm => hfz b o (by rw [List.mem_flatMap]; exact ⟨y7, by simp, hm⟩))
    have h8 : DataW.trod enc Try.prog w 0 (fun _ => true) true n 9 ((List.drop 8 [c0, c1, c2, c3, c4, c5, c6, c7, c8, c9, c10, c11, c12, c13, c14, c15, c16, c17, c18]).take (Try.prog.cellsOf 9)) = some y8 := hf 8 _ rfl
    rw [(opn_txt : OpnA 9 _ _ _ _).cells] at h8
    obtain ⟨a8, hA8, hQ8, hL8⟩ := (opn_txt).go (cs := [c8]) rfl h8 (fun b o hm => hfz b o (by rw [List.mem_flatMap]; exact ⟨y8, by simp, hm⟩))
    have h9 : DataW.trod enc Try.prog w 0 (fun _ => true) true n 67 ((List.drop 9 [c0, c1, c2, c3, c4, c5, c6, c7, c8, c9, c10, c11, c12, c13, c14, c15, c16, c17, c18]).take (Try.prog.cellsOf 67)) = some y9 := hf 9 _ rfl
    rw [(opn_row (opn_int Try.underlying2 (by kernel_rfl)) (by decide) Try.underlying67 (by kernel_rfl) : OpnA 67 _ _ _ _).cells] at h9
    obtain ⟨a9, hA9, hQ9, hL9⟩ := (opn_row (opn_int Try.underlying2 (by kernel_rfl)) (by decide) Try.underlying67 (by kernel_rfl)).go (cs := [c9]) rfl h9 (fun b o hm => hfz b o (by rw [List.mem_flatMap]; exact ⟨y9, by simp, hm⟩))
    have h10 : DataW.trod enc Try.prog w 0 (fun _ => true) true n 23 ((List.drop 10 [c0, c1, c2, c3, c4, c5, c6, c7, c8, c9, c10, c11, c12, c13, c14, c15, c16, c17, c18]).take (Try.prog.cellsOf 23)) = some y10 := hf 10 _ rfl
    rw [(opn_row opn_txt (by decide) Try.underlying23 (by kernel_rfl) : OpnA 23 _ _ _ _).cells] at h10
    obtain ⟨a10, hA10, hQ10, hL10⟩ := (opn_row opn_txt (by decide) Try.underlying23 (by kernel_rfl)).go (cs := [c10]) rfl h10 (fun b o hm => hfz b o (by rw [List.mem_flatMap]; exact ⟨y10, by simp, hm⟩))
    have h11 : DataW.trod enc Try.prog w 0 (fun _ => true) true n 68 ((List.drop 11 [c0, c1, c2, c3, c4, c5, c6, c7, c8, c9, c10, c11, c12, c13, c14, c15, c16, c17, c18]).take (Try.prog.cellsOf 68)) = some y11 := hf 11 _ rfl
    rw [(opn_row opn_cell (by decide) Try.underlying68 (by kernel_rfl) : OpnA 68 _ _ _ _).cells] at h11
    obtain ⟨a11, hA11, hQ11, hL11⟩ := (opn_row opn_cell (by decide) Try.underlying68 (by kernel_rfl)).go (cs := [c11]) rfl h11 (fun b o hm => hfz b o (by rw [List.mem_flatMap]; exact ⟨y11, by simp, hm⟩))
    have h12 : DataW.trod enc Try.prog w 0 (fun _ => true) true n 31 ((List.drop 12 [c0, c1, c2, c3, c4, c5, c6, c7, c8, c9, c10, c11, c12, c13, c14, c15, c16, c17, c18]).take (Try.prog.cellsOf 31)) = some y12 := hf 12 _ rfl
    rw [(opn_keep : OpnA 31 _ _ _ _).cells] at h12
    obtain ⟨a12, hA12, hQ12, hL12⟩ := (opn_keep).go (cs := [c12, c13, c14, c15, c16, c17, c18]) rfl h12 (fun b o hm => hfz b o (by rw [List.mem_flatMap]; exact ⟨y12, by simp, hm⟩))
    refine ⟨((a0, a1, a2, a3, a4), a5, a6, a7, a8, a9, a10, a11, a12), ⟨[c0, c1, c2, c3, c4], _, rfl, rfl, (by show [c0, c1, c2, c3, c4] = _; rw [(List.cons.inj hA0).1, (List.cons.inj hA1).1, (List.cons.inj hA2).1, (List.cons.inj hA3).1, (List.cons.inj hA4).1]), [c5], _, rfl, rfl, hA5, [c6], _, rfl, rfl, hA6, [c7], _, rfl, rfl, hA7, [c8], _, rfl, rfl, hA8, [c9], _, rfl, rfl, hA9, [c10], _, rfl, rfl, hA10, [c11], _, rfl, rfl, hA11, hA12⟩, ⟨⟨hQ0, hQ1, hQ2, hQ3, hQ4⟩, hQ5, hQ6, hQ7, hQ8, hQ9, hQ10, hQ11, hQ12⟩, ?_⟩
    show (((numC).enc a0 ++ ((numC).enc a1 ++ ((numC).enc a2 ++ ((numC).enc a3 ++ ((numC).enc a4))))) ++ ((bitC).enc a5 ++ ((numC).enc a6 ++ ((numC).enc a7 ++ ((txtC).enc a8 ++ ((rowC numC).enc a9 ++ ((rowC txtC).enc a10 ++ ((rowC varC).enc a11 ++ ((keepC).enc a12))))))))).length ≤ 10 * (Rows.uptoBulk y0.1 + (Rows.uptoBulk y1.1 + (Rows.uptoBulk y2.1 + (Rows.uptoBulk y3.1 + (Rows.uptoBulk y4.1 + (Rows.uptoBulk y5.1 + (Rows.uptoBulk y6.1 + (Rows.uptoBulk y7.1 + (Rows.uptoBulk y8.1 + (Rows.uptoBulk y9.1 + (Rows.uptoBulk y10.1 + (Rows.uptoBulk y11.1 + (Rows.uptoBulk y12.1 + 0)))))))))))) + 1)
    rw [List.length_append, List.length_append, List.length_append, List.length_append, List.length_append, List.length_append, List.length_append, List.length_append, List.length_append, List.length_append, List.length_append, List.length_append]
    omega
theorem opn_req : OpnA 34 5 reqC (reqA) (ReqQ) := by
  refine ⟨by kernel_rfl, ?_⟩
  intro H enc w fuel cs y hcl hd hfz
  obtain ⟨xs, n, _, rfl, hl, hlen, hf⟩ := DataW.trod_struct Try.underlying34 hd
  match cs, hcl, hf with
  | [c0, c1, c2, c3, c4], _, hf =>
  match xs, hlen, hf, hfz with
  | [y0, y1, y2, y3, y4], _, hf, hfz =>
    have h0 : DataW.trod enc Try.prog w 0 (fun _ => true) true n 3 ((List.drop 0 [c0, c1, c2, c3, c4]).take (Try.prog.cellsOf 3)) = some y0 := hf 0 _ rfl
    rw [(opn_int Try.underlying3 (by kernel_rfl) : OpnA 3 _ _ _ _).cells] at h0
    obtain ⟨a0, hA0, hQ0, hL0⟩ := (opn_int Try.underlying3 (by kernel_rfl)).go (cs := [c0]) rfl h0 (fun b o hm => hfz b o (by rw [List.mem_flatMap]; exact ⟨y0, by simp, hm⟩))
    have h1 : DataW.trod enc Try.prog w 0 (fun _ => true) true n 2 ((List.drop 1 [c0, c1, c2, c3, c4]).take (Try.prog.cellsOf 2)) = some y1 := hf 1 _ rfl
    rw [(opn_int Try.underlying2 (by kernel_rfl) : OpnA 2 _ _ _ _).cells] at h1
    obtain ⟨a1, hA1, hQ1, hL1⟩ := (opn_int Try.underlying2 (by kernel_rfl)).go (cs := [c1]) rfl h1 (fun b o hm => hfz b o (by rw [List.mem_flatMap]; exact ⟨y1, by simp, hm⟩))
    have h2 : DataW.trod enc Try.prog w 0 (fun _ => true) true n 2 ((List.drop 2 [c0, c1, c2, c3, c4]).take (Try.prog.cellsOf 2)) = some y2 := hf 2 _ rfl
    rw [(opn_int Try.underlying2 (by kernel_rfl) : OpnA 2 _ _ _ _).cells] at h2
    obtain ⟨a2, hA2, hQ2, hL2⟩ := (opn_int Try.underlying2 (by kernel_rfl)).go (cs := [c2]) rfl h2 (fun b o hm => hfz b o (by rw [List.mem_flatMap]; exact ⟨y2, by simp, hm⟩))
    have h3 : DataW.trod enc Try.prog w 0 (fun _ => true) true n 9 ((List.drop 3 [c0, c1, c2, c3, c4]).take (Try.prog.cellsOf 9)) = some y3 := hf 3 _ rfl
    rw [(opn_txt : OpnA 9 _ _ _ _).cells] at h3
    obtain ⟨a3, hA3, hQ3, hL3⟩ := (opn_txt).go (cs := [c3]) rfl h3 (fun b o hm => hfz b o (by rw [List.mem_flatMap]; exact ⟨y3, by simp, hm⟩))
    have h4 : DataW.trod enc Try.prog w 0 (fun _ => true) true n 23 ((List.drop 4 [c0, c1, c2, c3, c4]).take (Try.prog.cellsOf 23)) = some y4 := hf 4 _ rfl
    rw [(opn_row opn_txt (by decide) Try.underlying23 (by kernel_rfl) : OpnA 23 _ _ _ _).cells] at h4
    obtain ⟨a4, hA4, hQ4, hL4⟩ := (opn_row opn_txt (by decide) Try.underlying23 (by kernel_rfl)).go (cs := [c4]) rfl h4 (fun b o hm => hfz b o (by rw [List.mem_flatMap]; exact ⟨y4, by simp, hm⟩))
    refine ⟨(a0, a1, a2, a3, a4), ⟨[c0], _, rfl, rfl, hA0, [c1], _, rfl, rfl, hA1, [c2], _, rfl, rfl, hA2, [c3], _, rfl, rfl, hA3, hA4⟩, ⟨hQ0, hQ1, hQ2, hQ3, hQ4⟩, ?_⟩
    show ((numC).enc a0 ++ ((numC).enc a1 ++ ((numC).enc a2 ++ ((txtC).enc a3 ++ ((rowC txtC).enc a4))))).length ≤ 10 * (Rows.uptoBulk y0.1 + (Rows.uptoBulk y1.1 + (Rows.uptoBulk y2.1 + (Rows.uptoBulk y3.1 + (Rows.uptoBulk y4.1 + 0)))) + 1)
    rw [List.length_append, List.length_append, List.length_append, List.length_append]
    omega
theorem opn_ans : OpnA 36 7 ansC (ansA) (AnsQ) := by
  refine ⟨by kernel_rfl, ?_⟩
  intro H enc w fuel cs y hcl hd hfz
  obtain ⟨xs, n, _, rfl, hl, hlen, hf⟩ := DataW.trod_struct Try.underlying36 hd
  match cs, hcl, hf with
  | [c0, c1, c2, c3, c4, c5, c6], _, hf =>
  match xs, hlen, hf, hfz with
  | [y0, y1, y2, y3, y4, y5, y6], _, hf, hfz =>
    have h0 : DataW.trod enc Try.prog w 0 (fun _ => true) true n 3 ((List.drop 0 [c0, c1, c2, c3, c4, c5, c6]).take (Try.prog.cellsOf 3)) = some y0 := hf 0 _ rfl
    rw [(opn_int Try.underlying3 (by kernel_rfl) : OpnA 3 _ _ _ _).cells] at h0
    obtain ⟨a0, hA0, hQ0, hL0⟩ := (opn_int Try.underlying3 (by kernel_rfl)).go (cs := [c0]) rfl h0 (fun b o hm => hfz b o (by rw [List.mem_flatMap]; exact ⟨y0, by simp, hm⟩))
    have h1 : DataW.trod enc Try.prog w 0 (fun _ => true) true n 3 ((List.drop 1 [c0, c1, c2, c3, c4, c5, c6]).take (Try.prog.cellsOf 3)) = some y1 := hf 1 _ rfl
    rw [(opn_int Try.underlying3 (by kernel_rfl) : OpnA 3 _ _ _ _).cells] at h1
    obtain ⟨a1, hA1, hQ1, hL1⟩ := (opn_int Try.underlying3 (by kernel_rfl)).go (cs := [c1]) rfl h1 (fun b o hm => hfz b o (by rw [List.mem_flatMap]; exact ⟨y1, by simp, hm⟩))
    have h2 : DataW.trod enc Try.prog w 0 (fun _ => true) true n 2 ((List.drop 2 [c0, c1, c2, c3, c4, c5, c6]).take (Try.prog.cellsOf 2)) = some y2 := hf 2 _ rfl
    rw [(opn_int Try.underlying2 (by kernel_rfl) : OpnA 2 _ _ _ _).cells] at h2
    obtain ⟨a2, hA2, hQ2, hL2⟩ := (opn_int Try.underlying2 (by kernel_rfl)).go (cs := [c2]) rfl h2 (fun b o hm => hfz b o (by rw [List.mem_flatMap]; exact ⟨y2, by simp, hm⟩))
    have h3 : DataW.trod enc Try.prog w 0 (fun _ => true) true n 2 ((List.drop 3 [c0, c1, c2, c3, c4, c5, c6]).take (Try.prog.cellsOf 2)) = some y3 := hf 3 _ rfl
    rw [(opn_int Try.underlying2 (by kernel_rfl) : OpnA 2 _ _ _ _).cells] at h3
    obtain ⟨a3, hA3, hQ3, hL3⟩ := (opn_int Try.underlying2 (by kernel_rfl)).go (cs := [c3]) rfl h3 (fun b o hm => hfz b o (by rw [List.mem_flatMap]; exact ⟨y3, by simp, hm⟩))
    have h4 : DataW.trod enc Try.prog w 0 (fun _ => true) true n 9 ((List.drop 4 [c0, c1, c2, c3, c4, c5, c6]).take (Try.prog.cellsOf 9)) = some y4 := hf 4 _ rfl
    rw [(opn_txt : OpnA 9 _ _ _ _).cells] at h4
    obtain ⟨a4, hA4, hQ4, hL4⟩ := (opn_txt).go (cs := [c4]) rfl h4 (fun b o hm => hfz b o (by rw [List.mem_flatMap]; exact ⟨y4, by simp, hm⟩))
    have h5 : DataW.trod enc Try.prog w 0 (fun _ => true) true n 23 ((List.drop 5 [c0, c1, c2, c3, c4, c5, c6]).take (Try.prog.cellsOf 23)) = some y5 := hf 5 _ rfl
    rw [(opn_row opn_txt (by decide) Try.underlying23 (by kernel_rfl) : OpnA 23 _ _ _ _).cells] at h5
    obtain ⟨a5, hA5, hQ5, hL5⟩ := (opn_row opn_txt (by decide) Try.underlying23 (by kernel_rfl)).go (cs := [c5]) rfl h5 (fun b o hm => hfz b o (by rw [List.mem_flatMap]; exact ⟨y5, by simp, hm⟩))
    have h6 : DataW.trod enc Try.prog w 0 (fun _ => true) true n 3 ((List.drop 6 [c0, c1, c2, c3, c4, c5, c6]).take (Try.prog.cellsOf 3)) = some y6 := hf 6 _ rfl
    rw [(opn_int Try.underlying3 (by kernel_rfl) : OpnA 3 _ _ _ _).cells] at h6
    obtain ⟨a6, hA6, hQ6, hL6⟩ := (opn_int Try.underlying3 (by kernel_rfl)).go (cs := [c6]) rfl h6 (fun b o hm => hfz b o (by rw [List.mem_flatMap]; exact ⟨y6, by simp, hm⟩))
    refine ⟨((a0, a1), a2, a3, a4, a5, a6), ⟨[c0, c1], _, rfl, rfl, (by show [c0, c1] = _; rw [(List.cons.inj hA0).1, (List.cons.inj hA1).1]), [c2], _, rfl, rfl, hA2, [c3], _, rfl, rfl, hA3, [c4], _, rfl, rfl, hA4, [c5], _, rfl, rfl, hA5, hA6⟩, ⟨⟨hQ0, hQ1⟩, hQ2, hQ3, hQ4, hQ5, hQ6⟩, ?_⟩
    show (((numC).enc a0 ++ ((numC).enc a1)) ++ ((numC).enc a2 ++ ((numC).enc a3 ++ ((txtC).enc a4 ++ ((rowC txtC).enc a5 ++ ((numC).enc a6)))))).length ≤ 10 * (Rows.uptoBulk y0.1 + (Rows.uptoBulk y1.1 + (Rows.uptoBulk y2.1 + (Rows.uptoBulk y3.1 + (Rows.uptoBulk y4.1 + (Rows.uptoBulk y5.1 + (Rows.uptoBulk y6.1 + 0)))))) + 1)
    rw [List.length_append, List.length_append, List.length_append, List.length_append, List.length_append, List.length_append]
    omega
theorem opn_state : OpnA 40 29 stateC (stateA) (StateQ) := by
  refine ⟨by kernel_rfl, ?_⟩
  intro H enc w fuel cs y hcl hd hfz
  obtain ⟨xs, n, _, rfl, hl, hlen, hf⟩ := DataW.trod_struct Try.underlying40 hd
  match cs, hcl, hf with
  | [c0, c1, c2, c3, c4, c5, c6, c7, c8, c9, c10, c11, c12, c13, c14, c15, c16, c17, c18, c19, c20, c21, c22, c23, c24, c25, c26, c27, c28], _, hf =>
  match xs, hlen, hf, hfz with
  | [y0, y1, y2, y3, y4, y5, y6, y7, y8, y9, y10, y11, y12], _, hf, hfz =>
    have h0 : DataW.trod enc Try.prog w 0 (fun _ => true) true n 31 ((List.drop 0 [c0, c1, c2, c3, c4, c5, c6, c7, c8, c9, c10, c11, c12, c13, c14, c15, c16, c17, c18, c19, c20, c21, c22, c23, c24, c25, c26, c27, c28]).take (Try.prog.cellsOf 31)) = some y0 := hf 0 _ rfl
    rw [(opn_keep : OpnA 31 _ _ _ _).cells] at h0
    obtain ⟨a0, hA0, hQ0, hL0⟩ := (opn_keep).go (cs := [c0, c1, c2, c3, c4, c5, c6]) rfl h0 (fun b o hm => hfz b o (by rw [List.mem_flatMap]; exact ⟨y0, by simp, hm⟩))
    have h1 : DataW.trod enc Try.prog w 0 (fun _ => true) true n 23 ((List.drop 7 [c0, c1, c2, c3, c4, c5, c6, c7, c8, c9, c10, c11, c12, c13, c14, c15, c16, c17, c18, c19, c20, c21, c22, c23, c24, c25, c26, c27, c28]).take (Try.prog.cellsOf 23)) = some y1 := hf 1 _ rfl
    rw [(opn_row opn_txt (by decide) Try.underlying23 (by kernel_rfl) : OpnA 23 _ _ _ _).cells] at h1
    obtain ⟨a1, hA1, hQ1, hL1⟩ := (opn_row opn_txt (by decide) Try.underlying23 (by kernel_rfl)).go (cs := [c7]) rfl h1 (fun b o hm => hfz b o (by rw [List.mem_flatMap]; exact ⟨y1, by simp, hm⟩))
    have h2 : DataW.trod enc Try.prog w 0 (fun _ => true) true n 32 ((List.drop 8 [c0, c1, c2, c3, c4, c5, c6, c7, c8, c9, c10, c11, c12, c13, c14, c15, c16, c17, c18, c19, c20, c21, c22, c23, c24, c25, c26, c27, c28]).take (Try.prog.cellsOf 32)) = some y2 := hf 2 _ rfl
    rw [(opn_row opn_frame (by decide) Try.underlying32 (by kernel_rfl) : OpnA 32 _ _ _ _).cells] at h2
    obtain ⟨a2, hA2, hQ2, hL2⟩ := (opn_row opn_frame (by decide) Try.underlying32 (by kernel_rfl)).go (cs := [c8]) rfl h2 (fun b o hm => hfz b o (by rw [List.mem_flatMap]; exact ⟨y2, by simp, hm⟩))
    have h3 : DataW.trod enc Try.prog w 0 (fun _ => true) true n 34 ((List.drop 9 [c0, c1, c2, c3, c4, c5, c6, c7, c8, c9, c10, c11, c12, c13, c14, c15, c16, c17, c18, c19, c20, c21, c22, c23, c24, c25, c26, c27, c28]).take (Try.prog.cellsOf 34)) = some y3 := hf 3 _ rfl
    rw [(opn_req : OpnA 34 _ _ _ _).cells] at h3
    obtain ⟨a3, hA3, hQ3, hL3⟩ := (opn_req).go (cs := [c9, c10, c11, c12, c13]) rfl h3 (fun b o hm => hfz b o (by rw [List.mem_flatMap]; exact ⟨y3, by simp, hm⟩))
    have h4 : DataW.trod enc Try.prog w 0 (fun _ => true) true n 36 ((List.drop 14 [c0, c1, c2, c3, c4, c5, c6, c7, c8, c9, c10, c11, c12, c13, c14, c15, c16, c17, c18, c19, c20, c21, c22, c23, c24, c25, c26, c27, c28]).take (Try.prog.cellsOf 36)) = some y4 := hf 4 _ rfl
    rw [(opn_ans : OpnA 36 _ _ _ _).cells] at h4
    obtain ⟨a4, hA4, hQ4, hL4⟩ := (opn_ans).go (cs := [c14, c15, c16, c17, c18, c19, c20]) rfl h4 (fun b o hm => hfz b o (by rw [List.mem_flatMap]; exact ⟨y4, by simp, hm⟩))
    have h5 : DataW.trod enc Try.prog w 0 (fun _ => true) true n 37 ((List.drop 21 [c0, c1, c2, c3, c4, c5, c6, c7, c8, c9, c10, c11, c12, c13, c14, c15, c16, c17, c18, c19, c20, c21, c22, c23, c24, c25, c26, c27, c28]).take (Try.prog.cellsOf 37)) = some y5 := hf 5 _ rfl
    rw [(opn_row (opn_int Try.underlying3 (by kernel_rfl)) (by decide) Try.underlying37 (by kernel_rfl) : OpnA 37 _ _ _ _).cells] at h5
    obtain ⟨a5, hA5, hQ5, hL5⟩ := (opn_row (opn_int Try.underlying3 (by kernel_rfl)) (by decide) Try.underlying37 (by kernel_rfl)).go (cs := [c21]) rfl h5 (fun b o hm => hfz b o (by rw [List.mem_flatMap]; exact ⟨y5, by simp, hm⟩))
    have h6 : DataW.trod enc Try.prog w 0 (fun _ => true) true n 3 ((List.drop 22 [c0, c1, c2, c3, c4, c5, c6, c7, c8, c9, c10, c11, c12, c13, c14, c15, c16, c17, c18, c19, c20, c21, c22, c23, c24, c25, c26, c27, c28]).take (Try.prog.cellsOf 3)) = some y6 := hf 6 _ rfl
    rw [(opn_int Try.underlying3 (by kernel_rfl) : OpnA 3 _ _ _ _).cells] at h6
    obtain ⟨a6, hA6, hQ6, hL6⟩ := (opn_int Try.underlying3 (by kernel_rfl)).go (cs := [c22]) rfl h6 (fun b o hm => hfz b o (by rw [List.mem_flatMap]; exact ⟨y6, by simp, hm⟩))
    have h7 : DataW.trod enc Try.prog w 0 (fun _ => true) true n 3 ((List.drop 23 [c0, c1, c2, c3, c4, c5, c6, c7, c8, c9, c10, c11, c12, c13, c14, c15, c16, c17, c18, c19, c20, c21, c22, c23, c24, c25, c26, c27, c28]).take (Try.prog.cellsOf 3)) = some y7 := hf 7 _ rfl
    rw [(opn_int Try.underlying3 (by kernel_rfl) : OpnA 3 _ _ _ _).cells] at h7
    obtain ⟨a7, hA7, hQ7, hL7⟩ := (opn_int Try.underlying3 (by kernel_rfl)).go (cs := [c23]) rfl h7 (fun b o hm => hfz b o (by rw [List.mem_flatMap]; exact ⟨y7, by simp, hm⟩))
    have h8 : DataW.trod enc Try.prog w 0 (fun _ => true) true n 3 ((List.drop 24 [c0, c1, c2, c3, c4, c5, c6, c7, c8, c9, c10, c11, c12, c13, c14, c15, c16, c17, c18, c19, c20, c21, c22, c23, c24, c25, c26, c27, c28]).take (Try.prog.cellsOf 3)) = some y8 := hf 8 _ rfl
    rw [(opn_int Try.underlying3 (by kernel_rfl) : OpnA 3 _ _ _ _).cells] at h8
    obtain ⟨a8, hA8, hQ8, hL8⟩ := (opn_int Try.underlying3 (by kernel_rfl)).go (cs := [c24]) rfl h8 (fun b o hm => hfz b o (by rw [List.mem_flatMap]; exact ⟨y8, by simp, hm⟩))
    have h9 : DataW.trod enc Try.prog w 0 (fun _ => true) true n 4 ((List.drop 25 [c0, c1, c2, c3, c4, c5, c6, c7, c8, c9, c10, c11, c12, c13, c14, c15, c16, c17, c18, c19, c20, c21, c22, c23, c24, c25, c26, c27, c28]).take (Try.prog.cellsOf 4)) = some y9 := hf 9 _ rfl
    rw [(opn_bit : OpnA 4 _ _ _ _).cells] at h9
    obtain ⟨a9, hA9, hQ9, hL9⟩ := (opn_bit).go (cs := [c25]) rfl h9 (fun b o hm => hfz b o (by rw [List.mem_flatMap]; exact ⟨y9, by simp, hm⟩))
    have h10 : DataW.trod enc Try.prog w 0 (fun _ => true) true n 4 ((List.drop 26 [c0, c1, c2, c3, c4, c5, c6, c7, c8, c9, c10, c11, c12, c13, c14, c15, c16, c17, c18, c19, c20, c21, c22, c23, c24, c25, c26, c27, c28]).take (Try.prog.cellsOf 4)) = some y10 := hf 10 _ rfl
    rw [(opn_bit : OpnA 4 _ _ _ _).cells] at h10
    obtain ⟨a10, hA10, hQ10, hL10⟩ := (opn_bit).go (cs := [c26]) rfl h10 (fun b o hm => hfz b o (by rw [List.mem_flatMap]; exact ⟨y10, by simp, hm⟩))
    have h11 : DataW.trod enc Try.prog w 0 (fun _ => true) true n 4 ((List.drop 27 [c0, c1, c2, c3, c4, c5, c6, c7, c8, c9, c10, c11, c12, c13, c14, c15, c16, c17, c18, c19, c20, c21, c22, c23, c24, c25, c26, c27, c28]).take (Try.prog.cellsOf 4)) = some y11 := hf 11 _ rfl
    rw [(opn_bit : OpnA 4 _ _ _ _).cells] at h11
    obtain ⟨a11, hA11, hQ11, hL11⟩ := (opn_bit).go (cs := [c27]) rfl h11 (fun b o hm => hfz b o (by rw [List.mem_flatMap]; exact ⟨y11, by simp, hm⟩))
    have h12 : DataW.trod enc Try.prog w 0 (fun _ => true) true n 38 ((List.drop 28 [c0, c1, c2, c3, c4, c5, c6, c7, c8, c9, c10, c11, c12, c13, c14, c15, c16, c17, c18, c19, c20, c21, c22, c23, c24, c25, c26, c27, c28]).take (Try.prog.cellsOf 38)) = some y12 := hf 12 _ rfl
    rw [(opn_int Try.underlying38 (by kernel_rfl) : OpnA 38 _ _ _ _).cells] at h12
    obtain ⟨a12, hA12, hQ12, hL12⟩ := (opn_int Try.underlying38 (by kernel_rfl)).go (cs := [c28]) rfl h12 (fun b o hm => hfz b o (by rw [List.mem_flatMap]; exact ⟨y12, by simp, hm⟩))
    refine ⟨(a0, a1, a2, a3, a4, a5, (a6, a7, a8), (a9, a10, a11), a12), ⟨[c0, c1, c2, c3, c4, c5, c6], _, rfl, rfl, hA0, [c7], _, rfl, rfl, hA1, [c8], _, rfl, rfl, hA2, [c9, c10, c11, c12, c13], _, rfl, rfl, hA3, [c14, c15, c16, c17, c18, c19, c20], _, rfl, rfl, hA4, [c21], _, rfl, rfl, hA5, [c22, c23, c24], _, rfl, rfl, (by show [c22, c23, c24] = _; rw [(List.cons.inj hA6).1, (List.cons.inj hA7).1, (List.cons.inj hA8).1]), [c25, c26, c27], _, rfl, rfl, (by show [c25, c26, c27] = _; rw [(List.cons.inj hA9).1, (List.cons.inj hA10).1, (List.cons.inj hA11).1]), hA12⟩, ⟨hQ0, hQ1, hQ2, hQ3, hQ4, hQ5, ⟨hQ6, hQ7, hQ8⟩, ⟨hQ9, hQ10, hQ11⟩, hQ12⟩, ?_⟩
    show ((keepC).enc a0 ++ ((rowC txtC).enc a1 ++ ((rowC frameC).enc a2 ++ ((reqC).enc a3 ++ ((ansC).enc a4 ++ ((rowC numC).enc a5 ++ (((numC).enc a6 ++ ((numC).enc a7 ++ ((numC).enc a8))) ++ (((bitC).enc a9 ++ ((bitC).enc a10 ++ ((bitC).enc a11))) ++ ((numC).enc a12))))))))).length ≤ 10 * (Rows.uptoBulk y0.1 + (Rows.uptoBulk y1.1 + (Rows.uptoBulk y2.1 + (Rows.uptoBulk y3.1 + (Rows.uptoBulk y4.1 + (Rows.uptoBulk y5.1 + (Rows.uptoBulk y6.1 + (Rows.uptoBulk y7.1 + (Rows.uptoBulk y8.1 + (Rows.uptoBulk y9.1 + (Rows.uptoBulk y10.1 + (Rows.uptoBulk y11.1 + (Rows.uptoBulk y12.1 + 0)))))))))))) + 1)
    rw [List.length_append, List.length_append, List.length_append, List.length_append, List.length_append, List.length_append, List.length_append, List.length_append, List.length_append, List.length_append, List.length_append, List.length_append]
    omega
theorem rowA_conv {α : Type} {K : Nat} (hK : 0 < K) {A : World → List Value → α → Prop} {R : Nat → World → Nat → Nat → α → Prop} (h : ConvR K A R) : ConvR 1 (RowA K A) (RowR K R) := by
  refine ⟨?_⟩
  rintro W W' vs zs g off n ⟨p, cap, rfl, _, _, he⟩ hb hc hf hg hn
  refine ⟨hg, _, hc 0 Nat.zero_lt_one, p, cap, rfl, he.imp id ?_⟩
  rintro ⟨b, o, rfl, hel⟩
  refine ⟨b, o, rfl, fun j hj => ?_⟩
  obtain ⟨us, hl, hcu, hfu, hA⟩ := hel j hj
  have hbl : b < W.heap.size := World.block_lt_of_cell? W _ (hcu 0 (by omega))
  exact h.go hA hb (hcu.below hb hbl) (fun i hi => (hb.frozen (p := ⟨b, o + j * K + i, none⟩) hbl).trans (hfu i hi)) (Nat.lt_of_lt_of_le hbl hn) hn
theorem strsA_conv : ConvR 1 strsA (RowR 1 (FlatR txtV)) := rowA_conv (by decide) (flat_conv 1 txtV)
theorem numsA_conv : ConvR 1 numsA (RowR 1 (FlatR numV)) := rowA_conv (by decide) (flat_conv 1 numV)
theorem varsA_conv : ConvR 1 varsA (RowR 2 (FlatR varV)) := rowA_conv (by decide) (flat_conv 2 varV)
theorem envA_conv : ConvR 4 envA EnvR := ⟨fun h hb hc hf hg hn => (pair_conv varsA_conv (pair_conv strsA_conv (pair_conv (flat_conv 1 numV) (flat_conv 1 txtV)))).go h hb hc hf hg hn⟩
theorem fdsA_conv : ConvR 1 pairsA (fun n W g off zs => RowR 2 (FlatR prV) n W g off zs ∧ W.frozen? ⟨g, off, none⟩ = false) := ⟨fun h hb hc hf hg hn => ⟨(rowA_conv (by decide) (flat_conv 2 prV)).go h hb hc hf hg hn, hf 0 Nat.zero_lt_one⟩⟩
theorem keepA_conv : ConvR 7 keepA KeepR := ⟨fun h hb hc hf hg hn => (pair_conv envA_conv (pair_conv (rowA_conv (by decide) (flat_conv 3 fnV)) (pair_conv (rowA_conv (by decide) (flat_conv 2 trapV)) fdsA_conv))).go h hb hc hf hg hn⟩
theorem frameA_conv : ConvR 19 frameA FrameR := ⟨fun h hb hc hf hg hn => (pair_conv (flat_conv 5 num5V) (pair_conv bit_conv (pair_conv (flat_conv 1 numV) (pair_conv (flat_conv 1 numV) (pair_conv (flat_conv 1 txtV) (pair_conv numsA_conv (pair_conv strsA_conv (pair_conv varsA_conv keepA_conv)))))))).go h hb hc hf hg hn⟩
theorem reqA_conv : ConvR 5 reqA ReqR := ⟨fun h hb hc hf hg hn => (pair_conv (flat_conv 1 numV) (pair_conv (flat_conv 1 numV) (pair_conv (flat_conv 1 numV) (pair_conv (flat_conv 1 txtV) strsA_conv)))).go h hb hc hf hg hn⟩
theorem ansA_conv : ConvR 7 ansA AnsR := ⟨fun h hb hc hf hg hn => (pair_conv (flat_conv 2 num2V) (pair_conv (flat_conv 1 numV) (pair_conv (flat_conv 1 numV) (pair_conv (flat_conv 1 txtV) (pair_conv strsA_conv (flat_conv 1 numV)))))).go h hb hc hf hg hn⟩
theorem stateA_conv : ConvR 29 stateA StateR := ⟨fun h hb hc hf hg hn => (pair_conv keepA_conv (pair_conv strsA_conv (pair_conv (rowA_conv (by decide) frameA_conv) (pair_conv reqA_conv (pair_conv ansA_conv (pair_conv numsA_conv (pair_conv (flat_conv 3 num3V) (pair_conv bits_conv (flat_conv 1 numV))))))))).go h hb hc hf hg hn⟩
theorem PkArg.ofA {W : World} {vs : List Value} {a : StateD} (h : stateA W vs a) (hl : vs.length = 29) : PkArg W vs a :=
  ⟨hl, fun W' g n hb h1 h2 hc => stateA_conv.go h hb (fun j hj => by rw [Nat.zero_add, hc.cell, List.getElem?_eq_getElem hj]) (fun j _ => hc.frozen (0 + j)) h2 (by omega)⟩
/-! ### How many things there are -/
def keepN (k : KeepD) : Nat := k.1.1.length + k.1.2.1.length + k.2.1.length + k.2.2.1.length + k.2.2.2.length
def frameN (f : FrameD) : Nat := f.2.2.2.2.2.1.length + f.2.2.2.2.2.2.1.length + f.2.2.2.2.2.2.2.1.length + keepN f.2.2.2.2.2.2.2.2
def framesN (l : List FrameD) : Nat := (l.map frameN).sum
def headN (s : StateD) : Nat := s.2.1.length + s.2.2.1.length + s.2.2.2.2.2.1.length + keepN s.1 + s.2.2.2.1.2.2.2.2.length + s.2.2.2.2.1.2.2.2.2.1.length
def fewN (s : StateD) : Nat := headN s + framesN s.2.2.1
theorem sum_mem_le {l : List Nat} {x : Nat} (h : x ∈ l) : x ≤ l.sum := by
  induction l with
  | nil => cases h
  | cons y r ih =>
    rw [List.sum_cons]
    rcases List.mem_cons.1 h with rfl | h
    · omega
    · have := ih h; omega
theorem keep_few {k : KeepD} (h : keepN k ≤ 300) (hq : KeepQ k) : KeepP k := by
  unfold keepN at h
  obtain ⟨⟨q1, q2, q3, q4⟩, q5, q6, q7⟩ := hq
  exact ⟨⟨⟨by omega, q1⟩, ⟨by omega, q2⟩, q3, q4⟩, ⟨by omega, q5⟩, ⟨by omega, q6⟩, ⟨by omega, q7⟩⟩
theorem frame_few {f : FrameD} (h : frameN f ≤ 300) (hq : FrameQ f) : FrameP f := by
  unfold frameN at h
  obtain ⟨q1, q2, q3, q4, q5, q6, q7, q8, q9⟩ := hq
  exact ⟨q1, q2, q3, q4, q5, ⟨by omega, q6⟩, ⟨by omega, q7⟩, ⟨by omega, q8⟩, keep_few (by omega) q9⟩
theorem state_few {s : StateD} (h : fewN s ≤ 300) (hq : StateQ s) : StateP s := by
  unfold fewN headN at h
  obtain ⟨q1, q2, q3, ⟨r1, r2, r3, r4, r5⟩, ⟨a1, a2, a3, a4, a5, a6⟩, q6, q7, q8, q9⟩ := hq
  refine ⟨keep_few (by omega) q1, ⟨by omega, q2⟩, ⟨by omega, fun f hf => frame_few ?_ (q3 f hf)⟩, ⟨r1, r2, r3, r4, by omega, r5⟩, ⟨a1, a2, a3, a4, ⟨by omega, a5⟩, a6⟩, ⟨by omega, q6⟩, q7, q8, q9⟩
  have h1 : frameN f ≤ framesN s.2.2.1 := sum_mem_le (List.mem_map_of_mem hf)
  omega
end Go.Proofs.Ytnmlnaoljkhjeaa
