/-
  State: Unpack. Conditions: as each contract says.
-/
import Derived.Test.YtmhofdoifgfjfaaStPack
import Derived.Deep.MidRow
import Derived.Deep.RegionLaw
set_option linter.unusedVariables false
set_option maxRecDepth 100000
namespace Go.Proofs.Ytmhofdoifgfjfaa
open Go.RowKit Base

theorem bytes_in {w : World} {a : Option Addr} {n cap : Nat} {l : Nm} (h : Bytes w a n cap l) : n = 0 ∨ ∀ ad, a = some ad → ad.block < w.heap.size := by
  obtain ⟨g1, g2, g3, b, off, g4, g5⟩ := h
  rcases g4 with g4 | g4
  · exact .inl g4
  · rcases Nat.eq_zero_or_pos n with h0 | h0
    · exact .inl h0
    · right
      intro ad had
      rw [g4] at had
      simp at had
      subst had
      have := g5 0 (by omega)
      unfold byteAt at this
      exact World.block_lt_of_cell? w _ this
theorem open_in_calls (w : World) (a : Option Addr) (n cap : Nat) (l : List UInt8) (h : Bytes w a n cap l) (hs : n ≤ 1000000000) :
    Calls Try.prog 31 #[.slice a n cap] w fun e w' => ∃ q, e = .returned (.pointer (some ⟨q, 0, none⟩)) ∧ w.heap.size ≤ q ∧ q < w'.heap.size ∧ RdIn (fun b => b < q) w' q l 0 ∧ Below w.heap.size w w' := by
  have H := Lib.hid (clone_calls w a n cap l h hs); clear h
  go_enter Try.func31, Try.ntmps31
  go_wp2_with fail
  refine H.out.mono ?_
  rintro e w1 ⟨v, rfl, hown, hb⟩
  obtain ⟨av, cv, rfl, hrow⟩ := ownsRow_bytes hown
  clear hown
  have Hrow := Lib.hid hrow; clear hrow
  have hs1 := hb.size
  go_wp2_with fail
  go_ret
  refine ⟨_, rfl, hs1, by simp, ⟨av, n, cv, heap_alloc_new w1 _, Hrow.out.below stable_byteAt ((Below.refl _ _).alloc (Nat.le_refl _) _), bytes_in Hrow.out⟩, hb.alloc hs1 _⟩
def zeroD : StateD := ((([], [], 0, []), [], [], []), [], [], (0, 0, 0, [], []), ((0, 0), 0, 0, [], [], 0), [], (0, 0, 0), (false, false, false), 0)
abbrev stZ : List Value := [.slice none 0 0, .slice none 0 0, .int .i64 0, .string ⟨#[]⟩, .slice none 0 0, .slice none 0 0, .slice none 0 0, .slice none 0 0, .slice none 0 0, .int .i64 0, .int .i64 0, .int .i64 0, .string ⟨#[]⟩, .slice none 0 0, .int .i64 0, .int .i64 0, .int .i64 0, .int .i64 0, .string ⟨#[]⟩, .slice none 0 0, .int .i64 0, .slice none 0 0, .int .i64 0, .int .i64 0, .int .i64 0, .bool false, .bool false, .bool false, .int .i64 0]
theorem row_none {α : Type} (k : Nat) (T : TypeId) (H : World → List Value → α → Prop) (W : World) : RowH k T H W [.slice none 0 0] [] := ⟨_, [], rfl, World.ownsRow_nil _ _ _ _, each_nil _ _ _⟩
theorem zero_state (W : World) : stateH W stZ zeroD := by
  refine ⟨[.slice none 0 0, .slice none 0 0, .int .i64 0, .string ⟨#[]⟩, .slice none 0 0, .slice none 0 0, .slice none 0 0], _, rfl, rfl, ?_, [.slice none 0 0], _, rfl, rfl, row_none _ _ _ _, [.slice none 0 0], _, rfl, rfl, row_none _ _ _ _,
    [.int .i64 0, .int .i64 0, .int .i64 0, .string ⟨#[]⟩, .slice none 0 0], _, rfl, rfl, ?_, [.int .i64 0, .int .i64 0, .int .i64 0, .int .i64 0, .string ⟨#[]⟩, .slice none 0 0, .int .i64 0], _, rfl, rfl, ?_, [.slice none 0 0], _, rfl, rfl, row_none _ _ _ _, [.int .i64 0, .int .i64 0, .int .i64 0], _, rfl, rfl, rfl, [.bool false, .bool false, .bool false], _, rfl, rfl, rfl, rfl⟩
  · exact ⟨[.slice none 0 0, .slice none 0 0, .int .i64 0, .string ⟨#[]⟩], _, rfl, rfl, ⟨[.slice none 0 0], _, rfl, rfl, row_none _ _ _ _, [.slice none 0 0], _, rfl, rfl, row_none _ _ _ _, [.int .i64 0], _, rfl, rfl, rfl, rfl⟩, [.slice none 0 0], _, rfl, rfl, row_none _ _ _ _, [.slice none 0 0], _, rfl, rfl, row_none _ _ _ _, row_none _ _ _ _⟩
  · exact ⟨[.int .i64 0], _, rfl, rfl, rfl, [.int .i64 0], _, rfl, rfl, rfl, [.int .i64 0], _, rfl, rfl, rfl, [.string ⟨#[]⟩], _, rfl, rfl, rfl, row_none _ _ _ _⟩
  · exact ⟨[.int .i64 0, .int .i64 0], _, rfl, rfl, rfl, [.int .i64 0], _, rfl, rfl, rfl, [.int .i64 0], _, rfl, rfl, rfl, [.string ⟨#[]⟩], _, rfl, rfl, rfl, [.slice none 0 0], _, rfl, rfl, row_none _ _ _ _, rfl⟩
/-- What Unpack tells of bytes. -/
def unB (l : Nm) : StateD × Int :=
  if mustE (decide ((stateC.dec l 0).2.1 = [])) (stateC.dec l 0).2.2 14 ≠ 0 then (zeroD, mustE (decide ((stateC.dec l 0).2.1 = [])) (stateC.dec l 0).2.2 14) else ((stateC.dec l 0).1, 0)
theorem splice_full {cur vs : List Value} (h : vs.length = cur.length) : splice cur 0 vs = vs := by
  unfold splice
  rw [List.take_zero, List.nil_append, Nat.zero_add, List.drop_of_length_le (by omega), List.append_nil]
/-- Each of what the cells hold is one cell. -/
structure One {α : Type} (H : World → List Value → α → Prop) : Prop where
  one : ∀ {W : World} {vs : List Value} {a : α}, H W vs a → ∀ v ∈ vs, v.oneCell' = true
theorem flat_1 {α : Type} {V : α → List Value} (h : ∀ a, ∀ v ∈ V a, v.oneCell' = true) : One (flatH V) := ⟨fun {W vs a} e => by
  obtain rfl : vs = V a := e
  exact h a⟩
theorem pair_1 {α β : Type} {k : Nat} {H1 : World → List Value → α → Prop} {H2 : World → List Value → β → Prop} (h1 : One H1) (h2 : One H2) : One (pairH k H1 H2) := by
  refine ⟨?_⟩
  rintro W vs a ⟨v1, v2, rfl, _, g1, g2⟩ v hv
  rcases List.mem_append.1 hv with h | h
  · exact h1.one g1 v h
  · exact h2.one g2 v h
theorem row_1 {α : Type} {k : Nat} {T : TypeId} {H : World → List Value → α → Prop} : One (RowH k T H) := by
  refine ⟨?_⟩
  rintro W vs a ⟨u, xs, rfl, ho, _⟩ v hv
  obtain rfl : v = u := by simpa using hv
  obtain ⟨ua, uc, rfl, _⟩ := ownsRow_slice ho
  rfl
theorem num_1 : One (flatH numV) := flat_1 (fun a v hv => by simp [numV] at hv; subst hv; rfl)
theorem txt_1 : One (flatH txtV) := flat_1 (fun a v hv => by simp [txtV] at hv; subst hv; rfl)
theorem state_1 : One stateH := by
  refine pair_1 (pair_1 (pair_1 row_1 (pair_1 row_1 (pair_1 num_1 txt_1))) (pair_1 row_1 (pair_1 row_1 row_1))) (pair_1 row_1 (pair_1 row_1 (pair_1 (pair_1 num_1 (pair_1 num_1 (pair_1 num_1 (pair_1 txt_1 row_1)))) (pair_1 (pair_1 ?_ (pair_1 num_1 (pair_1 num_1 (pair_1 txt_1 (pair_1 row_1 num_1))))) (pair_1 row_1 (pair_1 ?_ (pair_1 ?_ num_1)))))))
  · exact flat_1 (fun a v hv => by simp [num2V] at hv; rcases hv with rfl | rfl <;> rfl)
  · exact flat_1 (fun a v hv => by simp [num3V] at hv; rcases hv with rfl | rfl | rfl <;> rfl)
  · exact flat_1 (fun a v hv => by simp [bit3V] at hv; rcases hv with rfl | rfl | rfl <;> rfl)
theorem und_st : (Try.prog.underlying stT).map TypeDesc.isRow = some true := by kernel_rfl
theorem info_st : (Try.prog.info? stT).map (fun i => i.size) = some 29 := by kernel_rfl
theorem load_state {w : World} {b : Nat} {vs : List Value} (h : Cut b vs stT w) (hl : vs.length = 29) : (Instr.loadAt stT (.pointer (some ⟨b, 0, none⟩))).run Try.prog w = .ok (.agg vs.toArray) w := by
  obtain ⟨d, hu, hr⟩ := Option.map_eq_some_iff.1 und_st
  exact run_loadAt_mid w b 0 stT vs d (fun j v hv => by rw [Nat.zero_add, h.cell]; exact hv) hu hr (by rw [hl]; exact info_st)
theorem there_state {w : World} {b : Nat} {us : List Value} (h : Cut b us stT w) (n : Nat) (hl : n ≤ us.length) : w.there b 0 n := fun j hj => ⟨by rw [Nat.zero_add, h.cell, List.getElem?_eq_getElem (by omega)]; rfl, by rw [Nat.zero_add]; exact h.frozen j⟩
theorem set_state {w : World} {b : Nat} {us vs : List Value} (h : Cut b us stT w) (hl : vs.length = us.length) : Cut b vs stT (w.setCells b 0 vs) := by
  have := Sl.heap_setCells b stT vs 0 w us h (by omega)
  rw [splice_full hl] at this
  exact this
theorem setCells_self (b : Nat) (vs : List Value) (o : Nat) (w : World) (h : ∀ j (hj : j < vs.length), w.cell? ⟨b, o + j, none⟩ = some vs[j]) : w.setCells b o vs = w := by
  induction vs generalizing o w with
  | nil => rfl
  | cons v r ih =>
    show (w.setCell ⟨b, o, none⟩ v).setCells b (o + 1) r = w
    have h0 := h 0 (Nat.succ_pos _)
    rw [set_same (show w.cell? ⟨b, o, none⟩ = some v from h0)]
    refine ih (o + 1) w (fun j hj => ?_)
    have := h (j + 1) (Nat.succ_lt_succ hj)
    rw [show o + 1 + j = o + (j + 1) by omega]
    exact this
theorem results_cell2 {fn : Func} {t u : Tmp} {ty : TypeId} (h : fn.results = #[.cell t ty, .tmp u]) (tmps : Array Value) (P : Program) (w : World) (b : Nat) (v : Value) (ht : tmps.getD t undef = .pointer (some ⟨b, 0, none⟩))
    (hl : (loadVar ty ⟨b, 0, none⟩).run P w = .ok v w) : (results fn tmps).run P w = .ok (.tuple #[v, tmps.getD u undef]) w := by
  have ht' : tmps[t]?.getD undef = .pointer (some ⟨b, 0, none⟩) := by simpa using ht
  simp [results, h, ht', asAddr, hl, Result.andThen]
theorem loadv_state {w : World} {b : Nat} {vs : List Value} (h : Cut b vs stT w) (hl : vs.length = 29) : (loadVar stT ⟨b, 0, none⟩).run Try.prog w = .ok (.agg vs.toArray) w := by
  obtain ⟨d, hu, hr⟩ := Option.map_eq_some_iff.1 und_st
  exact run_loadVar_mid w b 0 stT vs d (fun j v hv => by rw [Nat.zero_add, h.cell]; exact hv) hu hr (by rw [hl]; exact info_st)
theorem step_load {P : Program} {ops : Array Oper} {o : Oper} {a : Act} {w : World} {K : Act → World → Prop} {Q : Exit → Act → World → Prop} {E : Prop}
    (hg : o.guard = none) (t : TypeId) (x : Operand) (hop : o.op = .load t x) (v u : Value) (hx : a.eval x = v) (hr : (Instr.loadAt t v).run P w = .ok u w) (hK : K (a.put o.dst u) w) :
    if Region.wanted o (yielded ops a.tmps) = true then Oper.wp P o a w K Q else E := by
  have hw : Region.wanted o (yielded ops a.tmps) = true := by simp [Region.wanted, hg]
  rw [if_pos hw]
  unfold Oper.wp
  simp [execOp, hop, hx, hr, Result.andThen]
  exact hK
theorem step_store_same {P : Program} {ops : Array Oper} {o : Oper} {a : Act} {w : World} {K : Act → World → Prop} {Q : Exit → Act → World → Prop} {E : Prop}
    (hg : o.guard = none) (t : TypeId) (x y : Operand) (hop : o.op = .store t x y) (b : Nat) (vs : List Value) (hx : a.eval x = .pointer (some ⟨b, 0, none⟩)) (hy : a.eval y = .agg vs.toArray)
    (hc : Cut b vs t w) (hi : (P.info? t).map (·.size) = some vs.length) (h1 : ∀ v ∈ vs, v.oneCell' = true) (hK : K (a.put o.dst undef) w) :
    if Region.wanted o (yielded ops a.tmps) = true then Oper.wp P o a w K Q else E := by
  have hw : Region.wanted o (yielded ops a.tmps) = true := by simp [Region.wanted, hg]
  rw [if_pos hw]
  refine wp_store_mid (P := P) t x y hop b 0 vs.toArray hx hy (fun j hj => ⟨by rw [Nat.zero_add, hc.cell, List.getElem?_eq_getElem (by simpa using hj)]; rfl, by rw [Nat.zero_add]; exact hc.frozen j⟩) (by simpa using hi) (all_oneCell_toArray h1) ?_
  rw [show vs.toArray.toList = vs from rfl, setCells_self b vs 0 w (fun j hj => by rw [Nat.zero_add, hc.cell, List.getElem?_eq_getElem hj])]
  exact hK
set_option maxHeartbeats 2000000 in
theorem unpack_calls (W : World) (a : Option Addr) (n cap : Nat) (l : Nm) (h : Bytes W a n cap l) (hn : n ≤ 1000000000) :
    Calls Try.prog 21 #[.slice a n cap] W fun r W' => ∃ vs, r = .returned (.tuple #[.agg vs.toArray, .int .i64 (unB l).2]) ∧ vs.length = 29 ∧ stateH W' vs (unB l).1 ∧ Below W.heap.size W W' := by
  have HB := Lib.hid h
  have HN := Lib.hid hn
  clear h hn
  go_enter Try.func21, Try.ntmps21
  go_upto_region 1 with fail
  obtain ⟨w0, rb, hw0, hrb, hk0, hb0⟩ : ∃ w0 rb, W.alloc (.cells #[.slice none 0 0, .slice none 0 0, .int .i64 0, .string ⟨#[]⟩, .slice none 0 0, .slice none 0 0, .slice none 0 0, .slice none 0 0, .slice none 0 0, .int .i64 0, .int .i64 0, .int .i64 0, .string ⟨#[]⟩, .slice none 0 0, .int .i64 0, .int .i64 0, .int .i64 0, .int .i64 0, .string ⟨#[]⟩, .slice none 0 0, .int .i64 0, .slice none 0 0, .int .i64 0, .int .i64 0, .int .i64 0, .bool false, .bool false, .bool false, .int .i64 0] stT) = w0 ∧ W.heap.size = rb ∧ Cut rb stZ stT w0 ∧ Below W.heap.size W w0 := ⟨_, _, rfl, rfl, heap_alloc_new W _, (Below.refl W.heap.size W).alloc (Nat.le_refl _) _⟩
  rw [hw0, hrb]
  have HK0 := Lib.hid hk0
  have HB0 := Lib.hid hb0
  have HRb := Lib.hid hrb
  clear hw0 hk0 hb0 hrb
  go_wp2_with fail
  refine (open_in_calls w0 a n cap l (HB.out.below stable_byteAt HB0.out) HN.out).mono ?_
  rintro r w1 ⟨q, rfl, hq1, hq2, hrd, hb1⟩
  have HQ := Lib.hid hq2
  have HQ1 := Lib.hid hq1
  have HRd := Lib.hid hrd
  have HB1 := Lib.hid hb1
  clear hq1 hq2 hrd hb1
  go_upto_region 3 with fail
  obtain ⟨w3, F, hw3, hF, hk, hg, hb3, hs3⟩ : ∃ w3 F, (w1.alloc (.cells #[.slice none 0 0, .pointer (some ⟨q, 0, none⟩), .int .i64 0] wireT)).alloc (.cells #[.slice none 0 0, .slice none 0 0, .int .i64 0, .string ⟨#[]⟩, .slice none 0 0, .slice none 0 0, .slice none 0 0, .slice none 0 0, .slice none 0 0, .int .i64 0, .int .i64 0, .int .i64 0, .string ⟨#[]⟩, .slice none 0 0, .int .i64 0, .int .i64 0, .int .i64 0, .int .i64 0, .string ⟨#[]⟩, .slice none 0 0, .int .i64 0, .slice none 0 0, .int .i64 0, .int .i64 0, .int .i64 0, .bool false, .bool false, .bool false, .int .i64 0] stT) = w3 ∧ w1.heap.size = F ∧
      w3.heap[F]? = some (.cells #[.slice none 0 0, .pointer (some ⟨q, 0, none⟩), .int .i64 0] wireT) ∧ Cut (F + 1) stZ stT w3 ∧ Below w1.heap.size w1 w3 ∧ w3.heap.size = F + 2 := by
    refine ⟨_, _, rfl, rfl, ?_, ?_, ?_, ?_⟩
    · exact (Below.heap_alloc _ _ _ (by rw [World.size_alloc]; omega)).trans (heap_alloc_new w1 _)
    · have := heap_alloc_new (w1.alloc (.cells #[.slice none 0 0, .pointer (some ⟨q, 0, none⟩), .int .i64 0] wireT)) (.cells #[.slice none 0 0, .slice none 0 0, .int .i64 0, .string ⟨#[]⟩, .slice none 0 0, .slice none 0 0, .slice none 0 0, .slice none 0 0, .slice none 0 0, .int .i64 0, .int .i64 0, .int .i64 0, .string ⟨#[]⟩, .slice none 0 0, .int .i64 0, .int .i64 0, .int .i64 0, .int .i64 0, .string ⟨#[]⟩, .slice none 0 0, .int .i64 0, .slice none 0 0, .int .i64 0, .int .i64 0, .int .i64 0, .bool false, .bool false, .bool false, .int .i64 0] stT)
      rw [World.size_alloc] at this
      exact this
    · have hb := (Below.refl w1.heap.size w1).alloc (Nat.le_refl _) (.cells #[.slice none 0 0, .pointer (some ⟨q, 0, none⟩), .int .i64 0] wireT)
      exact hb.alloc hb.size _
    · rw [World.size_alloc, World.size_alloc]
  rw [hw3, hF]
  have hqF : q < F := by have := HQ.out; omega
  have HR3 : Hid (RkI F q l 0 w3) := ⟨hk, ⟨l, 0, rdin_keep HRd.out (fun k hk2 => hb3.block k (by have := HQ.out; omega)), fun _ => ⟨rfl, rfl⟩⟩, hqF⟩
  have HG3 := Lib.hid hg
  have HRbl : Hid (rb < w0.heap.size) := HK0.out.lt
  have hrb1 : rb < w1.heap.size := Nat.lt_of_lt_of_le HRbl.out HB1.out.size
  have HK3 : Hid (Cut rb stZ stT w3) := (hb3.block rb hrb1).trans ((HB1.out.block rb HRbl.out).trans HK0.out)
  have HBW : Hid (Below W.heap.size W w3) := HB0.out.trans ((HB1.out.mono HB0.out.size).trans (hb3.mono (Nat.le_trans HB0.out.size HB1.out.size)))
  have HFW : Hid (W.heap.size ≤ q) := Nat.le_trans HB0.out.size HQ1.out
  have HRq : Hid (rb < q) := Nat.lt_of_lt_of_le HRbl.out HQ1.out
  have HQF := Lib.hid hqF
  clear hw3 hF hk hg hb3 hs3 hqF hrb1
  go_wp2_with fail
  refine (all_rk w3 F q l 0 (F + 1) 0 stZ stT HR3.out HG3.out (fun j hj => by rw [Nat.zero_add, List.getElem?_eq_getElem hj]) (Nat.lt_succ_self F) rfl).mono ?_
  rintro r w4 ⟨rfl, hr, ⟨vs, hvl, hc, hH⟩, hu⟩
  rw [splice_full hvl] at hc
  obtain ⟨⟨d, l1, e1⟩, hd⟩ : ∃ x, stateC.dec l 0 = x := ⟨_, rfl⟩
  rw [hd] at hr hH
  have HU : Hid (unB l = if mustE (decide (l1 = [])) e1 14 ≠ 0 then (zeroD, mustE (decide (l1 = [])) e1 14) else (d, 0)) := by
    show unB l = _
    unfold unB
    rw [hd]
  have HR4 : Hid (RkI F q l1 e1 w4) := hr
  have HC4 := Lib.hid hc
  have HH4 : Hid (stateH w4 vs d) := hH
  have HVl : Hid (vs.length = 29) := hvl
  have HK4 : Hid (Cut rb stZ stT w4) := (hu.block rb HK3.out.lt (by have := HRq.out; have := HQF.out; omega) (by have := HRq.out; omega) (by have := HRq.out; have := HQF.out; omega)).trans HK3.out
  have HBW4 : Hid (Below W.heap.size W w4) := HBW.out.trans ⟨hu.os, hu.tape, hu.output, hu.size, fun k hk => hu.block k (Nat.lt_of_lt_of_le hk HBW.out.size) (by have := HFW.out; have := HQF.out; omega) (by have := HFW.out; omega) (by have := HFW.out; have := HQF.out; omega)⟩
  clear hr hc hH hu hd hvl
  go_upto_region 4 with fail
  go_cut [19] from 12 to 19 (fun s19 wx => RkI F q l1 (mustE (decide (l1 = [])) e1 14) wx ∧ Cut (F + 1) vs stT wx ∧ Cut rb stZ stT wx ∧ stateH wx vs d ∧ Below W.heap.size W wx)
  case first =>
    obtain ⟨⟨c0, c1, c2⟩, f0, f1, f2⟩ := three HR4.out.k
    obtain ⟨l2, e2, hrd, hle⟩ := HR4.out.r
    have HRd2 := Lib.hid hrd
    have HLe := Lib.hid hle
    clear hrd hle
    go_wp2_with fail
    refine (rd_left_calls w4 q l2 e2 HRd2.out.toRd).mono ?_
    rintro r w' ⟨rfl, rfl⟩
    have HM : Hid (mustE (decide (l2 = [])) e1 14 = mustE (decide (l1 = [])) e1 14) := by
      show _ = _
      by_cases he : e1 = 0
      · rw [(HLe.out he).1]
      · rw [mustE_stop he, mustE_stop he]
    have hfin : ∀ wx, RkI F q l1 (mustE (decide (l2 = [])) e1 14) wx → (∀ k, k ≠ F → wx.heap[k]? = w4.heap[k]?) → (∀ g, RUp F q g w4 wx) → RkI F q l1 (mustE (decide (l1 = [])) e1 14) wx ∧ Cut (F + 1) vs stT wx ∧ Cut rb stZ stT wx ∧ stateH wx vs d ∧ Below W.heap.size W wx := by
      intro wx h1 h2 h3
      rw [HM.out] at h1
      refine ⟨h1, (h2 _ (by omega)).trans HC4.out, (h2 _ (by have := HRq.out; have := HQF.out; omega)).trans HK4.out, state_st.keep HH4.out (fun k c t fr hk ht => h2 k (fun e => ?_)), HBW4.out.trans ⟨(h3 0).os, (h3 0).tape, (h3 0).output, (h3 0).size, fun k hk => h2 k (by have := HFW.out; have := HQF.out; omega)⟩⟩
      subst e
      have := hk.symm.trans HR4.out.k
      injection this with this
      injection this with _ this _
      rw [this] at ht
      cases ht
    have HFin := Lib.hid hfin
    clear hfin
    by_cases hl : l2 = []
    · have t1 : ((l2.length : Int) == 0) = true := by rw [hl]; rfl
      have t2 : decide ((l2.length : Int) = 0) = true := by rw [hl]; rfl
      have t3 : (l2.length : Int) = 0 := by rw [hl]; rfl
      have HT : Hid (decide (l2 = []) = true) := decide_eq_true hl
      clear hl
      go_wp2_with fail
      refine (must_calls w4 F q l1 e1 true 14 HR4.out).mono ?_
      rintro r w5 ⟨rfl, hr5, hu5, hn5⟩
      rw [← HT.out] at hr5
      have HG5 := Lib.hid (HFin.out w5 hr5 hn5 hu5)
      clear hr5 hu5 hn5 t1 t2 t3 c0 c1 c2 f0 f1 f2
      go_wp2_with fail
      go_meet
      exact HG5.out
    · have hlp : 0 < l2.length := List.length_pos_iff.2 hl
      have t1 : ((l2.length : Int) == 0) = false := by rw [beq_eq_false_iff_ne]; omega
      have t2 : decide ((l2.length : Int) = 0) = false := decide_eq_false (by omega)
      have t3 : ¬ (l2.length : Int) = 0 := by omega
      have HT : Hid (decide (l2 = []) = false) := decide_eq_false hl
      clear hl
      go_wp2_with fail
      refine (must_calls w4 F q l1 e1 false 14 HR4.out).mono ?_
      rintro r w5 ⟨rfl, hr5, hu5, hn5⟩
      rw [← HT.out] at hr5
      have HG5 := Lib.hid (HFin.out w5 hr5 hn5 hu5)
      clear hr5 hu5 hn5 t1 t2 t3 c0 c1 c2 f0 f1 f2
      go_wp2_with fail
      go_meet
      exact HG5.out
  case rest =>
    obtain ⟨hr, hc, hk, hH, hb⟩ := hcut
    generalize mustE (decide (l1 = [])) e1 14 = e3 at *
    have HR5 := Lib.hid hr
    have HC5 := Lib.hid hc
    have HK5 := Lib.hid hk
    have HH5 := Lib.hid hH
    have HB5 := Lib.hid hb
    clear hr hc hk hH hb
    obtain ⟨⟨c0, c1, c2⟩, f0, f1, f2⟩ := three HR5.out.k
    by_cases he : e3 = 0
    · subst he
      have HU2 : Hid (unB l = (d, 0)) := by show _ = _; rw [HU.out, if_neg (by decide)]
      go_wp2_with fail
      refine (wrong_calls wc F 0 c2).mono ?_
      rintro r w' ⟨rfl, rfl⟩
      rw [show decide ((0 : Int) ≠ 0) = false from rfl]
      clear c0 c1 c2 f0 f1 f2
      obtain ⟨dd, hdu, hdr⟩ := Option.map_eq_some_iff.1 und_st
      have HDu := Lib.hid hdu
      have HDr := Lib.hid hdr
      clear hdu hdr
      have HRg : Hid (wc.rangeAt (F + 1) 0 vs) := fun j v hv => by rw [Nat.zero_add, HC5.out.cell]; exact hv
      go_upto_region 7 with fail
      go_wp2_with (first | (refine wpList_load_mid rfl stT (.tmp 5) rfl (F + 1) 0 rfl vs dd HRg.out HDu.out HDr.out (by rw [HVl.out]; exact info_st) ?_) | (refine wpList_store_mid rfl stT (.tmp 2) (.tmp 27) rfl rb 0 vs.toArray rfl rfl (there_state HK5.out _ (by rw [List.size_toArray, HVl.out]; exact Nat.le_refl _)) (by rw [List.size_toArray, HVl.out]; exact info_st) (all_oneCell_toArray (state_1.one HH5.out)) ?_))
      have HS := Lib.hid (set_state HK5.out (vs := vs) (by rw [HVl.out]; rfl))
      refine bodyPost_ret (results_cell2 rfl _ _ _ rb (.agg vs.toArray) rfl (loadv_state HS.out HVl.out)) rfl ?_
      rw [HU2.out]
      have hg := Sl.setCells_grown rb vs 0 wc
      refine ⟨vs, rfl, HVl.out, state_st.keep HH5.out (fun k c t fr hk ht => ?_), ?_⟩
      · by_cases e : k = rb
        · subst e
          have := hk.symm.trans HK5.out
          injection this with this
          injection this with _ this _
          rw [this] at ht
          cases ht
        · exact hg.block k (Array.getElem?_eq_some_iff.1 hk).1 (fun e2 => e (by have := Option.some.inj e2; omega))
      · exact HB5.out.grown hg HB5.out.size (fun j hj => by injection hj with hj; have := HRb.out; omega)
    · have HE := Lib.hid he
      have HU2 : Hid (unB l = (zeroD, e3)) := by show _ = _; rw [HU.out, if_pos HE.out]
      have t1 : decide (e3 ≠ 0) = true := decide_eq_true he
      clear he
      go_wp2_with fail
      refine (wrong_calls wc F e3 c2).mono ?_
      rintro r w' ⟨rfl, rfl⟩
      rw [t1]
      clear t1
      go_upto_region 6 with fail
      have c2' : wc.drew.cell? ⟨F, 2, none⟩ = some (.int .i64 e3) := c2
      have HC2 := Lib.hid c2'
      clear c0 c1 c2 f0 f1 f2 c2'
      refine wp_region_any (by kernel_rfl) ?_
      change wpAny _ _ _ _ _ _ _ (World.drew _)
      refine wpAny_take (i := 0) (v := .agg stZ.toArray) rfl (by kernel_rfl) (by kernel_rfl) (by kernel_rfl) (fun _ _ _ h => h) (Or.inl ⟨by rfl, ?_⟩) ?_
      · intro w
        go_simp
      refine wpAny_take (i := 1) (v := .pointer (some ⟨F, 0, none⟩)) rfl (by kernel_rfl) (by kernel_rfl) (by kernel_rfl) (fun _ _ _ h => h) (Or.inl ⟨by rfl, ?_⟩) ?_
      · intro w
        rfl
      refine wpAny_take (i := 2) (v := .pointer (some ⟨F, 0, none⟩)) rfl (by kernel_rfl) (by kernel_rfl) (by kernel_rfl) (fun _ _ _ h => h) (Or.inl ⟨by rfl, ?_⟩) ?_
      · intro w
        rfl
      refine wpAny_take (i := 3) (v := .pointer (some ⟨F, 2, none⟩)) rfl (by kernel_rfl) (by kernel_rfl) (by kernel_rfl) (fun _ _ _ h => h) (Or.inl ⟨by rfl, ?_⟩) ?_
      · intro w
        rfl
      simp only [Act.put, List.getElem_toArray, List.getElem_cons_zero, List.getElem_cons_succ, List.setIfInBounds_toArray, List.set_cons_succ, List.set_cons_zero]
      refine wpAny_ready (rs := [4, 5]) (by kernel_rfl) (by simp) ?_
      refine AllReady.cons rfl (fun K hK => ?_) (AllReady.cons rfl (fun K hK => ?_) AllReady.nil)
      · refine step_load (by kernel_rfl) 42 (.tmp 25) (by kernel_rfl) (.pointer (some ⟨F, 2, none⟩)) (.int .i64 e3) (by kernel_rfl) (load_errno HC2.out) ?_
        refine hK _ _ ?_
        clear hK K
        simp only [Act.put, List.getElem_toArray, List.getElem_cons_zero, List.getElem_cons_succ, List.setIfInBounds_toArray, List.set_cons_succ, List.set_cons_zero]
        refine wpAny_ready (rs := [5]) (by kernel_rfl) (by simp) ?_
        refine AllReady.cons rfl (fun K hK => ?_) AllReady.nil
        refine step_store_same (by kernel_rfl) stT (.tmp 2) (.tmp 22) (by kernel_rfl) rb stZ (by kernel_rfl) (by kernel_rfl) (show Cut rb stZ stT wc.drew from HK5.out) info_st (state_1.one (zero_state wc)) ?_
        refine hK _ _ ?_
        clear hK K
        simp only [Act.put, List.getElem_toArray, List.getElem_cons_zero, List.getElem_cons_succ]
        refine wpAny_take (i := 6) (v := .int .i64 e3) rfl (by kernel_rfl) (by kernel_rfl) (by kernel_rfl) (fun _ _ _ h => h) (Or.inl ⟨by rfl, ?_⟩) ?_
        · intro w
          rfl
        simp only [Act.put, List.getElem_toArray, List.getElem_cons_zero, List.getElem_cons_succ, List.setIfInBounds_toArray, List.set_cons_succ, List.set_cons_zero]
        refine wpAny_done (by kernel_rfl) ?_ _
        go_wp2_with fail
        refine bodyPost_ret (results_cell2 rfl _ _ _ rb (.agg stZ.toArray) rfl (loadv_state (show Cut rb stZ stT wc.drew from HK5.out) rfl)) rfl ?_
        rw [HU2.out]
        exact ⟨stZ, rfl, rfl, zero_state _, HB5.out.trans ⟨rfl, rfl, rfl, Nat.le_refl _, fun _ _ => rfl⟩⟩
      · refine step_store_same (by kernel_rfl) stT (.tmp 2) (.tmp 22) (by kernel_rfl) rb stZ (by kernel_rfl) (by kernel_rfl) (show Cut rb stZ stT wc.drew from HK5.out) info_st (state_1.one (zero_state wc)) ?_
        refine hK _ _ ?_
        clear hK K
        simp only [Act.put, List.getElem_toArray, List.getElem_cons_zero, List.getElem_cons_succ]
        refine wpAny_ready (rs := [4]) (by kernel_rfl) (by simp) ?_
        refine AllReady.cons rfl (fun K hK => ?_) AllReady.nil
        refine step_load (by kernel_rfl) 42 (.tmp 25) (by kernel_rfl) (.pointer (some ⟨F, 2, none⟩)) (.int .i64 e3) (by kernel_rfl) (load_errno HC2.out) ?_
        refine hK _ _ ?_
        clear hK K
        simp only [Act.put, List.getElem_toArray, List.getElem_cons_zero, List.getElem_cons_succ, List.setIfInBounds_toArray, List.set_cons_succ, List.set_cons_zero]
        refine wpAny_take (i := 6) (v := .int .i64 e3) rfl (by kernel_rfl) (by kernel_rfl) (by kernel_rfl) (fun _ _ _ h => h) (Or.inl ⟨by rfl, ?_⟩) ?_
        · intro w
          rfl
        simp only [Act.put, List.getElem_toArray, List.getElem_cons_zero, List.getElem_cons_succ, List.setIfInBounds_toArray, List.set_cons_succ, List.set_cons_zero]
        refine wpAny_done (by kernel_rfl) ?_ _
        go_wp2_with fail
        refine bodyPost_ret (results_cell2 rfl _ _ _ rb (.agg stZ.toArray) rfl (loadv_state (show Cut rb stZ stT wc.drew from HK5.out) rfl)) rfl ?_
        rw [HU2.out]
        exact ⟨stZ, rfl, rfl, zero_state _, HB5.out.trans ⟨rfl, rfl, rfl, Nat.le_refl _, fun _ _ => rfl⟩⟩
end Go.Proofs.Ytmhofdoifgfjfaa
