/-
  Syntax: a function; which compound is taken. Conditions: as each contract says.
  Syntax: what is nested. Conditions: as each contract says.
  Syntax: a script. Conditions: as each contract says.
  Syntax: what the deferred function does behind a panic, and behind none. Conditions: as each contract says.
  Syntax: what the lexer's tokens are like, plainly: the last one an End, an Io has digits; errors are no OK. Conditions: none.
  Syntax: Parse. Conditions: as each contract says.
  Syntax: a tree that is read. Conditions: as each law says.
  Syntax: the document's example. Conditions: as the contract says.
-/
import Derived.Test.YtiklkhbfilbpeaaGreatDoorSkGSyF
import Derived.Test.YtiklkhbfilbpeaaGreatDoorSkGSyD
import Derived.Test.YtiklkhbfilbpeaaGreatDoorSkGSyE
import Derived.Test.YtiklkhbfilbpeaaGreatDoorSkGSyB
set_option linter.unusedVariables false
set_option linter.unusedSimpArgs false
set_option maxRecDepth 100000
namespace Go.Proofs.YtiklkhbfilbpeaaGreatDoor.Sx
open Go.RowKit Base Lx Sy
set_option maxHeartbeats 4000000 in
theorem function_calls {nest : S → Sy.P Nat} {d : Nat} (E : Env nest d) (W : World) (b B : Nat) (P : Nat → Prop) (v : Value) (s : S) (h : Rd W b B P v s d) (hP : ∀ g, W.heap.size ≤ g → P g) (hF : ph s ≤ 80000) (ln : Nat) :
    Calls Tryz.prog 137 #[.pointer (some ⟨b, 0, none⟩), .agg #[.int .i64 0, .string ⟨#[]⟩, .bool false, .slice none 0 0, .int .i64 0, .slice none 0 0, .slice none 0 0, .int .i64 (ln : Int)]] W (PostN W b B P v d (funcM nest ln s)) := by
  have HR := Lib.hid h
  have HE : Hid (Env nest d) := E
  have HP : Hid (∀ g, W.heap.size ≤ g → P g) := hP
  have HPh : Hid (ph s + 0 ≤ 80000) := hF
  have HV : Hid (∀ g, v.ownBlock = some g → B ≤ g) := fun g hg => (h.own g hg).1
  obtain ⟨n0, hn0⟩ : ∃ n0 : Nd, n0 = { k := 0, ln := ln } := ⟨_, rfl⟩
  have HN0 := Lib.hid hn0
  obtain ⟨w1, w2, hw1, hw2, hz1, hm2, hb2⟩ := Mid2.start h n0 (by rw [hn0]) (by rw [hn0]) (by rw [hn0])
  obtain ⟨N, hN⟩ : ∃ N, W.heap.size = N := ⟨_, rfl⟩
  have hw1' : W.alloc (.cells #[.int .i64 0, .string ⟨#[]⟩, .bool false, .slice none 0 0, .int .i64 0, .slice none 0 0, .slice none 0 0, .int .i64 (ln : Int)] ndT) = w1 := by rw [hn0] at hw1; exact hw1
  rw [hN] at hm2 hz1
  have HW1 := Lib.hid hw1'
  have HW2 := Lib.hid hw2
  have HZ1 := Lib.hid hz1
  have HNn := Lib.hid hN
  have HM2 := Lib.hid hm2
  obtain ⟨Z, hZ⟩ : ∃ Z, funcM nest ln s = Z := ⟨_, rfl⟩
  have HZm := Lib.hid hZ
  rw [hZ]
  clear h hP hF E hn0 hw1 hw1' hw2 hz1 hN hm2 hb2 hZ
  go_enter Tryz.func137, Tryz.ntmps137
  go_upto_region 1 with fail
  rw [HW1.out, HW2.out, HNn.out]
  have HZ3 : Hid (Z = bd (rawM s) fun t s => bd (needM 2 [[40]] s) fun _ s => bd (needM 2 [[41]] s) fun _ s => let s := lns s; if isComp s = false then er 20 s else bd (nest s) fun k s => .ok ({ k := 13, t := t, ks := [k], ln := ln }, s)) := HZm.out.symm
  obtain ⟨⟨x0, x1, x2, x3, x4, x5, x6, x7⟩, z0, z1, z2, z3, z4, z5, z6, z7⟩ := nd_cells HM2.out.bx.box
  obtain ⟨n4, hn4⟩ : ∃ n1 : Nd, n1 = { n0 with k := 13 } := ⟨_, rfl⟩
  have HN4 := Lib.hid hn4
  obtain ⟨w4, hw4, hm4⟩ := HM2.out.set 0 (.int .i64 13) n4 (by rw [hn4]; rfl) (by rw [hn4]) (by rw [hn4]) (by rw [hn4])
  have HM4 := Lib.hid hm4
  clear hm4 hn4
  go_wp2_with fail
  refine (raw_calls w4 b B _ v s d HM4.out.bx.rd).mono ?_
  rintro r w5 hp
  rcases post_cases hp with ⟨er, hXe, rfl, hb9⟩ | ⟨y, u9, v5, hXy, rfl, he, ht, hr⟩
  · have hz : Z = .error er := by rw [HZ3.out, hXe]; rfl
    exact ⟨rfl, postN_error hz ((HM4.out.belowB HV.out).trans hb9)⟩
  have he' : u9 = .string (str y.1) := he
  subst he'
  have HM5 := Lib.hid (HM4.out.step ht hr)
  have HX5 := Lib.hid hXy
  have HZ5 : Hid (Z = bd (needM 2 [[40]] y.2) fun _ s => bd (needM 2 [[41]] s) fun _ s => let s := lns s; if isComp s = false then er 20 s else bd (nest s) fun k s => .ok ({ k := 13, t := y.1, ks := [k], ln := ln }, s)) := by show _ = _; rw [HZ3.out, hXy]; rfl
  have HPh6 : Hid (ph y.2 + 8 ≤ 80000) := by have hp0 := HPh.out; have h8 := raw_cost y hXy; show _ ≤ _; omega
  clear hp he ht hr hXy
  clear x0 x1 x2 x3 x4 x5 x6 x7 z0 z1 z2 z3 z4 z5 z6 z7
  obtain ⟨⟨x0, x1, x2, x3, x4, x5, x6, x7⟩, z0, z1, z2, z3, z4, z5, z6, z7⟩ := nd_cells HM5.out.bx.box
  obtain ⟨n7, hn7⟩ : ∃ n1 : Nd, n1 = { n4 with t := y.1 } := ⟨_, rfl⟩
  have HN7 := Lib.hid hn7
  obtain ⟨w7, hw7, hm7⟩ := HM5.out.set 1 (.string (str y.1)) n7 (by rw [hn7]; rfl) (by rw [hn7]) (by rw [hn7]) (by rw [hn7])
  have HM7 := Lib.hid hm7
  clear hm7 hn7
  go_wp2_with fail
  refine (need_lit w7 b B _ v5 y.2 d HM7.out.bx.rd 2 [[40]] (by decide)).mono ?_
  rintro r w8 hp
  rcases post_cases hp with ⟨er, hXe, rfl, hb9⟩ | ⟨e, u9, v8, hXy, rfl, he, ht, hr⟩
  · have hz : Z = .error er := by rw [HZ5.out, hXe]; rfl
    exact ⟨rfl, postN_error hz ((HM7.out.belowB HV.out).trans hb9)⟩
  have he' : u9 = .tuple #[] := he
  subst he'
  have HM8 := Lib.hid (HM7.out.step ht hr)
  have HX8 := Lib.hid hXy
  have HZ8 : Hid (Z = bd (needM 2 [[41]] e.2) fun _ s => let s := lns s; if isComp s = false then er 20 s else bd (nest s) fun k s => .ok ({ k := 13, t := y.1, ks := [k], ln := ln }, s)) := by show _ = _; rw [HZ5.out, hXy]; rfl
  have HPh9 : Hid (ph e.2 + 16 ≤ 80000) := by have hp0 := HPh6.out; have h8 := need_cost (by decide) e hXy; show _ ≤ _; omega
  clear hp he ht hr hXy
  clear x0 x1 x2 x3 x4 x5 x6 x7 z0 z1 z2 z3 z4 z5 z6 z7
  go_wp2_with fail
  refine (need_lit w8 b B _ v8 e.2 d HM8.out.bx.rd 2 [[41]] (by decide)).mono ?_
  rintro r w10 hp
  rcases post_cases hp with ⟨er, hXe, rfl, hb9⟩ | ⟨f, u9, v10, hXy, rfl, he, ht, hr⟩
  · have hz : Z = .error er := by rw [HZ8.out, hXe]; rfl
    exact ⟨rfl, postN_error hz ((HM8.out.belowB HV.out).trans hb9)⟩
  have he' : u9 = .tuple #[] := he
  subst he'
  have HM10 := Lib.hid (HM8.out.step ht hr)
  have HX10 := Lib.hid hXy
  have HZ10 : Hid (Z = if isComp (lns f.2) = false then er 20 (lns f.2) else bd (nest (lns f.2)) fun k s => .ok ({ k := 13, t := y.1, ks := [k], ln := ln }, s)) := by show _ = _; rw [HZ8.out, hXy]; rfl
  have HPh11 : Hid (ph f.2 + 24 ≤ 80000) := by have hp0 := HPh9.out; have h8 := need_cost (by decide) f hXy; show _ ≤ _; omega
  clear hp he ht hr hXy
  go_wp2_with fail
  refine (lines_calls w10 b B _ v10 f.2 d HM10.out.bx.rd).mono ?_
  rintro r w12 ⟨rfl, ht12, hr12⟩
  have HM12 := Lib.hid (HM10.out.step ht12 hr12)
  clear ht12 hr12
  have HPh13 : Hid (ph (lns f.2) + 24 ≤ 80000) := by have hp0 := HPh11.out; have h8 := ph_lns f.2; show _ ≤ _; omega
  go_wp2_with fail
  refine (compounds_calls w12 b B _ v10 (lns f.2) d HM12.out.bx.rd).mono ?_
  rintro r w14 ⟨rfl, hb14⟩
  have HM14 := Lib.hid (HM12.out.below hb14)
  clear hb14
  obtain ⟨V, hV⟩ : ∃ V, compVal (lns f.2) = V := ⟨_, rfl⟩
  rw [hV]
  clear hV
  obtain ⟨zc, hzc⟩ : ∃ z, isComp (lns f.2) = z := ⟨_, rfl⟩
  have HZc := Lib.hid hzc
  rw [hzc]
  clear hzc
  cases zc with
  | false =>
    go_wp2_with fail
    have HE15 : Hid (Z = er 20 (lns f.2)) := by show _ = _; rw [HZ10.out, if_pos HZc.out]
    refine (fail_calls w14 b B _ v10 (lns f.2) d HM14.out.bx.rd 20).mono ?_
    rintro r w15 ⟨rfl, hb15⟩
    exact ⟨rfl, postN_error HE15.out ((HM14.out.belowB HV.out).trans (hb15.mono HM14.out.bx.rd.size))⟩
  | true =>
    have HZ15 : Hid (Z = bd (nest (lns f.2)) fun k s => .ok ({ k := 13, t := y.1, ks := [k], ln := ln }, s)) := by show _ = _; rw [HZ10.out, if_neg (by rw [show isComp (lns f.2) = true from HZc.out]; decide)]
    go_wp2_with fail
    refine (HE.out.ih w14 b B _ v10 (lns f.2) HM14.out.bx.rd (HM14.out.free HP.out) (by have := HPh13.out; omega) (.inl HZc.out)).mono ?_
    rintro r w16 hp
    rcases post_cases hp with ⟨er, hXe, rfl, hb9⟩ | ⟨x, u9, v16, hXy, rfl, he, ht, hr⟩
    · have hz : Z = .error er := by rw [HZ15.out, hXe]; rfl
      exact ⟨rfl, postN_error hz ((HM14.out.belowB HV.out).trans hb9)⟩
    have he' : u9 = .int .i64 (x.1 : Int) := he
    subst he'
    have HM16 := Lib.hid (HM14.out.step ht hr)
    have HX16 := Lib.hid hXy
    have HZ16 : Hid (Z = .ok ({ k := 13, t := y.1, ks := [x.1], ln := ln }, x.2)) := by show _ = _; rw [HZ15.out, hXy]; rfl
    have HPh17 : Hid (ph x.2 + 0 ≤ 80000) := by have hp0 := HPh13.out; have h8 := HE.out.cost (lns f.2) (.inl HZc.out) x hXy; show _ ≤ _; omega
    clear hp he ht hr hXy
    obtain ⟨wL18, w18, hwL18, hw18, hx8, hm9⟩ := HM16.out.new_k x.1
    have hwL18' : w16.alloc (.cells #[.int .i64 (x.1 : Int)] inT) = wL18 := hwL18
    obtain ⟨n18, hn2⟩ : ∃ n2 : Nd, { n7 with ks := [x.1] } = n2 := ⟨_, rfl⟩
    rw [hn2] at hm9
    have HN2 := Lib.hid hn2
    have HM18 := Lib.hid hm9
    obtain ⟨⟨x0, x1, x2, x3, x4, x5, x6, x7⟩, z0, z1, z2, z3, z4, z5, z6, z7⟩ := nd_cells hx8
    clear hwL18 hm9 hn2 hx8
    have HN18 := Lib.hid HN2.out
    clear HN2
    go_upto_region 10 with fail
    clear x0 x1 x2 x3 x4 x5 x6 x7 z0 z1 z2 z3 z4 z5 z6 z7
    obtain ⟨⟨x0, x1, x2, x3, x4, x5, x6, x7⟩, z0, z1, z2, z3, z4, z5, z6, z7⟩ := nd_cells HM18.out.bx.box
    have HOk : Hid (Z = .ok (n18, x.2)) := by show _ = _; (rw [HZ16.out, ← HN18.out, HN7.out, HN4.out, HN0.out]; try rfl)
    obtain ⟨wF, hwF, hx99, hr99, ht99, hd99⟩ := HM18.out.fin
    have HF99 : Hid (Rows wF (fun g => W.heap.size ≤ g) n18 _ _ _ ∧ Turn b v W _ wF ∧ Rd wF b B P _ x.2 d) := ⟨hr99, ht99, hd99⟩
    obtain ⟨⟨y0, y1, y2, y3, y4, y5, y6, y7⟩, _⟩ := nd_cells hx99
    obtain ⟨⟨r0, r1, r2, r3, r4, r5, r6, r7⟩, q0, q1, q2, q3, q4, q5, q6, q7⟩ := nd_cells HM18.out.res
    clear hx99 hr99 ht99 hd99
    go_wp2_with fail
    refine bodyPost_ret (v := .agg (ndA n18 (.slice none 0 0) (.slice none 0 0) (.slice (some ⟨w16.heap.size, 0, none⟩) 1 1))) (by simp [results, Tryz.results137, go_sem, y0, y1, y2, y3, y4, y5, y6, y7, ndA]) rfl ?_
    rw [show Z = .ok (n18, x.2) from HOk.out]
    exact ⟨_, _, _, _, rfl, HF99.out.1, HF99.out.2.1, HF99.out.2.2⟩
abbrev agN (ln : Nat) : Value := .agg #[.int .i64 0, .string ⟨#[]⟩, .bool false, .slice none 0 0, .int .i64 0, .slice none 0 0, .slice none 0 0, .int .i64 (ln : Int)]
theorem pipe_c {nest : S → Sy.P Nat} {d : Nat} (E : Env nest d) : PipeC nest d := fun W b B P v s h hP hF => pipeline_calls E (fun W b B P v s h hP hF => command_calls E W b B P v s h hP hF) W b B P v s h hP hF
theorem andor_c {nest : S → Sy.P Nat} {d : Nat} (E : Env nest d) : AndorC nest d := fun W b B P v s h hP hF => andor_calls E (pipe_c E) W b B P v s h hP hF
theorem list_c {nest : S → Sy.P Nat} {d : Nat} (E : Env nest d) : ListC nest d := fun W b B P v s em h hP hF => list_calls E (andor_c E) W b B P v s h hP hF em
theorem body_c {nest : S → Sy.P Nat} {d : Nat} (E : Env nest d) : BodyC nest d := fun W b B P v s h hP hF => body_calls E (list_c E) W b B P v s h hP hF
theorem item_c {nest : S → Sy.P Nat} {d : Nat} (E : Env nest d) : ItemC nest d := fun W b B P v s h hP hF => item_calls E (list_c E) W b B P v s h hP hF
/-- The compound that is next, by its contract. -/
theorem comp_calls {nest : S → Sy.P Nat} {d : Nat} (E : Env nest d) (W : World) (b B : Nat) (P : Nat → Prop) (v : Value) (s : S) (h : Rd W b B P v s d) (hP : ∀ g, W.heap.size ≤ g → P g) (hF : ph s ≤ 80000) (hc : isComp s = true) (ln : Nat) :
    ∃ f, compVal s = fnV f ∧ (∃ fn, Tryz.prog.funcs[f]? = some fn ∧ (fn.name == "runtime.NumGoroutine") = false ∧ fn.body.isNone = false) ∧ Calls Tryz.prog f #[.pointer (some ⟨b, 0, none⟩), agN ln] W (PostN W b B P v d (compM nest ln s)) := by
  have h4 := comp_k hc
  unfold compVal compM
  by_cases h0 : isM 2 [[40]] s = true
  · rw [if_pos h0, if_pos h0]
    exact ⟨_, rfl, ⟨_, Tryz.func130, by kernel_rfl, by kernel_rfl⟩, sub_calls E (list_c E) (body_c E) W b B P v s h hP hF h4 ln⟩
  · rw [if_neg h0, if_neg h0]
    have hk : ([[123], [105, 102], [119, 104, 105, 108, 101], [117, 110, 116, 105, 108], [102, 111, 114], [99, 97, 115, 101]] : List Nm).contains (nx s).t = true := by
      unfold isComp at hc
      rw [Bool.or_eq_true, Bool.and_eq_true] at hc
      rcases hc with hc | hc
      · exact absurd hc h0
      · exact hc.1
    simp only [List.contains_cons, List.contains_nil, Bool.or_false, Bool.or_eq_true, beq_iff_eq] at hk
    rcases hk with e | e | e | e | e | e <;> rw [e]
    · exact ⟨_, rfl, ⟨_, Tryz.func125, by kernel_rfl, by kernel_rfl⟩, group_calls E (list_c E) (body_c E) W b B P v s h hP hF h4 ln⟩
    · exact ⟨_, rfl, ⟨_, Tryz.func126, by kernel_rfl, by kernel_rfl⟩, asks_ih E (list_c E) (s.2.length + 1) W b B P v s h hP hF h4 (Nat.lt_succ_self _) ln⟩
    · exact ⟨_, rfl, ⟨_, Tryz.func127, by kernel_rfl, by kernel_rfl⟩, loop_calls E (list_c E) (body_c E) W b B P v s h hP hF h4 ln⟩
    · exact ⟨_, rfl, ⟨_, Tryz.func127, by kernel_rfl, by kernel_rfl⟩, loop_calls E (list_c E) (body_c E) W b B P v s h hP hF h4 ln⟩
    · exact ⟨_, rfl, ⟨_, Tryz.func128, by kernel_rfl, by kernel_rfl⟩, each_calls E (list_c E) (body_c E) W b B P v s h hP hF h4 ln⟩
    · exact ⟨_, rfl, ⟨_, Tryz.func129, by kernel_rfl, by kernel_rfl⟩, cases_calls E (list_c E) (item_c E) W b B P v s h hP hF h4 ln⟩
end Go.Proofs.YtiklkhbfilbpeaaGreatDoor.Sx
set_option linter.unusedVariables false
set_option linter.unusedSimpArgs false
set_option maxRecDepth 100000
namespace Go.Proofs.YtiklkhbfilbpeaaGreatDoor.Sx
open Go.RowKit Base Lx Sy
/-- The reader's depth is another one. -/
theorem Rd.deep {W : World} {b B : Nat} {P : Nat → Prop} {v : Value} {s : S} {d : Nat} (h : Rd W b B P v s d) (e : Nat) (he : e ≤ 40) : Rd (W.setCell ⟨b, 2, none⟩ (.int .i64 (e : Int))) b B P v s e ∧ Turn b v W v (W.setCell ⟨b, 2, none⟩ (.int .i64 (e : Int))) := by
  obtain ⟨u, hbx, htk⟩ := h.box
  have hs := heap_setCell_same W b 2 _ _ (.int .i64 (e : Int)) hbx
  have hg : W.grownBy (W.setCell ⟨b, 2, none⟩ (.int .i64 (e : Int))) (some b) := Sl.setCells_grown b [_] 2 W
  have ht : Turn b v W v (W.setCell ⟨b, 2, none⟩ (.int .i64 (e : Int))) := Turn.of_box hg
  have hbl := ht.belowB h
  refine ⟨⟨⟨u, hs, htk.below hbl⟩, h.bB, h.row.keep (fun g X hv hX => ?_) (fun g X t _ hX hT => turn_rows ht h g X t hX hT), h.ok, he, h.gl.below hbl⟩, ht⟩
  refine hg.block g (Array.getElem?_eq_some_iff.1 hX).1 (fun e' => ?_)
  obtain rfl := Option.some.inj e'
  exact absurd (cells_inj hX hbx) (by decide)
theorem nested_zero : NestIH (nestD 0) 40 := fun W b B P v s h hP hF hc => by
  have HR := Lib.hid h
  have HW : Hid (B ≤ W.heap.size) := h.size
  obtain ⟨u, hbx, _⟩ := h.box
  obtain ⟨⟨c0, c1, c2⟩, f0, f1, f2⟩ := yr_cells hbx
  clear h hP hF hc hbx
  go_enter Tryz.func113, Tryz.ntmps113
  go_wp2_with fail
  refine (fail_calls W b B P v s 40 HR.out 21).mono ?_
  rintro r w2 ⟨rfl, hb2⟩
  exact ⟨rfl, post_err rfl (hb2.mono HW.out)⟩
/-- Eight cells of a block are stored. -/
theorem set8 (w : World) (N : Nat) (n : Nd) (uw ur uk : Value) (X : Array Value) (hX : X.size = 8) (h : w.heap[N]? = some (.cells X ndT)) : ∃ w9, (((((((w.setCell ⟨N, 0, none⟩ (.int .i64 (n.k : Int))).setCell ⟨N, 1, none⟩ (.string (str n.t))).setCell ⟨N, 2, none⟩ (.bool n.fl)).setCell ⟨N, 3, none⟩ uw).setCell ⟨N, 4, none⟩ (.int .i64 (n.st : Int))).setCell ⟨N, 5, none⟩ ur).setCell ⟨N, 6, none⟩ uk).setCell ⟨N, 7, none⟩ (.int .i64 (n.ln : Int)) = w9 ∧
    w9.heap[N]? = some (.cells (ndA n uw ur uk) ndT) ∧ w.grownBy w9 (some N) := by
  refine ⟨_, rfl, ?_, Sl.setCells_grown N [.int .i64 (n.k : Int), .string (str n.t), .bool n.fl, uw, .int .i64 (n.st : Int), ur, uk, .int .i64 (n.ln : Int)] 0 w⟩
  have := Sl.heap_setCells N ndT [.int .i64 (n.k : Int), .string (str n.t), .bool n.fl, uw, .int .i64 (n.st : Int), ur, uk, .int .i64 (n.ln : Int)] 0 w X.toList (by simpa using h) (by simp [hX])
  refine this.trans ?_
  unfold splice
  simp [hX]
/-- Before the node is put. -/
def NestMid (Z : Sy.P Nat) (w4 : World) (v : Value) (b B : Nat) (P : Nat → Prop) (d N : Nat) (wx : World) : Prop :=
  ∃ (y : Nd × S) (v' uw ur uk : Value), Z = Sy.putM y.1 y.2 ∧ Box w4 v wx b B P v' y.2 (d + 1) N (ndA y.1 uw ur uk) ndT ∧ Rows wx (fun g => w4.heap.size ≤ g) y.1 uw ur uk ∧ ph y.2 ≤ 80000
theorem row_off {w : World} {N : Nat} {X : Array Value} (h : w.heap[N]? = some (.cells X ndT)) {Q : Nat → Prop} {n : Nd} {uw ur uk : Value} (hr : Rows w Q n uw ur uk) {w' : World} (hg : w.grownBy w' (some N)) : Rows w' Q n uw ur uk :=
  hr.keep (fun g Y t _ hY hT => hg.block g (Array.getElem?_eq_some_iff.1 hY).1 (fun e => by
    obtain rfl := Option.some.inj e
    have := cells_inj hY h
    rw [this] at hT
    exact rowT_no.1 hT))
set_option maxHeartbeats 8000000 in
theorem nested_step {nest : S → Sy.P Nat} {d : Nat} (E : Env nest (d + 1)) (hd : d ≤ 39) (nest' : S → Sy.P Nat) (hn : ∀ s, nest' s = if isComp s then bd (compM nest (nx s).ln s) fun x s => bd (redirsM s) fun rs s => Sy.putM { x with rs := rs } s else bd (funcM nest (nx s).ln s) Sy.putM) : NestIH nest' d := fun W b B P v s h hP hF hc => by
  have HR := Lib.hid h
  have HE : Hid (Env nest (d + 1)) := E
  have HP : Hid (∀ g, W.heap.size ≤ g → P g) := hP
  have HF : Hid (ph s ≤ 80000) := hF
  have HV : Hid (∀ g, v.ownBlock = some g → B ≤ g) := fun g hg => (h.own g hg).1
  have HbB : Hid (B ≤ b ∧ B ≤ W.heap.size) := ⟨h.bB, h.size⟩
  obtain ⟨ln, hln⟩ : ∃ ln, (nx s).ln = ln := ⟨_, rfl⟩
  obtain ⟨Z, hZ⟩ : ∃ Z, nest' s = Z := ⟨_, rfl⟩
  have HZ : Hid (Z = if isComp s then bd (compM nest ln s) fun x s => bd (redirsM s) fun rs s => Sy.putM { x with rs := rs } s else bd (funcM nest ln s) Sy.putM) := by show _ = _; rw [← hZ, hn, hln]
  have F3 := fld_tkV3 (nx s)
  rw [hln] at F3
  rw [hZ]
  obtain ⟨hr3, ht3⟩ := h.deep (d + 1) (by omega)
  obtain ⟨w3, hw3⟩ : ∃ w3, W.setCell ⟨b, 2, none⟩ (.int .i64 ((d : Int) + 1)) = w3 := ⟨_, rfl⟩
  have hw3' : W.setCell ⟨b, 2, none⟩ (.int .i64 (((d + 1 : Nat)) : Int)) = w3 := by rw [← hw3]; congr 2
  rw [hw3'] at hr3 ht3
  have HR3 := Lib.hid hr3
  have HT3 := Lib.hid ht3
  have HD := Lib.hid hd
  obtain ⟨u, hbx, _⟩ := h.box
  obtain ⟨⟨c0, c1, c2⟩, f0, f1, f2⟩ := yr_cells hbx
  have e1 : ((d : Int) == 40) = false := by rw [beq_eq_false_iff_ne]; omega
  have e3 : decide ((d : Int) = 40) = false := decide_eq_false (by omega)
  have hd2 : (d : Int) ≤ 39 := by omega
  clear h hP hF hc hbx hln hZ hn E hr3 ht3 hw3' hd
  go_enter Tryz.func113, Tryz.ntmps113
  go_wp2_with fail
  refine (next_calls w3 b B P v s (d + 1) HR3.out).mono ?_
  rintro r w4 ⟨rfl, hb4⟩
  have HR4 := Lib.hid (HR3.out.below hb4)
  have HT4 := Lib.hid (HT3.out.trans (Turn.of_below hb4))
  clear hb4 c0 c1 c2 f0 f1 f2 e1 e3 hw3
  go_upto_region 5 with fail
  obtain ⟨n0, hn0⟩ : ∃ n0 : Nd, n0 = { k := 0, ln := ln } := ⟨_, rfl⟩
  obtain ⟨w5, hw5, hbx5⟩ := Box.start HR4.out (ndA n0 (.slice none 0 0) (.slice none 0 0) (.slice none 0 0)) ndT
  obtain ⟨N, hN⟩ : ∃ N, w4.heap.size = N := ⟨_, rfl⟩
  have hw5' : w4.alloc (.cells #[.int .i64 0, .string ⟨#[]⟩, .bool false, .slice none 0 0, .int .i64 0, .slice none 0 0, .slice none 0 0, .int .i64 (ln : Int)] ndT) = w5 := by rw [hn0] at hw5; exact hw5
  rw [hw5', hN]
  rw [hN] at hbx5
  have HBx5 : Hid (Box w4 v w5 b B (fun g => P g ∧ g ≠ N) v s (d + 1) N #[.int .i64 0, .string ⟨#[]⟩, .bool false, .slice none 0 0, .int .i64 0, .slice none 0 0, .slice none 0 0, .int .i64 (ln : Int)] ndT) := by rw [hn0] at hbx5; exact hbx5
  have HNn := Lib.hid hN
  have HP4 : Hid (∀ g, w4.heap.size ≤ g → P g) := fun g hg => HP.out g (Nat.le_trans HT4.out.size hg)
  clear hw5 hbx5 hw5' hN hn0 F3
  go_wp2_with fail
  refine (compounds_calls w5 b B _ v s (d + 1) HBx5.out.rd).mono ?_
  rintro r w6 ⟨rfl, hb6⟩
  have HBx6 := Lib.hid (HBx5.out.below hb6)
  clear hb6
  obtain ⟨V, hV⟩ : ∃ V, compVal s = V := ⟨_, rfl⟩
  have HV9 := Lib.hid hV
  rw [hV]
  clear hV
  obtain ⟨zc, hzc⟩ : ∃ z, isComp s = z := ⟨_, rfl⟩
  have HZc := Lib.hid hzc
  rw [hzc]
  clear hzc
  have HFree : Hid (∀ x : World, N < x.heap.size → w4.heap.size ≤ x.heap.size → ∀ g, x.heap.size ≤ g → P g ∧ g ≠ N) := fun x h1 h2 g hg => ⟨HP4.out g (Nat.le_trans h2 hg), by omega⟩
  have HBel : Hid (∀ (x : World) (v' : Value), Turn b v w4 v' x → Below B W x) := fun x v' h => (HT4.out.trans h).below HbB.out.1 HV.out HbB.out.2
  go_upto_if 29 with fail
  go_cut [] (fun wx => NestMid Z w4 v b B (fun g => P g ∧ g ≠ N) d N wx)
  case first =>
    cases zc with
    | true =>
      obtain ⟨f, hf, ⟨fn, hf1, hf2, hf3⟩, hcall⟩ := comp_calls HE.out w6 b B _ v s HBx6.out.rd (HFree.out w6 HBx6.out.lt HBx6.out.turn.size) HF.out HZc.out ln
      have hVf : V = fnV f := by rw [← HV9.out]; exact hf
      subst hVf
      have HCall := Lib.hid hcall
      have HZ2 : Hid (Z = bd (compM nest ln s) fun x s => bd (redirsM s) fun rs s => Sy.putM { x with rs := rs } s) := by show _ = _; rw [HZ.out, if_pos HZc.out]
      clear hcall hf
      obtain ⟨⟨x0, x1, x2, x3, x4, x5, x6, x7⟩, z0, z1, z2, z3, z4, z5, z6, z7⟩ := nd_cells HBx6.out.box
      unfold fnV
      have hcf := fun w' => Rg.run_callFunc hf1 hf2 hf3 #[.pointer (some ⟨b, 0, none⟩), .agg #[.int .i64 0, .string ⟨#[]⟩, .bool false, .slice none 0 0, .int .i64 0, .slice none 0 0, .slice none 0 0, .int .i64 (ln : Int)]] w'
      go_wp2_with fail
      refine HCall.out.mono ?_
      rintro r w7 hp
      rcases postN_cases hp with ⟨er, hXe, rfl, hb9⟩ | ⟨y, uw, ur, uk, v7, hXy, rfl, hr7, ht7, hd7⟩
      · have hz : Z = .error er := by rw [HZ2.out, hXe]; rfl
        exact ⟨rfl, post_error hz ((HBel.out w6 v HBx6.out.turn).trans hb9)⟩
      obtain ⟨⟨aw, cw, rfl⟩, ⟨ar, cr, rfl⟩, ⟨ak, ck, rfl⟩⟩ := rowsum hr7
      have HBx7 := Lib.hid (HBx6.out.step ht7 hd7)
      have HRw7 := Lib.hid (hr7.less (Q' := fun g => w4.heap.size ≤ g) (fun g hg _ => Nat.le_trans HBx6.out.turn.size hg))
      have HZ3 : Hid (Z = bd (redirsM y.2) fun rs s => Sy.putM { y.1 with rs := rs } s) := by show _ = _; rw [HZ2.out, hXy]; rfl
      have HPh7 : Hid (ph y.2 + 8 ≤ ph s) := comp_cost HE.out.cost ln s (comp_k HZc.out) y hXy
      clear hp ht7 hr7 hd7 hXy hcf hf1 hf2 hf3 x0 x1 x2 x3 x4 x5 x6 x7 z0 z1 z2 z3 z4 z5 z6 z7
      obtain ⟨⟨x0, x1, x2, x3, x4, x5, x6, x7⟩, z0, z1, z2, z3, z4, z5, z6, z7⟩ := nd_cells HBx7.out.box
      obtain ⟨w8, hw8, hx8, hg8⟩ := set8 w7 N y.1 (.slice aw y.1.ws.length cw) (.slice ar y.1.rs.length cr) (.slice ak y.1.ks.length ck) _ rfl HBx7.out.box
      have HBx8 := Lib.hid (HBx7.out.grown hg8 hx8)
      have HRw8 := Lib.hid (row_off HBx7.out.box HRw7.out hg8)
      go_upto_region 8 with fail
      clear x0 x1 x2 x3 x4 x5 x6 x7 z0 z1 z2 z3 z4 z5 z6 z7 hw8 hx8 hg8
      go_wp2_with fail
      refine (redirs_calls w8 b B _ v7 y.2 (d + 1) HBx8.out.rd).mono ?_
      rintro r w9 hp
      rcases postRs_cases hp with ⟨er, hXe, rfl, hb9⟩ | ⟨q, u9, v9, hXq, rfl, hrow, hnew, ht9, hd9⟩
      · have hz : Z = .error er := by rw [HZ3.out, hXe]; rfl
        exact ⟨rfl, post_error hz ((HBel.out w8 v7 HBx8.out.turn).trans hb9)⟩
      obtain ⟨a9, c9, rfl, _⟩ := ownsRow_slice hrow
      have HBx9 := Lib.hid (HBx8.out.step ht9 hd9)
      have HRw9 := Lib.hid (ht9.keep HBx8.out.rd HRw8.out)
      have HRow9 := Lib.hid hrow
      have HNew9 : Hid (∀ g, Value.ownBlock (.slice a9 q.1.length c9) = some g → w4.heap.size ≤ g) := fun g hg => Nat.le_trans HBx8.out.turn.size (hnew g hg)
      have HZ4 : Hid (Z = Sy.putM { y.1 with rs := q.1 } q.2) := by show _ = _; rw [HZ3.out, hXq]; rfl
      have HPh9 : Hid (ph q.2 ≤ ph y.2) := redirs_cost y.2 q hXq
      clear hp ht9 hd9 hXq hrow hnew
      obtain ⟨⟨x0, x1, x2, x3, x4, x5, x6, x7⟩, z0, z1, z2, z3, z4, z5, z6, z7⟩ := nd_cells HBx9.out.box
      obtain ⟨wa, hwa, hba⟩ := HBx9.out.set 5 (.slice a9 q.1.length c9)
      have hga : w9.grownBy wa (some N) := by rw [← hwa]; exact Sl.setCells_grown N [_] 5 w9
      have HRa := Lib.hid (row_off HBx9.out.box HRw9.out hga)
      have hrowa : wa.ownsRow 0 rrT 4 (.slice a9 q.1.length c9) q.1.length (q.1.flatMap rrC) := own_keep HRow9.out (fun g X hg hX => hga.block g (Array.getElem?_eq_some_iff.1 hX).1 (fun e => by
        obtain rfl := Option.some.inj e
        exact absurd (cells_inj hX HBx9.out.box) (by decide)))
      have HRowa := Lib.hid hrowa
      have HBa : Hid (Box w4 v wa b B (fun g => P g ∧ g ≠ N) v9 q.2 (d + 1) N (ndA { y.1 with rs := q.1 } (.slice aw y.1.ws.length cw) (.slice a9 q.1.length c9) (.slice ak y.1.ks.length ck)) ndT) := hba
      clear hba hga hrowa
      go_wp2_with fail
      go_meet
      exact ⟨({ y.1 with rs := q.1 }, q.2), v9, _, _, _, HZ4.out, HBa.out, ⟨HRa.out.w, HRowa.out, HRa.out.k, HRa.out.qw, HNew9.out, HRa.out.qk⟩, by have := HPh7.out; have := HPh9.out; have := HF.out; show ph q.2 ≤ _; omega⟩
    | false =>
      have HZ2 : Hid (Z = bd (funcM nest ln s) Sy.putM) := by show _ = _; rw [HZ.out, if_neg (by rw [show isComp s = false from HZc.out]; decide)]
      obtain ⟨⟨x0, x1, x2, x3, x4, x5, x6, x7⟩, z0, z1, z2, z3, z4, z5, z6, z7⟩ := nd_cells HBx6.out.box
      go_wp2_with fail
      refine (function_calls HE.out w6 b B _ v s HBx6.out.rd (HFree.out w6 HBx6.out.lt HBx6.out.turn.size) HF.out ln).mono ?_
      rintro r w7 hp
      rcases postN_cases hp with ⟨er, hXe, rfl, hb9⟩ | ⟨y, uw, ur, uk, v7, hXy, rfl, hr7, ht7, hd7⟩
      · have hz : Z = .error er := by rw [HZ2.out, hXe]; rfl
        exact ⟨rfl, post_error hz ((HBel.out w6 v HBx6.out.turn).trans hb9)⟩
      obtain ⟨⟨aw, cw, rfl⟩, ⟨ar, cr, rfl⟩, ⟨ak, ck, rfl⟩⟩ := rowsum hr7
      have HBx7 := Lib.hid (HBx6.out.step ht7 hd7)
      have HRw7 := Lib.hid (hr7.less (Q' := fun g => w4.heap.size ≤ g) (fun g hg _ => Nat.le_trans HBx6.out.turn.size hg))
      have HZ3 : Hid (Z = Sy.putM y.1 y.2) := by show _ = _; rw [HZ2.out, hXy]; rfl
      have HPh7 : Hid (ph y.2 + 8 ≤ ph s) := func_cost HE.out.cost ln s y hXy
      clear hp ht7 hr7 hd7 hXy x0 x1 x2 x3 x4 x5 x6 x7 z0 z1 z2 z3 z4 z5 z6 z7
      obtain ⟨⟨x0, x1, x2, x3, x4, x5, x6, x7⟩, z0, z1, z2, z3, z4, z5, z6, z7⟩ := nd_cells HBx7.out.box
      obtain ⟨w8, hw8, hx8, hg8⟩ := set8 w7 N y.1 (.slice aw y.1.ws.length cw) (.slice ar y.1.rs.length cr) (.slice ak y.1.ks.length ck) _ rfl HBx7.out.box
      have HBx8 := Lib.hid (HBx7.out.grown hg8 hx8)
      have HRw8 := Lib.hid (row_off HBx7.out.box HRw7.out hg8)
      go_wp2_with fail
      go_meet
      exact ⟨y, v7, _, _, _, HZ3.out, HBx8.out, HRw8.out, by have := HPh7.out; have := HF.out; omega⟩
  case rest =>
    obtain ⟨y, v', uw, ur, uk, hz, hbx, hrw, hph⟩ := hcut
    obtain ⟨⟨aw, cw, rfl⟩, ⟨ar, cr, rfl⟩, ⟨ak, ck, rfl⟩⟩ := rowsum hrw
    have HX9 := Lib.hid hz
    have HBc := Lib.hid hbx
    have HRc := Lib.hid hrw
    have HPc := Lib.hid hph
    obtain ⟨hrd, htd⟩ := hbx.rd.deep d (by have := HD.out; omega)
    obtain ⟨wd, hwd⟩ : ∃ wd, wc.setCell ⟨b, 2, none⟩ (.int .i64 (d : Int)) = wd := ⟨_, rfl⟩
    rw [hwd] at hrd htd
    have hgd : wc.grownBy wd (some b) := by rw [← hwd]; exact Sl.setCells_grown b [_] 2 wc
    have hbN : N ≠ b := by have h1 := HBc.out.new; have h2 := HBc.out.old; omega
    have hNd := (hgd.block N HBc.out.lt (fun e => hbN (Option.some.inj e))).trans HBc.out.box
    have HRd : Hid (Rd wd b B P v' y.2 d) := hrd.less (fun g hg _ => hg.1)
    have HTd := Lib.hid ((HT4.out.trans HBc.out.turn).trans htd)
    have HRwd : Hid (Rows wd P y.1 (.slice aw y.1.ws.length cw) (.slice ar y.1.rs.length cr) (.slice ak y.1.ks.length ck)) := (htd.keep hbx.rd hrw).less (fun g hg _ => HP4.out g hg)
    obtain ⟨u, hbx2, _⟩ := hbx.rd.box
    obtain ⟨⟨c0, c1, c2⟩, f0, f1, f2⟩ := yr_cells hbx2
    obtain ⟨⟨x0, x1, x2, x3, x4, x5, x6, x7⟩, _⟩ := nd_cells hNd
    have hd1 : ((d + 1 : Nat) : Int) = (d : Int) + 1 := by omega
    rw [hd1] at c2
    have e4 : (d : Int) + 1 - 1 = (d : Int) := by omega
    clear hz hbx hrw hph hrd htd hgd hNd hbx2 hd1 HBx5 HBx6 HZ
    go_wp2_with fail
    have hput := put_calls wd b B P v' y.2 d HRd.out y.1 _ _ _ HRwd.out (by have := HPc.out; unfold ph at this; omega)
    refine hput.mono ?_
    clear hput
    rintro r w8 hp
    rw [← HX9.out] at hp
    have HP8 := Lib.hid (post_turn HTd.out (HTd.out.below HbB.out.1 HV.out HbB.out.2) hp)
    clear hp
    rcases post_cases HP8.out with ⟨er, hXe, _, _⟩ | ⟨y8, u8, v8, hX8, rfl, he, ht8, hr8⟩
    · exact absurd (HX9.out.symm.trans hXe) (by intro h; cases h)
    · have he' : u8 = .int .i64 (y8.1 : Int) := he
      subst he'
      clear he hX8 ht8 hr8
      go_wp2_with fail
      go_ret
      exact HP8.out
/-- Whatever the depth. -/
theorem env_all : ∀ k, k ≤ 40 → Env (nestD k) (40 - k)
  | 0, _ => ⟨nested_zero, nest_weak 0, nest_cost 0⟩
  | k + 1, hk => by
    have ih := env_all k (by omega)
    rw [show 40 - k = (40 - (k + 1)) + 1 by omega] at ih
    exact ⟨nested_step ih (by omega) _ (fun s => rfl), nest_weak (k + 1), nest_cost (k + 1)⟩
theorem env_top : Env (nestD 40) 0 := env_all 40 (Nat.le_refl _)
end Go.Proofs.YtiklkhbfilbpeaaGreatDoor.Sx
set_option linter.unusedVariables false
set_option linter.unusedSimpArgs false
set_option maxRecDepth 100000
namespace Go.Proofs.YtiklkhbfilbpeaaGreatDoor.Sx
open Go.RowKit Base Lx Sy
def scriptM (s : S) : Sy.P Unit := bd (listM (nestD 40) true s) fun _ s1 => if (nx s1).k ≠ 4 then er 20 s1 else .ok ((), s1)
set_option maxHeartbeats 4000000 in
theorem script_calls (W : World) (b B : Nat) (P : Nat → Prop) (v : Value) (s : S) (h : Rd W b B P v s 0) (hP : ∀ g, W.heap.size ≤ g → P g) (hF : ph s ≤ 80000) :
    Calls Tryz.prog 13 #[.pointer (some ⟨b, 0, none⟩)] W (Post eU W b B P v 0 (scriptM s)) := by
  obtain ⟨Z, hZ⟩ : ∃ Z, scriptM s = Z := ⟨_, rfl⟩
  have HZ : Hid (Z = bd (listM (nestD 40) true s) fun _ s1 => if (nx s1).k ≠ 4 then er 20 s1 else .ok ((), s1)) := hZ.symm
  rw [hZ]
  have HC := Lib.hid (list_c env_top W b B P v s true h hP hF)
  have HR := Lib.hid h
  clear h hP hF hZ
  go_enter Tryz.func13, Tryz.ntmps13
  go_wp2_with fail
  refine HC.out.mono ?_
  rintro r w1 hp
  rcases post_cases hp with ⟨er, hXe, rfl, hb⟩ | ⟨y, u, v1, hXy, rfl, he, ht1, hr1⟩
  · have hz : Z = .error er := by rw [HZ.out, hXe]; rfl
    exact ⟨rfl, post_error hz hb⟩
  have he' : u = .int .i64 (y.1 : Int) := he
  subst he'
  have HR1 := Lib.hid hr1
  have HT1 := Lib.hid ht1
  have HZ2 : Hid (Z = if (nx y.2).k ≠ 4 then er 20 y.2 else .ok ((), y.2)) := by show _ = _; rw [HZ.out, hXy]; rfl
  clear he hp hXy ht1 hr1
  go_wp2_with fail
  obtain ⟨t, ht⟩ : ∃ t, nx y.2 = t := ⟨_, rfl⟩
  have HT := Lib.hid ht
  have F0 := fld_tkV0 t
  refine (next_calls w1 b B P v1 y.2 0 HR1.out).mono ?_
  rintro r w2 ⟨rfl, hb2⟩
  have HR2 := Lib.hid (HR1.out.below hb2)
  have HT2 := Lib.hid (HT1.out.trans (Turn.of_below hb2))
  rw [ht]
  clear hb2 ht
  by_cases hk : t.k = 4
  · have e1 : ((t.k : Int) == 4) = true := by simp; omega
    have e2 : ((t.k : Int) != 4) = false := by simp; omega
    have e3 : decide ((t.k : Int) = 4) = true := by simp; omega
    have HX : Hid (Z = .ok ((), y.2)) := by show _ = _; rw [HZ2.out, HT.out, if_neg (fun h => h hk)]
    clear hk
    go_wp2_with fail
    refine bodyPost_end (v := .tuple #[]) (results_none rfl _ _ _) rfl ?_
    exact post_ok HX.out rfl HT2.out HR2.out
  · have e1 : ((t.k : Int) == 4) = false := by simp; omega
    have e2 : ((t.k : Int) != 4) = true := by simp; omega
    have e3 : decide ((t.k : Int) = 4) = false := by simp; omega
    have HX : Hid (Z = er 20 y.2) := by show _ = _; rw [HZ2.out, HT.out, if_pos hk]
    clear hk
    go_wp2_with fail
    refine (fail_calls w2 b B P v1 y.2 0 HR2.out 20).mono ?_
    rintro r w3 ⟨rfl, hb3⟩
    exact ⟨rfl, post_err HX.out ((HT2.out.belowB HR.out).trans (hb3.mono HR2.out.size))⟩
end Go.Proofs.YtiklkhbfilbpeaaGreatDoor.Sx
set_option linter.unusedVariables false
set_option linter.unusedSimpArgs false
set_option maxRecDepth 100000
namespace Go.Proofs.YtiklkhbfilbpeaaGreatDoor.Sx
open Go.RowKit Base Lx Sy
abbrev trT : TypeId := 25
abbrev ywV (e : Int) (g : Nat) : Value := .agg #[.int .i64 e, .int .i64 (g : Int)]
theorem assert_yw (s : TypeId) (e : Int) (g : Nat) (w : World) : (Instr.typeAssert (.iface ywT (ywV e g)) s ywT false).run Tryz.prog w = .ok (ywV e g) w := by
  simp [Instr.typeAssert, run_underlying Tryz.underlying43, Result.andThen]
theorem fld_yw0 (e : Int) (g : Nat) (w : World) : (Instr.field ywT (ywV e g) 0).run Tryz.prog w = .ok (.int .i64 e) w := by rfl
theorem fld_yw1 (e : Int) (g : Nat) (w : World) : (Instr.field ywT (ywV e g) 1).run Tryz.prog w = .ok (.int .i64 (g : Int)) w := by rfl
theorem build_tr {a : Act} {w : World} {post : Value → World → Prop} {dst : Option Tmp} {ty : TypeId} {pos : String} {after : Array Edge} {guard : Option (Nat × Bool)} (hp : post (.agg #[.slice none 0 0]) w) : Rg.does Tryz.prog { dst, op := .build trT #[], type := ty, pos, after, guard } a w post :=
  Ap.does_buildS #[] _ (by simp) (by go_simp) hp
/-- Three cells of their own, written. -/
structure Caught (w w' : World) (p q r : Nat) (x y z : Value) : Prop where
  hp : w'.heap[p]? = some (.cells #[x] trT)
  hq : w'.heap[q]? = some (.cells #[y] enT)
  hr : w'.heap[r]? = some (.cells #[z] inT)
  os : w'.os = w.os
  tape : w'.tape = w.tape
  output : w'.output = w.output
  size : w'.heap.size = w.heap.size
  block : ∀ k, k < w.heap.size → k ≠ p → k ≠ q → k ≠ r → w'.heap[k]? = w.heap[k]?
theorem Caught.setp {w w' : World} {p q r : Nat} {x y z : Value} (h : Caught w w' p q r x y z) (u : Value) : Caught w (w'.setCell ⟨p, 0, none⟩ u) p q r u y z := by
  have hg : w'.grownBy (w'.setCell ⟨p, 0, none⟩ u) (some p) := Sl.setCells_grown p [u] 0 w'
  have hs := heap_setCell_same w' p 0 _ _ u h.hp
  have n1 := type_ne h.hp h.hq (by decide)
  have n2 := type_ne h.hp h.hr (by decide)
  exact ⟨by simpa using hs, (hg.block q (Array.getElem?_eq_some_iff.1 h.hq).1 (fun e => n1 (Option.some.inj e).symm)).trans h.hq, (hg.block r (Array.getElem?_eq_some_iff.1 h.hr).1 (fun e => n2 (Option.some.inj e).symm)).trans h.hr, hg.os.trans h.os, hg.tape.trans h.tape, hg.output.trans h.output, (Sl.size_setCells p [u] 0 w').trans h.size, fun k hk h1 h2 h3 => (hg.block k (by rw [h.size]; exact hk) (fun e => h1 (Option.some.inj e))).trans (h.block k hk h1 h2 h3)⟩
theorem Caught.setq {w w' : World} {p q r : Nat} {x y z : Value} (h : Caught w w' p q r x y z) (u : Value) : Caught w (w'.setCell ⟨q, 0, none⟩ u) p q r x u z := by
  have hg : w'.grownBy (w'.setCell ⟨q, 0, none⟩ u) (some q) := Sl.setCells_grown q [u] 0 w'
  have hs := heap_setCell_same w' q 0 _ _ u h.hq
  have n1 := type_ne h.hp h.hq (by decide)
  have n2 := type_ne h.hq h.hr (by decide)
  exact ⟨(hg.block p (Array.getElem?_eq_some_iff.1 h.hp).1 (fun e => n1 (Option.some.inj e))).trans h.hp, by simpa using hs, (hg.block r (Array.getElem?_eq_some_iff.1 h.hr).1 (fun e => n2 (Option.some.inj e).symm)).trans h.hr, hg.os.trans h.os, hg.tape.trans h.tape, hg.output.trans h.output, (Sl.size_setCells q [u] 0 w').trans h.size, fun k hk h1 h2 h3 => (hg.block k (by rw [h.size]; exact hk) (fun e => h2 (Option.some.inj e))).trans (h.block k hk h1 h2 h3)⟩
theorem Caught.setr {w w' : World} {p q r : Nat} {x y z : Value} (h : Caught w w' p q r x y z) (u : Value) : Caught w (w'.setCell ⟨r, 0, none⟩ u) p q r x y u := by
  have hg : w'.grownBy (w'.setCell ⟨r, 0, none⟩ u) (some r) := Sl.setCells_grown r [u] 0 w'
  have hs := heap_setCell_same w' r 0 _ _ u h.hr
  have n1 := type_ne h.hp h.hr (by decide)
  have n2 := type_ne h.hq h.hr (by decide)
  exact ⟨(hg.block p (Array.getElem?_eq_some_iff.1 h.hp).1 (fun e => n1 (Option.some.inj e))).trans h.hp, (hg.block q (Array.getElem?_eq_some_iff.1 h.hq).1 (fun e => n2 (Option.some.inj e))).trans h.hq, by simpa using hs, hg.os.trans h.os, hg.tape.trans h.tape, hg.output.trans h.output, (Sl.size_setCells r [u] 0 w').trans h.size, fun k hk h1 h2 h3 => (hg.block k (by rw [h.size]; exact hk) (fun e => h3 (Option.some.inj e))).trans (h.block k hk h1 h2 h3)⟩
theorem Caught.below {w w' : World} {p q r : Nat} {x y z : Value} {B : Nat} (h : Caught w w' p q r x y z) (hp : B ≤ p) (hq : B ≤ q) (hr : B ≤ r) (hs : B ≤ w.heap.size) : Below B w w' :=
  ⟨h.os, h.tape, h.output, Nat.le_of_eq h.size.symm, fun k hk => h.block k (by omega) (by omega) (by omega) (by omega)⟩
set_option maxHeartbeats 2000000 in
theorem catch_panic (p q r : Nat) (x y z : Value) (e : Int) (g : Nat) (older : List PanicEntry) (w : World) (hp : w.heap[p]? = some (.cells #[x] trT)) (hq : w.heap[q]? = some (.cells #[y] enT)) (hr : w.heap[r]? = some (.cells #[z] inT)) :
    CallsD Tryz.prog 12 #[.pointer (some ⟨p, 0, none⟩), .pointer (some ⟨q, 0, none⟩), .pointer (some ⟨r, 0, none⟩)] (.panicking ({ v := .iface ywT (ywV e g), recovered := false } :: older)) w fun rr u' w' =>
      rr = .returned (.tuple #[]) ∧ u' = .panicking ({ v := .iface ywT (ywV e g), recovered := true } :: older) ∧ Caught w w' p q r (.slice none 0 0) (.int .i64 e) (.int .i64 (g : Int)) := by
  refine callsD_of_wpS Tryz.func12 rfl fun c₀ cs hu => ?_
  apply wpS_seq
  apply wpS_region
  simp [wpOpsS, go_sem, recoverD, hu, Tryz.ntmps12, Exit.thenS]
  apply wpS_seq
  apply wpS_region
  simp [wpOpsS, go_sem, Exit.thenS]
  refine wpS_cond (t := true) (by simp [Act.eval, Array.replicate]) ?_
  simp only [if_true]
  apply wpS_of_wp
  change Code.wp _ _ _ ({ tmps := #[.pointer (some ⟨p, 0, none⟩), .pointer (some ⟨q, 0, none⟩), .pointer (some ⟨r, 0, none⟩), .iface ywT (ywV e g), .iface ywT (ywV e g), .iface ywT (ywV e g), .bool true, undef, undef, undef, undef, undef, undef, undef], defers := [] } : Act) w
  apply wp_region_rest (by kernel_rfl)
  have HC : Hid (Caught w w.drew p q r x y z) := ⟨hp, hq, hr, rfl, rfl, rfl, rfl, fun _ _ _ _ _ => rfl⟩
  refine Rq.rest_list 0 [] [Rg.Is (.agg #[.slice none 0 0]), Rg.Is (.iface ywT (ywV e g)), Rg.Is (ywV e g), Rg.Is (.int .i64 e), Rg.Is (.iface ywT (ywV e g)), Rg.Is (ywV e g), Rg.Is (.int .i64 (g : Int)), (fun _ _ => True), (fun _ _ => True), (fun _ _ => True)] (fun _ _ => True) (fun ls x' => Caught w x' p q r (if ls 7 then .slice none 0 0 else x) (if ls 8 then .int .i64 e else y) (if ls 9 then .int .i64 (g : Int) else z)) (fun _ _ _ => True) (by kernel_rfl) (of_decide_eq_true (by kernel_rfl)) (by kernel_rfl) (by kernel_rfl) trivial ?_ ?_ (fun _ _ _ _ _ => trivial) ⟨?_, ?_, ?_, ?_, ?_, ?_, ?_, ?_, ?_, ?_, trivial⟩ ?_ ?_ trivial ?_
  · intro i hi
    match i, hi with
    | j + 0, hi => exact absurd hi (by omega)
  · intro i k u x y _ _ h1 _
    match i, h1 with
    | 0, h1 => exact h1
    | 1, h1 => exact h1
    | 2, h1 => exact h1
    | 3, h1 => exact h1
    | 4, h1 => exact h1
    | 5, h1 => exact h1
    | 6, h1 => exact h1
    | 7, h1 => exact h1
    | 8, h1 => exact h1
    | 9, h1 => exact h1
    | _ + 10, _ => trivial
  · intro b9 x ls _ hS hself hup hdn hk
    exact Rp.doesX_of (build_tr ⟨trivial, rfl, hS⟩)
  · intro b9 x ls _ hS hself hup hdn hk
    have h3 : b9.eval (.tmp 3) = .iface ywT (ywV e g) := Eq.mp (by kernel_rfl) (hk 3 (by decide))
    exact Rp.doesX_of (Rg.does_move ⟨trivial, h3, hS⟩)
  · intro b9 x ls _ hS hself hup hdn hk
    have h8 : b9.eval (.tmp 8) = .iface ywT (ywV e g) := Eq.mp (by kernel_rfl) (hk 8 (by decide))
    exact Rp.doesX_of (does_assert _ _ h8 (assert_yw _ e g _) ⟨trivial, rfl, hS⟩)
  · intro b9 x ls _ hS hself hup hdn hk
    have h9 : b9.eval (.tmp 9) = ywV e g := Eq.mp (by kernel_rfl) (hk 9 (by decide))
    exact Rp.doesX_of (does_fldv _ _ h9 (fld_yw0 e g _) ⟨trivial, rfl, hS⟩)
  · intro b9 x ls _ hS hself hup hdn hk
    have h3 : b9.eval (.tmp 3) = .iface ywT (ywV e g) := Eq.mp (by kernel_rfl) (hk 3 (by decide))
    exact Rp.doesX_of (Rg.does_move ⟨trivial, h3, hS⟩)
  · intro b9 x ls _ hS hself hup hdn hk
    have h11 : b9.eval (.tmp 11) = .iface ywT (ywV e g) := Eq.mp (by kernel_rfl) (hk 11 (by decide))
    exact Rp.doesX_of (does_assert _ _ h11 (assert_yw _ e g _) ⟨trivial, rfl, hS⟩)
  · intro b9 x ls _ hS hself hup hdn hk
    have h12 : b9.eval (.tmp 12) = ywV e g := Eq.mp (by kernel_rfl) (hk 12 (by decide))
    exact Rp.doesX_of (does_fldv _ _ h12 (fld_yw1 e g _) ⟨trivial, rfl, hS⟩)
  · intro b9 x ls _ hS hself hup hdn hk
    have h0 : b9.eval (.tmp 0) = .pointer (some ⟨p, 0, none⟩) := Eq.mp (by kernel_rfl) (hk 0 (by decide))
    have h7 : b9.eval (.tmp 7) = .agg #[.slice none 0 0] := Eq.mp (by kernel_rfl) (hk 7 (by decide))
    exact Rq.does_store_mid p 0 #[.slice none 0 0] h0 h7 (one_there hS.hp) (by kernel_rfl) (by kernel_rfl) ⟨trivial, trivial, hS.setp _⟩
  · intro b9 x ls _ hS hself hup hdn hk
    have h1 : b9.eval (.tmp 1) = .pointer (some ⟨q, 0, none⟩) := Eq.mp (by kernel_rfl) (hk 1 (by decide))
    have h10 : b9.eval (.tmp 10) = .int .i64 e := Eq.mp (by kernel_rfl) (hk 10 (by decide))
    exact Rq.does_store_one q 0 _ h1 h10 rfl rfl (one_there hS.hq) (by kernel_rfl) ⟨trivial, trivial, hS.setq _⟩
  · intro b9 x ls _ hS hself hup hdn hk
    have h2 : b9.eval (.tmp 2) = .pointer (some ⟨r, 0, none⟩) := Eq.mp (by kernel_rfl) (hk 2 (by decide))
    have h13 : b9.eval (.tmp 13) = .int .i64 (g : Int) := Eq.mp (by kernel_rfl) (hk 13 (by decide))
    exact Rq.does_store_one r 0 _ h2 h13 rfl rfl (one_there hS.hr) (by kernel_rfl) ⟨trivial, trivial, hS.setr _⟩
  · exact fun ls ls' x' h hS => by rw [← h 7, ← h 8, ← h 9]; exact hS
  · intro vals wE ls _ hS hall hL
    rw [hall 7 (by decide), hall 8 (by decide), hall 9 (by decide)] at hS
    have hS2 : Caught w wE p q r (.slice none 0 0) (.int .i64 e) (.int .i64 (g : Int)) := hS
    simp [bodyPostS, results, Tryz.results12]
    exact hS2
  · exact HC.out
set_option maxHeartbeats 2000000 in
theorem catch_idle (p q r : Nat) (w : World) :
    CallsD Tryz.prog 12 #[.pointer (some ⟨p, 0, none⟩), .pointer (some ⟨q, 0, none⟩), .pointer (some ⟨r, 0, none⟩)] .returning w fun rr u' w' => rr = .returned (.tuple #[]) ∧ u' = .returning ∧ w' = w := by
  refine callsD_of_wpS Tryz.func12 rfl fun c₀ cs hu => ?_
  apply wpS_seq
  apply wpS_region
  simp [wpOpsS, go_sem, recoverD, hu, Tryz.ntmps12, Exit.thenS]
  apply wpS_seq
  apply wpS_region
  simp [wpOpsS, go_sem, Exit.thenS]
  refine wpS_cond (t := false) (by simp [Act.eval, Array.replicate]) ?_
  simp only [Bool.false_eq_true, if_false]
  refine wpS_of_wp (wp_skip ?_)
  cases c₀
  simp_all [bodyPostS, results, Tryz.results12]
end Go.Proofs.YtiklkhbfilbpeaaGreatDoor.Sx
set_option linter.unusedVariables false
set_option linter.unusedSimpArgs false
set_option maxRecDepth 100000
namespace Go.Proofs.YtiklkhbfilbpeaaGreatDoor.Sx
open Go.RowKit Base Lx Sy
def Er {α : Type} (x : Except Int α) : Prop := ∀ e, x = .error e → e ≠ 0
theorem er20 {α : Type} : Er (α := α) (.error 20) := fun e h => by injection h with h; subst h; decide
theorem er21 {α : Type} : Er (α := α) (.error 21) := fun e h => by injection h with h; subst h; decide
theorem er_ok {α : Type} {a : α} : Er (α := α) (.ok a) := fun e h => by cases h
theorem er_bnd {α β : Type} {x : Except Int α} {f : α → Except Int β} (hx : Er x) (hf : ∀ a, x = .ok a → Er (f a)) : Er (bnd x f) := fun e h => by
  cases x with
  | error e' => exact hx e (by rw [bnd_err] at h; injection h with h; rw [h])
  | ok a => exact hf a rfl e h
theorem er_pre {o : Nm} {x : R} (hx : Er x) : Er (pre o x) := er_bnd hx fun a _ => er_ok
theorem er_ari : ∀ (s : Nm) (d : Nat), Er (ariM d s)
  | [], d => er20
  | c :: r, d => by
    have h1 := fun d => er_ari r d
    unfold ariM
    repeat' split
    all_goals first | exact er20 | exact er_ok | exact er_pre (h1 _)
theorem er_loopF {step : Nm → R} {stop : Nm → Bool} (hs : ∀ s, Er (step s)) : ∀ f s, Er (loopF step stop f s)
  | 0, s => by unfold loopF; split; exact er_ok; exact er20
  | f + 1, s => by
    unfold loopF
    split
    · exact er_ok
    · exact er_bnd (hs s) fun a _ => er_pre (er_loopF hs f _)
theorem er_dol {inner : Nm → R} (hi : ∀ s, Er (inner s)) (deep : Nat) (s : Nm) : Er (dolM inner deep s) := by
  unfold dolM
  repeat' split
  all_goals first | exact er20 | exact er21 | exact er_ok | exact er_pre (er_ari _ _) | exact er_bnd (hi _) fun a _ => er_ok | exact er_bnd (er_ari _ _) fun a _ => er_ok
theorem er_inq {dol : Nm → R} (hd : ∀ s, Er (dol s)) : ∀ s, Er (inqM dol s)
  | [] => er20
  | c :: r => by
    unfold inqM
    repeat' split
    all_goals first | exact er20 | exact er_ok | exact hd _
theorem er_par {dol : Nm → R} (hd : ∀ s, Er (dol s)) (f : Nat) : ∀ s, Er (parM dol f s)
  | [] => er20
  | c :: r => by
    unfold parM
    repeat' split
    all_goals first | exact er20 | exact er_ok | exact hd _ | exact er_bnd (er_loopF (er_inq hd) _ _) fun a _ => er_ok
theorem er_part : ∀ f deep s, Er (partF f deep s)
  | 0, _, _ => er20
  | f + 1, deep, s => er_par (fun s => er_dol (fun s => er_loopF (fun s => er_part f (deep + 1) s) _ _) _ _) _ _
theorem er_word (s : Nm) : Er (wordM s) := er_loopF (fun s => er_part _ _ _) _ _
theorem er_here (e : Nm) : ∀ f s, Er (hereF e f s)
  | 0, s => er20
  | f + 1, s => by
    unfold hereF
    split
    · exact er20
    · split
      · exact er_ok
      · exact er_pre (er_here e f _)
theorem er_bodies : ∀ hh l s, Er (bodiesM hh l s)
  | [], l, s => er_ok
  | i :: is, l, s => er_bnd (er_here _ _ _) fun x _ => er_bodies is _ _
theorem er_one (g : Nat) (l : List Tok) (h : List Nat) (s : Nm) : Er (oneM g l h s) := by
  cases s with
  | nil => exact er_ok
  | cons c r =>
    unfold oneM
    simp only
    split
    · exact er_bnd (er_bodies _ _ _) fun a _ => er_ok
    split
    · exact er_ok
    split
    · exact er_ok
    split
    · exact er_ok
    split
    · exact er_ok
    split
    · exact er20
    · refine er_bnd (er_word _) fun a _ => ?_
      split <;> exact er_ok
def IoOk (t : Tok) : Prop := t.k = 5 → t.t ≠ [] ∧ ∀ c ∈ t.t, 48 ≤ c.toNat ∧ c.toNat ≤ 57
theorem bodies_io : ∀ (hh : List Nat) (l : List Tok) (s : Nm) (x : List Tok × Nm), bodiesM hh l s = .ok x → (∀ t ∈ l, IoOk t) → ∀ t ∈ x.1, IoOk t
  | [], l, s, x, e, hl => by injection e with e; subst e; exact hl
  | i :: is, l, s, x, e, hl => by
    obtain ⟨y, h1, h2⟩ := bnd_ok_inv (x := hereM (bareAt l i) s) e
    refine bodies_io is _ _ _ h2 (fun t ht => ?_)
    obtain ⟨j, hj, rfl⟩ := List.getElem_of_mem ht
    rw [List.getElem_modify]
    rw [List.length_modify] at hj
    split
    · exact hl l[j] (List.getElem_mem hj)
    · exact hl l[j] (List.getElem_mem hj)
theorem one_io {g : Nat} {l : List Tok} {hh : List Nat} {c : UInt8} {s : Nm} {x : St} (e : oneM g l hh (c :: s) = .ok x) (hl : ∀ t ∈ l, IoOk t) : ∀ t ∈ x.1, IoOk t := by
  have add : ∀ (u : Tok), IoOk u → ∀ t ∈ l ++ [u], IoOk t := fun u hu t ht => by
    rcases List.mem_append.1 ht with ht | ht
    · exact hl t ht
    · obtain rfl := List.mem_singleton.1 ht; exact hu
  unfold oneM at e
  simp only at e
  split at e
  · obtain ⟨y, h1, h2⟩ := bnd_ok_inv e
    injection h2 with h2; subst h2
    exact bodies_io _ _ _ _ h1 (add _ (fun h => by cases h))
  · rename_i h10
    split at e
    · injection e with e; subst e; exact hl
    · split at e
      · injection e with e; subst e; exact hl
      · split at e
        · injection e with e; subst e; exact hl
        · rename_i hb
          split at e
          · injection e with e; subst e
            exact add _ (fun h => by cases h)
          · rename_i hn
            split at e
            · cases e
            · rename_i h38
              obtain ⟨y, h1, h2⟩ := bnd_ok_inv e
              have h3 := word_len (word_at h10 hb hn h38) h1
              split at h2
              · rename_i hio
                injection h2 with h2; subst h2
                refine add _ (fun _ => ?_)
                unfold isIo at hio
                simp only [Bool.and_eq_true, decide_eq_true_eq, List.all_eq_true] at hio
                refine ⟨fun h0 => ?_, fun c hc => ?_⟩
                · have := hio.1.1
                  simp only at h0
                  rw [h0] at this
                  simp at this h3
                  omega
                · have := hio.1.2 c hc
                  unfold digB at this
                  simp only [Bool.and_eq_true, decide_eq_true_eq] at this
                  exact this
              · injection h2 with h2; subst h2
                exact add _ (fun h => by cases h)
theorem all_ok_aux (K : Nat) : ∀ (n : Nat) (l : List Tok) (hh : List Nat) (q : Nm), q.length ≤ n → StOk l hh q → (∀ t ∈ l, IoOk t) → (∀ L, allS K (l, hh, q) = .ok L → TsOk L ∧ L.length ≤ 5001) ∧ (∀ y, allS K (l, hh, q) = .error y → y.1 ≠ 0) := by
  intro n
  induction n with
  | zero =>
    intro l hh q hq hst hio
    obtain rfl := List.length_eq_zero_iff.1 (Nat.le_zero.1 hq)
    rw [allS_end]
    split
    · refine ⟨fun L hL => ?_, fun y hy => (by cases hy)⟩
      injection hL with hL; subst hL
      have := hst.len
      refine ⟨⟨⟨l, _, rfl, rfl⟩, fun t ht => ?_, by simp at this ⊢; omega⟩, by simp at this ⊢; omega⟩
      rcases List.mem_append.1 ht with ht | ht
      · exact ⟨(hst.bd t ht).2, hio t ht⟩
      · obtain rfl := List.mem_singleton.1 ht
        exact ⟨by simp, fun h => by cases h⟩
    · refine ⟨fun L hL => (by cases hL), fun y hy => ?_⟩
      injection hy with hy; subst hy
      exact (by decide : (20 : Int) ≠ 0)
  | succ n ih =>
    intro l hh q hq hst hio
    cases q with
    | nil => exact ih l hh [] (by simp) hst hio
    | cons c q =>
      rw [allS_step K l hh (by simp)]
      cases hc : oneM (K - nl (c :: q)) l hh (c :: q) with
      | error e =>
        refine ⟨fun L hL => (by cases hL), fun y hy => ?_⟩
        injection hy with hy; subst hy
        exact er_one _ _ _ _ e hc
      | ok x =>
        have hlt : x.2.2.length < (c :: q).length := one_len (by simp) hc
        exact ih x.1 x.2.1 x.2.2 (by simp at hq hlt; omega) (st_one hst hc) (one_io hc hio)
theorem all_toks {s : Nm} (hs : s.length ≤ 4096) : (∀ L, allM s = .ok L → TsOk L ∧ L.length ≤ 5001) ∧ (∀ y, allM s = .error y → y.1 ≠ 0) :=
  all_ok_aux (1 + nl s) s.length [] [] s (Nat.le_refl _) ⟨fun i hi => absurd hi List.not_mem_nil, Nat.le_refl _, by simp; omega, fun t ht => absurd ht List.not_mem_nil⟩ (fun t ht => absurd ht List.not_mem_nil)
end Go.Proofs.YtiklkhbfilbpeaaGreatDoor.Sx
set_option linter.unusedVariables false
set_option linter.unusedSimpArgs false
set_option maxRecDepth 100000
namespace Go.Proofs.YtiklkhbfilbpeaaGreatDoor.Sx
open Go.RowKit Base Lx Sy
def ParPost (W : World) (x : Except (Int × Nat) (List Nd)) (r : Ending) (W' : World) : Prop :=
  Below W.heap.size W W' ∧ match x with
    | .error y => r = .returned (.tuple #[.agg #[.slice none 0 0], .int .i64 y.1, .int .i64 (y.2 : Int)])
    | .ok l => ∃ v, r = .returned (.tuple #[.agg #[v], .int .i64 0, .int .i64 0]) ∧ RowN W' W.heap.size (fun g => W.heap.size ≤ g) v l
theorem RowN.mono {W : World} {B B' : Nat} {P : Nat → Prop} {v : Value} {l : List Nd} (h : RowN W B P v l) (hb : B' ≤ B) : RowN W B' P v l := by
  obtain ⟨zs, h1, h2, h3⟩ := h
  exact ⟨zs, h1, ownsRow_mono h2 hb, h3⟩
theorem toks_at {W : World} {B : Nat} {v : Value} {L : List Tok} (hL : L ≠ []) (h : W.ownsRow B tkT 4 v L.length (L.flatMap tkC)) : ToksAt W W.heap.size v L := by
  obtain ⟨g, cap, cur, rfl, hgb, hg, hcn, hcm, hcl, hcx⟩ := Sl.own_row h (List.length_pos_iff.2 hL)
  refine ⟨g, 0, cap, rfl, hcn, hcm, (Array.getElem?_eq_some_iff.1 hg).1, fun j x hx => ?_⟩
  rw [← hcx, List.getElem?_take] at hx
  split at hx
  · unfold World.cell?
    rw [hg]
    simpa using hx
  · cases hx
theorem parse_script {s : Nm} {L : List Tok} (h : allM s = .ok L) : parseM s = match scriptM ([], L) with
    | .error e => .error e
    | .ok x => .ok x.2.1 := by
  unfold parseM scriptM
  rw [h]
  simp only
  cases listM (nestD 40) true ([], L) with
  | error e => rfl
  | ok x =>
    by_cases hk : (nx x.2).k = 4 <;> simp [bd, hk, er]
theorem load_en {w : World} {ad : Addr} {v : Value} (h : w.cell? ad = some v) : (Instr.loadAt enT (.pointer (some ad))).run Tryz.prog w = .ok v w := Ap.load_plainP (by simp [isAgg]) h
theorem par_start (W : World) : ∃ w1, ((W.alloc (.cells #[.slice none 0 0] trT)).alloc (.cells #[.int .i64 0] enT)).alloc (.cells #[.int .i64 0] inT) = w1 ∧
    w1.heap[W.heap.size]? = some (.cells #[.slice none 0 0] trT) ∧ w1.heap[W.heap.size + 1]? = some (.cells #[.int .i64 0] enT) ∧ w1.heap[W.heap.size + 1 + 1]? = some (.cells #[.int .i64 0] inT) ∧
    Below W.heap.size W w1 ∧ w1.heap.size = W.heap.size + 1 + 1 + 1 := by
  obtain ⟨h0, h1, h2⟩ := Ap.heap3 W (.cells #[.slice none 0 0] trT) (.cells #[.int .i64 0] enT) (.cells #[.int .i64 0] inT)
  have hB := (((Below.refl W.heap.size W).alloc (Nat.le_refl _) (.cells #[.slice none 0 0] trT)).alloc (by simp only [World.size_alloc]; omega) (.cells #[.int .i64 0] enT)).alloc (by simp only [World.size_alloc]; omega) (.cells #[.int .i64 0] inT)
  exact ⟨_, rfl, h0, h1, h2, hB, by simp only [World.size_alloc]⟩
set_option maxHeartbeats 8000000 in
theorem parse_calls (W : World) (s : Nm) (hs : s.length ≤ 4096) (hO : SigT W) (hG : Glb W W.heap.size) : Calls Tryz.prog 6 #[.string (str s)] W (ParPost W (parseM s)) := by
  have hmf : ∀ (fn : Fn) (first cap : Array Value) (w : World), (Instr.makeFunc fn first cap).run Tryz.prog w = .ok (.func fn first cap) w := fun _ _ _ _ => rfl
  obtain ⟨w1, hw1, hp, hq, hr, hb, hsz⟩ := par_start W
  have HW1 : Hid (((W.alloc (.cells #[.slice none 0 0] trT)).alloc (.cells #[.int .i64 0] enT)).alloc (.cells #[.int .i64 0] inT) = w1) := hw1
  have HP := Lib.hid hp
  have HQ := Lib.hid hq
  have HR := Lib.hid hr
  have HB := Lib.hid hb
  have HZ := Lib.hid hsz
  have HO1 : Hid (SigT w1) := hO.below hb hO.lt
  have HG1 : Hid (Glb w1 W.heap.size) := hG.below hb
  have HS : Hid (s.length ≤ 4096) := hs
  clear hw1 hp hq hr hb hsz hO hG hs
  obtain ⟨N, hN⟩ : ∃ N, W.heap.size = N := ⟨_, rfl⟩
  have HN := Lib.hid hN
  rw [hN] at HP HQ HR HZ HG1 HB
  clear hN
  obtain ⟨Z, hZ⟩ : ∃ Z, parseM s = Z := ⟨_, rfl⟩
  have HZm := Lib.hid hZ
  rw [hZ]
  clear hZ
  go_enter_defers Tryz.func6, Tryz.ntmps6
  go_wp2_with fail
  rw [HW1.out, HN.out]
  refine (all_calls w1 s HS.out HO1.out).mono ?_
  rintro r w2 ⟨hb2, hr⟩
  have HB2 : Hid (Below (N + 1 + 1 + 1) w1 w2) := by show Below _ _ _; rw [← HZ.out]; exact hb2
  have HZ2 : Hid (N + 1 + 1 + 1 ≤ w2.heap.size) := by have := HB2.out.size; have := HZ.out; show _ ≤ _; omega
  have hp2 : w2.heap[N]? = some (.cells #[.slice none 0 0] trT) := (HB2.out.block N (by omega)).trans HP.out
  have hq2 : w2.heap[N + 1]? = some (.cells #[.int .i64 0] enT) := (HB2.out.block (N + 1) (by omega)).trans HQ.out
  have hr2 : w2.heap[N + 1 + 1]? = some (.cells #[.int .i64 0] inT) := (HB2.out.block (N + 1 + 1) (by omega)).trans HR.out
  obtain ⟨m0, n0⟩ := cell_of hp2
  obtain ⟨m1, n1⟩ := cell_of hq2
  obtain ⟨m2, n2⟩ := cell_of hr2
  have hc0 : Caught w2 w2 N (N + 1) (N + 1 + 1) (.slice none 0 0) (.int .i64 0) (.int .i64 0) := ⟨hp2, hq2, hr2, rfl, rfl, rfl, rfl, fun _ _ _ _ _ => rfl⟩
  have e01 : ¬ N + 1 = N := by omega
  have e02 : ¬ N + 1 + 1 = N := by omega
  have e12 : ¬ N + 1 + 1 = N + 1 := by omega
  have HT := Lib.hid (all_toks HS.out)
  have HB0 : Hid (Below N W w2) := by
    have h0 : Below N W w1 := HB.out
    exact h0.trans (HB2.out.mono (by omega))
  clear hb2 hp2 hq2 hr2
  obtain ⟨Y, hY⟩ : ∃ Y, allM s = Y := ⟨_, rfl⟩
  have HY := Lib.hid hY
  rw [hY] at hr
  clear hY
  cases Y with
  | error y =>
    obtain rfl := hr
    have hne := HT.out.2 y HY.out
    have e1 : (y.1 == 0) = false := by rw [beq_eq_false_iff_ne]; exact hne
    have e2 : (y.1 != 0) = true := by rw [bne_iff_ne]; exact hne
    have e3 : decide (y.1 = 0) = false := decide_eq_false hne
    have hc1 := (hc0.setq (.int .i64 y.1)).setr (.int .i64 (y.2 : Int))
    obtain ⟨w3, hw3⟩ : ∃ w3, (w2.setCell ⟨N + 1, 0, none⟩ (.int .i64 y.1)).setCell ⟨N + 1 + 1, 0, none⟩ (.int .i64 (y.2 : Int)) = w3 := ⟨_, rfl⟩
    rw [hw3] at hc1
    have HC1 := Lib.hid hc1
    have hq3 := cell_of hc1.hq
    obtain ⟨k1, l1⟩ := hq3
    clear hc0 hc1 hne
    go_upto_region 3 with fail
    apply wp_region_rest (by kernel_rfl)
    have HCd : Hid (Caught w2 w3.drew N (N + 1) (N + 1 + 1) (.slice none 0 0) (.int .i64 y.1) (.int .i64 (y.2 : Int))) := ⟨HC1.out.hp, HC1.out.hq, HC1.out.hr, HC1.out.os, HC1.out.tape, HC1.out.output, HC1.out.size, HC1.out.block⟩
    refine Rq.rest_list 0 [] [Rg.Is (.agg #[.slice none 0 0]), Rg.Is (.int .i64 y.1), Rg.Is (.int .i64 (y.2 : Int)), (fun _ _ => True), (fun _ _ => True), (fun _ _ => True)] (fun _ _ => True) (fun ls x' => Caught w2 x' N (N + 1) (N + 1 + 1) (.slice none 0 0) (.int .i64 y.1) (.int .i64 (y.2 : Int))) (fun _ _ _ => True) (by kernel_rfl) (of_decide_eq_true (by kernel_rfl)) (by kernel_rfl) (by kernel_rfl) trivial ?_ ?_ (fun _ _ _ _ _ => trivial) ⟨?_, ?_, ?_, ?_, ?_, ?_, trivial⟩ ?_ ?_ trivial ?_
    · intro i hi
      match i, hi with
      | j + 0, hi => exact absurd hi (by omega)
    · intro i k u x y _ _ h1 _
      match i, h1 with
      | 0, h1 => exact h1
      | 1, h1 => exact h1
      | 2, h1 => exact h1
      | 3, h1 => exact h1
      | 4, h1 => exact h1
      | 5, h1 => exact h1
      | _ + 6, _ => trivial
    · intro b9 x ls _ hS hself hup hdn hk
      exact Rp.doesX_of (build_tr ⟨trivial, rfl, hS⟩)
    · intro b9 x ls _ hS hself hup hdn hk
      have h3 : b9.eval (.tmp 3) = .pointer (some ⟨N + 1, 0, none⟩) := Eq.mp (by kernel_rfl) (hk 3 (by decide))
      exact Rp.doesX_of (Rg.does_load _ _ h3 (load_en (cell_of hS.hq).1) ⟨trivial, rfl, hS⟩)
    · intro b9 x ls _ hS hself hup hdn hk
      have h4 : b9.eval (.tmp 4) = .pointer (some ⟨N + 1 + 1, 0, none⟩) := Eq.mp (by kernel_rfl) (hk 4 (by decide))
      exact Rp.doesX_of (Rg.does_load _ _ h4 (load_int1 (cell_of hS.hr).1) ⟨trivial, rfl, hS⟩)
    · intro b9 x ls _ hS hself hup hdn hk
      have h2 : b9.eval (.tmp 2) = .pointer (some ⟨N, 0, none⟩) := Eq.mp (by kernel_rfl) (hk 2 (by decide))
      have h15 : b9.eval (.tmp 15) = .agg #[.slice none 0 0] := Eq.mp (by kernel_rfl) (hk 15 (by decide))
      exact Rq.does_store_mid N 0 #[.slice none 0 0] h2 h15 (one_there hS.hp) (by kernel_rfl) (by kernel_rfl) ⟨trivial, trivial, hS.setp _⟩
    · intro b9 x ls _ hS hself hup hdn hk
      have h3 : b9.eval (.tmp 3) = .pointer (some ⟨N + 1, 0, none⟩) := Eq.mp (by kernel_rfl) (hk 3 (by decide))
      have h16 : b9.eval (.tmp 16) = .int .i64 y.1 := Eq.mp (by kernel_rfl) (hk 16 (by decide))
      exact Rq.does_store_one (N + 1) 0 _ h3 h16 rfl rfl (one_there hS.hq) (by kernel_rfl) ⟨trivial, trivial, hS.setq _⟩
    · intro b9 x ls _ hS hself hup hdn hk
      have h4 : b9.eval (.tmp 4) = .pointer (some ⟨N + 1 + 1, 0, none⟩) := Eq.mp (by kernel_rfl) (hk 4 (by decide))
      have h17 : b9.eval (.tmp 17) = .int .i64 (y.2 : Int) := Eq.mp (by kernel_rfl) (hk 17 (by decide))
      exact Rq.does_store_one (N + 1 + 1) 0 _ h4 h17 rfl rfl (one_there hS.hr) (by kernel_rfl) ⟨trivial, trivial, hS.setr _⟩
    · exact fun ls ls' x' h hS => hS
    · intro vals wE ls _ hS hall hL
      have hc : Caught w2 wE N (N + 1) (N + 1 + 1) (.slice none 0 0) (.int .i64 y.1) (.int .i64 (y.2 : Int)) := hS
      have k0 := (cell_of hc.hp).1
      have k1 := (cell_of hc.hq).1
      have k2 := (cell_of hc.hr).1
      have hb3 : Below N w2 wE := hc.below (Nat.le_refl _) (by omega) (by omega) (by have := HZ2.out; omega)
      have HF : Hid (ParPost W Z (.returned (.tuple #[.agg #[.slice none 0 0], .int .i64 y.1, .int .i64 (y.2 : Int)])) wE) := by
        show ParPost _ _ _ _
        have hz : Z = .error y := by rw [← HZm.out]; unfold parseM; rw [HY.out]
        rw [hz]
        exact ⟨by rw [HN.out]; exact HB0.out.trans hb3, rfl⟩
      clear hc hb3 hS
      go_wp2_with fail
      simp [Rg.putAll, bodyPostD, Leaves, settle, results, Tryz.results6, go_sem, k0, k1, k2]
      exact HF.out
    · exact HCd.out
  | ok L =>
    obtain ⟨vL, rfl, hown⟩ := hr
    have htk := HT.out.1 L HY.out
    have hc1 := (hc0.setq (.int .i64 0)).setr (.int .i64 0)
    obtain ⟨w3, hw3⟩ : ∃ w3, (w2.setCell ⟨N + 1, 0, none⟩ (.int .i64 0)).setCell ⟨N + 1 + 1, 0, none⟩ (.int .i64 0) = w3 := ⟨_, rfl⟩
    rw [hw3] at hc1
    have HC1 := Lib.hid hc1
    rw [HZ.out] at hown
    have hown3 : w3.ownsRow (N + 1 + 1 + 1) tkT 4 vL L.length (L.flatMap tkC) := own_keep hown (fun j X hj hX => by
      have := (hown.lt j hj).1
      exact hc1.block j (Array.getElem?_eq_some_iff.1 hX).1 (by omega) (by omega) (by omega))
    have hLn : L ≠ [] := by obtain ⟨l, t, h, _⟩ := htk.1.last; rw [h]; simp
    have ht3 := toks_at hLn hown3
    have ht4 := ht3
    obtain ⟨gT, oT, cT, hvL, _⟩ := ht4
    subst hvL
    obtain ⟨M, hM⟩ : ∃ M, w3.heap.size = M := ⟨_, rfl⟩
    have hM3 : N + 1 + 1 + 1 ≤ M := by rw [← hM, hc1.size]; exact HZ2.out
    obtain ⟨w4, hw4⟩ : ∃ w4, w3.alloc (.cells #[.slice none 0 0, .slice (some ⟨gT, oT, none⟩) L.length cT, .int .i64 0] yrT) = w4 := ⟨_, rfl⟩
    have hb4 : Below M w3 w4 := by rw [← hw4, ← hM]; exact (Below.refl _ _).alloc (Nat.le_refl _) _
    have hx4 : w4.heap[M]? = some (.cells #[.slice none 0 0, .slice (some ⟨gT, oT, none⟩) L.length cT, .int .i64 ((0 : Nat) : Int)] yrT) := by rw [← hw4, ← hM]; exact heap_alloc_new _ _
    have hs4 : w4.heap.size = M + 1 := by rw [← hw4, World.size_alloc, hM]
    rw [hM] at ht3
    have hb13 : Below N w1 w3 := (HB2.out.mono (by omega)).trans (hc1.below (Nat.le_refl _) (by omega) (by omega) (by have := HZ2.out; omega))
    have HR4 : Hid (Rd w4 M M (fun g => N + 1 + 1 + 1 ≤ g) (.slice none 0 0) ([], L) 0) :=
      ⟨⟨_, hx4, ht3.below hb4⟩, Nat.le_refl _, ⟨[], rfl, World.ownsRow_nil _ _ _ _, fun x hx => absurd hx List.not_mem_nil⟩, htk.1, Nat.zero_le _, (HG1.out.below (hb13.trans (hb4.mono (by omega)))).less (by omega)⟩
    have HCall := Lib.hid (script_calls w4 M M (fun g => N + 1 + 1 + 1 ≤ g) (.slice none 0 0) ([], L) HR4.out (fun g hg => by omega) (by have := htk.2; unfold ph; simp; omega))
    have HZp : Hid (Z = match scriptM ([], L) with | .error e => .error e | .ok x => .ok x.2.1) := by show _ = _; rw [← HZm.out]; exact parse_script HY.out
    have HB4 : Hid (Below N w2 w3 ∧ Below M w3 w4 ∧ w4.heap.size = M + 1 ∧ N + 1 + 1 + 1 ≤ M) := ⟨hc1.below (Nat.le_refl _) (by omega) (by omega) (by have := HZ2.out; omega), hb4, hs4, hM3⟩
    have k1 := (cell_of hc1.hq).1
    clear hc0 hc1 hown hown3 hLn ht3 htk hb4 hx4 hs4 hM3 hb13
    go_wp2_with fail
    refine HCall.out.mono ?_
    rintro r w5 hp
    have hbel : Below M w4 w5 := by
      rcases post_cases hp with ⟨er, _, _, hb⟩ | ⟨y, u, v', _, _, _, ht, _⟩
      · exact hb
      · exact ht.below (Nat.le_refl _) (fun g hg => by cases hg) (by have := HB4.out.2.2.1; omega)
    have HB5 : Hid (Below M w3 w5) := HB4.out.2.1.trans hbel
    have hM3 := HB4.out.2.2.2
    have hp5 : w5.heap[N]? = some (.cells #[.slice none 0 0] trT) := (HB5.out.block N (by omega)).trans HC1.out.hp
    have hq5 : w5.heap[N + 1]? = some (.cells #[.int .i64 0] enT) := (HB5.out.block (N + 1) (by omega)).trans HC1.out.hq
    have hr5 : w5.heap[N + 1 + 1]? = some (.cells #[.int .i64 0] inT) := (HB5.out.block (N + 1 + 1) (by omega)).trans HC1.out.hr
    have HB05 : Hid (Below N W w5) := (HB0.out.trans HB4.out.1).trans (HB5.out.mono (by omega))
    have hs5 : N + 1 + 1 + 1 ≤ w5.heap.size := by have := HB5.out.size; have := HC1.out.size; have := HZ2.out; omega
    have HS5 := Lib.hid hs5
    clear hbel hs5 k1 m0 m1 m2 n0 n1 n2
    rcases post_cases hp with ⟨er, hXe, rfl, hb⟩ | ⟨y, u, v', hXy, rfl, he, ht, hrd⟩
    · have HZe : Hid (Z = .error er) := by show _ = _; rw [HZp.out, hXe]
      clear hp hXe hb
      refine leaves_cons (f := 12) (args := #[.pointer (some ⟨N, 0, none⟩), .pointer (some ⟨N + 1, 0, none⟩), .pointer (some ⟨N + 1 + 1, 0, none⟩)]) (by simp) (by simp [go_sem]) ?_
      refine (catch_panic N (N + 1) (N + 1 + 1) _ _ _ er.1 er.2 [] w5 hp5 hq5 hr5).mono ?_
      rintro r u' w6 ⟨rfl, rfl, hc⟩
      have k0 := (cell_of hc.hp).1
      have k1 := (cell_of hc.hq).1
      have k2 := (cell_of hc.hr).1
      have hb6 : Below N w5 w6 := hc.below (Nat.le_refl _) (by omega) (by omega) (by have := HS5.out; omega)
      have HF : Hid (ParPost W Z (.returned (.tuple #[.agg #[.slice none 0 0], .int .i64 er.1, .int .i64 (er.2 : Int)])) w6) := by
        show ParPost _ _ _ _
        rw [HZe.out]
        exact ⟨by rw [HN.out]; exact HB05.out.trans hb6, rfl⟩
      clear hc hb6 hp5 hq5 hr5
      simp [Leaves, settle, results, Tryz.results6, go_sem, k0, k1, k2]
      exact HF.out
    · have HZo : Hid (Z = .ok y.2.1) := by show _ = _; rw [HZp.out, hXy]
      have he' : u = .tuple #[] := he
      subst he'
      have HRd := Lib.hid hrd
      have hrow := hrd.row
      obtain ⟨zs, _, hown, _⟩ := hrow
      obtain ⟨a9, c9, hv9, _⟩ := ownsRow_slice hown
      obtain ⟨L9, hL9⟩ : ∃ L9, y.2.1.length = L9 := ⟨_, rfl⟩
      rw [hL9] at hv9
      subst hv9
      obtain ⟨u9, hbx, _⟩ := hrd.box
      obtain ⟨⟨c0, c1, c2⟩, f0, f1, f2⟩ := yr_cells hbx
      obtain ⟨m0, n0⟩ := cell_of hp5
      obtain ⟨m1, n1⟩ := cell_of hq5
      obtain ⟨m2, n2⟩ := cell_of hr5
      have hc0 : Caught w5 w5 N (N + 1) (N + 1 + 1) (.slice none 0 0) (.int .i64 0) (.int .i64 0) := ⟨hp5, hq5, hr5, rfl, rfl, rfl, rfl, fun _ _ _ _ _ => rfl⟩
      have hc6 := ((hc0.setp (.slice a9 L9 c9)).setq (.int .i64 0)).setr (.int .i64 0)
      obtain ⟨w6, hw6⟩ : ∃ w6, ((w5.setCell ⟨N, 0, none⟩ (.slice a9 L9 c9)).setCell ⟨N + 1, 0, none⟩ (.int .i64 0)).setCell ⟨N + 1 + 1, 0, none⟩ (.int .i64 0) = w6 := ⟨_, rfl⟩
      rw [hw6] at hc6
      have HC6 := Lib.hid hc6
      clear hp he hXy ht hrd hown hbx hp5 hq5 hr5 hc0 hc6 hL9
      go_wp2_with fail
      refine leaves_cons (f := 12) (args := #[.pointer (some ⟨N, 0, none⟩), .pointer (some ⟨N + 1, 0, none⟩), .pointer (some ⟨N + 1 + 1, 0, none⟩)]) (by simp) (by simp [go_sem]) ?_
      refine (catch_idle N (N + 1) (N + 1 + 1) _).mono ?_
      rintro r u' w7 ⟨rfl, rfl, hw7⟩
      have HC7 : Hid (Caught w5 w7 N (N + 1) (N + 1 + 1) (.slice a9 L9 c9) (.int .i64 0) (.int .i64 0)) := by show Caught _ _ _ _ _ _ _ _; rw [hw7]; exact HC6.out
      clear hw7 m0 m1 m2 n0 n1 n2 c0 c1 c2 f0 f1 f2 hw6 HC6
      have k0 := (cell_of HC7.out.hp).1
      have k1 := (cell_of HC7.out.hq).1
      have k2 := (cell_of HC7.out.hr).1
      have hb7 : Below N w5 w7 := HC7.out.below (Nat.le_refl _) (by omega) (by omega) (by have := HS5.out; omega)
      have HF : Hid (ParPost W Z (.returned (.tuple #[.agg #[.slice a9 L9 c9], .int .i64 0, .int .i64 0])) w7) := by
        show ParPost _ _ _ _
        rw [HZo.out]
        refine ⟨by rw [HN.out]; exact HB05.out.trans hb7, _, rfl, ?_⟩
        rw [HN.out]
        have hown := HRd.out.own
        refine ((HRd.out.row.mono (B' := N) (by omega)).keep (fun g X hg hX => ?_) (fun g X t hg hX _ => ?_)).less (fun g hg _ => by omega)
        · have := (hown g hg).1
          exact HC7.out.block g (Array.getElem?_eq_some_iff.1 hX).1 (by omega) (by omega) (by omega)
        · exact HC7.out.block g (Array.getElem?_eq_some_iff.1 hX).1 (by omega) (by omega) (by omega)
      clear hb7
      simp [Leaves, settle, results, Tryz.results6, go_sem, k0, k1, k2]
      exact HF.out
end Go.Proofs.YtiklkhbfilbpeaaGreatDoor.Sx
set_option linter.unusedVariables false
set_option linter.unusedSimpArgs false
set_option maxRecDepth 100000
namespace Go.Proofs.YtiklkhbfilbpeaaGreatDoor.Sx
open Go.RowKit Base Lx Sy
/-- A node's cells, from o on in block b1, and its rows. -/
structure NdAt (W : World) (P : Nat → Prop) (b1 o : Nat) (n : Nd) (uw ur uk : Value) : Prop where
  cells : ∀ (j : Nat) (x : Value), (ndC n uw ur uk)[j]? = some x → W.cell? ⟨b1, o + j, none⟩ = some x
  rows : Rows W P n uw ur uk
theorem NdAt.below {W W' : World} {P : Nat → Prop} {b1 o : Nat} {n : Nd} {uw ur uk : Value} (h : NdAt W P b1 o n uw ur uk) (hb : Below W.heap.size W W') : NdAt W' P b1 o n uw ur uk :=
  ⟨fun j x hx => cell_below hb (Nat.le_refl _) (h.cells j x hx), h.rows.below hb⟩
theorem nodes_at {W : World} {B : Nat} {P : Nat → Prop} {v : Value} {l : List Nd} (h : RowN W B P v l) : ∃ a c, v = .slice a l.length c ∧ ∃ b1 off, (∀ (k : Nat) (n : Nd), l[k]? = some n → ∃ uw ur uk, NdAt W P b1 (off + k * 8) n uw ur uk) ∧
    ∀ (k : Nat) (w' : World), k < l.length → (Instr.indexAt 23 (.slice a l.length c) (.int .i64 (k : Int))).run Tryz.prog w' = .ok (.pointer (some ⟨b1, off + k * 8, none⟩)) w' := by
  obtain ⟨i0, hi0, hz0, hz1, hz2⟩ := info_parts info_nd
  obtain ⟨zs, rfl, hown, hrow⟩ := h
  have hl : (zs.map (·.1)).length = zs.length := List.length_map _
  rw [hl] at hown ⊢
  obtain ⟨a, c, rfl, hr⟩ := Ap.own_cells (by decide) nz_len hown
  obtain ⟨b1, off, h1, h2⟩ := hr.at (P := Tryz.prog)
  refine ⟨a, c, rfl, b1, off, fun k n hk => ?_, fun k w' hk => h2 23 ndT i0 Tryz.underlying23 hi0 hz1 .i64 k w' hk⟩
  rw [List.getElem?_map] at hk
  cases hz : zs[k]? with
  | none => rw [hz] at hk; cases hk
  | some z =>
    rw [hz] at hk
    injection hk with hk
    subst hk
    obtain ⟨hk, rfl⟩ := List.getElem?_eq_some_iff.1 hz
    exact ⟨_, _, _, fun j x hx => h1 k hk j x hx, hrow _ (List.getElem_mem hk)⟩
end Go.Proofs.YtiklkhbfilbpeaaGreatDoor.Sx
set_option linter.unusedVariables false
set_option linter.unusedSimpArgs false
set_option maxRecDepth 100000
namespace Go.Proofs.YtiklkhbfilbpeaaGreatDoor.Sx
open Go.RowKit Base Lx Sy
/-- What must lie where: the signs, the reserved words, an error. -/
structure Gl (W : World) : Prop where
  sig : SigT W
  glb : Glb W W.heap.size
theorem Gl.below {W W' : World} (h : Gl W) (hb : Below W.heap.size W W') : Gl W' := ⟨h.sig.below hb h.sig.lt, (h.glb.below hb).less hb.size⟩
end Go.Proofs.YtiklkhbfilbpeaaGreatDoor.Sx
