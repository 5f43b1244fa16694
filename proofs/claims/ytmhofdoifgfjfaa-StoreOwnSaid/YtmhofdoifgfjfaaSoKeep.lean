/-
  Store: a state is kept. Conditions: as each contract says.
-/
import Derived.Test.YtmhofdoifgfjfaaSoDrop
set_option linter.unusedVariables false
set_option maxRecDepth 100000
namespace Go.Proofs.Ytmhofdoifgfjfaa
open Go.RowKit Base

theorem fld_so (s f : Nat) (hf : f < 4) (w : World) : (Instr.fieldAt soT (.pointer (some ⟨s, 0, none⟩)) f).run Try.prog w = .ok (.pointer (some ⟨s, f, none⟩)) w := by
  match f, hf with
  | 0, _ => rfl
  | 1, _ => rfl
  | 2, _ => rfl
  | 3, _ => rfl
theorem load_kmap {w : World} {ad : Addr} {v : Value} (h : w.cell? ad = some v) : (Instr.loadAt 58 (.pointer (some ad))).run Try.prog w = .ok v w := Ap.load_plainP (by simp [isAgg]) h
theorem load_ints {w : World} {ad : Addr} {v : Value} (h : w.cell? ad = some v) : (Instr.loadAt 41 (.pointer (some ad))).run Try.prog w = .ok v w := Ap.load_plainP (by simp [isAgg]) h
theorem load_int1 {w : World} {ad : Addr} {v : Value} (h : w.cell? ad = some v) : (Instr.loadAt 3 (.pointer (some ad))).run Try.prog w = .ok v w := Ap.load_plainP (by simp [isAgg]) h
/-- What is kept where. -/
def updF (ev : Int) (pl : List Int) (p : Int) (a : StateD) (f : Int → StateD) : Int → StateD := if away ev p ∨ p ∈ pl then f else fun q => if q = p then a else f q
def KeepPost (W : World) (B s m : Nat) (v : Value) (ev mo : Int) (pl : List Int) (f : Int → StateD) (n : Nat) (p : Int) (a : StateD) (r : Ending) (W' : World) : Prop :=
  r = .returned (.tuple #[]) ∧ ∃ v', Sto W' B s m v' ev mo (keepB ev mo pl p) (updF ev pl p a f) (n + 1) ∧ Turns s m v.ownBlock W W' ∧ (∀ g, v'.ownBlock = some g → g < W.heap.size → v.ownBlock = some g)
theorem Sto.more {W : World} {B s m : Nat} {v : Value} {ev mo : Int} {pl : List Int} {f : Int → StateD} {n : Nat} (h : Sto W B s m v ev mo pl f n) : Sto W B s m v ev mo pl f (n + 1) := by
  obtain ⟨D, hD, hK⟩ := h.map
  exact ⟨h.sB, h.mB, h.box, h.row, ⟨D, hD.mono (Nat.le_succ _), hK⟩, h.up, h.lo, h.ev1, h.mo1, h.le, Nat.le_succ_of_le h.ln, h.fine⟩
/-- Nothing is kept. -/
theorem keep_none {W W' : World} {B s m : Nat} {v : Value} {ev mo : Int} {pl : List Int} {f : Int → StateD} {n : Nat} {p : Int} {a : StateD} (h : Sto W B s m v ev mo pl f n) (hb : Below W.heap.size W W') (ha : away ev p ∨ p ∈ pl) :
    KeepPost W B s m v ev mo pl f n p a (.returned (.tuple #[])) W' := by
  refine ⟨rfl, v, ?_, Turns.of_below hb, fun g hg _ => hg⟩
  unfold keepB updF
  rw [if_pos ha, if_pos ha]
  exact (h.below hb).more
theorem search_calls (W : World) (a : Option Addr) (c : Nat) (pl : List Int) (p : Int) (h : Ints .i64 W a pl.length c pl) (hu : Up pl) (hl : pl.length ≤ 1000000) :
    Calls Try.prog 16 #[.slice a pl.length c, .int .i64 p] W fun r W' => r = .returned (.tuple #[.int .i64 (lowsN pl p : Int), .bool (decide (p ∈ pl))]) ∧ Below W.heap.size W W' := by
  have hd : pl.contains p = decide (p ∈ pl) := by
    by_cases hp : p ∈ pl
    · rw [decide_eq_true hp, List.contains_iff_mem.2 hp]
    · rw [decide_eq_false hp]
      exact Bool.eq_false_iff.2 (fun h => hp (List.contains_iff_mem.1 h))
  obtain ⟨h1, h2, h3, b, o, h4, h5⟩ := h
  by_cases h0 : pl.length = 0
  · obtain rfl : pl = [] := List.eq_nil_of_length_eq_zero h0
    refine (Try.slices_BinarySearch_int_empty a c p W).mono ?_
    rintro r w ⟨rfl, rfl⟩
    exact ⟨rfl, Below.refl _ _⟩
  · obtain rfl : a = some ⟨b, o, none⟩ := h4.resolve_left h0
    have hle : pl.Pairwise (· ≤ ·) := hu.imp (fun h => by omega)
    refine (Try.slices_BinarySearch_int b o pl.length c pl p W (Nat.le_refl _) (by omega) (fun j hj => by
      have := h5 j hj
      rw [Nat.mul_one] at this
      rw [List.getD_eq_getElem?_getD, List.getElem?_eq_getElem hj]
      exact this) (by rw [List.take_length]; exact hle)).mono ?_
    rintro r w ⟨rfl, q, rfl⟩
    rw [List.take_length, hd]
    exact ⟨rfl, drewN_below _ _⟩
theorem own_two {W : World} {B : Nat} {v u : Value} {q : List Int} {l : Nm} (hv : OwnI W B v q) (hu : OwnB W u l) {j : Nat} (hj : v.ownBlock = some j) : u.ownBlock ≠ some j := by
  have hv' : W.ownsRow B 3 1 v q.length (q.map zv) := hv
  rcases hv'.2 with ⟨rfl, _⟩ | ⟨g, cap, cur, rfl, _, hg, _⟩
  · cases hj
  · obtain rfl : g = j := Option.some.inj hj
    exact own_apart hu hg (by decide)
theorem ownB_turns {W W' : World} {B s m n : Nat} {v u : Value} {q : List Int} {l : Nm} {X : Array Value} {D : DataW Value} (hbox : W.heap[s]? = some (.cells X soT)) (hm : KMap W m n D) (hrow : OwnI W B v q) (ht : Turns s m v.ownBlock W W') (hu : OwnB W u l) : OwnB W' u l := by
  have h1 := own_apart hu hbox (by decide)
  have h3 : u.ownBlock ≠ some m := by
    obtain ⟨es, ck, hm, _⟩ := hm
    have hu' : W.ownsRow 0 5 1 u l.length (l.map bv) := hu
    rcases hu'.2 with ⟨rfl, _⟩ | ⟨g, cap, cur, rfl, _, hg, _⟩
    · intro h; cases h
    · intro h
      obtain rfl : g = m := Option.some.inj h
      rw [hg] at hm
      cases hm
  have hu' : W.ownsRow 0 5 1 u l.length (l.map bv) := hu
  refine ⟨hu'.1, ?_⟩
  rcases hu'.2 with h2 | ⟨g, cap, cur, rfl, h4, hg, h5⟩
  · exact .inl h2
  · refine .inr ⟨g, cap, cur, rfl, h4, ?_, h5⟩
    exact (ht.block g (Array.getElem?_eq_some_iff.1 hg).1 (fun e => h1 (by rw [e]; rfl)) (fun e => h3 (by rw [e]; rfl)) (fun e => own_two hrow hu e.symm rfl)).trans hg
theorem up_ne {q : List Int} (h : Up q) {i : Nat} (hi : i < q.length) {x : Int} (hx : x ∈ q.eraseIdx i) : x ∈ q ∧ x ≠ q.getD i 0 := by
  refine ⟨(List.eraseIdx_sublist q i).mem hx, fun e => ?_⟩
  rw [List.getD_eq_getElem?_getD, List.getElem?_eq_getElem hi, Option.getD_some] at e
  obtain ⟨j, hj, hji, hjx⟩ := List.mem_eraseIdx_iff_getElem.1 hx
  rcases Nat.lt_trichotomy j i with h1 | h1 | h1
  · have := List.pairwise_iff_getElem.1 h j i hj hi h1
    omega
  · exact hji h1
  · have := List.pairwise_iff_getElem.1 h i j hi hj h1
    omega
set_option maxHeartbeats 4000000 in
theorem keep_calls (W : World) (B s m : Nat) (v : Value) (ev mo : Int) (pl : List Int) (f : Int → StateD) (n : Nat) (p : Int) (vs : List Value) (sa : StateD) (h : Sto W B s m v ev mo pl f n) (hp : I64 p) (hp6 : p ≤ 1000000) (hn : n ≤ 10000)
    (hvl : vs.length = 29) (ha : ∀ W', Turns s m v.ownBlock W W' → PkArg W' vs sa) (hA : StateP sa) (hL : (stateC.enc sa).length ≤ 1000) (hB : B ≤ W.heap.size) :
    Calls Try.prog 8 #[.pointer (some ⟨s, 0, none⟩), .int .i64 p, .agg vs.toArray] W (KeepPost W B s m v ev mo pl f n p sa) := by
  have HV : Hid (vs.length = 29) := hvl
  obtain ⟨ar, cr, hv0, hints⟩ := own_ints h.row
  subst hv0
  obtain ⟨w1, hw1, hc1, hb1⟩ : ∃ w1, W.alloc (.cells vs.toArray stT) = w1 ∧ Cut W.heap.size vs stT w1 ∧ Below W.heap.size W w1 := ⟨_, rfl, heap_alloc_new W _, (Below.refl W.heap.size W).alloc (Nat.le_refl _) _⟩
  have HW := Lib.hid hw1
  have HS := Lib.hid h
  have HA := Lib.hid ha
  have HP := Lib.hid hA
  have HL := Lib.hid hL
  have HI := Lib.hid hp
  have hlo : -9223372036854775808 ≤ p := hp.1
  have hev := h.ev1
  have HC1 := Lib.hid hc1
  have HB1 := Lib.hid hb1
  obtain ⟨⟨y0, y1, y2, y3⟩, f0, f1, f2, f3⟩ := so_cells (h.below hb1).box
  have HIn := Lib.hid hints
  have hln : pl.length ≤ 10000 := Nat.le_trans h.ln hn
  clear hw1 hc1 hb1 h ha hA hL hp hints hvl
  go_enter Try.func8, Try.ntmps8
  go_upto_region 1 with fail
  rw [HW.out]
  obtain ⟨tb, htb⟩ : ∃ tb, W.heap.size = tb := ⟨_, rfl⟩
  have HTb := Lib.hid htb
  rw [htb] at HC1 ⊢
  clear htb
  by_cases hneg : p < 0
  · have u1 : decide (p < 0) = true := decide_eq_true hneg
    go_wp2_with fail
    refine bodyPost_end (v := .tuple #[]) (results_none rfl _ _ _) rfl ?_
    exact keep_none HS.out HB1.out (.inl (.inl hneg))
  have u1 : decide (p < 0) = false := decide_eq_false hneg
  have hev0 : ¬ ev = 0 := by omega
  have htm : p.tmod ev = p % ev := Int.tmod_eq_emod_of_nonneg (by omega)
  by_cases hr : p % ev = 0
  case neg =>
    have u2 : (p % ev == 0) = false := by rw [beq_eq_false_iff_ne]; exact hr
    have u3 : (p % ev != 0) = true := by rw [bne, u2]; rfl
    have u4 : decide (p % ev = 0) = false := decide_eq_false hr
    go_wp2_with fail
    refine bodyPost_end (v := .tuple #[]) (results_none rfl _ _ _) rfl ?_
    exact keep_none HS.out HB1.out (.inl (.inr hr))
  have u2 : (p % ev == 0) = true := by rw [beq_iff_eq]; exact hr
  have u3 : (p % ev != 0) = false := by rw [bne, u2]; rfl
  have HAw : Hid (¬ away ev p) := fun h => h.elim hneg (fun h => h hr)
  go_upto_region 2 with fail
  clear u1 u2 u3 htm
  have HIn1 := Lib.hid (HIn.out.below (stable_intAt _) HB1.out)
  go_wp2_with fail
  refine (search_calls w1 ar cr pl p HIn1.out HS.out.up (by omega)).mono ?_
  rintro r w2 ⟨rfl, hb2⟩
  have HB2 := Lib.hid (HB1.out.trans (hb2.mono HB1.out.size))
  have HC2 := Lib.hid (cut_below HC1.out hb2)
  clear hb2 y0 y1 y2 y3 f0 f1 f2 f3
  by_cases hmem : p ∈ pl
  · rw [decide_eq_true hmem]
    go_wp2_with fail
    refine bodyPost_end (v := .tuple #[]) (results_none rfl _ _ _) rfl ?_
    exact keep_none HS.out HB2.out (.inr hmem)
  rw [decide_eq_false hmem]
  have HMem := Lib.hid hmem
  have hS2 := HS.out.below HB2.out
  obtain ⟨⟨y0, y1, y2, y3⟩, f0, f1, f2, f3⟩ := so_cells hS2.box
  obtain ⟨vb, hvb⟩ : ∃ vb, w2.heap.size = vb := ⟨_, rfl⟩
  obtain ⟨w3, hw3⟩ : ∃ w3, w2.alloc (.cells #[.int .i64 p] 3) = w3 := ⟨_, rfl⟩
  have hx3 : w3.heap[vb]? = some (.cells [zv p].toArray 3 (0, 0)) := by rw [← hw3, ← hvb]; exact heap_alloc_new w2 _
  have hb3 : Below w2.heap.size w2 w3 := by rw [← hw3]; exact (Below.refl w2.heap.size w2).alloc (Nat.le_refl _) _
  have hS3 := hS2.below hb3
  have hi := lowsN_le pl p
  have hIE := ins_eq HS.out.up hmem
  have hvo : (Value.slice ar pl.length cr).ownBlock ≠ some vb := by
    intro e
    have h9 : w2.ownsRow B 3 1 (.slice ar pl.length cr) pl.length (pl.map zv) := hS2.row
    have := (h9.lt vb e).2
    omega
  have HInr := Lib.hid (int_insert_calls w3 B (.slice ar pl.length cr) pl (lowsN pl p) p vb hS3.row hi (by omega) (by have := HB2.out.size; have := hb3.size; omega) hvo hx3)
  rw [hIE] at HInr
  have HB3 := Lib.hid (HB2.out.trans (hb3.mono HB2.out.size))
  have HC3 := Lib.hid (cut_below HC2.out hb3)
  have HS3 := Lib.hid hS3
  have HW3 : Hid (w2.alloc (.cells #[.int .i64 p] 3) = w3) := hw3
  have HVb := Lib.hid hvb
  clear hw3 hx3 hb3 hS3 hS2 hIE hvo
  go_wp2_with fail
  rw [HW3.out]
  refine HInr.out.mono ?_
  rintro r w4 ⟨v4, rfl, hrow4, hgr4, hat4⟩
  obtain ⟨q, hq⟩ : ∃ q, ins pl p = q := ⟨_, rfl⟩
  have HQ := Lib.hid hq
  have hql : q.length = pl.length + 1 := by rw [← hq]; exact ins_len HS.out.up HMem.out
  rw [hq] at hrow4
  obtain ⟨a4, c4, rfl, _⟩ := own_ints hrow4
  have hvs : (Value.slice ar pl.length cr).ownBlock ≠ some s := HS3.out.vs
  have hvm : (Value.slice ar pl.length cr).ownBlock ≠ some m := HS3.out.vm
  have hbox4 : w4.heap[s]? = some (.cells #[.int .i64 ev, .int .i64 mo, .slice ar pl.length cr, .map (some m)] soT) := (hgr4.block s HS3.out.lt (fun e => hvs e.symm)).trans HS3.out.box
  obtain ⟨D, hD, hKp⟩ := HS3.out.map
  have hmap4 : KMap w4 m n D := hD.kept hgr4 (fun e => hvm e.symm)
  have hu4 : ∀ x ∈ pl, ∃ u, KAt D x u ∧ OwnB w4 u (stateC.enc (f x)) := fun x hx => by
    obtain ⟨u, h1, h2⟩ := hKp x hx
    exact ⟨u, h1, ownB_turns HS3.out.box hD HS3.out.row (Turns.of_grown hgr4) h2⟩
  have hts : tb ≠ s := by have := HTb.out; have := HS.out.lt; omega
  have hC4 : Cut tb vs stT w4 := (hgr4.block tb HC3.out.lt (fun e => by
    have h9 : w3.ownsRow B 3 1 (.slice ar pl.length cr) pl.length (pl.map zv) := HS3.out.row
    exact own_apart h9 HC3.out (by decide) e.symm)).trans HC3.out
  obtain ⟨⟨z0, z1, z2, z3⟩, g0, g1, g2, g3⟩ := so_cells hbox4
  obtain ⟨w5, hw5⟩ : ∃ w5, w4.setCell ⟨s, 2, none⟩ (.slice a4 q.length c4) = w5 := ⟨_, rfl⟩
  have hgb : w4.grownBy w5 (some s) := by rw [← hw5]; exact Sl.setCells_grown s [.slice a4 q.length c4] 2 w4
  have hbox5 : w5.heap[s]? = some (.cells #[.int .i64 ev, .int .i64 mo, .slice a4 q.length c4, .map (some m)] soT) := by
    rw [← hw5]; exact Cut.set (cur := [.int .i64 ev, .int .i64 mo, .slice ar pl.length cr, .map (some m)]) hbox4 2 _
  have hvs4 : (Value.slice a4 q.length c4).ownBlock ≠ some s := own_apart hrow4 hbox4 (by decide)
  have hrow5 : OwnI w5 B (.slice a4 q.length c4) q := own_other hrow4 hgb (fun j hj => by obtain rfl := Option.some.inj hj; exact hvs4)
  have hmap5 : KMap w5 m n D := hmap4.kept hgb (fun e => HS3.out.ne (Option.some.inj e).symm)
  have hu5 : ∀ x ∈ pl, ∃ u, KAt D x u ∧ OwnB w5 u (stateC.enc (f x)) := fun x hx => by
    obtain ⟨u, h1, h2⟩ := hu4 x hx
    exact ⟨u, h1, ownB_turns hbox4 hmap4 hrow4 (Turns.of_box hgb) h2⟩
  have HT5 : Hid (Turns s m (Value.slice ar pl.length cr).ownBlock W w5) := ((Turns.of_below HB3.out).trans (Turns.of_grown hgr4) (.inl rfl)).trans (Turns.of_box (o := (Value.slice ar pl.length cr).ownBlock) hgb) (.inl rfl)
  have HAt4 : Hid (∀ g, (Value.slice a4 q.length c4).ownBlock = some g → g < W.heap.size → (Value.slice ar pl.length cr).ownBlock = some g) := fun g hg hl => hat4 g hg (by have := HB3.out.size; omega)
  have HBox5 := Lib.hid hbox5
  have HRow5 := Lib.hid hrow5
  have HMap5 := Lib.hid hmap5
  have HU5 := Lib.hid hu5
  have HC5 : Hid (Cut tb vs stT w5) := (hgb.block tb hC4.lt (by simpa using hts)).trans hC4
  have HW5 := Lib.hid hw5
  have HQl := Lib.hid hql
  clear hrow4 hgr4 hat4 hq hvs hvm hbox4 hD hKp hmap4 hu4 hC4 hgb hbox5 hvs4 hrow5 hmap5 hu5 hw5 hql hts y0 y1 y2 y3 f0 f1 f2 f3
  go_upto_region 5 with fail
  rw [HW5.out]
  clear z0 z1 z2 z3 g0 g1 g2 g3
  obtain ⟨⟨y0, y1, y2, y3⟩, f0, f1, f2, f3⟩ := so_cells HBox5.out
  have HPk := Lib.hid (HA.out w5 HT5.out)
  clear y0 y1 y2 f0 f1 f2 f3
  have HY3 := Lib.hid y3
  clear y3
  refine Rg.wp_region_rgt 7 [] [Rg.Is (.pointer (some ⟨s, 0, none⟩)), Rg.Is (.pointer (some ⟨s, 0, none⟩)), Rg.Is (.pointer (some ⟨s, 3, none⟩)), Rg.Is (.map (some m)), Rg.Is (.int .i64 p), Rg.Is (.agg vs.toArray), (fun u x => x.ownsRow w5.heap.size 5 1 u (stateC.enc sa).length ((stateC.enc sa).map bv))] (by kernel_rfl) (by kernel_rfl) (of_decide_eq_true (by kernel_rfl)) (by kernel_rfl) (by kernel_rfl) ⟨Rg.st_is _, Rg.st_is _, Rg.st_is _, Rg.st_is _, Rg.st_is _, Rg.st_is _, fun v w w' h hb => ownsRow_below h hb, trivial⟩ ⟨rfl, rfl, rfl, rfl, rfl, rfl, rfl, trivial⟩ ⟨?_, ?_, ?_, ?_, ?_, ?_, ?_, trivial⟩ ?_
  · intro _ a wx hb hk
    have h0 : a.eval (.tmp 0) = .pointer (some ⟨s, 0, none⟩) := Eq.mp (by kernel_rfl) (hk 0 (by decide))
    exact Rg.does_move ⟨Below.refl _ _, h0⟩
  · intro _ a wx hb hk
    have h44 : a.eval (.tmp 44) = .pointer (some ⟨s, 0, none⟩) := Eq.mp (by kernel_rfl) (hk 44 (by decide))
    exact Ap.does_nil _ h44 ⟨Below.refl _ _, rfl⟩
  · intro _ a wx hb hk
    have h45 : a.eval (.tmp 45) = .pointer (some ⟨s, 0, none⟩) := Eq.mp (by kernel_rfl) (hk 45 (by decide))
    exact Rs.does_field _ _ h45 (fld_so s 3 (by decide) wx) ⟨Below.refl _ _, rfl⟩
  · intro _ a wx hb hk
    have h46 : a.eval (.tmp 46) = .pointer (some ⟨s, 3, none⟩) := Eq.mp (by kernel_rfl) (hk 46 (by decide))
    exact Rg.does_load _ _ h46 (load_kmap (cell_below hb (Nat.le_refl _) HY3.out)) ⟨Below.refl _ _, rfl⟩
  · intro _ a wx hb hk
    have h1 : a.eval (.tmp 1) = .int .i64 p := Eq.mp (by kernel_rfl) (hk 1 (by decide))
    exact Rg.does_move ⟨Below.refl _ _, h1⟩
  · intro _ a wx hb hk
    have h5 : a.eval (.tmp 5) = .pointer (some ⟨tb, 0, none⟩) := Eq.mp (by kernel_rfl) (hk 5 (by decide))
    exact Rg.does_load _ _ h5 (load_state (cut_below HC5.out hb) HV.out) ⟨Below.refl _ _, rfl⟩
  · intro _ a wx hb hk
    have h49 : a.eval (.tmp 49) = .agg vs.toArray := Eq.mp (by kernel_rfl) (hk 49 (by decide))
    refine Rg.does_func #[.agg vs.toArray] Try.func18 (by kernel_rfl) (by kernel_rfl) (by simp [h49]) (pack_calls wx vs sa (HPk.out.below hb) HP.out (Nat.le_trans HL.out (by decide))) ?_
    rintro e w' ⟨u, rfl, ho, hb'⟩
    exact ⟨_, rfl, hb', own_base ho hb.size⟩
  intro vals wD hbD hL
  obtain ⟨g0, g1, g2, g3, g4, g5, g6, _⟩ := hL
  have g3' : vals 3 = .map (some m) := g3
  have g4' : vals 4 = .int .i64 p := g4
  have g6' : wD.ownsRow w5.heap.size 5 1 (vals 6) (stateC.enc sa).length ((stateC.enc sa).map bv) := g6
  have HBD := Lib.hid hbD
  simp only [Rg.putAll, List.take_succ_cons, List.take_zero, List.drop_succ_cons, List.drop_zero, List.setIfInBounds_toArray, List.set_cons_succ, List.set_cons_zero, g3', g4']
  generalize vals 6 = u6 at *
  have HO6 := Lib.hid g6'
  clear g0 g1 g2 g3 g4 g5 g6 hbD g3' g4' g6'
  have hmapD : KMap wD m n D := HMap5.out.kept (Sl.grown_below HBD.out none) (by simp)
  have HMapD := Lib.hid hmapD
  clear hmapD
  go_wp2_with (at_mapUpdate; refine wpList_mapUpdate_own _ rfl _ _ _ 58 rfl 3 64 int_law Try.underlying58 keptR m n D rfl HMapD.out (by unfold maxLen; omega) (.int .i64 p) u6 (.int .i64 p) rfl rfl (key_int HI.out) (.held u6) [] rfl ?_)
  intro w7 hmap7 hgr7
  have hboxD := (HBD.out.block s (Array.getElem?_eq_some_iff.1 HBox5.out).1).trans HBox5.out
  have hrowD : OwnI wD B (.slice a4 q.length c4) q := ownsRow_below HRow5.out HBD.out
  have hsm : s ≠ m := HS3.out.ne
  have hvm4 : (Value.slice a4 q.length c4).ownBlock ≠ some m := by
    obtain ⟨es, ck, h1, _⟩ := HMapD.out
    have hr : wD.ownsRow B 3 1 (.slice a4 q.length c4) q.length (q.map zv) := hrowD
    rcases hr.2 with ⟨e1, _⟩ | ⟨g, cap, cur, e1, _, hg, _⟩
    · rw [e1]; intro h2; cases h2
    · rw [e1]
      intro h2
      obtain rfl : g = m := Option.some.inj h2
      rw [hg] at h1
      cases h1
  have hbox7 : w7.heap[s]? = some (.cells #[.int .i64 ev, .int .i64 mo, .slice a4 q.length c4, .map (some m)] soT) := (hgr7.block s (Array.getElem?_eq_some_iff.1 hboxD).1 (by simpa using hsm)).trans hboxD
  have hrow7 : OwnI w7 B (.slice a4 q.length c4) q := own_other hrowD hgr7 (fun j hj => by obtain rfl := Option.some.inj hj; exact hvm4)
  have hT7 : Turns s m (Value.slice ar pl.length cr).ownBlock W w7 := (HT5.out.trans (Turns.of_below HBD.out) (.inl rfl)).trans (Turns.of_map (o := (Value.slice ar pl.length cr).ownBlock) hgr7) (.inl rfl)
  have hqm : ∀ x ∈ q, x ∈ pl ∨ x = p := fun x hx => by rw [← HQ.out] at hx; exact ins_mem hx
  have hF : ∀ x, updF ev pl p sa f x = if x = p then sa else f x := fun x => by
    unfold updF
    rw [if_neg (fun h => h.elim HAw.out HMem.out)]
  have hu7 : ∀ x ∈ q, ∃ u, KAt (D.put (.int .i64 p) (.held u6)) x u ∧ OwnB w7 u (stateC.enc (updF ev pl p sa f x)) := fun x hx => by
    rw [hF]
    have hput : Turns s m (Value.slice a4 q.length c4).ownBlock wD w7 := Turns.of_map hgr7
    by_cases he : x = p
    · subst he
      rw [if_pos rfl]
      exact ⟨u6, kat_put HMapD.out HI.out u6, ownB_turns hboxD HMapD.out hrowD hput (own_base HO6.out (Nat.zero_le _))⟩
    · rw [if_neg he]
      obtain ⟨u, h1, h2⟩ := HU5.out x ((hqm x hx).resolve_right he)
      exact ⟨u, kat_put_other he _ _ h1, ownB_turns hboxD HMapD.out hrowD hput (ownB_below h2 HBD.out)⟩
  have hqu : Up q := by rw [← HQ.out]; exact ins_up HS.out.up p
  have hql : q.length = pl.length + 1 := HQl.out
  have hlo7 : ∀ x ∈ q, 0 ≤ x ∧ x ≤ 1000000 := fun x hx => by
    rcases hqm x hx with h | rfl
    · exact HS.out.lo x h
    · omega
  have hfi : ∀ x ∈ q, StateP (updF ev pl p sa f x) ∧ (stateC.enc (updF ev pl p sa f x)).length ≤ 1000 := fun x hx => by
    rw [hF]
    by_cases he : x = p
    · rw [if_pos he]; exact ⟨HP.out, HL.out⟩
    · rw [if_neg he]; exact HS.out.fine x ((hqm x hx).resolve_right he)
  have HKB : Hid (keepB ev mo pl p = trim mo q) := by
    show _ = _
    unfold keepB
    rw [if_neg (fun h => h.elim HAw.out HMem.out), HQ.out]
  have HBox7 := Lib.hid hbox7
  have HRow7 := Lib.hid hrow7
  have HMap7 := Lib.hid hmap7
  have HT7 := Lib.hid hT7
  have HU7 := Lib.hid hu7
  have HQu := Lib.hid hqu
  have HLo7 := Lib.hid hlo7
  have HFi := Lib.hid hfi
  have hqle : q.length ≤ 10001 := by omega
  clear hboxD hrowD hsm hvm4 hrow7 hgr7 hT7 hqm hF hu7 hqu hql hlo7 hfi hmap7
  obtain ⟨⟨y0, y1, y2, y3⟩, _⟩ := so_cells hbox7
  clear hbox7 y0 y3
  go_upto_region 6 with fail
  by_cases hle : (q.length : Int) ≤ mo
  · have u1 : decide (mo < (q.length : Int)) = false := decide_eq_false (by omega)
    have u2 : ¬ mo < (q.length : Int) := by omega
    go_quiet (fail)
    go_wp2_with fail
    refine bodyPost_end (v := .tuple #[]) (results_none rfl _ _ _) rfl ?_
    have hs7 : Sto w7 B s m (.slice a4 q.length c4) ev mo q (updF ev pl p sa f) (n + 1) :=
      ⟨HS.out.sB, HS.out.mB, HBox7.out, HRow7.out, ⟨_, HMap7.out, HU7.out⟩, HQu.out, HLo7.out, HS.out.ev1, HS.out.mo1, hle, by have := HQl.out; have := HS.out.ln; omega, HFi.out⟩
    refine ⟨rfl, _, ?_, HT7.out.trans (Turns.of_below (drewN_below _ _)) (.inl rfl), HAt4.out⟩
    rw [HKB.out]
    unfold trim
    rw [if_pos hle]
    exact hs7.below (drewN_below _ _)
  · have u1 : decide (mo < (q.length : Int)) = true := decide_eq_true (by omega)
    have u2 : mo < (q.length : Int) := by omega
    have hq1 : (q.length : Int) = mo + 1 := by have := HQl.out; have := HS.out.le; omega
    have HQ1 := Lib.hid hq1
    clear hq1
    go_quiet (fail)
    go_wp2_with fail
    have hb7 := drewN_below w7 nq
    have hbox8 : (w7.drewN nq).heap[s]? = some (.cells #[.int .i64 ev, .int .i64 mo, .slice a4 q.length c4, .map (some m)] soT) := HBox7.out
    have hrow8 : OwnI (w7.drewN nq) B (.slice a4 q.length c4) q := HRow7.out
    have hmap8 : KMap (w7.drewN nq) m (n + 1) (D.put (.int .i64 p) (.held u6)) := HMap7.out
    refine (drop_calls (w7.drewN nq) B s m (.slice a4 q.length c4) ev mo q (n + 1) _ hbox8 hrow8 hmap8 HLo7.out HS.out.mo1 HQ1.out (by omega) (by have := HT7.out.size; have := hb7.size; omega)).mono ?_
    rintro r w8 ⟨rfl, v8, hbox9, hrow9, hmap9, hT9, hob⟩
    have hT8 : Turns s m (Value.slice ar pl.length cr).ownBlock W (w7.drewN nq) := HT7.out.trans (Turns.of_below hb7) (.inl rfl)
    have hbt := bestTo_ge q (lastOf mo q - 1)
    have hbl : bestTo q (lastOf mo q - 1) < q.length := by
      have h1 := HQ1.out
      have h2 := HS.out.mo1
      unfold lastOf at hbt ⊢
      split at hbt <;> rename_i hm1
      · rw [if_pos hm1] at *; omega
      · rw [if_neg hm1] at *; omega
    have hatw : (Value.slice a4 q.length c4).ownBlock = (Value.slice ar pl.length cr).ownBlock ∨ ∀ b, (Value.slice a4 q.length c4).ownBlock = some b → W.heap.size ≤ b := by
      cases hq : (Value.slice a4 q.length c4).ownBlock with
      | none => exact .inr (fun b hb => by cases hb)
      | some g =>
        by_cases hl : g < W.heap.size
        · exact .inl (HAt4.out g hq hl).symm
        · exact .inr (fun b hb => by obtain rfl := Option.some.inj hb; omega)
    have hT10 := hT8.trans hT9 hatw
    have hs9 : Sto w8 B s m v8 ev mo (q.eraseIdx (bestTo q (lastOf mo q - 1))) (updF ev pl p sa f) (n + 1) := by
      refine ⟨HS.out.sB, HS.out.mB, hbox9, hrow9, ⟨_, hmap9, fun x hx => ?_⟩, HQu.out.sublist (List.eraseIdx_sublist _ _), fun x hx => HLo7.out x (up_ne HQu.out hbl hx).1, HS.out.ev1, HS.out.mo1, ?_, ?_, fun x hx => HFi.out x (up_ne HQu.out hbl hx).1⟩
      · obtain ⟨hxq, hne⟩ := up_ne HQu.out hbl hx
        obtain ⟨u, h1, h2⟩ := HU7.out x hxq
        exact ⟨u, kat_del_other hne _ h1, ownB_turns hbox8 hmap8 hrow8 hT9 h2⟩
      · rw [List.length_eraseIdx, if_pos hbl]
        have := HQ1.out
        omega
      · rw [List.length_eraseIdx, if_pos hbl]
        have := HQl.out
        have := HS.out.ln
        omega
    have HS9 := Lib.hid hs9
    have HT10 := Lib.hid hT10
    have HOb := Lib.hid hob
    clear hbox8 hrow8 hmap8 hbox9 hrow9 hmap9 hT9 hT8 hbt hatw hT10 hs9 hob y1 y2 u1 u2 hb7
    go_wp2_with fail
    refine bodyPost_end (v := .tuple #[]) (results_none rfl _ _ _) rfl ?_
    refine ⟨rfl, v8, ?_, HT10.out, fun g hg hl => HAt4.out g (HOb.out ▸ hg) hl⟩
    rw [HKB.out]
    unfold trim
    rw [if_neg (by omega)]
    exact HS9.out
end Go.Proofs.Ytmhofdoifgfjfaa
