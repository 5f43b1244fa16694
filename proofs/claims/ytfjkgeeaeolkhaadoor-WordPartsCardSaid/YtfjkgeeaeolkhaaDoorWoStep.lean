/-
  Word: what a step of the reader leaves; a brace's word. Conditions: as each contract says.
-/
import Derived.Test.YtfjkgeeaeolkhaaDoorWoParam
set_option linter.unusedVariables false
set_option linter.unusedSimpArgs false
set_option maxRecDepth 100000
namespace Go.Proofs.YtfjkgeeaeolkhaaDoor
open Go.RowKit Base Wo

theorem Turn.weaken {b : Nat} {o : Option Nat} {W W' : World} (h : Turn b none W W') : Turn b o W W' := ⟨h.os, h.tape, h.output, h.size, fun k hk h1 _ => h.block k hk h1 (fun e => by cases e)⟩
/-- What a step leaves: the parts that it puts, and the text behind; or a panic. -/
def StepR (W : World) (b B : Nat) (v : Value) (l : List Prt) (d : Nat) (x : Except Int Em) (r : Ending) (W' : World) : Prop :=
  Turn b v.ownBlock W W' ∧ match x with
    | .error e => r = panEnd e
    | .ok y => r = .returned (.tuple #[]) ∧ ∃ v', Rd W' b B v' (puts l y.1) y.2 d ∧ ∀ g, v'.ownBlock = some g → g < W.heap.size → v.ownBlock = some g
theorem step_put {W W1 W2 : World} {b B : Nat} {v : Value} {l : List Prt} {p : Prt} {s : Nm} {d : Nat} {r : Ending} (ht : Turn b none W W1) (h : PutPost W1 b B v (putP l p) s d r W2) : StepR W b B v l d (.ok ([p], s)) r W2 := by
  obtain ⟨h1, v', h2, h3, h4⟩ := h
  exact ⟨ht.weaken.trans_same h3, h1, v', h2, fun g hg hlt => h4 g hg (Nat.lt_of_lt_of_le hlt ht.size)⟩
def PartPost (W : World) (b B : Nat) (v : Value) (l : List Prt) (s : Nm) (d : Nat) (r : Ending) (W' : World) : Prop := ∃ f x, partM f d s = some x ∧ StepR W b B v l d x r W'
/-- The table of operations lies there. -/
abbrev gOps : Nat := 0
def OpsT (W : World) : Prop := ∃ t fr, W.heap[gOps]? = some (.cells (opsL.map fun o => Value.string (str o)).toArray t fr)
theorem OpsT.below {W W' : World} (h : OpsT W) (hb : Below W.heap.size W W') : OpsT W' := by
  obtain ⟨t, fr, h⟩ := h
  exact ⟨t, fr, (hb.block _ (Array.getElem?_eq_some_iff.1 h).1).trans h⟩
theorem OpsT.lt {W : World} (h : OpsT W) : gOps < W.heap.size := by
  obtain ⟨t, fr, h⟩ := h
  exact (Array.getElem?_eq_some_iff.1 h).1
theorem OpsT.turn {W W' : World} {b : Nat} {o : Option Nat} (h : OpsT W) (ht : Turn b o W W') (h1 : gOps < b) (h2 : ∀ g, o = some g → gOps < g) : OpsT W' := by
  obtain ⟨t, fr, h⟩ := h
  exact ⟨t, fr, (ht.block _ (Array.getElem?_eq_some_iff.1 h).1 (by omega) (fun e => by have := h2 _ e.symm; omega)).trans h⟩
/-- The contract of a part, for texts shorter than n. -/
def PartIH (n : Nat) : Prop := ∀ (W : World) (b B : Nat) (v : Value) (l : List Prt) (s : Nm) (d : Nat), Rd W b B v l s d → s.length < n → wt l + 2 * s.length ≤ 100000 → B ≤ W.heap.size → OpsT W → gOps < B →
  Calls Tryd.prog 17 #[.pointer (some ⟨b, 0, none⟩)] W (PartPost W b B v l s d)
/-! ### A loop over steps -/
def addE (ps : List Prt) : Except Int Em → Except Int Em
  | .error e => .error e
  | .ok y => .ok (ps ++ y.1, y.2)
theorem addE_nil (x : Except Int Em) : addE [] x = x := by cases x <;> rfl
theorem addE_add (ps qs : List Prt) (x : Except Int Em) : addE ps (addE qs x) = addE (ps ++ qs) x := by
  cases x with
  | error e => rfl
  | ok y => simp [addE]
/-- What a loop from s on tells is what it tells from q on, the parts ps ahead of it. -/
def Upto (step : Nat → Nm → M Em) (stop : Nm → Bool) (s : Nm) (ps : List Prt) (q : Nm) : Prop := ∀ F x, loopM (step F) stop F q = some x → ∃ G, loopM (step G) stop G s = some (addE ps x)
theorem upto_start (step : Nat → Nm → M Em) (stop : Nm → Bool) (s : Nm) : Upto step stop s [] s := fun F x h => ⟨F, by rw [addE_nil]; exact h⟩
theorem loop_step {step : Nat → Nm → M Em} {stop : Nm → Bool} (hm : ∀ f g s, f ≤ g → Le (step f s) (step g s)) {q q' : Nm} {f : Nat} {p : List Prt} (hs : stop q = false) (h : step f q = some (.ok (p, q'))) {F : Nat} {x : Except Int Em} (hx : loopM (step F) stop F q' = some x) :
    ∃ G, loopM (step G) stop G q = some (addE p x) := by
  refine ⟨max f F + 1, ?_⟩
  have h1 := le_eq (hm f (max f F + 1) q (by omega)) h
  have h2 := le_eq (le_loop (stop := stop) (fun s => hm F (max f F + 1) s (by omega)) q' (show F ≤ max f F by omega)) hx
  rw [loopM, hs, h1]
  simp only [Bool.false_eq_true, if_false, bnd, h2]
  cases x with
  | error e => rfl
  | ok y => rfl
theorem upto_step {step : Nat → Nm → M Em} {stop : Nm → Bool} (hm : ∀ f g s, f ≤ g → Le (step f s) (step g s)) {s q q' : Nm} {ps p : List Prt} {f : Nat} (hu : Upto step stop s ps q) (hs : stop q = false) (h : step f q = some (.ok (p, q'))) : Upto step stop s (ps ++ p) q' := by
  intro F x hx
  obtain ⟨G, hG⟩ := loop_step hm hs h hx
  obtain ⟨G2, hG2⟩ := hu G _ hG
  exact ⟨G2, by rw [hG2, addE_add]⟩
theorem upto_err {step : Nat → Nm → M Em} {stop : Nm → Bool} (hm : ∀ f g s, f ≤ g → Le (step f s) (step g s)) {s q : Nm} {ps : List Prt} {f : Nat} {e : Int} (hu : Upto step stop s ps q) (hs : stop q = false) (h : step f q = some (.error e)) : ∃ G, loopM (step G) stop G s = some (.error e) := by
  have h1 := le_eq (hm f (f + 1) q (by omega)) h
  exact hu (f + 1) (.error e) (by rw [loopM, hs, h1]; rfl)
theorem upto_done {step : Nat → Nm → M Em} {stop : Nm → Bool} {s q : Nm} {ps : List Prt} (hu : Upto step stop s ps q) (hs : stop q = true) : ∃ G, loopM (step G) stop G s = some (.ok (ps, q)) := by
  obtain ⟨G, hG⟩ := hu 1 (.ok ([], q)) (by rw [loopM, hs]; rfl)
  exact ⟨G, by rw [hG]; simp [addE]⟩
theorem len_wt (l : List Prt) : l.length ≤ wt l := by
  induction l with
  | nil => exact Nat.le_refl _
  | cons p r ih => rw [wt_cons, List.length_cons]; omega
theorem wt_put (l : List Prt) (p : Prt) : wt (putP l p) ≤ wt l + wt [p] := by
  rcases snoc_cases l with rfl | ⟨m, x, rfl⟩
  · rw [put_nil, wt_nil]; omega
  · rw [put_snoc]
    split
    · rw [wt_append, wt_append, wt_cons, wt_cons, wt_cons, wt_nil]
      show _ + ((x.t ++ p.t).length + 1 + 0) ≤ _
      rw [List.length_append]; omega
    · rw [wt_append, wt_append, wt_cons, wt_cons, wt_cons, wt_nil]; omega
theorem wt_puts : ∀ (ps l : List Prt), wt (puts l ps) ≤ wt l + wt ps
  | [], l => by show wt l ≤ _; omega
  | p :: r, l => by
    have h1 := wt_puts r (putP l p)
    have h2 := wt_put l p
    rw [wt_cons] at h2 ⊢
    rw [wt_nil] at h2
    show wt (puts (putP l p) r) ≤ _
    omega
theorem part_less {f d : Nat} {s q : Nm} {p : List Prt} (h : partM f d s = some (.ok (p, q))) : q.length < s.length ∧ wt p + 2 * q.length ≤ 2 * s.length := by
  have := part_sat f d s
  rw [h] at this
  exact ⟨this.1, this.2.1⟩
/-- A brace's word, and what ends it. -/
def WithinPost (W : World) (b B : Nat) (v : Value) (l : List Prt) (s : Nm) (d : Nat) (r : Ending) (W' : World) : Prop :=
  ∃ f x, withinM f d s = some x ∧ Turn b none W W' ∧ match x with
    | .error e => r = panEnd e
    | .ok y => ∃ u, r = .returned u ∧ Rd W' b B v l y.2 d ∧ TreeH (8 - d) (fun g => W.heap.size ≤ g) W' u y.1
theorem build_rd (w : World) (s : ByteArray) (d : Int) : (Instr.build rdT #[(1, .string s), (2, .int .i64 d)]).run Tryd.prog w = .ok (.agg #[.slice none 0 0, .string s, .int .i64 d]) w := by
  go_simp
theorem within_ok {f d : Nat} {s : Nm} {y : Em} (h : loopM (partM f (d + 1)) (has [125]) f s = some (.ok y)) : withinM (f + 1) d s = some (.ok (puts [] y.1, y.2.drop 1)) := by
  unfold withinM
  rw [h]
  rfl
theorem within_er {f d : Nat} {s : Nm} {e : Int} (h : loopM (partM f (d + 1)) (has [125]) f s = some (.error e)) : withinM (f + 1) d s = some (.error e) := by
  unfold withinM
  rw [h]
  rfl
theorem hm_part (d : Nat) : ∀ f g s, f ≤ g → Le (partM f d s) (partM g d s) := fun f g s h => le_part d s h
set_option maxHeartbeats 4000000 in
theorem within_calls {n : Nat} (ih : PartIH n) (W : World) (b B : Nat) (v : Value) (l : List Prt) (s : Nm) (d : Nat) (h : Rd W b B v l s d) (hn : s.length < n) (hw : wt l + 2 * s.length ≤ 100000) (hB : B ≤ W.heap.size) (hO : OpsT W) (hg : gOps < B) (hd : d < 8) :
    Calls Tryd.prog 35 #[.pointer (some ⟨b, 0, none⟩)] W (WithinPost W b B v l s d) := by
  have HIH : Hid (PartIH n) := ih
  have HH := Lib.hid h
  have HO := Lib.hid hO
  obtain ⟨⟨c0, c1, c2⟩, f0, f1, f2⟩ := rd_cells h.box
  obtain ⟨T, hT⟩ : ∃ T, W.heap.size = T := ⟨_, rfl⟩
  have HT := Lib.hid hT
  have HC1 := Lib.hid c1
  have HC2 := Lib.hid c2
  clear ih h hT hO
  go_enter Tryd.func35, Tryd.ntmps35
  go_upto_region 1 with fail
  clear c0 c1 c2 f0 f1 f2
  refine Rg.wp_region_rgt 10 [] [Rg.Is (.pointer (some ⟨b, 0, none⟩)), Rg.Is (.pointer (some ⟨b, 0, none⟩)), Rg.Is (.pointer (some ⟨b, 0 + 1, none⟩)), Rg.Is (.string (str s)), Rg.Is (.pointer (some ⟨b, 0, none⟩)), Rg.Is (.pointer (some ⟨b, 0, none⟩)), Rg.Is (.pointer (some ⟨b, 0 + 2, none⟩)), Rg.Is (.int .i64 (d : Int)), Rg.Is (.int .i64 ((d : Int) + 1)), Rg.Is (.agg #[.slice none 0 0, .string (str s), .int .i64 ((d : Int) + 1)])] (by kernel_rfl) (by kernel_rfl) (of_decide_eq_true (by kernel_rfl)) (by kernel_rfl) (by kernel_rfl) ⟨Rg.st_is _, Rg.st_is _, Rg.st_is _, Rg.st_is _, Rg.st_is _, Rg.st_is _, Rg.st_is _, Rg.st_is _, Rg.st_is _, Rg.st_is _, trivial⟩ ⟨rfl, rfl, rfl, rfl, rfl, rfl, rfl, rfl, rfl, rfl, trivial⟩ ⟨?_, ?_, ?_, ?_, ?_, ?_, ?_, ?_, ?_, ?_, trivial⟩ ?_
  · intro _ a wx hb hk
    have h0 : a.eval (.tmp 0) = .pointer (some ⟨b, 0, none⟩) := Eq.mp (by kernel_rfl) (hk 0 (by decide))
    exact Rg.does_move ⟨Below.refl _ _, h0⟩
  · intro _ a wx hb hk
    have h4 : a.eval (.tmp 4) = .pointer (some ⟨b, 0, none⟩) := Eq.mp (by kernel_rfl) (hk 4 (by decide))
    exact Ap.does_nil _ h4 ⟨Below.refl _ _, rfl⟩
  · intro _ a wx hb hk
    have h5 : a.eval (.tmp 5) = .pointer (some ⟨b, 0, none⟩) := Eq.mp (by kernel_rfl) (hk 5 (by decide))
    exact Rs.does_field _ _ h5 (fld_rd b 0 1 (by decide) wx) ⟨Below.refl _ _, rfl⟩
  · intro _ a wx hb hk
    have h6 : a.eval (.tmp 6) = .pointer (some ⟨b, 0 + 1, none⟩) := Eq.mp (by kernel_rfl) (hk 6 (by decide))
    exact Rg.does_load _ _ h6 (load_str (cell_below hb (Nat.le_refl _) HC1.out)) ⟨Below.refl _ _, rfl⟩
  · intro _ a wx hb hk
    have h0 : a.eval (.tmp 0) = .pointer (some ⟨b, 0, none⟩) := Eq.mp (by kernel_rfl) (hk 0 (by decide))
    exact Rg.does_move ⟨Below.refl _ _, h0⟩
  · intro _ a wx hb hk
    have h8 : a.eval (.tmp 8) = .pointer (some ⟨b, 0, none⟩) := Eq.mp (by kernel_rfl) (hk 8 (by decide))
    exact Ap.does_nil _ h8 ⟨Below.refl _ _, rfl⟩
  · intro _ a wx hb hk
    have h9 : a.eval (.tmp 9) = .pointer (some ⟨b, 0, none⟩) := Eq.mp (by kernel_rfl) (hk 9 (by decide))
    exact Rs.does_field _ _ h9 (fld_rd b 0 2 (by decide) wx) ⟨Below.refl _ _, rfl⟩
  · intro _ a wx hb hk
    have h10 : a.eval (.tmp 10) = .pointer (some ⟨b, 0 + 2, none⟩) := Eq.mp (by kernel_rfl) (hk 10 (by decide))
    exact Rg.does_load _ _ h10 (load_int (cell_below hb (Nat.le_refl _) HC2.out)) ⟨Below.refl _ _, rfl⟩
  · intro _ a wx hb hk
    have h11 : a.eval (.tmp 11) = .int .i64 (d : Int) := Eq.mp (by kernel_rfl) (hk 11 (by decide))
    exact Rg.does_bin .i64 _ _ _ h11 rfl (Sw.run_add (by omega) (by omega)) ⟨Below.refl _ _, rfl⟩
  · intro _ a wx hb hk
    have h7 : a.eval (.tmp 7) = .string (str s) := Eq.mp (by kernel_rfl) (hk 7 (by decide))
    have h12 : a.eval (.tmp 12) = .int .i64 ((d : Int) + 1) := Eq.mp (by kernel_rfl) (hk 12 (by decide))
    exact Ap.does_buildS #[(1, .string (str s)), (2, .int .i64 ((d : Int) + 1))] _ (by simp [h7, h12]) (build_rd wx _ _) ⟨Below.refl _ _, rfl⟩
  intro vals wD hbD hL
  obtain ⟨g0, g1, g2, g3, g4, g5, g6, g7, g8, g9, _⟩ := hL
  have e9 : vals 9 = .agg #[.slice none 0 0, .string (str s), .int .i64 ((d : Int) + 1)] := g9
  simp only [Rg.putAll, List.take_succ_cons, List.take_zero, List.drop_succ_cons, List.drop_zero, List.setIfInBounds_toArray, List.set_cons_succ, List.set_cons_zero, e9]
  clear g0 g1 g2 g3 g4 g5 g6 g7 g8 g9 e9
  obtain ⟨N, hN⟩ : ∃ N, wD.heap.size = N := ⟨_, rfl⟩
  obtain ⟨w1, hw1⟩ : ∃ w1, wD.alloc (.cells #[.slice none 0 0, .string (str s), .int .i64 ((d : Int) + 1)] rdT) = w1 := ⟨_, rfl⟩
  have HW1 := Lib.hid hw1
  have HN := Lib.hid hN
  have HNW : Hid (W.heap.size ≤ N) := by have := hbD.size; show _ ≤ _; omega
  have hal : Below wD.heap.size wD w1 := by rw [← hw1]; exact (Below.refl _ _).alloc (Nat.le_refl _) _
  have HB1 : Hid (Below W.heap.size W w1) := hbD.trans (hal.mono hbD.size)
  have HR1 : Hid (Rd w1 N N (.slice none 0 0) [] s (d + 1)) := ⟨by rw [← hw1, ← hN]; exact heap_alloc_new wD _, Nat.le_refl _, row_nil _ _ _, by omega⟩
  have HS1 : Hid (N ≤ w1.heap.size) := by have := hal.size; show _ ≤ _; omega
  clear hw1 hbD hal hN
  go_wp2_with fail
  rw [HW1.out, HN.out]
  go_loopw [] (fun wr => ∃ (vi : Value) (ps : List Prt) (q : Nm), Rd wr N N vi (puts [] ps) q (d + 1) ∧ Upto (fun f => partM f (d + 1)) (has [125]) s ps q ∧ wt ps + 2 * q.length ≤ 2 * s.length ∧ Below W.heap.size W wr) (fun wr => match wr.cell? ⟨N, 1, none⟩ with | some (.string t) => t.size | _ => 0)
  case atStart => exact ⟨_, [], s, HR1.out, upto_start _ _ _, by rw [wt_nil]; omega, HB1.out⟩
  case round =>
    obtain ⟨vi, ps, q, hr, hu, hq, hb⟩ := hrel
    have HR := Lib.hid hr
    have HU := Lib.hid hu
    have HB := Lib.hid hb
    have hqn : q.length ≤ s.length := by omega
    clear hr hu hb
    go_wp2_with fail
    refine (has_calls wr N N vi _ q (d + 1) HR.out [125]).mono ?_
    rintro r w2 ⟨rfl, rfl⟩
    by_cases hh : has [125] q = true
    · rw [hh]
      have HD := Lib.hid (upto_done HU.out hh)
      have hq1 : 1 ≤ q.length := by simpa using has_len hh
      clear hh
      go_wp2_with fail
      refine (take_yes _ N N vi _ q (d + 1) HR.out 1 (by omega) hq1).mono ?_
      rintro r w3 ⟨rfl, hw3⟩
      have HR3 : Hid (Rd w3 N N vi (puts [] ps) (q.drop 1) (d + 1)) := by show Rd _ _ _ _ _ _ _; rw [hw3]; exact (HR.out.text _).1
      have HB3 : Hid (Below W.heap.size W w3) := by show Below _ _ _; rw [hw3]; exact HB.out.setCell (p := ⟨N, 1, none⟩) HNW.out _
      clear hw3
      have HH3 := Lib.hid (HH.out.below HB3.out)
      obtain ⟨⟨c0, c1, c2⟩, f0, f1, f2⟩ := rd_cells HR3.out.box
      obtain ⟨⟨b0, b1, b2⟩, z0, z1, z2⟩ := rd_cells HH3.out.box
      have hbN : ¬ N = b := by have := HH.out.lt; have := HNW.out; omega
      have hbN2 : ¬ b = N := fun e => hbN e.symm
      go_wp2_with fail
      go_ret
      obtain ⟨G, hG⟩ := HD.out
      have hTx := HH3.out.text (q.drop 1)
      rw [List.drop_one] at hTx
      refine ⟨G + 1, _, within_ok hG, ((Turn.of_below HB3.out).trans_same hTx.2), vi, rfl, by rw [List.drop_one]; exact hTx.1, ?_⟩
      have ht := row_tree HR3.out.row
      rw [show 8 - (d + 1) + 1 = 8 - d by omega] at ht
      refine tree_less (fun g hg _ => Nat.le_trans HNW.out hg) (tree_keep (W := w3) (fun g X hg hX => ?_) ht)
      exact (Sl.setCells_grown b [.string (str q.tail)] 1 w3).block g (Array.getElem?_eq_some_iff.1 hX).1 (fun e => by have := Option.some.inj e; have := HH.out.lt; have := HNW.out; omega)
    · have hh : has [125] q = false := by simpa using hh
      rw [hh]
      have HHq : Hid (has [125] q = false) := hh
      clear hh
      have HWt : Hid (wt (puts [] ps) + 2 * q.length ≤ 100000) := by have := wt_puts ps []; rw [wt_nil] at this; show _ ≤ _; omega
      have HNs : Hid (N ≤ w2.heap.size) := Nat.le_of_lt HR.out.lt
      go_wp2_with fail
      refine (HIH.out w2 N N vi _ q (d + 1) HR.out (by omega) HWt.out HNs.out (HO.out.below HB.out) (Nat.lt_of_lt_of_le HO.out.lt HNW.out)).mono ?_
      rintro r w3 ⟨f, x, hx, ht, hp⟩
      have hB3 : Below W.heap.size W w3 := HB.out.trans (ht.below HNW.out (fun g hg => Nat.le_trans HNW.out (HR.out.own g hg).1) HB.out.size)
      cases x with
      | error e =>
        obtain rfl := hp
        obtain ⟨G, hG⟩ := upto_err (hm_part (d + 1)) HU.out HHq.out hx
        exact ⟨rfl, G + 1, _, within_er hG, Turn.of_below hB3, rfl⟩
      | ok y =>
        obtain ⟨rfl, v', hr', _⟩ := hp
        have hl := part_less (p := y.1) (q := y.2) hx
        have HR3 : Hid (Rd w3 N N v' (puts [] (ps ++ y.1)) y.2 (d + 1)) := by show Rd _ _ _ _ _ _ _; rw [puts_append]; exact hr'
        have HU3 := Lib.hid (upto_step (p := y.1) (q' := y.2) (hm_part (d + 1)) HU.out HHq.out hx)
        have HB3 := Lib.hid hB3
        have hc3 := (rd_cells hr'.box).1.2.1
        have hc2 := (rd_cells HR.out.box).1.2.1
        clear hr' hB3 hx ht
        go_wp2_with fail
        go_roundw
        case rel => exact ⟨v', ps ++ y.1, y.2, HR3.out, HU3.out, by rw [wt_append]; omega, HB3.out⟩
        case measure => rw [hc3, hc2]; exact hl.1
end Go.Proofs.YtfjkgeeaeolkhaaDoor
