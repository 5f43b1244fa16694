/-
  Whether two are the same: rows of variables, rows of texts, Envs. Conditions: rows are not too long.
-/
import Derived.Test.YtchmpkgjjkfjcaaDoorEnWalks6
import Derived.Test.YtchmpkgjjkfjcaaDoorRegionT
import Derived.Laws.StructEq
set_option linter.unusedVariables false
set_option maxRecDepth 100000
namespace Go.Proofs.YtchmpkgjjkfjcaaDoor
open Go.RowKit Base

theorem does_bin_agg {P : Program} {a : Act} {w : World} {post : Value → World → Prop} {dst : Option Tmp} {op : BinOp} {x y : Operand} {t u : TypeId} {ty : TypeId} {pos : String} {after : Array Edge} {guard : Option (Nat × Bool)} (xs ys : Array Value) (v : Value)
    (hx : a.eval x = .agg xs) (hy : a.eval y = .agg ys) (hm2 : P.eqGuardType P.depth t = false) (hr : (binOp op t (.agg xs) (.agg ys)).run P w = .ok v w) (hp : post v w) : Rg.does P { dst, op := .binOp op t x y u, type := ty, pos, after, guard } a w post := by
  refine Rg.does_value (v := v) ?_ hp
  simp [execOp, hx, hy, run_eqGuard_agg, hm2, hr, Result.andThen]
theorem eq_var (a b c d : ByteArray) (w : World) : (Op.equalIn 10000 36 (.agg #[.string a, .string b]) (.agg #[.string c, .string d])).run Tryd.prog w = .ok (a.toList == c.toList && b.toList == d.toList) w := by
  have u9 := Tryd.underlying9
  have hS : Tryd.prog.underlying 36 = some (.struct (Tryd.prog.fieldsOf 36)) := by kernel_rfl
  have hp : Tryd.prog.stoodInHeld 36 = false := by kernel_rfl
  rw [show (10000 : Nat) = 9999 + 1 from rfl, run_equalIn_agg w 9999 36 _ _ hS hp]
  simp only [Program.fieldsOf, Tryd.underlying36]
  go_simp
  by_cases h1 : a.toList = c.toList <;> by_cases h2 : b.toList = d.toList <;> simp [h1, h2]
theorem neq_var (x y : Vr) (w : World) : (binOp .neq 36 (.agg #[.string (str x.1), .string (str x.2)]) (.agg #[.string (str y.1), .string (str y.2)])).run Tryd.prog w = .ok (.bool (!decide (x = y))) w := by
  rw [run_neq_struct, eq_var, str_toList, str_toList, str_toList, str_toList]
  have : (x.1 == y.1 && x.2 == y.2) = decide (x = y) := by
    rw [Bool.eq_iff_iff]
    simp [Prod.ext_iff]
  rw [this]
  rfl
theorem load_var {w : World} {b o : Nat} {x y : Value} (h0 : w.cell? ⟨b, o, none⟩ = some x) (h1 : w.cell? ⟨b, o + 1, none⟩ = some y) : (Instr.loadAt 36 (.pointer (some ⟨b, o, none⟩))).run Tryd.prog w = .ok (.agg #[x, y]) w := by
  go_simp
theorem load_txt {w : World} {b o : Nat} {x : Value} (h0 : w.cell? ⟨b, o, none⟩ = some x) : (Instr.loadAt 9 (.pointer (some ⟨b, o, none⟩))).run Tryd.prog w = .ok x w := by
  go_simp
theorem neq_txt (x y : Nm) (t : TypeId) (w : World) : (binOp .neq t (.string (str x)) (.string (str y))).run Tryd.prog w = .ok (.bool (!decide (x = y))) w := by
  rw [binOp_string_neq]
  have : ((str x).toList == (str y).toList) = decide (x = y) := by rw [str_toList, str_toList, Bool.eq_iff_iff]; simp
  rw [this]
  rfl
theorem take_step {α : Type} {l m : List α} {k : Nat} (h : l.take k = m.take k) (h1 : k < l.length) (h2 : k < m.length) (he : l[k] = m[k]) : l.take (k + 1) = m.take (k + 1) := by
  rw [List.take_add_one, List.take_add_one, List.getElem?_eq_getElem h1, List.getElem?_eq_getElem h2, he, h]
theorem ne_step {α : Type} {l m : List α} {k : Nat} (h1 : k < l.length) (h2 : k < m.length) (he : ¬ l[k] = m[k]) : l ≠ m := fun e => by subst e; exact he rfl
theorem all_step {α : Type} {l m : List α} (hl : l.length = m.length) (h : l.take l.length = m.take l.length) : l = m := by
  rw [List.take_length, hl, List.take_length] at h
  exact h
set_option maxHeartbeats 4000000 in
theorem en_equal_calls (w : World) (a1 : Option Addr) (n1 c1 : Nat) (l : List Vr) (a2 : Option Addr) (n2 c2 : Nat) (m : List Vr) (h1 : Vrs w a1 n1 c1 l) (h2 : Vrs w a2 n2 c2 m) (hl : l.length ≤ 1000000) (hm : m.length ≤ 1000000) :
    Calls Tryd.prog 32 #[.slice a1 n1 c1, .slice a2 n2 c2] w fun e w' => e = .returned (.bool (decide (l = m))) ∧ Below w.heap.size w w' := by
  obtain rfl := h1.1
  obtain rfl := h2.1
  have H1 := Lib.hid h1
  have H2 := Lib.hid h2
  clear h1 h2
  by_cases hnm : l.length = m.length
  · have d1 : decide ((l.length : Int) = (m.length : Int)) = true := decide_eq_true (by omega)
    have d2 : ((l.length : Int) == (m.length : Int)) = true := by rw [beq_iff_eq]; omega
    have d3 : ((l.length : Int) != (m.length : Int)) = false := by rw [bne_eq_false_iff_eq]; omega
    have d4 : (l.length : Int) = (m.length : Int) := by omega
    have HNM := Lib.hid hnm
    clear hnm
    go_enter Tryd.func32, Tryd.ntmps32
    go_upto_region 3 with fail
    clear d1 d2 d3 d4
    go_wp2_with fail
    go_loopw [5, 13] (fun _ v13 wr => ∃ k : Nat, k ≤ l.length ∧ v13 = .int .i64 k ∧ Hid (l.take k = m.take k) ∧ Below w.heap.size w wr) (fun _ v13 _ => l.length - (intOf v13).toNat)
    case atStart => exact ⟨0, Nat.zero_le _, rfl, Lib.hid rfl, Below.refl _ _⟩
    case round =>
      obtain ⟨k, hk, rfl, HT, hb⟩ := hrel
      have HB := Lib.hid hb
      clear hb
      by_cases hlt : k < l.length
      · have hlt2 : k < m.length := by have := HNM.out; omega
        obtain ⟨b1, off1, hc1, hx1⟩ := vrs_at (H1.out.below (Ap.stable_cellsAt vrC) HB.out)
        obtain ⟨b2, off2, hc2, hx2⟩ := vrs_at (H2.out.below (Ap.stable_cellsAt vrC) HB.out)
        have HX1 := Lib.hid fun W => hx1 25 Tryd.underlying25 .i64 k W hlt
        have HX2 := Lib.hid fun W => hx2 25 Tryd.underlying25 .i64 k W hlt2
        have HC1 := Lib.hid (hc1 k hlt)
        have HC2 := Lib.hid (hc2 k hlt2)
        have HEq := Lib.hid fun h => take_step HT.out hlt hlt2 h
        have HNe := Lib.hid fun h => ne_step hlt hlt2 h
        clear hc1 hc2 hx1 hx2
        generalize l[k]'hlt = x at *
        generalize m[k]'hlt2 = y at *
        generalize off1 + k * 2 = q1 at *
        generalize off2 + k * 2 = q2 at *
        have u3 : decide (k < l.length) = true := decide_eq_true (by omega)
        have u1 : decide ((k : Int) < (l.length : Int)) = true := decide_eq_true (by omega)
        have u2 : (k : Int) < (l.length : Int) := by omega
        go_upto_region 6 with fail
        refine Rg.wp_region_rgt 9 [] [Rg.Is (.slice a1 l.length c1), Rg.Is (.int .i64 (k : Int)), Rg.Is (.pointer (some ⟨b1, q1, none⟩)), Rg.Is (.agg #[.string (str x.1), .string (str x.2)]), Rg.Is (.slice a2 m.length c2), Rg.Is (.int .i64 (k : Int)), Rg.Is (.pointer (some ⟨b2, q2, none⟩)), Rg.Is (.agg #[.string (str y.1), .string (str y.2)]), Rg.Is (.bool (!decide (x = y)))] (by kernel_rfl) (by kernel_rfl) (of_decide_eq_true (by kernel_rfl)) (by kernel_rfl) (by kernel_rfl) ⟨Rg.st_is _, Rg.st_is _, Rg.st_is _, Rg.st_is _, Rg.st_is _, Rg.st_is _, Rg.st_is _, Rg.st_is _, Rg.st_is _, trivial⟩ ⟨rfl, rfl, rfl, rfl, rfl, rfl, rfl, rfl, rfl, trivial⟩ ⟨?_, ?_, ?_, ?_, ?_, ?_, ?_, ?_, ?_, trivial⟩ ?_
        · intro _ a wx hb hk
          have h0 : a.eval (.tmp 0) = .slice a1 l.length c1 := Eq.mp (by kernel_rfl) (hk 0 (by decide))
          exact Rg.does_move ⟨Below.refl _ _, h0⟩
        · intro _ a wx hb hk
          have h5 : a.eval (.tmp 5) = .int .i64 (k : Int) := Eq.mp (by kernel_rfl) (hk 5 (by decide))
          exact Rg.does_move ⟨Below.refl _ _, h5⟩
        · intro _ a wx hb hk
          have h16 : a.eval (.tmp 16) = .slice a1 l.length c1 := Eq.mp (by kernel_rfl) (hk 16 (by decide))
          have h17 : a.eval (.tmp 17) = .int .i64 (k : Int) := Eq.mp (by kernel_rfl) (hk 17 (by decide))
          exact Rg.does_index _ _ _ h16 h17 (HX1.out wx) ⟨Below.refl _ _, rfl⟩
        · intro _ a wx hb hk
          have h18 : a.eval (.tmp 18) = .pointer (some ⟨b1, q1, none⟩) := Eq.mp (by kernel_rfl) (hk 18 (by decide))
          exact Rg.does_load _ _ h18 (load_var (cell_below hb (Nat.le_refl _) HC1.out.1) (cell_below hb (Nat.le_refl _) HC1.out.2)) ⟨Below.refl _ _, rfl⟩
        · intro _ a wx hb hk
          have h1 : a.eval (.tmp 1) = .slice a2 m.length c2 := Eq.mp (by kernel_rfl) (hk 1 (by decide))
          exact Rg.does_move ⟨Below.refl _ _, h1⟩
        · intro _ a wx hb hk
          have h5 : a.eval (.tmp 5) = .int .i64 (k : Int) := Eq.mp (by kernel_rfl) (hk 5 (by decide))
          exact Rg.does_move ⟨Below.refl _ _, h5⟩
        · intro _ a wx hb hk
          have h20 : a.eval (.tmp 20) = .slice a2 m.length c2 := Eq.mp (by kernel_rfl) (hk 20 (by decide))
          have h21 : a.eval (.tmp 21) = .int .i64 (k : Int) := Eq.mp (by kernel_rfl) (hk 21 (by decide))
          exact Rg.does_index _ _ _ h20 h21 (HX2.out wx) ⟨Below.refl _ _, rfl⟩
        · intro _ a wx hb hk
          have h22 : a.eval (.tmp 22) = .pointer (some ⟨b2, q2, none⟩) := Eq.mp (by kernel_rfl) (hk 22 (by decide))
          exact Rg.does_load _ _ h22 (load_var (cell_below hb (Nat.le_refl _) HC2.out.1) (cell_below hb (Nat.le_refl _) HC2.out.2)) ⟨Below.refl _ _, rfl⟩
        · intro _ a wx hb hk
          have h19 : a.eval (.tmp 19) = .agg #[.string (str x.1), .string (str x.2)] := Eq.mp (by kernel_rfl) (hk 19 (by decide))
          have h23 : a.eval (.tmp 23) = .agg #[.string (str y.1), .string (str y.2)] := Eq.mp (by kernel_rfl) (hk 23 (by decide))
          exact does_bin_agg _ _ _ h19 h23 (by kernel_rfl) (neq_var x y wx) ⟨Below.refl _ _, rfl⟩
        intro vals wD hbD hL
        obtain ⟨g0, g1, g2, g3, g4, g5, g6, g7, g8, _⟩ := hL
        have g8' : vals 8 = .bool (!decide (x = y)) := g8
        have HBD := Lib.hid hbD
        clear g0 g1 g2 g3 g4 g5 g6 g7 g8 hbD
        simp only [Rg.putAll, List.take_succ_cons, List.take_zero, List.drop_succ_cons, List.drop_zero, List.setIfInBounds_toArray, List.set_cons_succ, List.set_cons_zero, g8']
        clear g8'
        have HB2 := Lib.hid (HB.out.trans (HBD.out.mono HB.out.size))
        by_cases e : x = y
        · have HE2 := Lib.hid (HEq.out e)
          have dd : (!decide (x = y)) = false := by rw [decide_eq_true e]; rfl
          rw [dd]
          clear e dd
          go_wp2_with fail
          go_roundw
          case rel => exact ⟨k + 1, by omega, by go_num, HE2, HB2.out⟩
          case measure => simp [intOf]; omega
        · have HE2 : Hid (decide (l = m) = false) := decide_eq_false (HNe.out e)
          have dd : (!decide (x = y)) = true := by rw [decide_eq_false e]; rfl
          rw [dd]
          clear e dd
          go_wp2_with fail
          go_ret
          rw [HE2.out]
          exact ⟨rfl, HB2.out⟩
      · obtain rfl : k = l.length := by omega
        have HE2 : Hid (decide (l = m) = true) := decide_eq_true (all_step HNM.out HT.out)
        have u3 : decide (l.length < l.length) = false := decide_eq_false (by omega)
        have u1 : decide ((l.length : Int) < (l.length : Int)) = false := decide_eq_false (by omega)
        have u2 : ¬ ((l.length : Int) < (l.length : Int)) := by omega
        go_wp2_with fail
        go_ret
        rw [HE2.out]
        exact ⟨rfl, HB.out⟩
  · have d1 : decide ((l.length : Int) = (m.length : Int)) = false := decide_eq_false (by omega)
    have d2 : ((l.length : Int) == (m.length : Int)) = false := by rw [beq_eq_false_iff_ne]; omega
    have d3 : ((l.length : Int) != (m.length : Int)) = true := by rw [bne_iff_ne]; omega
    have d4 : ¬ (l.length : Int) = (m.length : Int) := by omega
    have HE2 : Hid (decide (l = m) = false) := decide_eq_false (fun e => hnm (by rw [e]))
    clear hnm
    go_enter Tryd.func32, Tryd.ntmps32
    go_wp2_with fail
    go_ret
    rw [HE2.out]
    exact ⟨rfl, Below.refl _ _⟩
set_option maxHeartbeats 4000000 in
theorem st_equal_calls (w : World) (a1 : Option Addr) (n1 c1 : Nat) (l : List Nm) (a2 : Option Addr) (n2 c2 : Nat) (m : List Nm) (h1 : Sts w a1 n1 c1 l) (h2 : Sts w a2 n2 c2 m) (hl : l.length ≤ 1000000) (hm : m.length ≤ 1000000) :
    Calls Tryd.prog 33 #[.slice a1 n1 c1, .slice a2 n2 c2] w fun e w' => e = .returned (.bool (decide (l = m))) ∧ Below w.heap.size w w' := by
  obtain rfl := h1.1
  obtain rfl := h2.1
  have H1 := Lib.hid h1
  have H2 := Lib.hid h2
  clear h1 h2
  by_cases hnm : l.length = m.length
  · have d1 : decide ((l.length : Int) = (m.length : Int)) = true := decide_eq_true (by omega)
    have d2 : ((l.length : Int) == (m.length : Int)) = true := by rw [beq_iff_eq]; omega
    have d3 : ((l.length : Int) != (m.length : Int)) = false := by rw [bne_eq_false_iff_eq]; omega
    have d4 : (l.length : Int) = (m.length : Int) := by omega
    have HNM := Lib.hid hnm
    clear hnm
    go_enter Tryd.func33, Tryd.ntmps33
    go_upto_region 3 with fail
    clear d1 d2 d3 d4
    go_wp2_with fail
    go_loopw [5, 13] (fun _ v13 wr => ∃ k : Nat, k ≤ l.length ∧ v13 = .int .i64 k ∧ Hid (l.take k = m.take k) ∧ Below w.heap.size w wr) (fun _ v13 _ => l.length - (intOf v13).toNat)
    case atStart => exact ⟨0, Nat.zero_le _, rfl, Lib.hid rfl, Below.refl _ _⟩
    case round =>
      obtain ⟨k, hk, rfl, HT, hb⟩ := hrel
      have HB := Lib.hid hb
      clear hb
      by_cases hlt : k < l.length
      · have hlt2 : k < m.length := by have := HNM.out; omega
        obtain ⟨b1, off1, hc1, hx1⟩ := sts_at (H1.out.below (Ap.stable_cellsAt stC) HB.out)
        obtain ⟨b2, off2, hc2, hx2⟩ := sts_at (H2.out.below (Ap.stable_cellsAt stC) HB.out)
        have HX1 := Lib.hid fun W => hx1 26 Tryd.underlying26 .i64 k W hlt
        have HX2 := Lib.hid fun W => hx2 26 Tryd.underlying26 .i64 k W hlt2
        have HC1 := Lib.hid (hc1 k hlt)
        have HC2 := Lib.hid (hc2 k hlt2)
        have HEq := Lib.hid fun h => take_step HT.out hlt hlt2 h
        have HNe := Lib.hid fun h => ne_step hlt hlt2 h
        clear hc1 hc2 hx1 hx2
        generalize l[k]'hlt = x at *
        generalize m[k]'hlt2 = y at *
        generalize off1 + k = q1 at *
        generalize off2 + k = q2 at *
        have u3 : decide (k < l.length) = true := decide_eq_true (by omega)
        have u1 : decide ((k : Int) < (l.length : Int)) = true := decide_eq_true (by omega)
        have u2 : (k : Int) < (l.length : Int) := by omega
        go_upto_region 6 with fail
        refine Rg.wp_region_rgt 9 [] [Rg.Is (.slice a1 l.length c1), Rg.Is (.int .i64 (k : Int)), Rg.Is (.pointer (some ⟨b1, q1, none⟩)), Rg.Is (.string (str x)), Rg.Is (.slice a2 m.length c2), Rg.Is (.int .i64 (k : Int)), Rg.Is (.pointer (some ⟨b2, q2, none⟩)), Rg.Is (.string (str y)), Rg.Is (.bool (!decide (x = y)))] (by kernel_rfl) (by kernel_rfl) (of_decide_eq_true (by kernel_rfl)) (by kernel_rfl) (by kernel_rfl) ⟨Rg.st_is _, Rg.st_is _, Rg.st_is _, Rg.st_is _, Rg.st_is _, Rg.st_is _, Rg.st_is _, Rg.st_is _, Rg.st_is _, trivial⟩ ⟨rfl, rfl, rfl, rfl, rfl, rfl, rfl, rfl, rfl, trivial⟩ ⟨?_, ?_, ?_, ?_, ?_, ?_, ?_, ?_, ?_, trivial⟩ ?_
        · intro _ a wx hb hk
          have h0 : a.eval (.tmp 0) = .slice a1 l.length c1 := Eq.mp (by kernel_rfl) (hk 0 (by decide))
          exact Rg.does_move ⟨Below.refl _ _, h0⟩
        · intro _ a wx hb hk
          have h5 : a.eval (.tmp 5) = .int .i64 (k : Int) := Eq.mp (by kernel_rfl) (hk 5 (by decide))
          exact Rg.does_move ⟨Below.refl _ _, h5⟩
        · intro _ a wx hb hk
          have h16 : a.eval (.tmp 16) = .slice a1 l.length c1 := Eq.mp (by kernel_rfl) (hk 16 (by decide))
          have h17 : a.eval (.tmp 17) = .int .i64 (k : Int) := Eq.mp (by kernel_rfl) (hk 17 (by decide))
          exact Rg.does_index _ _ _ h16 h17 (HX1.out wx) ⟨Below.refl _ _, rfl⟩
        · intro _ a wx hb hk
          have h18 : a.eval (.tmp 18) = .pointer (some ⟨b1, q1, none⟩) := Eq.mp (by kernel_rfl) (hk 18 (by decide))
          exact Rg.does_load _ _ h18 (load_txt (cell_below hb (Nat.le_refl _) HC1.out)) ⟨Below.refl _ _, rfl⟩
        · intro _ a wx hb hk
          have h1 : a.eval (.tmp 1) = .slice a2 m.length c2 := Eq.mp (by kernel_rfl) (hk 1 (by decide))
          exact Rg.does_move ⟨Below.refl _ _, h1⟩
        · intro _ a wx hb hk
          have h5 : a.eval (.tmp 5) = .int .i64 (k : Int) := Eq.mp (by kernel_rfl) (hk 5 (by decide))
          exact Rg.does_move ⟨Below.refl _ _, h5⟩
        · intro _ a wx hb hk
          have h20 : a.eval (.tmp 20) = .slice a2 m.length c2 := Eq.mp (by kernel_rfl) (hk 20 (by decide))
          have h21 : a.eval (.tmp 21) = .int .i64 (k : Int) := Eq.mp (by kernel_rfl) (hk 21 (by decide))
          exact Rg.does_index _ _ _ h20 h21 (HX2.out wx) ⟨Below.refl _ _, rfl⟩
        · intro _ a wx hb hk
          have h22 : a.eval (.tmp 22) = .pointer (some ⟨b2, q2, none⟩) := Eq.mp (by kernel_rfl) (hk 22 (by decide))
          exact Rg.does_load _ _ h22 (load_txt (cell_below hb (Nat.le_refl _) HC2.out)) ⟨Below.refl _ _, rfl⟩
        · intro _ a wx hb hk
          have h19 : a.eval (.tmp 19) = .string (str x) := Eq.mp (by kernel_rfl) (hk 19 (by decide))
          have h23 : a.eval (.tmp 23) = .string (str y) := Eq.mp (by kernel_rfl) (hk 23 (by decide))
          exact Sw.does_bin_str _ _ _ h19 h23 (neq_txt x y _ wx) ⟨Below.refl _ _, rfl⟩
        intro vals wD hbD hL
        obtain ⟨g0, g1, g2, g3, g4, g5, g6, g7, g8, _⟩ := hL
        have g8' : vals 8 = .bool (!decide (x = y)) := g8
        have HBD := Lib.hid hbD
        clear g0 g1 g2 g3 g4 g5 g6 g7 g8 hbD
        simp only [Rg.putAll, List.take_succ_cons, List.take_zero, List.drop_succ_cons, List.drop_zero, List.setIfInBounds_toArray, List.set_cons_succ, List.set_cons_zero, g8']
        clear g8'
        have HB2 := Lib.hid (HB.out.trans (HBD.out.mono HB.out.size))
        by_cases e : x = y
        · have HE2 := Lib.hid (HEq.out e)
          have dd : (!decide (x = y)) = false := by rw [decide_eq_true e]; rfl
          rw [dd]
          clear e dd
          go_wp2_with fail
          go_roundw
          case rel => exact ⟨k + 1, by omega, by go_num, HE2, HB2.out⟩
          case measure => simp [intOf]; omega
        · have HE2 : Hid (decide (l = m) = false) := decide_eq_false (HNe.out e)
          have dd : (!decide (x = y)) = true := by rw [decide_eq_false e]; rfl
          rw [dd]
          clear e dd
          go_wp2_with fail
          go_ret
          rw [HE2.out]
          exact ⟨rfl, HB2.out⟩
      · obtain rfl : k = l.length := by omega
        have HE2 : Hid (decide (l = m) = true) := decide_eq_true (all_step HNM.out HT.out)
        have u3 : decide (l.length < l.length) = false := decide_eq_false (by omega)
        have u1 : decide ((l.length : Int) < (l.length : Int)) = false := decide_eq_false (by omega)
        have u2 : ¬ ((l.length : Int) < (l.length : Int)) := by omega
        go_wp2_with fail
        go_ret
        rw [HE2.out]
        exact ⟨rfl, HB.out⟩
  · have d1 : decide ((l.length : Int) = (m.length : Int)) = false := decide_eq_false (by omega)
    have d2 : ((l.length : Int) == (m.length : Int)) = false := by rw [beq_eq_false_iff_ne]; omega
    have d3 : ((l.length : Int) != (m.length : Int)) = true := by rw [bne_iff_ne]; omega
    have d4 : ¬ (l.length : Int) = (m.length : Int) := by omega
    have HE2 : Hid (decide (l = m) = false) := decide_eq_false (fun e => hnm (by rw [e]))
    clear hnm
    go_enter Tryd.func33, Tryd.ntmps33
    go_wp2_with fail
    go_ret
    rw [HE2.out]
    exact ⟨rfl, Below.refl _ _⟩
end Go.Proofs.YtchmpkgjjkfjcaaDoor
