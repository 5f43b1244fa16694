/-
  Any parameter's value. Conditions: as each law says.
-/
import Derived.Test.YtchmpkgjjkfjcaaDoorEnArg
set_option linter.unusedVariables false
set_option maxRecDepth 100000
namespace Go.Proofs.YtchmpkgjjkfjcaaDoor
open Go.RowKit Base

/-- What is got. -/
def gotB (l : List Vr) (A : List Nm) (st : Int) (fl s : Nm) : Option Nm :=
  if nameB s = true then getB l s
  else if s = [] then none
  else if s = [63] then some (Lib.itoa st)
  else if s = [35] then some (Lib.itoa (A.length : Int))
  else if s = [45] then some fl
  else if s = [64] ∨ s = [42] then (if A = [] then none else some (Lib.join A ((ifsB l).take 1)))
  else argP A s
def GetPost (w : World) (x : Option Nm) (e : Ending) (w' : World) : Prop := e = .returned (.tuple #[.string (str (x.getD [])), .bool x.isSome]) ∧ Below w.heap.size w w'
theorem tl_eq (s : Nm) (k : Nm) : ((str s).toList == k) = decide (s = k) := by
  rw [str_toList, Bool.eq_iff_iff]
  simp
theorem does_min {P : Program} {a : Act} {w : World} {post : Value → World → Prop} {dst : Option Tmp} {x y : Operand} {ats : Array TypeId} {ty : TypeId} {pos : String} {after : Array Edge} {guard : Option (Nat × Bool)} (k : IntKind) (m n : Int)
    (hx : a.eval x = .int k m) (hy : a.eval y = .int k n) (hp : post (.int k (if n < m then n else m)) w) : Rg.does P { dst, op := .call { callee := .builtin .min, args := #[x, y], argTypes := ats }, type := ty, pos, after, guard } a w post := by
  refine Rg.does_value (v := .int k (if n < m then n else m)) ?_ hp
  have := run_min_int2 (P := P) (w := w) ats ty k k m n
  simp [execOp, resolve, invoke, builtin, hx, hy, this, Result.andThen]
theorem env_f1 (b : Nat) (w : World) : (Instr.fieldAt 28 (.pointer (some ⟨b, 0, none⟩)) 1).run Tryd.prog w = .ok (.pointer (some ⟨b, 1, none⟩)) w := by rfl
theorem load_strs {w : World} {ad : Addr} {v : Value} (h : w.cell? ad = some v) : (Instr.loadAt 26 (.pointer (some ad))).run Tryd.prog w = .ok v w := by
  go_simp
theorem take_min (I : Nm) : I.take (min I.length 1) = I.take 1 := by
  cases I with
  | nil => rfl
  | cons x r => rw [show min (x :: r).length 1 = 1 by rw [List.length_cons]; omega]
theorem min_int (n : Nat) : (if (1 : Int) < (n : Int) then (1 : Int) else (n : Int)) = ((min n 1 : Nat) : Int) := by
  split <;> omega
set_option maxHeartbeats 4000000 in
theorem en_get_calls (w : World) (a : Option Addr) (n c : Nat) (l : List Vr) (st : Int) (fl s : Nm) (ga : Option Addr) (gn gc : Nat) (A : List Nm) (h : Vrs w a n c l) (hr : Rises l) (hl : l.length ≤ 1000000) (hA : Sts w ga gn gc A) (hs : s.length ≤ 281474976710656) (hL : Lw w)
    (hlA : A.length ≤ 100000) (hst : -9223372036854775808 ≤ st ∧ st ≤ 9223372036854775807) (hj : (s = [64] ∨ s = [42]) → (Lib.join A ((ifsB l).take 1)).length ≤ 10000000) :
    Calls Tryd.prog 9 #[.agg #[.slice a n c, .slice ga gn gc, .int .i64 st, .string (str fl)], .string (str s)] w (GetPost w (gotB l A st fl s)) := by
  by_cases hn : nameB s = true
  · refine (en_get_name_calls w a n c l st fl s ga gn gc h hr hl (by omega) hn).mono ?_
    rintro e w' ⟨rfl, hb⟩
    have hg : gotB l A st fl s = getB l s := if_pos hn
    unfold GetPost
    rw [hg, get_isSome]
    exact ⟨rfl, hb⟩
  have hn2 : nameB s = false := by simpa using hn
  obtain rfl := h.1
  obtain rfl := hA.1
  have HN := Lib.hid fun W => name_calls W s (by omega)
  have HNm := Lib.hid hn2
  have HIt := Lib.hid fun W (h : Lw W) => en_itoa_calls W st hst h.tab
  have HIl := Lib.hid fun W (h : Lw W) => en_itoa_calls W (A.length : Int) ⟨by omega, by omega⟩ h.tab
  have HIfs := Lib.hid fun W (hv : Vrs W a l.length c l) => en_ifs_calls W a l.length c l st fl ga A.length gc hv hr hl
  have HArg := Lib.hid fun W (hh : Sts W ga A.length gc A) h0 hL => en_argument_calls W a l.length c st fl ga A.length gc A s hh hs h0 hL
  have HJ := Lib.hid hj
  have HG : Hid (gotB l A st fl s = if s = [] then none else if s = [63] then some (Lib.itoa st) else if s = [35] then some (Lib.itoa (A.length : Int)) else if s = [45] then some fl else if s = [64] ∨ s = [42] then (if A = [] then none else some (Lib.join A ((ifsB l).take 1))) else argP A s) := if_neg hn
  have HLA := Lib.hid hlA
  have H := Lib.hid h
  have HA := Lib.hid hA
  have HL := Lib.hid hL
  have hbB := (Below.refl w.heap.size w).alloc (Nat.le_refl _) (.cells #[.slice a l.length c, .slice ga A.length gc, .int .i64 st, .string (str fl)] 28)
  have hb0 := heap_alloc_new w (.cells #[.slice a l.length c, .slice ga A.length gc, .int .i64 st, .string (str fl)] 28)
  have hbs : (w.alloc (.cells #[.slice a l.length c, .slice ga A.length gc, .int .i64 st, .string (str fl)] 28)).heap.size = w.heap.size + 1 := World.size_alloc ..
  have HB := Lib.hid hbB
  have HB0 := Lib.hid hb0
  have HBs := Lib.hid hbs
  clear hbB hb0 hbs h hA hL hs hst hj hn hn2 hr hl hlA
  go_enter Tryd.func9, Tryd.ntmps9
  go_upto_region 1 with fail
  generalize w.alloc (.cells #[.slice a l.length c, .slice ga A.length gc, .int .i64 st, .string (str fl)] 28) = w1 at *
  obtain ⟨⟨c0, c1, c2, c3⟩, f0, f1, f2, f3⟩ := env4 HB0.out
  go_wp2_with fail
  refine (HN.out w1).mono ?_
  rintro e w2 ⟨rfl, rfl⟩
  rw [HNm.out]
  clear HN HNm
  by_cases s1 : s = []
  · have HG2 : Hid (gotB l A st fl s = none) := by show _ = _; rw [HG.out, if_pos s1]
    have z1 : (str s).toList.isEmpty = true := by rw [str_toList, s1]; rfl
    have z2 : ((str s).toList == []) = true := by rw [tl_eq, decide_eq_true s1]
    clear HG s1
    go_wp2_with fail
    go_ret2
    unfold GetPost
    rw [HG2.out]
    exact ⟨rfl, HB.out⟩
  have z1 : (str s).toList.isEmpty = false := by rw [str_toList]; simpa using s1
  have z2 : ((str s).toList == []) = false := by rw [tl_eq, decide_eq_false s1]
  have HS1 := Lib.hid s1
  rw [if_neg s1] at HG
  clear s1
  by_cases s1 : s = [63]
  · have HG2 : Hid (gotB l A st fl s = some (Lib.itoa st)) := by show _ = _; rw [HG.out, if_pos s1]
    have z3 : ((str s).toList == [63]) = true := by rw [tl_eq, decide_eq_true s1]
    clear HG s1
    go_wp2_with fail
    refine (HIt.out w1 (HL.out.below HB.out)).mono ?_
    rintro e w2 ⟨rfl, hb2⟩
    have HB2 := Lib.hid (HB.out.trans (hb2.mono HB.out.size))
    clear hb2
    go_wp2_with fail
    go_ret2
    unfold GetPost
    rw [HG2.out]
    exact ⟨rfl, HB2.out⟩
  have z3 : ((str s).toList == [63]) = false := by rw [tl_eq, decide_eq_false s1]
  rw [if_neg s1] at HG
  clear s1
  by_cases s1 : s = [35]
  · have HG2 : Hid (gotB l A st fl s = some (Lib.itoa (A.length : Int))) := by show _ = _; rw [HG.out, if_pos s1]
    have z4 : ((str s).toList == [35]) = true := by rw [tl_eq, decide_eq_true s1]
    clear HG s1
    go_wp2_with fail
    refine (HIl.out w1 (HL.out.below HB.out)).mono ?_
    rintro e w2 ⟨rfl, hb2⟩
    have HB2 := Lib.hid (HB.out.trans (hb2.mono HB.out.size))
    clear hb2
    go_wp2_with fail
    go_ret2
    unfold GetPost
    rw [HG2.out]
    exact ⟨rfl, HB2.out⟩
  have z4 : ((str s).toList == [35]) = false := by rw [tl_eq, decide_eq_false s1]
  rw [if_neg s1] at HG
  clear s1
  by_cases s1 : s = [45]
  · have HG2 : Hid (gotB l A st fl s = some fl) := by show _ = _; rw [HG.out, if_pos s1]
    have z5 : ((str s).toList == [45]) = true := by rw [tl_eq, decide_eq_true s1]
    clear HG s1
    go_wp2_with fail
    go_ret2
    unfold GetPost
    rw [HG2.out]
    exact ⟨rfl, HB.out⟩
  have z5 : ((str s).toList == [45]) = false := by rw [tl_eq, decide_eq_false s1]
  rw [if_neg s1] at HG
  clear s1
  by_cases s1 : s = [64] ∨ s = [42]
  · have HG2 : Hid (gotB l A st fl s = if A = [] then none else some (Lib.join A ((ifsB l).take 1))) := by show _ = _; rw [HG.out, if_pos s1]
    have hj := HJ.out s1
    have z6 : (((str s).toList == [64]) = true) ∨ (((str s).toList == [64]) = false ∧ ((str s).toList == [42]) = true) := by
      rcases s1 with h | h
      · left; rw [tl_eq, decide_eq_true h]
      · right; exact ⟨by rw [tl_eq, h]; rfl, by rw [tl_eq, decide_eq_true h]⟩
    clear HG HJ s1
    obtain ⟨I, hI⟩ : ∃ I, I = ifsB l := ⟨_, rfl⟩
    rw [← hI] at HIfs HG2 hj
    clear hI
    obtain ⟨X, hX⟩ : ∃ X, X = Lib.join A (I.take 1) := ⟨_, rfl⟩
    have HX := Lib.hid hX
    have HJn := Lib.hid fun W (hv : Sts W ga A.length gc A) => join_calls W ga A.length gc A (I.take 1) hv HLA.out hj
    rw [← hX] at HJn HG2
    clear hj hX
    rcases z6 with z6 | ⟨z6, z7⟩
    all_goals
      go_wp2_with fail
      refine (HIfs.out w1 (H.out.below (Ap.stable_cellsAt vrC) HB.out)).mono ?_
      rintro e w2 ⟨rfl, hb2⟩
      have k0 := (hb2.block w.heap.size (by have := HBs.out; omega)).trans HB0.out
      have HB2 := Lib.hid (HB.out.trans (hb2.mono HB.out.size))
      clear hb2 c0 c1 c2 c3 f0 f1 f2 f3
      obtain ⟨⟨c0, c1, c2, c3⟩, f0, f1, f2, f3⟩ := env4 k0
      have HC1 := Lib.hid c1
      have HA2 := Lib.hid (HA.out.below (Ap.stable_cellsAt stC) HB2.out)
      clear k0 c0 c1 c2 c3 f0 f1 f2 f3
      obtain ⟨m, hm⟩ : ∃ m, m = min I.length 1 := ⟨_, rfl⟩
      have HM := Lib.hid hm
      have HMl : Hid (m ≤ I.length) := by show _ ≤ _; omega
      have HMi : Hid ((if (1 : Int) < ((str I).size : Int) then (1 : Int) else ((str I).size : Int)) = (m : Int)) := by show _ = _; rw [hm]; exact min_int I.length
      have HMt : Hid (I.take m = I.take 1) := by show _ = _; rw [hm]; exact take_min I
      clear hm HM
      go_upto_region 18 with fail
      refine Rg.wp_region_rgt 14 [] [Rg.Is (.pointer (some ⟨w.heap.size, 1, none⟩)), Rg.Is (.slice ga A.length gc), Rg.Is (.string (str I)), Rg.Is (.string (str I)), Rg.Is (.int .i64 ((str I).size : Int)), Rg.Is (.int .i64 (m : Int)), Rg.Is (.string (str (I.take 1))), Rg.Is (.string (str X)), Rg.Is (.pointer (some ⟨w.heap.size, 1, none⟩)), Rg.Is (.slice ga A.length gc), Rg.Is (.int .i64 (A.length : Int)), Rg.Is (.bool (decide (0 < (A.length : Int)))), Rg.Is (.string (str X)), Rg.Is (.bool (decide (0 < (A.length : Int))))] (by kernel_rfl) (by kernel_rfl) (of_decide_eq_true (by kernel_rfl)) (by kernel_rfl) (by kernel_rfl) ⟨Rg.st_is _, Rg.st_is _, Rg.st_is _, Rg.st_is _, Rg.st_is _, Rg.st_is _, Rg.st_is _, Rg.st_is _, Rg.st_is _, Rg.st_is _, Rg.st_is _, Rg.st_is _, Rg.st_is _, Rg.st_is _, trivial⟩ ⟨rfl, rfl, rfl, rfl, rfl, rfl, rfl, rfl, rfl, rfl, rfl, rfl, rfl, rfl, trivial⟩ ⟨?_, ?_, ?_, ?_, ?_, ?_, ?_, ?_, ?_, ?_, ?_, ?_, ?_, ?_, trivial⟩ ?_
      · intro _ a wx hb hk
        have h2 : a.eval (.tmp 2) = .pointer (some ⟨w.heap.size, 0, none⟩) := Eq.mp (by kernel_rfl) (hk 2 (by decide))
        exact Rs.does_field _ _ h2 (env_f1 w.heap.size wx) ⟨Below.refl _ _, rfl⟩
      · intro _ a wx hb hk
        have h48 : a.eval (.tmp 48) = .pointer (some ⟨w.heap.size, 1, none⟩) := Eq.mp (by kernel_rfl) (hk 48 (by decide))
        exact Rg.does_load _ _ h48 (load_strs (cell_below hb (Nat.le_refl _) HC1.out)) ⟨Below.refl _ _, rfl⟩
      · intro _ a wx hb hk
        have h8 : a.eval (.tmp 8) = .string (str I) := Eq.mp (by kernel_rfl) (hk 8 (by decide))
        exact Rg.does_move ⟨Below.refl _ _, h8⟩
      · intro _ a wx hb hk
        have h8 : a.eval (.tmp 8) = .string (str I) := Eq.mp (by kernel_rfl) (hk 8 (by decide))
        exact Rg.does_move ⟨Below.refl _ _, h8⟩
      · intro _ a wx hb hk
        have h51 : a.eval (.tmp 51) = .string (str I) := Eq.mp (by kernel_rfl) (hk 51 (by decide))
        exact Rs.does_len_string _ Tryd.underlying9 h51 ⟨Below.refl _ _, rfl⟩
      · intro _ a wx hb hk
        have h52 : a.eval (.tmp 52) = .int .i64 ((str I).size : Int) := Eq.mp (by kernel_rfl) (hk 52 (by decide))
        refine does_min .i64 ((str I).size : Int) 1 h52 rfl ?_
        rw [HMi.out]
        exact ⟨Below.refl _ _, rfl⟩
      · intro _ a wx hb hk
        have h50 : a.eval (.tmp 50) = .string (str I) := Eq.mp (by kernel_rfl) (hk 50 (by decide))
        have h53 : a.eval (.tmp 53) = .int .i64 (m : Int) := Eq.mp (by kernel_rfl) (hk 53 (by decide))
        refine Rg.does_slice (.string (str (I.take 1))) ?_ ⟨Below.refl _ _, rfl⟩
        rw [h50, Option.map_none, Option.map_some, h53]
        have h := Sw.run_sub_h (P := Tryd.prog) (w := wx) Tryd.underlying9 I .i64 m HMl.out
        rw [HMt.out] at h
        exact h
      · intro _ a wx hb hk
        have h49 : a.eval (.tmp 49) = .slice ga A.length gc := Eq.mp (by kernel_rfl) (hk 49 (by decide))
        have h54 : a.eval (.tmp 54) = .string (str (I.take 1)) := Eq.mp (by kernel_rfl) (hk 54 (by decide))
        refine Rg.does_func #[.slice ga A.length gc, .string (str (I.take 1))] Tryd.func28 (by kernel_rfl) (by kernel_rfl) (by simp [h49, h54]) (HJn.out wx (HA2.out.below (Ap.stable_cellsAt stC) hb)) ?_
        rintro e w' ⟨rfl, hb'⟩
        exact ⟨_, rfl, hb', rfl⟩
      · intro _ a wx hb hk
        have h2 : a.eval (.tmp 2) = .pointer (some ⟨w.heap.size, 0, none⟩) := Eq.mp (by kernel_rfl) (hk 2 (by decide))
        exact Rs.does_field _ _ h2 (env_f1 w.heap.size wx) ⟨Below.refl _ _, rfl⟩
      · intro _ a wx hb hk
        have h56 : a.eval (.tmp 56) = .pointer (some ⟨w.heap.size, 1, none⟩) := Eq.mp (by kernel_rfl) (hk 56 (by decide))
        exact Rg.does_load _ _ h56 (load_strs (cell_below hb (Nat.le_refl _) HC1.out)) ⟨Below.refl _ _, rfl⟩
      · intro _ a wx hb hk
        have h57 : a.eval (.tmp 57) = .slice ga A.length gc := Eq.mp (by kernel_rfl) (hk 57 (by decide))
        exact Rg.does_len _ _ _ Tryd.underlying26 h57 ⟨Below.refl _ _, rfl⟩
      · intro _ a wx hb hk
        have h58 : a.eval (.tmp 58) = .int .i64 (A.length : Int) := Eq.mp (by kernel_rfl) (hk 58 (by decide))
        exact Rg.does_bin .i64 _ _ (.bool (decide (0 < (A.length : Int)))) h58 rfl (by simp [binOp, Op.intCmp]) ⟨Below.refl _ _, rfl⟩
      · intro _ a wx hb hk
        have h55 : a.eval (.tmp 55) = .string (str X) := Eq.mp (by kernel_rfl) (hk 55 (by decide))
        exact Rg.does_assign ⟨Below.refl _ _, h55⟩
      · intro _ a wx hb hk
        have h59 : a.eval (.tmp 59) = .bool (decide (0 < (A.length : Int))) := Eq.mp (by kernel_rfl) (hk 59 (by decide))
        exact Rg.does_assign ⟨Below.refl _ _, h59⟩
      intro vals wD hbD hL
      obtain ⟨g0, g1, g2, g3, g4, g5, g6, g7, g8, g9, g10, g11, g12, g13, _⟩ := hL
      have g12' : vals 12 = .string (str X) := g12
      have g13' : vals 13 = .bool (decide (0 < (A.length : Int))) := g13
      have HBD := Lib.hid (HB2.out.trans (hbD.mono HB2.out.size))
      clear g0 g1 g2 g3 g4 g5 g6 g7 g8 g9 g10 g11 g12 g13 hbD
      simp only [Rg.putAll, List.take_succ_cons, List.take_zero, List.drop_succ_cons, List.drop_zero, List.setIfInBounds_toArray, List.set_cons_succ, List.set_cons_zero, g12', g13']
      clear g12' g13'
      go_wp2_with fail
      go_ret2
      unfold GetPost
      rw [HG2.out]
      refine ⟨?_, HBD.out⟩
      by_cases hA0 : A = []
      · have hx : X = [] := by rw [HX.out, hA0]; rfl
        rw [if_pos hA0, hx, hA0]
        rfl
      · have hlp : 0 < A.length := List.length_pos_iff.2 hA0
        rw [if_neg hA0, decide_eq_true hlp]
        rfl
  have z6 : ((str s).toList == [64]) = false := by rw [tl_eq, decide_eq_false (fun h => s1 (.inl h))]
  have z7 : ((str s).toList == [42]) = false := by rw [tl_eq, decide_eq_false (fun h => s1 (.inr h))]
  rw [if_neg s1] at HG
  clear s1
  go_wp2_with fail
  refine (HArg.out w1 (HA.out.below (Ap.stable_cellsAt stC) HB.out) HS1.out (HL.out.below HB.out)).mono ?_
  rintro e w2 ⟨rfl, hb2⟩
  have HB2 := Lib.hid (HB.out.trans (hb2.mono HB.out.size))
  clear hb2
  go_wp2_with fail
  go_ret2
  unfold GetPost
  rw [HG.out]
  exact ⟨rfl, HB2.out⟩
end Go.Proofs.YtchmpkgjjkfjcaaDoor
