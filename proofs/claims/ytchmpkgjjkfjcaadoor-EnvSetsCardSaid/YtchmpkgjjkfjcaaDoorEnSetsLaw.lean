/-
  EnvSets: what was set is got: the walk. Conditions: the library lies where it was laid.
-/
import Derived.Test.YtchmpkgjjkfjcaaDoorEnSets
import Derived.OneCell
import Derived.Deep.DeepCutAuto
set_option linter.unusedVariables false
set_option maxRecDepth 100000
namespace Go.Proofs.YtchmpkgjjkfjcaaDoor
open Go.RowKit Base

theorem load_env {w : World} {b : Nat} {v0 v1 v2 v3 : Value} (h0 : w.cell? ⟨b, 0, none⟩ = some v0) (h1 : w.cell? ⟨b, 1, none⟩ = some v1) (h2 : w.cell? ⟨b, 2, none⟩ = some v2) (h3 : w.cell? ⟨b, 3, none⟩ = some v3) : (Instr.loadAt 28 (.pointer (some ⟨b, 0, none⟩))).run Tryd.prog w = .ok (.agg #[v0, v1, v2, v3]) w := by
  go_simp
theorem act_f1 (b o : Nat) (w : World) : (Instr.fieldAt 31 (.pointer (some ⟨b, o, none⟩)) 1).run Tryd.prog w = .ok (.pointer (some ⟨b, o + 1, none⟩)) w := by rfl
theorem act_f2 (b o : Nat) (w : World) : (Instr.fieldAt 31 (.pointer (some ⟨b, o, none⟩)) 2).run Tryd.prog w = .ok (.pointer (some ⟨b, o + 2, none⟩)) w := by rfl
theorem var_f0 (b o : Nat) (w : World) : (Instr.fieldAt 36 (.pointer (some ⟨b, o, none⟩)) 0).run Tryd.prog w = .ok (.pointer (some ⟨b, o, none⟩)) w := by rfl
theorem env_f0 (b : Nat) (w : World) : (Instr.fieldAt 28 (.pointer (some ⟨b, 0, none⟩)) 0).run Tryd.prog w = .ok (.pointer (some ⟨b, 0, none⟩)) w := by rfl
theorem load_vars {w : World} {ad : Addr} {v : Value} (h : w.cell? ad = some v) : (Instr.loadAt 25 (.pointer (some ad))).run Tryd.prog w = .ok v w := by
  go_simp
theorem own_off {W : World} {B base : Nat} {v : Value} {l : List Vr} {X : Array Value} (h : OwnV W base v l) (hk : W.heap[B]? = some (.cells X 28)) : v.ownBlock ≠ some B := by
  have hh : W.ownsRow base 36 2 v l.length (l.flatMap vrC) := h
  rcases hh.2 with ⟨e, _⟩ | ⟨g, cap, cur, e, _, hg, _⟩
  · rw [e]; intro h2; cases h2
  · rw [e]
    intro h2
    obtain rfl : g = B := by simpa [Value.ownBlock] using h2
    rw [hg] at hk
    injection hk with hk
    injection hk with _ h3 _
    cases h3
theorem own_setE {W : World} {B base : Nat} {v : Value} {l : List Vr} {X : Array Value} (h : OwnV W base v l) (hk : W.heap[B]? = some (.cells X 28)) (u0 u1 u2 u3 : Value) : OwnV ((((W.setCell ⟨B, 0, none⟩ u0).setCell ⟨B, 1, none⟩ u1).setCell ⟨B, 2, none⟩ u2).setCell ⟨B, 3, none⟩ u3) base v l := by
  have ho := own_off h hk
  have hh : W.ownsRow base 36 2 v l.length (l.flatMap vrC) := h
  show World.ownsRow _ _ _ _ _ _ _
  exact ownsRow_setCell_other (ownsRow_setCell_other (ownsRow_setCell_other (ownsRow_setCell_other hh ho _) ho _) ho _) ho _
/-- The loop's state. -/
def SetI (w : World) (B : Nat) (m : List Vr) (W : World) : Prop := (∃ a c, Bx B w.heap.size a c m none 0 [] 0 [] W) ∧ Below w.heap.size w W
theorem neq_str (x y : Nm) (t : TypeId) (w : World) : (binOp .neq t (.string (str x)) (.string (str y))).run Tryd.prog w = .ok (.bool (!decide (x = y))) w := neq_txt x y t w
theorem geq_str (x y : Nm) (t : TypeId) (w : World) : (binOp .geq t (.string (str x)) (.string (str y))).run Tryd.prog w = .ok (.bool (!ltB x y)) w := by
  rw [← less_eq]
  simp [binOp, Op.stringOp, str_toList]
set_option maxHeartbeats 8000000 in
theorem en_sets (w : World) (sl : Option Addr) (n c : Nat) (l : List Act5) (h : Acts w sl n c l) (name value other : Nm) (hL : Lw w) :
    Calls Tryd.prog 3 #[.slice sl n c, .string (str name), .string (str value), .string (str other)] w fun e w' => e = .returned (.bool true) ∧ Below w.heap.size w w' := by
  obtain rfl := h.1
  have H := Lib.hid h
  have HL := Lib.hid hL
  clear h hL
  have hz1 : (str name).size = name.length := rfl
  have hz2 : (str other).size = other.length := rfl
  go_enter Tryd.func3, Tryd.ntmps3
  go_wp2_with fail
  refine (awake_calls w HL.out).mono ?_
  rintro e w0 ⟨rfl, hb1⟩
  have HB1 := Lib.hid hb1
  clear hb1
  go_wp2_with fail
  refine (few_calls w0 sl _ c l (H.out.below (Ap.stable_cellsAt actC5) HB1.out)).mono ?_
  rintro e w1 ⟨rfl, rfl⟩
  by_cases hf : fewB l = true
  · obtain ⟨hl60, hsz⟩ := few_sizes hf
    have HL60 := Lib.hid hl60
    have HSz := Lib.hid hsz
    rw [hf]
    clear hf hl60 hsz
    by_cases hn : name.length ≤ 60
    · have t1 : decide ((60 : Int) < (name.length : Int)) = false := decide_eq_false (by omega)
      have t1' : decide ((60 : Int) < ((str name).size : Int)) = false := decide_eq_false (by omega)
      by_cases ho : other.length ≤ 60
      · have t2 : decide ((60 : Int) < (other.length : Int)) = false := decide_eq_false (by omega)
        have t2' : decide ((60 : Int) < ((str other).size : Int)) = false := decide_eq_false (by omega)
        go_upto_region 8 with fail
        have hX0 := Bx.alloc (W := w1) (base := w.heap.size) (a := none) (c := 0) (l := []) (ga := none) (gc := 0) (A := []) ⟨World.ownsRow_nil _ _ _ _, sts_nil w1⟩ 0 []
        have hba := (Below.refl w1.heap.size w1).alloc (Nat.le_refl _) (.cells #[.slice none 0 0, .slice none 0 0, .int .i64 0, .string ⟨#[]⟩] 28)
        have H0 : Hid (SetI w w1.heap.size [] (w1.alloc (.cells #[.slice none 0 0, .slice none 0 0, .int .i64 0, .string ⟨#[]⟩] 28))) := ⟨⟨none, 0, hX0⟩, HB1.out.trans (hba.mono HB1.out.size)⟩
        clear hX0 hba t1 t1' t2 t2'
        generalize w1.alloc (.cells #[.slice none 0 0, .slice none 0 0, .int .i64 0, .string ⟨#[]⟩] 28) = w3 at *
        go_wp2_with fail
        go_loopw [12] (fun v12 wr => ∃ k : Nat, k ≤ l.length ∧ v12 = .int .i64 k ∧ SetI w w1.heap.size (setAll (l.take k)) wr) (fun v12 _ => l.length - (intOf v12).toNat)
        case atStart => exact ⟨0, Nat.zero_le _, rfl, H0.out⟩
        case round =>
          clear H0
          obtain ⟨k, hk, rfl, ⟨a1, c1, hX⟩, hlow⟩ := hrel
          have HX := Lib.hid hX
          have HLow := Lib.hid hlow
          clear hX hlow
          have hml : (setAll (l.take k)).length ≤ 60 := Nat.le_trans (setAll_len _) (by rw [List.length_take]; have := HL60.out; omega)
          have HMl := Lib.hid hml
          have HMr := Lib.hid (setAll_rises (l.take k))
          clear hml
          by_cases hlt : k < l.length
          · obtain ⟨b, off, hcs, hix⟩ := acts_at (H.out.below (Ap.stable_cellsAt actC5) HLow.out)
            have HIx := Lib.hid fun W => hix 22 Tryd.underlying22 .i64 k W hlt
            obtain ⟨x0, x1, x2, x3, x4⟩ := hcs k hlt
            have HC1 := Lib.hid x1
            have HC2 := Lib.hid x2
            have HSt := Lib.hid (setAll_step hlt)
            have HLt := Lib.hid hlt
            have HQ := Lib.hid (HSz.out k hlt)
            clear hcs hix x0 x1 x2 x3 x4
            generalize l[k]'hlt = q at *
            generalize setAll (l.take k) = m at *
            generalize off + k * 5 = q0 at *
            obtain ⟨⟨e0, e1, e2, e3⟩, _⟩ := env4 HX.out.k
            have E0 := Lib.hid e0
            have E1 := Lib.hid e1
            have E2 := Lib.hid e2
            have E3 := Lib.hid e3
            clear e0 e1 e2 e3
            have HSet := Lib.hid fun W (h : Ev W w.heap.size a1 c1 m none 0 []) hb => ev_set_calls W w.heap.size a1 c1 m none 0 [] 0 [] q.2.1 q.2.2.1 h hb HMr.out (by have := HMl.out; omega) (by have := HQ.out.1; omega)
            have u3 : decide (k < l.length) = true := decide_eq_true (by omega)
            have u1 : decide ((k : Int) < (l.length : Int)) = true := decide_eq_true (by omega)
            have u2 : (k : Int) < (l.length : Int) := by omega
            go_upto_region 11 with fail
            refine Rg.wp_region_rgt 12 [] [Rg.Is (.agg #[.slice a1 m.length c1, .slice none 0 0, .int .i64 0, .string (str [])]), Rg.Is (.slice sl l.length c), Rg.Is (.int .i64 (k : Int)), Rg.Is (.pointer (some ⟨b, q0, none⟩)), Rg.Is (.pointer (some ⟨b, q0 + 1, none⟩)), Rg.Is (.string (str q.2.1)), Rg.Is (.slice sl l.length c), Rg.Is (.int .i64 (k : Int)), Rg.Is (.pointer (some ⟨b, q0, none⟩)), Rg.Is (.pointer (some ⟨b, q0 + 2, none⟩)), Rg.Is (.string (str q.2.2.1)), (fun v w' => ∃ a c, v = .agg #[.slice a (setB q.2.1 q.2.2.1 m).length c, .slice none 0 0, .int .i64 0, .string (str [])] ∧ Ev w' w.heap.size a c (setB q.2.1 q.2.2.1 m) none 0 [])] (by kernel_rfl) (by kernel_rfl) (of_decide_eq_true (by kernel_rfl)) (by kernel_rfl) (by kernel_rfl) ⟨Rg.st_is _, Rg.st_is _, Rg.st_is _, Rg.st_is _, Rg.st_is _, Rg.st_is _, Rg.st_is _, Rg.st_is _, Rg.st_is _, Rg.st_is _, Rg.st_is _, fun v w w' h hb => h.elim fun a h => h.elim fun c h => ⟨a, c, h.1, h.2.below hb⟩, trivial⟩ ⟨rfl, rfl, rfl, rfl, rfl, rfl, rfl, rfl, rfl, rfl, rfl, rfl, trivial⟩ ⟨?_, ?_, ?_, ?_, ?_, ?_, ?_, ?_, ?_, ?_, ?_, ?_, trivial⟩ ?_
            · intro _ a wx hb hk
              have h11 : a.eval (.tmp 11) = .pointer (some ⟨w1.heap.size, 0, none⟩) := Eq.mp (by kernel_rfl) (hk 11 (by decide))
              exact Rg.does_load _ _ h11 (load_env (cell_below hb (Nat.le_refl _) E0.out) (cell_below hb (Nat.le_refl _) E1.out) (cell_below hb (Nat.le_refl _) E2.out) (cell_below hb (Nat.le_refl _) E3.out)) ⟨Below.refl _ _, rfl⟩
            · intro _ a wx hb hk
              have h0 : a.eval (.tmp 0) = .slice sl l.length c := Eq.mp (by kernel_rfl) (hk 0 (by decide))
              exact Rg.does_move ⟨Below.refl _ _, h0⟩
            · intro _ a wx hb hk
              have h12 : a.eval (.tmp 12) = .int .i64 (k : Int) := Eq.mp (by kernel_rfl) (hk 12 (by decide))
              exact Rg.does_move ⟨Below.refl _ _, h12⟩
            · intro _ a wx hb hk
              have h55 : a.eval (.tmp 55) = .slice sl l.length c := Eq.mp (by kernel_rfl) (hk 55 (by decide))
              have h56 : a.eval (.tmp 56) = .int .i64 (k : Int) := Eq.mp (by kernel_rfl) (hk 56 (by decide))
              exact Rg.does_index _ _ _ h55 h56 (HIx.out wx) ⟨Below.refl _ _, rfl⟩
            · intro _ a wx hb hk
              have h57 : a.eval (.tmp 57) = .pointer (some ⟨b, q0, none⟩) := Eq.mp (by kernel_rfl) (hk 57 (by decide))
              exact Rs.does_field _ _ h57 (act_f1 b q0 wx) ⟨Below.refl _ _, rfl⟩
            · intro _ a wx hb hk
              have h58 : a.eval (.tmp 58) = .pointer (some ⟨b, q0 + 1, none⟩) := Eq.mp (by kernel_rfl) (hk 58 (by decide))
              exact Rg.does_load _ _ h58 (load_txt (cell_below hb (Nat.le_refl _) HC1.out)) ⟨Below.refl _ _, rfl⟩
            · intro _ a wx hb hk
              have h0 : a.eval (.tmp 0) = .slice sl l.length c := Eq.mp (by kernel_rfl) (hk 0 (by decide))
              exact Rg.does_move ⟨Below.refl _ _, h0⟩
            · intro _ a wx hb hk
              have h12 : a.eval (.tmp 12) = .int .i64 (k : Int) := Eq.mp (by kernel_rfl) (hk 12 (by decide))
              exact Rg.does_move ⟨Below.refl _ _, h12⟩
            · intro _ a wx hb hk
              have h60 : a.eval (.tmp 60) = .slice sl l.length c := Eq.mp (by kernel_rfl) (hk 60 (by decide))
              have h61 : a.eval (.tmp 61) = .int .i64 (k : Int) := Eq.mp (by kernel_rfl) (hk 61 (by decide))
              exact Rg.does_index _ _ _ h60 h61 (HIx.out wx) ⟨Below.refl _ _, rfl⟩
            · intro _ a wx hb hk
              have h62 : a.eval (.tmp 62) = .pointer (some ⟨b, q0, none⟩) := Eq.mp (by kernel_rfl) (hk 62 (by decide))
              exact Rs.does_field _ _ h62 (act_f2 b q0 wx) ⟨Below.refl _ _, rfl⟩
            · intro _ a wx hb hk
              have h63 : a.eval (.tmp 63) = .pointer (some ⟨b, q0 + 2, none⟩) := Eq.mp (by kernel_rfl) (hk 63 (by decide))
              exact Rg.does_load _ _ h63 (load_txt (cell_below hb (Nat.le_refl _) HC2.out)) ⟨Below.refl _ _, rfl⟩
            · intro _ a wx hb hk
              have h54 : a.eval (.tmp 54) = .agg #[.slice a1 m.length c1, .slice none 0 0, .int .i64 0, .string (str [])] := Eq.mp (by kernel_rfl) (hk 54 (by decide))
              have h59 : a.eval (.tmp 59) = .string (str q.2.1) := Eq.mp (by kernel_rfl) (hk 59 (by decide))
              have h64 : a.eval (.tmp 64) = .string (str q.2.2.1) := Eq.mp (by kernel_rfl) (hk 64 (by decide))
              refine Rg.does_func #[.agg #[.slice a1 m.length c1, .slice none 0 0, .int .i64 0, .string (str [])], .string (str q.2.1), .string (str q.2.2.1)] Tryd.func8 (by kernel_rfl) (by kernel_rfl) (by simp [h54, h59, h64]) (HSet.out wx (HX.out.ev.below hb) (Nat.le_trans HLow.out.size hb.size)) ?_
              rintro e w' ⟨a', c', rfl, hev, hb'⟩
              exact ⟨_, rfl, hb', a', c', rfl, hev⟩
            intro vals wD hbD hL
            obtain ⟨g0, g1, g2, g3, g4, g5, g6, g7, g8, g9, g10, g11, _⟩ := hL
            have g11' : ∃ a c, vals 11 = .agg #[.slice a (setB q.2.1 q.2.2.1 m).length c, .slice none 0 0, .int .i64 0, .string (str [])] ∧ Ev wD w.heap.size a c (setB q.2.1 q.2.2.1 m) none 0 [] := g11
            obtain ⟨a2, c2, hv, hev⟩ := g11'
            have kD := (hbD.block _ HX.out.lt).trans HX.out.k
            have hlowD := HLow.out.trans (hbD.mono HLow.out.size)
            clear g0 g1 g2 g3 g4 g5 g6 g7 g8 g9 g10 g11 hbD HSet
            simp only [Rg.putAll, List.take_succ_cons, List.take_zero, List.drop_succ_cons, List.drop_zero, List.setIfInBounds_toArray, List.set_cons_succ, List.set_cons_zero, hv]
            clear hv
            have HEv := Lib.hid hev
            have HKD := Lib.hid kD
            have HLowD := Lib.hid hlowD
            obtain ⟨⟨e0, e1, e2, e3⟩, f0, f1, f2, f3⟩ := env4 kD
            clear hev kD hlowD HX HLow
            rw [← HSt.out] at HEv ⊢
            obtain ⟨m2, hm2⟩ : ∃ m2, setAll (l.take (k + 1)) = m2 := ⟨_, rfl⟩
            have HM2 := Lib.hid hm2
            rw [hm2] at HEv ⊢
            clear hm2
            have hlt9 := HLt.out
            have hk9 : k + 1 ≤ 60 := by have := HL60.out; omega
            go_wp2_with fail
            have hBw := HB1.out.size
            go_roundw
            case rel => exact ⟨k + 1, by omega, by go_num, by rw [HM2.out]; exact ⟨⟨a2, c2, env4_set HKD.out _ _ _ _, own_setE HEv.out.own HKD.out _ _ _ _, sts_nil _⟩, (((HLowD.out.setCell hBw _).setCell hBw _).setCell hBw _).setCell hBw _⟩⟩
            case measure => simp [intOf]; omega
          · obtain rfl : k = l.length := by omega
            rw [List.take_length] at HX HMl HMr
            have u3 : decide (l.length < l.length) = false := decide_eq_false (by omega)
            have u1 : decide ((l.length : Int) < (l.length : Int)) = false := decide_eq_false (by omega)
            have u2 : ¬ ((l.length : Int) < (l.length : Int)) := by omega
            clear hk hlt HSz HL60 H
            generalize setAll l = m at *
            have hn9 : name.length ≤ 281474976710656 := by omega
            have ho9 : other.length ≤ 281474976710656 := by omega
            have hm9 := HMl.out
            have HGet := Lib.hid fun W (hw : Below w.heap.size w W) (a : Option Addr) (c : Nat) (m : List Vr) (h : Ev W w.heap.size a c m none 0 []) (hr : Rises m) (hl : m.length ≤ 100) s (hs : s.length ≤ 281474976710656) => ev_get_calls W w.heap.size a c m none 0 [] 0 [] s h hr (by omega) hs (HL.out.below hw) (by decide) ⟨by decide, by decide⟩ (fun _ => by rw [show Lib.join [] ((ifsB m).take 1) = [] from rfl]; decide)
            obtain ⟨⟨e0, e1, e2, e3⟩, f0, f1, f2, f3⟩ := env4 HX.out.k
            go_upto_region 12 with fail
            go_wp2_with fail
            refine (HGet.out wr HLow.out a1 c1 m HX.out.ev HMr.out (by omega) other ho9).mono ?_
            rintro e w4 ⟨rfl, hb4⟩
            have HX4 := Lib.hid (HX.out.below hb4)
            have HLow4 := Lib.hid (HLow.out.trans (hb4.mono HLow.out.size))
            clear e0 e1 e2 e3 f0 f1 f2 f3 hb4 HX HLow
            obtain ⟨go, hgo⟩ : ∃ go, gotB m [] 0 [] other = go := ⟨_, rfl⟩
            have Hgo := Lib.hid hgo
            rw [hgo]
            clear hgo
            obtain ⟨⟨e0, e1, e2, e3⟩, f0, f1, f2, f3⟩ := env4 HX4.out.k
            go_wp2_with fail
            refine (ev_set_calls w4 w.heap.size a1 c1 m none 0 [] 0 [] name value HX4.out.ev HLow4.out.size HMr.out (by omega) hn9).mono ?_
            rintro e w5 ⟨a5, c5, rfl, hev5, hb5⟩
            have HX5 := Lib.hid (HX4.out.below hb5)
            have HLow5 := Lib.hid (HLow4.out.trans (hb5.mono HLow4.out.size))
            have hf5 := setB_len name value m
            have HR5 := Lib.hid (setB_rises name value HMr.out)
            obtain ⟨mf, hmf⟩ : ∃ mf, setB name value m = mf := ⟨_, rfl⟩
            have HMf := Lib.hid hmf
            rw [hmf] at hev5 hf5 HR5 ⊢
            have HF6 : Hid (Bx w5.heap.size w.heap.size a5 c5 mf none 0 [] 0 [] (w5.alloc (.cells #[.slice a5 mf.length c5, .slice none 0 0, .int .i64 0, .string (str [])] 28))) := Bx.alloc hev5 0 []
            have hba := (Below.refl w5.heap.size w5).alloc (Nat.le_refl _) (.cells #[.slice a5 mf.length c5, .slice none 0 0, .int .i64 0, .string (str [])] 28)
            have HX6 := Lib.hid (HX5.out.below hba)
            have HLow6 := Lib.hid (HLow5.out.trans (hba.mono HLow5.out.size))
            clear e0 e1 e2 e3 f0 f1 f2 f3 hb5 HX4 HLow4 hev5 hmf HX5 HLow5 hba
            go_upto_region 14 with fail
            generalize w5.alloc (.cells #[.slice a5 mf.length c5, .slice none 0 0, .int .i64 0, .string (str [])] 28) = w6 at *
            obtain ⟨⟨e0, e1, e2, e3⟩, f0, f1, f2, f3⟩ := env4 HF6.out.k
            go_wp2_with fail
            refine (HGet.out w6 HLow6.out a5 c5 mf HF6.out.ev HR5.out (by omega) name hn9).mono ?_
            rintro e w7 ⟨rfl, hb7⟩
            obtain ⟨gn, hgn⟩ : ∃ gn, gotB mf [] 0 [] name = gn := ⟨_, rfl⟩
            have Hgn := Lib.hid hgn
            rw [hgn]
            clear hgn
            clear e0 e1 e2 e3 f0 f1 f2 f3
            have HX7 := Lib.hid (HX6.out.below hb7)
            have HF7 := Lib.hid (HF6.out.below hb7)
            have HLow7 := Lib.hid (HLow6.out.trans (hb7.mono HLow6.out.size))
            clear hb7 HX6 HF6 HLow6
            obtain ⟨⟨e0, e1, e2, e3⟩, f0, f1, f2, f3⟩ := env4 HF7.out.k
            go_wp2_with fail
            refine (HGet.out w7 HLow7.out a5 c5 mf HF7.out.ev HR5.out (by omega) other ho9).mono ?_
            rintro e w8 ⟨rfl, hb8⟩
            obtain ⟨gf, hgf⟩ : ∃ gf, gotB mf [] 0 [] other = gf := ⟨_, rfl⟩
            have Hgf := Lib.hid hgf
            rw [hgf]
            clear hgf
            clear e0 e1 e2 e3 f0 f1 f2 f3
            have HX8 := Lib.hid (HX7.out.below hb8)
            have HF8 := Lib.hid (HF7.out.below hb8)
            have HLow8 := Lib.hid (HLow7.out.trans (hb8.mono HLow7.out.size))
            clear hb8 HX7 HF7 HLow7
            obtain ⟨⟨e0, e1, e2, e3⟩, f0, f1, f2, f3⟩ := env4 HF8.out.k
            go_wp2_with fail
            refine (ev_unset_calls w8 w.heap.size a5 c5 mf none 0 [] 0 [] name HF8.out.ev HLow8.out.size HR5.out (by omega)).mono ?_
            rintro e w9 ⟨a9, c9, rfl, hev9, hb9⟩
            have HR9 := Lib.hid (rises_without name HR5.out)
            have hl9 := without_len name mf
            obtain ⟨mg, hmg⟩ : ∃ mg, withoutB mf name = mg := ⟨_, rfl⟩
            have HMg := Lib.hid hmg
            rw [hmg] at hev9 hl9 HR9 ⊢
            clear hmg
            clear e0 e1 e2 e3 f0 f1 f2 f3
            have HX9 := Lib.hid (HX8.out.below hb9)
            have HF9 := Lib.hid (HF8.out.below hb9)
            have HLow9 := Lib.hid (HLow8.out.trans (hb9.mono HLow8.out.size))
            clear hb9 HX8 HF8 HLow8
            have HG10 : Hid (Bx w9.heap.size w.heap.size a9 c9 mg none 0 [] 0 [] (w9.alloc (.cells #[.slice a9 mg.length c9, .slice none 0 0, .int .i64 0, .string (str [])] 28))) := Bx.alloc hev9 0 []
            have hb10 := (Below.refl w9.heap.size w9).alloc (Nat.le_refl _) (.cells #[.slice a9 mg.length c9, .slice none 0 0, .int .i64 0, .string (str [])] 28)
            clear hev9
            have HX10 := Lib.hid (HX9.out.below hb10)
            have HF10 := Lib.hid (HF9.out.below hb10)
            have HLow10 := Lib.hid (HLow9.out.trans (hb10.mono HLow9.out.size))
            clear hb10 HX9 HF9 HLow9
            go_upto_region 17 with fail
            generalize w9.alloc (.cells #[.slice a9 mg.length c9, .slice none 0 0, .int .i64 0, .string (str [])] 28) = w10 at *
            obtain ⟨⟨e0, e1, e2, e3⟩, f0, f1, f2, f3⟩ := env4 HG10.out.k
            go_wp2_with fail
            refine (HGet.out w10 HLow10.out a9 c9 mg HG10.out.ev HR9.out (by omega) name hn9).mono ?_
            rintro e w11 ⟨rfl, hb11⟩
            obtain ⟨gg, hgg⟩ : ∃ gg, gotB mg [] 0 [] name = gg := ⟨_, rfl⟩
            have Hgg := Lib.hid hgg
            rw [hgg]
            clear hgg
            clear e0 e1 e2 e3 f0 f1 f2 f3
            have HX11 := Lib.hid (HX10.out.below hb11)
            have HF11 := Lib.hid (HF10.out.below hb11)
            have HG11 := Lib.hid (HG10.out.below hb11)
            have HLow11 := Lib.hid (HLow10.out.trans (hb11.mono HLow10.out.size))
            clear hb11 HX10 HF10 HG10 HLow10
            obtain ⟨⟨e0, e1, e2, e3⟩, f0, f1, f2, f3⟩ := env4 HX11.out.k
            go_wp2_with fail
            refine (ev_set_calls w11 w.heap.size a1 c1 m none 0 [] 0 [] [97] [98] HX11.out.ev HLow11.out.size HMr.out (by omega) (by decide)).mono ?_
            rintro e w12 ⟨a12, c12, rfl, hev12, hb12⟩
            have HR12 := Lib.hid (setB_rises [97] [98] HMr.out)
            have hl12 := setB_len [97] [98] m
            have HNa : Hid (gotB (setB [97] [98] m) [] 0 [] [97] = some [98]) := got_same (by decide)
            generalize setB [97] [98] m = mn at *
            clear e0 e1 e2 e3 f0 f1 f2 f3
            have HX12 := Lib.hid (HX11.out.below hb12)
            have HF12 := Lib.hid (HF11.out.below hb12)
            have HG12 := Lib.hid (HG11.out.below hb12)
            have HLow12 := Lib.hid (HLow11.out.trans (hb12.mono HLow11.out.size))
            clear hb12 HX11 HF11 HG11 HLow11
            have HN13 : Hid (Bx w12.heap.size w.heap.size a12 c12 mn none 0 [] 0 [] (w12.alloc (.cells #[.slice a12 mn.length c12, .slice none 0 0, .int .i64 0, .string (str [])] 28))) := Bx.alloc hev12 0 []
            have hb13 := (Below.refl w12.heap.size w12).alloc (Nat.le_refl _) (.cells #[.slice a12 mn.length c12, .slice none 0 0, .int .i64 0, .string (str [])] 28)
            clear hev12
            have HX13 := Lib.hid (HX12.out.below hb13)
            have HF13 := Lib.hid (HF12.out.below hb13)
            have HG13 := Lib.hid (HG12.out.below hb13)
            have HLow13 := Lib.hid (HLow12.out.trans (hb13.mono HLow12.out.size))
            clear hb13 HX12 HF12 HG12 HLow12
            go_upto_region 19 with fail
            generalize w12.alloc (.cells #[.slice a12 mn.length c12, .slice none 0 0, .int .i64 0, .string (str [])] 28) = w13 at *
            obtain ⟨⟨e0, e1, e2, e3⟩, f0, f1, f2, f3⟩ := env4 HN13.out.k
            go_wp2_with fail
            refine (HGet.out w13 HLow13.out a12 c12 mn HN13.out.ev HR12.out (by omega) [97] (by decide)).mono ?_
            rintro e w14 ⟨rfl, hb14⟩
            rw [HNa.out, Option.getD_some, Option.isSome_some]
            clear HN13 HNa HR12 hl12
            clear e0 e1 e2 e3 f0 f1 f2 f3
            have HX14 := Lib.hid (HX13.out.below hb14)
            have HF14 := Lib.hid (HF13.out.below hb14)
            have HG14 := Lib.hid (HG13.out.below hb14)
            have HLow14 := Lib.hid (HLow13.out.trans (hb14.mono HLow13.out.size))
            clear hb14 HX13 HF13 HG13 HLow13
            have hmf61 : mf.length ≤ 61 := by omega
            have HMf61 := Lib.hid hmf61
            go_wp2_with fail
            go_loopw [26] (fun v26 wr => ∃ j : Nat, j ≤ 100 ∧ v26 = .int .i64 ((j : Int) + 1) ∧ Below w14.heap.size w14 wr) (fun v26 _ => 200 - (intOf v26).toNat)
            case atStart => exact ⟨0, by decide, rfl, Below.refl _ _⟩
            case round =>
              obtain ⟨j, hj, rfl, hbw⟩ := hrel
              have HBw := Lib.hid hbw
              have HFq := Lib.hid (HF14.out.below hbw)
              clear hbw
              obtain ⟨⟨e0, e1, e2, e3⟩, f0, f1, f2, f3⟩ := env4 HFq.out.k
              by_cases hlt : j + 1 < mf.length
              · obtain ⟨b, off, hcs, hix⟩ := vrs_at HFq.out.ev.vrs
                have HIx1 := Lib.hid fun W => hix 25 Tryd.underlying25 .i64 j W (by omega)
                have hix2 := fun W => hix 25 Tryd.underlying25 .i64 (j + 1) W hlt
                rw [show ((j + 1 : Nat) : Int) = (j : Int) + 1 from rfl] at hix2
                have HIx2 := Lib.hid hix2
                have HC1 := Lib.hid (hcs j (by omega)).1
                have HC2 := Lib.hid (hcs (j + 1) hlt).1
                have HLt := Lib.hid (rises_step HR5.out hlt)
                clear hcs hix hix2
                generalize mf[j]'(by omega) = x at *
                generalize mf[j + 1]'hlt = y at *
                generalize off + j * 2 = q1 at *
                generalize off + (j + 1) * 2 = q2 at *
                have HE0 := Lib.hid e0
                have t1 : decide ((j : Int) + 1 < (mf.length : Int)) = true := decide_eq_true (by omega)
                have t2 : (j : Int) + 1 < (mf.length : Int) := by omega
                have HLt9 := Lib.hid hlt
                go_upto_region 25 with fail
                refine Rg.wp_region_rgt 14 [] [Rg.Is (.pointer (some ⟨w5.heap.size, 0, none⟩)), Rg.Is (.slice a5 mf.length c5), Rg.Is (.int .i64 ((j : Int) + 1)), Rg.Is (.int .i64 (j : Int)), Rg.Is (.pointer (some ⟨b, q1, none⟩)), Rg.Is (.pointer (some ⟨b, q1, none⟩)), Rg.Is (.string (str x.1)), Rg.Is (.pointer (some ⟨w5.heap.size, 0, none⟩)), Rg.Is (.slice a5 mf.length c5), Rg.Is (.int .i64 ((j : Int) + 1)), Rg.Is (.pointer (some ⟨b, q2, none⟩)), Rg.Is (.pointer (some ⟨b, q2, none⟩)), Rg.Is (.string (str y.1)), Rg.Is (.bool false)] (by kernel_rfl) (by kernel_rfl) (of_decide_eq_true (by kernel_rfl)) (by kernel_rfl) (by kernel_rfl) ⟨Rg.st_is _, Rg.st_is _, Rg.st_is _, Rg.st_is _, Rg.st_is _, Rg.st_is _, Rg.st_is _, Rg.st_is _, Rg.st_is _, Rg.st_is _, Rg.st_is _, Rg.st_is _, Rg.st_is _, Rg.st_is _, trivial⟩ ⟨rfl, rfl, rfl, rfl, rfl, rfl, rfl, rfl, rfl, rfl, rfl, rfl, rfl, rfl, trivial⟩ ⟨?_, ?_, ?_, ?_, ?_, ?_, ?_, ?_, ?_, ?_, ?_, ?_, ?_, ?_, trivial⟩ ?_
                · intro _ a wx hb hk
                  have h15 : a.eval (.tmp 15) = .pointer (some ⟨w5.heap.size, 0, none⟩) := Eq.mp (by kernel_rfl) (hk 15 (by decide))
                  exact Rs.does_field _ _ h15 (env_f0 w5.heap.size wx) ⟨Below.refl _ _, rfl⟩
                · intro _ a wx hb hk
                  have h113 : a.eval (.tmp 113) = .pointer (some ⟨w5.heap.size, 0, none⟩) := Eq.mp (by kernel_rfl) (hk 113 (by decide))
                  exact Rg.does_load _ _ h113 (load_vars (cell_below hb (Nat.le_refl _) HE0.out)) ⟨Below.refl _ _, rfl⟩
                · intro _ a wx hb hk
                  have h26 : a.eval (.tmp 26) = .int .i64 ((j : Int) + 1) := Eq.mp (by kernel_rfl) (hk 26 (by decide))
                  exact Rg.does_move ⟨Below.refl _ _, h26⟩
                · intro _ a wx hb hk
                  have h115 : a.eval (.tmp 115) = .int .i64 ((j : Int) + 1) := Eq.mp (by kernel_rfl) (hk 115 (by decide))
                  refine Rg.does_bin .i64 _ _ (.int .i64 (j : Int)) h115 rfl ?_ ⟨Below.refl _ _, rfl⟩
                  have h := Sw.run_minus (P := Tryd.prog) (w := wx) (t := 3) (a := (j : Int) + 1) (b := 1) (by omega) (by omega)
                  rw [show (j : Int) + 1 - 1 = j by omega] at h
                  exact h
                · intro _ a wx hb hk
                  have h114 : a.eval (.tmp 114) = .slice a5 mf.length c5 := Eq.mp (by kernel_rfl) (hk 114 (by decide))
                  have h116 : a.eval (.tmp 116) = .int .i64 (j : Int) := Eq.mp (by kernel_rfl) (hk 116 (by decide))
                  exact Rg.does_index _ _ _ h114 h116 (HIx1.out wx) ⟨Below.refl _ _, rfl⟩
                · intro _ a wx hb hk
                  have h117 : a.eval (.tmp 117) = .pointer (some ⟨b, q1, none⟩) := Eq.mp (by kernel_rfl) (hk 117 (by decide))
                  exact Rs.does_field _ _ h117 (var_f0 b q1 wx) ⟨Below.refl _ _, rfl⟩
                · intro _ a wx hb hk
                  have h118 : a.eval (.tmp 118) = .pointer (some ⟨b, q1, none⟩) := Eq.mp (by kernel_rfl) (hk 118 (by decide))
                  exact Rg.does_load _ _ h118 (load_txt (cell_below hb (Nat.le_refl _) HC1.out)) ⟨Below.refl _ _, rfl⟩
                · intro _ a wx hb hk
                  have h15 : a.eval (.tmp 15) = .pointer (some ⟨w5.heap.size, 0, none⟩) := Eq.mp (by kernel_rfl) (hk 15 (by decide))
                  exact Rs.does_field _ _ h15 (env_f0 w5.heap.size wx) ⟨Below.refl _ _, rfl⟩
                · intro _ a wx hb hk
                  have h120 : a.eval (.tmp 120) = .pointer (some ⟨w5.heap.size, 0, none⟩) := Eq.mp (by kernel_rfl) (hk 120 (by decide))
                  exact Rg.does_load _ _ h120 (load_vars (cell_below hb (Nat.le_refl _) HE0.out)) ⟨Below.refl _ _, rfl⟩
                · intro _ a wx hb hk
                  have h26 : a.eval (.tmp 26) = .int .i64 ((j : Int) + 1) := Eq.mp (by kernel_rfl) (hk 26 (by decide))
                  exact Rg.does_move ⟨Below.refl _ _, h26⟩
                · intro _ a wx hb hk
                  have h121 : a.eval (.tmp 121) = .slice a5 mf.length c5 := Eq.mp (by kernel_rfl) (hk 121 (by decide))
                  have h122 : a.eval (.tmp 122) = .int .i64 ((j : Int) + 1) := Eq.mp (by kernel_rfl) (hk 122 (by decide))
                  exact Rg.does_index _ _ _ h121 h122 (HIx2.out wx) ⟨Below.refl _ _, rfl⟩
                · intro _ a wx hb hk
                  have h123 : a.eval (.tmp 123) = .pointer (some ⟨b, q2, none⟩) := Eq.mp (by kernel_rfl) (hk 123 (by decide))
                  exact Rs.does_field _ _ h123 (var_f0 b q2 wx) ⟨Below.refl _ _, rfl⟩
                · intro _ a wx hb hk
                  have h124 : a.eval (.tmp 124) = .pointer (some ⟨b, q2, none⟩) := Eq.mp (by kernel_rfl) (hk 124 (by decide))
                  exact Rg.does_load _ _ h124 (load_txt (cell_below hb (Nat.le_refl _) HC2.out)) ⟨Below.refl _ _, rfl⟩
                · intro _ a wx hb hk
                  have h119 : a.eval (.tmp 119) = .string (str x.1) := Eq.mp (by kernel_rfl) (hk 119 (by decide))
                  have h125 : a.eval (.tmp 125) = .string (str y.1) := Eq.mp (by kernel_rfl) (hk 125 (by decide))
                  refine Sw.does_bin_str _ _ (.bool false) h119 h125 ?_ ⟨Below.refl _ _, rfl⟩
                  rw [geq_str, HLt.out]
                  rfl
                intro vals wD hbD hL
                obtain ⟨g0, g1, g2, g3, g4, g5, g6, g7, g8, g9, g10, g11, g12, g13, _⟩ := hL
                have g13' : vals 13 = .bool false := g13
                have HBD := Lib.hid (HBw.out.trans (hbD.mono HBw.out.size))
                clear g0 g1 g2 g3 g4 g5 g6 g7 g8 g9 g10 g11 g12 g13 hbD
                simp only [Rg.putAll, List.take_succ_cons, List.take_zero, List.drop_succ_cons, List.drop_zero, List.setIfInBounds_toArray, List.set_cons_succ, List.set_cons_zero, g13']
                clear g13' e0 e1 e2 e3 f0 f1 f2 f3
                have hlt9 := HLt9.out
                have hm61 := HMf61.out
                go_wp2_with fail
                go_roundw
                case rel => exact ⟨j + 1, by omega, by go_num, HBD.out⟩
                case measure => simp [intOf]; omega
              · have t1 : decide ((j : Int) + 1 < (mf.length : Int)) = false := decide_eq_false (by omega)
                have t2 : ¬ (j : Int) + 1 < (mf.length : Int) := by omega
                have HXq := Lib.hid (HX14.out.below HBw.out)
                have HGq := Lib.hid (HG14.out.below HBw.out)
                have HLowq := Lib.hid (HLow14.out.trans (HBw.out.mono HLow14.out.size))
                clear HX14 HF14 HG14 HLow14 HBw
                go_upto_region 27 with fail
                clear t1 t2 hlt e0 e1 e2 e3 f0 f1 f2 f3 hj
                have HGo : Hid (name ≠ other → gf = go) := by
                  show _ → _
                  intro h
                  rw [← Hgf.out, ← Hgo.out, ← HMf.out]
                  exact got_other h
                have K : (((str name).toList == (str other).toList) = true) ∨ (((str name).toList == (str other).toList) = false ∧ ((str name).toList == [73, 70, 83]) = true) ∨ (((str name).toList == (str other).toList) = false ∧ ((str name).toList == [73, 70, 83]) = false ∧ gf = go) := by
                  by_cases h1 : name = other
                  · left; rw [str_toList, str_toList, h1]; exact beq_self_eq_true _
                  · right
                    have h2 : ((str name).toList == (str other).toList) = false := by rw [str_toList, str_toList]; simpa using h1
                    by_cases h3 : name = [73, 70, 83]
                    · left; exact ⟨h2, by rw [tl_eq]; exact decide_eq_true h3⟩
                    · right; exact ⟨h2, by rw [tl_eq]; exact decide_eq_false h3, HGo.out h1⟩
                clear HGo Hgo Hgf HL HGet
                go_cut [143] from 127 to 143 (fun s8 wx => s8 = .bool false ∧ wx = wr)
                case first =>
                  rcases K with k1 | ⟨k1, k2⟩ | ⟨k1, k2, rfl⟩
                  all_goals
                    go_wp2_with fail
                    go_meet
                    exact ⟨rfl, rfl⟩
                case rest =>
                  obtain ⟨rfl, h9⟩ := hcut
                  have h9 := h9.symm
                  subst h9
                  clear K
                  go_upto_region 29 with fail
                  go_wp2_with fail
                  go_loopw [27, 28, 29] (fun v27 v28 _ wz => ∃ k : Nat, k ≤ name.length ∧ v28 = .int .i64 k ∧ v27 = .bool (nameTo name k) ∧ wz = wr) (fun _ v28 _ _ => name.length - (intOf v28).toNat)
                  case atStart => exact ⟨0, Nat.zero_le _, rfl, rfl, rfl⟩
                  case round =>
                    obtain ⟨k, hk, rfl, rfl, rfl⟩ := hrel
                    by_cases hlt : k < name.length
                    · have hix := fun W => Sw.run_at (P := Tryd.prog) (w := W) Tryd.underlying9 name .i64 k hlt
                      have HAt : Hid (nmAt name k = (ltrI (name[k].toNat : Int) || (!decide (k = 0) && digI (name[k].toNat : Int)))) := by show _ = _; unfold nmAt; rw [getD_lt hlt]
                      generalize name[k]'hlt = c at *
                      have u3 : decide (k < name.length) = true := decide_eq_true (by omega)
                      have u1 : decide ((k : Int) < (name.length : Int)) = true := decide_eq_true (by omega)
                      have u2 : (k : Int) < (name.length : Int) := by omega
                      rcases hw : nameTo name k with _ | _
                      · have HN2 : Hid (nameTo name (k + 1) = false) := by show _ = _; rw [nameTo_succ, hw]; rfl
                        clear hw
                        go_wp2_with fail
                        go_roundw
                        case rel => exact ⟨k + 1, by omega, by go_num, by rw [HN2.out], trivial⟩
                        case measure => simp [intOf]; omega
                      · have HN2 : Hid (nameTo name (k + 1) = (ltrI (c.toNat : Int) || (!decide (k = 0) && digI (c.toNat : Int)))) := by show _ = _; rw [nameTo_succ, hw, HAt.out]; rfl
                        clear hw HAt
                        go_wp2_with fail
                        all_goals
                          go_roundw
                          case rel =>
                            refine ⟨k + 1, by omega, by go_num, ?_, trivial⟩
                            rw [HN2.out]
                            refine congrArg Value.bool ?_
                            rw [Bool.eq_iff_iff]
                            simp [ltrI, digI, *]
                            try omega
                          case measure => simp [intOf]; omega
                    · obtain rfl : k = name.length := by omega
                      have u3 : decide (name.length < name.length) = false := decide_eq_false (by omega)
                      have u1 : decide ((name.length : Int) < (name.length : Int)) = false := decide_eq_false (by omega)
                      have u2 : ¬ ((name.length : Int) < (name.length : Int)) := by omega
                      by_cases hnb : nameB name = true
                      · have hp := hnb
                        unfold nameB at hp
                        rw [Bool.and_eq_true] at hp
                        have z1 : (str name).toList.isEmpty = false := by rw [str_toList]; simpa using hp.2
                        have z2 : ((str name).toList == []) = false := by rw [str_toList]; simpa using hp.2
                        have hgn : gn = some value := by rw [← Hgn.out, ← HMf.out]; exact got_same hnb
                        have hgg : gg = none := by rw [← Hgg.out, ← HMg.out]; exact got_gone hnb
                        have hlen : mg.length + 1 = mf.length := by rw [← HMg.out, ← HMf.out]; exact len_gone hnb
                        rw [hp.1, hgn, hgg, Option.getD_some, Option.isSome_some, Option.isSome_none]
                        clear hp hnb hgn hgg
                        have y1 : decide ((mg.length : Int) = (mf.length : Int) - 1) = true := decide_eq_true (by omega)
                        have y2 : (mg.length : Int) = (mf.length : Int) - 1 := by omega
                        have y3 : ((mg.length : Int) == (mf.length : Int) - 1) = true := by rw [beq_iff_eq]; omega
                        obtain ⟨⟨e0, e1, e2, e3⟩, f0, f1, f2, f3⟩ := env4 HFq.out.k
                        obtain ⟨⟨d0, d1, d2, d3⟩, g0, g1, g2, g3⟩ := env4 HGq.out.k
                        have hm9 := HMf61.out
                        go_wp2_with fail
                        go_ret
                        exact ⟨rfl, HLowq.out⟩
                      · have hn2 : nameB name = false := by simpa using hnb
                        have hmm : m = mf := by rw [← HMf.out]; exact (set_noname hn2).symm
                        have hs : Hid (sameB m mf [] [] 0 0 [] [] = true) := by show _ = _; rw [hmm]; unfold sameB; simp
                        have hm9 := HMl.out
                        have HV1 := Lib.hid HXq.out.ev.vrs
                        have HV2 := Lib.hid HFq.out.ev.vrs
                        have hf9 := HMf61.out
                        have HCall := Lib.hid (en_same_calls wr a1 m.length c1 m a5 mf.length c5 mf none 0 0 [] none 0 0 [] 0 0 [] [] HV1.out HV2.out (sts_nil _) (sts_nil _) (by omega) (by omega) (by decide) (by decide))
                        have K2 : ((str name).toList.isEmpty = true ∧ ((str name).toList == []) = true) ∨ ((str name).toList.isEmpty = false ∧ ((str name).toList == []) = false ∧ nameTo name name.length = false) := by
                          by_cases h0 : name = []
                          · left; rw [str_toList, h0]; exact ⟨rfl, rfl⟩
                          · right
                            refine ⟨by rw [str_toList]; simpa using h0, by rw [str_toList]; simpa using h0, ?_⟩
                            unfold nameB at hn2
                            rw [show name.isEmpty = false by simpa using h0] at hn2
                            simpa using hn2
                        clear hnb hn2 hmm
                        obtain ⟨⟨e0, e1, e2, e3⟩, f0, f1, f2, f3⟩ := env4 HXq.out.k
                        obtain ⟨⟨d0, d1, d2, d3⟩, g0, g1, g2, g3⟩ := env4 HFq.out.k
                        rcases K2 with ⟨z1, z2⟩ | ⟨z1, z2, z3⟩
                        · go_wp2_with fail
                          refine HCall.out.mono ?_
                          rintro e wz ⟨rfl, hbz⟩
                          rw [hs.out]
                          have HEnd := Lib.hid (HLowq.out.trans (hbz.mono HLowq.out.size))
                          clear e0 e1 e2 e3 f0 f1 f2 f3 d0 d1 d2 d3 g0 g1 g2 g3
                          go_wp2_with fail
                          go_ret
                          exact ⟨rfl, HEnd.out⟩
                        · rw [z3]
                          go_wp2_with fail
                          refine HCall.out.mono ?_
                          rintro e wz ⟨rfl, hbz⟩
                          rw [hs.out]
                          have HEnd := Lib.hid (HLowq.out.trans (hbz.mono HLowq.out.size))
                          clear e0 e1 e2 e3 f0 f1 f2 f3 d0 d1 d2 d3 g0 g1 g2 g3
                          go_wp2_with fail
                          go_ret
                          exact ⟨rfl, HEnd.out⟩
      · have t2 : decide ((60 : Int) < (other.length : Int)) = true := decide_eq_true (by omega)
        have t2' : decide ((60 : Int) < ((str other).size : Int)) = true := decide_eq_true (by omega)
        go_wp2_with fail
        go_ret
        exact ⟨rfl, HB1.out⟩
    · have t1 : decide ((60 : Int) < (name.length : Int)) = true := decide_eq_true (by omega)
      have t1' : decide ((60 : Int) < ((str name).size : Int)) = true := decide_eq_true (by omega)
      go_wp2_with fail
      go_ret
      exact ⟨rfl, HB1.out⟩
  · have hf2 : fewB l = false := by simpa using hf
    rw [hf2]
    clear hf hf2
    go_wp2_with fail
    go_ret
    exact ⟨rfl, HB1.out⟩
end Go.Proofs.YtchmpkgjjkfjcaaDoor
