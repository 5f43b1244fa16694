/-
  An Env of the call's own: set, unset, got. Conditions: the rows are not too long.
-/
import Derived.Test.YtchmpkgjjkfjcaaDoorEnAwake
set_option linter.unusedVariables false
set_option maxRecDepth 100000
namespace Go.Proofs.YtchmpkgjjkfjcaaDoor
open Go.RowKit Base

/-- An Env's variables lie in a row of the call's own, its arguments somewhere. -/
structure Ev (W : World) (base : Nat) (a : Option Addr) (c : Nat) (l : List Vr) (ga : Option Addr) (gc : Nat) (A : List Nm) : Prop where
  own : OwnV W base (.slice a l.length c) l
  args : Sts W ga A.length gc A
theorem Ev.vrs {W : World} {base : Nat} {a : Option Addr} {c : Nat} {l : List Vr} {ga : Option Addr} {gc : Nat} {A : List Nm} (h : Ev W base a c l ga gc A) : Vrs W a l.length c l := by
  obtain ⟨_, _, hv, h2⟩ := vrs_of_own h.own
  cases hv
  exact h2
theorem Ev.below {W W' : World} {base : Nat} {a : Option Addr} {c : Nat} {l : List Vr} {ga : Option Addr} {gc : Nat} {A : List Nm} (h : Ev W base a c l ga gc A) (hb : Below W.heap.size W W') : Ev W' base a c l ga gc A :=
  ⟨show World.ownsRow _ _ _ _ _ _ _ from ownsRow_below h.own hb, h.args.below (Ap.stable_cellsAt stC) hb⟩
def EvPost (W : World) (base : Nat) (l : List Vr) (ga : Option Addr) (gc : Nat) (A : List Nm) (st : Int) (fl : Nm) (e : Ending) (w' : World) : Prop :=
  ∃ a c, e = .returned (.agg #[.slice a l.length c, .slice ga A.length gc, .int .i64 st, .string (str fl)]) ∧ Ev w' base a c l ga gc A ∧ Below W.heap.size W w'
theorem ev_set_calls (W : World) (base : Nat) (a : Option Addr) (c : Nat) (l : List Vr) (ga : Option Addr) (gc : Nat) (A : List Nm) (st : Int) (fl s x : Nm) (h : Ev W base a c l ga gc A) (hb : base ≤ W.heap.size) (hr : Rises l) (hl : l.length ≤ 900000) (hs : s.length ≤ 281474976710656) :
    Calls Tryd.prog 8 #[.agg #[.slice a l.length c, .slice ga A.length gc, .int .i64 st, .string (str fl)], .string (str s), .string (str x)] W (EvPost W base (setB s x l) ga gc A st fl) := by
  refine (en_set_calls W a _ c l st fl s x ga A.length gc h.vrs hr hl (by omega)).mono ?_
  rintro e w' ⟨v', rfl, ho, hb'⟩
  have h1 := ho base hb h.own
  obtain ⟨a', c', rfl, _⟩ := vrs_of_own h1
  exact ⟨a', c', rfl, ⟨h1, h.args.below (Ap.stable_cellsAt stC) hb'⟩, hb'⟩
theorem ev_unset_calls (W : World) (base : Nat) (a : Option Addr) (c : Nat) (l : List Vr) (ga : Option Addr) (gc : Nat) (A : List Nm) (st : Int) (fl s : Nm) (h : Ev W base a c l ga gc A) (hb : base ≤ W.heap.size) (hr : Rises l) (hl : l.length ≤ 1000000) :
    Calls Tryd.prog 10 #[.agg #[.slice a l.length c, .slice ga A.length gc, .int .i64 st, .string (str fl)], .string (str s)] W (EvPost W base (withoutB l s) ga gc A st fl) := by
  refine (en_unset_calls W a _ c l st fl s ga A.length gc h.vrs hr hl).mono ?_
  rintro e w' ⟨v', rfl, ho, hb'⟩
  have h1 : OwnV w' base v' (withoutB l s) := by
    show World.ownsRow _ _ _ _ _ _ _
    exact own_base ho hb
  obtain ⟨a', c', rfl, _⟩ := vrs_of_own h1
  exact ⟨a', c', rfl, ⟨h1, h.args.below (Ap.stable_cellsAt stC) hb'⟩, hb'⟩
theorem ev_get_calls (W : World) (base : Nat) (a : Option Addr) (c : Nat) (l : List Vr) (ga : Option Addr) (gc : Nat) (A : List Nm) (st : Int) (fl s : Nm) (h : Ev W base a c l ga gc A) (hr : Rises l) (hl : l.length ≤ 1000000) (hs : s.length ≤ 281474976710656) (hL : Lw W) (hlA : A.length ≤ 100000) (hst : -9223372036854775808 ≤ st ∧ st ≤ 9223372036854775807) (hj : (s = [64] ∨ s = [42]) → (Lib.join A ((ifsB l).take 1)).length ≤ 10000000) :
    Calls Tryd.prog 9 #[.agg #[.slice a l.length c, .slice ga A.length gc, .int .i64 st, .string (str fl)], .string (str s)] W (GetPost W (gotB l A st fl s)) :=
  en_get_calls W a _ c l st fl s ga A.length gc A h.vrs hr hl h.args hs hL hlA hst hj
/-- An Env in a box. -/
structure Bx (B base : Nat) (a : Option Addr) (c : Nat) (l : List Vr) (ga : Option Addr) (gc : Nat) (A : List Nm) (st : Int) (fl : Nm) (W : World) : Prop where
  k : W.heap[B]? = some (.cells #[.slice a l.length c, .slice ga A.length gc, .int .i64 st, .string (str fl)] 28)
  ev : Ev W base a c l ga gc A
theorem Bx.lt {B base : Nat} {a : Option Addr} {c : Nat} {l : List Vr} {ga : Option Addr} {gc : Nat} {A : List Nm} {st : Int} {fl : Nm} {W : World} (h : Bx B base a c l ga gc A st fl W) : B < W.heap.size := (Array.getElem?_eq_some_iff.1 h.k).1
theorem Bx.below {B base : Nat} {a : Option Addr} {c : Nat} {l : List Vr} {ga : Option Addr} {gc : Nat} {A : List Nm} {st : Int} {fl : Nm} {W W' : World} (h : Bx B base a c l ga gc A st fl W) (hb : Below W.heap.size W W') : Bx B base a c l ga gc A st fl W' :=
  ⟨(hb.block B h.lt).trans h.k, h.ev.below hb⟩
theorem Bx.alloc {base : Nat} {a : Option Addr} {c : Nat} {l : List Vr} {ga : Option Addr} {gc : Nat} {A : List Nm} {W : World} (h : Ev W base a c l ga gc A) (st : Int) (fl : Nm) : Bx W.heap.size base a c l ga gc A st fl (W.alloc (.cells #[.slice a l.length c, .slice ga A.length gc, .int .i64 st, .string (str fl)] 28)) :=
  ⟨heap_alloc_new W _, h.below ((Below.refl W.heap.size W).alloc (Nat.le_refl _) _)⟩
theorem setB_len (s x : Nm) (l : List Vr) : (setB s x l).length ≤ l.length + 1 := by
  unfold setB
  split
  · rw [with_len]; have := without_len s l; omega
  · omega
theorem setB_rises (s x : Nm) {l : List Vr} (h : Rises l) : Rises (setB s x l) := by
  unfold setB
  split
  · exact rises_with s x h
  · exact h
set_option maxHeartbeats 4000000 in
theorem awake_calls (w : World) (hL : Lw w) : Calls Tryd.prog 6 #[] w fun e w' => e = .returned (.bool true) ∧ Below w.heap.size w w' := by
  obtain ⟨hb0, hbB, hbs⟩ := one_box w (.cells #[.string (str [97]), .string (str [98])] 9)
  have hab := sts_ab w
  have HL := Lib.hid hL
  clear hL
  have H0 : Hid (Ev (w.alloc (.cells #[.string (str [97]), .string (str [98])] 9)) w.heap.size none 0 [] (some ⟨w.heap.size, 0, none⟩) 2 [[97], [98]]) := ⟨World.ownsRow_nil _ _ _ _, hab⟩
  have HB0 := Lib.hid hbB
  have HS0 := Lib.hid (show w.heap.size ≤ (w.alloc (.cells #[.string (str [97]), .string (str [98])] 9)).heap.size by omega)
  clear hb0 hbB hbs hab
  go_enter Tryd.func6, Tryd.ntmps6
  go_wp2_with fail
  refine (ev_set_calls _ w.heap.size none 0 [] (some ⟨w.heap.size, 0, none⟩) 2 [[97], [98]] 0 [] [120] [49] H0.out HS0.out List.Pairwise.nil (by decide) (by decide)).mono ?_
  rintro e w1 ⟨a1, c1, rfl, h1, hb1⟩
  rw [aw1] at h1 ⊢
  have HB1 := Lib.hid (HB0.out.trans (hb1.mono HB0.out.size))
  have H1 := Lib.hid h1
  clear h1 hb1 H0 HS0 HB0
  rw [show ([([120], [49])] : List Vr).length = 1 from rfl]
  go_wp2_with fail
  refine (ev_set_calls w1 w.heap.size a1 c1 [([120], [49])] (some ⟨w.heap.size, 0, none⟩) 2 [[97], [98]] 0 [] [121] [50] H1.out HB1.out.size awr1 (by decide) (by decide)).mono ?_
  rintro e w2 ⟨a2, c2, rfl, h2, hb2⟩
  rw [aw2] at h2 ⊢
  have HB2 := Lib.hid (HB1.out.trans (hb2.mono HB1.out.size))
  have H2 := Lib.hid h2
  clear h2 hb2 H1 HB1
  rw [show ([([120], [49]), ([121], [50])] : List Vr).length = 2 from rfl]
  go_wp2_with fail
  refine (ev_unset_calls w2 w.heap.size a2 c2 [([120], [49]), ([121], [50])] (some ⟨w.heap.size, 0, none⟩) 2 [[97], [98]] 0 [] [120] H2.out HB2.out.size awr2 (by decide)).mono ?_
  rintro e w3 ⟨a3, c3, rfl, h3, hb3⟩
  rw [aw3] at h3 ⊢
  have HB3 := Lib.hid (HB2.out.trans (hb3.mono HB2.out.size))
  have H3 := Lib.hid h3
  clear h3 hb3 H2 HB2
  rw [show ([([121], [50])] : List Vr).length = 1 from rfl]
  have hX := Bx.alloc H3.out 0 []
  have hba := (Below.refl w3.heap.size w3).alloc (Nat.le_refl _) (.cells #[.slice a3 ([([121], [50])] : List Vr).length c3, .slice (some ⟨w.heap.size, 0, none⟩) ([[97], [98]] : List Nm).length 2, .int .i64 0, .string (str [])] 28)
  have HB4 := Lib.hid (HB3.out.trans (hba.mono HB3.out.size))
  have HX := Lib.hid hX
  clear hX hba
  rw [show ([([121], [50])] : List Vr).length = 1 from rfl, show ([[97], [98]] : List Nm).length = 2 from rfl] at HB4
  go_upto_region 2 with fail
  change Hid (Bx _ _ _ _ _ _ _ _ _ _ (w3.alloc (.cells #[.slice a3 1 c3, .slice (some ⟨w.heap.size, 0, none⟩) 2 2, .int .i64 0, .string (str [])] 28))) at HX
  generalize w3.alloc (.cells #[.slice a3 1 c3, .slice (some ⟨w.heap.size, 0, none⟩) 2 2, .int .i64 0, .string (str [])] 28) = w4 at *
  obtain ⟨⟨x0, x1, x2, x3⟩, f0, f1, f2, f3⟩ := env4 HX.out.k
  go_wp2_with fail
  refine (ev_get_calls w4 w.heap.size a3 c3 [([121], [50])] (some ⟨w.heap.size, 0, none⟩) 2 [[97], [98]] 0 [] [121] HX.out.ev awr3 (by decide) (by decide) (HL.out.below HB4.out) (by decide) ⟨by decide, by decide⟩ (fun _ => by decide)).mono ?_
  rintro e w5 ⟨rfl, hb5⟩
  rw [aw4, Option.getD_some, Option.isSome_some]
  have HB5 := Lib.hid (HB4.out.trans (hb5.mono HB4.out.size))
  have HX5 := Lib.hid (HX.out.below hb5)
  clear hb5 x0 x1 x2 x3 f0 f1 f2 f3 HX HB4
  have HX := HX5
  clear HX5
  obtain ⟨⟨x0, x1, x2, x3⟩, f0, f1, f2, f3⟩ := env4 HX.out.k
  go_wp2_with fail
  refine (ev_get_calls w5 w.heap.size a3 c3 [([121], [50])] (some ⟨w.heap.size, 0, none⟩) 2 [[97], [98]] 0 [] [120] HX.out.ev awr3 (by decide) (by decide) (HL.out.below HB5.out) (by decide) ⟨by decide, by decide⟩ (fun _ => by decide)).mono ?_
  rintro e w6 ⟨rfl, hb6⟩
  rw [aw5, Option.getD_none, Option.isSome_none]
  have HB6 := Lib.hid (HB5.out.trans (hb6.mono HB5.out.size))
  have HX6 := Lib.hid (HX.out.below hb6)
  clear hb6 x0 x1 x2 x3 f0 f1 f2 f3 HX HB5
  have HX := HX6
  clear HX6
  obtain ⟨⟨x0, x1, x2, x3⟩, f0, f1, f2, f3⟩ := env4 HX.out.k
  go_wp2_with fail
  refine (ev_get_calls w6 w.heap.size a3 c3 [([121], [50])] (some ⟨w.heap.size, 0, none⟩) 2 [[97], [98]] 0 [] [42] HX.out.ev awr3 (by decide) (by decide) (HL.out.below HB6.out) (by decide) ⟨by decide, by decide⟩ (fun _ => by decide)).mono ?_
  rintro e w7 ⟨rfl, hb7⟩
  rw [aw6, Option.getD_some, Option.isSome_some]
  have HB7 := Lib.hid (HB6.out.trans (hb7.mono HB6.out.size))
  have HX7 := Lib.hid (HX.out.below hb7)
  clear hb7 x0 x1 x2 x3 f0 f1 f2 f3 HX HB6
  have HX := HX7
  clear HX7
  obtain ⟨⟨x0, x1, x2, x3⟩, f0, f1, f2, f3⟩ := env4 HX.out.k
  have t1 : ((str [50]).toList == [50]) = true := by rw [str_toList]; rfl
  have t2 : ((str [97, 32, 98]).toList == [97, 32, 98]) = true := by rw [str_toList]; rfl
  have t3 : ((str [32, 9, 10]).toList == [32, 9, 10]) = true := by rw [str_toList]; rfl
  go_wp2_with fail
  refine (en_flag_calls w7 _ _ _ 0 [] _ _ _ 117 true).mono ?_
  rintro e w8 ⟨rfl, hb8⟩
  rw [aw7]
  have HB8 := Lib.hid (HB7.out.trans (hb8.mono HB7.out.size))
  have HX8 := Lib.hid (HX.out.below hb8)
  clear hb8 x0 x1 x2 x3 f0 f1 f2 f3 HX HB7
  obtain ⟨⟨x0, x1, x2, x3⟩, f0, f1, f2, f3⟩ := env4 HX8.out.k
  go_wp2_with fail
  refine (en_has_calls w8 _ _ 0 [117] 117 _ _ _ _ _ _ rfl rfl).mono ?_
  rintro e w9 ⟨rfl, hb9⟩
  rw [aw8]
  have HB9 := Lib.hid (HB8.out.trans (hb9.mono HB8.out.size))
  have HX9 := Lib.hid (HX8.out.below hb9)
  clear hb9 x0 x1 x2 x3 f0 f1 f2 f3 HX8 HB8
  obtain ⟨⟨x0, x1, x2, x3⟩, f0, f1, f2, f3⟩ := env4 HX9.out.k
  go_wp2_with fail
  refine (en_ifs_calls w9 a3 1 c3 [([121], [50])] 0 [] _ _ _ HX9.out.ev.vrs awr3 (by decide)).mono ?_
  rintro e w10 ⟨rfl, hb10⟩
  rw [aw9]
  have HB10 := Lib.hid (HB9.out.trans (hb10.mono HB9.out.size))
  have HX10 := Lib.hid (HX9.out.below hb10)
  clear hb10 x0 x1 x2 x3 f0 f1 f2 f3 HX9 HB9
  obtain ⟨⟨x0, x1, x2, x3⟩, f0, f1, f2, f3⟩ := env4 HX10.out.k
  go_wp2_with fail
  refine (en_same_calls w10 _ _ _ [([121], [50])] _ _ _ [([121], [50])] _ _ _ [[97], [98]] _ _ _ [[97], [98]] 0 0 [] [] HX10.out.ev.vrs HX10.out.ev.vrs HX10.out.ev.args HX10.out.ev.args (by decide) (by decide) (by decide) (by decide)).mono ?_
  rintro e w11 ⟨rfl, hb11⟩
  rw [show sameB [([121], [50])] [([121], [50])] [[97], [98]] [[97], [98]] 0 0 [] [] = true from by decide]
  have HB11 := Lib.hid (HB10.out.trans (hb11.mono HB10.out.size))
  clear hb11 x0 x1 x2 x3 f0 f1 f2 f3 HX10 HB10
  go_wp2_with fail
  go_ret
  exact ⟨rfl, HB11.out⟩
end Go.Proofs.YtchmpkgjjkfjcaaDoor
