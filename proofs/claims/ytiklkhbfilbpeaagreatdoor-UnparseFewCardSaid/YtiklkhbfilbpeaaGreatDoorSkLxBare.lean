/-
  Lexer: a word without its quotes (Bare). Conditions: as each contract says.
-/
import Derived.Test.YtiklkhbfilbpeaaGreatDoorSkLxRepl
import Derived.Test.YtiklkhbfilbpeaaGreatDoorSkLxOnce
set_option linter.unusedVariables false
set_option linter.unusedSimpArgs false
set_option maxRecDepth 100000
namespace Go.Proofs.YtiklkhbfilbpeaaGreatDoor
open Go.RowKit Base Lx
/-- A replacer's block. -/
def RpAt (W : World) (b : Nat) (d m : Int) (x2 x3 x4 : Value) : Prop := W.heap[b]? = some (.cells #[.int .u32 d, .int .i32 m, x2, x3, x4] rpT)
theorem RpAt.cells {W : World} {b : Nat} {d m : Int} {x2 x3 x4 : Value} (h : RpAt W b d m x2 x3 x4) : (W.cell? ⟨b, 3, none⟩ = some x3 ∧ W.frozen? ⟨b, 3, none⟩ = false) ∧ (W.cell? ⟨b, 4, none⟩ = some x4 ∧ W.frozen? ⟨b, 4, none⟩ = false) ∧ Oc.OnceAt W b d m ∧ b < W.heap.size := by
  unfold RpAt at h
  refine ⟨?_, ?_, ⟨?_, ?_, ?_, ?_⟩, (Array.getElem?_eq_some_iff.1 h).1⟩ <;> simp [World.cell?, World.frozen?, h]
theorem RpAt.set {W : World} {b : Nat} {d m : Int} {x2 x3 x4 : Value} (h : RpAt W b d m x2 x3 x4) (i : Nat) (u : Value) : (W.setCell ⟨b, i, none⟩ u).heap[b]? = some (.cells ((#[.int .u32 d, .int .i32 m, x2, x3, x4] : Array Value).setIfInBounds i u) rpT) ∧ Turn b W (W.setCell ⟨b, i, none⟩ u) :=
  ⟨heap_setCell_same W b i _ _ u h, Turn.of_box (Sl.setCells_grown b [u] i W)⟩
theorem RepJ.turn {B : Nat} {W0 W W' : World} {g j b : Nat} {cs : List Value} {v3 : Value} (h : RepJ B W0 W g j cs v3) (ht : Turn b W W') (hb : b < B) : RepJ B W' W' g j cs v3 := by
  have hgB := h.gB
  refine ⟨(ht.block g (Array.getElem?_eq_some_iff.1 h.blk).1 (by omega)).trans h.blk, h.len, h.cell, ?_, h.gB, Below.refl _ _⟩
  refine ⟨h.row.1, ?_⟩
  rcases h.row.2 with h2 | ⟨q, cap, cur, rfl, h2, h3, h4⟩
  · exact .inl h2
  · exact .inr ⟨q, cap, cur, rfl, h2, (ht.block q (Array.getElem?_eq_some_iff.1 h3).1 (by omega)).trans h3, h4⟩
theorem strs_other {W W' : World} {a : Option Addr} {n c b : Nat} {l : List Nm} (h : Strs W a n c l) (hg : W.grownBy W' (some b)) (ha : ∀ ad, a = some ad → ad.block ≠ b) : Strs W' a n c l := by
  obtain ⟨h1, h2, h3, b1, off, h4, h5⟩ := h
  refine ⟨h1, h2, h3, b1, off, h4, fun k hk => ?_⟩
  rcases h4 with h4 | h4
  · omega
  · have hne := ha _ h4
    have h6 := h5 k hk
    unfold strAt at h6 ⊢
    have hlt : b1 < W.heap.size := by
      rcases Nat.lt_or_ge b1 W.heap.size with h' | h'
      · exact h'
      · simp [World.cell?, Array.getElem?_eq_none h'] at h6
    have := hg.block b1 hlt (fun e => hne (Option.some.inj e))
    simp only [World.cell?] at h6 ⊢
    rw [this]
    exact h6
def OncePost (W : World) (b : Nat) (x2 : Value) (w1 : World) : Prop := ∃ g cs v3, RpAt w1 b 0 1 x2 (.iface bsP (.pointer (some ⟨g, 0, none⟩))) (.slice none 0 0) ∧ Turn b W w1 ∧ RepJ W.heap.size w1 w1 g 3 cs v3
set_option maxHeartbeats 1000000 in
theorem once_calls (W : World) (b : Nat) (x2 : Value) (a : Option Addr) (c : Nat) (h : RpAt W b 0 1 x2 .nilIface (.slice a 6 c)) (hs : Strs W a 6 c old6) :
    Calls Tryz.prog 102 #[.pointer (some ⟨b, 0, none⟩)] W fun e w1 => e = .returned (.tuple #[]) ∧ Oc.OnceAt w1 b 0 1 ∧ OncePost W b x2 w1 := by
  have H := Lib.hid h
  go_enter Tryz.func102, Tryz.ntmps102
  go_wp2_with fail
  refine (build_calls W b _ _ _ _ a c h hs).mono ?_
  rintro r w1 ⟨g, cs, v3, rfl, hr⟩
  have hlt := H.out.cells.2.2.2
  have H1 : RpAt w1 b 0 1 x2 .nilIface (.slice a 6 c) := (hr.low.block b hlt).trans H.out
  have hset3 := H1.set 3 (.iface bsP (.pointer (some ⟨g, 0, none⟩)))
  have H2 : RpAt (w1.setCell ⟨b, 3, none⟩ (.iface bsP (.pointer (some ⟨g, 0, none⟩)))) b 0 1 x2 (.iface bsP (.pointer (some ⟨g, 0, none⟩))) (.slice a 6 c) := hset3.1
  have hset4 := H2.set 4 (.slice none 0 0)
  have H3 : RpAt ((w1.setCell ⟨b, 3, none⟩ (.iface bsP (.pointer (some ⟨g, 0, none⟩)))).setCell ⟨b, 4, none⟩ (.slice none 0 0)) b 0 1 x2 (.iface bsP (.pointer (some ⟨g, 0, none⟩))) (.slice none 0 0) := hset4.1
  obtain ⟨⟨c3, f3⟩, _, _, _⟩ := H1.cells
  obtain ⟨_, ⟨c4, f4⟩, _, _⟩ := H2.cells
  have HT : Hid (Turn b w1 ((w1.setCell ⟨b, 3, none⟩ (.iface bsP (.pointer (some ⟨g, 0, none⟩)))).setCell ⟨b, 4, none⟩ (.slice none 0 0))) := hset3.2.trans hset4.2
  have HR := Lib.hid hr
  have HF := Lib.hid H3
  clear h hs hr hset3 hset4 H1 H2 H3
  go_wp2_with fail
  refine bodyPost_end (v := .tuple #[]) (results_none rfl _ _ _) rfl ?_
  exact ⟨rfl, HF.out.cells.2.2.1, g, cs, v3, HF.out, (Turn.of_below HR.out.low).trans HT.out, HR.out.turn HT.out hlt⟩
set_option maxHeartbeats 2000000 in
theorem replace_calls (W : World) (b : Nat) (x2 : Value) (a : Option Addr) (c : Nat) (h : RpAt W b 0 0 x2 .nilIface (.slice a 6 c)) (hs : Strs W a 6 c old6) (ha : ∀ ad, a = some ad → ad.block ≠ b) (s : Nm) (hl : s.length ≤ 100000) :
    Calls Tryz.prog 77 #[.pointer (some ⟨b, 0, none⟩), .string (str s)] W fun r W' => r = .returned (.string (str (bare s))) ∧ Turn b W W' := by
  have hmf : ∀ (fn : Fn) (first cap : Array Value) (w : World), (Instr.makeFunc fn first cap).run Tryz.prog w = .ok (.func fn first cap) w := fun _ _ _ _ => rfl
  have H := Lib.hid h
  have h1 : RpAt (W.setCell ⟨b, 1, none⟩ (.int .i32 1)) b 0 1 x2 .nilIface (.slice a 6 c) := (h.set 1 (.int .i32 1)).1
  have ht1 := (h.set 1 (.int .i32 1)).2
  have hs1 : Strs (W.setCell ⟨b, 1, none⟩ (.int .i32 1)) a 6 c old6 := strs_other hs (Sl.setCells_grown b [.int .i32 1] 1 W) ha
  have HO := Lib.hid (once_calls _ b x2 a c h1 hs1)
  have HT1 := Lib.hid ht1
  clear h hs h1 ht1 hs1
  go_enter Tryz.func77, Tryz.ntmps77
  go_wp2_with fail
  refine (Oc.do_first b (.pointer (some ⟨b, 0, none⟩)) W (OncePost (W.setCell ⟨b, 1, none⟩ (.int .i32 1)) b x2) H.out.cells.2.2.1 HO.out).mono ?_
  rintro r w' ⟨rfl, w1, ⟨g, cs, v3, hr1, ht, hj⟩, hw'⟩
  have hblt := H.out.cells.2.2.2
  have hd : RpAt w1.drew b 0 1 x2 (.iface bsP (.pointer (some ⟨g, 0, none⟩))) (.slice none 0 0) := hr1
  have s0 := hd.set 0 (.int .u32 1)
  have hd1 : RpAt (w1.drew.setCell ⟨b, 0, none⟩ (.int .u32 1)) b 1 1 x2 (.iface bsP (.pointer (some ⟨g, 0, none⟩))) (.slice none 0 0) := s0.1
  have s1 := hd1.set 1 (.int .i32 0)
  have hd2 : RpAt w' b 1 0 x2 (.iface bsP (.pointer (some ⟨g, 0, none⟩))) (.slice none 0 0) := by rw [hw']; exact s1.1
  have htt : Turn b w1 w' := by
    rw [hw']
    exact (Turn.of_below (drewN_below w1 1)).trans (s0.2.trans s1.2)
  have HTW : Hid (Turn b W w') := HT1.out.trans (ht.trans htt)
  have HJ := Lib.hid (hj.turn htt (Nat.lt_of_lt_of_le hblt HT1.out.size))
  obtain ⟨⟨c3, f3⟩, _, _, _⟩ := hd2.cells
  clear s0 s1 hd hd1 hd2 hr1 ht hj htt hw' HO hblt
  go_wp2_with fail
  refine (repl_calls w' _ _ g cs v3 HJ.out s hl).mono ?_
  rintro r w2 ⟨rfl, hb2⟩
  have HF := Lib.hid (HTW.out.trans (Turn.of_below hb2))
  clear hb2
  go_wp2_with fail
  go_ret
  exact ⟨rfl, HF.out⟩
theorem build_rp (a : Option Addr) (n c : Nat) (w : World) : (Instr.build rpT #[(2, .slice a n c)]).run Tryz.prog w = .ok (.agg #[.int .u32 0, .int .i32 0, .int .u32 0, .nilIface, .slice a n c]) w := by
  refine run_build w _ _ _ ?_
  kernel_rfl
theorem str_tl0 (l : Nm) : (str l).toList = l := by rw [ByteArray.toList_eq]; rfl
def NewPost (W : World) (r : Ending) (W' : World) : Prop := ∃ b a c, r = .returned (.pointer (some ⟨b, 0, none⟩)) ∧ W.heap.size ≤ b ∧ RpAt W' b 0 0 (.int .u32 0) .nilIface (.slice a 6 c) ∧ Strs W' a 6 c old6 ∧ (∀ ad, a = some ad → ad.block ≠ b) ∧ Below W.heap.size W W'
set_option maxHeartbeats 1000000 in
theorem new_calls (W : World) (a : Option Addr) (n c : Nat) (hn : n = 6) (hs : Strs W a n c old6) : Calls Tryz.prog 76 #[.slice a n c] W (NewPost W) := by
  subst hn
  obtain ⟨i0, hi0, hz0, hz1, hz2⟩ := info_parts info_str
  have HSr : Hid (Base.Src Tryz.prog W 1 (.slice a 6 c) 6 (old6.map strV)) := src_row hs strV (fun _ => rfl) (fun b o x h => h)
  clear hs
  go_enter Tryz.func76, Tryz.ntmps76
  go_wp2_with (at_builtin; refine wpList_append_src rfl (.const (.slice none 0 0)) (.tmp 8) 33 33 rfl W.heap.size stT i0 (.string ⟨#[]⟩) 1 16 Tryz.underlying33 (append_side Tryz.underlying33) hi0 hz0 hz1 hz2 rfl (by decide) (by decide) _ 0 _ rfl (World.ownsRow_nil _ _ _ _) _ 6 _ rfl HSr.out ?_ ?_ ?_ ?_)
  case _ => unfold maxLen; decide
  case _ => first | decide | exact Nat.le_refl _
  try (case _ => exact Nat.le_refl _)
  intro v' w2 h1 h2 _
  have h1 : w2.ownsRow W.heap.size stT 1 v' 6 (old6.map strV) := h1
  obtain ⟨a6, c6, hv, hst⟩ := own_strs h1
  subst hv
  have hb2 : Below W.heap.size W w2 := (Below.refl _ _).grown h2 (Nat.le_refl _) (fun j hj => by cases hj)
  have hlt : ∀ ad, a6 = some ad → ad.block ≠ w2.heap.size := fun ad e => by
    subst e
    rcases h1.2 with ⟨h5, _⟩ | ⟨q, cap, cur, h5, h6, h7, _⟩
    · cases h5
    · have := (Array.getElem?_eq_some_iff.1 h7).1
      injection h5 with h5
      injection h5 with h5
      subst h5
      simp only
      omega
  refine step_does rfl (.agg #[.int .u32 0, .int .i32 0, .int .u32 0, .nilIface, .slice a6 6 c6]) w2 (Ap.does_buildS #[(2, .slice a6 6 c6)] _ (by simp [go_sem]) (build_rp _ _ _ _) ⟨rfl, rfl⟩) ?_
  have hal := (Below.refl w2.heap.size w2).alloc (Nat.le_refl _) (.cells #[.int .u32 0, .int .i32 0, .int .u32 0, .nilIface, .slice a6 6 c6] rpT)
  have HNew : Hid (RpAt (w2.alloc (.cells #[.int .u32 0, .int .i32 0, .int .u32 0, .nilIface, .slice a6 6 c6] rpT)) w2.heap.size 0 0 (.int .u32 0) .nilIface (.slice a6 6 c6)) := heap_alloc_new w2 _
  have HSt := Lib.hid (hst.below stable_strAt hal)
  have HB := Lib.hid (hb2.trans (hal.mono hb2.size))
  have HL := Lib.hid hlt
  have HSz : Hid (W.heap.size ≤ w2.heap.size) := hb2.size
  clear h1 h2 hst hb2 hlt hal
  go_wp2_with fail
  go_ret
  exact ⟨_, a6, c6, rfl, HSz.out, HNew.out, HSt.out, HL.out, HB.out⟩
set_option maxHeartbeats 1000000 in
/-- Bare. -/
theorem bare_calls (W : World) (s : Nm) (hl : s.length ≤ 100000) : Calls Tryz.prog 62 #[.string (str s)] W fun r W' => r = .returned (.tuple #[.string (str (bare s)), .bool (decide (bare s ≠ s))]) ∧ Below W.heap.size W W' := by
  have hal := (Below.refl W.heap.size W).alloc (Nat.le_refl _) (.cells #[.string (str [39]), .string (str []), .string (str [34]), .string (str []), .string (str [92]), .string (str [])] stT)
  have hrow : Strs (W.alloc (.cells #[.string (str [39]), .string (str []), .string (str [34]), .string (str []), .string (str [92]), .string (str [])] stT)) (some ⟨W.heap.size, 0, none⟩) 6 6 old6 := by
    refine ⟨rfl, Nat.le_refl _, by decide, W.heap.size, 0, .inr rfl, fun k hk => ?_⟩
    have hh := heap_alloc_new W (.cells #[.string (str [39]), .string (str []), .string (str [34]), .string (str []), .string (str [92]), .string (str [])] stT)
    have hk : k < 6 := hk
    have hh2 : (W.alloc (.cells #[.string (str [39]), .string (str []), .string (str [34]), .string (str []), .string (str [92]), .string (str [])] stT)).heap[W.heap.size]? = some (.cells ([.string (str [39]), .string (str []), .string (str [34]), .string (str []), .string (str [92]), .string (str [])] : List Value).toArray stT (0, 0)) := hh
    rcases (show k = 0 ∨ k = 1 ∨ k = 2 ∨ k = 3 ∨ k = 4 ∨ k = 5 by omega) with rfl | rfl | rfl | rfl | rfl | rfl
    · exact Sl.row_cell hh2 0
    · exact Sl.row_cell hh2 1
    · exact Sl.row_cell hh2 2
    · exact Sl.row_cell hh2 3
    · exact Sl.row_cell hh2 4
    · exact Sl.row_cell hh2 5
  have HB := Lib.hid hal
  have HR := Lib.hid hrow
  clear hal hrow
  go_enter Tryz.func62, Tryz.ntmps62
  go_wp2_with fail
  refine (new_calls _ _ _ _ rfl HR.out).mono ?_
  rintro r w2 ⟨b, a, c, rfl, hb, hr, hs, ha, hbe⟩
  have HBe := Lib.hid (HB.out.trans (hbe.mono HB.out.size))
  have HRp := Lib.hid hr
  have HS := Lib.hid hs
  have HA := Lib.hid ha
  have HSz : Hid (W.heap.size ≤ b) := Nat.le_trans HB.out.size hb
  clear hb hr hs ha hbe
  go_wp2_with fail
  refine (replace_calls w2 b _ a c HRp.out HS.out HA.out s hl).mono ?_
  rintro r w3 ⟨rfl, ht⟩
  have HF := Lib.hid (HBe.out.trans (ht.below HSz.out HBe.out.size))
  have t1 : ((str (bare s)).toList == (str s).toList) = decide (bare s = s) := by
    rw [str_tl0, str_tl0]; by_cases h : bare s = s <;> simp [h]
  clear ht
  go_wp2_with fail
  refine bodyPost_ret (v := .tuple #[.string (str (bare s)), .bool (decide (bare s ≠ s))]) (by simp [results, Tryz.results62, go_sem]) rfl ?_
  exact ⟨rfl, HF.out⟩
end Go.Proofs.YtiklkhbfilbpeaaGreatDoor
