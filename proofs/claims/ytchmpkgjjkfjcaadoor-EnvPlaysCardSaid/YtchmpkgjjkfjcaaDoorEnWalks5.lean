/-
  Flags, arguments that are shifted. Conditions: as each law says.
-/
import Derived.Test.YtchmpkgjjkfjcaaDoorEnStrs
set_option linter.unusedVariables false
set_option maxRecDepth 100000
namespace Go.Proofs.YtchmpkgjjkfjcaaDoor
open Go.RowKit Base

theorem indexByte_iff (l : List UInt8) (c : UInt8) : 0 ≤ Lib.indexByte l c ↔ c ∈ l := by
  induction l with
  | nil => simp [Lib.indexByte]
  | cons b r ih =>
    unfold Lib.indexByte
    by_cases h : b = c
    · simp [h]
    · have h1 : (b == c) = false := by simpa using h
      have hge := Lib.indexByte_ge r c
      simp only [h1, Bool.false_eq_true, if_false, List.mem_cons]
      by_cases h2 : Lib.indexByte r c = -1
      · have h3 : c ∉ r := fun hc => by have := ih.2 hc; omega
        simp [h2, h3, Ne.symm h]
      · have h3 : c ∈ r := ih.1 (by omega)
        simp [h2, h3]
        omega
def hasFl (fl : Nm) (c : UInt8) : Bool := decide (c ∈ fl)
theorem en_index_calls (w : World) (l : List UInt8) (c : UInt8) : Calls Tryd.prog 38 #[.string (str l), .int .u8 (c.toNat : Int)] w fun e w' => ∃ i : Int, e = .returned (.int .i64 i) ∧ (0 ≤ i ↔ c ∈ l) ∧ w = w' := by
  refine (Tryd.strings_IndexByte (str l) (c.toNat : Int) w).mono ?_
  rintro e w' ⟨rfl, rfl⟩
  refine ⟨_, rfl, ?_, rfl⟩
  have e1 : ((c.toNat : Int)).toNat.toUInt8 = c := by simp
  rw [e1, str_data]
  exact indexByte_iff l c
set_option maxHeartbeats 1000000 in
theorem en_has_calls (w : World) (v g : Value) (st : Int) (fl : Nm) (c : UInt8) (a : Option Addr) (n q : Nat) (ga : Option Addr) (gn gc : Nat) (hv : v = .slice a n q) (hg : g = .slice ga gn gc) :
    Calls Tryd.prog 22 #[.agg #[v, g, .int .i64 st, .string (str fl)], .int .u8 (c.toNat : Int)] w fun e w' => e = .returned (.bool (hasFl fl c)) ∧ Below w.heap.size w w' := by
  subst hv
  subst hg
  have hbB := (Below.refl w.heap.size w).alloc (Nat.le_refl _) (.cells #[.slice a n q, .slice ga gn gc, .int .i64 st, .string (str fl)] 28)
  have HB := Lib.hid hbB
  clear hbB
  go_enter Tryd.func22, Tryd.ntmps22
  go_wp2_with fail
  refine (en_index_calls _ fl c).mono ?_
  rintro e w2 ⟨i, rfl, hi, rfl⟩
  have HI := Lib.hid hi
  clear hi
  by_cases h0 : 0 ≤ i
  · have HR : Hid (hasFl fl c = true) := by show _ = _; unfold hasFl; exact decide_eq_true (HI.out.1 h0)
    have d1 : decide (0 ≤ i) = true := decide_eq_true h0
    clear HI
    go_wp2_with fail
    go_ret
    rw [HR.out]
    exact ⟨rfl, HB.out⟩
  · have HR : Hid (hasFl fl c = false) := by show _ = _; unfold hasFl; exact decide_eq_false (fun h => h0 (HI.out.2 h))
    have d1 : decide (0 ≤ i) = false := decide_eq_false h0
    clear HI
    go_wp2_with fail
    go_ret
    rw [HR.out]
    exact ⟨rfl, HB.out⟩
set_option maxHeartbeats 2000000 in
theorem en_shift_no (w : World) (a : Option Addr) (n c : Nat) (st : Int) (fl : Nm) (ga : Option Addr) (gn gc : Nat) (z : Int) (hz : z < 0 ∨ (gn : Int) < z) :
    Calls Tryd.prog 16 #[.agg #[.slice a n c, .slice ga gn gc, .int .i64 st, .string (str fl)], .int .i64 z] w fun e w' => e = .returned (.tuple #[.agg #[.slice a n c, .slice ga gn gc, .int .i64 st, .string (str fl)], .bool false]) ∧ Below w.heap.size w w' := by
  have HZ := Lib.hid hz
  clear hz
  go_enter Tryd.func16, Tryd.ntmps16
  go_upto_region 1 with fail
  obtain ⟨hb0, hb1, hbB, hbs⟩ := two_boxes w (.cells #[.slice a n c, .slice ga gn gc, .int .i64 st, .string (str fl)] 28) (.cells #[.slice none 0 0, .slice none 0 0, .int .i64 0, .string ⟨#[]⟩] 28)
  generalize (w.alloc (.cells #[.slice a n c, .slice ga gn gc, .int .i64 st, .string (str fl)] 28)).alloc (.cells #[.slice none 0 0, .slice none 0 0, .int .i64 0, .string ⟨#[]⟩] 28) = w1 at *
  obtain ⟨⟨c0, c1, c2, c3⟩, f0, f1, f2, f3⟩ := env4 hb0
  obtain ⟨⟨d0, d1, d2, d3⟩, e0, e1, e2, e3⟩ := env4 hb1
  have HK1 := Lib.hid hb1
  have HB := Lib.hid hbB
  clear hb0 hb1 hbB hbs
  by_cases h0 : z < 0
  · have t1 : decide (z < 0) = true := decide_eq_true h0
    clear HZ
    go_wp2_with fail
    obtain ⟨⟨y0, y1, y2, y3⟩, _⟩ := env4 (env4_set HK1.out (.slice a n c) (.slice ga gn gc) (.int .i64 st) (.string (str fl)))
    refine bodyPost_ret (v := .tuple #[.agg #[.slice a n c, .slice ga gn gc, .int .i64 st, .string (str fl)], .bool false]) (by simp [results, Tryd.results16, go_sem, y0, y1, y2, y3]) rfl ?_
    exact ⟨rfl, (((HB.out.setCell (Nat.le_succ _) _).setCell (Nat.le_succ _) _).setCell (Nat.le_succ _) _).setCell (Nat.le_succ _) _⟩
  · have t1 : decide (z < 0) = false := decide_eq_false h0
    have t2 : decide ((gn : Int) < z) = true := decide_eq_true (by have := HZ.out; omega)
    clear HZ
    go_wp2_with fail
    obtain ⟨⟨y0, y1, y2, y3⟩, _⟩ := env4 (env4_set HK1.out (.slice a n c) (.slice ga gn gc) (.int .i64 st) (.string (str fl)))
    refine bodyPost_ret (v := .tuple #[.agg #[.slice a n c, .slice ga gn gc, .int .i64 st, .string (str fl)], .bool false]) (by simp [results, Tryd.results16, go_sem, y0, y1, y2, y3]) rfl ?_
    exact ⟨rfl, (((HB.out.setCell (Nat.le_succ _) _).setCell (Nat.le_succ _) _).setCell (Nat.le_succ _) _).setCell (Nat.le_succ _) _⟩
def ShiftPost (w : World) (v : Value) (A : List Nm) (st : Int) (fl : Nm) (e : Ending) (w' : World) : Prop := ∃ g, e = .returned (.tuple #[.agg #[v, g, .int .i64 st, .string (str fl)], .bool true]) ∧ OwnS w' w.heap.size g A ∧ Below w.heap.size w w'
theorem own_baseS {w : World} {b1 b2 : Nat} {v : Value} {l : List Nm} (h : OwnS w b2 v l) (hb : b1 ≤ b2) : OwnS w b1 v l := by
  show World.ownsRow _ _ _ _ _ _ _
  exact own_base h hb
theorem own_boxS {w : World} {B : Nat} {v : Value} {l : List Nm} (h : OwnS w (B + 2) v l) (u0 u1 u2 u3 : Value) : OwnS ((((w.setCell ⟨B + 1, 0, none⟩ u0).setCell ⟨B + 1, 1, none⟩ u1).setCell ⟨B + 1, 2, none⟩ u2).setCell ⟨B + 1, 3, none⟩ u3) B v l := by
  show World.ownsRow _ _ _ _ _ _ _
  have hh : w.ownsRow (B + 2) 9 1 v l.length (l.flatMap stC) := h
  exact own_base (ownsRow_setCell_below (ownsRow_setCell_below (ownsRow_setCell_below (ownsRow_setCell_below hh (by show B + 1 < _; omega) _) (by show B + 1 < _; omega) _) (by show B + 1 < _; omega) _) (by show B + 1 < _; omega) _) (by omega)
set_option maxHeartbeats 2000000 in
theorem en_shift_calls (w : World) (a : Option Addr) (n c : Nat) (st : Int) (fl : Nm) (ga : Option Addr) (gn gc : Nat) (A : List Nm) (k : Nat) (hA : Sts w ga gn gc A) (hk : k ≤ gn) (hl : A.length ≤ 1000000) :
    Calls Tryd.prog 16 #[.agg #[.slice a n c, .slice ga gn gc, .int .i64 st, .string (str fl)], .int .i64 (k : Int)] w (ShiftPost w (.slice a n c) (A.drop k) st fl) := by
  obtain ⟨a', hs, hcut⟩ := sts_sub hA k hk
  have hAl := hA.1
  have HCl := Lib.hid fun W (hv : Sts W a' (gn - k) (gc - k) (A.drop k)) => st_clone_calls W a' (gn - k) (gc - k) (A.drop k) hv (by rw [List.length_drop]; omega)
  have H := Lib.hid hs
  have HCut := Lib.hid hcut
  have HLn : Hid ((A.drop k).length = gn - k) := by show _ = _; rw [List.length_drop]; omega
  clear hs hA hcut hAl hl
  generalize A.drop k = D at *
  go_enter Tryd.func16, Tryd.ntmps16
  go_upto_region 1 with fail
  obtain ⟨hb0, hb1, hbB, hbs⟩ := two_boxes w (.cells #[.slice a n c, .slice ga gn gc, .int .i64 st, .string (str fl)] 28) (.cells #[.slice none 0 0, .slice none 0 0, .int .i64 0, .string ⟨#[]⟩] 28)
  generalize (w.alloc (.cells #[.slice a n c, .slice ga gn gc, .int .i64 st, .string (str fl)] 28)).alloc (.cells #[.slice none 0 0, .slice none 0 0, .int .i64 0, .string ⟨#[]⟩] 28) = w1 at *
  have hb2 := H.out.below (Ap.stable_cellsAt stC) hbB
  obtain ⟨⟨c0, c1, c2, c3⟩, f0, f1, f2, f3⟩ := env4 hb0
  have HK0 := Lib.hid hb0
  have HK1 := Lib.hid hb1
  have HB := Lib.hid hbB
  have HH := Lib.hid hb2
  have HS := Lib.hid (show w.heap.size + 2 ≤ w1.heap.size by omega)
  clear hb0 hb1 hbB hbs hb2
  have t1 : decide ((k : Int) < 0) = false := decide_eq_false (by omega)
  have t2 : decide ((gn : Int) < (k : Int)) = false := decide_eq_false (by omega)
  have hcut := HCut.out .i64
  go_wp2_with fail
  refine (HCl.out w1 HH.out).mono ?_
  rintro e w2 ⟨v, rfl, hown, hb2⟩
  obtain ⟨a2, q2, rfl, _⟩ := sts_of_own hown
  have k0 := (hb2.block w.heap.size (by have := HS.out; omega)).trans HK0.out
  have k1 := (hb2.block (w.heap.size + 1) (by have := HS.out; omega)).trans HK1.out
  have HB2 := Lib.hid (HB.out.trans (hb2.mono HB.out.size))
  have HO2 : Hid (OwnS w2 (w.heap.size + 2) (.slice a2 D.length q2) D) := own_baseS hown HS.out
  clear c0 c1 c2 c3 f0 f1 f2 f3 HK0 HK1 HB HH hb2 hown HCl HCut hcut
  obtain ⟨⟨c0, c1, c2, c3⟩, f0, f1, f2, f3⟩ := env4 k0
  obtain ⟨⟨d0, d1, d2, d3⟩, e0, e1, e2, e3⟩ := env4 k1
  have HK0 := Lib.hid k0
  have HK1 := Lib.hid k1
  clear k0 k1
  go_upto_region 4 with fail
  have k0 : (w2.setCell ⟨w.heap.size, 1, none⟩ (.slice a2 D.length q2)).heap[w.heap.size]? = some (.cells #[.slice a n c, .slice a2 D.length q2, .int .i64 st, .string (str fl)] 28) := heap_setCell_same _ _ 1 _ _ _ HK0.out
  have k1 := (set_other w2 w.heap.size 1 (.slice a2 D.length q2) (w.heap.size + 1) (by omega)).trans HK1.out
  have HB3 := Lib.hid (HB2.out.setCell (p := ⟨w.heap.size, 1, none⟩) (Nat.le_refl _) (.slice a2 D.length q2))
  have HO3 : Hid (OwnS (w2.setCell ⟨w.heap.size, 1, none⟩ (.slice a2 D.length q2)) (w.heap.size + 2) (.slice a2 D.length q2) D) := by
    show World.ownsRow _ _ _ _ _ _ _
    exact ownsRow_setCell_below HO2.out (by show w.heap.size < _; omega) _
  clear c0 c1 c2 c3 f0 f1 f2 f3 d0 d1 d2 d3 e0 e1 e2 e3 HK0 HK1 HB2 HO2
  generalize w2.setCell ⟨w.heap.size, 1, none⟩ (.slice a2 D.length q2) = w3 at *
  obtain ⟨⟨c0, c1, c2, c3⟩, f0, f1, f2, f3⟩ := env4 k0
  obtain ⟨⟨d0, d1, d2, d3⟩, e0, e1, e2, e3⟩ := env4 k1
  have HK1 := Lib.hid k1
  clear k0 k1
  go_wp2_with fail
  obtain ⟨⟨y0, y1, y2, y3⟩, _⟩ := env4 (env4_set HK1.out (.slice a n c) (.slice a2 D.length q2) (.int .i64 st) (.string (str fl)))
  refine bodyPost_ret (v := .tuple #[.agg #[.slice a n c, .slice a2 D.length q2, .int .i64 st, .string (str fl)], .bool true]) (by simp [results, Tryd.results16, go_sem, y0, y1, y2, y3]) rfl ?_
  exact ⟨_, rfl, own_boxS HO3.out _ _ _ _, (((HB3.out.setCell (Nat.le_succ _) _).setCell (Nat.le_succ _) _).setCell (Nat.le_succ _) _).setCell (Nat.le_succ _) _⟩
end Go.Proofs.YtchmpkgjjkfjcaaDoor
