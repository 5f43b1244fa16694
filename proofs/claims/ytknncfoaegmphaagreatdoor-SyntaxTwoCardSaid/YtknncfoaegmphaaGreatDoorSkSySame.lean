/-
 Syntax: the document's Same: are two rows of nodes the same but for lines? Conditions: both rows read as lists.
-/
import Derived.Test.YtknncfoaegmphaaGreatDoorSkGSyG
import Derived.Laws.StructEq
set_option linter.unusedVariables false
set_option linter.unusedSimpArgs false
set_option maxRecDepth 100000
namespace Go.Proofs.YtknncfoaegmphaaGreatDoor.Sx
open Go.RowKit Base Lx Sy
def vQ : Value → Nat
 | .int _ z => z.toNat
 | _ => 0
theorem take_next {α : Type} {l m : List α} {i : Nat} (h : l.take i = m.take i) (hl : i < l.length) (hm : i < m.length) (e : l[i] = m[i]) : l.take (i + 1) = m.take (i + 1) := by
 rw [List.take_succ_eq_append_getElem hl, List.take_succ_eq_append_getElem hm, h, e]
set_option maxHeartbeats 8000000 in
theorem texts_calls (W : World) (B1 B2 : Nat) (u1 u2 : Value) (l1 l2 : List Nm) (h1 : W.ownsRow B1 stT 1 u1 l1.length (l1.map sv)) (h2 : W.ownsRow B2 stT 1 u2 l2.length (l2.map sv)) :
  Calls Tryz.prog 24 #[u1, u2] W fun r W' => r = .returned (.bool (decide (l1 = l2))) ∧ Below W.heap.size W W' := by
 have hm : l1.length ≤ 9223372036854775807 := by
  obtain ⟨_, _, _, h3, h4, _⟩ := ownsRow_slice h1
  have : maxLen = 9223372036854775807 := rfl
  omega
 obtain ⟨a1, c1, rfl, b1, o1, hc1, hi1⟩ := words_at h1
 obtain ⟨a2, c2, rfl, b2, o2, hc2, hi2⟩ := words_at h2
 obtain ⟨n1, hn1⟩ : ∃ n, l1.length = n := ⟨_, rfl⟩
 obtain ⟨n2, hn2⟩ : ∃ n, l2.length = n := ⟨_, rfl⟩
 rw [hn1] at hi1 hm ⊢
 rw [hn2] at hi2 ⊢
 have HC1 := Lib.hid hc1
 have HC2 := Lib.hid hc2
 have HI1 := Lib.hid hi1
 have HI2 := Lib.hid hi2
 have HN1 := Lib.hid hn1
 have HN2 := Lib.hid hn2
 clear h1 h2 hc1 hc2 hi1 hi2 hn1 hn2
 go_enter Tryz.func24, Tryz.ntmps24
 by_cases hl : n1 = n2
 case neg =>
  have hf : decide (l1 = l2) = false := decide_eq_false fun e => hl (by rw [← HN1.out, ← HN2.out, e])
  have t1 : ((n1 : Int) == (n2 : Int)) = false := by rw [beq_eq_false_iff_ne]; omega
  have t2 : ((n1 : Int) != (n2 : Int)) = true := by rw [bne_iff_ne]; omega
  have t3 : decide ((n1 : Int) = (n2 : Int)) = false := decide_eq_false (by omega)
  rw [hf]
  go_wp2_with fail
  go_ret
  exact ⟨rfl, Below.refl _ _⟩
 case pos =>
  subst hl
  have t1 : ((n1 : Int) == (n1 : Int)) = true := by simp
  have t2 : ((n1 : Int) != (n1 : Int)) = false := by simp
  go_upto_region 4 with fail
  clear t1 t2
  go_loopw [5] (fun v5 wr => ∃ i : Nat, i ≤ n1 ∧ v5 = .int .i64 (i : Int) ∧ l1.take i = l2.take i ∧ Below W.heap.size W wr) (fun v5 _ => n1 - vQ v5)
  case atStart => exact ⟨0, Nat.zero_le _, rfl, by simp, Below.refl _ _⟩
  case round =>
   obtain ⟨i, hi, rfl, ht, hb⟩ := hrel
   have HT := Lib.hid ht
   have HB := Lib.hid hb
   by_cases hlt : i < n1
   case pos =>
    have p3 : decide (i < n1) = true := decide_eq_true (by omega)
    have p1 : decide ((i : Int) < (n1 : Int)) = true := decide_eq_true (by omega)
    have p2 : (i : Int) < (n1 : Int) := by omega
    have x1 : i < l1.length := by rw [HN1.out]; exact hlt
    have x2 : i < l2.length := by rw [HN2.out]; exact hlt
    have j1 : ∀ w, (Instr.indexAt 30 (.slice a1 n1 c1) (.int .i64 (i : Int))).run Tryz.prog w = .ok (.pointer (some ⟨b1, o1 + i, none⟩)) w := fun w => HI1.out i w hlt
    have j2 : ∀ w, (Instr.indexAt 30 (.slice a2 n1 c2) (.int .i64 (i : Int))).run Tryz.prog w = .ok (.pointer (some ⟨b2, o2 + i, none⟩)) w := fun w => HI2.out i w hlt
    have g1 := cell_below hb (Nat.le_refl _) (HC1.out i _ (List.getElem?_eq_getElem x1))
    have g2 := cell_below hb (Nat.le_refl _) (HC2.out i _ (List.getElem?_eq_getElem x2))
    by_cases he : l1[i] = l2[i]
    ·
     have HE : Hid (l1.take (i + 1) = l2.take (i + 1)) := take_next ht x1 x2 he
     rw [he] at g1
     obtain ⟨y, hy⟩ : ∃ y, l2[i] = y := ⟨_, rfl⟩
     rw [hy] at g1 g2
     have t1 : ((str y).toList == (str y).toList) = true := by simp
     have t2 : ((str y).toList != (str y).toList) = false := by simp
     clear he hy ht hb x1 x2
     go_upto_region 6 with fail
     go_quiet (fail)
     go_wp2_with fail
     go_roundw
     case rel => exact ⟨i + 1, by omega, by go_num, HE.out, HB.out.trans ((drewN_below _ _).mono HB.out.size)⟩
     case measure => simp [vQ]; omega
    ·
     have HF : Hid (decide (l1 = l2) = false) := decide_eq_false fun e => he (by subst e; rfl)
     obtain ⟨y, hy⟩ : ∃ y, l2[i] = y := ⟨_, rfl⟩
     obtain ⟨x, hx⟩ : ∃ x, l1[i] = x := ⟨_, rfl⟩
     rw [hy] at g2 he
     rw [hx] at g1 he
     have t1 : ((str x).toList == (str y).toList) = false := by rw [str_tl2, str_tl2]; simpa using he
     have t2 : ((str x).toList != (str y).toList) = true := by rw [str_tl2, str_tl2]; simpa using he
     clear he hy hx ht hb x1 x2
     go_upto_region 6 with fail
     go_quiet (fail)
     go_wp2_with fail
     go_ret
     exact ⟨by rw [HF.out]; rfl, HB.out.trans ((drewN_below _ _).mono HB.out.size)⟩
   case neg =>
    obtain rfl : i = n1 := by omega
    have p3 : decide (i < i) = false := decide_eq_false (by omega)
    have p1 : decide ((i : Int) < (i : Int)) = false := decide_eq_false (by omega)
    have p2 : ¬ ((i : Int) < (i : Int)) := by omega
    have HF : Hid (decide (l1 = l2) = true) := decide_eq_true (by
     have := HT.out
     rw [List.take_of_length_le (by rw [HN1.out]; exact Nat.le_refl _), List.take_of_length_le (by rw [HN2.out]; exact Nat.le_refl _)] at this
     exact this)
    clear ht hb
    go_wp2_with fail
    go_ret
    exact ⟨by rw [HF.out]; rfl, HB.out⟩
def rrG (x : Rdr) : Value := .agg (rrC x).toArray
theorem load_rr {w : World} {b o : Nat} {x : Rdr} (hc : Ap.cellsAt rrC w b o x) : (Instr.loadAt rrT (.pointer (some ⟨b, o, none⟩))).run Tryz.prog w = .ok (rrG x) w := by
 obtain ⟨d, hu, hr⟩ := Option.map_eq_some_iff.1 und_rr
 exact run_loadAt_mid w b o rrT (rrC x) d hc hu hr (by rw [rrC_len]; exact info_rrS)
theorem neq_rdr (x y : Rdr) (w : World) : (binOp .neq rrT (rrG x) (rrG y)).run Tryz.prog w = .ok (.bool (decide (x ≠ y))) w := by
 obtain ⟨k, a, b, n⟩ := x
 obtain ⟨k2, c, d, n2⟩ := y
 have u9 := Tryz.underlying9
 have u3 := Tryz.underlying3
 have hS : Tryz.prog.underlying rrT = some (.struct (Tryz.prog.fieldsOf rrT)) := by kernel_rfl
 have hp : Tryz.prog.stoodInHeld rrT = false := by kernel_rfl
 have key : (Op.equalIn 10000 rrT (rrG ⟨k, a, b, n⟩) (rrG ⟨k2, c, d, n2⟩)).run Tryz.prog w = .ok (decide ((⟨k, a, b, n⟩ : Rdr) = ⟨k2, c, d, n2⟩)) w := by
  unfold rrG rrC
  rw [show (10000 : Nat) = 9999 + 1 from rfl, run_equalIn_agg w 9999 rrT _ _ hS hp]
  simp only [Program.fieldsOf, Tryz.underlying43]
  go_simp
  simp only [str_tl2]
  have hz : ((k : Int) = (k2 : Int)) = (k = k2) := by simp only [eq_iff_iff]; omega
  have hz2 : ((k : Int) == (k2 : Int)) = (k == k2) := by rw [Bool.eq_iff_iff, beq_iff_eq, beq_iff_eq]; omega
  by_cases h0 : k = k2 <;> by_cases h1 : a = c <;> by_cases h2 : b = d <;> by_cases h3 : n = n2 <;> simp [h0, h1, h2, h3, hz, hz2]
 have e := run_neq_struct (P := Tryz.prog) (t := rrT) (w := w) (xs := #[.int .i64 (k : Int), .string (str a), .string (str b), .string (str n)]) (ys := #[.int .i64 (k2 : Int), .string (str c), .string (str d), .string (str n2)])
 refine e.trans ?_
 refine (congrArg (fun z => Result.andThen z _) key).trans ?_
 by_cases e : (⟨k, a, b, n⟩ : Rdr) = ⟨k2, c, d, n2⟩ <;> simp [Result.andThen, e]
theorem does_neq_rr {a : Act} {w : World} {post : Value → World → Prop} {dst : Option Tmp} {x y : Operand} {u : TypeId} {ty : TypeId} {pos : String} {after : Array Edge} {guard : Option (Nat × Bool)} (X Y : Rdr) (b : Bool)
  (hx : a.eval x = rrG X) (hy : a.eval y = rrG Y) (hr : ∀ w, (binOp .neq rrT (rrG X) (rrG Y)).run Tryz.prog w = .ok (.bool b) w) (hp : post (.bool b) w) : Rg.does Tryz.prog { dst, op := .binOp .neq rrT x y u, type := ty, pos, after, guard } a w post := by
 refine Rg.does_value (v := .bool b) ?_ hp
 have hg := run_eqGuard_agg (P := Tryz.prog) (w := w) .neq rrT x y (rrC X).toArray (rrC Y).toArray (by kernel_rfl)
 have h := hr w
 unfold rrG at h hx hy
 simp [execOp, hx, hy, hg, h, Result.andThen]
theorem bare_iff (a b : Nd) : Sy.bare a = Sy.bare b ↔ a.ws = b.ws ∧ a.k = b.k ∧ a.t = b.t ∧ a.fl = b.fl ∧ a.st = b.st ∧ a.ks = b.ks ∧ a.rs = b.rs := by
 obtain ⟨k, t, f, w, s, r, q, l⟩ := a
 obtain ⟨k', t', f', w', s', r', q', l'⟩ := b
 unfold Sy.bare
 simp only [Nd.mk.injEq]
 constructor
 · rintro ⟨h1, h2, h3, h4, h5, h6, h7, _⟩; exact ⟨h4, h1, h2, h3, h5, h7, h6⟩
 · rintro ⟨h1, h2, h3, h4, h5, h6, h7⟩; exact ⟨h2, h3, h4, h1, h5, h7, h6, trivial⟩
theorem two_heap (w : World) (o0 o1 : Obj) : ((w.alloc o0).alloc o1).heap[w.heap.size]? = some o0 ∧ ((w.alloc o0).alloc o1).heap[w.heap.size + 1]? = some o1 := by
 obtain ⟨h0, h1, _⟩ := Ap.heap3 w o0 o1 o1
 have hb := (Below.refl ((w.alloc o0).alloc o1).heap.size ((w.alloc o0).alloc o1)).alloc (Nat.le_refl _) o1
 have hs : ((w.alloc o0).alloc o1).heap.size = w.heap.size + 1 + 1 := by simp only [World.size_alloc]
 exact ⟨by rw [← hb.block _ (by omega)]; exact h0, by rw [← hb.block _ (by omega)]; exact h1⟩
theorem len_max {W : World} {B : Nat} {t : TypeId} {k n : Nat} {v : Value} {cs : List Value} (h : W.ownsRow B t k v n cs) : n ≤ 9223372036854775807 := by
 obtain ⟨_, _, _, h3, h4, _⟩ := ownsRow_slice h
 have : maxLen = 9223372036854775807 := rfl
 omega
theorem ints_row {W : World} {B : Nat} {v : Value} {l : List Nat} (h : W.ownsRow B inT 1 v l.length (l.map iv)) : ∃ a c, v = .slice a l.length c ∧ ∃ b1 off, (∀ (k : Nat) (x : Nat), l[k]? = some x → W.cell? ⟨b1, off + k, none⟩ = some (.int .i64 (x : Int))) ∧ ∀ (k : Nat) (w' : World), k < l.length → (Instr.indexAt 29 (.slice a l.length c) (.int .i64 (k : Int))).run Tryz.prog w' = .ok (.pointer (some ⟨b1, off + k, none⟩)) w' := ints_at (hh := l) h
set_option maxHeartbeats 16000000 in
theorem node_calls (W : World) (P1 P2 : Nat → Prop) (a b : Nd) (uw1 ur1 uk1 uw2 ur2 uk2 : Value) (h1 : Rows W P1 a uw1 ur1 uk1) (h2 : Rows W P2 b uw2 ur2 uk2) :
  Calls Tryz.prog 16 #[.agg #[.int .i64 (a.k : Int), .string (str a.t), .bool a.fl, uw1, .int .i64 (a.st : Int), ur1, uk1, .int .i64 (a.ln : Int)], .agg #[.int .i64 (b.k : Int), .string (str b.t), .bool b.fl, uw2, .int .i64 (b.st : Int), ur2, uk2, .int .i64 (b.ln : Int)]] W fun r W' => r = .returned (.bool (decide (Sy.bare a = Sy.bare b))) ∧ Below W.heap.size W W' := by
 have hmk1 := len_max h1.k
 have hmr1 := len_max h1.r
 have H1 := Lib.hid h1
 have H2 := Lib.hid h2
 obtain ⟨aw1, cw1, hv1, _⟩ := ownsRow_slice h1.w
 obtain ⟨aw2, cw2, hv2, _⟩ := ownsRow_slice h2.w
 obtain ⟨ar1, cr1, rfl, br1, or1, hcr1, hir1⟩ := redirs_at h1.r
 obtain ⟨ar2, cr2, rfl, br2, or2, hcr2, hir2⟩ := redirs_at h2.r
 obtain ⟨ak1, ck1, rfl, bk1, ok1, hck1, hik1⟩ := ints_row h1.k
 obtain ⟨ak2, ck2, rfl, bk2, ok2, hck2, hik2⟩ := ints_row h2.k
 subst hv1 hv2
 have HB1 := Lib.hid (bare_iff a b)
 have HW1 : Hid (W.ownsRow 0 stT 1 (.slice aw1 a.ws.length cw1) a.ws.length (a.ws.map sv)) := h1.w
 have HW2 : Hid (W.ownsRow 0 stT 1 (.slice aw2 b.ws.length cw2) b.ws.length (b.ws.map sv)) := h2.w
 clear h1 h2 H1 H2
 obtain ⟨k1, t1, f1, w1, s1, r1, q1, g1⟩ := a
 obtain ⟨k2, t2, f2, w2, s2, r2, q2, g2⟩ := b
 simp only at hcr1 hcr2 hir1 hir2 hck1 hck2 hik1 hik2 hmk1 hmr1 HB1 HW1 HW2 ⊢
 obtain ⟨D, hD⟩ : ∃ D, decide (Sy.bare (⟨k1, t1, f1, w1, s1, r1, q1, g1⟩ : Nd) = Sy.bare (⟨k2, t2, f2, w2, s2, r2, q2, g2⟩ : Nd)) = D := ⟨_, rfl⟩
 have HD : Hid (D = decide (w1 = w2 ∧ k1 = k2 ∧ t1 = t2 ∧ f1 = f2 ∧ s1 = s2 ∧ q1 = q2 ∧ r1 = r2)) := by show _ = _; rw [← hD]; exact decide_eq_decide.2 HB1.out
 rw [hD]
 obtain ⟨nq1, hnq1⟩ : ∃ n, q1.length = n := ⟨_, rfl⟩
 obtain ⟨nq2, hnq2⟩ : ∃ n, q2.length = n := ⟨_, rfl⟩
 obtain ⟨nr1, hnr1⟩ : ∃ n, r1.length = n := ⟨_, rfl⟩
 obtain ⟨nr2, hnr2⟩ : ∃ n, r2.length = n := ⟨_, rfl⟩
 rw [hnq1] at hik1 hmk1 ⊢
 rw [hnq2] at hik2 ⊢
 rw [hnr1] at hir1 hmr1 ⊢
 rw [hnr2] at hir2 ⊢
 have HCR1 := Lib.hid hcr1
 have HCR2 := Lib.hid hcr2
 have HIR1 := Lib.hid hir1
 have HIR2 := Lib.hid hir2
 have HCK1 := Lib.hid hck1
 have HCK2 := Lib.hid hck2
 have HIK1 := Lib.hid hik1
 have HIK2 := Lib.hid hik2
 have HQ1 := Lib.hid hnq1
 have HQ2 := Lib.hid hnq2
 have HR1 := Lib.hid hnr1
 have HR2 := Lib.hid hnr2
 clear hcr1 hcr2 hir1 hir2 hck1 hck2 hik1 hik2 hnq1 hnq2 hnr1 hnr2 hD HB1
 go_enter Tryz.func16, Tryz.ntmps16
 go_upto_region 1 with fail
 obtain ⟨N, hN⟩ : ∃ N, W.heap.size = N := ⟨_, rfl⟩
 obtain ⟨wA, hwA⟩ : ∃ wA, (W.alloc (.cells #[.int .i64 (k1 : Int), .string (str t1), .bool f1, .slice aw1 w1.length cw1, .int .i64 (s1 : Int), .slice ar1 nr1 cr1, .slice ak1 nq1 ck1, .int .i64 (g1 : Int)] ndT)).alloc (.cells #[.int .i64 (k2 : Int), .string (str t2), .bool f2, .slice aw2 w2.length cw2, .int .i64 (s2 : Int), .slice ar2 nr2 cr2, .slice ak2 nq2 ck2, .int .i64 (g2 : Int)] ndT) = wA := ⟨_, rfl⟩
 obtain ⟨hx1, hx2⟩ := two_heap W (.cells #[.int .i64 (k1 : Int), .string (str t1), .bool f1, .slice aw1 w1.length cw1, .int .i64 (s1 : Int), .slice ar1 nr1 cr1, .slice ak1 nq1 ck1, .int .i64 (g1 : Int)] ndT) (.cells #[.int .i64 (k2 : Int), .string (str t2), .bool f2, .slice aw2 w2.length cw2, .int .i64 (s2 : Int), .slice ar2 nr2 cr2, .slice ak2 nq2 ck2, .int .i64 (g2 : Int)] ndT)
 have hbA : Below W.heap.size W wA := by rw [← hwA]; exact ((Below.refl _ _).alloc (Nat.le_refl _) _).alloc (by simp only [World.size_alloc]; omega) _
 rw [hwA] at hx1 hx2
 rw [hN] at hx1 hx2
 rw [hwA, hN]
 obtain ⟨⟨y0, y1, y2, y3, y4, y5, y6, y7⟩, _⟩ := nd_cells hx1
 obtain ⟨⟨z0, z1, z2, z3, z4, z5, z6, z7⟩, _⟩ := nd_cells hx2
 have HX1 := Lib.hid hx1
 have HX2 := Lib.hid hx2
 have HBA := Lib.hid hbA
 have HN := Lib.hid hN
 have HWa := Lib.hid (ownsRow_below HW1.out hbA)
 have HWb := Lib.hid (ownsRow_below HW2.out hbA)
 clear hx1 hx2 hbA hwA hN
 go_wp2_with fail
 refine (texts_calls wA 0 0 _ _ w1 w2 HWa.out HWb.out).mono ?_
 rintro r wB ⟨rfl, hbB⟩
 have HX1B : Hid (wB.heap[N]? = _) := (hbB.block N (Array.getElem?_eq_some_iff.1 HX1.out).1).trans HX1.out
 have HX2B : Hid (wB.heap[N + 1]? = _) := (hbB.block (N + 1) (Array.getElem?_eq_some_iff.1 HX2.out).1).trans HX2.out
 have HBB : Hid (Below W.heap.size W wB) := HBA.out.trans (hbB.mono HBA.out.size)
 clear y0 y1 y2 y3 y4 y5 y6 y7 z0 z1 z2 z3 z4 z5 z6 z7 hbB
 obtain ⟨⟨y0, y1, y2, y3, y4, y5, y6, y7⟩, _⟩ := nd_cells HX1B.out
 obtain ⟨⟨z0, z1, z2, z3, z4, z5, z6, z7⟩, _⟩ := nd_cells HX2B.out
 by_cases c0 : w1 = w2
 case neg =>
  have HF : Hid (D = false) := by show _ = _; rw [HD.out]; exact decide_eq_false fun e => c0 e.1
  have e0 : decide (w1 = w2) = false := decide_eq_false c0
  rw [e0]
  clear c0
  go_wp2_with fail
  go_ret
  exact ⟨by rw [HF.out]; rfl, HBB.out⟩
 have e0 : decide (w1 = w2) = true := decide_eq_true c0
 rw [e0]
 by_cases c1 : k1 = k2
 case neg =>
  have HF : Hid (D = false) := by show _ = _; rw [HD.out]; exact decide_eq_false fun e => c1 (e.2.1)
  have v1 : ((k1 : Int) == (k2 : Int)) = false := by rw [beq_eq_false_iff_ne]; omega
  have v2 : ((k1 : Int) != (k2 : Int)) = true := by rw [bne_iff_ne]; omega
  have v3 : decide ((k1 : Int) = (k2 : Int)) = false := decide_eq_false (by omega)
  clear c1
  go_wp2_with fail
  go_ret
  exact ⟨by rw [HF.out]; rfl, HBB.out⟩
 subst c1
 by_cases c2 : t1 = t2
 case neg =>
  have HF : Hid (D = false) := by show _ = _; rw [HD.out]; exact decide_eq_false fun e => c2 (e.2.2.1)
  have v1 : ((str t1).toList == (str t2).toList) = false := by rw [str_tl2, str_tl2]; simpa using c2
  have v2 : ((str t1).toList != (str t2).toList) = true := by rw [str_tl2, str_tl2]; simpa using c2
  clear c2
  go_wp2_with fail
  go_ret
  exact ⟨by rw [HF.out]; rfl, HBB.out⟩
 subst c2
 by_cases c3 : f1 = f2
 case neg =>
  have HF : Hid (D = false) := by show _ = _; rw [HD.out]; exact decide_eq_false fun e => c3 (e.2.2.2.1)
  have v1 : (f1 == f2) = false := by simpa using c3
  have v2 : (f1 != f2) = true := by simpa using c3
  clear c3
  go_wp2_with fail
  go_ret
  exact ⟨by rw [HF.out]; rfl, HBB.out⟩
 subst c3
 by_cases c4 : s1 = s2
 case neg =>
  have HF : Hid (D = false) := by show _ = _; rw [HD.out]; exact decide_eq_false fun e => c4 (e.2.2.2.2.1)
  have v1 : ((s1 : Int) == (s2 : Int)) = false := by rw [beq_eq_false_iff_ne]; omega
  have v2 : ((s1 : Int) != (s2 : Int)) = true := by rw [bne_iff_ne]; omega
  have v3 : decide ((s1 : Int) = (s2 : Int)) = false := decide_eq_false (by omega)
  clear c4
  go_wp2_with fail
  go_ret
  exact ⟨by rw [HF.out]; rfl, HBB.out⟩
 subst c4
 by_cases c5 : nq1 = nq2
 case neg =>
  have HF : Hid (D = false) := by show _ = _; rw [HD.out]; exact decide_eq_false fun e => c5 (by rw [← HQ1.out, ← HQ2.out, e.2.2.2.2.2.1])
  have v1 : ((nq1 : Int) == (nq2 : Int)) = false := by rw [beq_eq_false_iff_ne]; omega
  have v2 : ((nq1 : Int) != (nq2 : Int)) = true := by rw [bne_iff_ne]; omega
  have v3 : decide ((nq1 : Int) = (nq2 : Int)) = false := decide_eq_false (by omega)
  clear c5
  go_wp2_with fail
  go_ret
  exact ⟨by rw [HF.out]; rfl, HBB.out⟩
 subst c5
 by_cases c6 : nr1 = nr2
 case neg =>
  have HF : Hid (D = false) := by show _ = _; rw [HD.out]; exact decide_eq_false fun e => c6 (by rw [← HR1.out, ← HR2.out, e.2.2.2.2.2.2])
  have v1 : ((nr1 : Int) == (nr2 : Int)) = false := by rw [beq_eq_false_iff_ne]; omega
  have v2 : ((nr1 : Int) != (nr2 : Int)) = true := by rw [bne_iff_ne]; omega
  have v3 : decide ((nr1 : Int) = (nr2 : Int)) = false := decide_eq_false (by omega)
  clear c6
  go_wp2_with fail
  go_ret
  exact ⟨by rw [HF.out]; rfl, HBB.out⟩
 subst c6
 have HC0 := Lib.hid c0
 clear c0
 go_upto_region 5 with fail
 clear e0
 go_loopw [6] (fun v wr => ∃ i : Nat, i ≤ nq1 ∧ v = .int .i64 (i : Int) ∧ q1.take i = q2.take i ∧ Below wB.heap.size wB wr) (fun v _ => nq1 - vQ v)
 case atStart => exact ⟨0, Nat.zero_le _, rfl, by simp, Below.refl _ _⟩
 case round =>
  obtain ⟨i, hi, rfl, ht, hb⟩ := hrel
  have HT := Lib.hid ht
  have HB : Hid (Below W.heap.size W wr) := HBB.out.trans (hb.mono HBB.out.size)
  have HBw := Lib.hid hb
  obtain ⟨⟨y0, y1, y2, y3, y4, y5, y6, y7⟩, _⟩ := nd_cells ((hb.block N (Array.getElem?_eq_some_iff.1 HX1B.out).1).trans HX1B.out)
  obtain ⟨⟨z0, z1, z2, z3, z4, z5, z6, z7⟩, _⟩ := nd_cells ((hb.block (N + 1) (Array.getElem?_eq_some_iff.1 HX2B.out).1).trans HX2B.out)
  by_cases hlt : i < nq1
  case pos =>
   have p3 : decide (i < nq1) = true := decide_eq_true (by omega)
   have p1 : decide ((i : Int) < (nq1 : Int)) = true := decide_eq_true (by omega)
   have p2 : (i : Int) < (nq1 : Int) := by omega
   have x1 : i < q1.length := by rw [HQ1.out]; exact hlt
   have x2 : i < q2.length := by rw [HQ2.out]; exact hlt
   have j1 : ∀ w, (Instr.indexAt 29 (.slice ak1 nq1 ck1) (.int .i64 (i : Int))).run Tryz.prog w = .ok (.pointer (some ⟨bk1, ok1 + i, none⟩)) w := fun w => HIK1.out i w hlt
   have j2 : ∀ w, (Instr.indexAt 29 (.slice ak2 nq1 ck2) (.int .i64 (i : Int))).run Tryz.prog w = .ok (.pointer (some ⟨bk2, ok2 + i, none⟩)) w := fun w => HIK2.out i w hlt
   have g5 := cell_below (HBB.out.trans (hb.mono HBB.out.size)) (Nat.le_refl _) (HCK1.out i _ (List.getElem?_eq_getElem x1))
   have g6 := cell_below (HBB.out.trans (hb.mono HBB.out.size)) (Nat.le_refl _) (HCK2.out i _ (List.getElem?_eq_getElem x2))
   by_cases he : q1[i] = q2[i]
   ·
    have HE : Hid (q1.take (i + 1) = q2.take (i + 1)) := take_next ht x1 x2 he
    rw [he] at g5
    obtain ⟨y, hy⟩ : ∃ y, q2[i] = y := ⟨_, rfl⟩
    rw [hy] at g5 g6
    clear hy
    have v1 : ((y : Int) == (y : Int)) = true := by simp
    have v2 : ((y : Int) != (y : Int)) = false := by simp
    clear he ht hb x1 x2
    go_upto_region 7 with fail
    go_quiet (fail)
    go_wp2_with fail
    go_roundw
    case rel => exact ⟨i + 1, by omega, by go_num, HE.out, HBw.out.trans ((drewN_below _ _).mono HBw.out.size)⟩
    case measure => simp [vQ]; omega
   ·
    have HF : Hid (D = false) := by show _ = _; rw [HD.out]; exact decide_eq_false fun e => he (by have e2 := e.2.2.2.2.2.1; subst e2; rfl)
    obtain ⟨y, hy⟩ : ∃ y, q2[i] = y := ⟨_, rfl⟩
    obtain ⟨x, hx⟩ : ∃ x, q1[i] = x := ⟨_, rfl⟩
    rw [hy] at g6 he
    rw [hx] at g5 he
    have v1 : ((x : Int) == (y : Int)) = false := by rw [beq_eq_false_iff_ne]; omega
    have v2 : ((x : Int) != (y : Int)) = true := by rw [bne_iff_ne]; omega
    have v3 : decide ((x : Int) = (y : Int)) = false := decide_eq_false (by omega)
    clear hy hx
    clear he ht hb x1 x2
    go_upto_region 7 with fail
    go_quiet (fail)
    go_wp2_with fail
    go_ret
    exact ⟨by rw [HF.out]; rfl, HB.out.trans ((drewN_below _ _).mono HB.out.size)⟩
  case neg =>
   obtain rfl : i = nq1 := by omega
   have p3 : decide (i < i) = false := decide_eq_false (by omega)
   have p1 : decide ((i : Int) < (i : Int)) = false := decide_eq_false (by omega)
   have p2 : ¬ ((i : Int) < (i : Int)) := by omega
   have HE : Hid (q1 = q2) := by
    have := HT.out
    rw [List.take_of_length_le (by rw [HQ1.out]; exact Nat.le_refl _), List.take_of_length_le (by rw [HQ2.out]; exact Nat.le_refl _)] at this
    exact this
   clear ht hb
   have HEq := HE
   clear HE HT
   have HBB2 := HB
   have HX1C : Hid (wr.heap[N]? = _) := (HBw.out.block N (Array.getElem?_eq_some_iff.1 HX1B.out).1).trans HX1B.out
   have HX2C : Hid (wr.heap[N + 1]? = _) := (HBw.out.block (N + 1) (Array.getElem?_eq_some_iff.1 HX2B.out).1).trans HX2B.out
   obtain ⟨wC, hwC⟩ : ∃ wC, wC = wr := ⟨_, rfl⟩
   subst hwC
   clear HX1B HX2B HBB HBw HB
   have HX1B := HX1C
   have HX2B := HX2C
   have HBB := HBB2
   clear HX1C HX2C HBB2
   go_upto_region 10 with fail
   clear y0 y1 y2 y3 y4 y5 y6 y7 z0 z1 z2 z3 z4 z5 z6 z7 p1 p2
   go_loopw [7] (fun v wr => ∃ i : Nat, i ≤ nr1 ∧ v = .int .i64 (i : Int) ∧ r1.take i = r2.take i ∧ Below wC.heap.size wC wr) (fun v _ => nr1 - vQ v)
   case atStart => exact ⟨0, Nat.zero_le _, rfl, by simp, Below.refl _ _⟩
   case round =>
    obtain ⟨i, hi, rfl, ht, hb⟩ := hrel
    have HT := Lib.hid ht
    have HB : Hid (Below W.heap.size W wr) := HBB.out.trans (hb.mono HBB.out.size)
    have HBw := Lib.hid hb
    obtain ⟨⟨y0, y1, y2, y3, y4, y5, y6, y7⟩, _⟩ := nd_cells ((hb.block N (Array.getElem?_eq_some_iff.1 HX1B.out).1).trans HX1B.out)
    obtain ⟨⟨z0, z1, z2, z3, z4, z5, z6, z7⟩, _⟩ := nd_cells ((hb.block (N + 1) (Array.getElem?_eq_some_iff.1 HX2B.out).1).trans HX2B.out)
    by_cases hlt : i < nr1
    case pos =>
     have p3 : decide (i < nr1) = true := decide_eq_true (by omega)
     have p1 : decide ((i : Int) < (nr1 : Int)) = true := decide_eq_true (by omega)
     have p2 : (i : Int) < (nr1 : Int) := by omega
     have x1 : i < r1.length := by rw [HR1.out]; exact hlt
     have x2 : i < r2.length := by rw [HR2.out]; exact hlt
     have j1 : ∀ w, (Instr.indexAt 31 (.slice ar1 nr1 cr1) (.int .i64 (i : Int))).run Tryz.prog w = .ok (.pointer (some ⟨br1, or1 + i * 4, none⟩)) w := fun w => HIR1.out i w hlt
     have j2 : ∀ w, (Instr.indexAt 31 (.slice ar2 nr1 cr2) (.int .i64 (i : Int))).run Tryz.prog w = .ok (.pointer (some ⟨br2, or2 + i * 4, none⟩)) w := fun w => HIR2.out i w hlt
     have k5 := HCR1.out i _ (List.getElem?_eq_getElem x1)
     have k6 := HCR2.out i _ (List.getElem?_eq_getElem x2)
     have hbw := HBB.out.trans (hb.mono HBB.out.size)
     by_cases he : r1[i] = r2[i]
     ·
      have HE : Hid (r1.take (i + 1) = r2.take (i + 1)) := take_next ht x1 x2 he
      rw [he] at k5
      obtain ⟨y, hy⟩ : ∃ y, r2[i] = y := ⟨_, rfl⟩
      rw [hy] at k5 k6
      have jn : ∀ w, (binOp .neq rrT (rrG y) (rrG y)).run Tryz.prog w = .ok (.bool false) w := fun w => by rw [neq_rdr]; simp
      clear hy he ht hb x1 x2
      go_upto_region 12 with fail
      refine Rg.wp_region_rgl [] [Rg.Is (.pointer (some ⟨N, 5, none⟩)), Rg.Is (.slice ar1 nr1 cr1), Rg.Is (.int .i64 (i : Int)), Rg.Is (.pointer (some ⟨br1, or1 + i * 4, none⟩)), Rg.Is (rrG y), Rg.Is (.pointer (some ⟨N + 1, 5, none⟩)), Rg.Is (.slice ar2 nr1 cr2), Rg.Is (.int .i64 (i : Int)), Rg.Is (.pointer (some ⟨br2, or2 + i * 4, none⟩)), Rg.Is (rrG y), Rg.Is (.bool false)] (by kernel_rfl) (by kernel_rfl) (by kernel_rfl) ⟨Rg.st_is _, Rg.st_is _, Rg.st_is _, Rg.st_is _, Rg.st_is _, Rg.st_is _, Rg.st_is _, Rg.st_is _, Rg.st_is _, Rg.st_is _, Rg.st_is _, trivial⟩ ⟨rfl, rfl, rfl, rfl, rfl, rfl, rfl, rfl, rfl, rfl, rfl, trivial⟩ ⟨?_, ?_, ?_, ?_, ?_, ?_, ?_, ?_, ?_, ?_, ?_, trivial⟩ ?_
      ·
       intro _ a wx hb hk
       have h2 : a.eval (.tmp 2) = .pointer (some ⟨N, 0, none⟩) := Eq.mp (by kernel_rfl) (hk 2 (by decide))
       exact Rs.does_field _ _ h2 (by go_simp) ⟨Below.refl _ _, rfl⟩
      ·
       intro _ a wx hb hk
       have h86 : a.eval (.tmp 86) = .pointer (some ⟨N, 5, none⟩) := Eq.mp (by kernel_rfl) (hk 86 (by decide))
       exact Rg.does_load _ _ h86 (Ap.load_plainP (by simp [isAgg]) (cell_below hb (Nat.le_refl _) y5)) ⟨Below.refl _ _, rfl⟩
      ·
       intro _ a wx hb hk
       have h7 : a.eval (.tmp 7) = .int .i64 (i : Int) := Eq.mp (by kernel_rfl) (hk 7 (by decide))
       exact Rg.does_move ⟨Below.refl _ _, h7⟩
      ·
       intro _ a wx hb hk
       have h87 : a.eval (.tmp 87) = .slice ar1 nr1 cr1 := Eq.mp (by kernel_rfl) (hk 87 (by decide))
       have h88 : a.eval (.tmp 88) = .int .i64 (i : Int) := Eq.mp (by kernel_rfl) (hk 88 (by decide))
       exact Rg.does_index _ _ _ h87 h88 (j1 wx) ⟨Below.refl _ _, rfl⟩
      ·
       intro _ a wx hb hk
       have h89 : a.eval (.tmp 89) = .pointer (some ⟨br1, or1 + i * 4, none⟩) := Eq.mp (by kernel_rfl) (hk 89 (by decide))
       exact Rg.does_load _ _ h89 (load_rr (Ap.stable_cellsAt rrC _ _ _ _ _ hb (Ap.stable_cellsAt rrC _ _ _ _ _ hbw k5))) ⟨Below.refl _ _, rfl⟩
      ·
       intro _ a wx hb hk
       have h3 : a.eval (.tmp 3) = .pointer (some ⟨N + 1, 0, none⟩) := Eq.mp (by kernel_rfl) (hk 3 (by decide))
       exact Rs.does_field _ _ h3 (by go_simp) ⟨Below.refl _ _, rfl⟩
      ·
       intro _ a wx hb hk
       have h91 : a.eval (.tmp 91) = .pointer (some ⟨N + 1, 5, none⟩) := Eq.mp (by kernel_rfl) (hk 91 (by decide))
       exact Rg.does_load _ _ h91 (Ap.load_plainP (by simp [isAgg]) (cell_below hb (Nat.le_refl _) z5)) ⟨Below.refl _ _, rfl⟩
      ·
       intro _ a wx hb hk
       have h7 : a.eval (.tmp 7) = .int .i64 (i : Int) := Eq.mp (by kernel_rfl) (hk 7 (by decide))
       exact Rg.does_move ⟨Below.refl _ _, h7⟩
      ·
       intro _ a wx hb hk
       have h92 : a.eval (.tmp 92) = .slice ar2 nr1 cr2 := Eq.mp (by kernel_rfl) (hk 92 (by decide))
       have h93 : a.eval (.tmp 93) = .int .i64 (i : Int) := Eq.mp (by kernel_rfl) (hk 93 (by decide))
       exact Rg.does_index _ _ _ h92 h93 (j2 wx) ⟨Below.refl _ _, rfl⟩
      ·
       intro _ a wx hb hk
       have h94 : a.eval (.tmp 94) = .pointer (some ⟨br2, or2 + i * 4, none⟩) := Eq.mp (by kernel_rfl) (hk 94 (by decide))
       exact Rg.does_load _ _ h94 (load_rr (Ap.stable_cellsAt rrC _ _ _ _ _ hb (Ap.stable_cellsAt rrC _ _ _ _ _ hbw k6))) ⟨Below.refl _ _, rfl⟩
      ·
       intro _ a wx hb hk
       have h90 : a.eval (.tmp 90) = rrG y := Eq.mp (by kernel_rfl) (hk 90 (by decide))
       have h95 : a.eval (.tmp 95) = rrG y := Eq.mp (by kernel_rfl) (hk 95 (by decide))
       exact does_neq_rr _ _ _ h90 h95 jn ⟨Below.refl _ _, rfl⟩
      intro vals wD hbD hL
      obtain ⟨g0, g1, g2, g3, g4, g5, g6, g7, g8, g9, g10, _⟩ := hL
      have e10 : vals 10 = .bool false := g10
      simp only [Rg.putAll, List.take_succ_cons, List.take_zero, List.drop_succ_cons, List.drop_zero, List.setIfInBounds_toArray, List.set_cons_succ, List.set_cons_zero, e10]
      have HBE : Hid (Below wr.heap.size wr wD) := hbD
      clear g0 g1 g2 g3 g4 g5 g6 g7 g8 g9 g10 e10 hbD k5 k6 hbw
      go_wp2_with fail
      go_roundw
      case rel => exact ⟨i + 1, by omega, by go_num, HE.out, HBw.out.trans (HBE.out.mono HBw.out.size)⟩
      case measure => simp [vQ]; omega
     ·
      have HF : Hid (D = false) := by show _ = _; rw [HD.out]; exact decide_eq_false fun e => he (by have e2 := e.2.2.2.2.2.2; subst e2; rfl)
      obtain ⟨y, hy⟩ : ∃ y, r2[i] = y := ⟨_, rfl⟩
      obtain ⟨x, hx⟩ : ∃ x, r1[i] = x := ⟨_, rfl⟩
      rw [hy] at k6 he
      rw [hx] at k5 he
      have jn : ∀ w, (binOp .neq rrT (rrG x) (rrG y)).run Tryz.prog w = .ok (.bool true) w := fun w => by rw [neq_rdr]; simp [he]
      clear hy hx he ht hb x1 x2
      go_upto_region 12 with fail
      refine Rg.wp_region_rgl [] [Rg.Is (.pointer (some ⟨N, 5, none⟩)), Rg.Is (.slice ar1 nr1 cr1), Rg.Is (.int .i64 (i : Int)), Rg.Is (.pointer (some ⟨br1, or1 + i * 4, none⟩)), Rg.Is (rrG x), Rg.Is (.pointer (some ⟨N + 1, 5, none⟩)), Rg.Is (.slice ar2 nr1 cr2), Rg.Is (.int .i64 (i : Int)), Rg.Is (.pointer (some ⟨br2, or2 + i * 4, none⟩)), Rg.Is (rrG y), Rg.Is (.bool true)] (by kernel_rfl) (by kernel_rfl) (by kernel_rfl) ⟨Rg.st_is _, Rg.st_is _, Rg.st_is _, Rg.st_is _, Rg.st_is _, Rg.st_is _, Rg.st_is _, Rg.st_is _, Rg.st_is _, Rg.st_is _, Rg.st_is _, trivial⟩ ⟨rfl, rfl, rfl, rfl, rfl, rfl, rfl, rfl, rfl, rfl, rfl, trivial⟩ ⟨?_, ?_, ?_, ?_, ?_, ?_, ?_, ?_, ?_, ?_, ?_, trivial⟩ ?_
      ·
       intro _ a wx hb hk
       have h2 : a.eval (.tmp 2) = .pointer (some ⟨N, 0, none⟩) := Eq.mp (by kernel_rfl) (hk 2 (by decide))
       exact Rs.does_field _ _ h2 (by go_simp) ⟨Below.refl _ _, rfl⟩
      ·
       intro _ a wx hb hk
       have h86 : a.eval (.tmp 86) = .pointer (some ⟨N, 5, none⟩) := Eq.mp (by kernel_rfl) (hk 86 (by decide))
       exact Rg.does_load _ _ h86 (Ap.load_plainP (by simp [isAgg]) (cell_below hb (Nat.le_refl _) y5)) ⟨Below.refl _ _, rfl⟩
      ·
       intro _ a wx hb hk
       have h7 : a.eval (.tmp 7) = .int .i64 (i : Int) := Eq.mp (by kernel_rfl) (hk 7 (by decide))
       exact Rg.does_move ⟨Below.refl _ _, h7⟩
      ·
       intro _ a wx hb hk
       have h87 : a.eval (.tmp 87) = .slice ar1 nr1 cr1 := Eq.mp (by kernel_rfl) (hk 87 (by decide))
       have h88 : a.eval (.tmp 88) = .int .i64 (i : Int) := Eq.mp (by kernel_rfl) (hk 88 (by decide))
       exact Rg.does_index _ _ _ h87 h88 (j1 wx) ⟨Below.refl _ _, rfl⟩
      ·
       intro _ a wx hb hk
       have h89 : a.eval (.tmp 89) = .pointer (some ⟨br1, or1 + i * 4, none⟩) := Eq.mp (by kernel_rfl) (hk 89 (by decide))
       exact Rg.does_load _ _ h89 (load_rr (Ap.stable_cellsAt rrC _ _ _ _ _ hb (Ap.stable_cellsAt rrC _ _ _ _ _ hbw k5))) ⟨Below.refl _ _, rfl⟩
      ·
       intro _ a wx hb hk
       have h3 : a.eval (.tmp 3) = .pointer (some ⟨N + 1, 0, none⟩) := Eq.mp (by kernel_rfl) (hk 3 (by decide))
       exact Rs.does_field _ _ h3 (by go_simp) ⟨Below.refl _ _, rfl⟩
      ·
       intro _ a wx hb hk
       have h91 : a.eval (.tmp 91) = .pointer (some ⟨N + 1, 5, none⟩) := Eq.mp (by kernel_rfl) (hk 91 (by decide))
       exact Rg.does_load _ _ h91 (Ap.load_plainP (by simp [isAgg]) (cell_below hb (Nat.le_refl _) z5)) ⟨Below.refl _ _, rfl⟩
      ·
       intro _ a wx hb hk
       have h7 : a.eval (.tmp 7) = .int .i64 (i : Int) := Eq.mp (by kernel_rfl) (hk 7 (by decide))
       exact Rg.does_move ⟨Below.refl _ _, h7⟩
      ·
       intro _ a wx hb hk
       have h92 : a.eval (.tmp 92) = .slice ar2 nr1 cr2 := Eq.mp (by kernel_rfl) (hk 92 (by decide))
       have h93 : a.eval (.tmp 93) = .int .i64 (i : Int) := Eq.mp (by kernel_rfl) (hk 93 (by decide))
       exact Rg.does_index _ _ _ h92 h93 (j2 wx) ⟨Below.refl _ _, rfl⟩
      ·
       intro _ a wx hb hk
       have h94 : a.eval (.tmp 94) = .pointer (some ⟨br2, or2 + i * 4, none⟩) := Eq.mp (by kernel_rfl) (hk 94 (by decide))
       exact Rg.does_load _ _ h94 (load_rr (Ap.stable_cellsAt rrC _ _ _ _ _ hb (Ap.stable_cellsAt rrC _ _ _ _ _ hbw k6))) ⟨Below.refl _ _, rfl⟩
      ·
       intro _ a wx hb hk
       have h90 : a.eval (.tmp 90) = rrG x := Eq.mp (by kernel_rfl) (hk 90 (by decide))
       have h95 : a.eval (.tmp 95) = rrG y := Eq.mp (by kernel_rfl) (hk 95 (by decide))
       exact does_neq_rr _ _ _ h90 h95 jn ⟨Below.refl _ _, rfl⟩
      intro vals wD hbD hL
      obtain ⟨g0, g1, g2, g3, g4, g5, g6, g7, g8, g9, g10, _⟩ := hL
      have e10 : vals 10 = .bool true := g10
      simp only [Rg.putAll, List.take_succ_cons, List.take_zero, List.drop_succ_cons, List.drop_zero, List.setIfInBounds_toArray, List.set_cons_succ, List.set_cons_zero, e10]
      have HBE : Hid (Below wr.heap.size wr wD) := hbD
      clear g0 g1 g2 g3 g4 g5 g6 g7 g8 g9 g10 e10 hbD k5 k6 hbw
      go_wp2_with fail
      go_ret
      exact ⟨by rw [HF.out]; rfl, HB.out.trans (HBE.out.mono HB.out.size)⟩
    case neg =>
     obtain rfl : i = nr1 := by omega
     have p3 : decide (i < i) = false := decide_eq_false (by omega)
     have p1 : decide ((i : Int) < (i : Int)) = false := decide_eq_false (by omega)
     have p2 : ¬ ((i : Int) < (i : Int)) := by omega
     have HE : Hid (r1 = r2) := by
      have := HT.out
      rw [List.take_of_length_le (by rw [HR1.out]; exact Nat.le_refl _), List.take_of_length_le (by rw [HR2.out]; exact Nat.le_refl _)] at this
      exact this
     clear ht hb
     have HF : Hid (D = true) := by show _ = _; rw [HD.out]; simp [HC0.out, HEq.out, HE.out]
     go_wp2_with fail
     go_ret
     exact ⟨by rw [HF.out]; rfl, HB.out⟩
theorem take_map_next {l m : List Nd} {i : Nat} (h : (l.take i).map Sy.bare = (m.take i).map Sy.bare) (hl : i < l.length) (hm : i < m.length) (e : Sy.bare l[i] = Sy.bare m[i]) : (l.take (i + 1)).map Sy.bare = (m.take (i + 1)).map Sy.bare := by
 rw [List.take_succ_eq_append_getElem hl, List.take_succ_eq_append_getElem hm, List.map_append, List.map_append, h]
 simp [e]
theorem load_node {W w : World} {P : Nat → Prop} {b o : Nat} {n : Nd} {uw ur uk : Value} (h : NdAt W P b o n uw ur uk) (hb : Below W.heap.size W w) : (Instr.loadAt ndT (.pointer (some ⟨b, o, none⟩))).run Tryz.prog w = .ok (.agg (ndC n uw ur uk).toArray) w := load_nd (fun j v hj => cell_below hb (Nat.le_refl _) (h.cells j v hj)) rfl
set_option maxHeartbeats 16000000 in
theorem same_calls (W : World) (B1 B2 : Nat) (P1 P2 : Nat → Prop) (v1 v2 : Value) (l m : List Nd) (h1 : RowN W B1 P1 v1 l) (h2 : RowN W B2 P2 v2 m) :
  Calls Tryz.prog 12 #[v1, v2, .bool false] W fun r W' => r = .returned (.bool (decide (l.map Sy.bare = m.map Sy.bare))) ∧ Below W.heap.size W W' := by
 have hmx : l.length ≤ 9223372036854775807 := by
  obtain ⟨zs, rfl, hown, _⟩ := h1
  exact len_max hown
 obtain ⟨a1, c1, rfl, b1, o1, hc1, hi1⟩ := nodes_at h1
 obtain ⟨a2, c2, rfl, b2, o2, hc2, hi2⟩ := nodes_at h2
 obtain ⟨D, hD⟩ : ∃ D, decide (l.map Sy.bare = m.map Sy.bare) = D := ⟨_, rfl⟩
 rw [hD]
 obtain ⟨n1, hn1⟩ : ∃ n, l.length = n := ⟨_, rfl⟩
 obtain ⟨n2, hn2⟩ : ∃ n, m.length = n := ⟨_, rfl⟩
 rw [hn1] at hi1 hmx ⊢
 rw [hn2] at hi2 ⊢
 have HD := Lib.hid hD
 have HC1 := Lib.hid hc1
 have HC2 := Lib.hid hc2
 have HI1 := Lib.hid hi1
 have HI2 := Lib.hid hi2
 have HN1 := Lib.hid hn1
 have HN2 := Lib.hid hn2
 clear h1 h2 hc1 hc2 hi1 hi2 hn1 hn2 hD
 go_enter Tryz.func12, Tryz.ntmps12
 by_cases hl : n1 = n2
 case neg =>
  have HF : Hid (D = false) := by
   show _ = _
   rw [← HD.out]
   exact decide_eq_false fun e => hl (by
    have := congrArg List.length e
    rw [List.length_map, List.length_map] at this
    rw [← HN1.out, ← HN2.out, this])
  have t1 : ((n1 : Int) == (n2 : Int)) = false := by rw [beq_eq_false_iff_ne]; omega
  have t2 : ((n1 : Int) != (n2 : Int)) = true := by rw [bne_iff_ne]; omega
  have t3 : decide ((n1 : Int) = (n2 : Int)) = false := decide_eq_false (by omega)
  go_wp2_with fail
  go_ret
  exact ⟨by rw [HF.out]; rfl, Below.refl _ _⟩
 case pos =>
  subst hl
  have t1 : ((n1 : Int) == (n1 : Int)) = true := by simp
  have t2 : ((n1 : Int) != (n1 : Int)) = false := by simp
  go_upto_region 4 with fail
  clear t1 t2
  go_loopw [7] (fun v wr => ∃ i : Nat, i ≤ n1 ∧ v = .int .i64 (i : Int) ∧ (l.take i).map Sy.bare = (m.take i).map Sy.bare ∧ Below W.heap.size W wr) (fun v _ => n1 - vQ v)
  case atStart => exact ⟨0, Nat.zero_le _, rfl, by simp, Below.refl _ _⟩
  case round =>
   obtain ⟨i, hi, rfl, ht, hb0⟩ := hrel
   have HT := Lib.hid ht
   have HB := Lib.hid hb0
   clear hb0 ht
   by_cases hlt : i < n1
   case pos =>
    have p3 : decide (i < n1) = true := decide_eq_true (by omega)
    have p1 : decide ((i : Int) < (n1 : Int)) = true := decide_eq_true (by omega)
    have p2 : (i : Int) < (n1 : Int) := by omega
    have x1 : i < l.length := by rw [HN1.out]; exact hlt
    have x2 : i < m.length := by rw [HN2.out]; exact hlt
    have j1 : ∀ w, (Instr.indexAt 23 (.slice a1 n1 c1) (.int .i64 (i : Int))).run Tryz.prog w = .ok (.pointer (some ⟨b1, o1 + i * 8, none⟩)) w := fun w => HI1.out i w hlt
    have j2 : ∀ w, (Instr.indexAt 23 (.slice a2 n1 c2) (.int .i64 (i : Int))).run Tryz.prog w = .ok (.pointer (some ⟨b2, o2 + i * 8, none⟩)) w := fun w => HI2.out i w hlt
    obtain ⟨uw1, ur1, uk1, k1⟩ := HC1.out i _ (List.getElem?_eq_getElem x1)
    obtain ⟨uw2, ur2, uk2, k2⟩ := HC2.out i _ (List.getElem?_eq_getElem x2)
    have HE : Hid (Sy.bare l[i] = Sy.bare m[i] → (l.take (i + 1)).map Sy.bare = (m.take (i + 1)).map Sy.bare) := take_map_next HT.out x1 x2
    have HG : Hid (Sy.bare l[i] ≠ Sy.bare m[i] → D = false) := fun e => by
     rw [← HD.out]
     exact decide_eq_false fun h => e (by
      have h3 := congrArg (fun z => z[i]?) h
      simp only [List.getElem?_map, List.getElem?_eq_getElem x1, List.getElem?_eq_getElem x2, Option.map_some] at h3
      exact Option.some.inj h3)
    obtain ⟨x, hx⟩ : ∃ x, l[i] = x := ⟨_, rfl⟩
    obtain ⟨y, hy⟩ : ∃ y, m[i] = y := ⟨_, rfl⟩
    rw [hx] at k1 HE HG
    rw [hy] at k2 HE HG
    have k1r := (k1.below HB.out)
    have k2r := (k2.below HB.out)
    have K1 := Lib.hid k1r
    have K2 := Lib.hid k2r
    clear hx hy x1 x2 k1 k2 k1r k2r
    go_upto_region 6 with fail
    refine Rg.wp_region_rgl [] [Rg.Is (.slice a1 n1 c1), Rg.Is (.int .i64 (i : Int)), Rg.Is (.pointer (some ⟨b1, o1 + i * 8, none⟩)), Rg.Is (.agg (ndC x uw1 ur1 uk1).toArray), Rg.Is (.slice a2 n1 c2), Rg.Is (.int .i64 (i : Int)), Rg.Is (.pointer (some ⟨b2, o2 + i * 8, none⟩)), Rg.Is (.agg (ndC y uw2 ur2 uk2).toArray), Rg.Is (.bool (decide (Sy.bare x = Sy.bare y))), Rg.Is (.bool (decide (Sy.bare x = Sy.bare y)))] (by kernel_rfl) (by kernel_rfl) (by kernel_rfl) ⟨Rg.st_is _, Rg.st_is _, Rg.st_is _, Rg.st_is _, Rg.st_is _, Rg.st_is _, Rg.st_is _, Rg.st_is _, Rg.st_is _, Rg.st_is _, trivial⟩ ⟨rfl, rfl, rfl, rfl, rfl, rfl, rfl, rfl, rfl, rfl, trivial⟩ ⟨?_, ?_, ?_, ?_, ?_, ?_, ?_, ?_, ?_, ?_, trivial⟩ ?_
    ·
     intro _ a wx hb hk
     have h0 : a.eval (.tmp 0) = .slice a1 n1 c1 := Eq.mp (by kernel_rfl) (hk 0 (by decide))
     exact Rg.does_move ⟨Below.refl _ _, h0⟩
    ·
     intro _ a wx hb hk
     have h7 : a.eval (.tmp 7) = .int .i64 (i : Int) := Eq.mp (by kernel_rfl) (hk 7 (by decide))
     exact Rg.does_move ⟨Below.refl _ _, h7⟩
    ·
     intro _ a wx hb hk
     have h20 : a.eval (.tmp 20) = .slice a1 n1 c1 := Eq.mp (by kernel_rfl) (hk 20 (by decide))
     have h21 : a.eval (.tmp 21) = .int .i64 (i : Int) := Eq.mp (by kernel_rfl) (hk 21 (by decide))
     exact Rg.does_index _ _ _ h20 h21 (j1 wx) ⟨Below.refl _ _, rfl⟩
    ·
     intro _ a wx hb hk
     have h22 : a.eval (.tmp 22) = .pointer (some ⟨b1, o1 + i * 8, none⟩) := Eq.mp (by kernel_rfl) (hk 22 (by decide))
     exact Rg.does_load _ _ h22 (load_node K1.out hb) ⟨Below.refl _ _, rfl⟩
    ·
     intro _ a wx hb hk
     have h1 : a.eval (.tmp 1) = .slice a2 n1 c2 := Eq.mp (by kernel_rfl) (hk 1 (by decide))
     exact Rg.does_move ⟨Below.refl _ _, h1⟩
    ·
     intro _ a wx hb hk
     have h7 : a.eval (.tmp 7) = .int .i64 (i : Int) := Eq.mp (by kernel_rfl) (hk 7 (by decide))
     exact Rg.does_move ⟨Below.refl _ _, h7⟩
    ·
     intro _ a wx hb hk
     have h24 : a.eval (.tmp 24) = .slice a2 n1 c2 := Eq.mp (by kernel_rfl) (hk 24 (by decide))
     have h25 : a.eval (.tmp 25) = .int .i64 (i : Int) := Eq.mp (by kernel_rfl) (hk 25 (by decide))
     exact Rg.does_index _ _ _ h24 h25 (j2 wx) ⟨Below.refl _ _, rfl⟩
    ·
     intro _ a wx hb hk
     have h26 : a.eval (.tmp 26) = .pointer (some ⟨b2, o2 + i * 8, none⟩) := Eq.mp (by kernel_rfl) (hk 26 (by decide))
     exact Rg.does_load _ _ h26 (load_node K2.out hb) ⟨Below.refl _ _, rfl⟩
    ·
     intro _ a wx hb hk
     have h23 : a.eval (.tmp 23) = .agg (ndC x uw1 ur1 uk1).toArray := Eq.mp (by kernel_rfl) (hk 23 (by decide))
     have h27 : a.eval (.tmp 27) = .agg (ndC y uw2 ur2 uk2).toArray := Eq.mp (by kernel_rfl) (hk 27 (by decide))
     refine Rg.does_func #[.agg (ndC x uw1 ur1 uk1).toArray, .agg (ndC y uw2 ur2 uk2).toArray] Tryz.func16 (by kernel_rfl) (by kernel_rfl) (by simp [h23, h27]) (node_calls wx P1 P2 x y uw1 ur1 uk1 uw2 ur2 uk2 (K1.out.rows.below hb) (K2.out.rows.below hb)) ?_
     rintro e w' ⟨rfl, hb'⟩
     exact ⟨_, rfl, hb', rfl⟩
    ·
     intro _ a wx hb hk
     have h28 : a.eval (.tmp 28) = .bool (decide (Sy.bare x = Sy.bare y)) := Eq.mp (by kernel_rfl) (hk 28 (by decide))
     exact Rg.does_assign ⟨Below.refl _ _, h28⟩
    intro vals wD hbD hL
    obtain ⟨g0, g1, g2, g3, g4, g5, g6, g7, g8, g9, _⟩ := hL
    have e9 : vals 9 = .bool (decide (Sy.bare x = Sy.bare y)) := g9
    simp only [Rg.putAll, List.take_succ_cons, List.take_zero, List.drop_succ_cons, List.drop_zero, List.setIfInBounds_toArray, List.set_cons_succ, List.set_cons_zero, e9]
    have HBE : Hid (Below W.heap.size W wD) := HB.out.trans (hbD.mono HB.out.size)
    clear g0 g1 g2 g3 g4 g5 g6 g7 g8 g9 e9 hbD K1 K2
    by_cases he : Sy.bare x = Sy.bare y
    ·
     have h1 : decide (Sy.bare x = Sy.bare y) = true := decide_eq_true he
     rw [h1]
     have HE2 := Lib.hid (HE.out he)
     clear he h1 HE HG
     go_upto_region 7 with fail
     go_quiet (fail)
     go_wp2_with fail
     go_roundw
     case rel => exact ⟨i + 1, by omega, by go_num, HE2.out, HBE.out.trans ((drewN_below _ _).mono HBE.out.size)⟩
     case measure => simp [vQ]; omega
    ·
     have h1 : decide (Sy.bare x = Sy.bare y) = false := decide_eq_false he
     rw [h1]
     have HF : Hid (D = false) := HG.out he
     clear he h1 HE HG
     go_upto_region 7 with fail
     go_quiet (fail)
     go_wp2_with fail
     go_ret
     exact ⟨by rw [HF.out]; rfl, HBE.out.trans ((drewN_below _ _).mono HBE.out.size)⟩
   case neg =>
    obtain rfl : i = n1 := by omega
    have p3 : decide (i < i) = false := decide_eq_false (by omega)
    have p1 : decide ((i : Int) < (i : Int)) = false := decide_eq_false (by omega)
    have p2 : ¬ ((i : Int) < (i : Int)) := by omega
    have HF : Hid (D = true) := by
     show _ = _
     rw [← HD.out]
     refine decide_eq_true ?_
     have := HT.out
     rw [List.take_of_length_le (by rw [HN1.out]; exact Nat.le_refl _), List.take_of_length_le (by rw [HN2.out]; exact Nat.le_refl _)] at this
     exact this
    go_wp2_with fail
    go_ret
    exact ⟨by rw [HF.out]; rfl, HB.out⟩
end Go.Proofs.YtknncfoaegmphaaGreatDoor.Sx
