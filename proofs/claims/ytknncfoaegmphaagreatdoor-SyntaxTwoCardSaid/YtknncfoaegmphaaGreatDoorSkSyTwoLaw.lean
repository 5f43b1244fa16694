/-
 Syntax: SyntaxTwo answers true. Conditions: what must lie there lies there.
-/
import Derived.Test.YtknncfoaegmphaaGreatDoorSkSyTwoMem
import Derived.Test.YtknncfoaegmphaaGreatDoorSkGSyI
import Derived.Test.YtknncfoaegmphaaGreatDoorSkSyGood
set_option linter.unusedVariables false
set_option linter.unusedSimpArgs false
set_option maxRecDepth 100000
namespace Go.Proofs.YtknncfoaegmphaaGreatDoor.Sx
open Go.RowKit Base Lx Sy
def shn (n : Nat) (x : Nd) : Nd := { x with ks := x.ks.map (· + n) }
def TParIs (x : Except (Int × Nat) (List Nd)) (l : List Nd) (e : Int) : Prop := match x with
 | .error y => l = [] ∧ e = y.1
 | .ok m => l = m ∧ e = 0
/-- What Parse answers, whatever it is. -/
theorem tpar_any {W W' : World} {x : Except (Int × Nat) (List Nd)} {r : Ending} (h : ParPost W x r W') : Below W.heap.size W W' ∧ ∃ (a : Option Addr) (c : Nat) (l : List Nd) (e g : Int), r = .returned (.tuple #[.agg #[.slice a l.length c], .int .i64 e, .int .i64 g]) ∧ RowN W' W.heap.size (fun g => W.heap.size ≤ g) (.slice a l.length c) l ∧ TParIs x l e := by
 refine ⟨h.1, ?_⟩
 cases x with
 | error y => exact ⟨none, 0, [], y.1, _, h.2, ⟨[], rfl, World.ownsRow_nil _ _ _ _, fun x hx => absurd hx List.not_mem_nil⟩, rfl, rfl⟩
 | ok m =>
  obtain ⟨v, h1, h2⟩ := h.2
  obtain ⟨a, c, hv, _⟩ := nodes_at h2
  subst hv
  exact ⟨a, c, m, 0, 0, h1, h2, rfl, rfl⟩
theorem trowN_below {W W' : World} {B : Nat} {P : Nat → Prop} {v : Value} {l : List Nd} (h : RowN W B P v l) (hb : Below W.heap.size W W') : RowN W' B P v l :=
 h.keep (fun g X _ hX => hb.block g (Array.getElem?_eq_some_iff.1 hX).1) (fun g X t _ hX _ => hb.block g (Array.getElem?_eq_some_iff.1 hX).1)
theorem last_at {l : Nm} {c : UInt8} {v : Nm} (h : l = v ++ [c]) : ∀ w, (Instr.index 9 (.string (str l)) (.int .i64 ((l.length : Int) - 1))).run Tryz.prog w = .ok (.int .u8 (c.toNat : Int)) w := fun w => by
 subst h
 have := Sw.run_at (P := Tryz.prog) (w := w) Tryz.underlying9 (v ++ [c]) .i64 v.length (by simp)
 rw [show (((v ++ [c]).length : Nat) : Int) - 1 = (v.length : Int) by simp]
 simpa using this
theorem nodup_le : ∀ (n : Nat) (l : List Nat), l.Nodup → (∀ y ∈ l, y < n) → l.length ≤ n
 | 0, [], _, _ => Nat.le_refl _
 | 0, y :: l, _, h => absurd (h y List.mem_cons_self) (Nat.not_lt_zero _)
 | n + 1, l, hn, h => by
  by_cases hm : n ∈ l
  ·
   have h1 := nodup_le n (l.erase n) (hn.erase n) fun y hy => by
    have h2 := (hn.mem_erase_iff).1 hy
    have := h y h2.2
    have := h2.1
    omega
   rw [List.length_erase_of_mem hm] at h1
   omega
  ·
   have := nodup_le n l hn fun y hy => by
    have h2 := h y hy
    have : y ≠ n := fun e => hm (by rw [← e]; exact hy)
    omega
   omega
theorem kid_small {l : List Nd} (hg : Good l) (hl : l.length ≤ 50000) {x : Nd} (hx : x ∈ l) : x.ks.length ≤ 50000 ∧ ∀ y ∈ x.ks, y ≤ 50000 := by
 obtain ⟨i, hi, rfl⟩ := List.mem_iff_getElem.1 hx
 have hk := hg.kids i hi
 refine ⟨?_, fun y hy => by have := hk y hy; omega⟩
 have hnd : l[i].ks.Nodup := by
  rw [List.nodup_iff_count]
  intro q
  by_cases hq : q < l.length
  ·
   have := kidsTo_count hg hi l[i].ks.length q hq
   rw [List.take_length, List.count_append] at this
   omega
  ·
   rw [List.count_eq_zero.2 (fun h => by have := hk q h; omega)]
   omega
 have := nodup_le l.length _ hnd fun y hy => by have := hk y hy; omega
 omega
structure TwoOk (l m o : List Nd) (N B : List Nd) (k1 k2 : List Nat) (g1 g2 : Nat) : Prop where
 hl : l = N ++ [{ k := 5, ks := k1, ln := g1 }]
 hm : m = B ++ [{ k := 5, ks := k2, ln := g2 }]
 ho : o.map Sy.bare = (N ++ B.map (shn N.length) ++ [({ k := 5, ks := k1 ++ k2.map (· + N.length), ln := 0 } : Nd)]).map Sy.bare
 few : N.length + 1 ≤ 50000 ∧ B.length + 1 ≤ 50000
 kids : ∀ x ∈ m, x.ks.length ≤ 50000 ∧ ∀ y ∈ x.ks, y ≤ 50000
 kid1 : k1.length ≤ 50000
theorem two_case {a b : Nm} (h92 : a.getLast? ≠ some 92) (ha : a.length ≤ 1000) (hb : b.length ≤ 1000) {l m o : List Nd} {e f h : Int} (hl : TParIs (parseM (a ++ [10])) l e) (hm : TParIs (parseM b) m f) (ho : TParIs (parseM (a ++ 10 :: b)) o h) :
  e ≠ 0 ∨ (e = 0 ∧ f ≠ 0) ∨ (e = 0 ∧ f = 0 ∧ h = 0 ∧ ∃ N B k1 k2 g1 g2, TwoOk l m o N B k1 k2 g1 g2) := by
 have ha4 : (a ++ [10]).length ≤ 4096 := by simp; omega
 cases hX : parseM (a ++ [10]) with
 | error y =>
  rw [hX] at hl
  exact .inl (by rw [hl.2]; exact parse_ne (Sx.all_toks ha4).2 hX)
 | ok T =>
  rw [hX] at hl
  obtain ⟨rfl, rfl⟩ := hl
  cases hY : parseM b with
  | error y =>
   rw [hY] at hm
   exact .inr (.inl ⟨rfl, by rw [hm.2]; exact parse_ne (Sx.all_toks (by omega)).2 hY⟩)
  | ok U =>
   rw [hY] at hm
   obtain ⟨rfl, rfl⟩ := hm
   obtain ⟨N, M, B, k1, k2, g1, g2, g3, q1, q2, q3, q4⟩ := two_parse h92 hX hY
   rw [q4] at ho
   obtain ⟨rfl, rfl⟩ := ho
   have hgA := good_parse ha4 hX
   have hgB := good_parse (by omega) hY
   have hlA := parse_len ha4 hX
   have hlB := parse_len (by omega) hY
   refine .inr (.inr ⟨rfl, rfl, rfl, N, B, k1, k2, g1, g2, q1, q2, ?_, ?_, ?_, ?_⟩)
   ·
    rw [List.map_append, List.map_append, List.map_append, List.map_append, q3, List.map_map]
    rfl
   ·
    rw [q1] at hlA
    rw [q2] at hlB
    simp at hlA hlB
    exact ⟨by omega, by omega⟩
   ·
    intro x hx
    have hkid := kid_small hgB hlB hx
    exact hkid
   ·
    have := kid_small hgA hlA (x := { k := 5, ks := k1, ln := g1 }) (by rw [q1]; simp)
    exact this.1
set_option maxHeartbeats 16000000 in
theorem two_calls (W : World) (a b : Nm) (hO : Gl W) : Calls Tryz.prog 5 #[.string (str a), .string (str b)] W fun r W' => r = .returned (.bool true) ∧ Below W.heap.size W W' := by
 have HO := Lib.hid hO
 have ea : (str a).size = a.length := rfl
 have eb : (str b).size = b.length := rfl
 clear hO
 go_enter Tryz.func5, Tryz.ntmps5
 go_wp2_with fail
 refine (awake_calls W HO.out).mono ?_
 rintro r w1 ⟨rfl, hb1⟩
 have HB1 := Lib.hid hb1
 have HO1 := Lib.hid (HO.out.below hb1)
 clear hb1
 by_cases hla : 1000 < a.length
 ·
  have u1 : decide ((1000 : Int) < ((str a).size : Int)) = true := decide_eq_true (by omega)
  have u2 : (1000 : Int) < ((str a).size : Int) := by omega
  go_wp2_with fail
  go_ret
  exact ⟨rfl, HB1.out⟩
 have u1 : decide ((1000 : Int) < ((str a).size : Int)) = false := decide_eq_false (by omega)
 have u2 : ¬ ((1000 : Int) < ((str a).size : Int)) := by omega
 by_cases hlb : 1000 < b.length
 ·
  have v1 : decide ((1000 : Int) < ((str b).size : Int)) = true := decide_eq_true (by omega)
  have v2 : (1000 : Int) < ((str b).size : Int) := by omega
  go_wp2_with fail
  go_ret
  exact ⟨rfl, HB1.out⟩
 have v1 : decide ((1000 : Int) < ((str b).size : Int)) = false := decide_eq_false (by omega)
 have v2 : ¬ ((1000 : Int) < ((str b).size : Int)) := by omega
 by_cases h92 : a.getLast? = some 92
 ·
  obtain ⟨a0, ha0⟩ : ∃ a0, a = a0 ++ [92] := by
   rw [List.getLast?_eq_some_iff] at h92
   exact h92
  have hix := last_at ha0
  have hpos : 0 < a.length := by rw [ha0]; simp
  have hix2 : ∀ w, (Instr.index 9 (.string (str a)) (.int .i64 ((a.length : Int) - 1))).run Tryz.prog w = .ok (.int .u8 92) w := hix
  have p1 : decide ((0 : Int) < ((str a).size : Int)) = true := decide_eq_true (by omega)
  have p2 : (0 : Int) < ((str a).size : Int) := by omega
  clear hix ha0 h92
  go_wp2_with fail
  go_ret
  exact ⟨rfl, HB1.out⟩
 have H92 : Hid (a.getLast? ≠ some 92) := h92
 clear h92
 have ha1 : a.length ≤ 1000 := by omega
 have hb1 : b.length ≤ 1000 := by omega
 have HAl := Lib.hid ha1
 have HBl := Lib.hid hb1
 clear hla hlb
 have e1 : str a ++ (⟨#[10]⟩ : ByteArray) = str (a ++ [10]) := str_append a [10]
 have e2 : str (a ++ [10]) ++ str b = str (a ++ 10 :: b) := by rw [str_append]; simp
 have z1 : (str a).size + 1 ≤ 9223372036854775807 := by omega
 have z2 : (str (a ++ [10])).size + (str b).size ≤ 9223372036854775807 := by rw [str_size, str_size]; simp; omega
 go_upto_region 4 with fail
 go_cut [46] from 26 to 46 (fun s46 wx => s46 = .bool false ∧ wx = w1)
 case first =>
  by_cases h0 : a = []
  ·
   subst h0
   have p1 : decide ((0 : Int) < ((str ([] : Nm)).size : Int)) = false := rfl
   go_wp2_with fail
   go_meet
   exact ⟨congrArg Value.bool (decide_eq_false (by have := HBl.out; omega)), rfl⟩
  ·
   obtain ⟨a0, c, ha0⟩ : ∃ a0 c, a = a0 ++ [c] := ⟨a.dropLast, a.getLast h0, (List.dropLast_concat_getLast h0).symm⟩
   have hix := last_at ha0
   have hpos : 0 < a.length := List.length_pos_iff.2 h0
   have hc : c ≠ 92 := fun e => H92.out (by rw [ha0, e]; simp)
   have d0 : ¬ (c.toNat : Int) = 92 := fun e => hc (UInt8.toNat_inj.1 (by show c.toNat = 92; omega))
   have d1 : ((c.toNat : Int) == 92) = false := by simpa using d0
   have d2 : decide ((c.toNat : Int) = 92) = false := decide_eq_false d0
   have p1 : decide ((0 : Int) < ((str a).size : Int)) = true := decide_eq_true (by omega)
   have p2 : (0 : Int) < ((str a).size : Int) := by omega
   clear ha0 h0
   go_wp2_with fail
   go_meet
   exact ⟨congrArg Value.bool (by rw [decide_eq_false (by have := HAl.out; omega), decide_eq_false (by have := HBl.out; omega)]; rfl), rfl⟩
 case rest =>
 obtain ⟨rfl, hw⟩ := hcut
 have hw2 := hw.symm
 subst hw2
 clear hw u1 u2 v1 v2
 go_wp2_with fail
 refine (parse_calls w1 (a ++ [10]) (by have := HAl.out; simp; omega) HO1.out.sig HO1.out.glb).mono ?_
 rintro r w2 hr
 obtain ⟨hb2, sa, ca, l, e, g, rfl, hrow, hl⟩ := tpar_any hr
 have HL := Lib.hid hl
 have HB2 := Lib.hid hb2
 have HRow := Lib.hid hrow
 clear hr hrow hl hb2
 obtain ⟨na, hna⟩ : ∃ na, l.length = na := ⟨_, rfl⟩
 rw [hna] at HRow ⊢
 have HNa := Lib.hid hna
 clear hna
 go_upto_region 7 with fail
 obtain ⟨T6, hT6⟩ : ∃ T, w2.heap.size = T := ⟨_, rfl⟩
 obtain ⟨w3, hw3⟩ : ∃ w3, w2.alloc (.cells #[.slice sa na ca] trT) = w3 := ⟨_, rfl⟩
 have hx3 : w3.heap[T6]? = some (.cells #[.slice sa na ca] trT) := by rw [← hw3, ← hT6]; exact heap_alloc_new _ _
 have hb23 : Below w2.heap.size w2 w3 := by rw [← hw3]; exact (Below.refl _ _).alloc (Nat.le_refl _) _
 have hb3 : Below w1.heap.size w1 w3 := by rw [← hw3]; exact HB2.out.alloc HB2.out.size _
 have HB3 := Lib.hid (HB1.out.trans (hb3.mono HB1.out.size))
 have HX3 := Lib.hid hx3
 have HO3 := Lib.hid (HO1.out.below hb3)
 have HRow3 := Lib.hid (trowN_below HRow.out hb23)
 rw [hw3, hT6]
 clear hw3 hT6 hx3 hb3 hb23 HRow
 go_wp2_with fail
 refine (parse_calls w3 b (by have := HBl.out; omega) HO3.out.sig HO3.out.glb).mono ?_
 rintro r w4 hr
 obtain ⟨hb4, sb, cb, m, f, g4, rfl, hrow, hl⟩ := tpar_any hr
 have HM := Lib.hid hl
 have HB4 := Lib.hid hb4
 have HRow4 := Lib.hid hrow
 clear hr hrow hl hb4
 obtain ⟨nb, hnb⟩ : ∃ nb, m.length = nb := ⟨_, rfl⟩
 rw [hnb] at HRow4 ⊢
 have HNb := Lib.hid hnb
 clear hnb
 go_upto_region 8 with fail
 obtain ⟨T9, hT9⟩ : ∃ T, w4.heap.size = T := ⟨_, rfl⟩
 obtain ⟨w5, hw5⟩ : ∃ w5, w4.alloc (.cells #[.slice sb nb cb] trT) = w5 := ⟨_, rfl⟩
 have hx5 : w5.heap[T9]? = some (.cells #[.slice sb nb cb] trT) := by rw [← hw5, ← hT9]; exact heap_alloc_new _ _
 have hb45 : Below w4.heap.size w4 w5 := by rw [← hw5]; exact (Below.refl _ _).alloc (Nat.le_refl _) _
 have hb35 : Below w3.heap.size w3 w5 := by rw [← hw5]; exact HB4.out.alloc HB4.out.size _
 have HB5 := Lib.hid (HB3.out.trans (hb35.mono HB3.out.size))
 have HX5 := Lib.hid hx5
 have HX53 : Hid (w5.heap[T6]? = some (.cells #[.slice sa na ca] trT)) := (hb35.block T6 (Array.getElem?_eq_some_iff.1 HX3.out).1).trans HX3.out
 have HO5 := Lib.hid (HO3.out.below hb35)
 have HRowA5 := Lib.hid (trowN_below HRow3.out hb35)
 have HRowB5 := Lib.hid (trowN_below HRow4.out hb45)
 rw [hw5, hT9]
 clear hw5 hT9 hx5 hb35 hb45 HRow4 HRow3 HX3
 go_wp2_with fail
 refine (parse_calls w5 (a ++ 10 :: b) (by have := HAl.out; have := HBl.out; simp; omega) HO5.out.sig HO5.out.glb).mono ?_
 rintro r w6 hr
 obtain ⟨hb6, sc, cc, o, h, g6, rfl, hrow, hl⟩ := tpar_any hr
 have HC := Lib.hid hl
 have HB6 := Lib.hid hb6
 have HRow6 := Lib.hid hrow
 clear hr hrow hl hb6
 obtain ⟨nc, hnc⟩ : ∃ nc, o.length = nc := ⟨_, rfl⟩
 rw [hnc] at HRow6 ⊢
 have HNc := Lib.hid hnc
 clear hnc
 clear e1 e2 z1 z2
 go_upto_region 9 with fail
 obtain ⟨T12, hT12⟩ : ∃ T, w6.heap.size = T := ⟨_, rfl⟩
 obtain ⟨w7, hw7⟩ : ∃ w7, w6.alloc (.cells #[.slice sc nc cc] trT) = w7 := ⟨_, rfl⟩
 have hx7 : w7.heap[T12]? = some (.cells #[.slice sc nc cc] trT) := by rw [← hw7, ← hT12]; exact heap_alloc_new _ _
 have hb67 : Below w6.heap.size w6 w7 := by rw [← hw7]; exact (Below.refl _ _).alloc (Nat.le_refl _) _
 have hb57 : Below w5.heap.size w5 w7 := by rw [← hw7]; exact HB6.out.alloc HB6.out.size _
 have HB7 := Lib.hid (HB5.out.trans (hb57.mono HB5.out.size))
 have HXc := Lib.hid hx7
 have HXa : Hid (w7.heap[T6]? = some (.cells #[.slice sa na ca] trT)) := (hb57.block T6 (Array.getElem?_eq_some_iff.1 HX53.out).1).trans HX53.out
 have HXb : Hid (w7.heap[T9]? = some (.cells #[.slice sb nb cb] trT)) := (hb57.block T9 (Array.getElem?_eq_some_iff.1 HX5.out).1).trans HX5.out
 have HRa := Lib.hid (trowN_below HRowA5.out hb57)
 have HRb := Lib.hid (trowN_below HRowB5.out hb57)
 have HRc := Lib.hid (trowN_below HRow6.out hb67)
 rw [hw7, hT12]
 clear hw7 hT12 hx7 hb57 hb67 HRowA5 HRowB5 HRow6 HX53 HX5
 have hcase := two_case H92.out HAl.out HBl.out HL.out HM.out HC.out
 clear HL HM HC
 rcases hcase with he | ⟨rfl, hf⟩ | ⟨rfl, rfl, rfl, hgood⟩
 ·
  have e1 : (e == 0) = false := by rw [beq_eq_false_iff_ne]; exact he
  have e2 : (e != 0) = true := by rw [bne_iff_ne]; exact he
  have e3 : decide (e = 0) = false := decide_eq_false he
  go_wp2_with fail
  go_ret
  exact ⟨rfl, HB7.out⟩
 ·
  have e1 : (f == 0) = false := by rw [beq_eq_false_iff_ne]; exact hf
  have e2 : (f != 0) = true := by rw [bne_iff_ne]; exact hf
  have e3 : decide (f = 0) = false := decide_eq_false hf
  go_wp2_with fail
  go_ret
  exact ⟨rfl, HB7.out⟩
 obtain ⟨N, B, k1, k2, gA, gB, hok⟩ := hgood
 obtain ⟨n, hn⟩ : ∃ n, N.length = n := ⟨_, rfl⟩
 obtain ⟨q, hq⟩ : ∃ q, B.length = q := ⟨_, rfl⟩
 have hnaE : na = n + 1 := by rw [← HNa.out, hok.hl]; simp [hn]
 have hnbE : nb = q + 1 := by rw [← HNb.out, hok.hm]; simp [hq]
 have hncE : nc = n + q + 1 := by
  have := congrArg List.length hok.ho
  simp [hn, hq] at this
  rw [← HNc.out]; omega
 subst hnaE hnbE hncE
 have hfew := hok.few
 rw [hn, hq] at hfew
 have hn5 : n ≤ 50000 := by omega
 have hq5 : q ≤ 50000 := by omega
 have HOk := Lib.hid hok
 have HN := Lib.hid hn
 have HQ := Lib.hid hq
 have HN5 := Lib.hid hn5
 have HQ5 := Lib.hid hq5
 clear hok hn hq hfew
 obtain ⟨m6, _⟩ := cell_of HXa.out
 obtain ⟨m9, _⟩ := cell_of HXb.out
 obtain ⟨m12, _⟩ := cell_of HXc.out
 have t1 : decide ((n : Int) < 0) = false := decide_eq_false (by omega)
 have t2 : ¬ (n : Int) < 0 := by omega
 have t3 : decide ((q : Int) < 0) = false := decide_eq_false (by omega)
 have t4 : ¬ (q : Int) < 0 := by omega
 go_upto_region 16 with fail
 clear t1 t2 t3 t4
 obtain ⟨i0, hi0, hz0, hz1, hz2⟩ := info_parts info_nd
 obtain ⟨B0, hB0⟩ : ∃ B0, w7.heap.size = B0 := ⟨_, rfl⟩
 have HB0 := Lib.hid hB0
 obtain ⟨zs, hzs, hzr, a16, hsl, hsrc⟩ := nodes_take HRa.out n (by omega) HNa.out
 have HZs := Lib.hid hzs
 have HZr := Lib.hid hzr
 have HSrc := Lib.hid hsrc
 clear hzs hzr hsrc hB0
 go_wp2_with (at_builtin; refine Ap.wpList_append_at rfl (.tmp 103) (.tmp 107) 23 23 rfl B0 ndT i0 _ 8 120 Tryz.underlying23 (append_side Tryz.underlying23) hi0 hz0 hz1 hz2 rfl (by decide) (by decide) _ 0 _ rfl (World.ownsRow_nil _ _ _ _) _ n _ rfl HSrc.out ?_ ?_ ?_ ?_)
 case _ => unfold maxLen; omega
 case _ => omega
 case _ => rw [HB0.out]; exact Nat.le_refl _
 intro vW w8 hown hg _
 have hown : w8.ownsRow B0 ndT 8 vW n ((zs.take n).flatMap nz) := by simpa using hown
 obtain ⟨aw, cw, rfl, _⟩ := ownsRow_slice hown
 have hb78 : Below B0 w7 w8 := grown_low hg (fun j e => by cases e) (by rw [HB0.out]; exact Nat.le_refl _)
 have HB8 := Lib.hid hb78
 have HOwn := Lib.hid hown
 clear hg hown hb78 hsl m6 m9 m12
 go_upto_region 18 with fail
 obtain ⟨Lb, hLb⟩ : ∃ Lb, w8.heap.size = Lb := ⟨_, rfl⟩
 obtain ⟨w9, hw9⟩ : ∃ w9, w8.alloc (.cells #[.int .i64 5, .string ⟨#[]⟩, .bool false, .slice none 0 0, .int .i64 0, .slice none 0 0, .slice none 0 0, .int .i64 0] ndT) = w9 := ⟨_, rfl⟩
 have hx9 : w9.heap[Lb]? = some (.cells #[.int .i64 5, .string ⟨#[]⟩, .bool false, .slice none 0 0, .int .i64 0, .slice none 0 0, .slice none 0 0, .int .i64 0] ndT) := by rw [← hw9, ← hLb]; exact heap_alloc_new _ _
 have hb89 : Below w8.heap.size w8 w9 := by rw [← hw9]; exact (Below.refl _ _).alloc (Nat.le_refl _) _
 rw [hw9, hLb]
 have hB8 : Below B0 w7 w8 := HB8.out
 have hs8 : B0 ≤ w8.heap.size := by have := hB8.size; rw [HB0.out] at this; exact this
 have hNl : (zs.take n).map (·.1) = N := by rw [List.map_take, HZs.out, HOk.out.hl, List.take_left' HN.out]
 have HTw : Hid (Tw w9 B0 Lb (.slice aw n cw) (.slice none 0 0) N []) := by
  have hown9 : w9.ownsRow B0 ndT 8 (.slice aw n cw) N.length ((zs.take n).flatMap nz) := by rw [HN.out]; exact ownsRow_below HOwn.out hb89
  refine ⟨⟨zs.take n, hNl, hown9, fun x hx => ?_⟩, fun e => ?_, hx9, by rw [← hLb]; exact hs8, World.ownsRow_nil _ _ _ _⟩
  · refine (((HZr.out x (List.mem_of_mem_take hx)).below (by rw [HB0.out]; exact hB8)).below hb89).less fun g _ _ e => by cases e
  ·
   have := (HOwn.out.lt Lb e).2
   omega
 have hb79 : Below B0 w7 w9 := hB8.trans (hb89.mono hs8)
 have HB9 := Lib.hid hb79
 have HXa9 : Hid (w9.heap[T6]? = some (.cells #[.slice sa (n + 1) ca] trT)) := (hb79.block T6 (by rw [← HB0.out]; exact (Array.getElem?_eq_some_iff.1 HXa.out).1)).trans HXa.out
 have HRa9 : Hid (RowN w9 w1.heap.size (fun g => w1.heap.size ≤ g) (.slice sa (n + 1) ca) l) := trowN_below HRa.out (by rw [HB0.out]; exact hb79)
 have HLl : Hid (l[n]? = some { k := 5, ks := k1, ln := gA }) := by show _ = _; rw [HOk.out.hl, ← HN.out, List.getElem?_concat_length]
 clear hw9 hLb hx9 hb89 hB8 hs8 hNl hb79 HB8 HOwn
 obtain ⟨sa2, ca2, hv, b1, off, hcs, hix⟩ := nodes_at HRa9.out
 rw [HNa.out] at hv hix
 obtain ⟨rfl, _, rfl⟩ := Value.slice.inj hv
 obtain ⟨uw, ur, uk, hnd⟩ := hcs n _ HLl.out
 have HNd := Lib.hid hnd
 have hkr : w9.ownsRow 0 inT 1 uk k1.length (k1.map iv) := hnd.rows.k
 have HKr := Lib.hid hkr
 obtain ⟨ak, ck, hvk, _⟩ := ownsRow_slice hkr
 obtain ⟨j0, hj0, jz0, jz1, jz2⟩ := info_parts info_in
 have HIx : Hid (∀ w', (Instr.indexAt 23 (.slice sa (n + 1) ca) (.int .i64 (n : Int))).run Tryz.prog w' = .ok (.pointer (some ⟨b1, off + n * 8, none⟩)) w') := fun w' => hix n w' (by omega)
 have hk15 : k1.length ≤ 50000 := HOk.out.kid1
 clear hcs hix hnd hkr hv
 subst hvk
 refine Rt.wp_region_rkt 10 [] [Rg.Is (.pointer (some ⟨Lb, 6, none⟩)), Rg.Is (.slice none 0 0), Rg.Is (.pointer (some ⟨T6, 0, none⟩)), Rg.Is (.slice sa (n + 1) ca), Rg.Is (.int .i64 (n : Int)), Rg.Is (.pointer (some ⟨b1, off + n * 8, none⟩)), Rg.Is (.pointer (some ⟨b1, off + n * 8 + 6, none⟩)), Rg.Is (.slice ak k1.length ck), (fun y x => x.ownsRow B0 inT 1 y k1.length (k1.map iv) ∧ w9.grownBy x none ∧ ∀ g, y.ownBlock = some g → w9.heap.size ≤ g), Rg.Is (.pointer (some ⟨Lb, 6, none⟩))] (fun _ _ => True) (fun ls x => ls 8 = false → Below w9.heap.size w9 x) (fun k x y => if k = 8 then x.grownBy y (Value.ownBlock (.slice none 0 0)) else Below x.heap.size x y) (by kernel_rfl) (by kernel_rfl) (of_decide_eq_true (by kernel_rfl)) (by kernel_rfl) (by kernel_rfl) trivial (fun _ => ⟨rfl, rfl, rfl, Nat.le_refl _, fun _ _ => rfl⟩) (fun ls ls' x e h1 h2 => h1 (by rw [e]; exact h2)) (fun _ _ _ _ _ => trivial) (fun i ls x _ h1 => by rw [show ([] : List Bool).getD i true = true from rfl] at h1; cases h1) ?_ ⟨rfl, rfl, rfl, rfl, rfl, rfl, rfl, rfl, rfl, rfl, trivial⟩ ⟨?_, ?_, ?_, ?_, ?_, ?_, ?_, ?_, ?_, ?_, trivial⟩ ?_
 ·
  intro i k u x y hik _ h1 hK
  match i, h1, hik with
  | 0, h1, _ => exact h1
  | 1, h1, _ => exact h1
  | 2, h1, _ => exact h1
  | 3, h1, _ => exact h1
  | 4, h1, _ => exact h1
  | 5, h1, _ => exact h1
  | 6, h1, _ => exact h1
  | 7, h1, _ => exact h1
  | 8, h1, hik =>
   rw [if_neg (fun e => hik e.symm)] at hK
   exact ⟨ownsRow_below h1.1 hK, Sl.grown_trans h1.2.1 (Sl.grown_below hK _), h1.2.2⟩
  | 9, h1, _ => exact h1
  | _ + 10, _, _ => trivial
 ·
  intro _ b9 x ls hR hS hself hup hdn hk
  have h18 : b9.eval (.tmp 18) = .pointer (some ⟨Lb, 0, none⟩) := Eq.mp (by kernel_rfl) (hk 18 (by decide))
  have lA : ls 8 = false := hdn [1] 8 _ rfl (by kernel_rfl)
  have hb := hS lA
  exact Rs.does_field _ _ h18 (by have := fld_nd Lb 0 6 (by decide) x; simpa using this) ⟨by rw [if_neg (by decide)]; exact Below.refl _ _, rfl, fun hh => hS hh⟩
 ·
  intro _ b9 x ls hR hS hself hup hdn hk
  have h110 : b9.eval (.tmp 110) = .pointer (some ⟨Lb, 6, none⟩) := Eq.mp (by kernel_rfl) (hk 110 (by decide))
  have lA : ls 8 = false := hdn [] 8 _ rfl (by kernel_rfl)
  have hb := hS lA
  exact Rg.does_load _ _ h110 (load_ik (nd_cells ((hb.block Lb HTw.out.lt).trans HTw.out.box)).1.2.2.2.2.2.2.1) ⟨by rw [if_neg (by decide)]; exact Below.refl _ _, rfl, fun hh => hS hh⟩
 ·
  intro _ b9 x ls hR hS hself hup hdn hk
  have h6 : b9.eval (.tmp 6) = .pointer (some ⟨T6, 0, none⟩) := Eq.mp (by kernel_rfl) (hk 6 (by decide))
  have lA : ls 8 = false := hdn [7, 6, 5, 3] 8 _ rfl (by kernel_rfl)
  have hb := hS lA
  exact Rs.does_field _ _ h6 (fld_tree T6 0 x) ⟨by rw [if_neg (by decide)]; exact Below.refl _ _, rfl, fun hh => hS hh⟩
 ·
  intro _ b9 x ls hR hS hself hup hdn hk
  have h112 : b9.eval (.tmp 112) = .pointer (some ⟨T6, 0, none⟩) := Eq.mp (by kernel_rfl) (hk 112 (by decide))
  have lA : ls 8 = false := hdn [7, 6, 5] 8 _ rfl (by kernel_rfl)
  have hb := hS lA
  exact Rg.does_load _ _ h112 (load_nds (cell_of ((hb.block T6 (Array.getElem?_eq_some_iff.1 HXa9.out).1).trans HXa9.out)).1) ⟨by rw [if_neg (by decide)]; exact Below.refl _ _, rfl, fun hh => hS hh⟩
 ·
  intro _ b9 x ls hR hS hself hup hdn hk
  have h15 : b9.eval (.tmp 15) = .int .i64 (n : Int) := Eq.mp (by kernel_rfl) (hk 15 (by decide))
  have lA : ls 8 = false := hdn [7, 6, 5] 8 _ rfl (by kernel_rfl)
  have hb := hS lA
  exact Rg.does_move ⟨by rw [if_neg (by decide)]; exact Below.refl _ _, h15, fun hh => hS hh⟩
 ·
  intro _ b9 x ls hR hS hself hup hdn hk
  have h113 : b9.eval (.tmp 113) = .slice sa (n + 1) ca := Eq.mp (by kernel_rfl) (hk 113 (by decide))
  have h114 : b9.eval (.tmp 114) = .int .i64 (n : Int) := Eq.mp (by kernel_rfl) (hk 114 (by decide))
  have lA : ls 8 = false := hdn [7, 6] 8 _ rfl (by kernel_rfl)
  have hb := hS lA
  exact Rg.does_index _ _ _ h113 h114 (HIx.out x) ⟨by rw [if_neg (by decide)]; exact Below.refl _ _, rfl, fun hh => hS hh⟩
 ·
  intro _ b9 x ls hR hS hself hup hdn hk
  have h115 : b9.eval (.tmp 115) = .pointer (some ⟨b1, off + n * 8, none⟩) := Eq.mp (by kernel_rfl) (hk 115 (by decide))
  have lA : ls 8 = false := hdn [7] 8 _ rfl (by kernel_rfl)
  have hb := hS lA
  exact Rs.does_field _ _ h115 (fld_nd b1 (off + n * 8) 6 (by decide) x) ⟨by rw [if_neg (by decide)]; exact Below.refl _ _, rfl, fun hh => hS hh⟩
 ·
  intro _ b9 x ls hR hS hself hup hdn hk
  have h116 : b9.eval (.tmp 116) = .pointer (some ⟨b1, off + n * 8 + 6, none⟩) := Eq.mp (by kernel_rfl) (hk 116 (by decide))
  have lA : ls 8 = false := hdn [] 8 _ rfl (by kernel_rfl)
  have hb := hS lA
  exact Rg.does_load _ _ h116 (load_ik (cell_below hb (Nat.le_refl _) (HNd.out.cells 6 _ rfl))) ⟨by rw [if_neg (by decide)]; exact Below.refl _ _, rfl, fun hh => hS hh⟩
 ·
  intro _ b9 x ls hR hS hself hup hdn hk
  have h111 : b9.eval (.tmp 111) = .slice none 0 0 := Eq.mp (by kernel_rfl) (hk 111 (by decide))
  have h117 : b9.eval (.tmp 117) = .slice ak k1.length ck := Eq.mp (by kernel_rfl) (hk 117 (by decide))
  have hb := hS hself
  obtain ⟨v', w', hrun, hown', hgr, hat⟩ := Ap.run_append_at (P := Tryz.prog) x B0 29 29 29 inT j0 _ 1 8 Tryz.underlying29 (append_side Tryz.underlying29) hj0 jz0 jz1 jz2 rfl (by omega) (by omega) (.slice none 0 0) 0 [] (World.ownsRow_nil _ _ _ _) (b9.eval (.tmp 117)) k1.length (k1.map iv) (by rw [h117]; exact ints_src (ownsRow_below HKr.out hb)) (by unfold maxLen; omega) (by omega) (by have := hb.size; have := HTw.out.lt; have := HTw.out.bB; omega)
  exact Ap.does_append _ _ v' w' h111 rfl hrun ⟨by rw [if_pos rfl]; exact hgr, ⟨by simpa using hown', Sl.grown_trans (Sl.grown_below hb _) hgr, fun g hg => Nat.le_trans hb.size (Nat.le_of_not_lt fun hlt => by cases hat g hg hlt)⟩, fun hh => by simp [Rs.upd] at hh⟩
 ·
  intro _ b9 x ls hR hS hself hup hdn hk
  have h18 : b9.eval (.tmp 18) = .pointer (some ⟨Lb, 0, none⟩) := Eq.mp (by kernel_rfl) (hk 18 (by decide))
  exact Rs.does_field _ _ h18 (by have := fld_nd Lb 0 6 (by decide) x; simpa using this) ⟨by rw [if_neg (by decide)]; exact Below.refl _ _, rfl, fun hh => hS hh⟩
 ·
  intro vals wD ls _ hSD _ hL
  obtain ⟨g0, g1, g2, g3, g4, g5, g6, g7, g8, g9, _⟩ := hL
  obtain ⟨hown, hgr, hat⟩ : wD.ownsRow B0 inT 1 (vals 8) k1.length (k1.map iv) ∧ w9.grownBy wD none ∧ ∀ g, (vals 8).ownBlock = some g → w9.heap.size ≤ g := g8
  have g9' : vals 9 = .pointer (some ⟨Lb, 6, none⟩) := g9
  clear g0 g1 g2 g3 g4 g5 g6 g7 g9
  simp only [Rg.putAll, List.take_succ_cons, List.take_zero, List.drop_succ_cons, List.drop_zero, List.setIfInBounds_toArray, List.set_cons_succ, List.set_cons_zero, g9']
  clear g9'
  generalize vals 8 = vK at *
  have hbx : wD.heap[Lb]? = w9.heap[Lb]? := hgr.block Lb HTw.out.lt (fun e => by cases e)
  obtain ⟨_, f0, f1, f2, f3, f4, f5, f6, f7⟩ := nd_cells (hbx.trans HTw.out.box)
  obtain ⟨⟨c0, c1, c2, c3, c4, c5, c6, c7⟩, _⟩ := nd_cells (hbx.trans HTw.out.box)
  have hlt9 : ∀ g, vK.ownBlock = some g → B0 ≤ g := fun g hg => (hown.lt g hg).1
  have HTw2 := Lib.hid (HTw.out.more (K2 := k1) hgr (by simpa using hown) (fun g hg hlt => absurd (hat g hg) (by omega)))
  obtain ⟨av, cv, rfl, _⟩ := ownsRow_slice hown
  obtain ⟨w10, hw10⟩ : ∃ w10, wD.setCell ⟨Lb, 6, none⟩ (.slice av k1.length cv) = w10 := ⟨_, rfl⟩
  rw [hw10, List.nil_append] at HTw2
  have hgr10 : wD.grownBy w10 (some Lb) := by rw [← hw10]; exact Sl.setCells_grown Lb [_] 6 wD
  have hb9D : Below B0 w9 wD := grown_low hgr (fun j e => by cases e) (by have := HTw.out.lt; have := HTw.out.bB; omega)
  have hbD10 : Below B0 wD w10 := grown_low hgr10 (fun j e => by have := Option.some.inj e; have := HTw.out.bB; omega) (by have := hgr.size; have := HTw.out.lt; have := HTw.out.bB; omega)
  have HB10 : Hid (Below B0 w7 w10) := HB9.out.trans (hb9D.trans hbD10)
  clear hown hgr hat hbx hlt9 hgr10 hb9D hbD10
  go_upto_region 20 with fail
  clear c0 c1 c2 c3 c4 c5 c6 c7 f0 f1 f2 f3 f4 f5 f6 f7 hw10
  have HI0 : Hid ((Tryz.prog.info? ndT) = some i0 ∧ i0.zero = _ ∧ i0.size = 8 ∧ i0.bytes = 120) := ⟨hi0, hz0, hz1, hz2⟩
  go_loopw [17, 19, 20, 21, 22] (fun v17 v19 _ _ _ wr => ∃ (i : Nat) (aw' : Option Addr) (nw cw' : Nat) (vK' : Value) (L : List Nd) (K : List Nat), i ≤ q + 1 ∧ v19 = .int .i64 (i : Int) ∧ v17 = .slice aw' nw cw' ∧ nw = L.length ∧ L = N ++ (B.take i).map (shn n) ∧ K = (if i ≤ q then k1 else k1 ++ k2.map (· + n)) ∧ Tw wr B0 Lb (.slice aw' nw cw') vK' L K ∧ Below B0 w7 wr) (fun _ v19 _ _ _ _ => q + 1 - vQ v19)
  case atStart => exact ⟨0, aw, n, cw, .slice av k1.length cv, N, k1, by omega, rfl, rfl, HN.out.symm, by simp, by simp, HTw2.out, HB10.out⟩
  case round =>
   obtain ⟨i, aw', nw, cw', vK', L, K, hi, rfl, rfl, hnw, hL, hK, htw, hbr⟩ := hrel
   have HNw := Lib.hid hnw
   have HL := Lib.hid hL
   have HK := Lib.hid hK
   have HTwr := Lib.hid htw
   have HBr := Lib.hid hbr
   clear hnw hL hK htw hbr
   by_cases hiq : i ≤ q
   case pos =>
    have t3 : decide (i ≤ q) = true := decide_eq_true (by omega)
    have t1 : decide ((i : Int) ≤ (q : Int)) = true := decide_eq_true (by omega)
    have t2 : (i : Int) ≤ (q : Int) := by omega
    obtain ⟨xi, hxi⟩ : ∃ xi, m[i]? = some xi := ⟨_, List.getElem?_eq_getElem (by rw [HNb.out]; omega)⟩
    obtain ⟨hxk, hxy⟩ := HOk.out.kids xi (List.mem_of_getElem? hxi)
    have hXbr : wr.heap[T9]? = some (.cells #[.slice sb (q + 1) cb] trT) := (HBr.out.block T9 (by rw [← HB0.out]; exact (Array.getElem?_eq_some_iff.1 HXb.out).1)).trans HXb.out
    obtain ⟨sb2, cb2, hv, b2, off2, hcs, hix⟩ := nodes_at HRb.out
    rw [HNb.out] at hv hix
    obtain ⟨rfl, _, rfl⟩ := Value.slice.inj hv
    obtain ⟨uw, ur, uk, hnd7⟩ := hcs i xi hxi
    have HNd7 := Lib.hid hnd7
    have hnd := hnd7.below (by rw [HB0.out]; exact HBr.out)
    obtain ⟨aw2, cw2, hvw, _⟩ := ownsRow_slice hnd.rows.w
    obtain ⟨ar2, cr2, hvr, _⟩ := ownsRow_slice hnd.rows.r
    obtain ⟨ak2, ck2, hvk, b3, o3, hck, hik⟩ := ints_at (hh := xi.ks) hnd.rows.k
    obtain ⟨Xk, hXk⟩ : ∃ Xk, xi.ks.length = Xk := ⟨_, rfl⟩
    rw [hXk] at hvk hik hxk
    subst hvw hvr hvk
    have x0 : wr.cell? ⟨b2, off2 + i * 8, none⟩ = some (.int .i64 (xi.k : Int)) := hnd.cells 0 _ rfl
    have x1 : wr.cell? ⟨b2, off2 + i * 8 + 1, none⟩ = some (.string (str xi.t)) := hnd.cells 1 _ rfl
    have x2 : wr.cell? ⟨b2, off2 + i * 8 + 2, none⟩ = some (.bool xi.fl) := hnd.cells 2 _ rfl
    have x3 : wr.cell? ⟨b2, off2 + i * 8 + 3, none⟩ = some (.slice aw2 xi.ws.length cw2) := hnd.cells 3 _ rfl
    have x4 : wr.cell? ⟨b2, off2 + i * 8 + 4, none⟩ = some (.int .i64 (xi.st : Int)) := hnd.cells 4 _ rfl
    have x5 : wr.cell? ⟨b2, off2 + i * 8 + 5, none⟩ = some (.slice ar2 xi.rs.length cr2) := hnd.cells 5 _ rfl
    have x6 : wr.cell? ⟨b2, off2 + i * 8 + 6, none⟩ = some (.slice ak2 Xk ck2) := hnd.cells 6 _ rfl
    have x7 : wr.cell? ⟨b2, off2 + i * 8 + 7, none⟩ = some (.int .i64 (xi.ln : Int)) := hnd.cells 7 _ rfl
    have j1 : ∀ w, (Instr.indexAt 23 (.slice sb (q + 1) cb) (.int .i64 (i : Int))).run Tryz.prog w = .ok (.pointer (some ⟨b2, off2 + i * 8, none⟩)) w := fun w => hix i w (by omega)
    obtain ⟨mb, _⟩ := cell_of hXbr
    have HXi := Lib.hid hxi
    have HXk := Lib.hid hXk
    have HXy := Lib.hid hxy
    have HCk := Lib.hid hck
    have HIk := Lib.hid hik
    clear hxi hXk hxy hck hik hv hcs hix hnd hXbr hnd7
    go_upto_region 23 with fail
    obtain ⟨Xb, hXb⟩ : ∃ Xb, wr.heap.size = Xb := ⟨_, rfl⟩
    obtain ⟨w11, hw11⟩ : ∃ w11, wr.alloc (.cells #[.int .i64 (xi.k : Int), .string (str xi.t), .bool xi.fl, .slice aw2 xi.ws.length cw2, .int .i64 (xi.st : Int), .slice ar2 xi.rs.length cr2, .slice ak2 Xk ck2, .int .i64 (xi.ln : Int)] ndT) = w11 := ⟨_, rfl⟩
    have hx11 : w11.heap[Xb]? = some (.cells #[.int .i64 (xi.k : Int), .string (str xi.t), .bool xi.fl, .slice aw2 xi.ws.length cw2, .int .i64 (xi.st : Int), .slice ar2 xi.rs.length cr2, .slice ak2 Xk ck2, .int .i64 (xi.ln : Int)] ndT) := by rw [← hw11, ← hXb]; exact heap_alloc_new _ _
    have hb11 : Below wr.heap.size wr w11 := by rw [← hw11]; exact (Below.refl _ _).alloc (Nat.le_refl _) _
    obtain ⟨HX, hHX⟩ : ∃ HX, w11.heap.size = HX := ⟨_, rfl⟩
    have HX11 := Lib.hid hx11
    have HB11 := Lib.hid hb11
    have HHX := Lib.hid hHX
    have HXB := Lib.hid hXb
    have HXlt : Hid (Xb < HX) := by show _ < _; rw [← hHX]; exact (Array.getElem?_eq_some_iff.1 hx11).1
    rw [hw11, hXb]
    clear x0 x1 x2 x3 x4 x5 x6 x7 hw11 hXb hx11 hb11 hHX mb j1
    have hy11 := (nd_cells HX11.out).1.2.2.2.2.2.2.1
    go_upto_region 25 with fail
    clear hy11
    obtain ⟨wo, hwo⟩ : ∃ wo, wo = wr := ⟨_, rfl⟩
    subst hwo
    go_loopw [21, 22] (fun v21 v22 wq => ∃ (k : Nat) (ab : Option Addr) (cb : Nat), k ≤ Xk ∧ v22 = .int .i64 (k : Int) ∧ v21 = .slice ab k cb ∧ wq.ownsRow HX inT 1 (.slice ab k cb) k (kidV n (xi.ks.take k)) ∧ Below HX w11 wq) (fun _ v22 _ => Xk - vQ v22)
    case atStart => exact ⟨0, none, 0, Nat.zero_le _, rfl, rfl, by rw [List.take_zero, kidV_nil]; exact World.ownsRow_nil _ _ _ _, Below.refl _ _⟩
    case round =>
     obtain ⟨k, ab, cb1, hk, rfl, rfl, hown, hbq⟩ := hrel
     have HOwq := Lib.hid hown
     have HBq := Lib.hid hbq
     obtain ⟨⟨y0, y1, y2, y3, y4, y5, y6, y7⟩, z0, z1, z2, z3, z4, z5, z6, z7⟩ := nd_cells ((hbq.block Xb HXlt.out).trans HX11.out)
     clear hown hbq
     by_cases hkx : k < Xk
     case pos =>
      have tk3 : decide (k < Xk) = true := decide_eq_true (by omega)
      have tk1 : decide ((k : Int) < (Xk : Int)) = true := decide_eq_true (by omega)
      have tk2 : (k : Int) < (Xk : Int) := by omega
      have hkl : k < xi.ks.length := by rw [HXk.out]; exact hkx
      obtain ⟨y, hy⟩ : ∃ y, xi.ks[k]? = some y := ⟨_, List.getElem?_eq_getElem hkl⟩
      have hy5 : y ≤ 50000 := HXy.out y (List.mem_of_getElem? hy)
      have hts := kidV_next (n := n) hy
      have HTs := Lib.hid hts
      have hg2 : wr.cell? ⟨b3, o3 + k, none⟩ = some (.int .i64 (y : Int)) := cell_below (HB11.out.trans ((by rw [HHX.out]; exact HBq.out : Below w11.heap.size w11 wr).mono HB11.out.size)) (Nat.le_refl _) (HCk.out k y hy)
      have j1 : ∀ w, (Instr.indexAt 29 (.slice ak2 Xk ck2) (.int .i64 (k : Int))).run Tryz.prog w = .ok (.pointer (some ⟨b3, o3 + k, none⟩)) w := fun w => HIk.out k w hkx
      have hal := (Below.refl wr.heap.size wr).alloc (Nat.le_refl _) (.cells #[.int .i64 ((y : Int) + (n : Int))] inT)
      have HBa := Lib.hid hal
      have HOA := Lib.hid (ownsRow_below HOwq.out hal)
      have HSr := Lib.hid (src_new (P := Tryz.prog) wr [.int .i64 ((y : Int) + (n : Int))] inT 1 1 rfl (by intro u hu; obtain rfl := List.mem_singleton.1 hu; rfl) 1)
      have HSz : Hid (HX ≤ (wr.alloc (.cells #[.int .i64 ((y : Int) + (n : Int))] inT)).heap.size) := by
       show _ ≤ _
       have h1 := HBq.out.size
       rw [HHX.out] at h1
       exact Nat.le_trans h1 hal.size
      clear hy hts hal hkl
      go_upto_region 27 with fail
      clear z0 z1 z2 z3 z4 z5 z6 z7
      go_wp2_with (at_builtin; refine Ap.wpList_append_at rfl (.tmp 137) (.tmp 145) 29 29 rfl HX inT j0 _ 1 8 Tryz.underlying29 (append_side Tryz.underlying29) hj0 jz0 jz1 jz2 rfl (by decide) (by decide) _ k _ rfl HOA.out _ 1 _ rfl HSr.out ?_ ?_ ?_ ?_)
      case _ => unfold maxLen; omega
      case _ => omega
      case _ => first | exact HSz.out | (have := HSz.out; rw [World.size_alloc] at this; exact this)
      intro v' w' hown' hg' _
      have hown2 : w'.ownsRow HX inT 1 v' (k + 1) (kidV n (xi.ks.take (k + 1))) := by rw [HTs.out]; exact hown'
      obtain ⟨ab', cb', rfl, _⟩ := ownsRow_slice hown2
      have HO2 := Lib.hid hown2
      have HB2x : Hid (Below HX w11 w') := by
       show Below _ _ _
       refine (HBq.out.trans (HBa.out.mono ?_)).trans (grown_low hg' (fun j e => (HOA.out.lt j e).1) HSz.out)
       have h1 := HBq.out.size
       rw [HHX.out] at h1
       exact h1
      clear hown' hg' hown2
      go_wp2_with fail
      go_roundw
      case rel => exact ⟨k + 1, ab', cb', by omega, by go_num, rfl, HO2.out, HB2x.out⟩
      case measure => simp [vQ]; omega
     case neg =>
      obtain rfl : k = Xk := by omega
      have tk3 : decide (k < k) = false := decide_eq_false (by omega)
      have tk1 : decide ((k : Int) < (k : Int)) = false := decide_eq_false (by omega)
      have tk2 : ¬ ((k : Int) < (k : Int)) := by omega
      have hown : wr.ownsRow HX inT 1 (.slice ab k cb1) k (kidV n xi.ks) := by
       have := HOwq.out
       rw [List.take_of_length_le (by rw [HXk.out]; exact Nat.le_refl _)] at this
       exact this
      have hxq : wr.heap[Xb]? = some (.cells #[.int .i64 (xi.k : Int), .string (str xi.t), .bool xi.fl, .slice aw2 xi.ws.length cw2, .int .i64 (xi.st : Int), .slice ar2 xi.rs.length cr2, .slice ak2 k ck2, .int .i64 (xi.ln : Int)] ndT) := (HBq.out.block Xb HXlt.out).trans HX11.out
      have hx12 := heap_setCell_same wr Xb 6 _ _ (.slice ab k cb1) hxq
      have hg12 : wr.grownBy (wr.setCell ⟨Xb, 6, none⟩ (.slice ab k cb1)) (some Xb) := Sl.setCells_grown Xb [_] 6 wr
      have hqs : HX ≤ wr.heap.size := by have := HBq.out.size; rw [HHX.out] at this; exact this
      obtain ⟨w12, hw12⟩ : ∃ w12, wr.setCell ⟨Xb, 6, none⟩ (.slice ab k cb1) = w12 := ⟨_, rfl⟩
      rw [hw12] at hx12 hg12
      have HX12 : Hid (w12.heap[Xb]? = some (.cells #[.int .i64 (xi.k : Int), .string (str xi.t), .bool xi.fl, .slice aw2 xi.ws.length cw2, .int .i64 (xi.st : Int), .slice ar2 xi.rs.length cr2, .slice ab k cb1, .int .i64 (xi.ln : Int)] ndT)) := hx12
      have HO12 : Hid (w12.ownsRow HX inT 1 (.slice ab k cb1) k (kidV n xi.ks)) := own_keep hown fun g X hg _ => by
       have h1 := hown.lt g hg
       exact hg12.block g h1.2 (fun e => by have := Option.some.inj e; have := HXlt.out; omega)
      have hXe : wo.heap.size = Xb := HXB.out
      have hBX : B0 ≤ Xb := by have := HBr.out.size; rw [HB0.out, hXe] at this; exact this
      have HB12 : Hid (Below Xb wo w12) := by
       show Below _ _ _
       have h1 : Below Xb wo w11 := by rw [← hXe]; exact HB11.out
       exact (h1.trans (HBq.out.mono (by have := HXlt.out; omega))).trans (grown_low hg12 (fun j e => by have := Option.some.inj e; omega) (by have := HXlt.out; omega))
      have HTw12 := Lib.hid (HTwr.out.below (by rw [hXe]; exact HB12.out))
      have HB712 : Hid (Below B0 w7 w12) := HBr.out.trans (HB12.out.mono hBX)
      have HRx : Hid (Rows w12 (fun g => vK'.ownBlock ≠ some g) (shn n xi) (.slice aw2 xi.ws.length cw2) (.slice ar2 xi.rs.length cr2) (.slice ab k cb1)) := by
       have r7 := HNd7.out.rows
       have r12 := r7.below (by rw [HB0.out]; exact HB712.out)
       refine ⟨r12.w, r12.r, ?_, fun g hg e => ?_, fun g hg e => ?_, fun g hg e => ?_⟩
       ·
        have h1 : (shn n xi).ks.length = k := by show (xi.ks.map (· + n)).length = k; rw [List.length_map]; exact HXk.out
        rw [h1]
        exact ownsRow_mono HO12.out (Nat.zero_le _)
       ·
        have h1 := (r7.w.lt g hg).2
        have h2 := (HTwr.out.kids.lt g e).1
        rw [HB0.out] at h1
        omega
       ·
        have h1 := (r7.r.lt g hg).2
        have h2 := (HTwr.out.kids.lt g e).1
        rw [HB0.out] at h1
        omega
       ·
        have h1 := (HO12.out.lt g hg).1
        have h2 := (HTwr.out.kids.lt g e).2
        have := HXlt.out
        omega
      clear hown hxq hx12 hg12 hqs
      by_cases hie : i < q
      case pos =>
       have te3 : decide (i < q) = true := decide_eq_true (by omega)
       have te1 : decide ((i : Int) < (q : Int)) = true := decide_eq_true (by omega)
       have te2 : (i : Int) < (q : Int) := by omega
       go_upto_region 30 with fail
       clear y0 y1 y2 y3 y4 y5 y6 y7 z0 z1 z2 z3 z4 z5 z6 z7
       obtain ⟨⟨y0, y1, y2, y3, y4, y5, y6, y7⟩, _⟩ := nd_cells HX12.out
       obtain ⟨zsw, hzsw, hownw, hzw⟩ := HTw12.out.want
       have hal := (Below.refl w12.heap.size w12).alloc (Nat.le_refl _) (.cells (nz (shn n xi, (.slice aw2 xi.ws.length cw2), (.slice ar2 xi.rs.length cr2), (.slice ab k cb1))).toArray ndT)
       have HSr := Lib.hid (src_new (P := Tryz.prog) w12 (nz (shn n xi, (.slice aw2 xi.ws.length cw2), (.slice ar2 xi.rs.length cr2), (.slice ab k cb1))) ndT 8 1 rfl (nz_one HRx.out) 1)
       have HOA := Lib.hid (ownsRow_below hownw hal)
       have HAl := Lib.hid hal
       have HZsw := Lib.hid hzsw
       have HZw := Lib.hid hzw
       clear hzsw hownw hzw hal
       have hLl : L.length ≤ 100000 := by
        rw [HL.out, List.length_append, List.length_map, List.length_take, HN.out]
        omega
       have hbz : B0 ≤ w12.heap.size := by have := HB712.out.size; rw [HB0.out] at this; exact this
       have hxB : B[i]? = some xi := by
        have := HXi.out
        rw [HOk.out.hm, List.getElem?_append_left (by rw [HQ.out]; exact hie)] at this
        exact this
       have HLn : Hid (L ++ [shn n xi] = N ++ (B.take (i + 1)).map (shn n)) := by
        show _ = _
        obtain ⟨h1, h2⟩ := List.getElem?_eq_some_iff.1 hxB
        rw [HL.out, List.take_succ_eq_append_getElem h1, List.map_append, List.append_assoc, h2]
        rfl
       have HKn : Hid (K = if i + 1 ≤ q then k1 else k1 ++ k2.map (· + n)) := by
        show _ = _
        rw [HK.out, if_pos hiq, if_pos (by omega)]
       clear hxB
       go_wp2_with (at_builtin; refine Ap.wpList_append_at rfl (.tmp 152) (.tmp 154) 23 23 rfl B0 ndT i0 _ 8 120 Tryz.underlying23 (append_side Tryz.underlying23) hi0 hz0 hz1 hz2 rfl (by decide) (by decide) _ L.length _ rfl HOA.out _ 1 _ rfl HSr.out ?_ ?_ ?_ ?_)
       case _ => unfold maxLen; omega
       case _ => omega
       case _ => first | (have h1 := HAl.out.size; exact Nat.le_trans hbz h1) | (have h1 := HAl.out.size; rw [World.size_alloc] at h1; omega)
       intro v' w' hown' hg' hat'
       have hTw13 := (HTw12.out.below HAl.out).put (zs := zsw) (x := (shn n xi, (.slice aw2 xi.ws.length cw2), (.slice ar2 xi.rs.length cr2), (.slice ab k cb1))) HZsw.out (fun x hx => (HZw.out x hx).below HAl.out) (HRx.out.below HAl.out) hg' hown' (fun g hg hl => hat' g hg (by rw [World.size_alloc] at hl; exact hl))
       have HB13 : Hid (Below B0 w7 w') := HB712.out.trans ((HAl.out.mono hbz).trans (grown_low hg' (fun j e => (HOA.out.lt j e).1) (Nat.le_trans hbz HAl.out.size)))
       obtain ⟨a9, c9, rfl, _⟩ := ownsRow_slice hown'
       have HTw13 := Lib.hid hTw13
       clear hown' hg' hat' hTw13
       go_wp2_with fail
       go_roundw
       case rel => exact ⟨i + 1, a9, L.length + 1, c9, vK', L ++ [shn n xi], K, by omega, by go_num, rfl, by simp, HLn.out, HKn.out, HTw13.out, HB13.out⟩
       case measure => simp [vQ]; omega
      case neg =>
       obtain rfl : i = q := by omega
       have te3 : decide (i < i) = false := decide_eq_false (by omega)
       have te1 : decide ((i : Int) < (i : Int)) = false := decide_eq_false (by omega)
       have te2 : ¬ ((i : Int) < (i : Int)) := by omega
       obtain ⟨avk, cvk, hvk, _⟩ := ownsRow_slice HTw12.out.kids
       subst hvk
       have hKk : K = k1 := by rw [HK.out, if_pos hiq]
       have hKl : K.length ≤ 50000 := by rw [hKk]; exact hk15
       have hxl : xi.ks = k2 := by
        have := HXi.out
        rw [HOk.out.hm, ← HQ.out, List.getElem?_concat_length] at this
        rw [← Option.some.inj this]
       have hLL : L = N ++ (B.take (i + 1)).map (shn n) := by
        rw [HL.out, List.take_of_length_le (by rw [HQ.out]; exact Nat.le_refl _), List.take_of_length_le (by rw [HQ.out]; omega)]
       have HLn := Lib.hid hLL
       have HKn : Hid (K ++ k2.map (· + n) = if i + 1 ≤ i then k1 else k1 ++ k2.map (· + n)) := by
        show _ = _
        rw [if_neg (by omega), hKk]
       have hsK : Base.Src Tryz.prog w12 1 (.slice ab k cb1) k (kidV n xi.ks) := ints_src HO12.out
       have HSK := Lib.hid hsK
       have HXl := Lib.hid hxl
       have hbz : B0 ≤ w12.heap.size := by have := HB712.out.size; rw [HB0.out] at this; exact this
       have hkL := own_ne (k' := 0) HTw12.out.kids HTw12.out.box (by decide)
       have HkL := Lib.hid hkL
       clear hKk hxl hLL hsK hkL
       go_upto_region 31 with fail
       clear y0 y1 y2 y3 y4 y5 y6 y7 z0 z1 z2 z3 z4 z5 z6 z7
       have y6 := (nd_cells HTw12.out.box).1.2.2.2.2.2.2.1
       have HKid := Lib.hid HTw12.out.kids
       go_wp2_with (at_builtin; refine Ap.wpList_append_at rfl (.tmp 157) (.tmp 158) 29 29 rfl B0 inT j0 _ 1 8 Tryz.underlying29 (append_side Tryz.underlying29) hj0 jz0 jz1 jz2 rfl (by decide) (by decide) _ K.length _ rfl HKid.out _ k _ rfl HSK.out ?_ ?_ ?_ ?_)
       case _ => unfold maxLen; omega
       case _ => omega
       intro v' w' hown' hg' hat'
       clear y6
       obtain ⟨a9, c9, rfl, _⟩ := ownsRow_slice hown'
       have hbx1 := (hg'.block Lb HTw12.out.lt (fun e => HkL.out e.symm)).trans HTw12.out.box
       obtain ⟨_, f0, f1, f2, f3, f4, f5, f6, f7⟩ := nd_cells hbx1
       obtain ⟨⟨c0, c1, c2, c3, c4, c5, c6, c7⟩, _⟩ := nd_cells hbx1
       have hown2 : w'.ownsRow B0 inT 1 (.slice a9 (K.length + k) c9) (K ++ k2.map (· + n)).length ((K ++ k2.map (· + n)).map iv) := by
        have h1 : (K ++ k2.map (· + n)).length = K.length + k := by rw [List.length_append, List.length_map, ← HXl.out, HXk.out]
        rw [h1, List.map_append, ← HXl.out]
        exact hown'
       have hTw13 := HTw12.out.more hg' hown2 hat'
       obtain ⟨w14, hw14⟩ : ∃ w14, w'.setCell ⟨Lb, 6, none⟩ (.slice a9 (K.length + k) c9) = w14 := ⟨_, rfl⟩
       rw [hw14] at hTw13
       have hg14 : w'.grownBy w14 (some Lb) := by rw [← hw14]; exact Sl.setCells_grown Lb [_] 6 w'
       have HB14 : Hid (Below B0 w7 w14) := by
        show Below _ _ _
        refine HB712.out.trans ((grown_low hg' (fun j e => (HKid.out.lt j e).1) hbz).trans (grown_low hg14 (fun j e => by have := Option.some.inj e; have := HTw12.out.bB; omega) (Nat.le_trans hbz hg'.size)))
       have HTw14 := Lib.hid hTw13
       clear hown' hg' hat' hbx1 hown2 hTw13 hg14
       go_wp2_with fail
       go_roundw
       case rel => exact ⟨i + 1, aw', nw, cw', _, L, K ++ k2.map (· + n), by omega, by go_num, rfl, HNw.out, HLn.out, HKn.out, HTw14.out, HB14.out⟩
       case measure => simp [vQ]
   case neg =>
    obtain rfl : i = q + 1 := by omega
    have t1 : decide (((q + 1 : Nat) : Int) ≤ (q : Int)) = false := decide_eq_false (by omega)
    have t2 : ¬ (((q + 1 : Nat) : Int) ≤ (q : Int)) := by omega
    obtain ⟨avk, cvk, hvk, _⟩ := ownsRow_slice HTwr.out.kids
    subst hvk
    have hKe : K = k1 ++ k2.map (· + n) := by rw [HK.out, if_neg (by omega)]
    have hLe : L = N ++ B.map (shn n) := by rw [HL.out, List.take_of_length_le (by rw [HQ.out]; omega)]
    have hLl : L.length ≤ 100000 := by rw [hLe, List.length_append, List.length_map, HN.out, HQ.out]; omega
    have HDec : Hid (decide (o.map Sy.bare = (L ++ [({ k := 5, ks := K, ln := 0 } : Nd)]).map Sy.bare) = true) := by
     show _ = _
     have h1 := HOk.out.ho
     rw [HN.out] at h1
     rw [hLe, hKe]
     exact decide_eq_true h1
    have hbz : B0 ≤ wr.heap.size := by have := HBr.out.size; rw [HB0.out] at this; exact this
    obtain ⟨⟨y0, y1, y2, y3, y4, y5, y6, y7⟩, _⟩ := nd_cells HTwr.out.box
    obtain ⟨zsw, hzsw, hownw, hzw⟩ := HTwr.out.want
    have hrl : Rows wr (fun _ => True) { k := 5, ks := K, ln := 0 } (.slice none 0 0) (.slice none 0 0) (.slice avk K.length cvk) :=
     ⟨World.ownsRow_nil _ _ _ _, World.ownsRow_nil _ _ _ _, ownsRow_mono HTwr.out.kids (Nat.zero_le _), fun _ _ => trivial, fun _ _ => trivial, fun _ _ => trivial⟩
    have hal := (Below.refl wr.heap.size wr).alloc (Nat.le_refl _) (.cells (nz (({ k := 5, ks := K, ln := 0 } : Nd), (.slice none 0 0), (.slice none 0 0), (.slice avk K.length cvk))).toArray ndT)
    have HSr := Lib.hid (src_new (P := Tryz.prog) wr (nz (({ k := 5, ks := K, ln := 0 } : Nd), (.slice none 0 0), (.slice none 0 0), (.slice avk K.length cvk))) ndT 8 1 rfl (nz_one hrl) 1)
    have HOA := Lib.hid (ownsRow_below hownw hal)
    have HAl := Lib.hid hal
    have HZsw := Lib.hid hzsw
    have HZw : Hid (∀ x ∈ zsw, Rows wr (fun _ => True) x.1 x.2.1 x.2.2.1 x.2.2.2) := fun x hx => (hzw x hx).less fun _ _ _ => trivial
    have HRl := Lib.hid hrl
    clear hKe hLe hzsw hownw hzw hal hrl
    go_upto_region 32 with fail
    go_wp2_with (at_builtin; refine Ap.wpList_append_at rfl (.tmp 161) (.tmp 163) 23 23 rfl B0 ndT i0 _ 8 120 Tryz.underlying23 (append_side Tryz.underlying23) hi0 hz0 hz1 hz2 rfl (by decide) (by decide) _ L.length _ rfl HOA.out _ 1 _ rfl HSr.out ?_ ?_ ?_ ?_)
    case _ => unfold maxLen; omega
    case _ => omega
    case _ => first | (have h1 := HAl.out.size; exact Nat.le_trans hbz h1) | (have h1 := HAl.out.size; rw [World.size_alloc] at h1; omega)
    intro v' w' hown' hg' hat'
    have hrow := rowN_put (W := wr.alloc (.cells (nz (({ k := 5, ks := K, ln := 0 } : Nd), (.slice none 0 0), (.slice none 0 0), (.slice avk K.length cvk))).toArray ndT)) (x := (({ k := 5, ks := K, ln := 0 } : Nd), (.slice none 0 0), (.slice none 0 0), (.slice avk K.length cvk))) HZsw.out HOA.out (fun x hx => (HZw.out x hx).below HAl.out) (HRl.out.below HAl.out) hg' hown'
    have hB15 : Below B0 w7 w' := HBr.out.trans ((HAl.out.mono hbz).trans (grown_low hg' (fun j e => (HOA.out.lt j e).1) (Nat.le_trans hbz HAl.out.size)))
    have HB15 : Hid (Below W.heap.size W w') := HB7.out.trans (hB15.mono (by rw [← HB0.out]; exact HB7.out.size))
    have HRo : Hid (RowN w' w5.heap.size (fun g => w5.heap.size ≤ g) (.slice sc (n + q + 1) cc) o) := trowN_below HRc.out (by rw [HB0.out]; exact hB15)
    obtain ⟨m12, _⟩ := cell_of ((hB15.block T12 (by rw [← HB0.out]; exact (Array.getElem?_eq_some_iff.1 HXc.out).1)).trans HXc.out)
    obtain ⟨a9, c9, rfl, _⟩ := ownsRow_slice hown'
    have HRw := Lib.hid hrow
    clear hown' hg' hat' hrow hB15 y0 y1 y2 y3 y4 y5 y6 y7
    go_wp2_with fail
    refine (same_calls w' _ _ _ _ _ _ o (L ++ [({ k := 5, ks := K, ln := 0 } : Nd)]) HRo.out HRw.out).mono ?_
    rintro r w16 ⟨rfl, hb16⟩
    have HF := Lib.hid (HB15.out.trans (hb16.mono HB15.out.size))
    rw [HDec.out]
    clear hb16
    go_wp2_with fail
    go_ret
    exact ⟨rfl, HF.out⟩
end Go.Proofs.YtknncfoaegmphaaGreatDoor.Sx
