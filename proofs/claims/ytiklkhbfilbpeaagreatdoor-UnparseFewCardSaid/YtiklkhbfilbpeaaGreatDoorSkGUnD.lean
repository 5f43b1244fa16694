/-
  Unparse: if. Conditions: as the contract says.
  Unparse: for. Conditions: as the contract says.
  Unparse: a simple command. Conditions: as the contract says.
  Unparse: the map of the methods that print a node. Conditions: as each law says.
  Unparse: a node, by what its method does. Conditions: as the contract says.
  Unparse: every node of a tree is printed as the plain functions say. Conditions: as the contract says.
-/
import Derived.Test.YtiklkhbfilbpeaaGreatDoorSkGUnB
import Derived.Test.YtiklkhbfilbpeaaGreatDoorSkGSyG
import Derived.Test.YtiklkhbfilbpeaaGreatDoorSkGUnC
import Derived.Laws.OwnMore
import Derived.Test.YtiklkhbfilbpeaaGreatDoorSkLxOne
set_option linter.unusedVariables false
set_option linter.unusedSimpArgs false
set_option maxRecDepth 100000
namespace Go.Proofs.YtiklkhbfilbpeaaGreatDoor.Ux
open Go.RowKit Base Lx Sy Sx Un
theorem kind_cell {W : World} {P : Nat → Prop} {b1 o : Nat} {n : Nd} {uw ur uk : Value} (h : NdAt W P b1 o n uw ur uk) : W.cell? ⟨b1, o, none⟩ = some (.int .i64 (n.k : Int)) := by
  have := h.cells 0 _ rfl
  simpa using this
set_option maxHeartbeats 2000000 in
theorem asks2_calls (W : World) (b B : Nat) (tv bv : Value) (s : PS) (l : List Nd) (h : Pr W b B tv bv s) (ht : TrAt W B tv l) (n : Nd) (uw ur uk : Value) (hr : Sx.Rows W (fun g => g < B) n uw ur uk) (hks : n.ks.length = 2) (f : Nat → PS → PS) (c : Nat → Nat) (hk : ∀ k ∈ n.ks, KidC l b B tv (k : Int) (f k) (c k)) (hc : ∀ k ∈ n.ks, ∀ s, lenS (f k s) ≤ lenS s + c k) (hl : lenS s + (2 + 1 + (4 + 1) + 2 + (c (kid n 0) + c (kid n 1))) ≤ big) :
    Calls Tryz.prog 31 #[.pointer (some ⟨b, 0, none⟩), ndV n uw ur uk] W fun r W' => Post W b B tv bv (asksS (kdOf l) f n s) r W' := by
  obtain ⟨w1, N, hal, hN, HX⟩ := nd_box h ht hr
  obtain ⟨g, cc, huk, k0⟩ := HX.out.2.2.2.kid (i := 0) (by omega)
  rw [hks] at huk
  subst huk
  obtain ⟨c0, c1, c2, c3, c5, c6⟩ := HX.out.2.2.2.cells
  have HM0 : Hid (kid n 0 ∈ n.ks) := kid_mem (by omega)
  have HM1 : Hid (kid n 1 ∈ n.ks) := kid_mem (by omega)
  have HK := Lib.hid hk
  have HC := Lib.hid hc
  have HL := Lib.hid hl
  have HKs := Lib.hid hks
  have HP := Lib.hid (part_calls w1 b B tv bv s l HX.out.2.1 HX.out.2.2.1 [105, 102] (kid n 0 : Int) _ _ (hk _ HM0.out) (by simp only [List.length_cons, List.length_nil]; omega))
  unfold ndV
  clear h ht hr hk hl hc hks
  go_enter Tryz.func31, Tryz.ntmps31
  go_wp2_with fail
  refine HP.out.mono ?_
  rintro r w2 ⟨bv2, rfl, ht2, hp2⟩
  have HT2 : Hid (Sx.Turn b bv W bv2 w2) := (Sx.Turn.of_below HX.out.1).trans ht2
  have hn2 := HX.out.2.2.2.turn HX.out.2.1 ht2
  have d6 := hn2.cells.2.2.2.2.2
  have k2 := hn2.kcell (i := 1) (by rw [HKs.out]; decide)
  have HL2 : Hid (lenS (partS [105, 102] (f (kid n 0)) s) ≤ lenS s + 2 + 1 + c (kid n 0)) := len_part (w := [105, 102]) (s := s) (HC.out _ HM0.out)
  have HTr2 : Hid (TrAt w2 B tv l) := HX.out.2.2.1.below (turn_low HX.out.2.1 ht2)
  have HPd := Lib.hid (part_calls w2 b B tv bv2 _ l hp2 HTr2.out [116, 104, 101, 110] (kid n 1 : Int) _ _ (HK.out _ HM1.out) (by have h1 := HL.out; have h2 := HL2.out; simp only [List.length_cons, List.length_nil]; omega))
  have HN2 := Lib.hid hn2
  have HQ2 := Lib.hid hp2
  clear ht2 hp2 hn2
  go_wp2_with fail
  refine HPd.out.mono ?_
  rintro r w3 ⟨bv3, rfl, ht3, hp3⟩
  have HT3 := Lib.hid (HT2.out.trans ht3)
  have HL3 : Hid (lenS (partS [116, 104, 101, 110] (f (kid n 1)) (partS [105, 102] (f (kid n 0)) s)) ≤ lenS (partS [105, 102] (f (kid n 0)) s) + 4 + 1 + c (kid n 1)) := len_part (w := [116, 104, 101, 110]) (s := partS [105, 102] (f (kid n 0)) s) (HC.out _ HM1.out)
  have HN3 := Lib.hid (HN2.out.turn HQ2.out ht3)
  have HTr3 : Hid (TrAt w3 B tv l) := HTr2.out.below (turn_low HQ2.out ht3)
  have e6 := HN3.out.cells.2.2.2.2.2
  have HQ3 := Lib.hid hp3
  have HPu := Lib.hid (put1_new w3 b B tv bv3 _ hp3 [102, 105] (by have h1 := HL.out; have h2 := HL2.out; have h3 := HL3.out; have h4 := fst_le (partS [116, 104, 101, 110] (f (kid n 1)) (partS [105, 102] (f (kid n 0)) s)); simp only [List.length_cons, List.length_nil] at *; omega))
  clear ht3 hp3
  go_wp2_with fail
  refine HPu.out.mono ?_
  rintro r w4 ⟨bv4, rfl, ht4, hp4⟩
  go_wp2
  go_end0
  refine ⟨bv4, rfl, HT3.out.trans ht4, ?_⟩
  unfold asksS
  simp only
  rw [if_neg (by rw [HKs.out]; decide)]
  exact hp4
set_option maxHeartbeats 2000000 in
theorem asks3_calls (W : World) (b B : Nat) (tv bv : Value) (s : PS) (l : List Nd) (h : Pr W b B tv bv s) (ht : TrAt W B tv l) (n : Nd) (uw ur uk : Value) (hr : Sx.Rows W (fun g => g < B) n uw ur uk) (hks : n.ks.length = 3) (f : Nat → PS → PS) (c : Nat → Nat) (hk : ∀ k ∈ n.ks, KidC l b B tv (k : Int) (f k) (c k)) (hc : ∀ k ∈ n.ks, ∀ s, lenS (f k s) ≤ lenS s + c k) (hlt : kid n 2 < l.length) (hl : lenS s + (2 + 1 + (4 + 1) + 2 + (c (kid n 0) + c (kid n 1)) + (4 + 1 + (if kdOf l (kid n 2) = 6 then 1 else 0) + c (kid n 2))) ≤ big) :
    Calls Tryz.prog 31 #[.pointer (some ⟨b, 0, none⟩), ndV n uw ur uk] W fun r W' => Post W b B tv bv (asksS (kdOf l) f n s) r W' := by
  obtain ⟨x6, hx6⟩ : ∃ x, (if kdOf l (kid n 2) = 6 then 1 else 0) = x := ⟨_, rfl⟩
  rw [hx6] at hl
  have HX6 := Lib.hid hx6
  clear hx6
  obtain ⟨w1, N, hal, hN, HX⟩ := nd_box h ht hr
  obtain ⟨g, cc, huk, k0⟩ := HX.out.2.2.2.kid (i := 0) (by omega)
  rw [hks] at huk
  subst huk
  obtain ⟨c0, c1, c2, c3, c5, c6⟩ := HX.out.2.2.2.cells
  have HM0 : Hid (kid n 0 ∈ n.ks) := kid_mem (by omega)
  have HM1 : Hid (kid n 1 ∈ n.ks) := kid_mem (by omega)
  have HK := Lib.hid hk
  have HC := Lib.hid hc
  have HL := Lib.hid hl
  have HKs := Lib.hid hks
  have HP := Lib.hid (part_calls w1 b B tv bv s l HX.out.2.1 HX.out.2.2.1 [105, 102] (kid n 0 : Int) _ _ (hk _ HM0.out) (by simp only [List.length_cons, List.length_nil]; omega))
  unfold ndV
  clear h ht hr hk hl hc hks
  go_enter Tryz.func31, Tryz.ntmps31
  go_wp2_with fail
  refine HP.out.mono ?_
  rintro r w2 ⟨bv2, rfl, ht2, hp2⟩
  have HT2 : Hid (Sx.Turn b bv W bv2 w2) := (Sx.Turn.of_below HX.out.1).trans ht2
  have hn2 := HX.out.2.2.2.turn HX.out.2.1 ht2
  have d6 := hn2.cells.2.2.2.2.2
  have k2 := hn2.kcell (i := 1) (by rw [HKs.out]; decide)
  have HL2 : Hid (lenS (partS [105, 102] (f (kid n 0)) s) ≤ lenS s + 2 + 1 + c (kid n 0)) := len_part (w := [105, 102]) (s := s) (HC.out _ HM0.out)
  have HTr2 : Hid (TrAt w2 B tv l) := HX.out.2.2.1.below (turn_low HX.out.2.1 ht2)
  have HPd := Lib.hid (part_calls w2 b B tv bv2 _ l hp2 HTr2.out [116, 104, 101, 110] (kid n 1 : Int) _ _ (HK.out _ HM1.out) (by have h1 := HL.out; have h2 := HL2.out; simp only [List.length_cons, List.length_nil]; omega))
  have HN2 := Lib.hid hn2
  have HQ2 := Lib.hid hp2
  clear ht2 hp2 hn2
  go_wp2_with fail
  refine HPd.out.mono ?_
  rintro r w3 ⟨bv3, rfl, ht3, hp3⟩
  have HT3 := Lib.hid (HT2.out.trans ht3)
  have HL3 : Hid (lenS (partS [116, 104, 101, 110] (f (kid n 1)) (partS [105, 102] (f (kid n 0)) s)) ≤ lenS (partS [105, 102] (f (kid n 0)) s) + 4 + 1 + c (kid n 1)) := len_part (w := [116, 104, 101, 110]) (s := partS [105, 102] (f (kid n 0)) s) (HC.out _ HM1.out)
  have HN3 := Lib.hid (HN2.out.turn HQ2.out ht3)
  have HTr3 : Hid (TrAt w3 B tv l) := HTr2.out.below (turn_low HQ2.out ht3)
  have e6 := HN3.out.cells.2.2.2.2.2
  have HQ3 := Lib.hid hp3
  have HM2 : Hid (kid n 2 ∈ n.ks) := kid_mem (by rw [HKs.out]; decide)
  have HLt := Lib.hid hlt
  have k3 := HN3.out.kcell (i := 2) (by rw [HKs.out]; decide)
  have HPe := Lib.hid (part_calls w3 b B tv bv3 _ l hp3 HTr3.out [101, 108, 115, 101] (kid n 2 : Int) _ _ (HK.out _ HM2.out) (by have h1 := HL.out; have h2 := HL2.out; have h3 := HL3.out; simp only [List.length_cons, List.length_nil]; omega))
  clear ht3 hp3 hlt
  go_wp2_with fail
  refine HPe.out.mono ?_
  rintro r w4 ⟨bv4, rfl, ht4, hp4⟩
  have HT4 := Lib.hid (HT3.out.trans ht4)
  have HL4 : Hid (lenS (partS [101, 108, 115, 101] (f (kid n 2)) (partS [116, 104, 101, 110] (f (kid n 1)) (partS [105, 102] (f (kid n 0)) s))) ≤ lenS (partS [116, 104, 101, 110] (f (kid n 1)) (partS [105, 102] (f (kid n 0)) s)) + 4 + 1 + c (kid n 2)) := len_part (w := [101, 108, 115, 101]) (s := partS [116, 104, 101, 110] (f (kid n 1)) (partS [105, 102] (f (kid n 0)) s)) (HC.out _ HM2.out)
  have HN4 := Lib.hid (HN3.out.turn HQ3.out ht4)
  have htr4 : TrAt w4 B tv l := HTr3.out.below (turn_low HQ3.out ht4)
  have g6 := HN4.out.cells.2.2.2.2.2
  have g3 := HN4.out.kcell (i := 2) (by rw [HKs.out]; decide)
  obtain ⟨ta, tc, htv, b1, off, hnd, hix⟩ := nodes_at htr4.row
  obtain ⟨nn, hnn⟩ : ∃ nn, l[kid n 2]? = some nn := ⟨_, List.getElem?_eq_getElem HLt.out⟩
  obtain ⟨nu, nr, nk, hnk⟩ := hnd (kid n 2) _ hnn
  have hix2 := fun w' => hix (kid n 2) w' HLt.out
  have kc := kind_cell hnk
  obtain ⟨kk, hkk⟩ : ∃ kk, nn.k = kk := ⟨_, rfl⟩
  rw [hkk] at kc
  have HKK : Hid (kdOf l (kid n 2) = kk) := by show _ = _; unfold kdOf; rw [hnn, ← hkk]; rfl
  subst htv
  obtain ⟨aa, haa⟩ := hp4.any
  have p0 := (pr_cells haa.box).1.1
  obtain ⟨L, hL⟩ : ∃ L, l.length = L := ⟨_, rfl⟩
  rw [hL] at p0 hix2
  have HQ4 := Lib.hid hp4
  have HKd := Lib.hid hkk
  have HLL := Lib.hid hL
  clear ht4 hp4 htr4 haa hnd hix hnk hkk hL hnn
  by_cases e6 : kk = 6
  · have E6 := Lib.hid e6
    have X1 : Hid (x6 = 1) := by show _ = _; rw [← HX6.out, if_pos (HKK.out.trans e6)]
    have t1 : ((kk : Int) == 6) = true := by rw [e6]; rfl
    have t2 : (kk : Int) = 6 := by rw [e6]; rfl
    have t3 : decide ((kk : Int) = 6) = true := decide_eq_true t2
    clear e6
    go_upto_region 5 with fail
    go_region
    all_goals
      obtain ⟨w5, hw5⟩ : ∃ w5, w4.drew = w5 := ⟨_, rfl⟩
      have HB5 : Hid (Below w4.heap.size w4 w5) := by show Below _ _ _; rw [← hw5]; exact Below.drew (Below.refl _ _)
      have HT5 : Hid (Sx.Turn b bv W bv4 w5) := HT4.out.trans (Sx.Turn.of_below HB5.out)
      have HQ5 : Hid (Pr w5 b B _ bv4 _) := HQ4.out.below HB5.out
      rw [hw5]
      clear hw5
      have HLi := Lib.hid (line_calls w5 b B _ bv4 _ HQ5.out (by have h0 := X1.out; have h1 := HL.out; have h2 := HL2.out; have h3 := HL3.out; have h4 := HL4.out; omega))
      go_wp2_with fail
      refine HLi.out.mono ?_
      rintro r w6 ⟨bv6, rfl, ht6, hp6⟩
      have HT6 := Lib.hid (HT5.out.trans ht6)
      have HPu := Lib.hid (put1_new w6 b B _ bv6 _ hp6 [102, 105] (by have h0 := X1.out; have h1 := HL.out; have h2 := HL2.out; have h3 := HL3.out; have h4 := HL4.out; have h5 := fst_le (lnS (partS [101, 108, 115, 101] (f (kid n 2)) (partS [116, 104, 101, 110] (f (kid n 1)) (partS [105, 102] (f (kid n 0)) s)))); have h6 := len_ln (partS [101, 108, 115, 101] (f (kid n 2)) (partS [116, 104, 101, 110] (f (kid n 1)) (partS [105, 102] (f (kid n 0)) s))); simp only [List.length_cons, List.length_nil] at *; omega))
      clear ht6 hp6
      go_wp2_with fail
      refine HPu.out.mono ?_
      rintro r w7 ⟨bv7, rfl, ht7, hp7⟩
      go_wp2
      go_end0
      refine ⟨bv7, rfl, HT6.out.trans ht7, ?_⟩
      unfold asksS
      simp only
      rw [if_pos (by rw [HKs.out]; decide), if_pos (HKK.out.trans E6.out)]
      exact hp7
  · have E6 := Lib.hid e6
    have t2 : ¬ ((kk : Int) = 6) := fun h => e6 (by omega)
    have t1 : ((kk : Int) == 6) = false := beq_eq_false_iff_ne.2 t2
    have t3 : decide ((kk : Int) = 6) = false := decide_eq_false t2
    clear e6
    go_upto_region 5 with fail
    go_region
    all_goals
      obtain ⟨w5, hw5⟩ : ∃ w5, w4.drew = w5 := ⟨_, rfl⟩
      have HB5 : Hid (Below w4.heap.size w4 w5) := by show Below _ _ _; rw [← hw5]; exact Below.drew (Below.refl _ _)
      have HT5 : Hid (Sx.Turn b bv W bv4 w5) := HT4.out.trans (Sx.Turn.of_below HB5.out)
      have HQ5 : Hid (Pr w5 b B _ bv4 _) := HQ4.out.below HB5.out
      rw [hw5]
      clear hw5
      have HPu := Lib.hid (put1_new w5 b B _ bv4 _ HQ5.out [102, 105] (by have h1 := HL.out; have h2 := HL2.out; have h3 := HL3.out; have h4 := HL4.out; have h5 := fst_le (partS [101, 108, 115, 101] (f (kid n 2)) (partS [116, 104, 101, 110] (f (kid n 1)) (partS [105, 102] (f (kid n 0)) s))); simp only [List.length_cons, List.length_nil] at *; omega))
      go_wp2_with fail
      refine HPu.out.mono ?_
      rintro r w7 ⟨bv7, rfl, ht7, hp7⟩
      go_wp2
      go_end0
      refine ⟨bv7, rfl, HT5.out.trans ht7, ?_⟩
      unfold asksS
      simp only
      rw [if_pos (by rw [HKs.out]; decide), if_neg (fun h => E6.out (HKK.out.symm.trans h))]
      exact hp7
end Go.Proofs.YtiklkhbfilbpeaaGreatDoor.Ux
set_option linter.unusedVariables false
set_option linter.unusedSimpArgs false
set_option maxRecDepth 100000
namespace Go.Proofs.YtiklkhbfilbpeaaGreatDoor.Ux
open Go.RowKit Base Lx Sy Sx Un
theorem below_own {B : Nat} {W W' : World} {q : Nat} (h : W.grownBy W' (some q)) (hB : B ≤ W.heap.size) (hq : B ≤ q) : Below B W W' := ⟨h.os, h.tape, h.output, h.size, fun k hk => h.block k (by omega) (fun e => by injection e with e; omega)⟩
set_option maxHeartbeats 2000000 in
theorem each_all_calls (W : World) (b B : Nat) (tv bv : Value) (s : PS) (l : List Nd) (h : Pr W b B tv bv s) (ht : TrAt W B tv l) (n : Nd) (uw ur uk : Value) (hr : Sx.Rows W (fun g => g < B) n uw ur uk) (hks : n.ks.length = 1) (hfl : n.fl = true) (hw : n.ws.length ≤ 100000) (f : Nat → PS → PS) (c : Nat → Nat) (hk : ∀ k ∈ n.ks, KidC l b B tv (k : Int) (f k) (c k)) (hc : ∀ k ∈ n.ks, ∀ s, lenS (f k s) ≤ lenS s + c k) (hl : lenS s + (4 + n.t.length + 1 + (2 + 1) + 4 + c (kid n 0)) ≤ big) :
    Calls Tryz.prog 33 #[.pointer (some ⟨b, 0, none⟩), ndV n uw ur uk] W fun r W' => Post W b B tv bv (eachS f n s) r W' := by
  obtain ⟨w1, N, hal, hN, HX⟩ := nd_box h ht hr
  obtain ⟨g, cc, huk, k0⟩ := HX.out.2.2.2.kid (i := 0) (by omega)
  rw [hks] at huk
  subst huk
  obtain ⟨c0, c1, c2, c3, c5, c6⟩ := HX.out.2.2.2.cells
  have HM0 : Hid (kid n 0 ∈ n.ks) := kid_mem (by omega)
  have HK := Lib.hid hk
  have HC := Lib.hid hc
  have HL := Lib.hid hl
  have HKs := Lib.hid hks
  have HW := Lib.hid hw
  have HFl := Lib.hid hfl
  have hps : putsS [[102, 111, 114, 32], n.t] s = putS ([102, 111, 114, 32] ++ n.t) s := by simp [putsS, putS]
  have hput := put_new w1 b B tv bv s HX.out.2.1 2 [[102, 111, 114, 32], n.t] (by have := fst_le s; simp only [List.flatten_cons, List.flatten_nil, List.length_append, List.length_cons, List.length_nil]; omega) (by simp)
  rw [hps] at hput
  have HP := Lib.hid hput
  have HLo : Hid (eachS f n s = putS [100, 111, 110, 101] (partS [100, 111] (f (kid n 0)) (lnS (putS ([102, 111, 114, 32] ++ n.t) s)))) := by show _ = _; unfold eachS; simp only; rw [hfl]; rfl
  rw [hfl] at c2 hal
  unfold ndV
  rw [hfl]
  clear h ht hr hk hl hc hks hput hps hw hfl
  go_enter Tryz.func33, Tryz.ntmps33
  go_wp2_with fail
  refine HP.out.mono ?_
  rintro r w2 ⟨bv2, rfl, ht2, hp2⟩
  have HTa := Lib.hid ht2
  have HTw : Hid (Sx.Turn b bv W bv2 w2) := (Sx.Turn.of_below HX.out.1).trans ht2
  have HNw := Lib.hid (HX.out.2.2.2.turn HX.out.2.1 ht2)
  have HQa := Lib.hid hp2
  have d2 := HNw.out.cells.2.2.1
  rw [HFl.out] at d2
  have d3 := HNw.out.cells.2.2.2.1
  have hlp := len_put ([102, 111, 114, 32] ++ n.t) s
  simp only [List.length_append, List.length_cons, List.length_nil] at hlp
  have HLp := Lib.hid hlp
  clear ht2 hp2 hlp
  have HLa : Hid (lenS (putS ([102, 111, 114, 32] ++ n.t) s) + (1 + (2 + 1) + 4 + c (kid n 0)) ≤ big) := by show _ ≤ _; have h1 := HL.out; have h2 := HLp.out; omega
  have HN2 := Lib.hid (HX.out.2.2.2.turn HX.out.2.1 HTa.out)
  have HLi := Lib.hid (line_calls w2 b B tv bv2 _ HQa.out (by have h1 := HLa.out; omega))
  go_wp2_with fail
  refine HLi.out.mono ?_
  rintro r w6 ⟨bv6, rfl, ht6, hp6⟩
  have HT6 := Lib.hid (HTw.out.trans ht6)
  have HN6 := Lib.hid (HN2.out.turn HQa.out ht6)
  have HTr6 : Hid (TrAt w6 B tv l) := (HX.out.2.2.1.below (turn_low HX.out.2.1 HTa.out)).below (turn_low HQa.out ht6)
  have d6 := HN6.out.cells.2.2.2.2.2
  have k2 := HN6.out.kcell (i := 0) (by rw [HKs.out]; decide)
  have HPd := Lib.hid (part_calls w6 b B tv bv6 _ l hp6 HTr6.out [100, 111] (kid n 0 : Int) _ _ (HK.out _ HM0.out) (by have h1 := HLa.out; rw [len_ln]; simp only [List.length_cons, List.length_nil]; omega))
  clear ht6 hp6
  go_wp2_with fail
  refine HPd.out.mono ?_
  rintro r w7 ⟨bv7, rfl, ht7, hp7⟩
  have HT7 := Lib.hid (HT6.out.trans ht7)
  have HPz := Lib.hid (put1_new w7 b B tv bv7 _ hp7 [100, 111, 110, 101] (by have h1 := HLa.out; have h3 := len_part (w := [100, 111]) (s := lnS (putS ([102, 111, 114, 32] ++ n.t) s)) (HC.out _ HM0.out); have h4 := fst_le (partS [100, 111] (f (kid n 0)) (lnS (putS ([102, 111, 114, 32] ++ n.t) s))); have h5 := len_ln (putS ([102, 111, 114, 32] ++ n.t) s); simp only [List.length_cons, List.length_nil] at *; omega))
  clear ht7 hp7
  go_wp2_with fail
  refine HPz.out.mono ?_
  rintro r w8 ⟨bv8, rfl, ht8, hp8⟩
  go_wp2
  go_end0
  refine ⟨bv8, rfl, HT7.out.trans ht8, ?_⟩
  rw [HLo.out]
  exact hp8
set_option maxHeartbeats 2000000 in
theorem each_in_calls (W : World) (b B : Nat) (tv bv : Value) (s : PS) (l : List Nd) (h : Pr W b B tv bv s) (ht : TrAt W B tv l) (n : Nd) (uw ur uk : Value) (hr : Sx.Rows W (fun g => g < B) n uw ur uk) (hks : n.ks.length = 1) (hfl : n.fl = false) (hw : n.ws.length ≤ 100000) (f : Nat → PS → PS) (c : Nat → Nat) (hk : ∀ k ∈ n.ks, KidC l b B tv (k : Int) (f k) (c k)) (hc : ∀ k ∈ n.ks, ∀ s, lenS (f k s) ≤ lenS s + c k) (hl : lenS s + (4 + n.t.length + (Lib.join ([32, 105, 110] :: n.ws) [32]).length + 1 + (2 + 1) + 4 + c (kid n 0)) ≤ big) :
    Calls Tryz.prog 33 #[.pointer (some ⟨b, 0, none⟩), ndV n uw ur uk] W fun r W' => Post W b B tv bv (eachS f n s) r W' := by
  obtain ⟨w1, N, hal, hN, HX⟩ := nd_box h ht hr
  obtain ⟨g, cc, huk, k0⟩ := HX.out.2.2.2.kid (i := 0) (by omega)
  rw [hks] at huk
  subst huk
  obtain ⟨c0, c1, c2, c3, c5, c6⟩ := HX.out.2.2.2.cells
  have HM0 : Hid (kid n 0 ∈ n.ks) := kid_mem (by omega)
  have HK := Lib.hid hk
  have HC := Lib.hid hc
  have HL := Lib.hid hl
  have HKs := Lib.hid hks
  have HW := Lib.hid hw
  have HFl := Lib.hid hfl
  have hps : putsS [[102, 111, 114, 32], n.t] s = putS ([102, 111, 114, 32] ++ n.t) s := by simp [putsS, putS]
  have hput := put_new w1 b B tv bv s HX.out.2.1 2 [[102, 111, 114, 32], n.t] (by have := fst_le s; simp only [List.flatten_cons, List.flatten_nil, List.length_append, List.length_cons, List.length_nil]; omega) (by simp)
  rw [hps] at hput
  have HP := Lib.hid hput
  have HLo : Hid (eachS f n s = putS [100, 111, 110, 101] (partS [100, 111] (f (kid n 0)) (lnS (putS (Lib.join ([32, 105, 110] :: n.ws) [32]) (putS ([102, 111, 114, 32] ++ n.t) s))))) := by show _ = _; unfold eachS; simp only; rw [hfl]; rfl
  rw [hfl] at c2 hal
  unfold ndV
  rw [hfl]
  clear h ht hr hk hl hc hks hput hps hw hfl
  go_enter Tryz.func33, Tryz.ntmps33
  go_wp2_with fail
  refine HP.out.mono ?_
  rintro r w2 ⟨bv2, rfl, ht2, hp2⟩
  have HTa := Lib.hid ht2
  have HTw : Hid (Sx.Turn b bv W bv2 w2) := (Sx.Turn.of_below HX.out.1).trans ht2
  have HNw := Lib.hid (HX.out.2.2.2.turn HX.out.2.1 ht2)
  have HQa := Lib.hid hp2
  have d2 := HNw.out.cells.2.2.1
  rw [HFl.out] at d2
  have d3 := HNw.out.cells.2.2.2.1
  have hlp := len_put ([102, 111, 114, 32] ++ n.t) s
  simp only [List.length_append, List.length_cons, List.length_nil] at hlp
  have HLp := Lib.hid hlp
  clear ht2 hp2 hlp
  obtain ⟨w3, N3, hal3, hN3, hb3, hbn3, hs3⟩ := new_blk w2 #[.string ⟨#[32, 105, 110]⟩] stT
  have hown3 : w3.ownsRow N3 stT 1 (.slice (some ⟨N3, 0, none⟩) 1 1) 1 [sv [32, 105, 110]] := by
    have := World.ownsRow_lit (base := N3) (size := 1) (e := stT) w2 #[.string ⟨#[32, 105, 110]⟩] 1 (by omega) (by decide) (by decide)
    rw [hN3, hal3] at this
    exact this
  have HN3w := Lib.hid (HNw.out.below (by rw [hN3]; exact hbn3))
  have e3 := HN3w.out.cells.2.2.2.1
  obtain ⟨wa, wc, huw, hrow⟩ := ownsRow_row (R := fun w b o (n : Nm) => w.cell? ⟨b, o, none⟩ = some (.string (str n))) HN3w.out.rows.w (fun _ _ _ h => h)
  have hsrc : Base.Src Tryz.prog w3 1 (.slice wa n.ws.length wc) n.ws.length (n.ws.map sv) := src_row hrow sv (fun _ => rfl) (fun _ _ _ h => h)
  subst huw
  obtain ⟨m, hm⟩ : ∃ m, n.ws.length = m := ⟨_, rfl⟩
  rw [hm] at e3 hsrc d3
  have HWm := Lib.hid hm
  have HSrc := Lib.hid hsrc
  have HOwn := Lib.hid hown3
  have hm2 : m ≤ 100000 := by have := HW.out; omega
  have HB3 : Hid (Below w2.heap.size w2 w3) := by show Below _ _ _; rw [hN3]; exact hbn3
  have HS3 : Hid (N3 = w2.heap.size ∧ w3.heap.size = N3 + 1) := ⟨hN3.symm, hs3⟩
  obtain ⟨i0, hi, hz0, hz1, hz2⟩ := info_parts info_st
  clear hrow hsrc hown3 hb3 hbn3 hs3 hm
  go_wp2_with (at_builtin; refine Ap.wpList_append_at rfl _ _ 33 33 rfl N3 stT i0 (.string ⟨#[]⟩) 1 16 Tryz.underlying33 ⟨_, Tryz.underlying33, fun k => by simp⟩ hi hz0 hz1 hz2 rfl (by decide) (by decide) _ _ _ rfl HOwn.out _ _ _ rfl HSrc.out ?c3 ?c4 ?c5 ?_)
  case c3 => unfold maxLen; omega
  case c4 => omega
  case c5 => have := HS3.out.2; omega
  intro v' w4 hown4 hgr4 hat4
  have HB4 : Hid (Below w2.heap.size w2 w4) := HB3.out.trans (below_own (q := N3) hgr4 (by have := HS3.out; omega) (by have := HS3.out; omega))
  have hown4 : w4.ownsRow N3 stT 1 v' ([32, 105, 110] :: n.ws).length (([32, 105, 110] :: n.ws).map sv) := by
    have : 1 + m = ([32, 105, 110] :: n.ws).length := by rw [List.length_cons, HWm.out]; omega
    rw [← this]
    exact hown4
  obtain ⟨J, hJ⟩ : ∃ J, Lib.join ([32, 105, 110] :: n.ws) [32] = J := ⟨_, rfl⟩
  have HJl : Hid (lenS s + (4 + n.t.length + J.length + 1 + (2 + 1) + 4 + c (kid n 0)) ≤ big) := by show _ ≤ _; rw [← hJ]; exact HL.out
  have hjc := joins_calls w4 v' ([32, 105, 110] :: n.ws) [32] (txts_of hown4) (by rw [List.length_cons, HWm.out]; unfold big; omega) (by rw [hJ]; have := HJl.out; omega)
  rw [hJ] at hjc
  have HJc := Lib.hid hjc
  have HJ := Lib.hid hJ
  clear hown4 hgr4 hat4 hjc hJ
  go_wp2_with fail
  refine HJc.out.mono ?_
  rintro r w5 ⟨rfl, hb5⟩
  have HB5 : Hid (Below w2.heap.size w2 w5) := HB4.out.trans (hb5.mono HB4.out.size)
  have HQ5 : Hid (Pr w5 b B tv bv2 (putS ([102, 111, 114, 32] ++ n.t) s)) := HQa.out.below HB5.out
  have HPj := Lib.hid (put1_new w5 b B tv bv2 _ HQ5.out J (by have h1 := HJl.out; have h2 := HLp.out; have h3 := fst_le (putS ([102, 111, 114, 32] ++ n.t) s); omega))
  clear hb5
  go_wp2_with fail
  refine HPj.out.mono ?_
  rintro r w9 ⟨bv9, rfl, ht9, hp9⟩
  have HTb : Hid (Sx.Turn b bv2 w2 bv9 w9) := (Sx.Turn.of_below HB5.out).trans ht9
  have HTa : Hid (Sx.Turn b bv w1 bv9 w9) := HTa.out.trans HTb.out
  have HTw : Hid (Sx.Turn b bv W bv9 w9) := HTw.out.trans HTb.out
  have HQa := Lib.hid hp9
  have HLj := Lib.hid (len_put J (putS ([102, 111, 114, 32] ++ n.t) s))
  have HLa : Hid (lenS (putS J (putS ([102, 111, 114, 32] ++ n.t) s)) + (1 + (2 + 1) + 4 + c (kid n 0)) ≤ big) := by show _ ≤ _; have h1 := HJl.out; have h2 := HLp.out; have h3 := HLj.out; omega
  have HLo : Hid (eachS f n s = putS [100, 111, 110, 101] (partS [100, 111] (f (kid n 0)) (lnS (putS J (putS ([102, 111, 114, 32] ++ n.t) s))))) := by show _ = _; rw [HLo.out, HJ.out]
  clear ht9 hp9 e3 d3 d2
  have HN2 := Lib.hid (HX.out.2.2.2.turn HX.out.2.1 HTa.out)
  have HLi := Lib.hid (line_calls w9 b B tv bv9 _ HQa.out (by have h1 := HLa.out; omega))
  go_wp2_with fail
  refine HLi.out.mono ?_
  rintro r w6 ⟨bv6, rfl, ht6, hp6⟩
  have HT6 := Lib.hid (HTw.out.trans ht6)
  have HN6 := Lib.hid (HN2.out.turn HQa.out ht6)
  have HTr6 : Hid (TrAt w6 B tv l) := (HX.out.2.2.1.below (turn_low HX.out.2.1 HTa.out)).below (turn_low HQa.out ht6)
  have d6 := HN6.out.cells.2.2.2.2.2
  have k2 := HN6.out.kcell (i := 0) (by rw [HKs.out]; decide)
  have HPd := Lib.hid (part_calls w6 b B tv bv6 _ l hp6 HTr6.out [100, 111] (kid n 0 : Int) _ _ (HK.out _ HM0.out) (by have h1 := HLa.out; rw [len_ln]; simp only [List.length_cons, List.length_nil]; omega))
  clear ht6 hp6
  go_wp2_with fail
  refine HPd.out.mono ?_
  rintro r w7 ⟨bv7, rfl, ht7, hp7⟩
  have HT7 := Lib.hid (HT6.out.trans ht7)
  have HPz := Lib.hid (put1_new w7 b B tv bv7 _ hp7 [100, 111, 110, 101] (by have h1 := HLa.out; have h3 := len_part (w := [100, 111]) (s := lnS (putS J (putS ([102, 111, 114, 32] ++ n.t) s))) (HC.out _ HM0.out); have h4 := fst_le (partS [100, 111] (f (kid n 0)) (lnS (putS J (putS ([102, 111, 114, 32] ++ n.t) s)))); have h5 := len_ln (putS J (putS ([102, 111, 114, 32] ++ n.t) s)); simp only [List.length_cons, List.length_nil] at *; omega))
  clear ht7 hp7
  go_wp2_with fail
  refine HPz.out.mono ?_
  rintro r w8 ⟨bv8, rfl, ht8, hp8⟩
  go_wp2
  go_end0
  refine ⟨bv8, rfl, HT7.out.trans ht8, ?_⟩
  rw [HLo.out]
  exact hp8
end Go.Proofs.YtiklkhbfilbpeaaGreatDoor.Ux
set_option linter.unusedVariables false
set_option linter.unusedSimpArgs false
set_option maxRecDepth 100000
namespace Go.Proofs.YtiklkhbfilbpeaaGreatDoor.Ux
open Go.RowKit Base Lx Sy Sx Un
theorem idx_rd {g n c : Nat} (j : Nat) (hj : j < n) (w' : World) : (Instr.indexAt 34 (.slice (some ⟨g, 0, none⟩) n c) (.int .i64 (j : Int))).run Tryz.prog w' = .ok (.pointer (some ⟨g, j * 4, none⟩)) w' := by
  obtain ⟨i, hi, _, hs, _⟩ := info_parts info_rr
  have he : Tryz.prog.elem 34 = rrT := by simp [Program.elem, Tryz.underlying34]
  rw [run_indexAt_slice w' 34 _ n c .i64 j (by rw [he]; exact Tryz.underlying34), if_pos ⟨by omega, by omega⟩, he]
  simp [sizeOf, typeInfo, hi, hs, Result.andThen, Addr.add_lit]
/-- A row of redirections. -/
def RdsAt (W : World) (B : Nat) (u : Value) (rs : List Rdr) : Prop := ∃ a c, u = .slice a rs.length c ∧ ∀ (j : Nat) (x : Rdr), rs[j]? = some x → ∃ g, a = some ⟨g, 0, none⟩ ∧ g < B ∧ (W.cell? ⟨g, j * 4, none⟩ = some (.int .i64 (x.fd : Int)) ∧ W.cell? ⟨g, j * 4 + 1, none⟩ = some (.string (str x.o)) ∧ W.cell? ⟨g, j * 4 + 2, none⟩ = some (.string (str x.w)) ∧ W.cell? ⟨g, j * 4 + 3, none⟩ = some (.string (str x.b)))
theorem cell_same {W W' : World} {g o : Nat} {v : Value} (h : W.cell? ⟨g, o, none⟩ = some v) (hb : W'.heap[g]? = W.heap[g]?) : W'.cell? ⟨g, o, none⟩ = some v := by
  unfold World.cell? at h ⊢
  rw [hb]
  exact h
theorem RdsAt.below {W W' : World} {B : Nat} {u : Value} {rs : List Rdr} (h : RdsAt W B u rs) (hb : Below B W W') : RdsAt W' B u rs := by
  obtain ⟨a, c, h1, h2⟩ := h
  refine ⟨a, c, h1, fun j x hj => ?_⟩
  obtain ⟨g, h3, h4, h5, h6, h7, h8⟩ := h2 j x hj
  have := hb.block g h4
  exact ⟨g, h3, h4, cell_same h5 this, cell_same h6 this, cell_same h7 this, cell_same h8 this⟩
theorem rds_of {W : World} {B : Nat} {u : Value} {rs : List Rdr} (h : W.ownsRow 0 rrT 4 u rs.length (rs.flatMap rrC)) (hq : ∀ g, u.ownBlock = some g → g < B) : RdsAt W B u rs := by
  rcases h.2 with ⟨hv, h0⟩ | ⟨g, cap, cur, hv, _, _, _, _, _, _⟩
  · refine ⟨none, 0, by rw [hv, h0], fun j x hj => ?_⟩
    have hn : rs = [] := List.eq_nil_of_length_eq_zero h0
    rw [hn] at hj
    cases hj
  · refine ⟨some ⟨g, 0, none⟩, cap, hv, fun j x hj => ⟨g, rfl, hq g (by rw [hv]; rfl), ?_⟩⟩
    have key : ∀ (i : Nat) (v : Value), (rrC x)[i]? = some v → W.cell? ⟨g, j * 4 + i, none⟩ = some v := fun i v hv2 => by
      have := h.cells (g := g) (by rw [hv]; rfl) (j * 4 + i) v (Ap.flat_at rrC_len rs j x hj i v hv2)
      simpa [Addr.add_lit] using this
    exact ⟨key 0 _ rfl, key 1 _ rfl, key 2 _ rfl, key 3 _ rfl⟩
theorem rr_box {W : World} {x : Rdr} {M : Nat} {wn : World} (h : W.alloc (.cells #[.int .i64 (x.fd : Int), .string (str x.o), .string (str x.w), .string (str x.b)] rrT) = wn) (hM : W.heap.size = M) : wn.heap[M]? = some (.cells (rrC x).toArray rrT) := by
  rw [← h, ← hM]; exact heap_alloc_new _ _
set_option maxHeartbeats 2000000 in
theorem simple_calls (W : World) (b B : Nat) (tv bv : Value) (s : PS) (l : List Nd) (h : Pr W b B tv bv s) (ht : TrAt W B tv l) (n : Nd) (uw ur uk : Value) (hr : Sx.Rows W (fun g => g < B) n uw ur uk) (hrs : n.rs.length ≤ 100000) (hws : n.ws.length ≤ 100000) (hrd : ∀ x ∈ n.rs, x.fd ≤ 99 ∧ x.w.length ≤ 100000) (hl : lenS s + accL.simC n ≤ big) :
    Calls Tryz.prog 26 #[.pointer (some ⟨b, 0, none⟩), ndV n uw ur uk] W fun r W' => Post W b B tv bv (Un.simS n s) r W' := by
  obtain ⟨w1, N, hal, hN, HX⟩ := nd_box h ht hr
  obtain ⟨c0, c1, c2, c3, c5, c6⟩ := HX.out.2.2.2.cells
  have hRs := rds_of HX.out.2.2.2.rows.r HX.out.2.2.2.rows.qr
  have HRs := Lib.hid hRs
  obtain ⟨ra, rc, hur, _⟩ := hRs
  obtain ⟨R, hR⟩ : ∃ R, n.rs.length = R := ⟨_, rfl⟩
  rw [hR] at hur
  subst hur
  have HCs : Hid (∀ W', Below B w1 W' → ∀ (j : Nat) (x : Rdr), n.rs[j]? = some x → ∃ g, ra = some ⟨g, 0, none⟩ ∧ g < B ∧ (W'.cell? ⟨g, j * 4, none⟩ = some (.int .i64 (x.fd : Int)) ∧ W'.cell? ⟨g, j * 4 + 1, none⟩ = some (.string (str x.o)) ∧ W'.cell? ⟨g, j * 4 + 2, none⟩ = some (.string (str x.w)) ∧ W'.cell? ⟨g, j * 4 + 3, none⟩ = some (.string (str x.b)))) := fun W' hb j x hj => by
    obtain ⟨a', c', h1, h2⟩ := HRs.out.below hb
    rw [hR] at h1
    injection h1 with h1
    subst h1
    exact h2 j x hj
  have HR := Lib.hid hR
  have hr1 : R ≤ 100000 := by omega
  have HRd := Lib.hid hrd
  have HL := Lib.hid hl
  have HWs := Lib.hid hws
  unfold ndV
  clear h ht hr hrs hws hrd hl hR HRs
  go_enter Tryz.func26, Tryz.ntmps26
  go_wp2_with fail
  go_loopw [9] (fun v9 wr => ∃ (i : Nat) (bv' : Value) (s' : PS), i ≤ R ∧ v9 = .int .i64 (i : Int) ∧ Sx.Turn b bv w1 bv' wr ∧ Pr wr b B tv bv' s' ∧ (i = 0 → s' = s) ∧ (0 < i → redsS n.rs s = tailS (n.rs.drop i) s' ∧ lenS s' + accL.tailC (n.rs.drop i) ≤ big)) (fun v9 _ => R - nOf v9)
  case atStart => exact ⟨0, bv, s, Nat.zero_le _, rfl, Sx.Turn.refl _ _ _, HX.out.2.1, fun _ => rfl, fun h => absurd h (Nat.lt_irrefl 0)⟩
  case round =>
    obtain ⟨i, bv', s', hi, rfl, hT, hP, h0, h1⟩ := hrel
    have HT := Lib.hid hT
    have HP := Lib.hid hP
    have H0 := Lib.hid h0
    have H1 := Lib.hid h1
    clear hT hP h0 h1
    by_cases hin : i < R
    case neg =>
      obtain rfl : i = R := by omega
      have a3 : decide (i < i) = false := decide_eq_false (by omega)
      have a1 : decide ((i : Int) < (i : Int)) = false := decide_eq_false (by omega)
      have a2 : ¬ ((i : Int) < (i : Int)) := by omega
      have HE : Hid (redsS n.rs s = s') := by
        by_cases hz : i = 0
        · have hrs : n.rs = [] := List.eq_nil_of_length_eq_zero (by have := HR.out; omega)
          rw [H0.out hz, hrs]; exact rfl
        · show _ = _
          rw [(H1.out (by omega)).1, List.drop_of_length_le (by rw [HR.out]; exact Nat.le_refl _)]
          rfl
      have HLe : Hid (lenS s' + ((if 0 < n.rs.length ∧ 0 < n.ws.length then 1 else 0) + (Lib.join n.ws [32]).length) ≤ big) := by
        show _ ≤ _
        have h1 := HL.out
        have h2 : lenS (redsS n.rs s) ≤ lenS s + accL.redsC n.rs := accL.reds n.rs s
        rw [HE.out] at h2
        unfold Acc.simC at h1
        have h3 : ∀ t, accL.p t = t.length := fun _ => rfl
        rw [h3, h3] at h1
        have h4 : ([32] : Nm).length = 1 := rfl
        rw [h4] at h1
        omega
      have HNr := Lib.hid (HX.out.2.2.2.turn HX.out.2.1 HT.out)
      have d5 := HNr.out.cells.2.2.2.2.1
      have d3 := HNr.out.cells.2.2.2.1
      obtain ⟨wa, wc, huw, _⟩ := ownsRow_row (R := fun w b o (n : Nm) => w.cell? ⟨b, o, none⟩ = some (.string (str n))) HNr.out.rows.w (fun _ _ _ h => h)
      obtain ⟨m, hm⟩ : ∃ m, n.ws.length = m := ⟨_, rfl⟩
      rw [hm] at huw
      subst huw
      have HM := Lib.hid hm
      have HRi : Hid (n.rs.length = i) := HR.out
      clear hm
      by_cases hr0 : 0 < i ∧ 0 < m
      · obtain ⟨hr0, hw0⟩ := hr0
        have HC : Hid (0 < n.rs.length ∧ 0 < n.ws.length) := ⟨by rw [HRi.out]; exact hr0, by rw [HM.out]; exact hw0⟩
        have d1 : decide ((0 : Int) < (i : Int)) = true := decide_eq_true (by omega)
        have d2 : (0 : Int) < (i : Int) := by omega
        have f1 : decide ((0 : Int) < (m : Int)) = true := decide_eq_true (by omega)
        have f2 : (0 : Int) < (m : Int) := by omega
        have HLf : Hid (lenS s' + (1 + (Lib.join n.ws [32]).length) ≤ big) := by show _ ≤ _; have := HLe.out; rw [if_pos HC.out] at this; exact this
        have HPu := Lib.hid (put1_new wr b B tv bv' s' HP.out [32] (by have := HLf.out; have := fst_le s'; simp only [List.length_cons, List.length_nil]; omega))
        go_wp2_with fail
        refine HPu.out.mono ?_
        rintro r w2 ⟨bv2, rfl, ht2, hp2⟩
        have HT2 := Lib.hid (HT.out.trans ht2)
        have HN2 := Lib.hid (HNr.out.turn HP.out ht2)
        have HP2 := Lib.hid hp2
        have HL2 := Lib.hid (len_put [32] s')
        clear ht2 hp2 d5 d3
        have d3 := HN2.out.cells.2.2.2.1
        have hjc := joins_calls w2 _ n.ws [32] (txts_of HN2.out.rows.w) (by have := HWs.out; unfold big; omega) (by have := HLe.out; omega)
        obtain ⟨J, hJ⟩ : ∃ J, Lib.join n.ws [32] = J := ⟨_, rfl⟩
        rw [hJ] at hjc
        have HJc := Lib.hid hjc
        have HJ := Lib.hid hJ
        clear hjc hJ
        go_wp2_with fail
        refine HJc.out.mono ?_
        rintro r w4 ⟨rfl, hb4⟩
        have HB4 := Lib.hid hb4
        have HPj := Lib.hid (put1_new w4 b B tv bv2 (putS [32] s') (HP2.out.below hb4) J (by rw [← HJ.out]; have h9 := fst_le (putS [32] s'); have h1 := HLf.out; have h2 := HL2.out; simp only [List.length_cons, List.length_nil] at h2; omega))
        clear hb4
        go_wp2_with fail
        refine HPj.out.mono ?_
        rintro r w5 ⟨bv5, rfl, ht5, hp5⟩
        go_wp2
        go_end0
        refine ⟨bv5, rfl, (Sx.Turn.of_below HX.out.1).trans ((HT2.out.trans (Sx.Turn.of_below HB4.out)).trans ht5), ?_⟩
        rw [← HJ.out] at hp5
        unfold Un.simS
        simp only
        rw [if_pos HC.out, HE.out]
        exact hp5
      · have HC : Hid (¬ (0 < n.rs.length ∧ 0 < n.ws.length)) := by show ¬ _; rw [HRi.out, HM.out]; exact hr0
        have HLf : Hid (lenS s' + (Lib.join n.ws [32]).length ≤ big) := by show _ ≤ _; have := HLe.out; omega
        have fin : ∀ {Z : PS}, Z = putS (Lib.join n.ws [32]) s' → Z = Un.simS n s := fun h => by
          rw [h]
          unfold Un.simS
          simp only
          rw [if_neg HC.out, HE.out]
        have HFin := Lib.hid (fin rfl)
        clear fin
        by_cases hr1 : 0 < i
        · have d1 : decide ((0 : Int) < (i : Int)) = true := decide_eq_true (by omega)
          have d2 : (0 : Int) < (i : Int) := by omega
          have hm0 : m = 0 := by
            rcases Nat.eq_zero_or_pos m with h | h
            · exact h
            · exact absurd ⟨hr1, h⟩ hr0
          subst hm0
          clear hr0
          have hjc := joins_calls wr _ n.ws [32] (txts_of HNr.out.rows.w) (by have := HWs.out; unfold big; omega) (by have := HLe.out; omega)
          obtain ⟨J, hJ⟩ : ∃ J, Lib.join n.ws [32] = J := ⟨_, rfl⟩
          rw [hJ] at hjc
          have HJc := Lib.hid hjc
          have HJ := Lib.hid hJ
          clear hjc hJ
          go_wp2_with fail
          refine HJc.out.mono ?_
          rintro r w4 ⟨rfl, hb4⟩
          have HB4 := Lib.hid hb4
          have HPj := Lib.hid (put1_new w4 b B tv bv' s' (HP.out.below hb4) J (by rw [← HJ.out]; have h9 := fst_le s'; have h1 := HLf.out; omega))
          clear hb4
          go_wp2_with fail
          refine HPj.out.mono ?_
          rintro r w5 ⟨bv5, rfl, ht5, hp5⟩
          go_wp2
          go_end0
          refine ⟨bv5, rfl, (Sx.Turn.of_below HX.out.1).trans ((HT.out.trans (Sx.Turn.of_below HB4.out)).trans ht5), ?_⟩
          rw [← HJ.out] at hp5
          rw [← HFin.out]
          exact hp5
        · obtain rfl : i = 0 := by omega
          clear hr0 hr1
          have hjc := joins_calls wr _ n.ws [32] (txts_of HNr.out.rows.w) (by have := HWs.out; unfold big; omega) (by have := HLe.out; omega)
          obtain ⟨J, hJ⟩ : ∃ J, Lib.join n.ws [32] = J := ⟨_, rfl⟩
          rw [hJ] at hjc
          have HJc := Lib.hid hjc
          have HJ := Lib.hid hJ
          clear hjc hJ
          go_wp2_with fail
          refine HJc.out.mono ?_
          rintro r w4 ⟨rfl, hb4⟩
          have HB4 := Lib.hid hb4
          have HPj := Lib.hid (put1_new w4 b B tv bv' s' (HP.out.below hb4) J (by rw [← HJ.out]; have h9 := fst_le s'; have h1 := HLf.out; omega))
          clear hb4
          go_wp2_with fail
          refine HPj.out.mono ?_
          rintro r w5 ⟨bv5, rfl, ht5, hp5⟩
          go_wp2
          go_end0
          refine ⟨bv5, rfl, (Sx.Turn.of_below HX.out.1).trans ((HT.out.trans (Sx.Turn.of_below HB4.out)).trans ht5), ?_⟩
          rw [← HJ.out] at hp5
          rw [← HFin.out]
          exact hp5
    obtain ⟨x, hx⟩ : ∃ x, n.rs[i]? = some x := ⟨_, List.getElem?_eq_getElem (by have := HR.out; omega)⟩
    obtain ⟨g, hra, hgB, x0, x1, x2, x3⟩ := HCs.out wr (turn_low HX.out.2.1 HT.out) i x hx
    have HXi := Lib.hid hx
    have HMem : Hid (x ∈ n.rs) := List.mem_of_getElem? hx
    subst hra
    clear hx
    have XI := fun w' => idx_rd (g := g) (n := R) (c := rc) i hin w'
    have a3 : decide (i < R) = true := decide_eq_true (by omega)
    have a1 : decide ((i : Int) < (R : Int)) = true := decide_eq_true (by omega)
    have a2 : (i : Int) < (R : Int) := by omega
    have HD : Hid (n.rs.drop i = x :: n.rs.drop (i + 1)) := by
      have h2 := HXi.out
      obtain ⟨h3, h4⟩ := List.getElem?_eq_some_iff.1 h2
      show _ = _
      rw [List.drop_eq_getElem_cons h3, h4]
    go_upto_region 4 with fail
    obtain ⟨M, hM⟩ : ∃ M, wr.heap.size = M := ⟨_, rfl⟩
    obtain ⟨wn, hwn⟩ : ∃ wn, wr.alloc (.cells #[.int .i64 (x.fd : Int), .string (str x.o), .string (str x.w), .string (str x.b)] rrT) = wn := ⟨_, rfl⟩
    have hxn := rr_box hwn hM
    have hbn : Below wr.heap.size wr wn := by rw [← hwn]; exact (Below.refl _ _).alloc (Nat.le_refl _) _
    have HPn : Hid (Pr wn b B tv bv' s') := HP.out.below hbn
    have HTn : Hid (Sx.Turn b bv w1 bv' wn) := HT.out.trans (Sx.Turn.of_below hbn)
    have HXn := Lib.hid hxn
    have HRx := Lib.hid (HRd.out x HMem.out)
    rw [hwn, hM]
    clear x0 x1 x2 x3 hwn hxn hbn hM a1 a2 a3
    by_cases hz : i = 0
    · subst hz
      have hs' := H0.out rfl
      subst hs'
      have hrs : n.rs = x :: n.rs.drop 1 := HD.out
      have hLx : lenS s' + (rdLen x + accL.tailC (n.rs.drop 1)) ≤ big := by
        have h1 := HL.out
        unfold Acc.simC at h1
        have h2 : accL.redsC n.rs = rdLen x + accL.tailC (n.rs.drop 1) := by
          have : accL.redsC (x :: n.rs.drop 1) = rdLen x + accL.tailC (n.rs.drop 1) := rfl
          rw [← hrs] at this
          exact this
        omega
      have HLx := Lib.hid hLx
      have HRs2 := Lib.hid hrs
      obtain ⟨y0, y1, y2, y3⟩ := rr_cells HXn.out
      have HRe := Lib.hid (redir_calls wn b B tv bv' s' HPn.out x HRx.out.1 HRx.out.2 (by omega))
      unfold rdV at HRe
      clear hrs hLx
      go_wp2_with fail
      refine HRe.out.mono ?_
      rintro r w3 ⟨bv3, rfl, ht3, hp3⟩
      have HT3 := Lib.hid (HTn.out.trans ht3)
      have HP3 := Lib.hid hp3
      clear ht3 hp3
      go_wp2
      refine ⟨⟨1, bv3, redirS x s', by omega, by simp, HT3.out, HP3.out, fun h => absurd h (by decide), fun _ => ⟨?_, ?_⟩⟩, ?_⟩
      · rw [HRs2.out]; rfl
      · have h5 : lenS (redirS x s') ≤ lenS s' + rdLen x := accL.rd x s'
        have := HLx.out
        omega
      · simp [nOf]; omega
    · have HI := Lib.hid (H1.out (by omega))
      have HLx : Hid (lenS s' + (1 + rdLen x + accL.tailC (n.rs.drop (i + 1))) ≤ big) := by
        have := HI.out.2
        rw [HD.out] at this
        have e : accL.tailC (x :: n.rs.drop (i + 1)) = (1 + rdLen x) + accL.tailC (n.rs.drop (i + 1)) := by unfold Acc.tailC; rw [List.map_cons, List.sum_cons]; rfl
        rw [e] at this
        exact this
      have d1 : decide ((0 : Int) < (i : Int)) = true := decide_eq_true (by omega)
      have d2 : (0 : Int) < (i : Int) := by omega
      have HPu := Lib.hid (put1_new wn b B tv bv' s' HPn.out [32] (by have := HLx.out; have := fst_le s'; simp only [List.length_cons, List.length_nil]; omega))
      go_wp2_with fail
      refine HPu.out.mono ?_
      rintro r w2 ⟨bv2, rfl, ht2, hp2⟩
      have HT2 := Lib.hid (HTn.out.trans ht2)
      have hq := HPn.out.not HXn.out (by decide) (by decide)
      have hx2 := (ht2.block M (Array.getElem?_eq_some_iff.1 HXn.out).1 hq.1 hq.2).trans HXn.out
      obtain ⟨y0, y1, y2, y3⟩ := rr_cells hx2
      have HL1 := Lib.hid (len_put [32] s')
      have HRe := Lib.hid (redir_calls w2 b B tv bv2 _ hp2 x HRx.out.1 HRx.out.2 (by have h1 := HLx.out; have h2 := HL1.out; simp only [List.length_cons, List.length_nil] at h2; omega))
      unfold rdV at HRe
      clear ht2 hp2 hx2 hq
      go_wp2_with fail
      refine HRe.out.mono ?_
      rintro r w3 ⟨bv3, rfl, ht3, hp3⟩
      have HT3 := Lib.hid (HT2.out.trans ht3)
      have HP3 := Lib.hid hp3
      clear ht3 hp3
      go_wp2
      refine ⟨⟨i + 1, bv3, redirS x (putS [32] s'), by omega, by simp, HT3.out, HP3.out, fun h => absurd h (by omega), fun _ => ⟨?_, ?_⟩⟩, ?_⟩
      · rw [HI.out.1, HD.out]; rfl
      · have h5 : lenS (redirS x (putS [32] s')) ≤ lenS (putS [32] s') + rdLen x := accL.rd x _
        have h1 := HLx.out
        have h2 := HL1.out
        simp only [List.length_cons, List.length_nil] at h2
        omega
      · simp [nOf]; omega
end Go.Proofs.YtiklkhbfilbpeaaGreatDoor.Ux
set_option linter.unusedVariables false
set_option linter.unusedSimpArgs false
set_option maxRecDepth 100000
namespace Go.Proofs.YtiklkhbfilbpeaaGreatDoor.Ux
open Go.RowKit Base Lx Sy Sx Un
abbrev mpN : TypeId := 72
theorem und_mpN : ∃ v, Tryz.prog.underlying mpN = some (.map 3 v) := ⟨_, rfl⟩
theorem check_in (e : Bool) (c : Int) (w : World) : (Instr.checkKey e 10000 3 (.int .i64 c)).run Tryz.prog w = .ok () w := by
  exact MapKept.run_checkKey (n := 9999) (k := .int .i64 c) Tryz.underlying3 rfl e
theorem updN_run {w : World} {m : Nat} {es : Array MapEntry} {c : Nat} {k : Int} {v : Value} (h : w.heap[m]? = some (.map es c)) (hf : Instr.findNow (.int .i64) (.int .i64 k) es.toList 0 = some none) :
    (Instr.mapUpdate mpN (.map (some m)) (.int .i64 k) v).run Tryz.prog w = .ok () (putM w m (es.push { key := .int .i64 k, val := v, born := c }) (c + 1)) := by
  obtain ⟨vt, hu⟩ := und_mpN
  simp [Instr.mapUpdate, run_underlying hu, MapKept.run_getObj_map h, check_in, Instr.findKey, run_underlying Tryz.underlying3, hf, MapKept.run_setObj_map _ h, Result.andThen, putM]
theorem lookN_run {w : World} {m : Nat} {es : Array MapEntry} {c : Nat} {k : Int} (h : w.heap[m]? = some (.map es c)) (x : Nat × Value) (hf : Instr.findNow (.int .i64) (.int .i64 k) es.toList 0 = some (some x)) :
    (Instr.lookup mpN (.map (some m)) (.int .i64 k) true).run Tryz.prog w = .ok (.tuple #[x.2, .bool true]) w := by
  obtain ⟨vt, hu⟩ := und_mpN
  simp [Instr.lookup, run_underlying hu, MapKept.run_getObj_map h, check_in, Instr.findKey, run_underlying Tryz.underlying3, hf, Result.andThen]
def entsL (v : Nat → Value) (n : Nat) : List MapEntry := (List.range n).map fun i => { key := .int .i64 ((i + 1 : Nat) : Int), val := v (i + 1), born := i }
theorem ents_push (v : Nat → Value) (n : Nat) : (entsL v n).toArray.push { key := .int .i64 ((n + 1 : Nat) : Int), val := v (n + 1), born := n } = (entsL v (n + 1)).toArray := by
  unfold entsL
  rw [List.range_succ, List.map_append]
  simp
theorem find_none (v : Nat → Value) (k : Int) : ∀ (l : List Nat) (i : Nat), (∀ j ∈ l, k ≠ ((j + 1 : Nat) : Int)) → Instr.findNow (.int .i64) (.int .i64 k) (l.map fun i => ({ key := .int .i64 ((i + 1 : Nat) : Int), val := v (i + 1), born := i } : MapEntry)) i = some none
  | [], i, _ => rfl
  | j :: l, i, h => by
    have hk : (((j + 1 : Nat) : Int) == k) = false := beq_eq_false_iff_ne.2 (fun e => h j List.mem_cons_self e.symm)
    have hk2 : (k == ((j + 1 : Nat) : Int)) = false := beq_eq_false_iff_ne.2 (h j List.mem_cons_self)
    have ih := find_none v k l (i + 1) fun x hx => h x (List.mem_cons_of_mem _ hx)
    rw [List.map_cons]
    unfold Instr.findNow
    simp only [Instr.sameNow, hk, hk2]
    simpa using ih
theorem all_map (w : World) (v : Nat → Value) : ∃ w1 w2 w3 w4 w5 w6 w7 w8 w9 w10 w11 w12 w13 : World, (Instr.mapUpdate mpN (.map (some w.heap.size)) (.int .i64 1) (v 1)).run Tryz.prog (w.alloc (.map #[] 0)) = .ok () w1 ∧ (Instr.mapUpdate mpN (.map (some w.heap.size)) (.int .i64 2) (v 2)).run Tryz.prog w1 = .ok () w2 ∧ (Instr.mapUpdate mpN (.map (some w.heap.size)) (.int .i64 3) (v 3)).run Tryz.prog w2 = .ok () w3 ∧ (Instr.mapUpdate mpN (.map (some w.heap.size)) (.int .i64 4) (v 4)).run Tryz.prog w3 = .ok () w4 ∧ (Instr.mapUpdate mpN (.map (some w.heap.size)) (.int .i64 5) (v 5)).run Tryz.prog w4 = .ok () w5 ∧ (Instr.mapUpdate mpN (.map (some w.heap.size)) (.int .i64 6) (v 6)).run Tryz.prog w5 = .ok () w6 ∧ (Instr.mapUpdate mpN (.map (some w.heap.size)) (.int .i64 7) (v 7)).run Tryz.prog w6 = .ok () w7 ∧ (Instr.mapUpdate mpN (.map (some w.heap.size)) (.int .i64 8) (v 8)).run Tryz.prog w7 = .ok () w8 ∧ (Instr.mapUpdate mpN (.map (some w.heap.size)) (.int .i64 9) (v 9)).run Tryz.prog w8 = .ok () w9 ∧ (Instr.mapUpdate mpN (.map (some w.heap.size)) (.int .i64 10) (v 10)).run Tryz.prog w9 = .ok () w10 ∧ (Instr.mapUpdate mpN (.map (some w.heap.size)) (.int .i64 11) (v 11)).run Tryz.prog w10 = .ok () w11 ∧ (Instr.mapUpdate mpN (.map (some w.heap.size)) (.int .i64 12) (v 12)).run Tryz.prog w11 = .ok () w12 ∧ (Instr.mapUpdate mpN (.map (some w.heap.size)) (.int .i64 13) (v 13)).run Tryz.prog w12 = .ok () w13 ∧ Below w.heap.size w w13 ∧ ∀ k : Nat, 1 ≤ k → k ≤ 13 → (Instr.lookup mpN (.map (some w.heap.size)) (.int .i64 (k : Int)) true).run Tryz.prog w13 = .ok (.tuple #[v k, .bool true]) w13 := by
  have h0 : (w.alloc (.map #[] 0)).heap[w.heap.size]? = some (.map #[] 0) := (MapKept.heap_alloc w _).1
  have hal := (Below.refl w.heap.size w).alloc (Nat.le_refl _) (.map #[] 0)
  have hs0 : w.heap.size ≤ (w.alloc (.map #[] 0)).heap.size := by rw [World.size_alloc]; omega
  have step : ∀ (x : World) (n : Nat), x.heap[w.heap.size]? = some (.map (entsL v n).toArray n) → Below w.heap.size w x → w.heap.size ≤ x.heap.size → ∃ y, (Instr.mapUpdate mpN (.map (some w.heap.size)) (.int .i64 ((n + 1 : Nat) : Int)) (v (n + 1))).run Tryz.prog x = .ok () y ∧ y.heap[w.heap.size]? = some (.map (entsL v (n + 1)).toArray (n + 1)) ∧ Below w.heap.size w y ∧ w.heap.size ≤ y.heap.size := by
    intro x n hx hb hs
    have hf : Instr.findNow (.int .i64) (.int .i64 ((n + 1 : Nat) : Int)) (entsL v n).toArray.toList 0 = some none := find_none v _ _ 0 fun j hj => by have := List.mem_range.1 hj; omega
    refine ⟨_, updN_run hx hf, ?_, hb.grown putM_grown hs (fun j hj => by obtain rfl := Option.some.inj hj; exact Nat.le_refl _), ?_⟩
    · rw [ents_push]
      exact putM_at hx
    · simp [putM]; exact hs
  obtain ⟨w1, u1, g1, b1, s1⟩ := step _ 0 h0 hal hs0
  obtain ⟨w2, u2, g2, b2, s2⟩ := step w1 1 g1 b1 s1
  obtain ⟨w3, u3, g3, b3, s3⟩ := step w2 2 g2 b2 s2
  obtain ⟨w4, u4, g4, b4, s4⟩ := step w3 3 g3 b3 s3
  obtain ⟨w5, u5, g5, b5, s5⟩ := step w4 4 g4 b4 s4
  obtain ⟨w6, u6, g6, b6, s6⟩ := step w5 5 g5 b5 s5
  obtain ⟨w7, u7, g7, b7, s7⟩ := step w6 6 g6 b6 s6
  obtain ⟨w8, u8, g8, b8, s8⟩ := step w7 7 g7 b7 s7
  obtain ⟨w9, u9, g9, b9, s9⟩ := step w8 8 g8 b8 s8
  obtain ⟨w10, u10, g10, b10, s10⟩ := step w9 9 g9 b9 s9
  obtain ⟨w11, u11, g11, b11, s11⟩ := step w10 10 g10 b10 s10
  obtain ⟨w12, u12, g12, b12, s12⟩ := step w11 11 g11 b11 s11
  obtain ⟨w13, u13, g13, b13, s13⟩ := step w12 12 g12 b12 s12
  refine ⟨w1, w2, w3, w4, w5, w6, w7, w8, w9, w10, w11, w12, w13, u1, u2, u3, u4, u5, u6, u7, u8, u9, u10, u11, u12, u13, b13, fun k h1 h2 => ?_⟩
  have hk : k = 1 ∨ k = 2 ∨ k = 3 ∨ k = 4 ∨ k = 5 ∨ k = 6 ∨ k = 7 ∨ k = 8 ∨ k = 9 ∨ k = 10 ∨ k = 11 ∨ k = 12 ∨ k = 13 := by omega
  rcases hk with rfl | rfl | rfl | rfl | rfl | rfl | rfl | rfl | rfl | rfl | rfl | rfl | rfl
  · exact lookN_run g13 (0, v 1) rfl
  · exact lookN_run g13 (1, v 2) rfl
  · exact lookN_run g13 (2, v 3) rfl
  · exact lookN_run g13 (3, v 4) rfl
  · exact lookN_run g13 (4, v 5) rfl
  · exact lookN_run g13 (5, v 6) rfl
  · exact lookN_run g13 (6, v 7) rfl
  · exact lookN_run g13 (7, v 8) rfl
  · exact lookN_run g13 (8, v 9) rfl
  · exact lookN_run g13 (9, v 10) rfl
  · exact lookN_run g13 (10, v 11) rfl
  · exact lookN_run g13 (11, v 12) rfl
  · exact lookN_run g13 (12, v 13) rfl
end Go.Proofs.YtiklkhbfilbpeaaGreatDoor.Ux
set_option linter.unusedVariables false
set_option linter.unusedSimpArgs false
set_option maxRecDepth 100000
namespace Go.Proofs.YtiklkhbfilbpeaaGreatDoor.Ux
open Go.RowKit Base Lx Sy Sx Un
/-- What a method does with a node. -/
structure MethC (m : FuncId) (l : List Nd) (b B : Nat) (tv : Value) (n : Nd) (f : PS → PS) (c : Nat) : Prop where
  fn : ∃ fn, Tryz.prog.funcs[m]? = some fn ∧ (fn.name == "runtime.NumGoroutine") = false ∧ fn.body.isNone = false
  calls : ∀ (W : World) (bv : Value) (s : PS) (uw ur uk : Value), Pr W b B tv bv s → TrAt W B tv l → Sx.Rows W (fun g => g < B) n uw ur uk → lenS s + c ≤ big → Calls Tryz.prog m #[.pointer (some ⟨b, 0, none⟩), ndV n uw ur uk] W fun r W' => Post W b B tv bv (f s) r W'
def methV (b : Nat) (m : FuncId) : Value := .func (.func m) #[.pointer (some ⟨b, 0, none⟩)] #[]
def methN (k : Nat) : FuncId := match k with
  | 1 => 26
  | 2 => 27
  | 3 => 28
  | 4 => 29
  | 5 => 30
  | 6 => 31
  | 7 => 32
  | 8 => 33
  | 9 => 34
  | 10 => 35
  | 11 => 36
  | 12 => 37
  | _ => 38
set_option maxHeartbeats 4000000 in
theorem node_calls (l : List Nd) (b B : Nat) (tv : Value) (k : Nat) (n : Nd) (hk : l[k]? = some n) (hn : 1 ≤ n.k ∧ n.k ≤ 13) (hrs : n.rs.length ≤ 100000) (hrd : ∀ x ∈ n.rs, x.fd ≤ 99 ∧ x.w.length ≤ 100000) (f : PS → PS) (c C : Nat) (hm : MethC (methN n.k) l b B tv n f c) (hc : ∀ s, lenS (f s) ≤ lenS s + c) (hC : C = c + (if n.k = 1 then 0 else accL.tailC n.rs)) :
    KidC l b B tv (k : Int) (fun s => if n.k = 1 then f s else tailS n.rs (f s)) C := by
  intro W bv s h ht hl
  obtain ⟨ta, tc, htv, b1, off, hnd, hix⟩ := nodes_at ht.row
  obtain ⟨uw, ur, uk, hnk⟩ := hnd k _ hk
  have hkl : k < l.length := (List.getElem?_eq_some_iff.1 hk).1
  have hix2 := fun w' => hix k w' hkl
  obtain ⟨L, hL⟩ : ∃ L, l.length = L := ⟨_, rfl⟩
  rw [hL] at hix2 hkl htv
  have HTr := Lib.hid ht
  have HP := Lib.hid h
  subst htv
  obtain ⟨aa, haa⟩ := h.any
  have p0 := (pr_cells haa.box).1.1
  have hrows : Sx.Rows W (fun g => g < B) n uw ur uk := hnk.rows
  have HRows := Lib.hid hrows
  obtain ⟨aw, cw, hvw, _⟩ := ownsRow_slice hrows.w
  obtain ⟨ar, cr, hvr, _⟩ := ownsRow_slice hrows.r
  obtain ⟨ak, ck, hvk, _⟩ := ints_of hrows.k hrows.qk
  obtain ⟨mw, hmw⟩ : ∃ m, n.ws.length = m := ⟨_, rfl⟩
  obtain ⟨R, hR⟩ : ∃ m, n.rs.length = m := ⟨_, rfl⟩
  obtain ⟨mk, hmk2⟩ : ∃ m, n.ks.length = m := ⟨_, rfl⟩
  rw [hmw] at hvw
  rw [hR] at hvr
  rw [hmk2] at hvk
  subst hvw hvr hvk
  have x0 : W.cell? ⟨b1, off + k * 8, none⟩ = some (.int .i64 (n.k : Int)) := hnk.cells 0 _ rfl
  have x1 : W.cell? ⟨b1, off + k * 8 + 1, none⟩ = some (.string (str n.t)) := hnk.cells 1 _ rfl
  have x2 : W.cell? ⟨b1, off + k * 8 + 2, none⟩ = some (.bool n.fl) := hnk.cells 2 _ rfl
  have x3 : W.cell? ⟨b1, off + k * 8 + 3, none⟩ = some (.slice aw mw cw) := hnk.cells 3 _ rfl
  have x4 : W.cell? ⟨b1, off + k * 8 + 4, none⟩ = some (.int .i64 (n.st : Int)) := hnk.cells 4 _ rfl
  have x5 : W.cell? ⟨b1, off + k * 8 + 5, none⟩ = some (.slice ar R cr) := hnk.cells 5 _ rfl
  have x6 : W.cell? ⟨b1, off + k * 8 + 6, none⟩ = some (.slice ak mk ck) := hnk.cells 6 _ rfl
  have x7 : W.cell? ⟨b1, off + k * 8 + 7, none⟩ = some (.int .i64 (n.ln : Int)) := hnk.cells 7 _ rfl
  obtain ⟨w1, N, hal, hN, HX⟩ := nd_box h ht hrows
  have HL := Lib.hid hl
  obtain ⟨m, hmN⟩ : ∃ m, methN n.k = m := ⟨_, rfl⟩
  rw [hmN] at hm
  have HM := Lib.hid hm
  have HRd := Lib.hid hrd
  have HK := Lib.hid hn
  have HR := Lib.hid hR
  have HC := Lib.hid hc
  have HCC := Lib.hid hC
  have hr1 : R ≤ 100000 := by omega
  obtain ⟨w2, w3, w4, w5, w6, w7, w8, w9, w10, w11, w12, w13, w14, u1, u2, u3, u4, u5, u6, u7, u8, u9, u10, u11, u12, u13, hb14, hlk⟩ := all_map w1 (fun k => methV b (methN k))
  have hlk2 : (Instr.lookup mpN (.map (some w1.heap.size)) (.int .i64 (n.k : Int)) true).run Tryz.prog w14 = .ok (.tuple #[.func (.func m) #[.pointer (some ⟨b, 0, none⟩)] #[], .bool true]) w14 := by
    have := hlk n.k hn.1 hn.2
    simp only [methV, hmN] at this
    exact this
  simp only [methV, methN] at u1 u2 u3 u4 u5 u6 u7 u8 u9 u10 u11 u12 u13
  obtain ⟨fn, hf1, hf2, hf3⟩ := hm.fn
  have hcf := fun w' => Rg.run_callFunc hf1 hf2 hf3 #[.pointer (some ⟨b, 0, none⟩), .agg #[.int .i64 (n.k : Int), .string (str n.t), .bool n.fl, .slice aw mw cw, .int .i64 (n.st : Int), .slice ar R cr, .slice ak mk ck, .int .i64 (n.ln : Int)]] w'
  have hmf : ∀ (fn : Fn) (first cap : Array Value) (w : World), (Instr.makeFunc fn first cap).run Tryz.prog w = .ok (.func fn first cap) w := fun _ _ _ _ => rfl
  have hmk : ∀ w : World, (Instr.makeMap mpN none).run Tryz.prog w = .ok (.map (some w.heap.size)) (w.alloc (.map #[] 0)) := fun w => run_makeMap _ w
  have HB14 := Lib.hid hb14
  clear h ht hl hm hrd hn hR hc hC hlk hb14 hk hnd hix hnk haa hrows hmw hmk2 hrs hmN
  have a1 : decide ((k : Int) < (0 : Int)) = false := decide_eq_false (by omega)
  have a2 : ¬ ((k : Int) < (0 : Int)) := by omega
  have d3 : decide (L ≤ k) = false := decide_eq_false (by omega)
  have d1 : decide ((L : Int) ≤ (k : Int)) = false := decide_eq_false (by omega)
  have d2 : ¬ ((L : Int) ≤ (k : Int)) := by omega
  go_enter Tryz.func14, Tryz.ntmps14
  go_upto_region 3 with fail
  have HB1 : Hid (Below W.heap.size W w14) := HX.out.1.trans (HB14.out.mono HX.out.1.size)
  have HN14 := Lib.hid (HX.out.2.2.2.below HB14.out)
  obtain ⟨c0, c1, c2, c3, c5, c6⟩ := HN14.out.cells
  have c4 : w14.cell? ⟨N, 4, none⟩ = some (.int .i64 (n.st : Int)) := by unfold World.cell?; simp only [HN14.out.heap]; rfl
  have c7 : w14.cell? ⟨N, 7, none⟩ = some (.int .i64 (n.ln : Int)) := by unfold World.cell?; simp only [HN14.out.heap]; rfl
  have HP14 : Hid (Pr w14 b B _ bv s) := HX.out.2.1.below HB14.out
  have HTr14 : Hid (TrAt w14 B _ l) := HX.out.2.2.1.below (HB14.out.mono HX.out.2.1.size)
  have HCa := Lib.hid (HM.out.calls w14 bv s _ _ _ HP14.out HTr14.out HN14.out.rows (by have := HL.out; have := HCC.out; split at this <;> omega))
  unfold ndV at HCa
  clear u1 u2 u3 u4 u5 u6 u7 u8 u9 u10 u11 u12 u13 hmf hmk x0 x1 x2 x3 x4 x5 x6 x7
  go_wp2_with fail
  refine HCa.out.mono ?_
  rintro r w15 ⟨bv1, rfl, ht1, hp1⟩
  have HT1 : Hid (Sx.Turn b bv W bv1 w15) := (Sx.Turn.of_below HB1.out).trans ht1
  have HP1 := Lib.hid hp1
  have HN15 := Lib.hid (HN14.out.turn HP14.out ht1)
  have HTr15 : Hid (TrAt w15 B _ l) := HTr14.out.below (turn_low HP14.out ht1)
  have HLs : Hid (lenS (f s) ≤ lenS s + c) := HC.out s
  clear ht1 hp1 c0 c1 c2 c3 c4 c5 c6 c7 hlk2 hcf hf1 hf2 hf3
  obtain ⟨c0, c1, c2, c3, c5, c6⟩ := HN15.out.cells
  by_cases hk1 : n.k = 1
  · have HK1 := Lib.hid hk1
    have t1 : ((n.k : Int) == 1) = true := by rw [hk1]; rfl
    have t2 : (n.k : Int) = 1 := by rw [hk1]; rfl
    have t3 : decide ((n.k : Int) = 1) = true := decide_eq_true t2
    clear hk1
    go_wp2
    go_end0
    refine ⟨bv1, rfl, HT1.out, ?_⟩
    exact HP1.out
  have HK1 : Hid (¬ n.k = 1) := hk1
  have t2 : ¬ ((n.k : Int) = 1) := fun h => hk1 (by omega)
  have t1 : ((n.k : Int) == 1) = false := beq_eq_false_iff_ne.2 t2
  have t3 : decide ((n.k : Int) = 1) = false := decide_eq_false t2
  have HLt : Hid (lenS (f s) + accL.tailC n.rs ≤ big) := by show _ ≤ _; have h1 := HL.out; have h2 := HCC.out; have h3 := HLs.out; rw [if_neg hk1] at h2; omega
  clear hk1
  have hRs := rds_of HN15.out.rows.r HN15.out.rows.qr
  have HCs : Hid (∀ W', Below B w15 W' → ∀ (j : Nat) (x : Rdr), n.rs[j]? = some x → ∃ g, ar = some ⟨g, 0, none⟩ ∧ g < B ∧ (W'.cell? ⟨g, j * 4, none⟩ = some (.int .i64 (x.fd : Int)) ∧ W'.cell? ⟨g, j * 4 + 1, none⟩ = some (.string (str x.o)) ∧ W'.cell? ⟨g, j * 4 + 2, none⟩ = some (.string (str x.w)) ∧ W'.cell? ⟨g, j * 4 + 3, none⟩ = some (.string (str x.b)))) := fun W' hb j x hj => by
    obtain ⟨a', c', h1, h2⟩ := hRs.below hb
    rw [HR.out] at h1
    injection h1 with h1
    subst h1
    exact h2 j x hj
  clear hRs
  go_upto_region 8 with fail
  clear c0 c1 c2 c3 c5 c6 t1 t2 t3
  go_loopw [76] (fun v76 wr => ∃ (i : Nat) (bv' : Value) (s' : PS), i ≤ R ∧ v76 = .int .i64 (i : Int) ∧ Sx.Turn b bv1 w15 bv' wr ∧ Pr wr b B (.slice ta L tc) bv' s' ∧ tailS n.rs (f s) = tailS (n.rs.drop i) s' ∧ lenS s' + accL.tailC (n.rs.drop i) ≤ big) (fun v76 _ => R - nOf v76)
  case atStart => exact ⟨0, bv1, f s, Nat.zero_le _, rfl, Sx.Turn.refl _ _ _, HP1.out, rfl, HLt.out⟩
  case round =>
    obtain ⟨i, bv', s', hi, rfl, hT, hP, h0, h1⟩ := hrel
    have HT := Lib.hid hT
    have HP := Lib.hid hP
    have H0 := Lib.hid h0
    have H1 := Lib.hid h1
    clear hT hP h0 h1
    by_cases hin : i < R
    case neg =>
      obtain rfl : i = R := by omega
      have e3 : decide (i < i) = false := decide_eq_false (by omega)
      have e1 : decide ((i : Int) < (i : Int)) = false := decide_eq_false (by omega)
      have e2 : ¬ ((i : Int) < (i : Int)) := by omega
      go_wp2_with fail
      go_end0
      refine ⟨bv', rfl, HT1.out.trans HT.out, ?_⟩
      rw [H0.out, List.drop_of_length_le (by rw [HR.out]; exact Nat.le_refl _)]
      exact HP.out
    obtain ⟨x, hx⟩ : ∃ x, n.rs[i]? = some x := ⟨_, List.getElem?_eq_getElem (by have := HR.out; omega)⟩
    obtain ⟨g, hra, hgB, x0, x1, x2, x3⟩ := HCs.out wr (turn_low HP1.out HT.out) i x hx
    have HXi := Lib.hid hx
    have HMem : Hid (x ∈ n.rs) := List.mem_of_getElem? hx
    subst hra
    clear hx
    have XI := fun w' => idx_rd (g := g) (n := R) (c := cr) i hin w'
    have e3 : decide (i < R) = true := decide_eq_true (by omega)
    have e1 : decide ((i : Int) < (R : Int)) = true := decide_eq_true (by omega)
    have e2 : (i : Int) < (R : Int) := by omega
    have HD : Hid (n.rs.drop i = x :: n.rs.drop (i + 1)) := by
      have h2 := HXi.out
      obtain ⟨h3, h4⟩ := List.getElem?_eq_some_iff.1 h2
      show _ = _
      rw [List.drop_eq_getElem_cons h3, h4]
    have HLx : Hid (lenS s' + (1 + rdLen x + accL.tailC (n.rs.drop (i + 1))) ≤ big) := by
      have := H1.out
      rw [HD.out] at this
      have e : accL.tailC (x :: n.rs.drop (i + 1)) = (1 + rdLen x) + accL.tailC (n.rs.drop (i + 1)) := by unfold Acc.tailC; rw [List.map_cons, List.sum_cons]; rfl
      rw [e] at this
      exact this
    go_upto_region 10 with fail
    obtain ⟨M, hM⟩ : ∃ M, wr.heap.size = M := ⟨_, rfl⟩
    obtain ⟨wn, hwn⟩ : ∃ wn, wr.alloc (.cells #[.int .i64 (x.fd : Int), .string (str x.o), .string (str x.w), .string (str x.b)] rrT) = wn := ⟨_, rfl⟩
    have hxn := rr_box hwn hM
    have hbn : Below wr.heap.size wr wn := by rw [← hwn]; exact (Below.refl _ _).alloc (Nat.le_refl _) _
    have HPn : Hid (Pr wn b B _ bv' s') := HP.out.below hbn
    have HTn : Hid (Sx.Turn b bv1 w15 bv' wn) := HT.out.trans (Sx.Turn.of_below hbn)
    have HXn := Lib.hid hxn
    have HRx := Lib.hid (HRd.out x HMem.out)
    rw [hwn, hM]
    clear x0 x1 x2 x3 hwn hxn hbn hM e1 e2 e3
    have HPu := Lib.hid (put1_new wn b B _ bv' s' HPn.out [32] (by have := HLx.out; have := fst_le s'; simp only [List.length_cons, List.length_nil]; omega))
    go_wp2_with fail
    refine HPu.out.mono ?_
    rintro r w2 ⟨bv2, rfl, ht2, hp2⟩
    have HT2 := Lib.hid (HTn.out.trans ht2)
    have hq := HPn.out.not HXn.out (by decide) (by decide)
    have hx2 := (ht2.block M (Array.getElem?_eq_some_iff.1 HXn.out).1 hq.1 hq.2).trans HXn.out
    obtain ⟨y0, y1, y2, y3⟩ := rr_cells hx2
    have HL1 := Lib.hid (len_put [32] s')
    have HRe := Lib.hid (redir_calls w2 b B _ bv2 _ hp2 x HRx.out.1 HRx.out.2 (by have h1 := HLx.out; have h2 := HL1.out; simp only [List.length_cons, List.length_nil] at h2; omega))
    unfold rdV at HRe
    clear ht2 hp2 hx2 hq
    go_wp2_with fail
    refine HRe.out.mono ?_
    rintro r w3 ⟨bv3, rfl, ht3, hp3⟩
    have HT3 := Lib.hid (HT2.out.trans ht3)
    have HP3 := Lib.hid hp3
    clear ht3 hp3
    go_wp2
    refine ⟨⟨i + 1, bv3, redirS x (putS [32] s'), by omega, by simp, HT3.out, HP3.out, ?_, ?_⟩, ?_⟩
    · rw [H0.out, HD.out]; rfl
    · have h5 : lenS (redirS x (putS [32] s')) ≤ lenS (putS [32] s') + rdLen x := accL.rd x _
      have h1 := HLx.out
      have h2 := HL1.out
      simp only [List.length_cons, List.length_nil] at h2
      omega
    · simp [nOf]; omega
end Go.Proofs.YtiklkhbfilbpeaaGreatDoor.Ux
set_option linter.unusedVariables false
set_option linter.unusedSimpArgs false
set_option maxRecDepth 100000
namespace Go.Proofs.YtiklkhbfilbpeaaGreatDoor.Ux
open Go.RowKit Base Lx Sy Sx Un
structure NSmall (n : Nd) : Prop where
  ws : n.ws.length ≤ 100000
  rs : n.rs.length ≤ 100000
  rd : ∀ x ∈ n.rs, x.fd ≤ 99 ∧ x.w.length ≤ 100000
  ks : n.ks.length ≤ 100000
theorem betC_eq (m : Nat) (c : Nat → Nat) : ∀ ks : List Nat, betC m c ks = (ks.length - 1) * m + (ks.map c).sum
  | [] => by simp [betC]
  | k :: ks => by
    have h : (ks.map fun k => m + c k).sum = ks.length * m + (ks.map c).sum := by
      induction ks with
      | nil => simp
      | cons j ks ih => rw [List.map_cons, List.sum_cons, List.map_cons, List.sum_cons, List.length_cons, Nat.succ_mul, ih]; omega
    show c k + _ = (ks.length + 1 - 1) * m + (c k + (ks.map c).sum)
    rw [h, Nat.add_sub_cancel]; omega
theorem seqC_eq (c : Nat → Nat) : ∀ ks : List Nat, (ks.map fun k => c k + 1).sum = ks.length + (ks.map c).sum
  | [] => rfl
  | k :: ks => by rw [List.map_cons, List.sum_cons, List.map_cons, List.sum_cons, List.length_cons, seqC_eq c ks]; omega
theorem kids1 {n : Nd} (h : n.ks.length = 1) (w : Nat → Nat) : (n.ks.map w).sum = w (kid n 0) := by
  unfold kid
  match hk : n.ks with
  | [a] => simp
  | [] => rw [hk] at h; simp at h
  | _ :: _ :: _ => rw [hk] at h; simp at h
theorem kids2 {n : Nd} (h : n.ks.length = 2) (w : Nat → Nat) : (n.ks.map w).sum = w (kid n 0) + w (kid n 1) := by
  unfold kid
  match hk : n.ks with
  | [a, b] => simp
  | [] => rw [hk] at h; simp at h
  | [_] => rw [hk] at h; simp at h
  | _ :: _ :: _ :: _ => rw [hk] at h; simp at h
theorem kids3 {n : Nd} (h : n.ks.length = 3) (w : Nat → Nat) : (n.ks.map w).sum = w (kid n 0) + w (kid n 1) + w (kid n 2) := by
  unfold kid
  match hk : n.ks with
  | [a, b, c] => simp; omega
  | [] => rw [hk] at h; simp at h
  | [_] => rw [hk] at h; simp at h
  | [_, _] => rw [hk] at h; simp at h
  | _ :: _ :: _ :: _ :: _ => rw [hk] at h; simp at h
theorem pl (t : Nm) : accL.p t = t.length := rfl
theorem bodyC1 {n : Nd} (h : n.k = 1) (kd : Nat → Nat) : accL.bodyC kd n = accL.simC n := by
  unfold Acc.bodyC
  rw [if_pos h]
theorem bodyS1 {n : Nd} (h : n.k = 1) (kd : Nat → Nat) (f : Nat → PS → PS) (s : PS) : bodyS kd f n s = Un.simS n s := by
  unfold bodyS
  rw [if_pos h]
theorem bodyC2 {n : Nd} (h : n.k = 2) (kd : Nat → Nat) : accL.bodyC kd n = (if n.fl then 2 else 0) + (n.ks.length - 1) * 3 := by
  unfold Acc.bodyC
  rw [if_neg (show ¬ n.k = 1 by omega)]
  rw [if_pos h]
  rfl
theorem bodyS2 {n : Nd} (h : n.k = 2) (kd : Nat → Nat) (f : Nat → PS → PS) (s : PS) : bodyS kd f n s = betS [32, 124, 32] f n.ks (if n.fl then putS [33, 32] s else s) := by
  unfold bodyS
  rw [if_neg (show ¬ n.k = 1 by omega)]
  rw [if_pos h]
theorem bodyC3 {n : Nd} (h : n.k = 3) (kd : Nat → Nat) : accL.bodyC kd n = (n.ks.length - 1) * 4 := by
  unfold Acc.bodyC
  rw [if_neg (show ¬ n.k = 1 by omega)]
  rw [if_neg (show ¬ n.k = 2 by omega)]
  rw [if_pos h]
  rfl
theorem bodyS3 {n : Nd} (h : n.k = 3) (kd : Nat → Nat) (f : Nat → PS → PS) (s : PS) : bodyS kd f n s = betS [32, 38, 38, 32] f n.ks s := by
  unfold bodyS
  rw [if_neg (show ¬ n.k = 1 by omega)]
  rw [if_neg (show ¬ n.k = 2 by omega)]
  rw [if_pos h]
theorem bodyC4 {n : Nd} (h : n.k = 4) (kd : Nat → Nat) : accL.bodyC kd n = (n.ks.length - 1) * 4 := by
  unfold Acc.bodyC
  rw [if_neg (show ¬ n.k = 1 by omega)]
  rw [if_neg (show ¬ n.k = 2 by omega)]
  rw [if_neg (show ¬ n.k = 3 by omega)]
  rw [if_pos h]
  rfl
theorem bodyS4 {n : Nd} (h : n.k = 4) (kd : Nat → Nat) (f : Nat → PS → PS) (s : PS) : bodyS kd f n s = betS [32, 124, 124, 32] f n.ks s := by
  unfold bodyS
  rw [if_neg (show ¬ n.k = 1 by omega)]
  rw [if_neg (show ¬ n.k = 2 by omega)]
  rw [if_neg (show ¬ n.k = 3 by omega)]
  rw [if_pos h]
theorem bodyC5 {n : Nd} (h : n.k = 5) (kd : Nat → Nat) : accL.bodyC kd n = n.ks.length := by
  unfold Acc.bodyC
  rw [if_neg (show ¬ n.k = 1 by omega)]
  rw [if_neg (show ¬ n.k = 2 by omega)]
  rw [if_neg (show ¬ n.k = 3 by omega)]
  rw [if_neg (show ¬ n.k = 4 by omega)]
  rw [if_pos h]
theorem bodyS5 {n : Nd} (h : n.k = 5) (kd : Nat → Nat) (f : Nat → PS → PS) (s : PS) : bodyS kd f n s = seqS f n.ks s := by
  unfold bodyS
  rw [if_neg (show ¬ n.k = 1 by omega)]
  rw [if_neg (show ¬ n.k = 2 by omega)]
  rw [if_neg (show ¬ n.k = 3 by omega)]
  rw [if_neg (show ¬ n.k = 4 by omega)]
  rw [if_pos h]
theorem bodyC6 {n : Nd} (h : n.k = 6) (kd : Nat → Nat) : accL.bodyC kd n = 2 + 1 + (4 + 1) + (if 2 < n.ks.length then 4 + 1 + (if kd (kid n 2) = 6 then 1 else 0) else 0) + 2 := by
  unfold Acc.bodyC
  rw [if_neg (show ¬ n.k = 1 by omega)]
  rw [if_neg (show ¬ n.k = 2 by omega)]
  rw [if_neg (show ¬ n.k = 3 by omega)]
  rw [if_neg (show ¬ n.k = 4 by omega)]
  rw [if_neg (show ¬ n.k = 5 by omega)]
  rw [if_pos h]
  rfl
theorem bodyS6 {n : Nd} (h : n.k = 6) (kd : Nat → Nat) (f : Nat → PS → PS) (s : PS) : bodyS kd f n s = asksS kd f n s := by
  unfold bodyS
  rw [if_neg (show ¬ n.k = 1 by omega)]
  rw [if_neg (show ¬ n.k = 2 by omega)]
  rw [if_neg (show ¬ n.k = 3 by omega)]
  rw [if_neg (show ¬ n.k = 4 by omega)]
  rw [if_neg (show ¬ n.k = 5 by omega)]
  rw [if_pos h]
theorem bodyC7 {n : Nd} (h : n.k = 7) (kd : Nat → Nat) : accL.bodyC kd n = 5 + 1 + (2 + 1) + 4 := by
  unfold Acc.bodyC
  rw [if_neg (show ¬ n.k = 1 by omega)]
  rw [if_neg (show ¬ n.k = 2 by omega)]
  rw [if_neg (show ¬ n.k = 3 by omega)]
  rw [if_neg (show ¬ n.k = 4 by omega)]
  rw [if_neg (show ¬ n.k = 5 by omega)]
  rw [if_neg (show ¬ n.k = 6 by omega)]
  rw [if_pos h]
  have : (if n.fl then [117, 110, 116, 105, 108] else [119, 104, 105, 108, 101] : Nm).length = 5 := by split <;> rfl
  rw [pl, this]
  rfl
theorem bodyS7 {n : Nd} (h : n.k = 7) (kd : Nat → Nat) (f : Nat → PS → PS) (s : PS) : bodyS kd f n s = loopS f n s := by
  unfold bodyS
  rw [if_neg (show ¬ n.k = 1 by omega)]
  rw [if_neg (show ¬ n.k = 2 by omega)]
  rw [if_neg (show ¬ n.k = 3 by omega)]
  rw [if_neg (show ¬ n.k = 4 by omega)]
  rw [if_neg (show ¬ n.k = 5 by omega)]
  rw [if_neg (show ¬ n.k = 6 by omega)]
  rw [if_pos h]
theorem bodyC8 {n : Nd} (h : n.k = 8) (kd : Nat → Nat) : accL.bodyC kd n = (4 + n.t.length) + (if n.fl then 0 else (Lib.join ([32, 105, 110] :: n.ws) [32]).length) + 1 + (2 + 1) + 4 := by
  unfold Acc.bodyC
  rw [if_neg (show ¬ n.k = 1 by omega)]
  rw [if_neg (show ¬ n.k = 2 by omega)]
  rw [if_neg (show ¬ n.k = 3 by omega)]
  rw [if_neg (show ¬ n.k = 4 by omega)]
  rw [if_neg (show ¬ n.k = 5 by omega)]
  rw [if_neg (show ¬ n.k = 6 by omega)]
  rw [if_neg (show ¬ n.k = 7 by omega)]
  rw [if_pos h]
  simp only [pl, List.length_append, List.length_cons, List.length_nil]
  try omega
theorem bodyS8 {n : Nd} (h : n.k = 8) (kd : Nat → Nat) (f : Nat → PS → PS) (s : PS) : bodyS kd f n s = eachS f n s := by
  unfold bodyS
  rw [if_neg (show ¬ n.k = 1 by omega)]
  rw [if_neg (show ¬ n.k = 2 by omega)]
  rw [if_neg (show ¬ n.k = 3 by omega)]
  rw [if_neg (show ¬ n.k = 4 by omega)]
  rw [if_neg (show ¬ n.k = 5 by omega)]
  rw [if_neg (show ¬ n.k = 6 by omega)]
  rw [if_neg (show ¬ n.k = 7 by omega)]
  rw [if_pos h]
theorem bodyC9 {n : Nd} (h : n.k = 9) (kd : Nat → Nat) : accL.bodyC kd n = (n.t.length + 8) + 1 + (n.ks.length - 1) * 0 + 4 := by
  unfold Acc.bodyC
  rw [if_neg (show ¬ n.k = 1 by omega)]
  rw [if_neg (show ¬ n.k = 2 by omega)]
  rw [if_neg (show ¬ n.k = 3 by omega)]
  rw [if_neg (show ¬ n.k = 4 by omega)]
  rw [if_neg (show ¬ n.k = 5 by omega)]
  rw [if_neg (show ¬ n.k = 6 by omega)]
  rw [if_neg (show ¬ n.k = 7 by omega)]
  rw [if_neg (show ¬ n.k = 8 by omega)]
  rw [if_pos h]
  simp only [pl, List.length_append, List.length_cons, List.length_nil]
  omega
theorem bodyS9 {n : Nd} (h : n.k = 9) (kd : Nat → Nat) (f : Nat → PS → PS) (s : PS) : bodyS kd f n s = casesS f n s := by
  unfold bodyS
  rw [if_neg (show ¬ n.k = 1 by omega)]
  rw [if_neg (show ¬ n.k = 2 by omega)]
  rw [if_neg (show ¬ n.k = 3 by omega)]
  rw [if_neg (show ¬ n.k = 4 by omega)]
  rw [if_neg (show ¬ n.k = 5 by omega)]
  rw [if_neg (show ¬ n.k = 6 by omega)]
  rw [if_neg (show ¬ n.k = 7 by omega)]
  rw [if_neg (show ¬ n.k = 8 by omega)]
  rw [if_pos h]
theorem bodyC10 {n : Nd} (h : n.k = 10) (kd : Nat → Nat) : accL.bodyC kd n = ((Lib.join n.ws [124]).length + 2) + 1 + 2 + 1 := by
  unfold Acc.bodyC
  rw [if_neg (show ¬ n.k = 1 by omega)]
  rw [if_neg (show ¬ n.k = 2 by omega)]
  rw [if_neg (show ¬ n.k = 3 by omega)]
  rw [if_neg (show ¬ n.k = 4 by omega)]
  rw [if_neg (show ¬ n.k = 5 by omega)]
  rw [if_neg (show ¬ n.k = 6 by omega)]
  rw [if_neg (show ¬ n.k = 7 by omega)]
  rw [if_neg (show ¬ n.k = 8 by omega)]
  rw [if_neg (show ¬ n.k = 9 by omega)]
  rw [if_pos h]
  simp only [pl, List.length_append, List.length_cons, List.length_nil]
  omega
theorem bodyS10 {n : Nd} (h : n.k = 10) (kd : Nat → Nat) (f : Nat → PS → PS) (s : PS) : bodyS kd f n s = itemS f n s := by
  unfold bodyS
  rw [if_neg (show ¬ n.k = 1 by omega)]
  rw [if_neg (show ¬ n.k = 2 by omega)]
  rw [if_neg (show ¬ n.k = 3 by omega)]
  rw [if_neg (show ¬ n.k = 4 by omega)]
  rw [if_neg (show ¬ n.k = 5 by omega)]
  rw [if_neg (show ¬ n.k = 6 by omega)]
  rw [if_neg (show ¬ n.k = 7 by omega)]
  rw [if_neg (show ¬ n.k = 8 by omega)]
  rw [if_neg (show ¬ n.k = 9 by omega)]
  rw [if_pos h]
theorem bodyC11 {n : Nd} (h : n.k = 11) (kd : Nat → Nat) : accL.bodyC kd n = 1 + 1 + 1 := by
  unfold Acc.bodyC
  rw [if_neg (show ¬ n.k = 1 by omega)]
  rw [if_neg (show ¬ n.k = 2 by omega)]
  rw [if_neg (show ¬ n.k = 3 by omega)]
  rw [if_neg (show ¬ n.k = 4 by omega)]
  rw [if_neg (show ¬ n.k = 5 by omega)]
  rw [if_neg (show ¬ n.k = 6 by omega)]
  rw [if_neg (show ¬ n.k = 7 by omega)]
  rw [if_neg (show ¬ n.k = 8 by omega)]
  rw [if_neg (show ¬ n.k = 9 by omega)]
  rw [if_neg (show ¬ n.k = 10 by omega)]
  rw [if_pos h]
  rfl
theorem bodyS11 {n : Nd} (h : n.k = 11) (kd : Nat → Nat) (f : Nat → PS → PS) (s : PS) : bodyS kd f n s = putS [125] (partS [123] (f (kid n 0)) s) := by
  unfold bodyS
  rw [if_neg (show ¬ n.k = 1 by omega)]
  rw [if_neg (show ¬ n.k = 2 by omega)]
  rw [if_neg (show ¬ n.k = 3 by omega)]
  rw [if_neg (show ¬ n.k = 4 by omega)]
  rw [if_neg (show ¬ n.k = 5 by omega)]
  rw [if_neg (show ¬ n.k = 6 by omega)]
  rw [if_neg (show ¬ n.k = 7 by omega)]
  rw [if_neg (show ¬ n.k = 8 by omega)]
  rw [if_neg (show ¬ n.k = 9 by omega)]
  rw [if_neg (show ¬ n.k = 10 by omega)]
  rw [if_pos h]
theorem bodyC12 {n : Nd} (h : n.k = 12) (kd : Nat → Nat) : accL.bodyC kd n = 1 + 1 + 1 := by
  unfold Acc.bodyC
  rw [if_neg (show ¬ n.k = 1 by omega)]
  rw [if_neg (show ¬ n.k = 2 by omega)]
  rw [if_neg (show ¬ n.k = 3 by omega)]
  rw [if_neg (show ¬ n.k = 4 by omega)]
  rw [if_neg (show ¬ n.k = 5 by omega)]
  rw [if_neg (show ¬ n.k = 6 by omega)]
  rw [if_neg (show ¬ n.k = 7 by omega)]
  rw [if_neg (show ¬ n.k = 8 by omega)]
  rw [if_neg (show ¬ n.k = 9 by omega)]
  rw [if_neg (show ¬ n.k = 10 by omega)]
  rw [if_neg (show ¬ n.k = 11 by omega)]
  rw [if_pos h]
  rfl
theorem bodyS12 {n : Nd} (h : n.k = 12) (kd : Nat → Nat) (f : Nat → PS → PS) (s : PS) : bodyS kd f n s = putS [41] (partS [40] (f (kid n 0)) s) := by
  unfold bodyS
  rw [if_neg (show ¬ n.k = 1 by omega)]
  rw [if_neg (show ¬ n.k = 2 by omega)]
  rw [if_neg (show ¬ n.k = 3 by omega)]
  rw [if_neg (show ¬ n.k = 4 by omega)]
  rw [if_neg (show ¬ n.k = 5 by omega)]
  rw [if_neg (show ¬ n.k = 6 by omega)]
  rw [if_neg (show ¬ n.k = 7 by omega)]
  rw [if_neg (show ¬ n.k = 8 by omega)]
  rw [if_neg (show ¬ n.k = 9 by omega)]
  rw [if_neg (show ¬ n.k = 10 by omega)]
  rw [if_neg (show ¬ n.k = 11 by omega)]
  rw [if_pos h]
theorem bodyC13 {n : Nd} (h : n.k = 13) (kd : Nat → Nat) : accL.bodyC kd n = n.t.length + 3 := by
  unfold Acc.bodyC
  rw [if_neg (show ¬ n.k = 1 by omega)]
  rw [if_neg (show ¬ n.k = 2 by omega)]
  rw [if_neg (show ¬ n.k = 3 by omega)]
  rw [if_neg (show ¬ n.k = 4 by omega)]
  rw [if_neg (show ¬ n.k = 5 by omega)]
  rw [if_neg (show ¬ n.k = 6 by omega)]
  rw [if_neg (show ¬ n.k = 7 by omega)]
  rw [if_neg (show ¬ n.k = 8 by omega)]
  rw [if_neg (show ¬ n.k = 9 by omega)]
  rw [if_neg (show ¬ n.k = 10 by omega)]
  rw [if_neg (show ¬ n.k = 11 by omega)]
  rw [if_neg (show ¬ n.k = 12 by omega)]
  
  simp only [pl, List.length_append, List.length_cons, List.length_nil]
theorem bodyS13 {n : Nd} (h : n.k = 13) (kd : Nat → Nat) (f : Nat → PS → PS) (s : PS) : bodyS kd f n s = f (kid n 0) (putS (n.t ++ [40, 41, 32]) s) := by
  unfold bodyS
  rw [if_neg (show ¬ n.k = 1 by omega)]
  rw [if_neg (show ¬ n.k = 2 by omega)]
  rw [if_neg (show ¬ n.k = 3 by omega)]
  rw [if_neg (show ¬ n.k = 4 by omega)]
  rw [if_neg (show ¬ n.k = 5 by omega)]
  rw [if_neg (show ¬ n.k = 6 by omega)]
  rw [if_neg (show ¬ n.k = 7 by omega)]
  rw [if_neg (show ¬ n.k = 8 by omega)]
  rw [if_neg (show ¬ n.k = 9 by omega)]
  rw [if_neg (show ¬ n.k = 10 by omega)]
  rw [if_neg (show ¬ n.k = 11 by omega)]
  rw [if_neg (show ¬ n.k = 12 by omega)]
  
set_option maxHeartbeats 4000000 in
theorem meth_all (l : List Nd) (b B : Nat) (tv : Value) (ht : Tr l) (hl : l.length ≤ 50000) (k : Nat) (n : Nd) (hk : l[k]? = some n) (hn : NSmall n) (ih : ∀ j ∈ n.ks, KidC l b B tv (j : Int) (showAt l j) (wAt (accL.nodeC l) l j)) :
    MethC (methN n.k) l b B tv n (bodyS (kdOf l) (showAt l) n) (accL.bodyC (kdOf l) n + (n.ks.map (wAt (accL.nodeC l) l)).sum) := by
  obtain ⟨hkl, hkn⟩ := List.getElem?_eq_some_iff.1 hk
  have hmem : n ∈ l := List.mem_of_getElem? hk
  obtain ⟨h6, h7, h8, ⟨hk1, h1⟩, h13⟩ := ht.fits n hmem
  have hlow : ∀ j ∈ n.ks, j < l.length := fun j hj => by
    have := ht.kids k hkl j (by rw [hkn]; exact hj)
    omega
  have hc : ∀ j ∈ n.ks, ∀ s, lenS (showAt l j s) ≤ lenS s + wAt (accL.nodeC l) l j := fun j hj s => accL.showAt ht j (hlow j hj) s
  have hkk : n.k = 1 ∨ n.k = 2 ∨ n.k = 3 ∨ n.k = 4 ∨ n.k = 5 ∨ n.k = 6 ∨ n.k = 7 ∨ n.k = 8 ∨ n.k = 9 ∨ n.k = 10 ∨ n.k = 11 ∨ n.k = 12 ∨ n.k = 13 := by omega
  rcases hkk with e1 | e2 | e3 | e4 | e5 | e6 | e7 | e8 | e9 | e10 | e11 | e12 | e13
  · rw [e1, bodyC1 e1]
    refine ⟨⟨_, Tryz.func26, by kernel_rfl, by kernel_rfl⟩, fun W bv s uw ur uk hp htr hr hle => ?_⟩
    rw [bodyS1 e1]
    exact simple_calls W b B tv bv s l hp htr n uw ur uk hr hn.rs hn.ws hn.rd (by omega)
  · rw [e2, bodyC2 e2]
    refine ⟨⟨_, Tryz.func27, by kernel_rfl, by kernel_rfl⟩, fun W bv s uw ur uk hp htr hr hle => ?_⟩
    rw [bodyS2 e2]
    exact pipe_calls W b B tv bv s l hp htr n uw ur uk hr _ _ ih hc hn.ks (by rw [betC_eq]; omega)
  · rw [e3, bodyC3 e3]
    refine ⟨⟨_, Tryz.func28, by kernel_rfl, by kernel_rfl⟩, fun W bv s uw ur uk hp htr hr hle => ?_⟩
    rw [bodyS3 e3]
    exact and_calls W b B tv bv s l hp htr n uw ur uk hr _ _ ih hc hn.ks (by rw [betC_eq]; omega)
  · rw [e4, bodyC4 e4]
    refine ⟨⟨_, Tryz.func29, by kernel_rfl, by kernel_rfl⟩, fun W bv s uw ur uk hp htr hr hle => ?_⟩
    rw [bodyS4 e4]
    exact or_calls W b B tv bv s l hp htr n uw ur uk hr _ _ ih hc hn.ks (by rw [betC_eq]; omega)
  · rw [e5, bodyC5 e5]
    refine ⟨⟨_, Tryz.func30, by kernel_rfl, by kernel_rfl⟩, fun W bv s uw ur uk hp htr hr hle => ?_⟩
    rw [bodyS5 e5]
    exact seq_calls W b B tv bv s l hp htr n uw ur uk hr _ _ ih hc hn.ks (by rw [seqC_eq]; omega)
  · rw [e6, bodyC6 e6]
    refine ⟨⟨_, Tryz.func31, by kernel_rfl, by kernel_rfl⟩, fun W bv s uw ur uk hp htr hr hle => ?_⟩
    rw [bodyS6 e6]
    rcases h6 e6 with h2 | h3
    · rw [kids2 h2, if_neg (by omega)] at hle
      exact asks2_calls W b B tv bv s l hp htr n uw ur uk hr h2 _ _ ih hc (by omega)
    · rw [kids3 h3, if_pos (by omega)] at hle
      exact asks3_calls W b B tv bv s l hp htr n uw ur uk hr h3 _ _ ih hc (hlow _ (kid_mem (by omega))) (by omega)
  · rw [e7, bodyC7 e7]
    refine ⟨⟨_, Tryz.func32, by kernel_rfl, by kernel_rfl⟩, fun W bv s uw ur uk hp htr hr hle => ?_⟩
    rw [bodyS7 e7]
    rw [kids2 (h7 e7)] at hle
    exact loop_calls W b B tv bv s l hp htr n uw ur uk hr (h7 e7) _ _ ih hc (by omega)
  · rw [e8, bodyC8 e8]
    refine ⟨⟨_, Tryz.func33, by kernel_rfl, by kernel_rfl⟩, fun W bv s uw ur uk hp htr hr hle => ?_⟩
    rw [bodyS8 e8]
    rw [kids1 (h8 (.inl e8))] at hle
    cases hf : n.fl with
    | true =>
      rw [hf] at hle
      exact each_all_calls W b B tv bv s l hp htr n uw ur uk hr (h8 (.inl e8)) hf hn.ws _ _ ih hc (by simp only [if_true] at hle; omega)
    | false =>
      rw [hf] at hle
      exact each_in_calls W b B tv bv s l hp htr n uw ur uk hr (h8 (.inl e8)) hf hn.ws _ _ ih hc (by simp only [Bool.false_eq_true, if_false] at hle; omega)
  · rw [e9, bodyC9 e9]
    refine ⟨⟨_, Tryz.func34, by kernel_rfl, by kernel_rfl⟩, fun W bv s uw ur uk hp htr hr hle => ?_⟩
    rw [bodyS9 e9]
    have hbt := accL.betS [] (f := showAt l) (w := wAt (accL.nodeC l) l) hc (lnS (putS ([99, 97, 115, 101, 32] ++ n.t ++ [32, 105, 110]) s))
    have hb2 : lenS (betS [] (showAt l) n.ks (lnS (putS ([99, 97, 115, 101, 32] ++ n.t ++ [32, 105, 110]) s))) ≤ lenS (lnS (putS ([99, 97, 115, 101, 32] ++ n.t ++ [32, 105, 110]) s)) + ((n.ks.length - 1) * 0 + (n.ks.map (wAt (accL.nodeC l) l)).sum) := hbt
    rw [len_ln, len_put] at hb2
    simp only [List.length_append, List.length_cons, List.length_nil] at hb2
    exact cases_calls W b B tv bv s l hp htr n uw ur uk hr _ _ ih hc (by omega) hn.ks (by rw [betC_eq]; omega)
  · rw [e10, bodyC10 e10]
    refine ⟨⟨_, Tryz.func35, by kernel_rfl, by kernel_rfl⟩, fun W bv s uw ur uk hp htr hr hle => ?_⟩
    rw [bodyS10 e10]
    rw [kids1 (h8 (.inr (by omega)))] at hle
    exact item_calls W b B tv bv s l hp htr n uw ur uk hr (h8 (.inr (by omega))) (by have := hn.ws; unfold big; omega) _ _ ih hc (by omega)
  · rw [e11, bodyC11 e11]
    refine ⟨⟨_, Tryz.func36, by kernel_rfl, by kernel_rfl⟩, fun W bv s uw ur uk hp htr hr hle => ?_⟩
    rw [bodyS11 e11]
    rw [kids1 (h8 (.inr (by omega)))] at hle
    exact group_calls W b B tv bv s l hp htr n uw ur uk hr (h8 (.inr (by omega))) _ _ (ih _ (kid_mem (by have := h8 (.inr (by omega)); omega))) (hc _ (kid_mem (by have := h8 (.inr (by omega)); omega))) (by omega)
  · rw [e12, bodyC12 e12]
    refine ⟨⟨_, Tryz.func37, by kernel_rfl, by kernel_rfl⟩, fun W bv s uw ur uk hp htr hr hle => ?_⟩
    rw [bodyS12 e12]
    rw [kids1 (h8 (.inr (by omega)))] at hle
    exact sub_calls W b B tv bv s l hp htr n uw ur uk hr (h8 (.inr (by omega))) _ _ (ih _ (kid_mem (by have := h8 (.inr (by omega)); omega))) (hc _ (kid_mem (by have := h8 (.inr (by omega)); omega))) (by omega)
  · rw [e13, bodyC13 e13]
    refine ⟨⟨_, Tryz.func38, by kernel_rfl, by kernel_rfl⟩, fun W bv s uw ur uk hp htr hr hle => ?_⟩
    rw [bodyS13 e13]
    rw [kids1 (h8 (.inr (by omega)))] at hle
    exact function_calls W b B tv bv s l hp htr n uw ur uk hr (h8 (.inr (by omega))) _ _ (ih _ (kid_mem (by have := h8 (.inr (by omega)); omega))) (by omega)
/-- Every node. -/
theorem kid_all (l : List Nd) (b B : Nat) (tv : Value) (ht : Tr l) (hl : l.length ≤ 50000) (hs : ∀ n ∈ l, NSmall n) : ∀ k, k < l.length → KidC l b B tv (k : Int) (showAt l k) (wAt (accL.nodeC l) l k) := by
  intro k
  induction k using Nat.strongRecOn with
  | _ k ih =>
    intro hk
    have hkn := List.getElem?_eq_getElem hk
    obtain ⟨n, hn⟩ : ∃ n, l[k] = n := ⟨_, rfl⟩
    rw [hn] at hkn
    have hmem : n ∈ l := List.mem_of_getElem? hkn
    have hsm := hs n hmem
    obtain ⟨h6, h7, h8, ⟨hk1, h1⟩, h13⟩ := ht.fits n hmem
    have hlow : ∀ j ∈ n.ks, j < k := fun j hj => ht.kids k hk j (by rw [hn]; exact hj)
    have hm := meth_all l b B tv ht hl k n hkn hsm (fun j hj => ih j (hlow j hj) (by have := hlow j hj; omega))
    have hb : ∀ s, lenS (bodyS (kdOf l) (showAt l) n s) ≤ lenS s + (accL.bodyC (kdOf l) n + (n.ks.map (wAt (accL.nodeC l) l)).sum) := fun s => accL.body (kdOf l) (ht.fits n hmem) (f := showAt l) (w := wAt (accL.nodeC l) l) (fun j hj s => accL.showAt ht j (by have := hlow j hj; omega) s) s
    have hw := wAt_eq (c := accL.nodeC l) ht hkn
    have hC : wAt (accL.nodeC l) l k = accL.bodyC (kdOf l) n + (n.ks.map (wAt (accL.nodeC l) l)).sum + (if n.k = 1 then 0 else accL.tailC n.rs) := by
      rw [hw]
      have : accL.nodeC l n = accL.bodyC (kdOf l) n + (if n.k = 1 then 0 else accL.tailC n.rs) := rfl
      rw [this]
      omega
    have hall := node_calls l b B tv k n hkn ⟨hk1, h13⟩ hsm.rs hsm.rd _ _ _ hm hb hC
    have he : (fun s => if n.k = 1 then bodyS (kdOf l) (showAt l) n s else tailS n.rs (bodyS (kdOf l) (showAt l) n s)) = showAt l k := funext fun s => (showAt_eq ht hkn s).symm
    rw [he] at hall
    exact hall
end Go.Proofs.YtiklkhbfilbpeaaGreatDoor.Ux
