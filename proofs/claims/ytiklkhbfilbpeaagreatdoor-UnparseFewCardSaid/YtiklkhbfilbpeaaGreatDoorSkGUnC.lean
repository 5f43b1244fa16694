/-
  Unparse: function, and, or, pipe. Conditions: as each contract says.
  Unparse: a sequence. Conditions: as the contract says.
  Unparse: a loop. Conditions: as the contract says.
  Unparse: texts are joined. Conditions: as the contract says.
  Unparse: cases, a case. Conditions: as each contract says.
  Unparse: a case. Conditions: as the contract says.
-/
import Derived.Test.YtiklkhbfilbpeaaGreatDoorSkGUnB
set_option linter.unusedVariables false
set_option linter.unusedSimpArgs false
set_option maxRecDepth 100000
namespace Go.Proofs.YtiklkhbfilbpeaaGreatDoor.Ux
open Go.RowKit Base Lx Sy Sx Un
set_option maxHeartbeats 1000000 in
theorem function_calls (W : World) (b B : Nat) (tv bv : Value) (s : PS) (l : List Nd) (h : Pr W b B tv bv s) (ht : TrAt W B tv l) (n : Nd) (uw ur uk : Value) (hr : Sx.Rows W (fun g => g < B) n uw ur uk) (hks : n.ks.length = 1) (f : PS → PS) (c : Nat) (hk : KidC l b B tv (kid n 0 : Int) f c) (hl : lenS s + (n.t.length + 3 + c) ≤ big) :
    Calls Tryz.prog 38 #[.pointer (some ⟨b, 0, none⟩), ndV n uw ur uk] W fun r W' => Post W b B tv bv (f (putS (n.t ++ [40, 41, 32]) s)) r W' := by
  obtain ⟨w1, N, hal, hN, HX⟩ := nd_box h ht hr
  obtain ⟨g, cc, huk, ck⟩ := HX.out.2.2.2.kid (i := 0) (by omega)
  rw [hks] at huk
  subst huk
  obtain ⟨c0, c1, c2, c3, c5, c6⟩ := HX.out.2.2.2.cells
  have hps : putsS [n.t, [40, 41, 32]] s = putS (n.t ++ [40, 41, 32]) s := by simp [putsS, putS]
  have hput := put_new w1 b B tv bv s HX.out.2.1 2 [n.t, [40, 41, 32]] (by have := fst_le s; simp only [List.flatten_cons, List.flatten_nil, List.length_append, List.length_cons, List.length_nil]; omega) (by simp)
  rw [hps] at hput
  have HP := Lib.hid hput
  have HL := Lib.hid hl
  have HK := Lib.hid hk
  have HKs := Lib.hid hks
  unfold ndV
  clear h ht hr hk hl hks hput hps
  go_enter Tryz.func38, Tryz.ntmps38
  go_wp2_with fail
  refine HP.out.mono ?_
  rintro r w2 ⟨bv2, rfl, ht2, hp2⟩
  have HT2 : Hid (Sx.Turn b bv W bv2 w2) := (Sx.Turn.of_below HX.out.1).trans ht2
  have hn2 := HX.out.2.2.2.turn HX.out.2.1 ht2
  have d6 := hn2.cells.2.2.2.2.2
  have k2 := hn2.kcell (i := 0) (by rw [HKs.out]; decide)
  have HKc := Lib.hid (HK.out w2 bv2 _ hp2 (HX.out.2.2.1.below (turn_low HX.out.2.1 ht2)) (by have h1 := HL.out; have h2 := len_put (n.t ++ [40, 41, 32]) s; simp only [List.length_append, List.length_cons, List.length_nil] at *; omega))
  clear ht2 hp2 hn2
  go_wp2_with fail
  refine HKc.out.mono ?_
  rintro r w3 ⟨bv3, rfl, ht3, hp3⟩
  go_wp2
  go_end0
  exact ⟨bv3, rfl, HT2.out.trans ht3, hp3⟩
set_option maxHeartbeats 1000000 in
theorem and_calls (W : World) (b B : Nat) (tv bv : Value) (s : PS) (l : List Nd) (h : Pr W b B tv bv s) (ht : TrAt W B tv l) (n : Nd) (uw ur uk : Value) (hr : Sx.Rows W (fun g => g < B) n uw ur uk) (f : Nat → PS → PS) (c : Nat → Nat) (hk : ∀ k ∈ n.ks, KidC l b B tv (k : Int) (f k) (c k)) (hc : ∀ k ∈ n.ks, ∀ s, lenS (f k s) ≤ lenS s + c k) (hn : n.ks.length ≤ 100000) (hl : lenS s + betC 4 c n.ks ≤ big) :
    Calls Tryz.prog 28 #[.pointer (some ⟨b, 0, none⟩), ndV n uw ur uk] W fun r W' => Post W b B tv bv (betS [32, 38, 38, 32] f n.ks s) r W' := by
  obtain ⟨w1, N, hal, hN, HX⟩ := nd_box h ht hr
  obtain ⟨c0, c1, c2, c3, c5, c6⟩ := HX.out.2.2.2.cells
  have HP := Lib.hid (between_calls w1 b B tv bv s l HX.out.2.1 HX.out.2.2.1 [32, 38, 38, 32] uk n.ks (ints_of HX.out.2.2.2.rows.k HX.out.2.2.2.rows.qk) f c hk hc hn hl)
  unfold ndV
  clear h ht hr hk hl hc hn
  go_enter Tryz.func28, Tryz.ntmps28
  go_wp2_with fail
  refine HP.out.mono ?_
  rintro r w2 ⟨bv2, rfl, ht2, hp2⟩
  go_wp2
  go_end0
  exact ⟨bv2, rfl, (Sx.Turn.of_below HX.out.1).trans ht2, hp2⟩
set_option maxHeartbeats 1000000 in
theorem or_calls (W : World) (b B : Nat) (tv bv : Value) (s : PS) (l : List Nd) (h : Pr W b B tv bv s) (ht : TrAt W B tv l) (n : Nd) (uw ur uk : Value) (hr : Sx.Rows W (fun g => g < B) n uw ur uk) (f : Nat → PS → PS) (c : Nat → Nat) (hk : ∀ k ∈ n.ks, KidC l b B tv (k : Int) (f k) (c k)) (hc : ∀ k ∈ n.ks, ∀ s, lenS (f k s) ≤ lenS s + c k) (hn : n.ks.length ≤ 100000) (hl : lenS s + betC 4 c n.ks ≤ big) :
    Calls Tryz.prog 29 #[.pointer (some ⟨b, 0, none⟩), ndV n uw ur uk] W fun r W' => Post W b B tv bv (betS [32, 124, 124, 32] f n.ks s) r W' := by
  obtain ⟨w1, N, hal, hN, HX⟩ := nd_box h ht hr
  obtain ⟨c0, c1, c2, c3, c5, c6⟩ := HX.out.2.2.2.cells
  have HP := Lib.hid (between_calls w1 b B tv bv s l HX.out.2.1 HX.out.2.2.1 [32, 124, 124, 32] uk n.ks (ints_of HX.out.2.2.2.rows.k HX.out.2.2.2.rows.qk) f c hk hc hn hl)
  unfold ndV
  clear h ht hr hk hl hc hn
  go_enter Tryz.func29, Tryz.ntmps29
  go_wp2_with fail
  refine HP.out.mono ?_
  rintro r w2 ⟨bv2, rfl, ht2, hp2⟩
  go_wp2
  go_end0
  exact ⟨bv2, rfl, (Sx.Turn.of_below HX.out.1).trans ht2, hp2⟩
set_option maxHeartbeats 1000000 in
theorem pipe_calls (W : World) (b B : Nat) (tv bv : Value) (s : PS) (l : List Nd) (h : Pr W b B tv bv s) (ht : TrAt W B tv l) (n : Nd) (uw ur uk : Value) (hr : Sx.Rows W (fun g => g < B) n uw ur uk) (f : Nat → PS → PS) (c : Nat → Nat) (hk : ∀ k ∈ n.ks, KidC l b B tv (k : Int) (f k) (c k)) (hc : ∀ k ∈ n.ks, ∀ s, lenS (f k s) ≤ lenS s + c k) (hn : n.ks.length ≤ 100000) (hl : lenS s + ((if n.fl then 2 else 0) + betC 3 c n.ks) ≤ big) :
    Calls Tryz.prog 27 #[.pointer (some ⟨b, 0, none⟩), ndV n uw ur uk] W fun r W' => Post W b B tv bv (betS [32, 124, 32] f n.ks (if n.fl then putS [33, 32] s else s)) r W' := by
  obtain ⟨w1, N, hal, hN, HX⟩ := nd_box h ht hr
  obtain ⟨c0, c1, c2, c3, c5, c6⟩ := HX.out.2.2.2.cells
  have HK := Lib.hid hk
  have HC := Lib.hid hc
  have HN := Lib.hid hn
  obtain ⟨fl, hfl⟩ : ∃ fl, n.fl = fl := ⟨_, rfl⟩
  rw [hfl] at c2 hl ⊢
  unfold ndV at *
  rw [hfl] at hal ⊢
  clear hfl
  have HL := Lib.hid hl
  clear h ht hr hk hl hc hn
  go_enter Tryz.func27, Tryz.ntmps27
  cases fl with
  | false =>
    have HP := Lib.hid (between_calls w1 b B tv bv s l HX.out.2.1 HX.out.2.2.1 [32, 124, 32] uk n.ks (ints_of HX.out.2.2.2.rows.k HX.out.2.2.2.rows.qk) f c HK.out HC.out HN.out (by have := HL.out; simpa using this))
    go_wp2_with fail
    refine HP.out.mono ?_
    rintro r w2 ⟨bv2, rfl, ht2, hp2⟩
    go_wp2
    go_end0
    exact ⟨bv2, rfl, (Sx.Turn.of_below HX.out.1).trans ht2, hp2⟩
  | true =>
    have HL2 : Hid (lenS s + (2 + betC 3 c n.ks) ≤ big) := by have := HL.out; show _ ≤ _; simpa using this
    have HPu := Lib.hid (put1_new w1 b B tv bv s HX.out.2.1 [33, 32] (by have := HL2.out; have := fst_le s; simp only [List.length_cons, List.length_nil]; omega))
    go_wp2_with fail
    refine HPu.out.mono ?_
    rintro r w2 ⟨bv2, rfl, ht2, hp2⟩
    have HT2 : Hid (Sx.Turn b bv W bv2 w2) := (Sx.Turn.of_below HX.out.1).trans ht2
    have hn2 := HX.out.2.2.2.turn HX.out.2.1 ht2
    have d6 := hn2.cells.2.2.2.2.2
    have HP := Lib.hid (between_calls w2 b B tv bv2 _ l hp2 (HX.out.2.2.1.below (turn_low HX.out.2.1 ht2)) [32, 124, 32] uk n.ks (ints_of hn2.rows.k hn2.rows.qk) f c HK.out HC.out HN.out (by have h1 := HL2.out; show lenS (putS [33, 32] s) + betC 3 c n.ks ≤ big; rw [len_put]; show lenS s + 2 + betC 3 c n.ks ≤ big; omega))
    clear ht2 hp2 hn2
    go_wp2_with fail
    refine HP.out.mono ?_
    rintro r w3 ⟨bv3, rfl, ht3, hp3⟩
    go_wp2
    go_end0
    exact ⟨bv3, rfl, HT2.out.trans ht3, hp3⟩
end Go.Proofs.YtiklkhbfilbpeaaGreatDoor.Ux
set_option linter.unusedVariables false
set_option linter.unusedSimpArgs false
set_option maxRecDepth 100000
namespace Go.Proofs.YtiklkhbfilbpeaaGreatDoor.Ux
open Go.RowKit Base Lx Sy Sx Un
set_option maxHeartbeats 1000000 in
theorem seq_calls (W : World) (b B : Nat) (tv bv : Value) (s : PS) (l : List Nd) (h : Pr W b B tv bv s) (ht : TrAt W B tv l) (n : Nd) (uw ur uk : Value) (hr : Sx.Rows W (fun g => g < B) n uw ur uk) (f : Nat → PS → PS) (c : Nat → Nat) (hk : ∀ k ∈ n.ks, KidC l b B tv (k : Int) (f k) (c k)) (hc : ∀ k ∈ n.ks, ∀ s, lenS (f k s) ≤ lenS s + c k) (hn : n.ks.length ≤ 100000) (hl : lenS s + (n.ks.map fun k => c k + 1).sum ≤ big) :
    Calls Tryz.prog 30 #[.pointer (some ⟨b, 0, none⟩), ndV n uw ur uk] W fun r W' => Post W b B tv bv (seqS f n.ks s) r W' := by
  obtain ⟨w1, N, hal, hN, HX⟩ := nd_box h ht hr
  obtain ⟨c0, c1, c2, c3, c5, c6⟩ := HX.out.2.2.2.cells
  obtain ⟨ua, uc, hu, hcs⟩ := ints_of HX.out.2.2.2.rows.k HX.out.2.2.2.rows.qk
  obtain ⟨ks, hks⟩ : ∃ ks, n.ks = ks := ⟨_, rfl⟩
  rw [hks] at hu hcs hk hc hn hl ⊢
  clear hks
  subst hu
  have HCs : Hid (∀ W', Below B w1 W' → ∀ (j k : Nat), ks[j]? = some k → ∃ g, ua = some ⟨g, 0, none⟩ ∧ g < B ∧ W'.cell? ⟨g, j, none⟩ = some (.int .i64 (k : Int))) := fun W' hb j k hj => by
    obtain ⟨a', c', h1, h2⟩ := IntsAt.below (u := .slice ua ks.length uc) ⟨ua, uc, rfl, hcs⟩ hb
    injection h1 with h1
    subst h1
    exact h2 j k hj
  have HK := Lib.hid hk
  have HC := Lib.hid hc
  have HL := Lib.hid hl
  obtain ⟨m, hm⟩ : ∃ m, ks.length = m := ⟨_, rfl⟩
  have HN2 := Lib.hid hm
  have hn1 : m ≤ 100000 := by omega
  rw [hm] at c6
  unfold ndV
  rw [hm] at hal ⊢
  clear hcs h ht hr hk hc hl hn hm
  go_enter Tryz.func30, Tryz.ntmps30
  go_wp2_with fail
  go_loopw [9] (fun v9 wr => ∃ (i : Nat) (bv' : Value) (s' : PS), i ≤ m ∧ v9 = .int .i64 (i : Int) ∧ Sx.Turn b bv w1 bv' wr ∧ Pr wr b B tv bv' s' ∧ seqS f ks s = seqS f (ks.drop i) s' ∧ lenS s' + ((ks.drop i).map fun k => c k + 1).sum ≤ big) (fun v9 _ => m - nOf v9)
  case atStart => exact ⟨0, bv, s, Nat.zero_le _, rfl, Sx.Turn.refl _ _ _, HX.out.2.1, rfl, HL.out⟩
  case round =>
    obtain ⟨i, bv', s', hi, rfl, hT, hR, h0, h1⟩ := hrel
    have HT := Lib.hid hT
    have HR := Lib.hid hR
    have H0 := Lib.hid h0
    have H1 := Lib.hid h1
    clear hT hR h0 h1
    by_cases hin : i < m
    case neg =>
      obtain rfl : i = m := by omega
      have a3 : decide (i < i) = false := decide_eq_false (by omega)
      have a1 : decide ((i : Int) < (i : Int)) = false := decide_eq_false (by omega)
      have a2 : ¬ ((i : Int) < (i : Int)) := by omega
      go_wp2_with fail
      go_end0
      refine ⟨bv', rfl, (Sx.Turn.of_below HX.out.1).trans HT.out, ?_⟩
      rw [H0.out, List.drop_of_length_le (by rw [HN2.out]; exact Nat.le_refl _)]
      exact HR.out
    obtain ⟨k, hk⟩ : ∃ k, ks[i]? = some k := ⟨_, List.getElem?_eq_getElem (by have := HN2.out; omega)⟩
    obtain ⟨g, hua, hgB, k0⟩ := HCs.out wr (turn_low HX.out.2.1 HT.out) i k hk
    have HKi := Lib.hid hk
    have HMem : Hid (k ∈ ks) := List.mem_of_getElem? hk
    subst hua
    clear hk
    have XI := fun w' => idx_in1 (g := g) (n := m) (c := uc) i hin w'
    have a3 : decide (i < m) = true := decide_eq_true (by omega)
    have a1 : decide ((i : Int) < (m : Int)) = true := decide_eq_true (by omega)
    have a2 : (i : Int) < (m : Int) := by omega
    have HD : Hid (ks.drop i = k :: ks.drop (i + 1)) := by
      have h2 := HKi.out
      obtain ⟨h3, h4⟩ := List.getElem?_eq_some_iff.1 h2
      show _ = _
      rw [List.drop_eq_getElem_cons h3, h4]
    have HLs : Hid (lenS s' + (c k + 1 + ((ks.drop (i + 1)).map fun k => c k + 1).sum) ≤ big) := by
      have := H1.out
      rw [HD.out, List.map_cons, List.sum_cons] at this
      exact this
    have HKc := Lib.hid (HK.out k HMem.out wr bv' s' HR.out (HX.out.2.2.1.below (turn_low HX.out.2.1 HT.out)) (by have := HLs.out; omega))
    go_wp2_with fail
    refine HKc.out.mono ?_
    rintro r w2 ⟨bv2, rfl, ht2, hp2⟩
    have HT2 := Lib.hid (HT.out.trans ht2)
    have HLi := Lib.hid (line_calls w2 b B tv bv2 _ hp2 (by have := HLs.out; have := HC.out k HMem.out s'; omega))
    clear ht2 hp2
    go_wp2_with fail
    refine HLi.out.mono ?_
    rintro r w3 ⟨bv3, rfl, ht3, hp3⟩
    have HT3 := Lib.hid (HT2.out.trans ht3)
    have HP3 := Lib.hid hp3
    clear ht3 hp3
    go_wp2
    refine ⟨⟨i + 1, bv3, lnS (f k s'), by omega, by simp, HT3.out, HP3.out, ?_, ?_⟩, ?_⟩
    · rw [H0.out, HD.out]; rfl
    · have h5 := HC.out k HMem.out s'
      have := HLs.out
      rw [len_ln]
      omega
    · simp [nOf]; omega
end Go.Proofs.YtiklkhbfilbpeaaGreatDoor.Ux
set_option linter.unusedVariables false
set_option linter.unusedSimpArgs false
set_option maxRecDepth 100000
namespace Go.Proofs.YtiklkhbfilbpeaaGreatDoor.Ux
open Go.RowKit Base Lx Sy Sx Un
set_option maxHeartbeats 2000000 in
theorem loop_calls (W : World) (b B : Nat) (tv bv : Value) (s : PS) (l : List Nd) (h : Pr W b B tv bv s) (ht : TrAt W B tv l) (n : Nd) (uw ur uk : Value) (hr : Sx.Rows W (fun g => g < B) n uw ur uk) (hks : n.ks.length = 2) (f : Nat → PS → PS) (c : Nat → Nat) (hk : ∀ k ∈ n.ks, KidC l b B tv (k : Int) (f k) (c k)) (hc : ∀ k ∈ n.ks, ∀ s, lenS (f k s) ≤ lenS s + c k) (hl : lenS s + (5 + 1 + (2 + 1) + 4 + (c (kid n 0) + c (kid n 1))) ≤ big) :
    Calls Tryz.prog 32 #[.pointer (some ⟨b, 0, none⟩), ndV n uw ur uk] W fun r W' => Post W b B tv bv (loopS f n s) r W' := by
  obtain ⟨w1, N, hal, hN, HX⟩ := nd_box h ht hr
  obtain ⟨g, cc, huk, k0⟩ := HX.out.2.2.2.kid (i := 0) (by omega)
  rw [hks] at huk
  subst huk
  have k1 := HX.out.2.2.2.kcell (i := 1) (by omega)
  obtain ⟨c0, c1, c2, c3, c5, c6⟩ := HX.out.2.2.2.cells
  have HM0 : Hid (kid n 0 ∈ n.ks) := kid_mem (by omega)
  have HM1 : Hid (kid n 1 ∈ n.ks) := kid_mem (by omega)
  have HK := Lib.hid hk
  have HC := Lib.hid hc
  have HL := Lib.hid hl
  have HKs := Lib.hid hks
  obtain ⟨wd, hwd⟩ : ∃ wd : Nm, (if n.fl then [117, 110, 116, 105, 108] else [119, 104, 105, 108, 101]) = wd := ⟨_, rfl⟩
  have hwl : wd.length = 5 := by rw [← hwd]; split <;> rfl
  have hlo : loopS f n s = putS [100, 111, 110, 101] (partS [100, 111] (f (kid n 1)) (partS wd (f (kid n 0)) s)) := by unfold loopS; rw [hwd]
  have HLo := Lib.hid hlo
  have HWl := Lib.hid hwl
  have HP := Lib.hid (part_calls w1 b B tv bv s l HX.out.2.1 HX.out.2.2.1 wd (kid n 0 : Int) _ _ (hk _ HM0.out) (by omega))
  obtain ⟨fl, hfl⟩ : ∃ fl, n.fl = fl := ⟨_, rfl⟩
  rw [hfl] at c2 hwd hal
  unfold ndV
  rw [hfl]
  clear hfl h ht hr hk hl hc hks hlo hwl
  go_enter Tryz.func32, Tryz.ntmps32
  have HGo : Hid (∀ (r : Ending) (w2 : World), Post w1 b B tv bv (partS wd (f (kid n 0)) s) r w2 → True) := fun _ _ _ => trivial
  cases fl with
  | false =>
    have hwd : ([119, 104, 105, 108, 101] : Nm) = wd := hwd
    subst hwd
    go_wp2_with fail
    refine HP.out.mono ?_
    rintro r w2 ⟨bv2, rfl, ht2, hp2⟩
    have HT2 : Hid (Sx.Turn b bv W bv2 w2) := (Sx.Turn.of_below HX.out.1).trans ht2
    have hn2 := HX.out.2.2.2.turn HX.out.2.1 ht2
    have d6 := hn2.cells.2.2.2.2.2
    have k2 := hn2.kcell (i := 1) (by rw [HKs.out]; decide)
    have HL2 : Hid (lenS (partS [119, 104, 105, 108, 101] (f (kid n 0)) s) ≤ lenS s + 5 + 1 + c (kid n 0)) := len_part (w := [119, 104, 105, 108, 101]) (s := s) (HC.out _ HM0.out)
    have HPd := Lib.hid (part_calls w2 b B tv bv2 _ l hp2 (HX.out.2.2.1.below (turn_low HX.out.2.1 ht2)) [100, 111] (kid n 1 : Int) _ _ (HK.out _ HM1.out) (by have h1 := HL.out; have h2 := HL2.out; simp only [List.length_cons, List.length_nil]; omega))
    clear ht2 hp2 hn2
    go_wp2_with fail
    refine HPd.out.mono ?_
    rintro r w3 ⟨bv3, rfl, ht3, hp3⟩
    have HT3 := Lib.hid (HT2.out.trans ht3)
    have HPu := Lib.hid (put1_new w3 b B tv bv3 _ hp3 [100, 111, 110, 101] (by have h1 := HL.out; have h2 := HL2.out; have h3 := len_part (w := [100, 111]) (s := partS [119, 104, 105, 108, 101] (f (kid n 0)) s) (HC.out _ HM1.out); have h4 := fst_le (partS [100, 111] (f (kid n 1)) (partS [119, 104, 105, 108, 101] (f (kid n 0)) s)); simp only [List.length_cons, List.length_nil] at *; omega))
    clear ht3 hp3
    go_wp2_with fail
    refine HPu.out.mono ?_
    rintro r w4 ⟨bv4, rfl, ht4, hp4⟩
    go_wp2
    go_end0
    refine ⟨bv4, rfl, HT3.out.trans ht4, ?_⟩
    rw [HLo.out]
    exact hp4
  | true =>
    have hwd : ([117, 110, 116, 105, 108] : Nm) = wd := hwd
    subst hwd
    go_wp2_with fail
    refine HP.out.mono ?_
    rintro r w2 ⟨bv2, rfl, ht2, hp2⟩
    have HT2 : Hid (Sx.Turn b bv W bv2 w2) := (Sx.Turn.of_below HX.out.1).trans ht2
    have hn2 := HX.out.2.2.2.turn HX.out.2.1 ht2
    have d6 := hn2.cells.2.2.2.2.2
    have k2 := hn2.kcell (i := 1) (by rw [HKs.out]; decide)
    have HL2 : Hid (lenS (partS [117, 110, 116, 105, 108] (f (kid n 0)) s) ≤ lenS s + 5 + 1 + c (kid n 0)) := len_part (w := [117, 110, 116, 105, 108]) (s := s) (HC.out _ HM0.out)
    have HPd := Lib.hid (part_calls w2 b B tv bv2 _ l hp2 (HX.out.2.2.1.below (turn_low HX.out.2.1 ht2)) [100, 111] (kid n 1 : Int) _ _ (HK.out _ HM1.out) (by have h1 := HL.out; have h2 := HL2.out; simp only [List.length_cons, List.length_nil]; omega))
    clear ht2 hp2 hn2
    go_wp2_with fail
    refine HPd.out.mono ?_
    rintro r w3 ⟨bv3, rfl, ht3, hp3⟩
    have HT3 := Lib.hid (HT2.out.trans ht3)
    have HPu := Lib.hid (put1_new w3 b B tv bv3 _ hp3 [100, 111, 110, 101] (by have h1 := HL.out; have h2 := HL2.out; have h3 := len_part (w := [100, 111]) (s := partS [117, 110, 116, 105, 108] (f (kid n 0)) s) (HC.out _ HM1.out); have h4 := fst_le (partS [100, 111] (f (kid n 1)) (partS [117, 110, 116, 105, 108] (f (kid n 0)) s)); simp only [List.length_cons, List.length_nil] at *; omega))
    clear ht3 hp3
    go_wp2_with fail
    refine HPu.out.mono ?_
    rintro r w4 ⟨bv4, rfl, ht4, hp4⟩
    go_wp2
    go_end0
    refine ⟨bv4, rfl, HT3.out.trans ht4, ?_⟩
    rw [HLo.out]
    exact hp4
end Go.Proofs.YtiklkhbfilbpeaaGreatDoor.Ux
set_option linter.unusedVariables false
set_option linter.unusedSimpArgs false
set_option maxRecDepth 100000
namespace Go.Proofs.YtiklkhbfilbpeaaGreatDoor.Ux
open Go.RowKit Base Lx Sy Sx Un
/-- A row of texts. -/
def TxtsAt (W : World) (u : Value) (l : List Nm) : Prop := (l = [] ∧ ∃ a c, u = .slice a 0 c) ∨ ∃ g c, u = .slice (some ⟨g, 0, none⟩) l.length c ∧ l.length ≤ c ∧ g < W.heap.size ∧ ∀ (j : Nat) (x : Nm), l[j]? = some x → W.cell? ⟨g, j, none⟩ = some (.string (str x))
theorem txts_of {W : World} {B : Nat} {u : Value} {l : List Nm} (h : W.ownsRow B stT 1 u l.length (l.map sv)) : TxtsAt W u l := by
  rcases h.2 with ⟨hv, h0⟩ | ⟨g, cap, cur, hv, _, hg, hnc, _, _, _⟩
  · exact .inl ⟨List.eq_nil_of_length_eq_zero h0, none, 0, hv⟩
  · refine .inr ⟨g, cap, hv, hnc, (Array.getElem?_eq_some_iff.1 hg).1, fun j x hj => ?_⟩
    have := h.cells (g := g) (by rw [hv]; rfl) j (sv x) (by simp [hj])
    simpa [Addr.add_lit, sv] using this
theorem joins_calls (W : World) (u : Value) (l : List Nm) (sep : Nm) (h : TxtsAt W u l) (hl : l.length ≤ big) (hj : (Lib.join l sep).length ≤ big) :
    Calls Tryz.prog 56 #[u, .string (str sep)] W fun e w' => e = .returned (.string (str (Lib.join l sep))) ∧ Below W.heap.size W w' := by
  rcases h with ⟨rfl, a, c, rfl⟩ | ⟨g, c, rfl, hc, hg, hcs⟩
  · refine (Tryz.strings_Join_none a c (str sep) W).mono ?_
    rintro e w' ⟨rfl, rfl⟩
    exact ⟨rfl, Below.refl _ _⟩
  · have hm : (l.map str).map (·.data.toList) = l := by
      rw [List.map_map]
      exact List.map_id _
    have hs : (str sep).data.toList = sep := rfl
    have := Tryz.strings_Join g 0 c (l.map str) (str sep) W (fun j x hx => by
      rw [List.getElem?_map] at hx
      obtain ⟨y, hy, rfl⟩ := Option.map_eq_some_iff.1 hx
      rw [Nat.zero_add]
      exact hcs j y hy) hg (by rw [List.length_map]; exact hl) (by rw [List.length_map]; exact hc) (by rw [hm, hs]; exact hj)
    rw [hm, hs, List.length_map] at this
    exact this
end Go.Proofs.YtiklkhbfilbpeaaGreatDoor.Ux
set_option linter.unusedVariables false
set_option linter.unusedSimpArgs false
set_option maxRecDepth 100000
namespace Go.Proofs.YtiklkhbfilbpeaaGreatDoor.Ux
open Go.RowKit Base Lx Sy Sx Un
/-- No node. -/
theorem node_neg (l : List Nd) (b B : Nat) (tv : Value) : KidC l b B tv (-1) (fun s => s) 0 := by
  intro W bv s h ht hl
  have HP := Lib.hid h
  clear h ht hl
  go_enter Tryz.func14, Tryz.ntmps14
  go_wp2_with fail
  go_end0
  exact ⟨bv, rfl, Sx.Turn.refl _ _ _, HP.out⟩
set_option maxHeartbeats 1000000 in
theorem cases_calls (W : World) (b B : Nat) (tv bv : Value) (s : PS) (l : List Nd) (h : Pr W b B tv bv s) (ht : TrAt W B tv l) (n : Nd) (uw ur uk : Value) (hr : Sx.Rows W (fun g => g < B) n uw ur uk) (f : Nat → PS → PS) (c : Nat → Nat) (hk : ∀ k ∈ n.ks, KidC l b B tv (k : Int) (f k) (c k)) (hc : ∀ k ∈ n.ks, ∀ s, lenS (f k s) ≤ lenS s + c k) (hb4 : lenS (betS [] f n.ks (lnS (putS ([99, 97, 115, 101, 32] ++ n.t ++ [32, 105, 110]) s))) + 4 ≤ big) (hn : n.ks.length ≤ 100000) (hl : lenS s + (n.t.length + 8 + 1 + betC 0 c n.ks) ≤ big) :
    Calls Tryz.prog 34 #[.pointer (some ⟨b, 0, none⟩), ndV n uw ur uk] W fun r W' => Post W b B tv bv (casesS f n s) r W' := by
  obtain ⟨w1, N, hal, hN, HX⟩ := nd_box h ht hr
  obtain ⟨c0, c1, c2, c3, c5, c6⟩ := HX.out.2.2.2.cells
  have e1 : (⟨#[99, 97, 115, 101, 32]⟩ : ByteArray) ++ str n.t = str (99 :: 97 :: 115 :: 101 :: 32 :: n.t) := str_append [99, 97, 115, 101, 32] n.t
  have e2 : str (99 :: 97 :: 115 :: 101 :: 32 :: n.t) ++ (⟨#[32, 105, 110]⟩ : ByteArray) = str (99 :: 97 :: 115 :: 101 :: 32 :: (n.t ++ [32, 105, 110])) := str_append (99 :: 97 :: 115 :: 101 :: 32 :: n.t) [32, 105, 110]
  have l1 : 5 + (str n.t).size ≤ 9223372036854775807 := by rw [str_size]; unfold big at hl; omega
  have l2 : (str (99 :: 97 :: 115 :: 101 :: 32 :: n.t)).size + 3 ≤ 9223372036854775807 := by rw [str_size]; simp only [List.length_cons]; unfold big at hl; omega
  have HP := Lib.hid (part_calls w1 b B tv bv s l HX.out.2.1 HX.out.2.2.1 (99 :: 97 :: 115 :: 101 :: 32 :: (n.t ++ [32, 105, 110])) (-1) (fun s => s) 0 (node_neg l b B tv) (by simp only [List.length_cons, List.length_append, List.length_nil]; omega))
  have HK := Lib.hid hk
  have HC := Lib.hid hc
  have HN := Lib.hid hn
  have HL := Lib.hid hl
  have HB4 := Lib.hid hb4
  unfold ndV
  clear h ht hr hk hl hc hn hb4
  go_enter Tryz.func34, Tryz.ntmps34
  go_wp2_with fail
  refine HP.out.mono ?_
  rintro r w2 ⟨bv2, rfl, ht2, hp2⟩
  have HT2 : Hid (Sx.Turn b bv W bv2 w2) := (Sx.Turn.of_below HX.out.1).trans ht2
  have hn2 := HX.out.2.2.2.turn HX.out.2.1 ht2
  have d6 := hn2.cells.2.2.2.2.2
  have HBt := Lib.hid (between_calls w2 b B tv bv2 _ l hp2 (HX.out.2.2.1.below (turn_low HX.out.2.1 ht2)) [] uk n.ks (ints_of hn2.rows.k hn2.rows.qk) f c HK.out HC.out HN.out (by have h1 := HL.out; show lenS (lnS (putS (99 :: 97 :: 115 :: 101 :: 32 :: (n.t ++ [32, 105, 110])) s)) + betC 0 c n.ks ≤ big; rw [len_ln, len_put]; simp only [List.length_cons, List.length_append, List.length_nil]; omega))
  clear ht2 hp2 hn2
  go_wp2_with fail
  refine HBt.out.mono ?_
  rintro r w3 ⟨bv3, rfl, ht3, hp3⟩
  have HT3 := Lib.hid (HT2.out.trans ht3)
  have HPu := Lib.hid (put1_new w3 b B tv bv3 _ hp3 [101, 115, 97, 99] (by have h1 := HB4.out; have h2 := fst_le (betS [] f n.ks (lnS (putS ([99, 97, 115, 101, 32] ++ n.t ++ [32, 105, 110]) s))); show (betS [] f n.ks (lnS (putS ([99, 97, 115, 101, 32] ++ n.t ++ [32, 105, 110]) s))).1.length + 4 ≤ big; omega))
  clear ht3 hp3
  go_wp2_with fail
  refine HPu.out.mono ?_
  rintro r w4 ⟨bv4, rfl, ht4, hp4⟩
  go_wp2
  go_end0
  exact ⟨bv4, rfl, HT3.out.trans ht4, hp4⟩
end Go.Proofs.YtiklkhbfilbpeaaGreatDoor.Ux
set_option linter.unusedVariables false
set_option linter.unusedSimpArgs false
set_option maxRecDepth 100000
namespace Go.Proofs.YtiklkhbfilbpeaaGreatDoor.Ux
open Go.RowKit Base Lx Sy Sx Un
theorem cat_str (a b : Nm) (w : World) (h : a.length + b.length ≤ big) : (binOp .add 9 (.string (str a)) (.string (str b))).run Tryz.prog w = .ok (.string (str (a ++ b))) w := by
  have hs : ¬ 9223372036854775807 < (str a).size + (str b).size := by rw [str_size, str_size]; unfold big at h; omega
  simp [binOp, Op.stringOp, hs, str_append]
  omega
theorem load_ss {w : World} {ad : Addr} {v : Value} (h : w.cell? ad = some v) : (Instr.loadAt 33 (.pointer (some ad))).run Tryz.prog w = .ok v w := Ap.load_plainP (by simp [isAgg]) h
theorem load_ii {w : World} {ad : Addr} {v : Value} (h : w.cell? ad = some v) : (Instr.loadAt 35 (.pointer (some ad))).run Tryz.prog w = .ok v w := Ap.load_plainP (by simp [isAgg]) h
theorem load_i1 {w : World} {ad : Addr} {v : Value} (h : w.cell? ad = some v) : (Instr.loadAt 3 (.pointer (some ad))).run Tryz.prog w = .ok v w := Ap.load_plainP (by simp [isAgg]) h
set_option maxHeartbeats 2000000 in
theorem item_calls (W : World) (b B : Nat) (tv bv : Value) (s : PS) (l : List Nd) (h : Pr W b B tv bv s) (ht : TrAt W B tv l) (n : Nd) (uw ur uk : Value) (hr : Sx.Rows W (fun g => g < B) n uw ur uk) (hks : n.ks.length = 1) (hw : n.ws.length ≤ big) (f : Nat → PS → PS) (c : Nat → Nat) (hk : ∀ k ∈ n.ks, KidC l b B tv (k : Int) (f k) (c k)) (hc : ∀ k ∈ n.ks, ∀ s, lenS (f k s) ≤ lenS s + c k) (hl : lenS s + ((Lib.join n.ws [124]).length + 2 + 1 + 2 + 1 + c (kid n 0)) ≤ big) :
    Calls Tryz.prog 35 #[.pointer (some ⟨b, 0, none⟩), ndV n uw ur uk] W fun r W' => Post W b B tv bv (itemS f n s) r W' := by
  obtain ⟨w1, N, hal, hN, HX⟩ := nd_box h ht hr
  obtain ⟨g, cc, huk, k0⟩ := HX.out.2.2.2.kid (i := 0) (by omega)
  rw [hks] at huk
  subst huk
  have HM0 : Hid (kid n 0 ∈ n.ks) := kid_mem (by omega)
  have HK := Lib.hid hk
  have HC := Lib.hid hc
  have HL := Lib.hid hl
  have HKs := Lib.hid hks
  have HW := Lib.hid hw
  obtain ⟨J, hJ⟩ : ∃ J, Lib.join n.ws [124] = J := ⟨_, rfl⟩
  have HJ := Lib.hid hJ
  have HI : Hid (itemS f n s = lnS (putS [59, 59] (partS (40 :: (J ++ [41])) (f (kid n 0)) s))) := by show _ = _; unfold itemS; rw [hJ]; rfl
  have HJl : Hid (lenS s + (J.length + 2 + 1 + 2 + 1 + c (kid n 0)) ≤ big) := by rw [← hJ]; exact hl
  unfold ndV
  clear h ht hr hk hl hc hks hw hJ
  go_enter Tryz.func35, Tryz.ntmps35
  go_upto_region 1 with fail
  refine Rp.wp_region_rkx (fun _ _ => False) 11 [] [Rg.Is (.pointer (some ⟨b, 0, none⟩)), Rg.Is (.pointer (some ⟨N, 3, none⟩)), Rg.Is (uw), Rg.Is (.string (str J)), Rg.Is (.string (str (40 :: J))), Rg.Is (.string (str (40 :: (J ++ [41])))), Rg.Is (.pointer (some ⟨N, 6, none⟩)), Rg.Is (.slice (some ⟨g, 0, none⟩) 1 cc), Rg.Is (.pointer (some ⟨g, 0, none⟩)), Rg.Is (.int .i64 (kid n 0 : Int)), (fun u y => ∃ bv', Sx.Turn b bv w1 bv' y ∧ Pr y b B tv bv' (partS (40 :: (J ++ [41])) (f (kid n 0)) s))] (fun _ _ => True) (fun ls x => ls 10 = false → Below w1.heap.size w1 x) (fun k x y => if k = 10 then ∃ bv', Sx.Turn b bv x bv' y else Below x.heap.size x y) (by kernel_rfl) (by kernel_rfl) (of_decide_eq_true (by kernel_rfl)) (by kernel_rfl) (by kernel_rfl) trivial (fun _ => ⟨rfl, rfl, rfl, Nat.le_refl _, fun _ _ => rfl⟩) (fun ls ls' x e h1 h2 => h1 (by rw [e]; exact h2)) (fun _ _ _ _ _ => trivial) (fun i ls x _ h1 => by rw [show ([] : List Bool).getD i true = true from rfl] at h1; cases h1) ?_ ⟨rfl, rfl, rfl, rfl, rfl, rfl, rfl, rfl, rfl, rfl, rfl, trivial⟩ ⟨?_, ?_, ?_, ?_, ?_, ?_, ?_, ?_, ?_, ?_, ?_, trivial⟩ ?_ ?_
  · intro i k u x y hik _ h1 hK
    match i, h1, hik with
    | 0, h1, _ => exact h1
    | 1, h1, _ => exact h1
    | 2, h1, _ => exact h1
    | 3, h1, _ => exact h1
    | 4, h1, _ => exact h1
    | 5, h1, _ => exact h1
    | 6, h1, _ => exact h1
    | 7, h1, _ => exact h1
    | 8, h1, _ => exact h1
    | 9, h1, _ => exact h1
    | 10, h1, hik =>
      rw [if_neg (fun e => hik e.symm)] at hK
      obtain ⟨bv', h2, h3⟩ := h1
      exact ⟨bv', h2.trans (Sx.Turn.of_below hK), h3.below hK⟩
    | _ + 11, _, _ => trivial
  · intro _ b9 x ls hR hS hself hup hdn hk
    have h0 : b9.eval (.tmp 0) = .pointer (some ⟨b, 0, none⟩) := Eq.mp (by kernel_rfl) (hk 0 (by decide))
    have lA : ls 10 = false := hdn [] 10 _ rfl (by kernel_rfl)
    have hb := hS lA
    refine Rp.doesX_of ?_
    exact Rg.does_move ⟨by rw [if_neg (by decide)]; exact Below.refl _ _, h0, fun hh => hS hh⟩
  · intro _ b9 x ls hR hS hself hup hdn hk
    have h3 : b9.eval (.tmp 3) = .pointer (some ⟨N, 0, none⟩) := Eq.mp (by kernel_rfl) (hk 3 (by decide))
    have lA : ls 10 = false := hdn [3, 2] 10 _ rfl (by kernel_rfl)
    have hb := hS lA
    refine Rp.doesX_of ?_
    exact Rs.does_field _ _ h3 (fld_nd N 0 3 (by decide) x) ⟨by rw [if_neg (by decide)]; exact Below.refl _ _, rfl, fun hh => hS hh⟩
  · intro _ b9 x ls hR hS hself hup hdn hk
    have h5 : b9.eval (.tmp 5) = .pointer (some ⟨N, 3, none⟩) := Eq.mp (by kernel_rfl) (hk 5 (by decide))
    have lA : ls 10 = false := hdn [3] 10 _ rfl (by kernel_rfl)
    have hb := hS lA
    refine Rp.doesX_of ?_
    exact Rg.does_load _ _ h5 (load_ss (HX.out.2.2.2.below hb).cells.2.2.2.1) ⟨by rw [if_neg (by decide)]; exact Below.refl _ _, rfl, fun hh => hS hh⟩
  · intro _ b9 x ls hR hS hself hup hdn hk
    have h6 : b9.eval (.tmp 6) = uw := Eq.mp (by kernel_rfl) (hk 6 (by decide))
    have lA : ls 10 = false := hdn [] 10 _ rfl (by kernel_rfl)
    have hb := hS lA
    refine Rp.doesX_of ?_
    refine Rg.does_func #[uw, .string (str [124])] Tryz.func56 (by kernel_rfl) (by kernel_rfl) (by simp [h6, show ∀ v, b9.eval (.const v) = v from fun _ => rfl]; rfl) (joins_calls x uw n.ws [124] (txts_of (HX.out.2.2.2.below hb).rows.w) HW.out (by rw [HJ.out]; have := HJl.out; omega)) ?_
    rintro e w' ⟨rfl, hbw⟩
    exact ⟨_, rfl, by rw [if_neg (by decide)]; exact hbw, by show Value.string (str (Lib.join n.ws [124])) = .string (str J); rw [HJ.out], fun hh => (hS hh).trans (hbw.mono (hS hh).size)⟩
  · intro _ b9 x ls hR hS hself hup hdn hk
    have h7 : b9.eval (.tmp 7) = .string (str J) := Eq.mp (by kernel_rfl) (hk 7 (by decide))
    have lA : ls 10 = false := hdn [5] 10 _ rfl (by kernel_rfl)
    have hb := hS lA
    refine Rp.doesX_of ?_
    exact Sw.does_bin_str (str [40]) (str J) _ rfl h7 (cat_str [40] J _ (by have := HJl.out; simp only [List.length_cons, List.length_nil]; omega)) ⟨by rw [if_neg (by decide)]; exact Below.refl _ _, rfl, fun hh => hS hh⟩
  · intro _ b9 x ls hR hS hself hup hdn hk
    have h8 : b9.eval (.tmp 8) = .string (str (40 :: J)) := Eq.mp (by kernel_rfl) (hk 8 (by decide))
    have lA : ls 10 = false := hdn [] 10 _ rfl (by kernel_rfl)
    have hb := hS lA
    refine Rp.doesX_of ?_
    exact Sw.does_bin_str (str (40 :: J)) (str [41]) _ h8 rfl (cat_str (40 :: J) [41] _ (by have := HJl.out; simp only [List.length_cons, List.length_nil]; omega)) ⟨by rw [if_neg (by decide)]; exact Below.refl _ _, rfl, fun hh => hS hh⟩
  · intro _ b9 x ls hR hS hself hup hdn hk
    have h3 : b9.eval (.tmp 3) = .pointer (some ⟨N, 0, none⟩) := Eq.mp (by kernel_rfl) (hk 3 (by decide))
    have lA : ls 10 = false := hdn [9, 8, 7] 10 _ rfl (by kernel_rfl)
    have hb := hS lA
    refine Rp.doesX_of ?_
    exact Rs.does_field _ _ h3 (fld_nd N 0 6 (by decide) x) ⟨by rw [if_neg (by decide)]; exact Below.refl _ _, rfl, fun hh => hS hh⟩
  · intro _ b9 x ls hR hS hself hup hdn hk
    have h10 : b9.eval (.tmp 10) = .pointer (some ⟨N, 6, none⟩) := Eq.mp (by kernel_rfl) (hk 10 (by decide))
    have lA : ls 10 = false := hdn [9, 8] 10 _ rfl (by kernel_rfl)
    have hb := hS lA
    refine Rp.doesX_of ?_
    exact Rg.does_load _ _ h10 (load_ii (HX.out.2.2.2.below hb).cells.2.2.2.2.2) ⟨by rw [if_neg (by decide)]; exact Below.refl _ _, rfl, fun hh => hS hh⟩
  · intro _ b9 x ls hR hS hself hup hdn hk
    have h11 : b9.eval (.tmp 11) = .slice (some ⟨g, 0, none⟩) 1 cc := Eq.mp (by kernel_rfl) (hk 11 (by decide))
    have lA : ls 10 = false := hdn [9] 10 _ rfl (by kernel_rfl)
    have hb := hS lA
    refine Rp.doesX_of ?_
    exact Rg.does_index _ _ _ h11 rfl (idx_in1 0 (by decide) x) ⟨by rw [if_neg (by decide)]; exact Below.refl _ _, rfl, fun hh => hS hh⟩
  · intro _ b9 x ls hR hS hself hup hdn hk
    have h12 : b9.eval (.tmp 12) = .pointer (some ⟨g, 0, none⟩) := Eq.mp (by kernel_rfl) (hk 12 (by decide))
    have lA : ls 10 = false := hdn [] 10 _ rfl (by kernel_rfl)
    have hb := hS lA
    refine Rp.doesX_of ?_
    exact Rg.does_load _ _ h12 (load_i1 ((HX.out.2.2.2.below hb).kcell (by rw [HKs.out]; decide))) ⟨by rw [if_neg (by decide)]; exact Below.refl _ _, rfl, fun hh => hS hh⟩
  · intro _ b9 x ls hR hS hself hup hdn hk
    have h4 : b9.eval (.tmp 4) = .pointer (some ⟨b, 0, none⟩) := Eq.mp (by kernel_rfl) (hk 4 (by decide))
    have h9 : b9.eval (.tmp 9) = .string (str (40 :: (J ++ [41]))) := Eq.mp (by kernel_rfl) (hk 9 (by decide))
    have h13 : b9.eval (.tmp 13) = .int .i64 (kid n 0 : Int) := Eq.mp (by kernel_rfl) (hk 13 (by decide))
    have hb := hS hself
    refine Rp.does_func #[.pointer (some ⟨b, 0, none⟩), .string (str (40 :: (J ++ [41]))), .int .i64 (kid n 0 : Int)] Tryz.func59 (by kernel_rfl) (by kernel_rfl) (by simp [h4, h9, h13]) (part_calls x b B tv bv s l (HX.out.2.1.below hb) (HX.out.2.2.1.below (hb.mono HX.out.2.1.size)) (40 :: (J ++ [41])) _ _ _ (HK.out _ HM0.out) (by have := HJl.out; simp only [List.length_cons, List.length_append, List.length_nil]; omega)) ?_
    rintro e w' ⟨bv', he, ht, hp⟩
    exact .inl ⟨_, he, by rw [if_pos rfl]; exact ⟨bv', ht⟩, ⟨bv', (Sx.Turn.of_below hb).trans ht, hp⟩, fun hh => by simp [Rs.upd] at hh⟩
  · intro ch a' w' hdf hD
    exact hD.elim
  intro vals wD ls _ hSD _ hL
  obtain ⟨g0, g1, g2, g3, g4, g5, g6, g7, g8, g9, g10, _⟩ := hL
  obtain ⟨bv1, ht1, hp1⟩ : ∃ bv', Sx.Turn b bv w1 bv' wD ∧ Pr wD b B tv bv' (partS (40 :: (J ++ [41])) (f (kid n 0)) s) := g10
  simp only [Rg.putAll, List.take_succ_cons, List.take_zero, List.drop_succ_cons, List.drop_zero, List.setIfInBounds_toArray, List.set_cons_succ, List.set_cons_zero]
  have HT1 : Hid (Sx.Turn b bv W bv1 wD) := (Sx.Turn.of_below HX.out.1).trans ht1
  have HPa := Lib.hid (part_calls wD b B tv bv1 _ l hp1 (HX.out.2.2.1.below (turn_low HX.out.2.1 ht1)) [59, 59] (-1) (fun s => s) 0 (node_neg l b B tv) (by have h1 := HJl.out; have h2 := len_part (w := 40 :: (J ++ [41])) (s := s) (HC.out _ HM0.out); simp only [List.length_cons, List.length_append, List.length_nil] at *; omega))
  clear ht1 hp1 g0 g1 g2 g3 g4 g5 g6 g7 g8 g9
  go_wp2_with fail
  refine HPa.out.mono ?_
  rintro r w3 ⟨bv3, rfl, ht3, hp3⟩
  go_wp2
  go_end0
  refine ⟨bv3, rfl, HT1.out.trans ht3, ?_⟩
  rw [HI.out]
  exact hp3
end Go.Proofs.YtiklkhbfilbpeaaGreatDoor.Ux
