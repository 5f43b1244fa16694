/-
  Unparse: UnparseFew answers true. Conditions: what must lie there lies there.
-/
import Derived.Test.YtiklkhbfilbpeaaGreatDoorSkGUnE
set_option linter.unusedVariables false
set_option linter.unusedSimpArgs false
set_option maxRecDepth 100000
namespace Go.Proofs.YtiklkhbfilbpeaaGreatDoor.Ux
open Go.RowKit Base Lx Sy Sx Un
theorem nlt_take (s : Nm) (k : Nat) (h : k < s.length) : nl (s.take (k + 1)) = if s[k] = 10 then nl (s.take k) + 1 else nl (s.take k) := by
  unfold nl
  rw [List.take_succ_eq_append_getElem h, List.count_append, List.count_singleton]
  by_cases h2 : s[k] = 10
  · simp [h2]
  · simp [h2]
theorem cntl_take (l : List Nd) (k : Nat) (n : Nd) (h : l[k]? = some n) : ((l.take (k + 1)).map cntS).sum = ((l.take k).map cntS).sum + cntS n := by
  rw [List.take_add_one, h, List.map_append, List.sum_append]
  simp
theorem cntl_le (l : List Nd) (k : Nat) : ((l.take k).map cntS).sum ≤ (l.map cntS).sum := by
  have h := List.take_append_drop k l
  rw [← congrArg (fun l => (List.map cntS l).sum) h, List.map_append, List.sum_append]
  omega
theorem nl_len (s : Nm) : nl s ≤ s.length := List.count_le_length
theorem last_at {a : Nm} (h : a.getLast? = some 10) : ∃ hk : a.length - 1 < a.length, a[a.length - 1] = 10 := by
  rw [List.getLast?_eq_getElem?] at h
  exact List.getElem?_eq_some_iff.1 h
set_option maxHeartbeats 8000000 in
theorem few_calls (W : World) (s : Nm) (hO : Gl W) : Calls Tryz.prog 4 #[.string (str s)] W fun r W' => r = .returned (.bool true) ∧ Below W.heap.size W W' := by
  have HO := Lib.hid hO
  clear hO
  have e1 : (str s).size = s.length := rfl
  go_enter Tryz.func4, Tryz.ntmps4
  go_wp2_with fail
  refine (awake8_calls W HO.out).mono ?_
  rintro r w1 ⟨rfl, hb1⟩
  have HB1 := Lib.hid hb1
  have HO1 := Lib.hid (HO.out.below hb1)
  clear hb1
  by_cases hlong : 1500 < s.length
  · have a1 : decide ((1500 : Int) < ((str s).size : Int)) = true := decide_eq_true (by omega)
    have a2 : (1500 : Int) < ((str s).size : Int) := by omega
    go_wp2_with fail
    go_ret
    exact ⟨rfl, HB1.out⟩
  have a1 : decide ((1500 : Int) < ((str s).size : Int)) = false := decide_eq_false (by omega)
  have a2 : ¬ ((1500 : Int) < ((str s).size : Int)) := by omega
  have hs : s.length ≤ 1500 := by omega
  go_wp2_with fail
  refine (parse_calls w1 s (by omega) HO1.out.sig HO1.out.glb).mono ?_
  rintro r w2 ⟨hb2, hr⟩
  have hcase : (∃ y : Int × Nat, y.1 ≠ 0 ∧ r = .returned (.tuple #[.agg #[.slice none 0 0], .int .i64 y.1, .int .i64 (y.2 : Int)])) ∨ (∃ (l : List Nd) (v : Value) (g : Int), Known l ∧ r = .returned (.tuple #[.agg #[v], .int .i64 0, .int .i64 g]) ∧ RowN w2 w1.heap.size (fun g => w1.heap.size ≤ g) v l) := by
    cases hX : parseM s with
    | error y =>
      rw [hX] at hr
      have hr : r = .returned (.tuple #[.agg #[.slice none 0 0], .int .i64 y.1, .int .i64 (y.2 : Int)]) := hr
      by_cases h0 : y.1 = 0
      · rw [h0] at hr
        exact .inr ⟨[], _, _, known_nil, hr, ⟨[], rfl, World.ownsRow_nil _ _ _ _, fun x hx => absurd hx List.not_mem_nil⟩⟩
      · exact .inl ⟨y, h0, hr⟩
    | ok l =>
      rw [hX] at hr
      obtain ⟨v, h1, h2⟩ := hr
      exact .inr ⟨l, v, 0, known_of (by omega) hX, h1, h2⟩
  clear a1 a2 e1 hlong hr
  rcases hcase with ⟨y, hne, rfl⟩ | ⟨l, v, gl, hkn, rfl, hrow⟩
  · have e1 : (y.1 == 0) = false := by rw [beq_eq_false_iff_ne]; exact hne
    have e2 : (y.1 != 0) = true := by rw [bne_iff_ne]; exact hne
    have e3 : decide (y.1 = 0) = false := decide_eq_false hne
    go_upto_region 7 with fail
    obtain ⟨w3, hw3⟩ : ∃ w3, w2.alloc (.cells #[.slice none 0 0] trT) = w3 := ⟨_, rfl⟩
    have hb3 : Below w1.heap.size w1 w3 := by rw [← hw3]; exact hb2.alloc hb2.size _
    have HB3 : Hid (Below W.heap.size W w3) := HB1.out.trans (hb3.mono HB1.out.size)
    rw [hw3]
    clear hb2 hb3 hw3
    go_wp2_with fail
    go_ret
    exact ⟨rfl, HB3.out⟩
  obtain ⟨ta, tc, hv, b1, off, hnd, hix⟩ := nodes_at hrow
  subst hv
  obtain ⟨L, hL⟩ : ∃ L, l.length = L := ⟨_, rfl⟩
  rw [hL] at hrow hix ⊢
  obtain ⟨w3, T, hw3, hT, hx3, hb3, hs3⟩ := new_blk w2 #[.slice ta L tc] trT
  obtain ⟨m3, n3⟩ := cell_of hx3
  have hrow3 : RowN w3 0 (fun g => g < w3.heap.size) (.slice ta L tc) l := by
    have h1 : TrAt w2 w2.heap.size (.slice ta L tc) l := by
      refine ⟨(hrow.mono (Nat.zero_le _)).less (fun g h1 h2 => h2), fun g hg => ?_⟩
      obtain ⟨zs, _, h2, _⟩ := hrow
      exact (h2.lt g hg).2
    exact (h1.below (by rw [hT]; exact hb3)).row.less (fun g h1 h2 => h2)
  have HB3 : Hid (Below W.heap.size W w3) := HB1.out.trans ((hb2.trans (hb3.mono (by have := hb2.size; omega))).mono HB1.out.size)
  have HRow3 := Lib.hid hrow3
  have HX3 := Lib.hid hx3
  have HK := Lib.hid hkn
  have HLl := Lib.hid hL
  have HSh := Lib.hid (show_calls w3 0 _ _ l hrow3 (fun g h => h) hkn.ok)
  clear hrow hnd hix hb2 hrow3 hx3 hb3 hkn hL
  go_wp2_with fail
  refine HSh.out.mono ?_
  rintro r w4 ⟨rfl, hb4⟩
  have hx4 := (hb4.block T (Array.getElem?_eq_some_iff.1 HX3.out).1).trans HX3.out
  have hrow4 : RowN w4 0 (fun g => g < w4.heap.size) (.slice ta L tc) l := by
    have h1 : TrAt w3 w3.heap.size (.slice ta L tc) l := by
      refine ⟨HRow3.out, fun g hg => ?_⟩
      obtain ⟨zs, _, h2, _⟩ := HRow3.out
      exact (h2.lt g hg).2
    exact (h1.below hb4).row.less (fun g h1 h2 => h2)
  have HB4 : Hid (Below W.heap.size W w4) := HB3.out.trans (hb4.mono HB3.out.size)
  obtain ⟨m4, n4⟩ := cell_of hx4
  obtain ⟨ta', tc', hv, b1, off, hnd, hix⟩ := nodes_at hrow4
  rw [HLl.out] at hv
  injection hv with hv1 _ hv2
  subst hv1 hv2
  rw [HLl.out] at hix
  have HNd := Lib.hid hnd
  have HIx := Lib.hid hix
  obtain ⟨A, hA⟩ : ∃ A, showL l = A := ⟨_, rfl⟩
  rw [hA]
  have HA := Lib.hid hA
  have HAl : Hid (A.length ≤ 8000000000000) := by show _ ≤ _; rw [← hA]; exact HK.out.len
  have HLn : Hid ((l.map cntS).sum ≤ nl A) := by show _ ≤ _; rw [← hA]; exact HK.out.lines
  have HEn : Hid ((A = [] ∧ (l.map cntS).sum = 0) ∨ (A.getLast? = some 10 ∧ 0 < (l.map cntS).sum)) := by show _ ∨ _; rw [← hA]; exact HK.out.ends
  have hLf : L ≤ 50000 := by rw [← HLl.out]; exact HK.out.ok.few
  clear hb4 hx4 hrow4 hnd hix hA m3 n3 hw3 hT hs3
  go_upto_region 12 with fail
  go_loopw [8, 9] (fun v8 v9 wr => ∃ i : Nat, i ≤ L ∧ v9 = .int .i64 (i : Int) ∧ v8 = .int .i64 ((((l.take i).map cntS).sum : Nat) : Int) ∧ wr = w4) (fun _ v9 _ => (match v9 with | .int _ z => L - z.toNat | _ => 0))
  case atStart => exact ⟨0, Nat.zero_le _, rfl, rfl, rfl⟩
  case round =>
    obtain ⟨i, hi, rfl, rfl, hw⟩ := hrel
    have hw2 := hw.symm
    subst hw2
    clear hw
    by_cases hin : i < L
    · have a3 : decide (i < L) = true := decide_eq_true (by omega)
      have a1 : decide ((i : Int) < (L : Int)) = true := decide_eq_true (by omega)
      have a2 : (i : Int) < (L : Int) := by omega
      obtain ⟨n, hn⟩ : ∃ n, l[i]? = some n := ⟨_, List.getElem?_eq_getElem (by rw [HLl.out]; exact hin)⟩
      obtain ⟨nu, nr, nk, hnk⟩ := HNd.out i n hn
      obtain ⟨ak, ck, hvk, _⟩ := ints_of (B := w4.heap.size) hnk.rows.k (fun g hg => hnk.rows.qk g hg)
      have hct := cntl_take l i n hn
      have hcl := cntl_le l (i + 1)
      have x0 : w4.cell? ⟨b1, off + i * 8, none⟩ = some (.int .i64 (n.k : Int)) := hnk.cells 0 _ rfl
      have x6 : w4.cell? ⟨b1, off + i * 8 + 6, none⟩ = some nk := hnk.cells 6 _ rfl
      rw [hvk] at x6
      obtain ⟨mk, hmk⟩ : ∃ m, n.ks.length = m := ⟨_, rfl⟩
      rw [hmk] at x6
      have j1 : ∀ w, (Instr.indexAt 23 (.slice ta L tc) (.int .i64 (i : Int))).run Tryz.prog w = .ok (.pointer (some ⟨b1, off + i * 8, none⟩)) w := fun w => HIx.out i w hin
      obtain ⟨sm, hsm⟩ : ∃ sm, ((l.take i).map cntS).sum = sm := ⟨_, rfl⟩
      rw [hsm] at hct ⊢
      have hbig : sm + cntS n ≤ 8000000000000 := by
        have h1 := HLn.out
        have h2 := nl_len A
        have h3 := HAl.out
        omega
      obtain ⟨kk, hkk⟩ : ∃ kk, n.k = kk := ⟨_, rfl⟩
      rw [hkk] at x0
      have HCt := Lib.hid hct
      have HKk := Lib.hid hkk
      have HMk := Lib.hid hmk
      clear hn hnk hvk hct hcl hsm hkk hmk
      by_cases h5 : kk = 5
      · subst h5
        have hc5 : cntS n = mk := by unfold cntS; rw [if_pos HKk.out, HMk.out]
        rw [hc5] at hbig
        have HC5 := Lib.hid hc5
        clear hc5
        have d1 : ((5 : Nat) : Int) = 5 := rfl
        go_wp2_with fail
        go_roundw
        case rel => exact ⟨i + 1, by omega, by go_num, by rw [HCt.out, HC5.out]; go_num, trivial⟩
        case measure => simp; omega
      · have hc5 : cntS n = 0 := by unfold cntS; rw [if_neg (by rw [HKk.out]; exact h5)]
        have HC5 := Lib.hid hc5
        have d0 : ¬ (kk : Int) = 5 := by omega
        have d1 : ((kk : Int) == 5) = false := beq_eq_false_iff_ne.2 d0
        have d2 : decide ((kk : Int) = 5) = false := decide_eq_false d0
        clear hc5 h5
        go_wp2_with fail
        go_roundw
        case rel => exact ⟨i + 1, by omega, by go_num, by rw [HCt.out, HC5.out]; rfl, trivial⟩
        case measure => simp; omega
    · obtain rfl : i = L := by omega
      rw [List.take_of_length_le (by rw [HLl.out]; exact Nat.le_refl _)]
      have a3 : decide (i < i) = false := decide_eq_false (by omega)
      have a1 : decide ((i : Int) < (i : Int)) = false := decide_eq_false (by omega)
      have a2 : ¬ ((i : Int) < (i : Int)) := by omega
      go_upto_region 18 with fail
      obtain ⟨S, hS⟩ : ∃ S, (l.map cntS).sum = S := ⟨_, rfl⟩
      rw [hS]
      have HS : Hid (S ≤ nl A) := by show _ ≤ _; rw [← hS]; exact HLn.out
      have HE : Hid ((A = [] ∧ S = 0) ∨ (A.getLast? = some 10 ∧ 0 < S)) := by show _ ∨ _; rw [← hS]; exact HEn.out
      have hSb : S ≤ 8000000000000 := by have h1 := HS.out; have h2 := nl_len A; have h3 := HAl.out; omega
      have e1 : (str A).size = A.length := rfl
      have hAb : A.length ≤ 8000000000000 := HAl.out
      clear hS a1 a2
      go_loopw [10, 11] (fun v10 v11 wr => ∃ k : Nat, k ≤ A.length ∧ v11 = .int .i64 (k : Int) ∧ v10 = .int .i64 ((nl (A.take k) : Nat) : Int) ∧ wr = w4) (fun _ v11 _ => (match v11 with | .int _ z => A.length - z.toNat | _ => 0))
      case atStart => exact ⟨0, Nat.zero_le _, rfl, rfl, rfl⟩
      case round =>
        obtain ⟨k, hk, rfl, rfl, hw⟩ := hrel
        have hw2 := hw.symm
        subst hw2
        clear hw
        by_cases hks : k < A.length
        · have hix := fun w => Sw.run_at (P := Tryz.prog) (w := w) Tryz.underlying9 A .i64 k hks
          have hn := nlt_take A k hks
          have hnl : nl (A.take k) ≤ 8000000000000 := by have := nl_len (A.take k); rw [List.length_take] at this; omega
          obtain ⟨c, hc⟩ : ∃ c, A[k] = c := ⟨_, rfl⟩
          rw [hc] at hix hn
          obtain ⟨m, hm⟩ : ∃ m, nl (A.take k) = m := ⟨_, rfl⟩
          rw [hm] at hn hnl ⊢
          have a3 : decide (k < (str A).size) = true := decide_eq_true (by omega)
          have a1 : decide ((k : Int) < ((str A).size : Int)) = true := decide_eq_true (by omega)
          have a2 : (k : Int) < ((str A).size : Int) := by omega
          clear hc hm
          by_cases h10 : c = 10
          · subst h10
            have HNx : Hid (nl (A.take (k + 1)) = m + 1) := by show _ = _; rw [hn, if_pos rfl]
            have hb1 : (10 : UInt8).toNat = 10 := rfl
            clear hn hks
            go_wp2_with fail
            go_roundw
            case rel => exact ⟨k + 1, by omega, by go_num, by rw [HNx.out]; go_num, trivial⟩
            case measure => simp; omega
          · have HNx : Hid (nl (A.take (k + 1)) = m) := by show _ = _; rw [hn, if_neg h10]
            have d0 : ¬ (c.toNat : Int) = 10 := fun e => h10 (UInt8.toNat_inj.1 (by show c.toNat = 10; omega))
            have d1 : ((c.toNat : Int) == 10) = false := by simpa using d0
            have d2 : decide ((c.toNat : Int) = 10) = false := decide_eq_false d0
            clear hn hks h10
            go_wp2_with fail
            go_roundw
            case rel => exact ⟨k + 1, by omega, by go_num, by rw [HNx.out], trivial⟩
            case measure => simp; omega
        · obtain rfl : k = A.length := by omega
          rw [List.take_length]
          have a3 : decide (A.length < (str A).size) = false := decide_eq_false (by omega)
          have a1 : decide ((A.length : Int) < ((str A).size : Int)) = false := decide_eq_false (by omega)
          have a2 : ¬ ((A.length : Int) < ((str A).size : Int)) := by omega
          go_upto_region 22 with fail
          obtain ⟨N, hN⟩ : ∃ N, nl A = N := ⟨_, rfl⟩
          rw [hN]
          have hSN : S ≤ N := by rw [← hN]; exact HS.out
          have hNb : N ≤ 8000000000000 := by rw [← hN]; have := nl_len A; omega
          clear hN a1 a2
          rcases HE.out with ⟨hA0, hS0⟩ | ⟨hA1, hS1⟩
          · subst hA0 hS0
            have t1 : ((str []).toList == []) = true := by rw [str_tl0]; rfl
            have t2 : ((str []).toList != []) = false := by rw [str_tl0]; rfl
            have c1 : decide ((0 : Int) ≤ (N : Int)) = true := decide_eq_true (by omega)
            have c2 : (0 : Int) ≤ (N : Int) := by omega
            clear e1
            go_wp2_with fail
            go_ret
            exact ⟨rfl, HB4.out⟩
          · obtain ⟨n, hn⟩ : ∃ n, A.length = n + 1 := by
              cases A with
              | nil => cases hA1
              | cons c r => exact ⟨r.length, rfl⟩
            have hnb : n ≤ 8000000000000 := by omega
            obtain ⟨hk1, hlast⟩ := last_at hA1
            have hn1 : A.length - 1 = n := by omega
            have hix := fun w => Sw.run_at (P := Tryz.prog) (w := w) Tryz.underlying9 A .i64 (A.length - 1) hk1
            rw [hlast, hn1] at hix
            have hne : A ≠ [] := fun e => by rw [e] at hn; cases hn
            have t1 : ((str A).toList == []) = false := by rw [str_tl0]; exact beq_eq_false_iff_ne.2 hne
            have t2 : ((str A).toList != []) = true := by rw [str_tl0]; exact bne_iff_ne.2 hne
            have hb1 : (10 : UInt8).toNat = 10 := rfl
            rw [hn] at e1
            have c3 : decide (S ≤ N) = true := decide_eq_true (by omega)
            have c1 : decide ((S : Int) ≤ (N : Int)) = true := decide_eq_true (by omega)
            have c2 : (S : Int) ≤ (N : Int) := by omega
            have d1 : decide ((0 : Int) < (S : Int)) = true := decide_eq_true (by omega)
            have d2 : (0 : Int) < (S : Int) := by omega
            clear hn hlast hn1 hne hA1 hk1
            go_wp2_with fail
            go_ret
            exact ⟨rfl, HB4.out⟩
end Go.Proofs.YtiklkhbfilbpeaaGreatDoor.Ux
