/-
  Lexer: LexerHere answers true. Conditions: the table of signs lies there.
-/
import Derived.Test.YtahipkigpjohnaaGreatDoorLxAwake
import Derived.Test.YtahipkigpjohnaaGreatDoorLxHere
import Derived.Test.YtahipkigpjohnaaGreatDoorLxLinesLaw
import Derived.Laws.StructEq
set_option linter.unusedVariables false
set_option linter.unusedSimpArgs false
set_option maxRecDepth 100000
namespace Go.Proofs.YtahipkigpjohnaaGreatDoor
open Go.RowKit Base Lx

theorem eq_tok (k k2 n n2 : Int) (a b c d : ByteArray) (w : World) : (Op.equalIn 10000 33 (.agg #[.int .i64 k, .string a, .string b, .int .i64 n]) (.agg #[.int .i64 k2, .string c, .string d, .int .i64 n2])).run Tryz.prog w = .ok (k == k2 && (a.toList == c.toList && (b.toList == d.toList && n == n2))) w := by
  have u9 := Tryz.underlying9
  have u3 := Tryz.underlying3
  have hS : Tryz.prog.underlying 33 = some (.struct (Tryz.prog.fieldsOf 33)) := by kernel_rfl
  have hp : Tryz.prog.stoodInHeld 33 = false := by kernel_rfl
  rw [show (10000 : Nat) = 9999 + 1 from rfl, run_equalIn_agg w 9999 33 _ _ hS hp]
  simp only [Program.fieldsOf, Tryz.underlying33]
  go_simp
  by_cases h0 : k = k2 <;> by_cases h1 : a.toList = c.toList <;> by_cases h2 : b.toList = d.toList <;> by_cases h3 : n = n2 <;> simp [h0, h1, h2, h3]
theorem neq_tok_same (k n : Int) (a b : ByteArray) (w : World) : (binOp .neq 33 (.agg #[.int .i64 k, .string a, .string b, .int .i64 n]) (.agg #[.int .i64 k, .string a, .string b, .int .i64 n])).run Tryz.prog w = .ok (.bool false) w := by
  rw [run_neq_struct, eq_tok]
  simp [Result.andThen]
theorem tk_cells {w : World} {b : Nat} {k t bb ln : Value} {T : TypeId} (h : w.heap[b]? = some (.cells #[k, t, bb, ln] T)) : w.cell? ⟨b, 0, none⟩ = some k ∧ w.cell? ⟨b, 1, none⟩ = some t ∧ w.cell? ⟨b, 2, none⟩ = some bb ∧ w.cell? ⟨b, 3, none⟩ = some ln := by
  simp [World.cell?, h]
theorem tk_set {w : World} {b : Nat} {k t bb ln : Value} {T : TypeId} (h : w.heap[b]? = some (.cells #[k, t, bb, ln] T)) (u : Value) : (w.setCell ⟨b, 3, none⟩ u).heap[b]? = some (.cells #[k, t, bb, u] T) := by
  have := heap_setCell_same w b 3 _ _ u h
  simpa using this
def hOk (x : Nm) : Prop := x.length ≤ 60 ∧ (10 : UInt8) ∉ x ∧ x ≠ [69]
theorem hWord_le (q : Bool) : (hWord q).length ≤ 3 := by cases q <;> decide
set_option maxHeartbeats 16000000 in
theorem here_calls (W : World) (a0 : Option Addr) (n c0 : Nat) (xs : List Nm) (q : Bool) (more : Nm) (h : Strs W a0 n c0 xs) (hO : SigT W) : Calls Tryz.prog 8 #[.slice a0 n c0, .bool q, .string (str more)] W fun r W' => r = .returned (.bool true) ∧ Below W.heap.size W W' := by
  have HO := Lib.hid hO
  have H := Lib.hid h
  have hn : n = xs.length := h.1
  have emore : (str more).size = more.length := rfl
  clear hO h
  go_enter Tryz.func8, Tryz.ntmps8
  go_wp2_with fail
  refine (awake_calls W HO.out).mono ?_
  rintro r w1 ⟨rfl, hb1⟩
  have HB1 := Lib.hid hb1
  have HO1 := Lib.hid (HO.out.below hb1 HO.out.lt)
  have HS1 := Lib.hid (H.out.below stable_strAt hb1)
  clear hb1
  by_cases hl : 20 < n
  · have u1 : decide ((20 : Int) < (n : Int)) = true := decide_eq_true (by omega)
    have u2 : (20 : Int) < (n : Int) := by omega
    go_wp2_with fail
    go_ret
    exact ⟨rfl, HB1.out⟩
  have u1 : decide ((20 : Int) < (n : Int)) = false := decide_eq_false (by omega)
  have u2 : ¬ ((20 : Int) < (n : Int)) := by omega
  by_cases hlm : 300 < more.length
  · have um1 : decide ((300 : Int) < ((str more).size : Int)) = true := decide_eq_true (by omega)
    have um2 : (300 : Int) < ((str more).size : Int) := by omega
    go_wp2_with fail
    go_ret
    exact ⟨rfl, HB1.out⟩
  have um1 : decide ((300 : Int) < ((str more).size : Int)) = false := decide_eq_false (by omega)
  have um2 : ¬ ((300 : Int) < ((str more).size : Int)) := by omega
  have hm300 : more.length ≤ 300 := by omega
  have hn20 : n ≤ 20 := by omega
  have HN := Lib.hid hn
  obtain ⟨b1, o1, hcs, hix⟩ := at_strs HS1.out
  have HCs := Lib.hid hcs
  have HIx := Lib.hid hix
  clear hl hlm hn hcs hix
  go_wp2_with fail
  clear u1 u2 um1 um2
  go_loopw [8, 9] (fun v8 v9 wr => ∃ k : Nat, k ≤ n ∧ v9 = .int .i64 (k : Int) ∧ v8 = .string (str (bText (xs.take k))) ∧ (∀ x ∈ xs.take k, hOk x) ∧ wr = w1) (fun _ v9 _ => (match v9 with | .int _ z => n - z.toNat | _ => 0))
  case atStart => exact ⟨0, Nat.zero_le _, rfl, rfl, fun x hx => by simp at hx, rfl⟩
  case round =>
    obtain ⟨k, hk, rfl, rfl, hok, hw⟩ := hrel
    have hw2 := hw.symm
    subst hw2
    have HOk := Lib.hid hok
    clear hw hok
    by_cases hkn : k < n
    · have hkl : k < xs.length := by rw [← HN.out]; exact hkn
      have hixk := fun w => HIx.out .i64 k w hkn
      have hck := HCs.out k hkl
      have hqn := bText_next xs k hkl
      have htk := List.take_succ_eq_append_getElem hkl
      have hql := bText_len (xs.take k) (fun x hx => (HOk.out x hx).1)
      rw [List.length_take] at hql
      obtain ⟨x, hx⟩ : ∃ x, xs[k] = x := ⟨_, rfl⟩
      rw [hx] at hck hqn htk
      have HQn := Lib.hid hqn
      have HTk := Lib.hid htk
      have ex : (str x).size = x.length := rfl
      have u3 : decide (k < n) = true := decide_eq_true (by omega)
      have u1 : decide ((k : Int) < (n : Int)) = true := decide_eq_true (by omega)
      have u2 : (k : Int) < (n : Int) := by omega
      clear hqn htk hx hkl
      by_cases hlx : 60 < x.length
      · have v1 : decide ((60 : Int) < ((str x).size : Int)) = true := decide_eq_true (by omega)
        have v2 : (60 : Int) < ((str x).size : Int) := by omega
        go_wp2_with fail
        go_ret
        exact ⟨rfl, HB1.out⟩
      have v1 : decide ((60 : Int) < ((str x).size : Int)) = false := decide_eq_false (by omega)
      have v2 : ¬ ((60 : Int) < ((str x).size : Int)) := by omega
      by_cases h69 : x = [69]
      · subst h69
        have t69 : ((str [69]).toList == [69]) = true := by rw [str_tl2]; rfl
        go_wp2_with fail
        go_ret
        exact ⟨rfl, HB1.out⟩
      have t69 : ((str x).toList == [69]) = false := by rw [str_tl2]; simpa using h69
      have H69 := Lib.hid h69
      have hx60 : x.length ≤ 60 := by omega
      obtain ⟨b, hb⟩ : ∃ b, bText (xs.take k) = b := ⟨_, rfl⟩
      have hql2 : b.length ≤ 2000 := by rw [← hb]; omega
      have HQ := Lib.hid hb
      rw [hb]
      clear hlx hb hql h69
      go_wp2_with fail
      go_loopw [10] (fun v10 wr => ∃ j : Nat, j ≤ x.length ∧ v10 = .int .i64 (j : Int) ∧ (10 : UInt8) ∉ x.take j ∧ wr = w1) (fun v10 _ => (match v10 with | .int _ z => x.length - z.toNat | _ => 0))
      case atStart => exact ⟨0, Nat.zero_le _, rfl, by simp, rfl⟩
      case round =>
        obtain ⟨j, hj, rfl, hnm, hw⟩ := hrel
        have hw2 := hw.symm
        subst hw2
        clear hw
        by_cases hjx : j < x.length
        · have hxi := fun w => Sw.run_at (P := Tryz.prog) (w := w) Tryz.underlying9 x .i64 j hjx
          have hts := List.take_succ_eq_append_getElem hjx
          obtain ⟨c, hc⟩ : ∃ c, x[j] = c := ⟨_, rfl⟩
          rw [hc] at hxi hts
          have vv3 : decide (j < (str x).size) = true := decide_eq_true (by omega)
          have vv1 : decide ((j : Int) < ((str x).size : Int)) = true := decide_eq_true (by omega)
          have vv2 : (j : Int) < ((str x).size : Int) := by omega
          by_cases h10 : c = 10
          · subst h10
            have hxi2 : ∀ w, (Instr.index 9 (.string (str x)) (.int .i64 (j : Int))).run Tryz.prog w = .ok (.int .u8 10) w := hxi
            clear hxi hc hts hjx hnm
            go_wp2_with fail
            go_ret
            exact ⟨rfl, HB1.out⟩
          · have d0 : ¬ (c.toNat : Int) = 10 := fun e => h10 (UInt8.toNat_inj.1 (by show c.toNat = 10; omega))
            have d1 : ((c.toNat : Int) == 10) = false := by simpa using d0
            have d2 : decide ((c.toNat : Int) = 10) = false := decide_eq_false d0
            have HNm : Hid ((10 : UInt8) ∉ x.take (j + 1)) := by
              show ¬ _
              rw [hts]
              intro hm
              rcases List.mem_append.1 hm with hm | hm
              · exact hnm hm
              · exact h10 (List.mem_singleton.1 hm).symm
            clear hc hts hjx hnm h10
            go_wp2_with fail
            go_roundw
            case rel => exact ⟨j + 1, by omega, by go_num, HNm.out, trivial⟩
            case measure => simp; omega
        · obtain rfl : j = x.length := by omega
          rw [List.take_length] at hnm
          have HOk2 : Hid (∀ y ∈ xs.take (k + 1), hOk y) := fun y hy => by
            rw [HTk.out] at hy
            rcases List.mem_append.1 hy with hy | hy
            · exact HOk.out y hy
            · rw [List.mem_singleton.1 hy]; exact ⟨hx60, hnm, H69.out⟩
          have vv3 : decide (x.length < (str x).size) = false := decide_eq_false (by omega)
          have vv1 : decide ((x.length : Int) < ((str x).size : Int)) = false := decide_eq_false (by omega)
          have vv2 : ¬ ((x.length : Int) < ((str x).size : Int)) := by omega
          have e1 : str x ++ (⟨#[10]⟩ : ByteArray) = str (x ++ [10]) := str_append x [10]
          have e3 : str b ++ str (x ++ [10]) = str (b ++ (x ++ [10])) := str_append _ _
          have z1 : (str x).size + 1 ≤ 9223372036854775807 := by rw [ex]; omega
          have z3 : (str b).size + (str (x ++ [10])).size ≤ 9223372036854775807 := by rw [str_size, str_size]; simp; omega
          have HQn2 : Hid (bText (xs.take (k + 1)) = b ++ (x ++ [10])) := by show _ = _; rw [HQn.out, HQ.out]
          clear hjx hnm
          go_wp2_with fail
          go_roundw
          case rel => exact ⟨k + 1, by omega, by go_num, by rw [HQn2.out], HOk2.out, trivial⟩
          case measure => simp; omega
    · obtain rfl : k = n := by omega
      have htl : xs.take k = xs := by rw [HN.out, List.take_length]
      rw [htl] at HOk ⊢
      have HQa := Lib.hid (here_all q xs (fun x hx => (HOk.out x hx).2) more)
      have hql := bText_len xs (fun x hx => (HOk.out x hx).1)
      rw [← HN.out] at hql
      have u3 : decide (k < k) = false := decide_eq_false (by omega)
      have u1 : decide ((k : Int) < (k : Int)) = false := decide_eq_false (by omega)
      have u2 : ¬ ((k : Int) < (k : Int)) := by omega
      obtain ⟨b, hb⟩ : ∃ b, bText xs = b := ⟨_, rfl⟩
      rw [hb] at hql HQa ⊢
      obtain ⟨wd, hwd⟩ : ∃ wd, hWord q = wd := ⟨_, rfl⟩
      obtain ⟨d, hd⟩ : ∃ d, nl b + 2 = d := ⟨_, rfl⟩
      have hw3 : wd.length ≤ 3 := by rw [← hwd]; exact hWord_le q
      have HAl : Hid (hAll q b more = 97 :: 32 :: 60 :: 60 :: (wd ++ 10 :: (b ++ 69 :: 10 :: more))) := by show _ = _; rw [← hwd]; rfl
      have HFo : Hid (hFour q b = [⟨1, [97], [], 1⟩, ⟨2, [60, 60], [], 1⟩, ⟨1, wd, b, 1⟩, ⟨3, [], [], 1⟩]) := by show _ = _; rw [← hwd]; rfl
      have HWd := Lib.hid hwd
      rw [hd, HAl.out, HFo.out] at HQa
      have e1 : (⟨#[97, 32, 60, 60]⟩ : ByteArray) ++ str wd = str (97 :: 32 :: 60 :: 60 :: wd) := str_append [97, 32, 60, 60] wd
      have e2 : str (97 :: 32 :: 60 :: 60 :: wd) ++ (⟨#[10]⟩ : ByteArray) = str (97 :: 32 :: 60 :: 60 :: (wd ++ [10])) := str_append (97 :: 32 :: 60 :: 60 :: wd) [10]
      have e3 : str (97 :: 32 :: 60 :: 60 :: (wd ++ [10])) ++ str b = str (97 :: 32 :: 60 :: 60 :: (wd ++ 10 :: b)) := by rw [str_append]; simp
      have e4 : str (97 :: 32 :: 60 :: 60 :: (wd ++ 10 :: b)) ++ (⟨#[69, 10]⟩ : ByteArray) = str (97 :: 32 :: 60 :: 60 :: (wd ++ 10 :: (b ++ [69, 10]))) := by rw [show (⟨#[69, 10]⟩ : ByteArray) = str [69, 10] from rfl, str_append]; simp
      have e5 : str (97 :: 32 :: 60 :: 60 :: (wd ++ 10 :: (b ++ [69, 10]))) ++ str more = str (97 :: 32 :: 60 :: 60 :: (wd ++ 10 :: (b ++ 69 :: 10 :: more))) := by rw [str_append]; simp
      have z1 : 4 + (str wd).size ≤ 9223372036854775807 := by rw [str_size]; omega
      have z2 : (str (97 :: 32 :: 60 :: 60 :: wd)).size + 1 ≤ 9223372036854775807 := by rw [str_size]; simp; omega
      have z3 : (str (97 :: 32 :: 60 :: 60 :: (wd ++ [10]))).size + (str b).size ≤ 9223372036854775807 := by rw [str_size, str_size]; simp; omega
      have z4 : (str (97 :: 32 :: 60 :: 60 :: (wd ++ 10 :: b))).size + 2 ≤ 9223372036854775807 := by rw [str_size]; simp; omega
      have z5 : (str (97 :: 32 :: 60 :: 60 :: (wd ++ 10 :: (b ++ [69, 10])))).size + (str more).size ≤ 9223372036854775807 := by rw [str_size, str_size]; simp; omega
      have hAl : (97 :: 32 :: 60 :: 60 :: (wd ++ 10 :: (b ++ 69 :: 10 :: more))).length ≤ 4096 := by simp; omega
      have HLe := Lib.hid hAl
      have HLk := Lib.hid (all_lines more)
      have HM300 : Hid (more.length ≤ 300) := hm300
      obtain ⟨lg, hlg⟩ : ∃ lg, 97 :: 32 :: 60 :: 60 :: (wd ++ 10 :: (b ++ 69 :: 10 :: more)) = lg := ⟨_, rfl⟩
      rw [hlg] at e5 HLe HQa
      have tb : ((str b).toList == (str b).toList) = true := by simp
      have tw : ((str wd).toList == (str wd).toList) = true := by simp
      clear htl hkn hb hwd hd HAl HFo hAl hlg hql hw3 hm300
      cases q
      case' false =>
        go_upto_region 21 with fail
        rw [show (⟨#[69]⟩ : ByteArray) = str wd by rw [← HWd.out]; rfl]
      case' true =>
        go_upto_region 21 with fail
        rw [show (⟨#[34, 69, 34]⟩ : ByteArray) = str wd by rw [← HWd.out]; rfl]
      all_goals
        clear HWd
        go_wp2_with fail
        refine (all_calls w1 lg HLe.out HO1.out).mono ?_
        rintro r w2 ⟨hb2, hr⟩
        have HB2 := Lib.hid (HB1.out.trans (hb2.mono HB1.out.size))
        have HO2 := Lib.hid (HO1.out.below hb2 HO1.out.lt)
        clear e1 e2 e3 e4 e5 z1 z2 z3 z4 z5 hb2
        obtain ⟨X, hX⟩ : ∃ X, allM more = X := ⟨_, rfl⟩
        obtain ⟨Y, hY⟩ : ∃ Y, allM lg = Y := ⟨_, rfl⟩
        have HX := Lib.hid hX
        rw [hX] at HLk HQa
        rw [hY] at hr HQa
        clear hX hY
        cases X with
        | error x =>
          cases Y with
          | ok l => exact absurd HQa.out id
          | error y =>
            obtain rfl := hr
            obtain ⟨e, g⟩ := x
            obtain ⟨e2, g2⟩ := y
            have hee : e = e2 := HQa.out
            subst hee
            have he : E2 e := HLk.out.1
            go_wp2_with fail
            refine (all_calls w2 more (by have := HM300.out; omega) HO2.out).mono ?_
            rintro r w3 ⟨hb3, hr⟩
            rw [HX.out] at hr
            obtain rfl := hr
            have HB3 := Lib.hid (HB2.out.trans (hb3.mono HB2.out.size))
            clear hb3
            rcases he with rfl | rfl
            · go_wp2_with fail
              go_ret
              exact ⟨rfl, HB3.out⟩
            · go_wp2_with fail
              go_ret
              exact ⟨rfl, HB3.out⟩
        | ok m =>
          cases Y with
          | error y => exact absurd HQa.out id
          | ok l =>
            obtain ⟨v, rfl, hown⟩ := hr
            have hL : l = [⟨1, [97], [], 1⟩, ⟨2, [60, 60], [], 1⟩, ⟨1, wd, b, 1⟩, ⟨3, [], [], 1⟩] ++ m.map (sh d) := HQa.out
            obtain ⟨M, hM⟩ : ∃ M, m.length = M := ⟨_, rfl⟩
            have hll : l.length = M + 4 := by rw [hL]; simp [hM]
            have HT0 : Hid (l[2]? = some ⟨1, wd, b, 1⟩ ∧ l[3]? = some ⟨3, [], [], 1⟩) := by rw [hL]; exact ⟨rfl, rfl⟩
            have HTk : Hid (∀ j, l[j + 4]? = (m[j]?).map (sh d)) := fun j => by
              rw [hL, List.getElem?_append_right (by simp), ← List.getElem?_map]
              rfl
            have hMb : M + 4 ≤ 9223372036854775807 := by
              obtain ⟨_, cap, _, h1, h2, _⟩ := ownsRow_slice hown
              rw [hll] at h1
              unfold maxLen at h2
              omega
            obtain ⟨a3, q3, hv, b3, o3, hcs3, hix3⟩ := toks_at hown
            subst hv
            rw [hll] at hix3
            have HCs3 := Lib.hid hcs3
            have HIx3 := Lib.hid hix3
            have HLl := Lib.hid hll
            have HMl := Lib.hid hM
            rw [hll]
            clear hown hcs3 hix3 hL hM hll HQa
            go_wp2_with fail
            refine (all_calls w2 more (by have := HM300.out; omega) HO2.out).mono ?_
            rintro r w3 ⟨hb3, hr⟩
            rw [HX.out] at hr
            obtain ⟨v, rfl, hown⟩ := hr
            obtain ⟨a4, q4, hv, b4, o4, hcs4, hix4⟩ := toks_at hown
            subst hv
            rw [HMl.out] at hix4
            have HCs4 := Lib.hid hcs4
            have HIx4 := Lib.hid hix4
            have HB3 := Lib.hid (HB2.out.trans (hb3.mono HB2.out.size))
            rw [HMl.out]
            have hc2 := tok_cells (HCs3.out 2 (by rw [HLl.out]; omega))
            have hc3 := tok_cells (HCs3.out 3 (by rw [HLl.out]; omega))
            have h20 : l[2]'(by rw [HLl.out]; omega) = ⟨1, wd, b, 1⟩ := by have := HT0.out.1; rw [List.getElem?_eq_getElem (by rw [HLl.out]; omega)] at this; exact Option.some.inj this
            have h30 : l[3]'(by rw [HLl.out]; omega) = ⟨3, [], [], 1⟩ := by have := HT0.out.2; rw [List.getElem?_eq_getElem (by rw [HLl.out]; omega)] at this; exact Option.some.inj this
            rw [h20] at hc2
            rw [h30] at hc3
            have g21 : w3.cell? ⟨b3, o3 + 8 + 1, none⟩ = some (.string (str wd)) := cell_below hb3 (Nat.le_refl _) hc2.2.1
            have g22 : w3.cell? ⟨b3, o3 + 8 + 2, none⟩ = some (.string (str b)) := cell_below hb3 (Nat.le_refl _) hc2.2.2.1
            have g30 : w3.cell? ⟨b3, o3 + 12, none⟩ = some (.int .i64 3) := cell_below hb3 (Nat.le_refl _) hc3.1
            have i2 : ∀ w, (Instr.indexAt 28 (.slice a3 (M + 4) q3) (.int .i64 2)).run Tryz.prog w = .ok (.pointer (some ⟨b3, o3 + 8, none⟩)) w := fun w => HIx3.out 2 w (by omega)
            have i3 : ∀ w, (Instr.indexAt 28 (.slice a3 (M + 4) q3) (.int .i64 3)).run Tryz.prog w = .ok (.pointer (some ⟨b3, o3 + 12, none⟩)) w := fun w => HIx3.out 3 w (by omega)
            have HBl := Lib.hid hb3
            clear hown hcs4 hix4 hc2 hc3 h20 h30 hb3 HT0 HX HLk
            go_upto_region 27 with fail
            clear g21 g22 g30 i2 i3 tb tw
            go_wp2_with fail
            go_loopw [18] (fun v18 wr => ∃ j : Nat, j ≤ M ∧ v18 = .int .i64 (j : Int) ∧ Below w3.heap.size w3 wr) (fun v18 _ => (match v18 with | .int _ z => M - z.toNat | _ => 0))
            case atStart => exact ⟨0, Nat.zero_le _, rfl, Below.refl _ _⟩
            case round =>
              obtain ⟨j, hj, rfl, hbr⟩ := hrel
              by_cases hjk : j < M
              · have hjm : j < m.length := by rw [HMl.out]; exact hjk
                have hjl : j + 4 < l.length := by rw [HLl.out]; omega
                have hgt : l[j + 4]'hjl = sh d (m[j]'hjm) := by have := HTk.out j; rw [List.getElem?_eq_getElem hjl, List.getElem?_eq_getElem hjm] at this; exact Option.some.inj this
                have hca := tok_cells (HCs3.out (j + 4) hjl)
                have hcb := tok_cells (HCs4.out j hjm)
                rw [hgt] at hca
                obtain ⟨u, hu⟩ : ∃ u, m[j]'hjm = u := ⟨_, rfl⟩
                rw [hu] at hca hcb
                obtain ⟨z, hz⟩ : ∃ z, o3 + (j + 4) * 4 = z := ⟨_, rfl⟩
                obtain ⟨y, hy⟩ : ∃ y, o4 + j * 4 = y := ⟨_, rfl⟩
                have hia : ∀ w, (Instr.indexAt 28 (.slice a3 (M + 4) q3) (.int .i64 ((j : Int) + 4))).run Tryz.prog w = .ok (.pointer (some ⟨b3, z, none⟩)) w := fun w => by rw [← hz]; exact HIx3.out (j + 4) w (by omega)
                have hib : ∀ w, (Instr.indexAt 28 (.slice a4 M q4) (.int .i64 (j : Int))).run Tryz.prog w = .ok (.pointer (some ⟨b4, y, none⟩)) w := fun w => by rw [← hy]; exact HIx4.out j w hjk
                rw [hz] at hca
                rw [hy] at hcb
                have hbw : Below w2.heap.size w2 wr := HBl.out.trans (hbr.mono HBl.out.size)
                have l0 : wr.cell? ⟨b3, z, none⟩ = some (.int .i64 (u.k : Int)) := cell_below hbw (Nat.le_refl _) hca.1
                have l1 : wr.cell? ⟨b3, z + 1, none⟩ = some (.string (str u.t)) := cell_below hbw (Nat.le_refl _) hca.2.1
                have l2 : wr.cell? ⟨b3, z + 2, none⟩ = some (.string (str u.b)) := cell_below hbw (Nat.le_refl _) hca.2.2.1
                have l3 : wr.cell? ⟨b3, z + 3, none⟩ = some (.int .i64 ((u.ln + d : Nat) : Int)) := cell_below hbw (Nat.le_refl _) hca.2.2.2
                have r0 : wr.cell? ⟨b4, y, none⟩ = some (.int .i64 (u.k : Int)) := cell_below hbr (Nat.le_refl _) hcb.1
                have r1 : wr.cell? ⟨b4, y + 1, none⟩ = some (.string (str u.t)) := cell_below hbr (Nat.le_refl _) hcb.2.1
                have r2 : wr.cell? ⟨b4, y + 2, none⟩ = some (.string (str u.b)) := cell_below hbr (Nat.le_refl _) hcb.2.2.1
                have r3 : wr.cell? ⟨b4, y + 3, none⟩ = some (.int .i64 (u.ln : Int)) := cell_below hbr (Nat.le_refl _) hcb.2.2.2
                have HBr := Lib.hid hbr
                have x3 : decide (j < M) = true := decide_eq_true (by omega)
                have x1 : decide ((j : Int) < (M : Int)) = true := decide_eq_true (by omega)
                have x2 : (j : Int) < (M : Int) := by omega
                clear hca hcb hgt hu hz hy hbw hbr hjm hjl
                go_upto_region 31 with fail
                have hh5 := heap_alloc_new wr (.cells #[.int .i64 (u.k : Int), .string (str u.t), .string (str u.b), .int .i64 ((u.ln : Int) + (d : Int))] 33)
                have hba := (Below.refl wr.heap.size wr).alloc (Nat.le_refl _) (.cells #[.int .i64 (u.k : Int), .string (str u.t), .string (str u.b), .int .i64 ((u.ln : Int) + (d : Int))] 33)
                generalize wr.alloc (.cells #[.int .i64 (u.k : Int), .string (str u.t), .string (str u.b), .int .i64 ((u.ln : Int) + (d : Int))] 33) = w5 at *
                have hb6 := hba.setCell (p := ⟨wr.heap.size, 3, none⟩) (Nat.le_refl _) (.int .i64 (u.ln : Int))
                have HP := Lib.hid (tk_cells (tk_set hh5 (.int .i64 (u.ln : Int))))
                have s3 := (tk_cells hh5).2.2.2
                have s4 : w5.frozen? ⟨wr.heap.size, 3, none⟩ = false := by simp [World.frozen?, hh5]
                have r0' := cell_below hba (Nat.le_refl _) r0
                have r3' := cell_below hba (Nat.le_refl _) r3
                have HB6 := Lib.hid hb6
                have HR := Lib.hid (And.intro r0 (And.intro r1 (And.intro r2 r3)))
                clear l0 l1 l2 l3 r0 r1 r2 r3 hba hb6
                go_upto_region 32 with fail
                clear s3 s4 r0' r3' hh5
                have p0 := HP.out.1
                have p1 := HP.out.2.1
                have p2 := HP.out.2.2.1
                have p3 := HP.out.2.2.2
                have r0 := cell_below HB6.out (Nat.le_refl _) HR.out.1
                have r1 := cell_below HB6.out (Nat.le_refl _) HR.out.2.1
                have r2 := cell_below HB6.out (Nat.le_refl _) HR.out.2.2.1
                have r3 := cell_below HB6.out (Nat.le_refl _) HR.out.2.2.2
                clear HP HR
                generalize w5.setCell ⟨wr.heap.size, 3, none⟩ (.int .i64 (u.ln : Int)) = w6 at *
                have hnq := fun w => neq_tok_same (u.k : Int) (u.ln : Int) (str u.t) (str u.b) w
                go_quiet (fail)
                go_wp2_with fail
                go_roundw
                case rel => exact ⟨j + 1, by omega, by go_num, HBr.out.trans ((HB6.out.trans ((drewN_below _ _).mono HB6.out.size)).mono HBr.out.size)⟩
                case measure => simp; omega
              · obtain rfl : j = M := by omega
                have HF := Lib.hid (HB3.out.trans (hbr.mono HB3.out.size))
                have x3 : decide (j < j) = false := decide_eq_false (by omega)
                have x1 : decide ((j : Int) < (j : Int)) = false := decide_eq_false (by omega)
                have x2 : ¬ ((j : Int) < (j : Int)) := by omega
                clear hbr hjk
                go_wp2_with fail
                go_ret
                exact ⟨rfl, HF.out⟩
end Go.Proofs.YtahipkigpjohnaaGreatDoor
