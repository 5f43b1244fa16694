/-
  Lexer: LexerQuotes answers true. Conditions: the table of signs lies there.
-/
import Derived.Test.YtahipkigpjohnaaGreatDoorLxAwake
import Derived.Test.YtahipkigpjohnaaGreatDoorLxShort
import Derived.Test.YtahipkigpjohnaaGreatDoorLxLinesLaw
set_option linter.unusedVariables false
set_option linter.unusedSimpArgs false
set_option maxRecDepth 100000
namespace Go.Proofs.YtahipkigpjohnaaGreatDoor
open Go.RowKit Base Lx

theorem qText_append (a b : List Nm) : qText (a ++ b) = qText a ++ qText b := by
  induction a with
  | nil => rfl
  | cons x r ih =>
    show 39 :: x ++ 39 :: 32 :: qText (r ++ b) = (39 :: x ++ 39 :: 32 :: qText r) ++ qText b
    rw [ih]; simp
theorem qText_next (xs : List Nm) (k : Nat) (h : k < xs.length) : qText (xs.take (k + 1)) = qText (xs.take k) ++ (39 :: (xs[k] ++ [39, 32])) := by
  rw [List.take_succ_eq_append_getElem h, qText_append]; simp [qText]
theorem qText_len (xs : List Nm) (h : ∀ x ∈ xs, x.length ≤ 60) : (qText xs).length ≤ 63 * xs.length := by
  induction xs with
  | nil => simp [qText]
  | cons x r ih =>
    have h1 := ih (fun y hy => h y (List.mem_cons_of_mem _ hy))
    have h2 := h x List.mem_cons_self
    simp [qText]
    omega
def qOk (x : Nm) : Prop := x.length ≤ 60 ∧ (39 : UInt8) ∉ x
set_option maxHeartbeats 8000000 in
theorem quotes_calls (W : World) (a0 : Option Addr) (n c0 : Nat) (xs : List Nm) (h : Strs W a0 n c0 xs) (hO : SigT W) : Calls Tryz.prog 6 #[.slice a0 n c0] W fun r W' => r = .returned (.bool true) ∧ Below W.heap.size W W' := by
  have HO := Lib.hid hO
  have H := Lib.hid h
  have hn : n = xs.length := h.1
  clear hO h
  go_enter Tryz.func6, Tryz.ntmps6
  go_wp2_with fail
  refine (awake_calls W HO.out).mono ?_
  rintro r w1 ⟨rfl, hb1⟩
  have HB1 := Lib.hid hb1
  have HO1 := Lib.hid (HO.out.below hb1 HO.out.lt)
  have HS1 := Lib.hid (H.out.below stable_strAt hb1)
  clear hb1
  by_cases hl : 20 < n
  · have u1 : decide ((20 : Int) < (n : Int)) = true := decide_eq_true (by omega)
    have u2 : (20 : Int) < (n : Int) := by omega
    go_wp2_with fail
    go_ret
    exact ⟨rfl, HB1.out⟩
  have u1 : decide ((20 : Int) < (n : Int)) = false := decide_eq_false (by omega)
  have u2 : ¬ ((20 : Int) < (n : Int)) := by omega
  have hn20 : n ≤ 20 := by omega
  have HN := Lib.hid hn
  obtain ⟨b1, o1, hcs, hix⟩ := at_strs HS1.out
  have HCs := Lib.hid hcs
  have HIx := Lib.hid hix
  clear hl hn hcs hix
  go_wp2_with fail
  clear u1 u2
  go_loopw [4, 5] (fun v4 v5 wr => ∃ k : Nat, k ≤ n ∧ v5 = .int .i64 (k : Int) ∧ v4 = .string (str (qText (xs.take k))) ∧ (∀ x ∈ xs.take k, qOk x) ∧ wr = w1) (fun _ v5 _ => (match v5 with | .int _ z => n - z.toNat | _ => 0))
  case atStart => exact ⟨0, Nat.zero_le _, rfl, rfl, fun x hx => by simp at hx, rfl⟩
  case round =>
    obtain ⟨k, hk, rfl, rfl, hok, hw⟩ := hrel
    have hw2 := hw.symm
    subst hw2
    have HOk := Lib.hid hok
    clear hw hok
    by_cases hkn : k < n
    · have hkl : k < xs.length := by rw [← HN.out]; exact hkn
      have hixk := fun w => HIx.out .i64 k w hkn
      have hck := HCs.out k hkl
      have hqn := qText_next xs k hkl
      have htk := List.take_succ_eq_append_getElem hkl
      have hql := qText_len (xs.take k) (fun x hx => (HOk.out x hx).1)
      rw [List.length_take] at hql
      obtain ⟨x, hx⟩ : ∃ x, xs[k] = x := ⟨_, rfl⟩
      rw [hx] at hck hqn htk
      have HQn := Lib.hid hqn
      have HTk := Lib.hid htk
      have ex : (str x).size = x.length := rfl
      have HXk : Hid (xs[k]? = some x) := by show _ = _; rw [List.getElem?_eq_getElem hkl, hx]
      have u3 : decide (k < n) = true := decide_eq_true (by omega)
      have u1 : decide ((k : Int) < (n : Int)) = true := decide_eq_true (by omega)
      have u2 : (k : Int) < (n : Int) := by omega
      clear hqn htk hx hkl
      by_cases hlx : 60 < x.length
      · have v1 : decide ((60 : Int) < ((str x).size : Int)) = true := decide_eq_true (by omega)
        have v2 : (60 : Int) < ((str x).size : Int) := by omega
        go_wp2_with fail
        go_ret
        exact ⟨rfl, HB1.out⟩
      have v1 : decide ((60 : Int) < ((str x).size : Int)) = false := decide_eq_false (by omega)
      have v2 : ¬ ((60 : Int) < ((str x).size : Int)) := by omega
      have hx60 : x.length ≤ 60 := by omega
      obtain ⟨q, hq⟩ : ∃ q, qText (xs.take k) = q := ⟨_, rfl⟩
      have hql2 : q.length ≤ 2000 := by rw [← hq]; omega
      have HQ := Lib.hid hq
      rw [hq]
      clear hlx hq hql
      go_wp2_with fail
      go_loopw [6] (fun v6 wr => ∃ j : Nat, j ≤ x.length ∧ v6 = .int .i64 (j : Int) ∧ (39 : UInt8) ∉ x.take j ∧ wr = w1) (fun v6 _ => (match v6 with | .int _ z => x.length - z.toNat | _ => 0))
      case atStart => exact ⟨0, Nat.zero_le _, rfl, by simp, rfl⟩
      case round =>
        obtain ⟨j, hj, rfl, hnm, hw⟩ := hrel
        have hw2 := hw.symm
        subst hw2
        clear hw
        by_cases hjx : j < x.length
        · have hxi := fun w => Sw.run_at (P := Tryz.prog) (w := w) Tryz.underlying9 x .i64 j hjx
          have hts := List.take_succ_eq_append_getElem hjx
          obtain ⟨c, hc⟩ : ∃ c, x[j] = c := ⟨_, rfl⟩
          rw [hc] at hxi hts
          have vv3 : decide (j < (str x).size) = true := decide_eq_true (by omega)
          have vv1 : decide ((j : Int) < ((str x).size : Int)) = true := decide_eq_true (by omega)
          have vv2 : (j : Int) < ((str x).size : Int) := by omega
          by_cases h39 : c = 39
          · subst h39
            have hxi2 : ∀ w, (Instr.index 9 (.string (str x)) (.int .i64 (j : Int))).run Tryz.prog w = .ok (.int .u8 39) w := hxi
            clear hxi hc hts hjx hnm
            go_wp2_with fail
            go_ret
            exact ⟨rfl, HB1.out⟩
          · have d0 : ¬ (c.toNat : Int) = 39 := fun e => h39 (UInt8.toNat_inj.1 (by show c.toNat = 39; omega))
            have d1 : ((c.toNat : Int) == 39) = false := by simpa using d0
            have d2 : decide ((c.toNat : Int) = 39) = false := decide_eq_false d0
            have HNm : Hid ((39 : UInt8) ∉ x.take (j + 1)) := by
              show ¬ _
              rw [hts]
              intro hm
              rcases List.mem_append.1 hm with hm | hm
              · exact hnm hm
              · exact h39 (List.mem_singleton.1 hm).symm
            clear hc hts hjx hnm h39
            go_wp2_with fail
            go_roundw
            case rel => exact ⟨j + 1, by omega, by go_num, HNm.out, trivial⟩
            case measure => simp; omega
        · obtain rfl : j = x.length := by omega
          rw [List.take_length] at hnm
          have HOk2 : Hid (∀ y ∈ xs.take (k + 1), qOk y) := fun y hy => by
            rw [HTk.out] at hy
            rcases List.mem_append.1 hy with hy | hy
            · exact HOk.out y hy
            · rw [List.mem_singleton.1 hy]; exact ⟨hx60, hnm⟩
          have vv3 : decide (x.length < (str x).size) = false := decide_eq_false (by omega)
          have vv1 : decide ((x.length : Int) < ((str x).size : Int)) = false := decide_eq_false (by omega)
          have vv2 : ¬ ((x.length : Int) < ((str x).size : Int)) := by omega
          have e1 : (⟨#[39]⟩ : ByteArray) ++ str x = str (39 :: x) := str_append [39] x
          have e2 : str (39 :: x) ++ ⟨#[39, 32]⟩ = str (39 :: (x ++ [39, 32])) := str_append (39 :: x) [39, 32]
          have e3 : str q ++ str (39 :: (x ++ [39, 32])) = str (q ++ (39 :: (x ++ [39, 32]))) := str_append _ _
          have z1 : 1 + (str x).size ≤ 9223372036854775807 := by rw [ex]; omega
          have z2 : (str (39 :: x)).size + 2 ≤ 9223372036854775807 := by rw [str_size]; simp; omega
          have z3 : (str q).size + (str (39 :: (x ++ [39, 32]))).size ≤ 9223372036854775807 := by rw [str_size, str_size]; simp; omega
          have HQn2 : Hid (qText (xs.take (k + 1)) = q ++ (39 :: (x ++ [39, 32]))) := by show _ = _; rw [HQn.out, HQ.out]
          clear hjx hnm
          go_wp2_with fail
          go_roundw
          case rel => exact ⟨k + 1, by omega, by go_num, by rw [HQn2.out], HOk2.out, trivial⟩
          case measure => simp; omega
    · obtain rfl : k = n := by omega
      have htl : xs.take k = xs := by rw [HN.out, List.take_length]
      rw [htl] at HOk ⊢
      have HQa := Lib.hid (quotes_all xs (fun x hx => (HOk.out x hx).2))
      have hql := qText_len xs (fun x hx => (HOk.out x hx).1)
      rw [← HN.out] at hql
      have u3 : decide (k < k) = false := decide_eq_false (by omega)
      have u1 : decide ((k : Int) < (k : Int)) = false := decide_eq_false (by omega)
      have u2 : ¬ ((k : Int) < (k : Int)) := by omega
      obtain ⟨q, hq⟩ : ∃ q, qText xs = q := ⟨_, rfl⟩
      rw [hq] at hql HQa ⊢
      clear htl hkn hq
      go_wp2_with fail
      refine (all_calls w1 q (by omega) HO1.out).mono ?_
      rintro r w2 ⟨hb2, hr⟩
      obtain ⟨ms, en, hall, hen, hmn, hms⟩ := HQa.out
      rw [hall] at hr
      obtain ⟨v, rfl, hown⟩ := hr
      obtain ⟨a3, q3, hv, x1, off, hcs3, hix3⟩ := toks_at hown
      subst hv
      have HB2 := Lib.hid (HB1.out.trans (hb2.mono HB1.out.size))
      have hml : (ms ++ [en]).length = k + 1 := by simp [hmn, HN.out]
      rw [hml] at hix3
      have HCt := Lib.hid hcs3
      have HIt := Lib.hid hix3
      have HMs := Lib.hid hms
      have HMn : Hid (ms.length = k) := by show _ = _; rw [hmn, HN.out]
      have HMl := Lib.hid hml
      have HBl := Lib.hid hb2
      rw [hml]
      clear hall hown hcs3 hix3 hms hmn hml hb2
      go_upto_region 22 with fail
      go_loopw [10] (fun v10 wr => ∃ j : Nat, j ≤ k ∧ v10 = .int .i64 (j : Int) ∧ Below w2.heap.size w2 wr) (fun v10 _ => (match v10 with | .int _ z => k - z.toNat | _ => 0))
      case atStart => exact ⟨0, Nat.zero_le _, rfl, Below.refl _ _⟩
      case round =>
        obtain ⟨j, hj, rfl, hbr⟩ := hrel
        by_cases hjk : j < k
        · have hjx : j < xs.length := by rw [← HN.out]; exact hjk
          have hjm : j < (ms ++ [en]).length := by rw [HMl.out]; omega
          have htk := tok_cells (HCt.out j hjm)
          have hgm : (ms ++ [en])[j] = ms[j]'(by rw [HMn.out]; exact hjk) := List.getElem_append_left _
          rw [hgm] at htk
          have hmj := HMs.out j _ _ (List.getElem?_eq_getElem (by rw [HMn.out]; exact hjk)) (List.getElem?_eq_getElem hjx)
          rw [hmj.1, hmj.2] at htk
          obtain ⟨x, hx⟩ : ∃ x, xs[j] = x := ⟨_, rfl⟩
          have hx60 : x.length ≤ 60 := by rw [← hx]; exact (HOk.out _ (List.getElem_mem hjx)).1
          have hcx := HCs.out j hjx
          rw [hx] at htk hcx
          have g0 : wr.cell? ⟨x1, off + j * 4, none⟩ = some (.int .i64 1) := cell_below hbr (Nat.le_refl _) htk.1
          have g1 : wr.cell? ⟨x1, off + j * 4 + 1, none⟩ = some (.string (str (39 :: (x ++ [39])))) := cell_below hbr (Nat.le_refl _) htk.2.1
          have g2 : wr.cell? ⟨b1, o1 + j, none⟩ = some (.string (str x)) := cell_below hbr (Nat.le_refl _) (cell_below HBl.out (Nat.le_refl _) hcx)
          have hi1 := fun w => HIt.out j w (by omega)
          have hi2 := fun w => HIx.out .i64 j w hjk
          have HBr := Lib.hid hbr
          have u3 : decide (j < k) = true := decide_eq_true (by omega)
          have u1 : decide ((j : Int) < (k : Int)) = true := decide_eq_true (by omega)
          have u2 : (j : Int) < (k : Int) := by omega
          have e1 : (⟨#[39]⟩ : ByteArray) ++ str x = str (39 :: x) := str_append [39] x
          have e2 : str (39 :: x) ++ ⟨#[39]⟩ = str (39 :: (x ++ [39])) := str_append (39 :: x) [39]
          have z1 : 1 + (str x).size ≤ 9223372036854775807 := by rw [str_size]; omega
          have z2 : (str (39 :: x)).size + 1 ≤ 9223372036854775807 := by rw [str_size]; simp; omega
          have t1 : ((str (39 :: (x ++ [39]))).toList == (str (39 :: (x ++ [39]))).toList) = true := by simp
          clear htk hgm hmj hx hcx hjm hjx hbr
          go_upto_region 24 with fail
          go_quiet (fail)
          have HBq : Hid (Below w2.heap.size w2 (wr.drewN 0)) := HBr.out
          go_wp2_with fail
          go_roundw
          case rel => exact ⟨j + 1, by omega, by go_num, HBr.out.trans ((drewN_below _ _).mono HBr.out.size)⟩
          case measure => simp; omega
        · obtain rfl : j = k := by omega
          have htk := tok_cells (HCt.out j (by rw [HMl.out]; omega))
          have hgm : (ms ++ [en])[j]'(by rw [HMl.out]; omega) = en := by
            rw [List.getElem_append_right (by rw [HMn.out]; exact Nat.le_refl _)]
            simp
          rw [hgm, hen] at htk
          have g0 : wr.cell? ⟨x1, off + j * 4, none⟩ = some (.int .i64 4) := cell_below hbr (Nat.le_refl _) htk.1
          have hi1 := fun w => HIt.out j w (by omega)
          have HF := Lib.hid (HB2.out.trans (hbr.mono HB2.out.size))
          have u3 : decide (j < j) = false := decide_eq_false (by omega)
          have u1 : decide ((j : Int) < (j : Int)) = false := decide_eq_false (by omega)
          have u2 : ¬ ((j : Int) < (j : Int)) := by omega
          clear htk hgm hbr hjk
          go_wp2_with fail
          go_ret
          exact ⟨rfl, HF.out⟩
end Go.Proofs.YtahipkigpjohnaaGreatDoor
