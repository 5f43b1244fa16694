/-
  Word: the statement on two words. Conditions: the library's table lies where it was laid.
-/
import Derived.Test.YtfjkgeeaeolkhaaDoorWoRow
import Derived.Deep.QuietTactic
import Derived.BigQuiet
set_option linter.unusedVariables false
set_option linter.unusedSimpArgs false
set_option maxRecDepth 100000
namespace Go.Proofs.YtfjkgeeaeolkhaaDoor
open Go.RowKit Base Wo

theorem u8_eq {a b : UInt8} : (a.toNat : Int) = (b.toNat : Int) ↔ a = b := ⟨fun h => UInt8.toNat_inj.1 (by omega), fun h => by rw [h]⟩
theorem post_any {F : Nat → Nm → M (List Prt)} {W : World} {s : Nm} {r : Ending} {W' : World} (h : WordPost F W s r W') :
    Below W.heap.size W W' ∧ ∃ f x u e, F f s = some x ∧ r = .returned (.tuple #[u, .int .i64 e]) ∧ match x with
      | .error d => u = .slice none 0 0 ∧ e = d
      | .ok l => e = 0 ∧ TreeH 9 (fun g => W.heap.size ≤ g) W' u l := by
  obtain ⟨f, x, hx, hb, hp⟩ := h
  cases x with
  | error d => exact ⟨hb, f, _, _, d, hx, hp, rfl, rfl⟩
  | ok l =>
    obtain ⟨u, hr, ht⟩ := hp
    exact ⟨hb, f, _, u, 0, hx, hr, rfl, ht⟩
theorem err_ne {f : Nat} {s : Nm} {d : Int} (h : parseM f s = some (.error d)) : d = 11 ∨ d = 21 := Wo.tidy_law h
theorem til_eq {a : Nm} : ((str a).toList == [126]) = decide (a = [126]) := by rw [str_toList]; by_cases h : a = [126] <;> simp [h]
/-- A row of parts that are read: where each one lies. -/
def Row5 (W : World) (u : Value) (l : List Prt) : Prop := ∃ a c, u = .slice a l.length c ∧ ∀ i (hi : i < l.length), ∃ g, (∀ (kd : IntKind) (w' : World), (Instr.indexAt 23 (.slice a l.length c) (.int kd (i : Int))).run Tryd.prog w' = .ok (.pointer (some ⟨g, i * 5, none⟩)) w') ∧
  W.cell? ⟨g, i * 5, none⟩ = some (.int .i64 (l[i].k : Int)) ∧ W.cell? ⟨g, i * 5 + 1, none⟩ = some (.string (str l[i].t)) ∧ W.cell? ⟨g, i * 5 + 2, none⟩ = some (.string (str l[i].o))
theorem row5 {P : Nat → Prop} {W : World} {u : Value} {l : List Prt} (h : TreeH 9 P W u l) : Row5 W u l ∧ l.length ≤ maxLen := by
  by_cases hl : 0 < l.length
  · obtain ⟨g, c, rfl, _, _, hm, hat⟩ := tree_at h hl
    exact ⟨⟨_, c, rfl, fun i hi => ⟨g, fun kd w' => idx_pt i hi kd w', (hat i hi).c0, (hat i hi).c1, (hat i hi).c2⟩⟩, hm⟩
  · obtain ⟨a, c, rfl⟩ := tree_slice h
    exact ⟨⟨a, c, rfl, fun i hi => absurd hi (by omega)⟩, by unfold maxLen; omega⟩
theorem parse_len {f : Nat} {s : Nm} {l : List Prt} (h : parseM f s = some (.ok l)) : l.length ≤ 2 * s.length + 1 := by
  obtain ⟨e, he, rfl⟩ := parse_emits h
  have h1 := wt_puts e.1 []
  have h2 := len_wt (puts [] e.1)
  have h3 : Sat E2 (fun x : Em => wt x.1 ≤ 2 * s.length + 1) (parseE f s) := by
    unfold parseE
    split
    · refine sat_bnd (loop_sat (part_sat f 0) f _) fun x hx => ?_
      have := hx.1.2.1
      show wt (Prt.mk 5 [] [] false [] :: x.1) ≤ _
      rw [wt_cons]
      show 0 + 1 + wt x.1 ≤ _
      rw [List.length_drop] at this
      omega
    · exact sat_mono (loop_sat (part_sat f 0) f _) fun x hx => by have := hx.1.2.1; omega
  rw [he] at h3
  have h4 : wt e.1 ≤ 2 * s.length + 1 := h3
  rw [wt_nil] at h1
  omega
set_option maxHeartbeats 8000000 in
theorem two_calls (W : World) (a b : Nm) (hO : OpsT W) : Calls Tryd.prog 5 #[.string (str a), .string (str b)] W fun r W' => r = .returned (.bool true) ∧ Below W.heap.size W W' := by
  have HO := Lib.hid hO
  clear hO
  go_enter Tryd.func5, Tryd.ntmps5
  go_upto_region 4 with fail
  refine (awake_calls W HO.out).mono ?_
  rintro r w1 ⟨rfl, hb⟩
  have HB1 := Lib.hid hb
  have HO1 := Lib.hid (HO.out.below hb)
  clear hb
  by_cases hla : a.length ≤ 300
  case neg =>
    have a3 : decide ((300 : Int) < ((str a).size : Int)) = true := by rw [str_size]; exact decide_eq_true (by omega)
    have a4 : 300 < (str a).size := by rw [str_size]; omega
    go_wp2_with fail
    go_ret
    exact ⟨rfl, HB1.out⟩
  have a3 : decide ((300 : Int) < ((str a).size : Int)) = false := by rw [str_size]; exact decide_eq_false (by omega)
  have a4 : ¬ 300 < (str a).size := by rw [str_size]; omega
  by_cases hlb : b.length ≤ 300
  case neg =>
    have b3 : decide ((300 : Int) < ((str b).size : Int)) = true := by rw [str_size]; exact decide_eq_true (by omega)
    have b4 : 300 < (str b).size := by rw [str_size]; omega
    go_wp2_with fail
    go_ret
    exact ⟨rfl, HB1.out⟩
  have b3 : decide ((300 : Int) < ((str b).size : Int)) = false := by rw [str_size]; exact decide_eq_false (by omega)
  have b4 : ¬ 300 < (str b).size := by rw [str_size]; omega
  by_cases htl : ∃ r, b = 126 :: r
  case pos =>
    obtain ⟨r, hr⟩ := htl
    have hl0 : 0 < b.length := by rw [hr]; simp
    have hix := fun W => Sw.run_at (P := Tryd.prog) (w := W) Tryd.underlying9 b .i64 0 hl0
    have hc : b[0] = 126 := by simp only [hr]; rfl
    rw [hc] at hix
    have hg : (str b)[0]'(by rw [str_size]; exact hl0) = 126 := hc
    have c3 : decide ((0 : Int) < ((str b).size : Int)) = true := by rw [str_size]; exact decide_eq_true (by omega)
    have c4 : 0 < (str b).size := by rw [str_size]; omega
    clear hr hc
    go_wp2_with fail
    go_ret
    exact ⟨rfl, HB1.out⟩
  have HNt := Lib.hid htl
  clear htl
  go_upto_region 4 with fail
  go_cut [36] (fun s36 wx => s36 = .bool false ∧ wx = w1)
  case first =>
    by_cases hl0 : 0 < b.length
    case pos =>
      have hix := fun W => Sw.run_at (P := Tryd.prog) (w := W) Tryd.underlying9 b .i64 0 hl0
      have hc : b[0] ≠ 126 := fun h => HNt.out ⟨b.tail, by cases b with | nil => cases hl0 | cons x r => simp at h ⊢; exact h⟩
      have hg : (str b)[0]'(by rw [str_size]; exact hl0) = b[0] := rfl
      generalize b[0] = c at *
      have d1 : decide ((c.toNat : Int) = 126) = false := decide_eq_false (fun h => hc (u8_eq (b := 126).1 h))
      have d2 : ¬ (c.toNat : Int) = 126 := fun h => hc (u8_eq (b := 126).1 h)
      have c3 : decide ((0 : Int) < ((str b).size : Int)) = true := by rw [str_size]; exact decide_eq_true (by omega)
      have c4 : 0 < (str b).size := by rw [str_size]; omega
      clear hc
      go_wp2_with fail
      go_meet
      exact ⟨by simp [d2], rfl⟩
    have c3 : decide ((0 : Int) < ((str b).size : Int)) = false := by rw [str_size]; exact decide_eq_false (by omega)
    have c4 : ¬ 0 < (str b).size := by rw [str_size]; omega
    go_wp2_with fail
    go_meet
    exact ⟨rfl, rfl⟩
  case rest =>
    obtain ⟨rfl, hwc⟩ := hcut
    have hwc2 := hwc.symm
    subst hwc2
    clear hwc a3 a4 b3 b4
    have HP1 := Lib.hid (parse_calls w1 a (by omega) HO1.out)
    go_wp2_with fail
    refine HP1.out.mono ?_
    rintro r w2 hpost
    obtain ⟨hb, f1, x, u, e, hx, rfl, hc⟩ := post_any hpost
    have HB2 := Lib.hid (HB1.out.trans (hb.mono HB1.out.size))
    have HX := Lib.hid hx
    have HC := Lib.hid hc
    clear hpost hx hc hb
    have HP2 := Lib.hid (parse_calls w2 b (by omega) (HO.out.below HB2.out))
    go_wp2_with fail
    refine HP2.out.mono ?_
    rintro r w3 hpost
    obtain ⟨hb, f2, x2, v, e2, hx, rfl, hc⟩ := post_any hpost
    have HB3 := Lib.hid (HB2.out.trans (hb.mono HB2.out.size))
    have HBx := Lib.hid hb
    have HX2 := Lib.hid hx
    have HC2 := Lib.hid hc
    clear hpost hx hc hb
    have hc1 : (str a).size + 2 ≤ 9223372036854775807 := by rw [str_size]; omega
    have hc2 : (str a).size + 2 + (str b).size ≤ 9223372036854775807 := by rw [str_size, str_size]; omega
    have hE : str a ++ (⟨#[39, 39]⟩ : ByteArray) ++ str b = str (a ++ 39 :: 39 :: b) := by
      show str a ++ str [39, 39] ++ str b = _
      rw [str_append, str_append]
      simp
    have HP3 := Lib.hid (parse_calls w3 (a ++ 39 :: 39 :: b) (by simp; omega) (HO.out.below HB3.out))
    go_wp2_with fail
    refine HP3.out.mono ?_
    rintro r w4 hpost
    obtain ⟨hb, f3, x3, t, e3, hx, rfl, hc⟩ := post_any hpost
    have HB4 := Lib.hid (HB3.out.trans (hb.mono HB3.out.size))
    have HBy := Lib.hid hb
    have HX3 := Lib.hid hx
    have HC3 := Lib.hid hc
    clear hpost hx hc hb hc1 hc2 hE HP1 HP2 HP3
    cases x with
    | error d =>
      obtain ⟨_, rfl⟩ := HC.out
      have hd : ¬ e = 0 := by have := err_ne HX.out; omega
      go_wp2_with fail
      go_ret
      exact ⟨rfl, HB4.out⟩
    | ok l =>
    obtain ⟨rfl, ht1⟩ := HC.out
    cases x2 with
    | error d =>
      obtain ⟨_, rfl⟩ := HC2.out
      have hd : ¬ e2 = 0 := by have := err_ne HX2.out; omega
      go_wp2_with fail
      go_ret
      exact ⟨rfl, HB4.out⟩
    | ok m =>
    obtain ⟨rfl, ht2⟩ := HC2.out
    have q1 := til_eq (a := a)
    by_cases hta : a = [126]
    case pos =>
      have q2 : (str a).toList = [126] := by rw [str_toList]; exact hta
      rw [decide_eq_true hta] at q1
      clear hta
      go_wp2_with fail
      go_ret
      exact ⟨rfl, HB4.out⟩
    have q2 : ¬ (str a).toList = [126] := by rw [str_toList]; exact hta
    rw [decide_eq_false hta] at q1
    obtain ⟨n, hxe, htw⟩ := two_law HX.out HX2.out hta (fun r h => HNt.out ⟨r, h⟩) HX3.out
    subst hxe
    obtain ⟨rfl, ht3⟩ := HC3.out
    have HTw := Lib.hid htw
    have hlo := htw.lo
    have hhi := htw.hi
    have hge := htw.ge
    have hm1 := parse_len HX.out
    have hm2 := parse_len HX2.out
    have hr1 := (row5 (tree_below (tree_below ht1 HBx.out) HBy.out)).1
    have hr2 := (row5 (tree_below ht2 HBy.out)).1
    have hr3 := (row5 ht3).1
    obtain ⟨la, lc, rfl, h1⟩ := hr1
    obtain ⟨ma, mc, rfl, h2⟩ := hr2
    obtain ⟨na, nc, rfl, h3⟩ := hr3
    have H1 := Lib.hid h1
    have H2 := Lib.hid h2
    have H3 := Lib.hid h3
    have hll : l.length ≤ 1000 := by omega
    have hml : m.length ≤ 1000 := by omega
    have hnl : n.length ≤ 3000 := by omega
    clear h1 h2 h3 ht1 ht2 ht3 htw hta HC HC2 HC3 HX HX2 HX3 hm1 hm2
    have z1 : decide ((n.length : Int) < (l.length : Int)) = false := decide_eq_false (by omega)
    have z2 : ¬ (n.length : Int) < (l.length : Int) := by omega
    have z3 : ¬ n.length < l.length := by omega
    have y1 : IntKind.i64.wrap ((l.length : Int) + (m.length : Int)) = (l.length : Int) + (m.length : Int) := IntWalk.i64_in _ (by omega)
    have y2 : IntKind.i64.wrap ((l.length : Int) + (m.length : Int) + 1) = (l.length : Int) + (m.length : Int) + 1 := IntWalk.i64_in _ (by omega)
    have y3 : decide ((l.length : Int) + (m.length : Int) + 1 < (n.length : Int)) = false := decide_eq_false (by omega)
    have y4 : ¬ (l.length : Int) + (m.length : Int) + 1 < (n.length : Int) := by omega
    go_upto_region 15 with fail
    clear z1 z2 z3 y1 y2 y3 y4 q1 q2
    go_loopw [13] (fun v13 wr => ∃ i : Nat, i ≤ l.length ∧ v13 = .int .i64 (i : Int) ∧ Below w4.heap.size w4 wr) (fun v13 _ => l.length - (intOf v13).toNat)
    case atStart => exact ⟨0, Nat.zero_le _, rfl, Below.refl _ _⟩
    case round =>
      obtain ⟨i, hi, rfl, hbr⟩ := hrel
      have HBr := Lib.hid hbr
      by_cases hlt : i < l.length
      case pos =>
        obtain ⟨gl, xl, l0, l1, l2⟩ := H1.out i hlt
        obtain ⟨gn, xn, n0, n1, n2⟩ := H3.out i (by omega)
        obtain ⟨t0, t1, t2⟩ := HTw.out.a i hlt (by omega)
        rw [t0] at n0
        rw [t2] at n2
        replace l0 := cell_below hbr (Nat.le_refl _) l0
        replace l1 := cell_below hbr (Nat.le_refl _) l1
        replace l2 := cell_below hbr (Nat.le_refl _) l2
        replace n0 := cell_below hbr (Nat.le_refl _) n0
        replace n1 := cell_below hbr (Nat.le_refl _) n1
        replace n2 := cell_below hbr (Nat.le_refl _) n2
        have y1 : IntKind.i64.wrap ((l.length : Int) - 1) = (l.length : Int) - 1 := IntWalk.i64_in _ (by omega)
        have z3 : decide (i < l.length) = true := decide_eq_true (by omega)
        have z1 : decide ((i : Int) < (l.length : Int)) = true := decide_eq_true (by omega)
        have z2 : (i : Int) < (l.length : Int) := by omega
        generalize l[i].k = pk at *
        generalize l[i].o = po at *
        clear hbr t0 t2
        go_upto_region 17 with fail
        go_cut [134] (fun s134 wx => s134 = .bool false ∧ Below wr.heap.size wr wx)
        case first =>
          by_cases hlast : i + 1 < l.length
          case pos =>
            rw [t1 hlast] at n1
            have k1 : decide ((i : Int) < (l.length : Int) - 1) = true := decide_eq_true (by omega)
            have k2 : (i : Int) < (l.length : Int) - 1 := by omega
            generalize l[i].t = pt at *
            go_quiet (fail)
            go_wp2_with fail
            go_meet
            exact ⟨rfl, ⟨rfl, rfl, rfl, Nat.le_refl _, fun _ _ => rfl⟩⟩
          have k1 : decide ((i : Int) < (l.length : Int) - 1) = false := decide_eq_false (by omega)
          have k2 : ¬ (i : Int) < (l.length : Int) - 1 := by omega
          clear t1 l1 n1
          go_quiet (fail)
          go_wp2_with fail
          go_meet
          exact ⟨rfl, ⟨rfl, rfl, rfl, Nat.le_refl _, fun _ _ => rfl⟩⟩
        case rest =>
          obtain ⟨rfl, hbc⟩ := hcut
          have HBc : Hid (Below w4.heap.size w4 wc) := HBr.out.trans (hbc.mono HBr.out.size)
          clear hbc l0 l1 l2 n0 n1 n2 t1 xl xn y1 z1 z2 z3
          go_wp2_with fail
          go_roundw
          case rel => exact ⟨i + 1, by omega, by go_num, HBc.out⟩
          case measure => simp [intOf]; omega
      obtain rfl : i = l.length := by omega
      have z3 : decide (l.length < l.length) = false := decide_eq_false (by omega)
      have z1 : decide ((l.length : Int) < (l.length : Int)) = false := decide_eq_false (by omega)
      have z2 : ¬ ((l.length : Int) < (l.length : Int)) := by omega
      go_upto_region 20 with fail
      clear z1 z2 hbr hlt
      go_loopw [14, 15] (fun v14 _ wq => ∃ j : Nat, j ≤ m.length ∧ v14 = .int .i64 (j : Int) ∧ Below w4.heap.size w4 wq) (fun v14 _ _ => m.length - (intOf v14).toNat)
      case atStart => exact ⟨0, Nat.zero_le _, rfl, HBr.out⟩
      case round =>
        clear HBr
        obtain ⟨j, hj, rfl, hbr⟩ := hrel
        have HBr := Lib.hid hbr
        by_cases hlt : j < m.length
        case pos =>
          obtain ⟨D, hD⟩ : ∃ D, n.length - m.length = D := ⟨_, rfl⟩
          obtain ⟨t0, t1, t2⟩ := HTw.out.b j hlt (by omega)
          obtain ⟨gl, xl, l0, l1, l2⟩ := H2.out j hlt
          obtain ⟨gn, xn, n0, n1, n2⟩ := H3.out (n.length - m.length + j) (by omega)
          rw [t0] at n0
          rw [t2] at n2
          replace l0 := cell_below hbr (Nat.le_refl _) l0
          replace l1 := cell_below hbr (Nat.le_refl _) l1
          replace l2 := cell_below hbr (Nat.le_refl _) l2
          replace n0 := cell_below hbr (Nat.le_refl _) n0
          replace n1 := cell_below hbr (Nat.le_refl _) n1
          replace n2 := cell_below hbr (Nat.le_refl _) n2
          have hJn : n.length - m.length + j < n.length := by omega
          clear t0 t2
          obtain ⟨nt, hnt⟩ : ∃ nt, n[n.length - m.length + j].t = nt := ⟨_, rfl⟩
          rw [hnt] at n1 t1
          clear hnt
          obtain ⟨J, hJ⟩ : ∃ J, n.length - m.length + j = J := ⟨_, rfl⟩
          rw [hJ] at xn n0 n1 n2 hJn
          have y1 : IntKind.i64.wrap ((n.length : Int) - (m.length : Int)) = (D : Int) := by rw [IntWalk.i64_in _ (by omega)]; omega
          have y2 : IntKind.i64.wrap ((D : Int) + (j : Int)) = (J : Int) := by rw [IntWalk.i64_in _ (by omega)]; omega
          have y3 : (n.length : Int) - (m.length : Int) = (D : Int) := by omega
          have y4 : (D : Int) + (j : Int) = (J : Int) := by omega
          have z3 : decide (j < m.length) = true := decide_eq_true (by omega)
          have z1 : decide ((j : Int) < (m.length : Int)) = true := decide_eq_true (by omega)
          have z2 : (j : Int) < (m.length : Int) := by omega
          go_upto_region 22 with fail
          go_cut [15] (fun s15 wx => s15 = .int .i64 (J : Int) ∧ wx = wr)
          case first =>
            clear xl xn l0 l1 l2 n0 n1 n2 t1
            go_wp2_with fail
            go_meet
            exact ⟨rfl, rfl⟩
          case rest =>
            obtain ⟨rfl, hwc⟩ := hcut
            have hwc2 := hwc.symm
            subst hwc2
            clear hwc y1 y2 y3 y4 hbr
            generalize m[j].k = pk at *
            generalize m[j].o = po at *
            have x1 : decide ((J : Int) < 0) = false := decide_eq_false (by omega)
            have x2 : ¬ (J : Int) < 0 := by omega
            go_upto_region 23 with fail
            go_cut [191] (fun s191 wx => s191 = .bool false ∧ Below wr.heap.size wr wx)
            case first =>
              by_cases h0 : 0 < j
              case pos =>
                rw [t1 h0] at n1
                have k1 : decide ((0 : Int) < (j : Int)) = true := decide_eq_true (by omega)
                have k2 : (0 : Int) < (j : Int) := by omega
                generalize m[j].t = pt at *
                clear t1
                go_quiet (fail)
                go_wp2_with fail
                go_meet
                exact ⟨rfl, ⟨rfl, rfl, rfl, Nat.le_refl _, fun _ _ => rfl⟩⟩
              have k1 : decide ((0 : Int) < (j : Int)) = false := decide_eq_false (by omega)
              have k2 : ¬ (0 : Int) < (j : Int) := by omega
              clear t1 l1 n1
              go_quiet (fail)
              go_wp2_with fail
              go_meet
              exact ⟨rfl, ⟨rfl, rfl, rfl, Nat.le_refl _, fun _ _ => rfl⟩⟩
            case rest =>
              obtain ⟨rfl, hbc⟩ := hcut
              have HBc : Hid (Below w4.heap.size w4 wc) := HBr.out.trans (hbc.mono HBr.out.size)
              clear hbc l0 l1 l2 n0 n1 n2 t1 xl xn x1 x2 z1 z2 z3
              go_wp2_with fail
              go_roundw
              case rel => exact ⟨j + 1, by omega, by go_num, HBc.out⟩
              case measure => simp [intOf]; omega
        obtain rfl : j = m.length := by omega
        have z3 : decide (m.length < m.length) = false := decide_eq_false (by omega)
        have z1 : decide ((m.length : Int) < (m.length : Int)) = false := decide_eq_false (by omega)
        have z2 : ¬ ((m.length : Int) < (m.length : Int)) := by omega
        go_wp2_with fail
        go_ret
        exact ⟨rfl, HB4.out.trans (HBr.out.mono HB4.out.size)⟩
end Go.Proofs.YtfjkgeeaeolkhaaDoor
