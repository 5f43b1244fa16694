/-
  Syntax: SyntaxBlanks answers true. Conditions: what must lie there lies there; the row of texts reads as a list.
-/
import Derived.Test.YtknncfoaegmphaaGreatDoorSySame
import Derived.Test.YtknncfoaegmphaaGreatDoorGSyH
set_option linter.unusedVariables false
set_option linter.unusedSimpArgs false
set_option maxRecDepth 100000
namespace Go.Proofs.YtknncfoaegmphaaGreatDoor.Sx
open Go.RowKit Base Lx Sy

theorem aText_app : ∀ a b : List Nm, Sy.aText (a ++ b) = Sy.aText a ++ Sy.aText b
  | [], b => rfl
  | w :: a, b => by show w ++ 10 :: Sy.aText (a ++ b) = (w ++ 10 :: Sy.aText a) ++ Sy.aText b; rw [aText_app a b]; simp
theorem bText_app (more : Nm) : ∀ a b : List Nm, Sy.bText more (a ++ b) = Sy.bText more a ++ Sy.bText more b
  | [], b => rfl
  | w :: a, b => by
    show 32 :: 9 :: (w ++ 32 :: 35 :: (more ++ 10 :: 10 :: Sy.bText more (a ++ b))) = (32 :: 9 :: (w ++ 32 :: 35 :: (more ++ 10 :: 10 :: Sy.bText more a))) ++ Sy.bText more b
    rw [bText_app more a b]; simp
theorem aText_next {l : List Nm} {i : Nat} (h : i < l.length) : Sy.aText (l.take (i + 1)) = Sy.aText (l.take i) ++ (l[i] ++ [10]) := by
  rw [List.take_succ_eq_append_getElem h, aText_app]; rfl
theorem bText_next {more : Nm} {l : List Nm} {i : Nat} (h : i < l.length) : Sy.bText more (l.take (i + 1)) = Sy.bText more (l.take i) ++ (32 :: 9 :: (l[i] ++ 32 :: 35 :: (more ++ [10, 10]))) := by
  rw [List.take_succ_eq_append_getElem h, bText_app]; rfl
theorem aText_len : ∀ {l : List Nm}, (∀ w ∈ l, w.length ≤ 60) → (Sy.aText l).length ≤ 61 * l.length
  | [], _ => by simp [Sy.aText]
  | w :: l, h => by
    have h1 := h w List.mem_cons_self
    have h2 := aText_len fun v hv => h v (List.mem_cons_of_mem _ hv)
    show (w ++ 10 :: Sy.aText l).length ≤ _
    simp; omega
theorem bText_len {more : Nm} : ∀ {l : List Nm}, (∀ w ∈ l, w.length ≤ 60) → (Sy.bText more l).length ≤ (66 + more.length) * l.length
  | [], _ => by simp [Sy.bText]
  | w :: l, h => by
    have h1 := h w List.mem_cons_self
    have h2 := bText_len (more := more) fun v hv => h v (List.mem_cons_of_mem _ hv)
    show (32 :: 9 :: (w ++ 32 :: 35 :: (more ++ 10 :: 10 :: Sy.bText more l))).length ≤ _
    simp only [List.length_cons, List.length_append, Nat.mul_succ] at h2 ⊢
    omega
def wOk (x : Nm) : Prop := x.length ≤ 60 ∧ x.all okC = true
theorem rowN_below {W W' : World} {B : Nat} {P : Nat → Prop} {v : Value} {l : List Nd} (h : RowN W B P v l) (hb : Below W.heap.size W W') : RowN W' B P v l :=
  h.keep (fun g X _ hX => hb.block g (Array.getElem?_eq_some_iff.1 hX).1) (fun g X t _ hX _ => hb.block g (Array.getElem?_eq_some_iff.1 hX).1)
def ParIs (x : Except (Int × Nat) (List Nd)) (l : List Nd) (e : Int) : Prop := match x with
  | .error y => l = [] ∧ e = y.1
  | .ok m => l = m ∧ e = 0
/-- What Parse answers, whatever it is. -/
theorem par_any {W W' : World} {x : Except (Int × Nat) (List Nd)} {r : Ending} (h : ParPost W x r W') : Below W.heap.size W W' ∧ ∃ (a : Option Addr) (k c : Nat) (l : List Nd) (e g : Int), r = .returned (.tuple #[.agg #[.slice a k c], .int .i64 e, .int .i64 g]) ∧ RowN W' W.heap.size (fun g => W.heap.size ≤ g) (.slice a k c) l ∧ ParIs x l e := by
  refine ⟨h.1, ?_⟩
  cases x with
  | error y => exact ⟨none, 0, 0, [], y.1, _, h.2, ⟨[], rfl, World.ownsRow_nil _ _ _ _, fun x hx => absurd hx List.not_mem_nil⟩, rfl, rfl⟩
  | ok m =>
    obtain ⟨v, h1, h2⟩ := h.2
    obtain ⟨a, c, hv, _⟩ := nodes_at h2
    subst hv
    exact ⟨a, _, c, m, 0, 0, h1, h2, rfl, rfl⟩
theorem par_alike {x y : Except (Int × Nat) (List Nd)} (h : Sy.Alike x y) {l m : List Nd} {e f : Int} (hx : ParIs x l e) (hy : ParIs y m f) : e = f ∧ decide (l.map Sy.bare = m.map Sy.bare) = true := by
  cases x with
  | error a => cases y with
    | ok b => exact h.elim
    | error b =>
      obtain ⟨rfl, rfl⟩ := hx
      obtain ⟨rfl, rfl⟩ := hy
      exact ⟨h, by simp⟩
  | ok a => cases y with
    | error b => exact h.elim
    | ok b =>
      obtain ⟨rfl, rfl⟩ := hx
      obtain ⟨rfl, rfl⟩ := hy
      exact ⟨rfl, decide_eq_true h.symm⟩
set_option maxHeartbeats 16000000 in
theorem blanks_calls (W : World) (a0 : Option Addr) (n c0 : Nat) (xs : List Nm) (more : Nm) (h : Strs W a0 n c0 xs) (hO : Gl W) : Calls Tryz.prog 4 #[.slice a0 n c0, .string (str more)] W fun r W' => r = .returned (.bool true) ∧ Below W.heap.size W W' := by
  have HO := Lib.hid hO
  have H := Lib.hid h
  have hn : n = xs.length := h.1
  have emore : (str more).size = more.length := rfl
  clear hO h
  go_enter Tryz.func4, Tryz.ntmps4
  go_wp2_with fail
  refine (awake_calls W HO.out).mono ?_
  rintro r w1 ⟨rfl, hb1⟩
  have HB1 := Lib.hid hb1
  have HO1 := Lib.hid (HO.out.below hb1)
  have HS1 := Lib.hid (H.out.below stable_strAt hb1)
  clear hb1
  by_cases hl : 40 < n
  · have u1 : decide ((40 : Int) < (n : Int)) = true := decide_eq_true (by omega)
    have u2 : (40 : Int) < (n : Int) := by omega
    go_wp2_with fail
    go_ret
    exact ⟨rfl, HB1.out⟩
  have u1 : decide ((40 : Int) < (n : Int)) = false := decide_eq_false (by omega)
  have u2 : ¬ ((40 : Int) < (n : Int)) := by omega
  by_cases hlm : 30 < more.length
  · have um1 : decide ((30 : Int) < ((str more).size : Int)) = true := decide_eq_true (by omega)
    have um2 : (30 : Int) < ((str more).size : Int) := by omega
    go_wp2_with fail
    go_ret
    exact ⟨rfl, HB1.out⟩
  have um1 : decide ((30 : Int) < ((str more).size : Int)) = false := decide_eq_false (by omega)
  have um2 : ¬ ((30 : Int) < ((str more).size : Int)) := by omega
  have hm30 : more.length ≤ 30 := by omega
  have hn40 : n ≤ 40 := by omega
  have HN := Lib.hid hn
  obtain ⟨b1, o1, hcs, hix⟩ := at_strs HS1.out
  have HCs := Lib.hid hcs
  have HIx := Lib.hid hix
  clear hl hlm hn hcs hix
  go_upto_region 7 with fail
  clear u1 u2 um1 um2
  go_loopw [6] (fun v6 wr => ∃ j : Nat, j ≤ more.length ∧ v6 = .int .i64 (j : Int) ∧ (10 : UInt8) ∉ more.take j ∧ wr = w1) (fun v6 _ => more.length - vQ v6)
  case atStart => exact ⟨0, Nat.zero_le _, rfl, by simp, rfl⟩
  case round =>
    obtain ⟨j, hj, rfl, hnm, hw⟩ := hrel
    have hw2 := hw.symm
    subst hw2
    clear hw
    by_cases hjx : j < more.length
    · have hxi := fun w => Sw.run_at (P := Tryz.prog) (w := w) Tryz.underlying9 more .i64 j hjx
      have hts := List.take_succ_eq_append_getElem hjx
      obtain ⟨c, hc⟩ : ∃ c, more[j] = c := ⟨_, rfl⟩
      rw [hc] at hxi hts
      have vv3 : decide (j < (str more).size) = true := decide_eq_true (by omega)
      have vv1 : decide ((j : Int) < ((str more).size : Int)) = true := decide_eq_true (by omega)
      have vv2 : (j : Int) < ((str more).size : Int) := by omega
      by_cases h10 : c = 10
      · subst h10
        have hxi2 : ∀ w, (Instr.index 9 (.string (str more)) (.int .i64 (j : Int))).run Tryz.prog w = .ok (.int .u8 10) w := hxi
        clear hxi hc hts hjx hnm
        go_wp2_with fail
        go_ret
        exact ⟨rfl, HB1.out⟩
      · have d0 : ¬ (c.toNat : Int) = 10 := fun e => h10 (UInt8.toNat_inj.1 (by show c.toNat = 10; omega))
        have d1 : ((c.toNat : Int) == 10) = false := by simpa using d0
        have d2 : decide ((c.toNat : Int) = 10) = false := decide_eq_false d0
        have HNm : Hid ((10 : UInt8) ∉ more.take (j + 1)) := by
          show ¬ _
          rw [hts]
          intro hm
          rcases List.mem_append.1 hm with hm | hm
          · exact hnm hm
          · exact h10 (List.mem_singleton.1 hm).symm
        clear hc hts hjx hnm h10
        go_wp2_with fail
        go_roundw
        case rel => exact ⟨j + 1, by omega, by go_num, HNm.out, trivial⟩
        case measure => simp [vQ]; omega
    · obtain rfl : j = more.length := by omega
      rw [List.take_length] at hnm
      have HM := Lib.hid hnm
      have vv3 : decide (more.length < (str more).size) = false := decide_eq_false (by omega)
      have vv1 : decide ((more.length : Int) < ((str more).size : Int)) = false := decide_eq_false (by omega)
      have vv2 : ¬ ((more.length : Int) < ((str more).size : Int)) := by omega
      clear hjx hnm hj
      go_upto_region 14 with fail
      clear vv1 vv2
      go_loopw [7, 8, 9, 10, 11] (fun v7 v8 v9 _ _ wr => ∃ i : Nat, i ≤ n ∧ v9 = .int .i64 (i : Int) ∧ v7 = .string (str (Sy.aText (xs.take i))) ∧ v8 = .string (str (Sy.bText more (xs.take i))) ∧ (∀ x ∈ xs.take i, wOk x) ∧ wr = w1) (fun _ _ v9 _ _ _ => n - vQ v9)
      case atStart => exact ⟨0, Nat.zero_le _, rfl, rfl, rfl, fun x hx => by simp at hx, rfl⟩
      case round =>
        obtain ⟨i, hi, rfl, rfl, rfl, hok, hw⟩ := hrel
        have hw2 := hw.symm
        subst hw2
        have HOk := Lib.hid hok
        clear hw hok
        by_cases hin : i < n
        case pos =>
          have hil : i < xs.length := by rw [← HN.out]; exact hin
          have hixk := fun w => HIx.out .i64 i w hin
          have hck := HCs.out i hil
          have han := aText_next hil
          have hbn := bText_next (more := more) hil
          have htk := List.take_succ_eq_append_getElem hil
          have hal := aText_len (fun w hw => (HOk.out w hw).1)
          have hbl := bText_len (more := more) (fun w hw => (HOk.out w hw).1)
          rw [List.length_take] at hal hbl
          obtain ⟨x, hx⟩ : ∃ x, xs[i] = x := ⟨_, rfl⟩
          rw [hx] at hck han hbn htk
          obtain ⟨A, hA⟩ : ∃ A, Sy.aText (xs.take i) = A := ⟨_, rfl⟩
          obtain ⟨B, hB⟩ : ∃ B, Sy.bText more (xs.take i) = B := ⟨_, rfl⟩
          rw [hA] at han hal ⊢
          rw [hB] at hbn hbl ⊢
          have HAn := Lib.hid han
          have HBn := Lib.hid hbn
          have HTk := Lib.hid htk
          have ex : (str x).size = x.length := rfl
          have hal2 : A.length ≤ 61 * 40 := by omega
          have hbl2 : B.length ≤ 96 * 40 := Nat.le_trans hbl (Nat.mul_le_mul (by omega) (by omega))
          have u3 : decide (i < n) = true := decide_eq_true (by omega)
          have u1 : decide ((i : Int) < (n : Int)) = true := decide_eq_true (by omega)
          have u2 : (i : Int) < (n : Int) := by omega
          clear han hbn htk hx hil hA hB hal hbl
          by_cases hlx : 60 < x.length
          · have v1 : decide ((60 : Int) < ((str x).size : Int)) = true := decide_eq_true (by omega)
            have v2 : (60 : Int) < ((str x).size : Int) := by omega
            go_wp2_with fail
            go_ret
            exact ⟨rfl, HB1.out⟩
          have v1 : decide ((60 : Int) < ((str x).size : Int)) = false := decide_eq_false (by omega)
          have v2 : ¬ ((60 : Int) < ((str x).size : Int)) := by omega
          have hx60 : x.length ≤ 60 := by omega
          clear hlx
          go_upto_region 19 with fail
          go_loopw [10, 11] (fun v10 _ wr => ∃ k : Nat, k ≤ x.length ∧ v10 = .int .i64 (k : Int) ∧ (x.take k).all okC = true ∧ wr = w1) (fun v10 _ _ => x.length - vQ v10)
          case atStart => exact ⟨0, Nat.zero_le _, rfl, rfl, rfl⟩
          case round =>
            obtain ⟨k, hk, rfl, hal, hw⟩ := hrel
            have hw2 := hw.symm
            subst hw2
            clear hw
            by_cases hkx : k < x.length
            case pos =>
              have hxi := fun w => Sw.run_at (P := Tryz.prog) (w := w) Tryz.underlying9 x .i64 k hkx
              have hts := List.take_succ_eq_append_getElem hkx
              obtain ⟨c, hc⟩ : ∃ c, x[k] = c := ⟨_, rfl⟩
              rw [hc] at hxi hts
              have vv3 : decide (k < (str x).size) = true := decide_eq_true (by omega)
              have vv1 : decide ((k : Int) < ((str x).size : Int)) = true := decide_eq_true (by omega)
              have vv2 : (k : Int) < ((str x).size : Int) := by omega
              have HNk : Hid (okC c = true → (x.take (k + 1)).all okC = true) := fun h => by rw [hts, List.all_append, hal]; simp [h]
              clear hc hts hal
              go_upto_region 22 with fail
              clear hixk hck hxi
              by_cases r1 : 97 ≤ c.toNat ∧ c.toNat ≤ 122
              case pos =>
                have HNk2 := Lib.hid (HNk.out (by unfold okC; have h1 : (97 : UInt8) ≤ c := UInt8.le_iff_toNat_le.2 r1.1; have h2 : c ≤ (122 : UInt8) := UInt8.le_iff_toNat_le.2 r1.2; simp [h1, h2]))
                have g1 : decide ((c.toNat : Int) < 97) = false := decide_eq_false (by omega)
                have g2 : decide ((122 : Int) < (c.toNat : Int)) = false := decide_eq_false (by omega)
                have g3 : ¬ (c.toNat : Int) < 97 := by omega
                have g4 : ¬ (122 : Int) < (c.toNat : Int) := by omega
                clear HNk
                go_wp2_with fail
                go_roundw
                case rel => exact ⟨k + 1, by omega, by go_num, HNk2.out, trivial⟩
                case measure => simp [vQ]; omega
              by_cases q59 : c = 59
              case pos =>
                subst q59
                have HNk2 := Lib.hid (HNk.out (by decide))
                clear HNk r1
                go_wp2_with fail
                go_roundw
                case rel => exact ⟨k + 1, by omega, by go_num, HNk2.out, trivial⟩
                case measure => simp [vQ]; omega
              by_cases q38 : c = 38
              case pos =>
                subst q38
                have HNk2 := Lib.hid (HNk.out (by decide))
                clear HNk r1
                go_wp2_with fail
                go_roundw
                case rel => exact ⟨k + 1, by omega, by go_num, HNk2.out, trivial⟩
                case measure => simp [vQ]; omega
              by_cases q124 : c = 124
              case pos =>
                subst q124
                have HNk2 := Lib.hid (HNk.out (by decide))
                clear HNk r1
                go_wp2_with fail
                go_roundw
                case rel => exact ⟨k + 1, by omega, by go_num, HNk2.out, trivial⟩
                case measure => simp [vQ]; omega
              by_cases q40 : c = 40
              case pos =>
                subst q40
                have HNk2 := Lib.hid (HNk.out (by decide))
                clear HNk r1
                go_wp2_with fail
                go_roundw
                case rel => exact ⟨k + 1, by omega, by go_num, HNk2.out, trivial⟩
                case measure => simp [vQ]; omega
              by_cases q41 : c = 41
              case pos =>
                subst q41
                have HNk2 := Lib.hid (HNk.out (by decide))
                clear HNk r1
                go_wp2_with fail
                go_roundw
                case rel => exact ⟨k + 1, by omega, by go_num, HNk2.out, trivial⟩
                case measure => simp [vQ]; omega
              by_cases q123 : c = 123
              case pos =>
                subst q123
                have HNk2 := Lib.hid (HNk.out (by decide))
                clear HNk r1
                go_wp2_with fail
                go_roundw
                case rel => exact ⟨k + 1, by omega, by go_num, HNk2.out, trivial⟩
                case measure => simp [vQ]; omega
              by_cases q125 : c = 125
              case pos =>
                subst q125
                have HNk2 := Lib.hid (HNk.out (by decide))
                clear HNk r1
                go_wp2_with fail
                go_roundw
                case rel => exact ⟨k + 1, by omega, by go_num, HNk2.out, trivial⟩
                case measure => simp [vQ]; omega
              by_cases q33 : c = 33
              case pos =>
                subst q33
                have HNk2 := Lib.hid (HNk.out (by decide))
                clear HNk r1
                go_wp2_with fail
                go_roundw
                case rel => exact ⟨k + 1, by omega, by go_num, HNk2.out, trivial⟩
                case measure => simp [vQ]; omega
              have d59 : ¬ (c.toNat : Int) = 59 := fun e => q59 (UInt8.toNat_inj.1 (by show c.toNat = 59; omega))
              have e59 : ((c.toNat : Int) == 59) = false := by simpa using d59
              have f59 : ((c.toNat : Int) != 59) = true := by simpa using d59
              have d38 : ¬ (c.toNat : Int) = 38 := fun e => q38 (UInt8.toNat_inj.1 (by show c.toNat = 38; omega))
              have e38 : ((c.toNat : Int) == 38) = false := by simpa using d38
              have f38 : ((c.toNat : Int) != 38) = true := by simpa using d38
              have d124 : ¬ (c.toNat : Int) = 124 := fun e => q124 (UInt8.toNat_inj.1 (by show c.toNat = 124; omega))
              have e124 : ((c.toNat : Int) == 124) = false := by simpa using d124
              have f124 : ((c.toNat : Int) != 124) = true := by simpa using d124
              have d40 : ¬ (c.toNat : Int) = 40 := fun e => q40 (UInt8.toNat_inj.1 (by show c.toNat = 40; omega))
              have e40 : ((c.toNat : Int) == 40) = false := by simpa using d40
              have f40 : ((c.toNat : Int) != 40) = true := by simpa using d40
              have d41 : ¬ (c.toNat : Int) = 41 := fun e => q41 (UInt8.toNat_inj.1 (by show c.toNat = 41; omega))
              have e41 : ((c.toNat : Int) == 41) = false := by simpa using d41
              have f41 : ((c.toNat : Int) != 41) = true := by simpa using d41
              have d123 : ¬ (c.toNat : Int) = 123 := fun e => q123 (UInt8.toNat_inj.1 (by show c.toNat = 123; omega))
              have e123 : ((c.toNat : Int) == 123) = false := by simpa using d123
              have f123 : ((c.toNat : Int) != 123) = true := by simpa using d123
              have d125 : ¬ (c.toNat : Int) = 125 := fun e => q125 (UInt8.toNat_inj.1 (by show c.toNat = 125; omega))
              have e125 : ((c.toNat : Int) == 125) = false := by simpa using d125
              have f125 : ((c.toNat : Int) != 125) = true := by simpa using d125
              have d33 : ¬ (c.toNat : Int) = 33 := fun e => q33 (UInt8.toNat_inj.1 (by show c.toNat = 33; omega))
              have e33 : ((c.toNat : Int) == 33) = false := by simpa using d33
              have f33 : ((c.toNat : Int) != 33) = true := by simpa using d33
              clear q59 q38 q124 q40 q41 q123 q125 q33
              by_cases r2 : c.toNat < 97
              case pos =>
                have g1 : decide ((c.toNat : Int) < 97) = true := decide_eq_true (by omega)
                have g3 : (c.toNat : Int) < 97 := by omega
                go_wp2_with fail
                go_ret
                exact ⟨rfl, HB1.out⟩
              have g1 : decide ((c.toNat : Int) < 97) = false := decide_eq_false (by omega)
              have g3 : ¬ (c.toNat : Int) < 97 := by omega
              have g2 : decide ((122 : Int) < (c.toNat : Int)) = true := decide_eq_true (by omega)
              have g4 : (122 : Int) < (c.toNat : Int) := by omega
              go_wp2_with fail
              go_ret
              exact ⟨rfl, HB1.out⟩
            case neg =>
              obtain rfl : k = x.length := by omega
              rw [List.take_length] at hal
              have HOk2 : Hid (∀ y ∈ xs.take (i + 1), wOk y) := fun y hy => by
                rw [HTk.out] at hy
                rcases List.mem_append.1 hy with hy | hy
                · exact HOk.out y hy
                · rw [List.mem_singleton.1 hy]; exact ⟨hx60, hal⟩
              have vv3 : decide (x.length < (str x).size) = false := decide_eq_false (by omega)
              have vv1 : decide ((x.length : Int) < ((str x).size : Int)) = false := decide_eq_false (by omega)
              have vv2 : ¬ ((x.length : Int) < ((str x).size : Int)) := by omega
              have e1 : str x ++ (⟨#[10]⟩ : ByteArray) = str (x ++ [10]) := str_append x [10]
              have e3 : str A ++ str (x ++ [10]) = str (A ++ (x ++ [10])) := str_append _ _
              have z1 : (str x).size + 1 ≤ 9223372036854775807 := by rw [ex]; omega
              have z3 : (str A).size + (str (x ++ [10])).size ≤ 9223372036854775807 := by rw [str_size, str_size]; simp; omega
              have e5 : (⟨#[32, 9]⟩ : ByteArray) ++ str x = str (32 :: 9 :: x) := str_append [32, 9] x
              have e6 : str (32 :: 9 :: x) ++ (⟨#[32, 35]⟩ : ByteArray) = str (32 :: 9 :: (x ++ [32, 35])) := str_append (32 :: 9 :: x) [32, 35]
              have e7 : str (32 :: 9 :: (x ++ [32, 35])) ++ str more = str (32 :: 9 :: (x ++ 32 :: 35 :: more)) := by rw [str_append]; simp
              have e8 : str (32 :: 9 :: (x ++ 32 :: 35 :: more)) ++ (⟨#[10, 10]⟩ : ByteArray) = str (32 :: 9 :: (x ++ 32 :: 35 :: (more ++ [10, 10]))) := by rw [show (⟨#[10, 10]⟩ : ByteArray) = str [10, 10] from rfl, str_append]; simp
              have e9 : str B ++ str (32 :: 9 :: (x ++ 32 :: 35 :: (more ++ [10, 10]))) = str (B ++ (32 :: 9 :: (x ++ 32 :: 35 :: (more ++ [10, 10])))) := str_append _ _
              have z5 : 2 + (str x).size ≤ 9223372036854775807 := by rw [ex]; omega
              have z6 : (str (32 :: 9 :: x)).size + 2 ≤ 9223372036854775807 := by rw [str_size]; simp; omega
              have z7 : (str (32 :: 9 :: (x ++ [32, 35]))).size + (str more).size ≤ 9223372036854775807 := by rw [str_size, str_size]; simp; omega
              have z8 : (str (32 :: 9 :: (x ++ 32 :: 35 :: more))).size + 2 ≤ 9223372036854775807 := by rw [str_size]; simp; omega
              have z9 : (str B).size + (str (32 :: 9 :: (x ++ 32 :: 35 :: (more ++ [10, 10])))).size ≤ 9223372036854775807 := by rw [str_size, str_size]; simp; omega
              clear hkx hal hk
              go_wp2_with fail
              go_roundw
              case rel => exact ⟨i + 1, by omega, by go_num, by rw [HAn.out], by rw [HBn.out], HOk2.out, trivial⟩
              case measure => simp [vQ]; omega
        case neg =>
          obtain rfl : i = n := by omega
          have htl : xs.take i = xs := by rw [HN.out, List.take_length]
          rw [htl] at HOk ⊢
          have hal := aText_len (fun w hw => (HOk.out w hw).1)
          have hbl := bText_len (more := more) (fun w hw => (HOk.out w hw).1)
          rw [← HN.out] at hal hbl
          have hP := blanks_parse more HM.out xs (fun w hw => (HOk.out w hw).2)
          obtain ⟨A, hA⟩ : ∃ A, Sy.aText xs = A := ⟨_, rfl⟩
          obtain ⟨B, hB⟩ : ∃ B, Sy.bText more xs = B := ⟨_, rfl⟩
          rw [hA] at hal hP ⊢
          rw [hB] at hbl hP ⊢
          have hal2 : A.length ≤ 4096 := by omega
          have hbl2 : B.length ≤ 4096 := by have := Nat.mul_le_mul (show 66 + more.length ≤ 96 by omega) hn40; omega
          have HAl := Lib.hid hal2
          have HBl := Lib.hid hbl2
          have HP := Lib.hid hP
          have u3 : decide (i < i) = false := decide_eq_false (by omega)
          have u1 : decide ((i : Int) < (i : Int)) = false := decide_eq_false (by omega)
          have u2 : ¬ ((i : Int) < (i : Int)) := by omega
          clear htl hin hA hB hal hbl hP hal2 hbl2
          go_wp2_with fail
          refine (parse_calls w1 A HAl.out HO1.out.sig HO1.out.glb).mono ?_
          rintro r w2 hr
          obtain ⟨hb2, sa, sk, sc, l, e, g, rfl, hrow, hl⟩ := par_any hr
          have HRow := Lib.hid hrow
          have HL := Lib.hid hl
          have HB2 := Lib.hid hb2
          clear hr hrow hl hb2
          go_upto_region 27 with fail
          clear u1 u2
          obtain ⟨T, hT⟩ : ∃ T, w2.heap.size = T := ⟨_, rfl⟩
          obtain ⟨w3, hw3⟩ : ∃ w3, w2.alloc (.cells #[.slice sa sk sc] trT) = w3 := ⟨_, rfl⟩
          have hx3 : w3.heap[T]? = some (.cells #[.slice sa sk sc] trT) := by rw [← hw3, ← hT]; exact heap_alloc_new _ _
          have hb23 : Below w2.heap.size w2 w3 := by rw [← hw3]; exact (Below.refl _ _).alloc (Nat.le_refl _) _
          have hb3 : Below w1.heap.size w1 w3 := by rw [← hw3]; exact HB2.out.alloc HB2.out.size _
          have HB3 := Lib.hid (HB1.out.trans (hb3.mono HB1.out.size))
          have HX3 := Lib.hid hx3
          have HO3 := Lib.hid (HO1.out.below hb3)
          have HRow3 := Lib.hid (rowN_below HRow.out hb23)
          rw [hw3, hT]
          clear hw3 hT hx3 hb3 hb23 HRow
          go_wp2_with fail
          refine (parse_calls w3 B HBl.out HO3.out.sig HO3.out.glb).mono ?_
          rintro r w4 hr
          obtain ⟨hb4, sb, sn, sd, m, f, g4, rfl, hrow, hl⟩ := par_any hr
          obtain ⟨hef, hdec⟩ := par_alike HP.out HL.out hl
          subst hef
          have HDec := Lib.hid hdec
          obtain ⟨T5, hT5⟩ : ∃ T5, w4.heap.size = T5 := ⟨_, rfl⟩
          have HRow4 := Lib.hid hrow
          have HB4 := Lib.hid hb4
          have HT5 := Lib.hid hT5
          clear hr hrow hl hb4 hdec
          go_upto_region 28 with fail
          obtain ⟨w5, hw5⟩ : ∃ w5, w4.alloc (.cells #[.slice sb sn sd] trT) = w5 := ⟨_, rfl⟩
          have hx5 : w5.heap[T5]? = some (.cells #[.slice sb sn sd] trT) := by rw [← hw5, ← hT5]; exact heap_alloc_new _ _
          have hb45 : Below w4.heap.size w4 w5 := by rw [← hw5]; exact (Below.refl _ _).alloc (Nat.le_refl _) _
          have hb5 : Below w3.heap.size w3 w5 := by rw [← hw5]; exact HB4.out.alloc HB4.out.size _
          have HB5 := Lib.hid (HB3.out.trans (hb5.mono HB3.out.size))
          have HRa := Lib.hid (rowN_below HRow3.out hb5)
          have HRb := Lib.hid (rowN_below HRow4.out hb45)
          obtain ⟨m5, _⟩ := cell_of hx5
          obtain ⟨m3, _⟩ := cell_of ((hb5.block T (Array.getElem?_eq_some_iff.1 HX3.out).1).trans HX3.out)
          rw [hw5]
          have ee : (e == e) = true := by simp
          clear hw5 hT5 hx5 hb5 hb45
          go_wp2_with fail
          refine (same_calls w5 _ _ _ _ _ _ l m HRa.out HRb.out).mono ?_
          rintro r w6 ⟨rfl, hb6⟩
          have HF := Lib.hid (HB5.out.trans (hb6.mono HB5.out.size))
          rw [HDec.out]
          clear hb6
          go_wp2_with fail
          go_ret
          exact ⟨rfl, HF.out⟩
end Go.Proofs.YtknncfoaegmphaaGreatDoor.Sx
