/-
  Word: the statement on plain words. Conditions: the library's table lies where it was laid.
-/
import Derived.Test.YtfjkgeeaeolkhaaDoorWoRow
set_option linter.unusedVariables false
set_option linter.unusedSimpArgs false
set_option maxRecDepth 100000
namespace Go.Proofs.YtfjkgeeaeolkhaaDoor
open Go.RowKit Base Wo

def oddB (c : UInt8) : Bool := c == 92 || c == 39 || c == 34 || c == 36 || c == 126 || c == 96
def plainB (s : Nm) : Bool := !(s.any oddB)
def singleB (s : Nm) : Bool := !(s.any fun c => c == 39)
theorem any_snoc (p : UInt8 → Bool) (s : Nm) (k : Nat) (hk : k < s.length) : (s.take (k + 1)).any p = ((s.take k).any p || p s[k]) := by
  rw [List.take_add_one, List.getElem?_eq_getElem hk, List.any_append]
  simp
theorem u8_eq {a b : UInt8} : (a.toNat : Int) = (b.toNat : Int) ↔ a = b := ⟨fun h => UInt8.toNat_inj.1 (by omega), fun h => by rw [h]⟩
theorem post_any {F : Nat → Nm → M (List Prt)} {W : World} {s : Nm} {r : Ending} {W' : World} (h : WordPost F W s r W') :
    Below W.heap.size W W' ∧ ∃ f x u e, F f s = some x ∧ r = .returned (.tuple #[u, .int .i64 e]) ∧ match x with
      | .error d => u = .slice none 0 0 ∧ e = d
      | .ok l => e = 0 ∧ TreeH 9 (fun g => W.heap.size ≤ g) W' u l := by
  obtain ⟨f, x, hx, hb, hp⟩ := h
  cases x with
  | error d => exact ⟨hb, f, _, _, d, hx, hp, rfl, rfl⟩
  | ok l =>
    obtain ⟨u, hr, ht⟩ := hp
    exact ⟨hb, f, _, u, 0, hx, hr, rfl, ht⟩
theorem plain_all {s : Nm} (h : plainB s = true) : ∀ c ∈ s, plainC c = true := by
  intro c hc
  unfold plainB at h
  have h2 : s.any oddB = false := by simpa using h
  have h3 := List.any_eq_false.1 h2 c hc
  unfold oddB at h3
  unfold plainC
  simp at h3 ⊢
  simp [h3]
theorem single_no {s : Nm} (h : singleB s = true) : (39 : UInt8) ∉ s := by
  intro hc
  unfold singleB at h
  have h2 : (s.any fun c => c == 39) = false := by simpa using h
  have h3 := List.any_eq_false.1 h2 39 hc
  simp at h3
set_option maxHeartbeats 4000000 in
theorem plain_calls (W : World) (s : Nm) (hO : OpsT W) : Calls Tryd.prog 3 #[.string (str s)] W fun r W' => r = .returned (.bool true) ∧ Below W.heap.size W W' := by
  have HO := Lib.hid hO
  clear hO
  go_enter Tryd.func3, Tryd.ntmps3
  go_wp2_with fail
  refine (awake_calls W HO.out).mono ?_
  rintro r w1 ⟨rfl, hb⟩
  have HB1 := Lib.hid hb
  have HO1 := Lib.hid (HO.out.below hb)
  clear hb
  by_cases hl : s.length ≤ 500
  case neg =>
    have a1 : decide ((500 : Int) < (s.length : Int)) = true := decide_eq_true (by omega)
    have a2 : (500 : Int) < (s.length : Int) := by omega
    have a3 : decide ((500 : Int) < ((str s).size : Int)) = true := by rw [str_size]; exact a1
    go_wp2_with fail
    go_ret
    exact ⟨rfl, HB1.out⟩
  have a1 : decide ((500 : Int) < (s.length : Int)) = false := decide_eq_false (by omega)
  have a2 : ¬ ((500 : Int) < (s.length : Int)) := by omega
  have a3 : decide ((500 : Int) < ((str s).size : Int)) = false := by rw [str_size]; exact a1
  go_upto_region 9 with fail
  clear a1 a2 a3
  go_loopw [4, 5, 6, 7] (fun v4 v5 v6 _ wr => ∃ k : Nat, k ≤ s.length ∧ v6 = .int .i64 (k : Int) ∧ v4 = .bool (plainB (s.take k)) ∧ v5 = .bool (singleB (s.take k)) ∧ wr = w1) (fun _ _ v6 _ _ => s.length - (intOf v6).toNat)
  case atStart => exact ⟨0, Nat.zero_le _, rfl, rfl, rfl, rfl⟩
  case round =>
    obtain ⟨k, hk, rfl, rfl, rfl, hwr⟩ := hrel
    have hwr2 := hwr.symm
    subst hwr2
    clear hwr
    by_cases hlt : k < s.length
    case pos =>
      have hix := fun W => Sw.run_at (P := Tryd.prog) (w := W) Tryd.underlying9 s .i64 k hlt
      have HS1 : Hid (plainB (s.take (k + 1)) = (plainB (s.take k) && !oddB s[k])) := by show _ = _; unfold plainB; rw [any_snoc _ _ _ hlt]; simp
      have HS2 : Hid (singleB (s.take (k + 1)) = (singleB (s.take k) && !(s[k] == 39))) := by show _ = _; unfold singleB; rw [any_snoc _ _ _ hlt]; simp
      generalize s[k] = c at *
      generalize plainB (s.take k) = p at *
      generalize singleB (s.take k) = q at *
      have HLt := Lib.hid hlt
      have a3 : decide ((k : Int) < ((str s).size : Int)) = true := by rw [str_size]; exact decide_eq_true (by omega)
      go_upto_region 12 with fail
      go_cut [48] (fun s48 wx => s48 = .bool (oddB c) ∧ wx = w1)
      case first =>
        clear hix a3
        by_cases h92 : c = 92
        case pos =>
          have d92 : decide ((c.toNat : Int) = 92) = true := by subst h92; rfl
          have e92 : (c.toNat : Int) = 92 := by subst h92; rfl
          have HF : Hid (oddB c = true) := by show _ = _; subst h92; rfl
          clear h92
          go_wp2_with fail
          go_meet
          exact ⟨by rw [HF.out], rfl⟩
        have d92 : decide ((c.toNat : Int) = 92) = false := decide_eq_false (fun h => h92 (u8_eq (b := 92).1 h))
        have e92 : ¬ (c.toNat : Int) = 92 := fun h => h92 (u8_eq (b := 92).1 h)
        by_cases h39 : c = 39
        case pos =>
          have d39 : decide ((c.toNat : Int) = 39) = true := by subst h39; rfl
          have e39 : (c.toNat : Int) = 39 := by subst h39; rfl
          have HF : Hid (oddB c = true) := by show _ = _; subst h39; rfl
          clear h39
          go_wp2_with fail
          go_meet
          exact ⟨by rw [HF.out], rfl⟩
        have d39 : decide ((c.toNat : Int) = 39) = false := decide_eq_false (fun h => h39 (u8_eq (b := 39).1 h))
        have e39 : ¬ (c.toNat : Int) = 39 := fun h => h39 (u8_eq (b := 39).1 h)
        by_cases h34 : c = 34
        case pos =>
          have d34 : decide ((c.toNat : Int) = 34) = true := by subst h34; rfl
          have e34 : (c.toNat : Int) = 34 := by subst h34; rfl
          have HF : Hid (oddB c = true) := by show _ = _; subst h34; rfl
          clear h34
          go_wp2_with fail
          go_meet
          exact ⟨by rw [HF.out], rfl⟩
        have d34 : decide ((c.toNat : Int) = 34) = false := decide_eq_false (fun h => h34 (u8_eq (b := 34).1 h))
        have e34 : ¬ (c.toNat : Int) = 34 := fun h => h34 (u8_eq (b := 34).1 h)
        by_cases h36 : c = 36
        case pos =>
          have d36 : decide ((c.toNat : Int) = 36) = true := by subst h36; rfl
          have e36 : (c.toNat : Int) = 36 := by subst h36; rfl
          have HF : Hid (oddB c = true) := by show _ = _; subst h36; rfl
          clear h36
          go_wp2_with fail
          go_meet
          exact ⟨by rw [HF.out], rfl⟩
        have d36 : decide ((c.toNat : Int) = 36) = false := decide_eq_false (fun h => h36 (u8_eq (b := 36).1 h))
        have e36 : ¬ (c.toNat : Int) = 36 := fun h => h36 (u8_eq (b := 36).1 h)
        by_cases h126 : c = 126
        case pos =>
          have d126 : decide ((c.toNat : Int) = 126) = true := by subst h126; rfl
          have e126 : (c.toNat : Int) = 126 := by subst h126; rfl
          have HF : Hid (oddB c = true) := by show _ = _; subst h126; rfl
          clear h126
          go_wp2_with fail
          go_meet
          exact ⟨by rw [HF.out], rfl⟩
        have d126 : decide ((c.toNat : Int) = 126) = false := decide_eq_false (fun h => h126 (u8_eq (b := 126).1 h))
        have e126 : ¬ (c.toNat : Int) = 126 := fun h => h126 (u8_eq (b := 126).1 h)
        by_cases h96 : c = 96
        case pos =>
          have d96 : decide ((c.toNat : Int) = 96) = true := by subst h96; rfl
          have e96 : (c.toNat : Int) = 96 := by subst h96; rfl
          have HF : Hid (oddB c = true) := by show _ = _; subst h96; rfl
          clear h96
          go_wp2_with fail
          go_meet
          exact ⟨by rw [HF.out], rfl⟩
        have d96 : decide ((c.toNat : Int) = 96) = false := decide_eq_false (fun h => h96 (u8_eq (b := 96).1 h))
        have e96 : ¬ (c.toNat : Int) = 96 := fun h => h96 (u8_eq (b := 96).1 h)
        have HF : Hid (oddB c = false) := by show _ = _; unfold oddB; simp [h92, h39, h34, h36, h126, h96]
        clear h92 h39 h34 h36 h126 h96
        go_wp2_with fail
        go_meet
        exact ⟨by rw [HF.out]; simp [e92, e39, e34, e36, e126, e96], rfl⟩
      case rest =>
        obtain ⟨rfl, hwc⟩ := hcut
        have hwc2 := hwc.symm
        subst hwc2
        clear hwc hix a3
        by_cases h39 : c = 39
        case pos =>
          have ho : oddB c = true := by rw [h39]; rfl
          have he : (c == 39) = true := by rw [h39]; rfl
          have d1 : decide ((c.toNat : Int) = 39) = true := by subst h39; rfl
          have d2 : (c.toNat : Int) = 39 := by subst h39; rfl
          rw [ho, Bool.not_true, Bool.and_false] at HS1
          rw [he, Bool.not_true, Bool.and_false] at HS2
          rw [ho]
          clear h39 ho he
          go_wp2_with fail
          go_roundw
          case rel => exact ⟨k + 1, by have := HLt.out; omega, by go_num, by rw [HS1.out], by rw [HS2.out], trivial⟩
          case measure => simp [intOf]; omega
        have d1 : decide ((c.toNat : Int) = 39) = false := decide_eq_false (fun h => h39 (u8_eq (b := 39).1 h))
        have d2 : ¬ (c.toNat : Int) = 39 := fun h => h39 (u8_eq (b := 39).1 h)
        have he : (c == 39) = false := by simpa using h39
        rw [he, Bool.not_false, Bool.and_true] at HS2
        clear h39 he
        cases ho : oddB c with
        | true =>
          rw [ho, Bool.not_true, Bool.and_false] at HS1
          clear ho
          go_wp2_with fail
          go_roundw
          case rel => exact ⟨k + 1, by have := HLt.out; omega, by go_num, by rw [HS1.out], by rw [HS2.out], trivial⟩
          case measure => simp [intOf]; omega
        | false =>
          rw [ho, Bool.not_false, Bool.and_true] at HS1
          clear ho
          go_wp2_with fail
          go_roundw
          case rel => exact ⟨k + 1, by have := HLt.out; omega, by go_num, by rw [HS1.out], by rw [HS2.out], trivial⟩
          case measure => simp [intOf]; omega
    obtain rfl : k = s.length := by omega
    rw [List.take_length]
    have a3 : decide (s.length < s.length) = false := decide_eq_false (by omega)
    have a1 : decide ((s.length : Int) < (s.length : Int)) = false := decide_eq_false (by omega)
    have a2 : ¬ ((s.length : Int) < (s.length : Int)) := by omega
    have a3 : decide ((s.length : Int) < ((str s).size : Int)) = false := by rw [str_size]; exact a1
    have HP := Lib.hid (parse_calls w1 s (by omega) HO1.out)
    have a4 : ¬ s.length < (str s).size := by rw [str_size]; omega
    go_wp2_with fail
    refine HP.out.mono ?_
    rintro r w2 hpost
    obtain ⟨hb, f, x, u, e, hx, rfl, hc⟩ := post_any hpost
    have HB2 := Lib.hid (HB1.out.trans (hb.mono HB1.out.size))
    have HX := Lib.hid hx
    have HC := Lib.hid hc
    clear hpost hx hc hb a1 a2 a3 a4
    obtain ⟨pl, hpl⟩ : ∃ pl, plainB s = pl := ⟨_, rfl⟩
    rw [hpl]
    have HPl := Lib.hid hpl
    clear hpl
    go_upto_region 17 with fail
    go_cut [93] (fun s93 wx => s93 = .bool false ∧ wx = w2)
    case first =>
      cases pl with
      | false =>
        go_wp2_with fail
        go_meet
        exact ⟨rfl, rfl⟩
      | true =>
        have hxe := plain_law (plain_all HPl.out) HX.out
        have hc := HC.out
        subst hxe
        obtain ⟨rfl, ht⟩ := hc
        by_cases hs : s = []
        case pos =>
          subst hs
          obtain ⟨ua, uc, rfl⟩ := tree_slice ht
          have e0 : (str ([] : Nm)).toList = [] := str_toList _
          clear ht HC HX
          simp only [if_true, List.length_nil]
          go_wp2_with fail
          go_meet
          exact ⟨rfl, rfl⟩
        rw [if_neg hs] at ht
        obtain ⟨g, c, rfl, _, _, _, hat⟩ := tree_at ht Nat.zero_lt_one
        have p0 := (hat 0 Nat.zero_lt_one).c0
        have p1 := (hat 0 Nat.zero_lt_one).c1
        have i0 := fun kd w' => idx_pt (g := g) (n := 1) (c := c) 0 (by decide) kd w'
        have s1 : ((str s).toList == (str s).toList) = true := beq_self_eq_true _
        have ne : ((str s).toList == []) = false := by rw [str_toList]; simpa using hs
        have ne2 : ¬ (str s).toList = [] := by rw [str_toList]; exact hs
        simp only [litP, List.length_cons, List.length_nil, List.getElem_cons_zero, Prt.k, Prt.t, Nat.zero_mul, Nat.zero_add, Int.cast_ofNat_Int] at p0 p1 i0
        clear ht hat HC HX hs
        simp only [List.length_cons, List.length_nil, Nat.zero_add]
        go_wp2_with fail
        go_meet
        exact ⟨rfl, rfl⟩
    case rest =>
      obtain ⟨rfl, hwc⟩ := hcut
      have hwc2 := hwc.symm
      subst hwc2
      clear hwc HX HC HP
      have hc1 : 1 + (str s).size + 1 ≤ 9223372036854775807 := by rw [str_size]; omega
      have hc2 : 1 + (str s).size ≤ 9223372036854775807 := by rw [str_size]; omega
      have hE : (⟨#[39]⟩ : ByteArray) ++ str s ++ ⟨#[39]⟩ = str (39 :: (s ++ [39])) := by
        show str [39] ++ str s ++ str [39] = _
        rw [str_append, str_append]
        rfl
      have HP := Lib.hid (parse_calls w2 (39 :: (s ++ [39])) (by simp; omega) (HO.out.below HB2.out))
      go_wp2_with fail
      refine HP.out.mono ?_
      rintro r w3 hpost
      obtain ⟨hb, f, x, u, e, hx, rfl, hc⟩ := post_any hpost
      have HB3 := Lib.hid (HB2.out.trans (hb.mono HB2.out.size))
      cases hsg : singleB s with
      | false =>
        clear hpost hx hc hb hc1 hc2 hE
        go_wp2_with fail
        go_ret
        exact ⟨rfl, HB3.out⟩
      | true =>
        have hxe := single_law (single_no hsg) hx
        subst hxe
        obtain ⟨rfl, ht⟩ := hc
        obtain ⟨g, c, rfl, _, _, _, hat⟩ := tree_at ht Nat.zero_lt_one
        have p0 := (hat 0 Nat.zero_lt_one).c0
        have p1 := (hat 0 Nat.zero_lt_one).c1
        have i0 := fun kd w' => idx_pt (g := g) (n := 1) (c := c) 0 (by decide) kd w'
        have s1 : ((str s).toList == (str s).toList) = true := beq_self_eq_true _
        simp only [quoP, List.length_cons, List.length_nil, List.getElem_cons_zero, Prt.k, Prt.t, Nat.zero_mul, Nat.zero_add, Int.cast_ofNat_Int] at p0 p1 i0
        clear hpost hx hb ht hat hE hc1 hc2
        simp only [List.length_cons, List.length_nil, Nat.zero_add]
        go_wp2_with fail
        go_ret
        exact ⟨rfl, HB3.out⟩
end Go.Proofs.YtfjkgeeaeolkhaaDoor
