/-
  Word: the statement on braces within each other. Conditions: the library's table lies where it was laid.
-/
import Derived.Test.YtfjkgeeaeolkhaaDoorWoRow
set_option linter.unusedVariables false
set_option linter.unusedSimpArgs false
set_option maxRecDepth 100000
namespace Go.Proofs.YtfjkgeeaeolkhaaDoor
open Go.RowKit Base Wo

abbrev open1 : Nm := [36, 123, 120, 58, 45]
def pre (k : Nat) : Nm := (List.replicate k open1).flatten
theorem pre_snoc (k : Nat) : pre (k + 1) = pre k ++ open1 := by unfold pre; rw [List.replicate_succ', List.flatten_append]; simp
theorem pre_len (k : Nat) : (pre k).length = 5 * k := by
  induction k with
  | zero => rfl
  | succ k ih => rw [pre_snoc, List.length_append, ih]; simp; omega
def mid (k j : Nat) : Nm := pre k ++ [97] ++ List.replicate j 125
theorem mid_snoc (k j : Nat) : mid k (j + 1) = mid k j ++ [125] := by unfold mid; rw [List.replicate_succ']; simp
theorem mid_len (k j : Nat) : (mid k j).length = 5 * k + 1 + j := by unfold mid; simp [pre_len]; omega
theorem mid_deep (k : Nat) : mid k k = deepS k := by unfold mid deepS pre; simp
theorem deepP_one : ∀ k, (deepP k).length = 1
  | 0 => rfl
  | k + 1 => rfl
set_option maxHeartbeats 4000000 in
theorem deep_calls (W : World) (n : UInt8) (hO : OpsT W) : Calls Tryd.prog 6 #[.int .u8 (n.toNat : Int)] W fun r W' => r = .returned (.bool true) ∧ Below W.heap.size W W' := by
  have HO := Lib.hid hO
  clear hO
  obtain ⟨z, hz⟩ : ∃ z : Nat, n.toNat = z := ⟨_, rfl⟩
  have hzl : z < 256 := by rw [← hz]; exact n.toNat_lt
  rw [hz]
  obtain ⟨K, hK⟩ : ∃ K : Nat, z % 12 + 1 = K := ⟨_, rfl⟩
  have hK1 : 1 ≤ K := by omega
  have hK2 : K ≤ 12 := by omega
  have e1 : IntKind.i64.wrap (z : Int) = (z : Int) := IntWalk.i64_in (z : Int) (by omega)
  have e2 : ((z : Int).tmod 12) + 1 = (K : Int) := by rw [Int.tmod_eq_emod_of_nonneg (by omega)]; omega
  have e3 : (z : Int).tmod 12 = (K : Int) - 1 := by omega
  clear hz
  go_enter Tryd.func6, Tryd.ntmps6
  go_upto_region 4 with fail
  refine (awake_calls W HO.out).mono ?_
  rintro r w1 ⟨rfl, hb⟩
  have HB1 := Lib.hid hb
  have HO1 := Lib.hid (HO.out.below hb)
  clear hb
  go_upto_region 4 with fail
  go_cut [4] (fun s4 wx => s4 = .int .i64 (K : Int) ∧ wx = w1)
  case first =>
    go_wp2_with fail
    go_meet
    exact ⟨rfl, rfl⟩
  case rest =>
    obtain ⟨rfl, hwc⟩ := hcut
    have hwc2 := hwc.symm
    subst hwc2
    clear hwc e1 e2 e3 hK
    go_upto_region 7 with fail
    go_loopw [5, 6] (fun v5 v6 wr => ∃ k : Nat, k ≤ K ∧ v6 = .int .i64 (k : Int) ∧ v5 = .string (str (pre k)) ∧ wr = w1) (fun _ v6 _ => K - (intOf v6).toNat)
    case atStart => exact ⟨0, Nat.zero_le _, rfl, rfl, rfl⟩
    case round =>
      obtain ⟨k, hk, rfl, rfl, hwr⟩ := hrel
      have hwr2 := hwr.symm
      subst hwr2
      clear hwr
      by_cases hlt : k < K
      case pos =>
        have a3 : decide (k < K) = true := decide_eq_true (by omega)
        have a1 : decide ((k : Int) < (K : Int)) = true := decide_eq_true (by omega)
        have a2 : (k : Int) < (K : Int) := by omega
        have s1 : (str (pre k)).size + 5 ≤ 9223372036854775807 := by rw [str_size, pre_len]; omega
        go_wp2_with fail
        go_roundw
        case rel => exact ⟨k + 1, by omega, by go_num, by rw [pre_snoc, ← str_append]; rfl, trivial⟩
        case measure => simp [intOf]; omega
      obtain rfl : k = K := by omega
      have a3 : decide (k < k) = false := decide_eq_false (by omega)
      have a1 : decide ((k : Int) < (k : Int)) = false := decide_eq_false (by omega)
      have a2 : ¬ ((k : Int) < (k : Int)) := by omega
      have s1 : (str (pre k)).size + 1 ≤ 9223372036854775807 := by rw [str_size, pre_len]; omega
      clear hlt hk
      go_upto_region 12 with fail
      clear s1 a1 a2
      go_loopw [5, 7] (fun v5 v7 wr => ∃ j : Nat, j ≤ k ∧ v7 = .int .i64 (j : Int) ∧ v5 = .string (str (mid k j)) ∧ wr = w1) (fun _ v7 _ => k - (intOf v7).toNat)
      case atStart => exact ⟨0, Nat.zero_le _, rfl, by unfold mid; rw [List.replicate_zero, List.append_nil, ← str_append]; rfl, rfl⟩
      case round =>
        obtain ⟨j, hj, rfl, rfl, hwr⟩ := hrel
        have hwr2 := hwr.symm
        subst hwr2
        clear hwr
        by_cases hlt : j < k
        case pos =>
          have a3 : decide (j < k) = true := decide_eq_true (by omega)
          have a1 : decide ((j : Int) < (k : Int)) = true := decide_eq_true (by omega)
          have a2 : (j : Int) < (k : Int) := by omega
          have s1 : (str (mid k j)).size + 1 ≤ 9223372036854775807 := by rw [str_size, mid_len]; omega
          go_wp2_with fail
          go_roundw
          case rel => exact ⟨j + 1, by omega, by go_num, by rw [mid_snoc, ← str_append]; rfl, trivial⟩
          case measure => simp [intOf]; omega
        obtain rfl : j = k := by omega
        have a3 : decide (j < j) = false := decide_eq_false (by omega)
        have a1 : decide ((j : Int) < (j : Int)) = false := decide_eq_false (by omega)
        have a2 : ¬ ((j : Int) < (j : Int)) := by omega
        have HP := Lib.hid (parse_calls w1 (mid j j) (by rw [mid_len]; omega) HO1.out)
        clear hlt hj
        go_wp2_with fail
        refine HP.out.mono ?_
        rintro r w2 ⟨f, x, hx, hb, hp⟩
        rw [mid_deep] at hx
        have hxe := Wo.deep_law hK1 hK2 hx
        have HB2 := Lib.hid (HB1.out.trans (hb.mono HB1.out.size))
        clear hx hb a1 a2
        by_cases h8 : j ≤ 8
        case neg =>
          rw [if_neg h8] at hxe
          subst hxe
          obtain rfl := hp
          have a1 : decide ((8 : Int) < (j : Int)) = true := decide_eq_true (by omega)
          have a2 : (8 : Int) < (j : Int) := by omega
          go_wp2_with fail
          go_ret
          exact ⟨rfl, HB2.out⟩
        rw [if_pos h8] at hxe
        subst hxe
        obtain ⟨u, rfl, ht⟩ := hp
        have a1 : decide ((8 : Int) < (j : Int)) = false := decide_eq_false (by omega)
        have a2 : ¬ ((8 : Int) < (j : Int)) := by omega
        have HT0 := Lib.hid ht
        clear ht
        go_upto_region 21 with fail
        go_loopw [8, 10] (fun v8 v10 wr => ∃ i : Nat, i ≤ j ∧ v10 = .int .i64 (i : Int) ∧ TreeH (9 - i) (fun g => w1.heap.size ≤ g) w2 v8 (deepP (j - i)) ∧ wr = w2) (fun _ v10 _ => j - (intOf v10).toNat)
        case atStart => exact ⟨0, Nat.zero_le _, rfl, HT0.out, rfl⟩
        case round =>
          clear HT0
          obtain ⟨i, hi, rfl, ht, hwr⟩ := hrel
          have hwr2 := hwr.symm
          subst hwr2
          clear hwr
          obtain ⟨m, hm⟩ : ∃ m, 9 - i = m + 1 := ⟨8 - i, by omega⟩
          rw [hm] at ht
          obtain ⟨g, c, rfl, _, _, _, hat⟩ := tree_at ht (by rw [deepP_one]; decide)
          have hp := hat 0 (by rw [deepP_one]; decide)
          rw [deepP_one]
          have i0 := fun kd w' => idx_pt (g := g) (n := 1) (c := c) 0 (by decide) kd w'
          by_cases hlt : i < j
          case pos =>
            obtain ⟨d, hd⟩ : ∃ d, j - i = d + 1 := ⟨j - i - 1, by omega⟩
            have e : (deepP (j - i))[0]'(by rw [deepP_one]; decide) = .mk 3 [120] [58, 45] false (deepP d) := by simp only [hd]; rfl
            rw [e] at hp
            have p0 := hp.c0
            have p1 := hp.c1
            have p2 := hp.c2
            have p3 := hp.c3
            obtain ⟨v, p4, hv⟩ := hp.c4
            have HV := Lib.hid hv
            have s1 : ((str [120]).toList == [120]) = true := by rw [str_toList]; rfl
            have s2 : ((str [58, 45]).toList == [58, 45]) = true := by rw [str_toList]; rfl
            have b3 : decide (i < j) = true := decide_eq_true (by omega)
            have b1 : decide ((i : Int) < (j : Int)) = true := decide_eq_true (by omega)
            have b2 : (i : Int) < (j : Int) := by omega
            simp only [Prt.k, Prt.t, Prt.o, Prt.q, Nat.zero_mul, Nat.zero_add, Int.cast_ofNat_Int] at p0 p1 p2 p3 p4 i0
            clear ht hat hp hv e
            go_wp2_with fail
            go_roundw
            case rel => exact ⟨i + 1, by omega, by go_num, by rw [show 9 - (i + 1) = m by omega, show j - (i + 1) = d by omega]; exact HV.out, trivial⟩
            case measure => simp [intOf]; omega
          obtain rfl : i = j := by omega
          have e : (deepP (i - i))[0]'(by rw [deepP_one]; decide) = litP [97] := by simp only [Nat.sub_self]; rfl
          rw [e] at hp
          have p0 := hp.c0
          have p1 := hp.c1
          have s1 : ((str [97]).toList == [97]) = true := by rw [str_toList]; rfl
          have b3 : decide (i < i) = false := decide_eq_false (by omega)
          have b1 : decide ((i : Int) < (i : Int)) = false := decide_eq_false (by omega)
          have b2 : ¬ ((i : Int) < (i : Int)) := by omega
          simp only [litP, Prt.k, Prt.t, Nat.zero_mul, Nat.zero_add, Int.cast_ofNat_Int] at p0 p1 i0
          clear ht hat hp e
          go_wp2_with fail
          go_ret
          exact ⟨rfl, HB2.out⟩
end Go.Proofs.YtfjkgeeaeolkhaaDoor
