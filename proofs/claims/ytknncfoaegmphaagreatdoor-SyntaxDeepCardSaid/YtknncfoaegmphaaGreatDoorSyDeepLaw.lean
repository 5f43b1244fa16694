/-
  Syntax: SyntaxDeep answers true. Conditions: what must lie there lies there.
-/
import Derived.Test.YtknncfoaegmphaaGreatDoorGSyG
import Derived.Test.YtknncfoaegmphaaGreatDoorSyDeep
set_option linter.unusedVariables false
set_option linter.unusedSimpArgs false
set_option maxRecDepth 100000
namespace Go.Proofs.YtknncfoaegmphaaGreatDoor.Sx
open Go.RowKit Base Lx Sy

def dOpen (sub : Bool) (i : Nat) : Nm := (List.replicate i (opn sub)).flatten
def dMid (sub : Bool) (k j : Nat) : Nm := dOpen sub k ++ [97, 10] ++ (List.replicate j (cls sub)).flatten
theorem dOpen_len (sub : Bool) (i : Nat) : (dOpen sub i).length ≤ 2 * i := deep_olen sub i
theorem dMid_len (sub : Bool) (k j : Nat) : (dMid sub k j).length ≤ 2 * k + 2 + 2 * j := by
  have h1 := dOpen_len sub k
  have h2 := deep_clen sub j
  unfold dMid
  rw [List.length_append, List.length_append]
  simp only [List.length_cons, List.length_nil]
  omega
theorem dOpen_snoc (sub : Bool) (i : Nat) : dOpen sub (i + 1) = dOpen sub i ++ opn sub := deep_open sub i
theorem dMid_snoc (sub : Bool) (k j : Nat) : dMid sub k (j + 1) = dMid sub k j ++ cls sub := by unfold dMid; rw [deep_close]; simp
theorem dMid_deep (sub : Bool) (k : Nat) : dMid sub k k = deepT sub k := rfl
def zOf : Value → Nat
  | .int _ z => z.toNat
  | _ => 0
set_option maxHeartbeats 8000000 in
theorem deep_calls (W : World) (n : UInt8) (sub : Bool) (hO : Gl W) : Calls Tryz.prog 6 #[.int .u8 (n.toNat : Int), .bool sub] W fun r W' => r = .returned (.bool true) ∧ Below W.heap.size W W' := by
  have HO := Lib.hid hO
  clear hO
  obtain ⟨z, hz⟩ : ∃ z : Nat, n.toNat = z := ⟨_, rfl⟩
  have hzl : z < 256 := by rw [← hz]; exact n.toNat_lt
  rw [hz]
  obtain ⟨K, hK⟩ : ∃ K : Nat, z % 60 + 1 = K := ⟨_, rfl⟩
  have hK1 : 1 ≤ K := by omega
  have hK2 : K ≤ 60 := by omega
  have e1 : IntKind.i64.wrap (z : Int) = (z : Int) := IntWalk.i64_in (z : Int) (by omega)
  have e2 : ((z : Int).tmod 60) + 1 = (K : Int) := by rw [Int.tmod_eq_emod_of_nonneg (by omega)]; omega
  have e3 : (z : Int).tmod 60 = (K : Int) - 1 := by omega
  clear hz
  go_enter Tryz.func6, Tryz.ntmps6
  go_wp2_with fail
  refine (awake_calls W HO.out).mono ?_
  rintro r w1 ⟨rfl, hb⟩
  have HB1 := Lib.hid hb
  have HO1 := Lib.hid (HO.out.below hb)
  clear hb
  go_upto_region 4 with fail
  go_cut [6] (fun s6 wx => s6 = .int .i64 (K : Int) ∧ wx = w1)
  case first =>
    go_wp2_with fail
    go_meet
    exact ⟨rfl, rfl⟩
  case rest =>
    obtain ⟨rfl, hwc⟩ := hcut
    have hwc2 := hwc.symm
    subst hwc2
    clear hwc e1 e2 e3 hK
    go_upto_region 7 with fail
    go_loopw [7, 8] (fun v7 v8 wr => ∃ k : Nat, k ≤ K ∧ v8 = .int .i64 (k : Int) ∧ v7 = .string (str (dOpen sub k)) ∧ wr = w1) (fun _ v8 _ => K - zOf v8)
    case atStart => exact ⟨0, Nat.zero_le _, rfl, rfl, rfl⟩
    case round =>
      obtain ⟨k, hk, rfl, rfl, hwr⟩ := hrel
      have hwr2 := hwr.symm
      subst hwr2
      clear hwr
      by_cases hlt : k < K
      case pos =>
        have a3 : decide (k < K) = true := decide_eq_true (by omega)
        have a1 : decide ((k : Int) < (K : Int)) = true := decide_eq_true (by omega)
        have a2 : (k : Int) < (K : Int) := by omega
        have hl := dOpen_len sub k
        have s1 : (str (dOpen sub k)).size + 1 ≤ 9223372036854775807 := by rw [str_size]; omega
        have s2 : (str (dOpen sub k)).size + 2 ≤ 9223372036854775807 := by rw [str_size]; omega
        cases sub with
        | true =>
          have e1 : str (dOpen true k) ++ ⟨#[40]⟩ = str (dOpen true (k + 1)) := by rw [dOpen_snoc]; exact str_append _ _
          go_wp2_with fail
          go_roundw
          case rel => exact ⟨k + 1, by omega, by go_num, rfl, trivial⟩
          case measure => simp [zOf]; omega
        | false =>
          have e1 : str (dOpen false k) ++ ⟨#[123, 32]⟩ = str (dOpen false (k + 1)) := by rw [dOpen_snoc]; exact str_append _ _
          go_wp2_with fail
          go_roundw
          case rel => exact ⟨k + 1, by omega, by go_num, rfl, trivial⟩
          case measure => simp [zOf]; omega
      obtain rfl : k = K := by omega
      have a3 : decide (k < k) = false := decide_eq_false (by omega)
      have a1 : decide ((k : Int) < (k : Int)) = false := decide_eq_false (by omega)
      have a2 : ¬ ((k : Int) < (k : Int)) := by omega
      have hl := dOpen_len sub k
      have s1 : (str (dOpen sub k)).size + 2 ≤ 9223372036854775807 := by rw [str_size]; omega
      have e1 : str (dOpen sub k) ++ ⟨#[97, 10]⟩ = str (dMid sub k 0) := by unfold dMid; rw [List.replicate_zero, List.flatten_nil, List.append_nil]; exact str_append _ _
      clear hlt hk
      go_upto_region 14 with fail
      clear s1 e1 a1 a2
      go_loopw [7, 9] (fun v7 v9 wr => ∃ j : Nat, j ≤ k ∧ v9 = .int .i64 (j : Int) ∧ v7 = .string (str (dMid sub k j)) ∧ wr = w1) (fun _ v9 _ => k - zOf v9)
      case atStart => exact ⟨0, Nat.zero_le _, rfl, rfl, rfl⟩
      case round =>
        obtain ⟨j, hj, rfl, rfl, hwr⟩ := hrel
        have hwr2 := hwr.symm
        subst hwr2
        clear hwr
        by_cases hlt : j < k
        case pos =>
          have a3 : decide (j < k) = true := decide_eq_true (by omega)
          have a1 : decide ((j : Int) < (k : Int)) = true := decide_eq_true (by omega)
          have a2 : (j : Int) < (k : Int) := by omega
          have hl2 := dMid_len sub k j
          have s1 : (str (dMid sub k j)).size + 1 ≤ 9223372036854775807 := by rw [str_size]; omega
          have s2 : (str (dMid sub k j)).size + 2 ≤ 9223372036854775807 := by rw [str_size]; omega
          cases sub with
          | true =>
            have e1 : str (dMid true k j) ++ ⟨#[41]⟩ = str (dMid true k (j + 1)) := by rw [dMid_snoc]; exact str_append _ _
            go_wp2_with fail
            go_roundw
            case rel => exact ⟨j + 1, by omega, by go_num, rfl, trivial⟩
            case measure => simp [zOf]; omega
          | false =>
            have e1 : str (dMid false k j) ++ ⟨#[125, 10]⟩ = str (dMid false k (j + 1)) := by rw [dMid_snoc]; exact str_append _ _
            go_wp2_with fail
            go_roundw
            case rel => exact ⟨j + 1, by omega, by go_num, rfl, trivial⟩
            case measure => simp [zOf]; omega
        obtain rfl : j = k := by omega
        have a3 : decide (j < j) = false := decide_eq_false (by omega)
        have a1 : decide ((j : Int) < (j : Int)) = false := decide_eq_false (by omega)
        have a2 : ¬ ((j : Int) < (j : Int)) := by omega
        have HP := Lib.hid (parse_calls w1 (dMid sub j j) (by have := dMid_len sub j j; omega) HO1.out.sig HO1.out.glb)
        clear hlt hj
        go_wp2_with fail
        refine HP.out.mono ?_
        rintro r w2 ⟨hb, hp⟩
        rw [dMid_deep] at hp
        clear a1 a2
        rcases deep_cases sub hK1 hK2 with ⟨h8, hx⟩ | ⟨h8, l, hx, hlen⟩
        · rw [hx] at hp
          obtain rfl := hp
          have a1 : decide ((40 : Int) < (j : Int)) = true := decide_eq_true (by omega)
          have a2 : (40 : Int) < (j : Int) := by omega
          go_upto_region 20 with fail
          obtain ⟨T, hT⟩ : ∃ T, w2.heap.size = T := ⟨_, rfl⟩
          obtain ⟨w3, hw3⟩ : ∃ w3, w2.alloc (.cells #[.slice none 0 0] trT) = w3 := ⟨_, rfl⟩
          have hx3 : w3.heap[T]? = some (.cells #[.slice none 0 0] trT) := by rw [← hw3, ← hT]; exact heap_alloc_new _ _
          have hb3 : Below w1.heap.size w1 w3 := by rw [← hw3]; exact hb.alloc hb.size _
          have HF := Lib.hid (HB1.out.trans (hb3.mono HB1.out.size))
          obtain ⟨m1, _⟩ := cell_of hx3
          rw [hw3, hT]
          clear hw3 hT hx3 hb3 hb hx
          go_wp2_with fail
          go_ret
          exact ⟨rfl, HF.out⟩
        · rw [hx] at hp
          obtain ⟨v, rfl, hrow⟩ := hp
          have a1 : decide ((40 : Int) < (j : Int)) = false := decide_eq_false (by omega)
          have a2 : ¬ ((40 : Int) < (j : Int)) := by omega
          obtain ⟨aa, cc, hv, _⟩ := nodes_at hrow
          rw [hlen] at hv
          subst hv
          go_upto_region 20 with fail
          obtain ⟨T, hT⟩ : ∃ T, w2.heap.size = T := ⟨_, rfl⟩
          obtain ⟨w3, hw3⟩ : ∃ w3, w2.alloc (.cells #[.slice aa (2 * j + 2) cc] trT) = w3 := ⟨_, rfl⟩
          have hx3 : w3.heap[T]? = some (.cells #[.slice aa (2 * j + 2) cc] trT) := by rw [← hw3, ← hT]; exact heap_alloc_new _ _
          have hb3 : Below w1.heap.size w1 w3 := by rw [← hw3]; exact hb.alloc hb.size _
          have HF := Lib.hid (HB1.out.trans (hb3.mono HB1.out.size))
          obtain ⟨m1, _⟩ := cell_of hx3
          rw [hw3, hT]
          clear hw3 hT hx3 hb3 hb hx hrow hlen
          go_wp2_with fail
          go_ret
          exact ⟨rfl, HF.out⟩
end Go.Proofs.YtknncfoaegmphaaGreatDoor.Sx
