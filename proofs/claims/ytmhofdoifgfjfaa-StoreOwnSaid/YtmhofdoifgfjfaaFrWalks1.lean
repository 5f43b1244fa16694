/-
  slices.Equal of bytes: whether two rows of bytes are the same. Conditions: both can be read.
-/
import Derived.Test.YtmhofdoifgfjfaaWords
import Derived.Deep.QuietTactic
import Derived.BigQuiet
set_option linter.unusedVariables false
namespace Go.Proofs.Ytmhofdoifgfjfaa
open Go.RowKit Base

theorem belowF {B : Nat} {w wr : World} (h : Below B w wr) (n : Nat) : Below B w (wr.drewN n) := h.trans ⟨rfl, rfl, rfl, Nat.le_refl _, fun _ _ => rfl⟩
set_option maxHeartbeats 800000 in
set_option maxRecDepth 100000 in
theorem equal_bytes_calls (w : World) (a b : Option Addr) (n m ca cb : Nat) (la lb : List UInt8) (ha : Bytes w a n ca la) (hb : Bytes w b m cb lb) :
    Calls Try.prog 22 #[.slice a n ca, .slice b m cb] w fun e w' => e = .returned (.bool (decide (la = lb))) ∧ Below w.heap.size w w' := by
  have hca := ha.2.2.1
  have hna := ha.2.1
  have hcb := hb.2.2.1
  have hnb := hb.2.1
  unfold maxLen at hca hcb
  have Hn := Lib.hid ha.1
  have Hm := Lib.hid hb.1
  have Ha := Lib.hid ha; clear ha
  have Hb := Lib.hid hb; clear hb
  by_cases hnm : n = m
  · subst hnm
    go_enter Try.func22, Try.ntmps22
    go_wp2_with fail
    generalize hB : w.heap.size = B
    have HB := Lib.hid hB; clear hB
    have HBel : Hid (∀ wx, Below B w wx → Below w.heap.size w wx) := fun wx hx => by rw [HB.out]; exact hx
    have hbb : B ≤ w.heap.size := by rw [HB.out]; exact Nat.le_refl _
    go_loopw [13] (fun i wr => ∃ k : Nat, k ≤ n ∧ i = .int .i64 k ∧ (∀ j, j < k → la[j]? = lb[j]?) ∧ Below B w wr) (fun i _ => n - (intOf i).toNat)
    case atStart => exact ⟨0, Nat.zero_le _, rfl, fun j hj => absurd hj (by omega), Below.refl _ _⟩
    case round =>
      obtain ⟨k, hk, rfl, hall, hbel⟩ := hrel
      have HA := Lib.hid hall; clear hall
      by_cases hlt : k < n
      · have hka : k < la.length := by rw [← Hn.out]; exact hlt
        have hkb : k < lb.length := by rw [← Hm.out]; exact hlt
        obtain ⟨b1, o1, hrow1, hidx1⟩ := at_bytes (Ha.out.below stable_byteAt (HBel.out _ hbel))
        obtain ⟨b2, o2, hrow2, hidx2⟩ := at_bytes (Hb.out.below stable_byteAt (HBel.out _ hbel))
        have hc1 := hrow1 k hka
        have hc2 := hrow2 k hkb
        have hi1 := fun w' => hidx1 .i64 k w' hlt
        have hi2 := fun w' => hidx2 .i64 k w' hlt
        have e1 : la[k]? = some la[k] := List.getElem?_eq_getElem hka
        have e2 : lb[k]? = some lb[k] := List.getElem?_eq_getElem hkb
        have E1 := Lib.hid e1; clear e1
        have E2 := Lib.hid e2; clear e2
        clear hrow1 hidx1 hrow2 hidx2
        generalize la[k]'hka = x at *
        generalize lb[k]'hkb = y at *
        by_cases hxy : x = y
        · subst hxy
          have Hnext : Hid (∀ j, j < k + 1 → la[j]? = lb[j]?) := fun j hj => by
            rcases (by omega : j < k ∨ j = k) with h | h
            · exact HA.out j h
            · subst h; rw [E1.out, E2.out]
          go_wp2_with fail
          go_quiet (fail)
          go_wp2_with fail
          go_roundw
          case rel => exact ⟨k + 1, by omega, by go_num, Hnext.out, belowF hbel _⟩
          case measure => simp [intOf]; omega
        · have t1 : ((x.toNat : Int) == (y.toNat : Int)) = false := by rw [beq_eq_false_iff_ne]; intro h; exact hxy (UInt8.toNat_inj.1 (by omega))
          have t2 : ((x.toNat : Int) != (y.toNat : Int)) = true := by rw [bne_iff_ne]; intro h; exact hxy (UInt8.toNat_inj.1 (by omega))
          have H : Hid (decide (la = lb) = false) := by
            show _ = _
            rw [decide_eq_false_iff_not]
            intro hc
            subst hc
            have := E1.out.symm.trans E2.out
            exact hxy (Option.some.inj this)
          clear hxy
          go_wp2_with fail
          go_quiet (fail)
          go_wp2_with fail
          go_ret
          exact ⟨by rw [H.out]; rfl, HBel.out _ (belowF hbel _)⟩
      · obtain rfl : n = k := by omega
        have H : Hid (decide (la = lb) = true) := by
          show _ = _
          rw [decide_eq_true_iff]
          apply List.ext_getElem?
          intro j
          by_cases hj : j < n
          · exact HA.out j hj
          · rw [List.getElem?_eq_none (by rw [← Hn.out]; omega), List.getElem?_eq_none (by rw [← Hm.out]; omega)]
        go_wp2_with fail
        go_ret
        exact ⟨by rw [H.out]; rfl, HBel.out _ hbel⟩
  · have t1 : ((n : Int) == (m : Int)) = false := by rw [beq_eq_false_iff_ne]; omega
    have t2 : ((n : Int) != (m : Int)) = true := by rw [bne_iff_ne]; omega
    have H : Hid (decide (la = lb) = false) := by
      show _ = _
      rw [decide_eq_false_iff_not]
      intro hc
      subst hc
      exact hnm (Hn.out.trans Hm.out.symm)
    clear hnm
    go_enter Try.func22, Try.ntmps22
    go_wp2_with fail
    go_ret
    exact ⟨by rw [H.out]; rfl, Below.refl _ _⟩


end Go.Proofs.Ytmhofdoifgfjfaa
