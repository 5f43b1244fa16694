/-
  Lexer: what a name is: the letters, and the functions that tell. Conditions: as each law says.
-/
import Derived.Test.YtiklkhbfilbpeaaGreatDoorSkLxRepl
import Derived.Test.YtiklkhbfilbpeaaGreatDoorSkStrWords
import Derived.Test.YtiklkhbfilbpeaaGreatDoorShelf
import Derived.Deep.Cut
set_option linter.unusedVariables false
set_option linter.unusedSimpArgs false
set_option maxRecDepth 100000
namespace Go.Proofs.YtiklkhbfilbpeaaGreatDoor
open Go.RowKit Base Lx
def ltrI (n : Int) : Bool := (n == 95) || (decide (97 ≤ n) && decide (n ≤ 122)) || (decide (65 ≤ n) && decide (n ≤ 90))
def digI (n : Int) : Bool := decide (48 ≤ n) && decide (n ≤ 57)
set_option maxHeartbeats 1000000 in
theorem letter_calls (w : World) (c : UInt8) (first : Bool) : Calls Tryz.prog 154 #[.int .u8 (c.toNat : Int), .bool first] w fun e w' => e = .returned (.bool (ltrI (c.toNat : Int) || (!first && digI (c.toNat : Int)))) ∧ w' = w := by
  go_enter Tryz.func154, Tryz.ntmps154
  go_wp2_with fail
  all_goals
    go_ret
    refine ⟨?_, rfl⟩
    refine congrArg (fun b => Ending.returned (Value.bool b)) (?_ : _ = _)
    rw [Bool.eq_iff_iff]
    simp [ltrI, digI, *]
    try omega
def nmAt (s : Nm) (j : Nat) : Bool := ltrI ((s.getD j 0).toNat : Int) || (!decide (j = 0) && digI ((s.getD j 0).toNat : Int))
def nameTo (s : Nm) (k : Nat) : Bool := (List.range k).all (nmAt s)
def nameB (s : Nm) : Bool := nameTo s s.length && !s.isEmpty
theorem nameTo_succ (s : Nm) (k : Nat) : nameTo s (k + 1) = (nameTo s k && nmAt s k) := by
  unfold nameTo
  rw [List.range_succ, List.all_append]
  simp
theorem nameTo_le {s : Nm} {k n : Nat} (h : nameTo s k = false) (hk : k ≤ n) : nameTo s n = false := by
  induction n with
  | zero => obtain rfl : k = 0 := by omega
            exact h
  | succ n ih =>
    by_cases e : k = n + 1
    · subst e; exact h
    · rw [nameTo_succ, ih (by omega)]; rfl
theorem getD_lt {s : Nm} {k : Nat} (h : k < s.length) : s.getD k 0 = s[k] := by rw [List.getD_eq_getElem?_getD, List.getElem?_eq_getElem h, Option.getD_some]
theorem str_toList (l : List UInt8) : (str l).toList = l := by rw [ByteArray.toList_eq, str_data]
def intOf (v : Value) : Int := match v with | .int _ n => n | _ => 0
set_option maxHeartbeats 1000000 in
theorem name_calls (w : World) (s : Nm) (hs : s.length ≤ 9223372036854775807) : Calls Tryz.prog 131 #[.string (str s)] w fun e w' => e = .returned (.bool (nameB s)) ∧ w = w' := by
  have e1 : (str s).size = s.length := rfl
  have htl : (str s).toList = s := str_toList s
  go_enter Tryz.func131, Tryz.ntmps131
  go_wp2_with fail
  go_loopw [6] (fun v6 wr => ∃ k : Nat, k ≤ s.length ∧ v6 = .int .i64 k ∧ nameTo s k = true ∧ w = wr) (fun v6 _ => s.length - (intOf v6).toNat)
  case atStart => exact ⟨0, Nat.zero_le _, rfl, rfl, rfl⟩
  case round =>
    obtain ⟨k, hk, rfl, hn, rfl⟩ := hrel
    have HN := Lib.hid hn
    clear hn
    by_cases hlt : k < s.length
    · have hix := fun W => Sw.run_at (P := Tryz.prog) (w := W) Tryz.underlying9 s .i64 k hlt
      have HA : Hid (nmAt s k = (ltrI (s[k].toNat : Int) || (!decide (k = 0) && digI (s[k].toNat : Int)))) := by show _ = _; unfold nmAt; rw [getD_lt hlt]
      generalize s[k]'hlt = c at *
      have u3 : decide (k < (str s).size) = true := decide_eq_true (by omega)
      have u1 : decide ((k : Int) < ((str s).size : Int)) = true := decide_eq_true (by omega)
      have u2 : (k : Int) < ((str s).size : Int) := by omega
      by_cases hk0 : k = 0
      · have d1 : decide ((k : Int) = 0) = true := decide_eq_true (by omega)
        have d2 : ((k : Int) == 0) = true := by rw [beq_iff_eq]; omega
        rw [decide_eq_true hk0] at HA
        have HK := Lib.hid hk0
        clear hk0
        go_wp2_with fail
        refine (letter_calls w c true).mono ?_
        rintro e w2 ⟨rfl, rfl⟩
        have hv : (ltrI (c.toNat : Int) || (!true && digI (c.toNat : Int))) = nmAt s k := HA.out.symm
        rw [hv]
        have HV := Lib.hid hv
        clear hv
        by_cases hv : nmAt s k = true
        · rw [hv]
          have HF : Hid (nameTo s (k + 1) = true) := by show _ = _; rw [nameTo_succ, HN.out, hv]; rfl
          clear hv
          go_wp2_with fail
          go_roundw
          case rel => exact ⟨k + 1, by omega, by go_num, HF.out, trivial⟩
          case measure => simp [intOf]; omega
        · have hv2 : nmAt s k = false := by simpa using hv
          rw [hv2]
          have HF : Hid (nameB s = false) := by show _ = _; unfold nameB; rw [nameTo_le (k := k + 1) (by rw [nameTo_succ, hv2, Bool.and_false]) (by omega)]; rfl
          clear hv hv2
          go_wp2_with fail
          go_ret
          rw [HF.out]
          exact ⟨rfl, rfl⟩
      · have d1 : decide ((k : Int) = 0) = false := decide_eq_false (by omega)
        have d2 : ((k : Int) == 0) = false := by rw [beq_eq_false_iff_ne]; omega
        rw [decide_eq_false hk0] at HA
        have HK := Lib.hid hk0
        clear hk0
        go_wp2_with fail
        refine (letter_calls w c false).mono ?_
        rintro e w2 ⟨rfl, rfl⟩
        have hv : (ltrI (c.toNat : Int) || (!false && digI (c.toNat : Int))) = nmAt s k := HA.out.symm
        rw [hv]
        have HV := Lib.hid hv
        clear hv
        by_cases hv : nmAt s k = true
        · rw [hv]
          have HF : Hid (nameTo s (k + 1) = true) := by show _ = _; rw [nameTo_succ, HN.out, hv]; rfl
          clear hv
          go_wp2_with fail
          go_roundw
          case rel => exact ⟨k + 1, by omega, by go_num, HF.out, trivial⟩
          case measure => simp [intOf]; omega
        · have hv2 : nmAt s k = false := by simpa using hv
          rw [hv2]
          have HF : Hid (nameB s = false) := by show _ = _; unfold nameB; rw [nameTo_le (k := k + 1) (by rw [nameTo_succ, hv2, Bool.and_false]) (by omega)]; rfl
          clear hv hv2
          go_wp2_with fail
          go_ret
          rw [HF.out]
          exact ⟨rfl, rfl⟩
    · obtain rfl : k = s.length := by omega
      have u3 : decide (s.length < (str s).size) = false := decide_eq_false (by omega)
      have u1 : decide ((s.length : Int) < ((str s).size : Int)) = false := decide_eq_false (by omega)
      have u2 : ¬ ((s.length : Int) < ((str s).size : Int)) := by omega
      by_cases h0 : s = []
      · subst h0
        have t4 : (str []).toList.isEmpty = true := by rw [str_toList]; rfl
        have t5 : (!(str []).toList.isEmpty) = false := by rw [str_toList]; rfl
        go_wp2_with fail
        go_ret
        exact ⟨rfl, rfl⟩
      · have t4 : (str s).toList.isEmpty = false := by rw [str_toList]; simpa using h0
        have t5 : s.isEmpty = false := by simpa using h0
        have t7 : (!(str s).toList.isEmpty) = true := by rw [t4]; rfl
        have HB : Hid (nameB s = true) := by show _ = _; unfold nameB; rw [HN.out, t5]; rfl
        clear h0
        go_wp2_with fail
        go_ret
        rw [HB.out]
        exact ⟨rfl, rfl⟩
/-- What an assignment sets. -/
def setsM (s : Nm) : Nm × Nm × Bool := match cutAt 61 s with
  | none => ([], [], false)
  | some x => if nameB x.1 then (x.1, x.2, true) else ([], [], false)
set_option maxHeartbeats 1000000 in
theorem sets_calls (W : World) (s : Nm) (hs : s.length ≤ 100000) : Calls Tryz.prog 135 #[.string (str s)] W fun r W' => r = .returned (.tuple #[.string (str (setsM s).1), .string (str (setsM s).2.1), .bool (setsM s).2.2]) ∧ Below W.heap.size W W' := by
  cases hc : cutAt 61 s with
  | none =>
    have HX : Hid (setsM s = ([], [], false)) := by show _ = _; unfold setsM; rw [hc]
    have h := cut_calls W s 61 (by omega)
    rw [hc] at h
    have H := Lib.hid h
    clear h hc
    go_enter Tryz.func135, Tryz.ntmps135
    go_wp2_with fail
    refine H.out.mono ?_
    rintro r w2 ⟨rfl, n, hw⟩
    have HB : Hid (Below W.heap.size W w2) := by show Below _ _ _; rw [hw]; exact drewN_below _ _
    clear hw
    go_wp2_with fail
    refine bodyPost_ret (v := .tuple #[.string (str []), .string (str []), .bool false]) (by simp [results, Tryz.results135, go_sem]; rfl) rfl ?_
    rw [HX.out]
    exact ⟨rfl, HB.out⟩
  | some x =>
    have hl := congrArg List.length (cut_len hc)
    simp at hl
    have HX : Hid (setsM s = if nameB x.1 then (x.1, x.2, true) else ([], [], false)) := by show _ = _; unfold setsM; rw [hc]
    have h := cut_calls W s 61 (by omega)
    rw [hc] at h
    have H := Lib.hid h
    have hxl : x.1.length ≤ 100000 := by omega
    clear h hc hl
    go_enter Tryz.func135, Tryz.ntmps135
    go_wp2_with fail
    refine H.out.mono ?_
    rintro r w2 ⟨rfl, n, hw⟩
    have HB : Hid (Below W.heap.size W w2) := by show Below _ _ _; rw [hw]; exact drewN_below _ _
    clear hw
    go_wp2_with fail
    refine (name_calls w2 x.1 (by omega)).mono ?_
    rintro r w3 ⟨rfl, hw3⟩
    obtain rfl := hw3.symm
    cases hn : nameB x.1 with
    | true =>
      have HX2 : Hid (setsM s = (x.1, x.2, true)) := by show _ = _; rw [HX.out, hn]; rfl
      clear hn
      go_wp2_with fail
      refine bodyPost_ret (v := .tuple #[.string (str x.1), .string (str x.2), .bool true]) (by simp [results, Tryz.results135, go_sem]) rfl ?_
      rw [HX2.out]
      exact ⟨rfl, HB.out⟩
    | false =>
      have HX2 : Hid (setsM s = ([], [], false)) := by show _ = _; rw [HX.out, hn]; rfl
      clear hn
      go_wp2_with fail
      refine bodyPost_ret (v := .tuple #[.string (str []), .string (str []), .bool false]) (by simp [results, Tryz.results135, go_sem]; rfl) rfl ?_
      rw [HX2.out]
      exact ⟨rfl, HB.out⟩
end Go.Proofs.YtiklkhbfilbpeaaGreatDoor
