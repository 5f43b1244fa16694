/-
  Lexer: what is from $(( on. Conditions: as each contract says.
-/
import Derived.Test.YtiklkhbfilbpeaaGreatDoorSkLxRead
import Derived.Deep.CutBlock
import Derived.Deep.DeepCutAuto
set_option linter.unusedVariables false
set_option linter.unusedSimpArgs false
set_option maxRecDepth 100000
namespace Go.Proofs.YtiklkhbfilbpeaaGreatDoor
open Go.RowKit Base Lx
theorem ari_end {q : Nm} (h : has [41, 41] q = true) : ariM 0 q = .ok (q.take 2, q.drop 2) ∧ 2 ≤ q.length := by
  match q, h with
  | [], h => simp [has, List.isPrefixOf] at h
  | [c], h => simp [has, List.isPrefixOf] at h
  | c :: d :: r, h =>
    have h2 := h
    simp only [has, List.isPrefixOf, Bool.and_true, Bool.and_eq_true, beq_iff_eq] at h2
    obtain ⟨rfl, rfl⟩ := h2
    refine ⟨?_, by simp⟩
    rw [ariM, if_pos ⟨rfl, h⟩]
    rfl
theorem ari_step (d : Nat) (c : UInt8) (r : Nm) (h : ¬ (d = 0 ∧ has [41, 41] (c :: r) = true)) : ariM d (c :: r) = if c = 41 then (if d = 0 then .error 20 else pre [c] (ariM (d - 1) r)) else if c = 40 then pre [c] (ariM (d + 1) r) else pre [c] (ariM d r) := by
  rw [ariM, if_neg h]
theorem str_tl (l : Nm) : (str l).toList = l := by rw [ByteArray.toList_eq]; rfl
theorem str1_eq (c d : UInt8) : ((str [c]).toList == [d]) = decide (c = d) := by
  rw [str_tl]
  by_cases h : c = d
  · subst h; simp
  · simp [h]
set_option maxHeartbeats 2000000 in
theorem arithmetic_calls (W : World) (b : Nat) (s : Nm) (K g : Nat) (vl vh : Value) (h : Rd W b s K g vl vh) (h3 : has [36, 40, 40] s = true) (X : R) (hX : pre [36, 40, 40] (ariM 0 (s.drop 3)) = X) :
    Calls Tryz.prog 105 #[.pointer (some ⟨b, 0, none⟩)] W (PartPost W b K g vl vh X) := by
  have HH := Lib.hid h
  have h3l := has_len h3
  have h3t : s.take 3 = [36, 40, 40] := by
    obtain ⟨t, rfl⟩ := List.isPrefixOf_iff_prefix.1 h3
    rfl
  have hsl := h.len
  simp at h3l
  clear h h3
  go_enter Tryz.func105, Tryz.ntmps105
  go_wp2_with fail
  refine (take_yes _ b s K g vl vh HH.out 3 h3l).mono ?_
  rintro r w1 ⟨rfl, ht, hr⟩
  rw [h3t]
  have HR1 := Lib.hid hr
  have HT1 := Lib.hid ht
  clear ht hr h3t
  have HX1 := Lib.hid hX
  clear hX
  obtain ⟨N, hN⟩ : ∃ N, s.length = N := ⟨_, rfl⟩
  have hdl : (s.drop 3).length + 3 = N := by rw [List.length_drop]; omega
  obtain ⟨z, hz⟩ : ∃ z, s.drop 3 = z := ⟨_, rfl⟩
  rw [hz] at HX1 HR1 hdl
  rw [hN] at hsl
  clear hN h3l hz
  go_wp2_with fail
  go_loopw [3, 4] (fun v3 v4 wr => ∃ (o : Nm) (k : Nat) (q : Nm), v3 = .string (str o) ∧ v4 = .int .i64 (k : Int) ∧ pre o (ariM k q) = X ∧ o.length + q.length = N ∧ k ≤ o.length ∧ Rd wr b q K g vl vh ∧ Turn b W wr) (fun v3 _ _ => N - (match v3 with | .string t => t.size | _ => 0))
  case atStart => exact ⟨[36, 40, 40], 0, z, rfl, rfl, HX1.out, by simp; omega, Nat.zero_le _, HR1.out, HT1.out⟩
  case round =>
    clear HR1 HT1 HX1
    obtain ⟨o, k, q, rfl, rfl, hx, hl, hk, hr, ht⟩ := hrel
    have HX := Lib.hid hx
    have HR := Lib.hid hr
    have HT := Lib.hid ht
    clear hx hr ht
    have hol : (str o).size = o.length := rfl
    by_cases hend : k = 0 ∧ has [41, 41] q = true
    · obtain ⟨rfl, hh⟩ := hend
      have HE := Lib.hid (ari_end hh)
      go_wp2_with fail
      refine (has_calls wr b q K g vl vh HR.out [41, 41]).mono ?_
      rintro r w2 ⟨rfl, hw⟩
      obtain rfl := hw.symm
      rw [hh]
      clear hh
      go_wp2_with fail
      refine (take_yes _ b q K g vl vh HR.out 2 HE.out.2).mono ?_
      rintro r w3 ⟨rfl, ht, hr⟩
      have HT3 := Lib.hid (HT.out.trans ht)
      have HR3 := Lib.hid hr
      have hcat : (str o).size + (str (q.take 2)).size ≤ 9223372036854775807 := by rw [str_size, str_size, List.length_take]; omega
      clear ht hr
      go_wp2_with fail
      go_ret
      rw [str_append]
      refine part_ok ?_ HT3.out HR3.out
      rw [← HX.out, HE.out.1, pre_ok]
    · go_upto_region 3 with fail
      go_cut [14] (fun s14 wx => s14 = .bool true ∧ wx = wr)
      case first =>
        by_cases hk0 : k = 0
        · subst hk0
          have hh : has [41, 41] q = false := by
            rcases hq : has [41, 41] q with _ | _
            · rfl
            · exact absurd ⟨rfl, hq⟩ hend
          clear hend
          go_wp2_with fail
          refine (has_calls wr b q K g vl vh HR.out [41, 41]).mono ?_
          rintro r w2 ⟨rfl, hw⟩
          obtain rfl := hw.symm
          rw [hh]
          clear hh
          go_wp2_with fail
          go_meet
          exact ⟨rfl, rfl⟩
        · have d0 : 0 < k := by omega
          have u1 : decide ((0 : Int) < (k : Int)) = true := decide_eq_true (by omega)
          have u2 : (0 : Int) < (k : Int) := by omega
          clear hend
          go_wp2_with fail
          go_meet
          exact ⟨rfl, rfl⟩
      case rest =>
        obtain ⟨rfl, hw⟩ := hcut
        subst hw
        have HEnd := Lib.hid hend
        clear hend
        cases q with
        | nil =>
          have HXe : Hid (X = .error 20) := HX.out.symm
          go_wp2_with fail
          refine (take_no _ b [] K g vl vh HR.out 1 (by simp)).mono ?_
          rintro r w3 ⟨rfl, rfl⟩
          exact ⟨rfl, part_err HXe.out HT.out⟩
        | cons c q =>
          have HSt := Lib.hid (ari_step k c q HEnd.out)
          have hcl : o.length + q.length + 1 = N := by have := hl; simp at this; omega
          go_wp2_with fail
          refine (take_yes _ b (c :: q) K g vl vh HR.out 1 (by simp)).mono ?_
          rintro r w3 ⟨rfl, ht, hr⟩
          have HR3 : Hid (Rd w3 b q K g vl vh) := hr
          have HT3 := Lib.hid (HT.out.trans ht)
          clear ht hr hl
          rw [show (c :: q).take 1 = [c] from rfl]
          have hcat : (str o).size + (str [c]).size ≤ 9223372036854775807 := by rw [str_size, str_size]; simp; omega
          have n40 := str1_eq c 40
          have n41 := str1_eq c 41
          by_cases h41 : c = 41
          · subst h41
            replace n40 : ((str [41]).toList == [40]) = false := n40
            replace n41 : ((str [41]).toList == [41]) = true := n41
            by_cases hk0 : k = 0
            · subst hk0
              have HXe : Hid (X = .error 20) := by
                show _ = _
                rw [← HX.out, HSt.out, if_pos rfl, if_pos rfl]
                rfl
              go_wp2_with fail
              refine (fail_calls _ b q K g vl vh HR3.out 20).mono ?_
              rintro r w6 ⟨rfl, rfl⟩
              exact ⟨rfl, part_err HXe.out HT3.out⟩
            · obtain ⟨k', rfl⟩ : ∃ k', k = k' + 1 := ⟨k - 1, by omega⟩
              have HXn : Hid (pre (o ++ [41]) (ariM k' q) = X) := by
                show _ = _
                rw [← HX.out, HSt.out, if_pos rfl, if_neg hk0, pre_pre]
                rfl
              clear hk0
              have d1 : ¬ (k' : Int) + 1 - 1 < 0 := by omega
              have d2 : decide ((k' : Int) + 1 - 1 < 0) = false := decide_eq_false (by omega)
              have d3 : ¬ (k' : Int) < 0 := by omega
              have d4 : decide ((k' : Int) < 0) = false := decide_eq_false (by omega)
              go_wp2_with fail
              go_roundw
              case rel => exact ⟨o ++ [41], k', q, by rw [str_append], by go_num, HXn.out, by simp; omega, by simp; omega, HR3.out, HT3.out⟩
              case measure => rw [str_append]; simp only [str_size, List.length_append, List.length_singleton]; omega
          · by_cases h40 : c = 40
            · subst h40
              replace n40 : ((str [40]).toList == [40]) = true := n40
              replace n41 : ((str [40]).toList == [41]) = false := n41
              have HXn : Hid (pre (o ++ [40]) (ariM (k + 1) q) = X) := by
                show _ = _
                rw [← HX.out, HSt.out, if_neg h41, if_pos rfl, pre_pre]
              clear h41
              have d1 : ¬ (k : Int) + 1 < 0 := by omega
              have d3 : decide ((k : Int) + 1 < 0) = false := decide_eq_false (by omega)
              go_wp2_with fail
              go_roundw
              case rel => exact ⟨o ++ [40], k + 1, q, by rw [str_append], by go_num, HXn.out, by simp; omega, by simp; omega, HR3.out, HT3.out⟩
              case measure => rw [str_append]; simp only [str_size, List.length_append, List.length_singleton]; omega
            · have HXn : Hid (pre (o ++ [c]) (ariM k q) = X) := by
                show _ = _
                rw [← HX.out, HSt.out, if_neg h41, if_neg h40, pre_pre]
              replace n40 : ((str [c]).toList == [40]) = false := by rw [n40]; exact decide_eq_false h40
              replace n41 : ((str [c]).toList == [41]) = false := by rw [n41]; exact decide_eq_false h41
              clear h41 h40
              have d1 : ¬ (k : Int) < 0 := by omega
              have d3 : decide ((k : Int) < 0) = false := decide_eq_false (by omega)
              go_wp2_with fail
              go_roundw
              case rel => exact ⟨o ++ [c], k, q, by rw [str_append], by go_num, HXn.out, by simp; omega, by simp; omega, HR3.out, HT3.out⟩
              case measure => rw [str_append]; simp only [str_size, List.length_append, List.length_singleton]; omega
end Go.Proofs.YtiklkhbfilbpeaaGreatDoor
