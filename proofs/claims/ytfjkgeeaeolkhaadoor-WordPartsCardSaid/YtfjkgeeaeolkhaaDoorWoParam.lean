/-
  Word: how long a parameter's name is; what is behind $((. Conditions: as each contract says.
-/
import Derived.Test.YtfjkgeeaeolkhaaDoorWoPut
set_option linter.unusedVariables false
set_option linter.unusedSimpArgs false
set_option maxRecDepth 100000
namespace Go.Proofs.YtfjkgeeaeolkhaaDoor
open Go.RowKit Base Wo

theorem ltr_int (c : UInt8) : ltrI (c.toNat : Int) = ltrB c := by
  rw [Bool.eq_iff_iff]
  simp only [ltrI, ltrB, Bool.or_eq_true, Bool.and_eq_true, beq_iff_eq, decide_eq_true_eq, UInt8.le_iff_toNat_le, ← UInt8.toNat_inj]
  simp
  omega
theorem dig_int (c : UInt8) : digI (c.toNat : Int) = digB c := by
  rw [Bool.eq_iff_iff]
  simp only [digI, digB, Bool.and_eq_true, decide_eq_true_eq, UInt8.le_iff_toNat_le]
  simp
  omega
theorem tw_len {p : UInt8 → Bool} : ∀ (r : Nm) (k : Nat), k ≤ (r.takeWhile p).length ↔ k ≤ r.length ∧ ∀ j, (h : j < k) → ∀ c, r[j]? = some c → p c = true
  | [], k => by simp
  | c :: r, 0 => by simp
  | c :: r, k + 1 => by
    have ih := tw_len (p := p) r k
    rw [List.takeWhile_cons]
    by_cases hc : p c = true
    · rw [if_pos hc]
      simp only [List.length_cons]
      constructor
      · intro h
        obtain ⟨h1, h2⟩ := ih.1 (by omega)
        refine ⟨by omega, fun j hj d hd => ?_⟩
        cases j with
        | zero => simp at hd; subst hd; exact hc
        | succ j => exact h2 j (by omega) d (by simpa using hd)
      · rintro ⟨h1, h2⟩
        have := ih.2 ⟨by omega, fun j hj d hd => h2 (j + 1) (by omega) d (by simpa using hd)⟩
        omega
    · rw [if_neg hc]
      constructor
      · intro h; simp at h
      · rintro ⟨_, h2⟩
        exact absurd (h2 0 (by omega) c rfl) hc
theorem name_len {s : Nm} {k : Nat} (h : k < s.length) : nameB (s.take (k + 1)) = decide (k + 1 ≤ nameLen s) := by
  have hl : (s.take (k + 1)).length = k + 1 := by rw [List.length_take]; omega
  have hne : (s.take (k + 1)).isEmpty = false := by
    cases s with
    | nil => simp at h
    | cons c r => rfl
  unfold nameB
  rw [hl, hne, Bool.not_false, Bool.and_true, Bool.eq_iff_iff, decide_eq_true_iff]
  unfold nameTo
  rw [List.all_eq_true]
  match s, h with
  | c :: r, h =>
    have hat : ∀ j, j ≤ k → ∀ d, (c :: r)[j]? = some d → nmAt ((c :: r).take (k + 1)) j = (ltrB d || (!decide (j = 0) && digB d)) := by
      intro j hj d hd
      unfold nmAt
      have : ((c :: r).take (k + 1)).getD j 0 = d := by
        rw [List.getD_eq_getElem?_getD, List.getElem?_take, if_pos (by omega), hd]; rfl
      rw [this, ltr_int, dig_int]
    have hnl : nameLen (c :: r) = if ltrB c then 1 + (r.takeWhile fun c => ltrB c || digB c).length else 0 := rfl
    rw [hnl]
    constructor
    · intro ha
      have h0 := ha 0 (List.mem_range.2 (by omega))
      rw [hat 0 (by omega) c rfl] at h0
      have hc : ltrB c = true := by simpa using h0
      rw [if_pos hc]
      have := (tw_len (p := fun c => ltrB c || digB c) r k).2 ⟨by have := h; simp at this; omega, fun j hj d hd => by
        have h1 := ha (j + 1) (List.mem_range.2 (by omega))
        rw [hat (j + 1) (by omega) d (by simpa using hd)] at h1
        simpa using h1⟩
      omega
    · intro hk j hj
      have hj := List.mem_range.1 hj
      by_cases hc : ltrB c = true
      · rw [if_pos hc] at hk
        obtain ⟨h1, h2⟩ := (tw_len (p := fun c => ltrB c || digB c) r k).1 (by omega)
        cases j with
        | zero => rw [hat 0 (by omega) c rfl, hc]; rfl
        | succ j =>
          have hjr : j < r.length := by omega
          rw [hat (j + 1) (by omega) r[j] (by simp [hjr])]
          have := h2 j (by omega) r[j] (by simp [hjr])
          simpa using this
      · rw [if_neg hc] at hk
        omega
theorem specs_one {c : UInt8} : decide (0 ≤ Lib.indexByte specs c) = specs.contains c := by
  have h := index_cut c specs
  have hm : ∀ s : Nm, (cutAt c s).isSome = s.contains c := by
    intro s
    induction s with
    | nil => rfl
    | cons d r ih =>
      unfold cutAt
      by_cases hd : d = c
      · subst hd; simp
      · rw [if_neg hd, Option.isSome_map, ih, List.contains_cons]
        have : (c == d) = false := by rw [beq_eq_false_iff_ne]; exact fun e => hd e.symm
        rw [this, Bool.false_or]
  rw [← hm specs]
  cases hc : cutAt c specs with
  | none => rw [hc] at h; simp only at h; rw [h]; rfl
  | some x => rw [hc] at h; simp only at h; rw [h.1]; simp
set_option maxHeartbeats 2000000 in
theorem param_calls (W : World) (b B : Nat) (v : Value) (l : List Prt) (s : Nm) (d : Nat) (h : Rd W b B v l s d) (hs : s.length ≤ 1000000) :
    Calls Tryd.prog 31 #[.pointer (some ⟨b, 0, none⟩)] W fun r W' => r = .returned (.int .i64 (paramLen s : Int)) ∧ W' = W := by
  obtain ⟨⟨c0, c1, c2⟩, f0, f1, f2⟩ := rd_cells h.box
  have e1 : (str s).size = s.length := rfl
  have htl : (str s).toList = s := str_toList s
  have HLe := Lib.hid (nameLen_le s)
  clear h c0 c2 f0 f1 f2
  go_enter Tryd.func31, Tryd.ntmps31
  go_wp2_with fail
  go_loopw [3] (fun v3 wr => ∃ k : Nat, k ≤ nameLen s ∧ v3 = .int .i64 k ∧ wr = W) (fun v3 _ => s.length - (intOf v3).toNat)
  case atStart => exact ⟨0, Nat.zero_le _, rfl, rfl⟩
  case round =>
    obtain ⟨k, hk, rfl, rfl⟩ := hrel
    have HK := Lib.hid hk
    have hkl : k ≤ s.length := Nat.le_trans hk HLe.out
    clear hk
    by_cases hlt : k < s.length
    · have s1 := fun W => Sw.run_sub_h (P := Tryd.prog) (w := W) Tryd.underlying9 s .i64 (k + 1) (by omega)
      rw [show ((k + 1 : Nat) : Int) = (k : Int) + 1 by omega] at s1
      have HNm := Lib.hid (name_len hlt)
      have HL1 : Hid ((s.take (k + 1)).length ≤ 9223372036854775807) := by show _ ≤ _; rw [List.length_take]; omega
      have u3 : decide (k < (str s).size) = true := decide_eq_true (by omega)
      have u1 : decide ((k : Int) < ((str s).size : Int)) = true := decide_eq_true (by omega)
      have u2 : (k : Int) < ((str s).size : Int) := by omega
      go_wp2_with fail
      refine (name_calls wr (s.take (k + 1)) HL1.out).mono ?_
      rintro r w2 ⟨rfl, rfl⟩
      rw [HNm.out]
      by_cases hn : k + 1 ≤ nameLen s
      · rw [decide_eq_true hn]
        go_wp2_with fail
        go_roundw
        case rel => exact ⟨k + 1, hn, by go_num, trivial⟩
        case measure => simp [intOf]; omega
      · rw [decide_eq_false hn]
        have HKe : Hid (nameLen s = k) := by have := HK.out; show _ = _; omega
        clear hn u1 u2 u3 s1
        by_cases hk0 : k = 0
        · subst hk0
          obtain ⟨c, r, hsc⟩ : ∃ c r, s = c :: r := by
            cases s with
            | nil => simp at hlt
            | cons c r => exact ⟨c, r, rfl⟩
          have HP : Hid (paramLen s = if specs.contains c then 1 else 0) := by show _ = _; unfold paramLen; rw [HKe.out, hsc]; rfl
          have hx1 : (str s).extract 0 1 = str [c] := by rw [hsc]; exact Sw.str_sub _ _ _
          have e2 : (1 : Int) ≤ ((str s).size : Int) := by show (1 : Int) ≤ (s.length : Int); omega
          have t4 : (str s).toList.isEmpty = false := by rw [str_toList, hsc]; rfl
          have t7 : (!(str s).toList.isEmpty) = true := by rw [t4]; rfl
          clear hsc htl
          go_wp2_with fail
          refine (Tryd.strings_Contains_one (str specs) c _).mono ?_
          rintro r2 w3 ⟨rfl, rfl⟩
          rw [str_dl, specs_one]
          by_cases hc : specs.contains c = true
          · rw [hc] at HP ⊢
            go_wp2_with fail
            go_ret
            rw [HP.out]
            exact ⟨rfl, rfl⟩
          · have hc : specs.contains c = false := by simpa using hc
            rw [hc] at HP ⊢
            go_wp2_with fail
            go_ret
            rw [HP.out]
            exact ⟨rfl, rfl⟩
        · have HP : Hid (paramLen s = k) := by show _ = _; unfold paramLen; rw [HKe.out, if_neg hk0]
          have d1 : ((k : Int) == 0) = false := by rw [beq_eq_false_iff_ne]; omega
          have d2 : decide ((k : Int) = 0) = false := decide_eq_false (by omega)
          clear hk0
          go_wp2_with fail
          go_ret
          rw [HP.out]
          exact ⟨rfl, rfl⟩
    · obtain rfl : k = s.length := by omega
      have u3 : decide (s.length < (str s).size) = false := decide_eq_false (by omega)
      have u1 : decide ((s.length : Int) < ((str s).size : Int)) = false := decide_eq_false (by omega)
      have u2 : ¬ ((s.length : Int) < ((str s).size : Int)) := by omega
      have HKe : Hid (nameLen s = s.length) := by have := HK.out; have := HLe.out; show _ = _; omega
      by_cases h0 : s = []
      · subst h0
        have t4 : (str []).toList.isEmpty = true := by rw [str_toList]; rfl
        have t5 : (!(str []).toList.isEmpty) = false := by rw [str_toList]; rfl
        go_wp2_with fail
        go_ret
        exact ⟨rfl, rfl⟩
      · have hsl : 0 < s.length := by cases s with
          | nil => exact absurd rfl h0
          | cons c r => simp
        have HP : Hid (paramLen s = s.length) := by show _ = _; unfold paramLen; rw [HKe.out, if_neg (by omega)]
        have d1 : ((s.length : Int) == 0) = false := by rw [beq_eq_false_iff_ne]; omega
        have d2 : decide ((s.length : Int) = 0) = false := decide_eq_false (by omega)
        clear h0 hsl
        go_wp2_with fail
        go_ret
        rw [HP.out]
        exact ⟨rfl, rfl⟩
/-- What is behind $((. -/
def ArithPost (W : World) (b B : Nat) (v : Value) (l : List Prt) (s : Nm) (d : Nat) (r : Ending) (W' : World) : Prop :=
  ∃ x, arithM 0 s = some x ∧ Turn b none W W' ∧ match x with
    | .error e => r = panEnd e
    | .ok y => r = .returned (.string (str y.1)) ∧ Rd W' b B v l y.2 d
theorem arith_nil (d : Nat) : arithM d [] = err 11 := rfl
theorem arith_end (s : Nm) (h : has [41, 41] s = true) : arithM 0 s = ret ([], s.drop 2) ∧ 2 ≤ s.length := by
  match s, h with
  | [], h => simp [has, List.isPrefixOf] at h
  | c :: r, h =>
    refine ⟨?_, by simpa using has_len h⟩
    unfold arithM
    rw [if_pos ⟨rfl, h⟩]
    rfl
theorem arith_step (d : Nat) (c : UInt8) (r : Nm) (h : ¬ (d = 0 ∧ has [41, 41] (c :: r) = true)) : arithM d (c :: r) = if c = 41 then (if d = 0 then err 11 else bnd (arithM (d - 1) r) fun x => ret (c :: x.1, x.2)) else if c = 40 then bnd (arithM (d + 1) r) fun x => ret (c :: x.1, x.2) else bnd (arithM d r) fun x => ret (c :: x.1, x.2) := by
  rw [arithM, if_neg h]
def arithR (o : Nm) (d : Nat) (s : Nm) : M (Nm × Nm) := bnd (arithM d s) fun x => ret (o ++ x.1, x.2)
theorem arithR_next (o : Nm) (c : UInt8) (x : M (Nm × Nm)) : (bnd (bnd x fun x => ret (c :: x.1, x.2)) fun x => ret (o ++ x.1, x.2)) = bnd x fun x => ret ((o ++ [c]) ++ x.1, x.2) := by
  match x with
  | none => rfl
  | some (.error e) => rfl
  | some (.ok y) => simp [bnd, ret]
theorem count_one (c e : UInt8) : Lib.countByte [c] e = if c = e then 1 else 0 := by
  unfold Lib.countByte
  by_cases h : c = e
  · subst h; simp
  · rw [if_neg h, List.count_cons]
    simp [h]
set_option maxHeartbeats 4000000 in
theorem arith_calls (W : World) (b B : Nat) (v : Value) (l : List Prt) (s : Nm) (d : Nat) (h : Rd W b B v l s d) (hs : s.length ≤ 100000) :
    Calls Tryd.prog 30 #[.pointer (some ⟨b, 0, none⟩)] W (ArithPost W b B v l s d) := by
  have HH := Lib.hid h
  clear h
  go_enter Tryd.func30, Tryd.ntmps30
  go_wp2_with fail
  go_loopw [3, 4] (fun v3 v4 wr => ∃ (o : Nm) (k : Nat) (q : Nm), v3 = .string (str o) ∧ v4 = .int .i64 (k : Int) ∧ arithM 0 s = arithR o k q ∧ o.length + q.length ≤ s.length ∧ k ≤ o.length ∧ Rd wr b B v l q d ∧ Turn b none W wr) (fun v3 _ _ => s.length - (match v3 with | .string t => t.size | _ => 0))
  case atStart => exact ⟨[], 0, s, rfl, rfl, by unfold arithR; cases arithM 0 s with
    | none => rfl
    | some x => cases x <;> rfl, by simp, Nat.le_refl _, HH.out, Turn.refl _ _ _⟩
  case round =>
    obtain ⟨o, k, q, rfl, rfl, hx, hl, hk, hr, ht⟩ := hrel
    have HX := Lib.hid hx
    have HR := Lib.hid hr
    have HT := Lib.hid ht
    clear hx hr ht
    have hol : (str o).size = o.length := rfl
    by_cases hend : k = 0 ∧ has [41, 41] q = true
    · obtain ⟨rfl, hh⟩ := hend
      have HE := Lib.hid (arith_end q hh)
      go_wp2_with fail
      refine (has_calls wr b B v l q d HR.out [41, 41]).mono ?_
      rintro r w2 ⟨rfl, rfl⟩
      rw [hh]
      clear hh
      go_wp2_with fail
      refine (take_yes _ b B v l q d HR.out 2 (by omega) HE.out.2).mono ?_
      rintro r w3 ⟨rfl, rfl⟩
      go_wp2_with fail
      go_ret
      refine ⟨.ok (o, q.drop 2), ?_, ?_, rfl, ?_⟩
      · rw [HX.out]
        unfold arithR
        rw [HE.out.1]
        simp [bnd, ret]
      · exact HT.out.trans_same (HR.out.text _).2
      · exact (HR.out.text _).1
    · go_upto_region 3 with fail
      go_cut [12] (fun s12 wx => s12 = .bool true ∧ wx = wr)
      case first =>
        by_cases hk0 : k = 0
        · subst hk0
          have hh : has [41, 41] q = false := by
            rcases hq : has [41, 41] q with _ | _
            · rfl
            · exact absurd ⟨rfl, hq⟩ hend
          clear hend
          go_wp2_with fail
          refine (has_calls wr b B v l q d HR.out [41, 41]).mono ?_
          rintro r w2 ⟨rfl, rfl⟩
          rw [hh]
          clear hh
          go_wp2_with fail
          go_meet
          exact ⟨rfl, rfl⟩
        · have d0 : 0 < k := by omega
          have u1 : decide ((0 : Int) < (k : Int)) = true := decide_eq_true (by omega)
          have u2 : (0 : Int) < (k : Int) := by omega
          clear hend
          go_wp2_with fail
          go_meet
          exact ⟨rfl, rfl⟩
      case rest =>
        obtain ⟨rfl, hw⟩ := hcut
        subst hw
        have HEnd := Lib.hid hend
        clear hend
        cases q with
        | nil =>
          have HXe : Hid (arithM 0 s = some (.error 11)) := HX.out
          go_wp2_with fail
          refine (take_no _ b B v l [] d HR.out 1 (by simp) (by simp)).mono ?_
          rintro r w3 ⟨rfl, rfl⟩
          exact ⟨rfl, .error 11, HXe.out, HT.out, rfl⟩
        | cons c q =>
          have HSt := Lib.hid (arith_step k c q HEnd.out)
          have hcl : o.length + q.length + 1 ≤ s.length := by have := hl; simp at this; omega
          go_wp2_with fail
          refine (take_yes _ b B v l (c :: q) d HR.out 1 (by simp at hl ⊢; omega) (by simp)).mono ?_
          rintro r w3 ⟨rfl, hw3⟩
          have HR3 : Hid (Rd w3 b B v l q d) := by show Rd _ _ _ _ _ _ _; rw [hw3]; exact (HR.out.text _).1
          have HT3 : Hid (Turn b none W w3) := by show Turn _ _ _ _; rw [hw3]; exact HT.out.trans_same (HR.out.text _).2
          clear hw3 hl
          rw [show (c :: q).take 1 = [c] from rfl]
          obtain ⟨n40, h40⟩ : ∃ n : Nat, Lib.countByte [c] 40 = n := ⟨_, rfl⟩
          obtain ⟨n41, h41⟩ : ∃ n : Nat, Lib.countByte [c] 41 = n := ⟨_, rfl⟩
          have H40 := Lib.hid h40
          have H41 := Lib.hid h41
          have hb40 : n40 ≤ 1 := by rw [← h40, count_one]; split <;> omega
          have hb41 : n41 ≤ 1 := by rw [← h41, count_one]; split <;> omega
          clear h40 h41
          go_wp2_with fail
          refine (Tryd.strings_Count_one (str [c]) 40 _).mono ?_
          rintro r w4 ⟨rfl, rfl⟩
          rw [str_dl, H40.out]
          go_wp2_with fail
          refine (Tryd.strings_Count_one (str [c]) 41 _).mono ?_
          rintro r w5 ⟨rfl, rfl⟩
          rw [str_dl, H41.out]
          have hcat : (str o).size + (str [c]).size ≤ 9223372036854775807 := by rw [str_size, str_size]; simp; omega
          by_cases h41 : c = 41
          · subst h41
            obtain rfl : n40 = 0 := by rw [← H40.out]; rfl
            obtain rfl : n41 = 1 := by rw [← H41.out]; rfl
            by_cases hk0 : k = 0
            · subst hk0
              have HXe : Hid (arithM 0 s = some (.error 11)) := by
                show _ = _
                rw [HX.out]
                unfold arithR
                rw [HSt.out, if_pos rfl, if_pos rfl]
                rfl
              go_wp2_with fail
              refine (fail_calls _ 11).mono ?_
              rintro r w6 ⟨rfl, rfl⟩
              exact ⟨rfl, .error 11, HXe.out, HT3.out, rfl⟩
            · obtain ⟨k', rfl⟩ : ∃ k', k = k' + 1 := ⟨k - 1, by omega⟩
              have HXn : Hid (arithM 0 s = arithR (o ++ [41]) k' q) := by
                show _ = _
                rw [HX.out]
                unfold arithR
                rw [HSt.out, if_pos rfl, if_neg hk0]
                exact arithR_next _ _ _
              clear hk0
              have d1 : ¬ (k' : Int) + 1 + -1 < 0 := by omega
              have d2 : decide ((k' : Int) + 1 + -1 < 0) = false := decide_eq_false (by omega)
              go_wp2_with fail
              go_roundw
              case rel => exact ⟨o ++ [41], k', q, by rw [str_append], by go_num, HXn.out, by simp; omega, by simp; omega, HR3.out, HT3.out⟩
              case measure => rw [str_append]; simp only [str_size, List.length_append, List.length_singleton]; omega
          · obtain rfl : n41 = 0 := by rw [← H41.out, count_one, if_neg h41]
            by_cases h40 : c = 40
            · subst h40
              obtain rfl : n40 = 1 := by rw [← H40.out]; rfl
              have HXn : Hid (arithM 0 s = arithR (o ++ [40]) (k + 1) q) := by
                show _ = _
                rw [HX.out]
                unfold arithR
                rw [HSt.out, if_neg h41, if_pos rfl]
                exact arithR_next _ _ _
              clear h41
              have d1 : ¬ (k : Int) + 1 < 0 := by omega
              have d3 : decide ((k : Int) + 1 < 0) = false := decide_eq_false (by omega)
              go_wp2_with fail
              go_roundw
              case rel => exact ⟨o ++ [40], k + 1, q, by rw [str_append], by go_num, HXn.out, by simp; omega, by simp; omega, HR3.out, HT3.out⟩
              case measure => rw [str_append]; simp only [str_size, List.length_append, List.length_singleton]; omega
            · obtain rfl : n40 = 0 := by rw [← H40.out, count_one, if_neg h40]
              have HXn : Hid (arithM 0 s = arithR (o ++ [c]) k q) := by
                show _ = _
                rw [HX.out]
                unfold arithR
                rw [HSt.out, if_neg h41, if_neg h40]
                exact arithR_next _ _ _
              clear h41 h40
              have d1 : ¬ (k : Int) < 0 := by omega
              go_wp2_with fail
              go_roundw
              case rel => exact ⟨o ++ [c], k, q, by rw [str_append], by go_num, HXn.out, by simp; omega, by simp; omega, HR3.out, HT3.out⟩
              case measure => rw [str_append]; simp only [str_size, List.length_append, List.length_singleton]; omega
end Go.Proofs.YtfjkgeeaeolkhaaDoor
