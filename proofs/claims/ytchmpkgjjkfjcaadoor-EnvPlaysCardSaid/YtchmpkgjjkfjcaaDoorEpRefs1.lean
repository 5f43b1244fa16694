/-
  The document's Env: names, where a variable stands, whether a flag is on, what separates fields. Conditions: the rows are not too long.
-/
import Derived.Test.YtchmpkgjjkfjcaaDoorEnArgs
set_option linter.unusedVariables false
set_option maxRecDepth 100000
namespace Go.Proofs.YtchmpkgjjkfjcaaDoor
open Go.RowKit Base

set_option maxHeartbeats 1000000 in
theorem ref_name_calls (w : World) (s : Nm) (hs : s.length ≤ 9223372036854775806) : Calls Tryd.prog 34 #[.string (str s)] w fun e w' => e = .returned (.bool (nameB s)) ∧ w = w' := by
  have e1 : (str s).size = s.length := rfl
  have htl : (str s).toList = s := str_toList s
  go_enter Tryd.func34, Tryd.ntmps34
  go_wp2_with fail
  go_loopw [3] (fun v3 wr => ∃ k : Nat, k ≤ s.length ∧ v3 = .int .i64 k ∧ nameTo s k = true ∧ w = wr) (fun v3 _ => s.length - (intOf v3).toNat)
  case atStart => exact ⟨0, Nat.zero_le _, rfl, rfl, rfl⟩
  case round =>
    obtain ⟨k, hk, rfl, hn, rfl⟩ := hrel
    have HN := Lib.hid hn
    clear hn
    by_cases hlt : k < s.length
    · have hix := fun W => Sw.run_at (P := Tryd.prog) (w := W) Tryd.underlying9 s .i64 k hlt
      have HA : Hid (nmAt s k = (ltrI (s[k].toNat : Int) || (!decide (k = 0) && digI (s[k].toNat : Int)))) := by show _ = _; unfold nmAt; rw [getD_lt hlt]
      generalize s[k]'hlt = c at *
      have u3 : decide (k < (str s).size) = true := decide_eq_true (by omega)
      have u1 : decide ((k : Int) < ((str s).size : Int)) = true := decide_eq_true (by omega)
      have u2 : (k : Int) < ((str s).size : Int) := by omega
      go_wp2_with fail
      refine (ref_letter_calls w c).mono ?_
      rintro e w2 ⟨rfl, rfl⟩
      by_cases hv : ltrI (c.toNat : Int) = true
      · have HF : Hid (nameTo s (k + 1) = true) := by show _ = _; rw [nameTo_succ, HN.out, HA.out, hv]; rfl
        rw [hv]
        clear hv
        go_wp2_with fail
        go_roundw
        case rel => exact ⟨k + 1, by omega, by go_num, HF.out, trivial⟩
        case measure => simp [intOf]; omega
      · have hv2 : ltrI (c.toNat : Int) = false := by simpa using hv
        rw [hv2]
        by_cases hk0 : k = 0
        · have d1 : decide ((k : Int) = 0) = true := decide_eq_true (by omega)
          have d2 : ((k : Int) == 0) = true := by rw [beq_iff_eq]; omega
          have HF : Hid (nameB s = false) := by show _ = _; unfold nameB; rw [nameTo_le (k := k + 1) (by rw [nameTo_succ, HA.out, hv2, decide_eq_true hk0, Bool.not_true, Bool.false_and, Bool.false_or, Bool.and_false]) (by omega)]; rfl
          clear hv hv2 hk0
          go_wp2_with fail
          go_ret
          rw [HF.out]
          exact ⟨rfl, rfl⟩
        · have d1 : decide ((k : Int) = 0) = false := decide_eq_false (by omega)
          have d2 : ((k : Int) == 0) = false := by rw [beq_eq_false_iff_ne]; omega
          have HK := Lib.hid hk0
          by_cases hd : digI (c.toNat : Int) = true
          · have HF : Hid (nameTo s (k + 1) = true) := by show _ = _; rw [nameTo_succ, HN.out, HA.out, hv2, decide_eq_false hk0, hd]; rfl
            have hd3 : 48 ≤ (c.toNat : Int) ∧ (c.toNat : Int) ≤ 57 := by simpa [digI] using hd
            have y1 : decide ((c.toNat : Int) < 48) = false := decide_eq_false (by omega)
            have y2 : decide ((57 : Int) < (c.toNat : Int)) = false := decide_eq_false (by omega)
            clear hv hv2 hk0 hd hd3
            go_wp2_with fail
            go_roundw
            case rel => exact ⟨k + 1, by omega, by go_num, HF.out, trivial⟩
            case measure => simp [intOf]; omega
          · have hd2 : digI (c.toNat : Int) = false := by simpa using hd
            have HF : Hid (nameB s = false) := by show _ = _; unfold nameB; rw [nameTo_le (k := k + 1) (by rw [nameTo_succ, HA.out, hv2, hd2, Bool.and_false, Bool.false_or, Bool.and_false]) (by omega)]; rfl
            by_cases hd3 : (c.toNat : Int) < 48
            · have y1 : decide ((c.toNat : Int) < 48) = true := decide_eq_true hd3
              clear hv hv2 hk0 hd hd2 hd3
              go_wp2_with fail
              go_ret
              rw [HF.out]
              exact ⟨rfl, rfl⟩
            · have y1 : decide ((c.toNat : Int) < 48) = false := decide_eq_false hd3
              have hd4 : (57 : Int) < (c.toNat : Int) := by
                rcases Int.lt_or_le 57 (c.toNat : Int) with h | h
                · exact h
                · exact absurd (show digI (c.toNat : Int) = true by unfold digI; rw [decide_eq_true (by omega), decide_eq_true h]; rfl) hd
              have y2 : decide ((57 : Int) < (c.toNat : Int)) = true := decide_eq_true hd4
              clear hv hv2 hk0 hd hd2 hd3 hd4
              go_wp2_with fail
              go_ret
              rw [HF.out]
              exact ⟨rfl, rfl⟩
    · obtain rfl : k = s.length := by omega
      have u3 : decide (s.length < (str s).size) = false := decide_eq_false (by omega)
      have u1 : decide ((s.length : Int) < ((str s).size : Int)) = false := decide_eq_false (by omega)
      have u2 : ¬ ((s.length : Int) < ((str s).size : Int)) := by omega
      by_cases h0 : s = []
      · subst h0
        have t4 : (str []).toList.isEmpty = true := by rw [str_toList]; rfl
        have t5 : (!(str []).toList.isEmpty) = false := by rw [str_toList]; rfl
        go_wp2_with fail
        go_ret
        exact ⟨rfl, rfl⟩
      · have t4 : (str s).toList.isEmpty = false := by rw [str_toList]; simpa using h0
        have t5 : s.isEmpty = false := by simpa using h0
        have t7 : (!(str s).toList.isEmpty) = true := by rw [t4]; rfl
        have HB : Hid (nameB s = true) := by show _ = _; unfold nameB; rw [HN.out, t5]; rfl
        clear h0
        go_wp2_with fail
        go_ret
        rw [HB.out]
        exact ⟨rfl, rfl⟩
theorem info_rv : (Tryd.prog.info? 67).map (fun i => (i.zero, i.size, i.bytes)) = some (some (.agg #[.string ⟨#[]⟩, .string ⟨#[]⟩]), 2, 32) := by kernel_rfl
theorem append_rv : ∃ d, Tryd.prog.underlying 39 = some d ∧ ∀ k, d ≠ .int k := append_side Tryd.underlying39
theorem rv_at {w : World} {a : Option Addr} {n cap : Nat} {L : List Vr} (h : Vrs w a n cap L) : ∃ b off, (∀ k (hk : k < L.length), w.cell? ⟨b, off + k * 2, none⟩ = some (.string (str L[k].1)) ∧ w.cell? ⟨b, off + k * 2 + 1, none⟩ = some (.string (str L[k].2))) ∧
    ∀ (kd : IntKind) (k : Nat) (w' : World), k < n → (Instr.indexAt 39 (.slice a n cap) (.int kd (k : Int))).run Tryd.prog w' = .ok (.pointer (some ⟨b, off + k * 2, none⟩)) w' := by
  obtain ⟨i0, hi, _, hi2, _⟩ := info_parts info_rv
  obtain ⟨b, off, h1, h2⟩ := h.at (P := Tryd.prog)
  exact ⟨b, off, fun k hk => ⟨h1 k hk 0 _ rfl, h1 k hk 1 _ rfl⟩, fun kd k w' hk => h2 39 67 i0 Tryd.underlying39 hi hi2 kd k w' hk⟩
abbrev OwnRv (w : World) (base : Nat) (v : Value) (l : List Vr) : Prop := w.ownsRow base 67 2 v l.length (l.flatMap vrC)
theorem rv_of_own {w : World} {base : Nat} {v : Value} {l : List Vr} (h : OwnRv w base v l) : ∃ a c, v = .slice a l.length c ∧ Vrs w a l.length c l := Ap.own_cells (by decide) vrC_len h
/-- Where a variable is. -/
def VarEnd (l : List Vr) (s : Nm) (z : Int) : Prop := (z = -1 ∧ hasB l s = false) ∨ ∃ (i : Nat) (h : i < l.length), z = (i : Int) ∧ getB l s = some (l[i]'h).2
theorem getB_snoc (l : List Vr) (s : Nm) (p : Vr) (h : getB l s = none) : getB (l ++ [p]) s = if p.1 = s then some p.2 else none := by
  rw [get_append, h, Option.none_or, getB_cons]
  rfl
theorem getB_pre {l : List Vr} {s : Nm} {k : Nat} (h1 : getB (l.take k) s = none) (hk : k < l.length) (he : l[k].1 = s) : getB l s = some l[k].2 := by
  have h2 : l = l.take k ++ l[k] :: l.drop (k + 1) := by rw [List.getElem_cons_drop hk, List.take_append_drop]
  conv => lhs; rw [h2]
  rw [get_append, h1, Option.none_or, getB_cons, if_pos he]
def VarPost (w : World) (l : List Vr) (s : Nm) (e : Ending) (w' : World) : Prop := ∃ z, e = .returned (.int .i64 z) ∧ VarEnd l s z ∧ Below w.heap.size w w'
set_option maxHeartbeats 2000000 in
theorem ref_var_calls (w : World) (a : Option Addr) (n c : Nat) (l : List Vr) (st : Int) (fl s : Nm) (ga : Option Addr) (gn gc : Nat) (h : Vrs w a n c l) (hl : l.length ≤ 1000000) :
    Calls Tryd.prog 36 #[.agg #[.slice a n c, .slice ga gn gc, .int .i64 st, .string (str fl)], .string (str s)] w (VarPost w l s) := by
  obtain rfl := h.1
  obtain ⟨hk1, hB1, hs1⟩ := one_box w (.cells #[.slice a l.length c, .slice ga gn gc, .int .i64 st, .string (str fl)] 41)
  have HV := Lib.hid (h.below (Ap.stable_cellsAt vrC) hB1)
  have HB1 := Lib.hid hB1
  have HK1 := Lib.hid hk1
  clear h hk1 hB1 hs1
  go_enter Tryd.func36, Tryd.ntmps36
  go_upto_region 1 with fail
  generalize w.alloc (.cells #[.slice a l.length c, .slice ga gn gc, .int .i64 st, .string (str fl)] 41) = w1 at *
  obtain ⟨b, off, hcs, hix⟩ := rv_at HV.out
  have HCs := Lib.hid hcs
  have HIx := Lib.hid hix
  obtain ⟨⟨c0, c1, c2, c3⟩, f0, f1, f2, f3⟩ := env4 HK1.out
  clear hcs hix
  go_wp2_with fail
  go_loopw [5] (fun v5 wr => ∃ k : Nat, k ≤ l.length ∧ v5 = .int .i64 k ∧ getB (l.take k) s = none ∧ w1 = wr) (fun v5 _ => l.length - (intOf v5).toNat)
  case atStart => exact ⟨0, Nat.zero_le _, rfl, rfl, rfl⟩
  case round =>
    obtain ⟨k, hk, rfl, hg, rfl⟩ := hrel
    have HG := Lib.hid hg
    clear hg
    by_cases hlt : k < l.length
    · have hx := fun W => HIx.out .i64 k W hlt
      obtain ⟨x0, x1⟩ := HCs.out k hlt
      have HT := Lib.hid (List.take_succ_eq_append_getElem hlt)
      have HP := Lib.hid (getB_pre HG.out hlt)
      have HP2 : Hid (∀ s, getB l s = some (l[k]'hlt).2 → VarEnd l s k) := fun s h => .inr ⟨k, hlt, rfl, h⟩
      generalize l[k]'hlt = p at *
      generalize off + k * 2 = q at *
      have u3 : decide (k < l.length) = true := decide_eq_true (by omega)
      have u1 : decide ((k : Int) < (l.length : Int)) = true := decide_eq_true (by omega)
      have u2 : (k : Int) < (l.length : Int) := by omega
      by_cases he : p.1 = s
      · have HF := Lib.hid (HP2.out s (HP.out he))
        have d1 : ((str p.1).toList == (str s).toList) = true := by rw [he]; exact beq_self_eq_true _
        clear he
        go_wp2_with fail
        go_ret
        exact ⟨_, rfl, HF.out, HB1.out⟩
      · have d1 : ((str p.1).toList == (str s).toList) = false := by rw [str_toList, str_toList]; simpa using he
        have HF : Hid (getB (l.take (k + 1)) s = none) := by show _ = _; rw [HT.out, getB_snoc _ _ _ HG.out, if_neg he]
        clear he
        go_wp2_with fail
        go_roundw
        case rel => exact ⟨k + 1, by omega, by go_num, HF.out, trivial⟩
        case measure => simp [intOf]; omega
    · obtain rfl : k = l.length := by omega
      rw [List.take_length] at HG
      have HH : Hid (hasB l s = false) := by show _ = _; rw [← get_isSome, HG.out]; rfl
      have u3 : decide (l.length < l.length) = false := decide_eq_false (by omega)
      have u1 : decide ((l.length : Int) < (l.length : Int)) = false := decide_eq_false (by omega)
      have u2 : ¬ ((l.length : Int) < (l.length : Int)) := by omega
      go_wp2_with fail
      go_ret
      exact ⟨_, rfl, .inl ⟨rfl, HH.out⟩, HB1.out⟩
set_option maxHeartbeats 2000000 in
theorem ref_ifs_calls (w : World) (a : Option Addr) (n c : Nat) (l : List Vr) (st : Int) (fl : Nm) (ga : Option Addr) (gn gc : Nat) (h : Vrs w a n c l) (hl : l.length ≤ 1000000) :
    Calls Tryd.prog 20 #[.agg #[.slice a n c, .slice ga gn gc, .int .i64 st, .string (str fl)]] w fun e w' => e = .returned (.string (str (ifsB l))) ∧ Below w.heap.size w w' := by
  obtain rfl := h.1
  obtain ⟨hk1, hB1, hs1⟩ := one_box w (.cells #[.slice a l.length c, .slice ga gn gc, .int .i64 st, .string (str fl)] 41)
  have HV := Lib.hid (h.below (Ap.stable_cellsAt vrC) hB1)
  have HB1 := Lib.hid hB1
  have HK1 := Lib.hid hk1
  have HS1 := Lib.hid hs1
  clear h hk1 hB1 hs1
  go_enter Tryd.func20, Tryd.ntmps20
  go_upto_region 1 with fail
  generalize w.alloc (.cells #[.slice a l.length c, .slice ga gn gc, .int .i64 st, .string (str fl)] 41) = w1 at *
  obtain ⟨⟨c0, c1, c2, c3⟩, f0, f1, f2, f3⟩ := env4 HK1.out
  go_wp2_with fail
  refine (ref_var_calls w1 a l.length c l st fl [73, 70, 83] ga gn gc HV.out hl).mono ?_
  rintro e w2 ⟨z, rfl, hz, hb2⟩
  have HB2 := Lib.hid (HB1.out.trans (hb2.mono HB1.out.size))
  have hk2 := (hb2.block w.heap.size (by have := HS1.out; omega)).trans HK1.out
  have HV2 := Lib.hid (HV.out.below (Ap.stable_cellsAt vrC) hb2)
  clear c0 c1 c2 c3 f0 f1 f2 f3 HK1 HB1 HV hb2
  obtain ⟨⟨c0, c1, c2, c3⟩, f0, f1, f2, f3⟩ := env4 hk2
  clear hk2
  rcases hz with ⟨rfl, hh⟩ | ⟨i, hi, rfl, hg⟩
  · have HF : Hid (ifsB l = [32, 9, 10]) := by show _ = _; unfold ifsB; rw [show ifsN = [73, 70, 83] from rfl, get_none hh]; rfl
    clear hh
    go_wp2_with fail
    go_ret
    rw [HF.out]
    exact ⟨rfl, HB2.out⟩
  · have HF : Hid (ifsB l = (l[i]'hi).2) := by show _ = _; unfold ifsB; rw [show ifsN = [73, 70, 83] from rfl, hg]; rfl
    obtain ⟨b, off, hcs, hix⟩ := rv_at HV2.out
    have hx := fun W => hix .i64 i W hi
    obtain ⟨x0, x1⟩ := hcs i hi
    have t1 : decide ((i : Int) < 0) = false := decide_eq_false (by omega)
    have t2 : ¬ (i : Int) < 0 := by omega
    clear hg hcs hix
    generalize l[i]'hi = p at *
    generalize off + i * 2 = q at *
    go_wp2_with fail
    go_ret
    rw [HF.out]
    exact ⟨rfl, HB2.out⟩
theorem hasFl_take {fl : Nm} {c : UInt8} {k : Nat} (h : c ∉ fl.take k) (hk : k < fl.length) (hne : fl[k] ≠ c) : c ∉ fl.take (k + 1) := by
  rw [List.take_succ_eq_append_getElem hk, List.mem_append, List.mem_singleton]
  rintro (h1 | h1)
  · exact h h1
  · exact hne h1.symm
set_option maxHeartbeats 2000000 in
theorem ref_has_calls (w : World) (v g : Value) (st : Int) (fl : Nm) (c : UInt8) (a : Option Addr) (n q : Nat) (ga : Option Addr) (gn gc : Nat) (hv : v = .slice a n q) (hg : g = .slice ga gn gc) (hf : fl.length ≤ 1000000) :
    Calls Tryd.prog 23 #[.agg #[v, g, .int .i64 st, .string (str fl)], .int .u8 (c.toNat : Int)] w fun e w' => e = .returned (.bool (hasFl fl c)) ∧ Below w.heap.size w w' := by
  subst hv
  subst hg
  obtain ⟨hk1, hB1, hs1⟩ := one_box w (.cells #[.slice a n q, .slice ga gn gc, .int .i64 st, .string (str fl)] 41)
  have HB1 := Lib.hid hB1
  have HK1 := Lib.hid hk1
  clear hk1 hB1 hs1
  have e1 : (str fl).size = fl.length := rfl
  go_enter Tryd.func23, Tryd.ntmps23
  go_upto_region 1 with fail
  generalize w.alloc (.cells #[.slice a n q, .slice ga gn gc, .int .i64 st, .string (str fl)] 41) = w1 at *
  obtain ⟨⟨c0, c1, c2, c3⟩, f0, f1, f2, f3⟩ := env4 HK1.out
  go_wp2_with fail
  go_loopw [5] (fun v5 wr => ∃ k : Nat, k ≤ fl.length ∧ v5 = .int .i64 k ∧ c ∉ fl.take k ∧ w1 = wr) (fun v5 _ => fl.length - (intOf v5).toNat)
  case atStart => exact ⟨0, Nat.zero_le _, rfl, by simp, rfl⟩
  case round =>
    obtain ⟨k, hk, rfl, hn, rfl⟩ := hrel
    have HN := Lib.hid hn
    clear hn
    by_cases hlt : k < fl.length
    · have hix := fun W => Sw.run_at (P := Tryd.prog) (w := W) Tryd.underlying9 fl .i64 k hlt
      have HT := Lib.hid (hasFl_take HN.out hlt)
      have HM := Lib.hid (List.getElem_mem hlt)
      generalize fl[k]'hlt = d at *
      have u3 : decide (k < fl.length) = true := decide_eq_true (by omega)
      have u1 : decide ((k : Int) < (fl.length : Int)) = true := decide_eq_true (by omega)
      have u2 : (k : Int) < (fl.length : Int) := by omega
      by_cases he : d = c
      · have HF : Hid (hasFl fl c = true) := by show _ = _; unfold hasFl; rw [← he]; exact decide_eq_true HM.out
        subst he
        go_wp2_with fail
        go_ret
        rw [HF.out]
        exact ⟨rfl, HB1.out⟩
      · have hne : ¬ (d.toNat : Int) = (c.toNat : Int) := fun h => he (UInt8.toNat_inj.1 (by omega))
        have d1 : decide ((d.toNat : Int) = (c.toNat : Int)) = false := decide_eq_false hne
        have d2 : ((d.toNat : Int) == (c.toNat : Int)) = false := by simpa using hne
        have HF := Lib.hid (HT.out he)
        clear he hne
        go_wp2_with fail
        go_roundw
        case rel => exact ⟨k + 1, by omega, by go_num, HF.out, trivial⟩
        case measure => simp [intOf]; omega
    · obtain rfl : k = fl.length := by omega
      rw [List.take_length] at HN
      have HF : Hid (hasFl fl c = false) := by show _ = _; unfold hasFl; exact decide_eq_false HN.out
      have u3 : decide (fl.length < fl.length) = false := decide_eq_false (by omega)
      have u1 : decide ((fl.length : Int) < (fl.length : Int)) = false := decide_eq_false (by omega)
      have u2 : ¬ ((fl.length : Int) < (fl.length : Int)) := by omega
      go_wp2_with fail
      go_ret
      rw [HF.out]
      exact ⟨rfl, HB1.out⟩
end Go.Proofs.YtchmpkgjjkfjcaaDoor
