/-
  Word: tidy, walked. Conditions: as each law says.
-/
import Derived.Test.YtfjkgeeaeolkhaaDoorWoRow
import Derived.Deep.QuietTactic
import Derived.BigQuiet
set_option linter.unusedVariables false
set_option linter.unusedSimpArgs false
set_option maxRecDepth 100000
namespace Go.Proofs.YtfjkgeeaeolkhaaDoor
open Go.RowKit Base Wo

def OkL (m : Nat) (first : Bool) (l : List Prt) : Prop := ∀ i (h : i < l.length), (Fine l[i] ∧ TidyN m l[i].w ∨ first = true ∧ i = 0 ∧ l[i].k = 5 ∧ l[i].t = [] ∧ l[i].o = [] ∧ l[i].w = []) ∧ (∀ h2 : i + 1 < l.length, ¬ (l[i + 1].k ≤ 2 ∧ l[i].k = l[i + 1].k))
theorem okL_tidy {m : Nat} {l : List Prt} (h : TidyN m l) : OkL m false l := by
  match m, h with
  | 0, h => have h : l = [] := h
            subst h
            exact fun i hi => absurd hi (Nat.not_lt_zero _)
  | m + 1, h => exact fun i hi => ⟨.inl ⟨(h.1 _ (List.getElem_mem _)).1, tidy_up (h.1 _ (List.getElem_mem _)).2⟩, fun h2 => h.2 i h2⟩
/-- What stands in a row, of a part: five ways. -/
inductive Way (first : Bool) (i : Nat) : Nat → Nm → Nm → Nat → Prop where
  | lit {t} (h : t ≠ []) : Way first i 1 t [] 0
  | quo {t} : Way first i 2 t [] 0
  | par {t o n} : Way first i 3 t o n
  | ari {t} : Way first i 4 t [] 0
  | til (h : first = true) (hi : i = 0) : Way first i 5 [] [] 0
theorem way_of {m : Nat} {first : Bool} {l : List Prt} (h : OkL m first l) (i : Nat) (hi : i < l.length) : Way first i l[i].k l[i].t l[i].o l[i].w.length ∧ TidyN m l[i].w := by
  rcases (h i hi).1 with ⟨hf, hw⟩ | ⟨h1, h2, h3, h4, h5, h6⟩
  · refine ⟨?_, hw⟩
    have h1 := hf.lo
    have h2 := hf.hi
    have h3 := hf.op
    have h4 := hf.tx
    generalize l[i].k = k at *
    match k, h1, h2 with
    | 1, _, _ => obtain ⟨e1, e2⟩ := h3 (by decide); rw [e1, e2]; exact .lit (h4 rfl)
    | 2, _, _ => obtain ⟨e1, e2⟩ := h3 (by decide); rw [e1, e2]; exact .quo
    | 3, _, _ => exact .par
    | 4, _, _ => obtain ⟨e1, e2⟩ := h3 (by decide); rw [e1, e2]; exact .ari
  · rw [h3, h4, h5, h6]
    exact ⟨.til h1 h2, tidy_nil _⟩
theorem str_empty : str [] = ⟨#[]⟩ := rfl
theorem str_ne {t : Nm} (h : t ≠ []) : ((str t).toList == []) = false := by rw [str_toList]; simpa using h
def TidyIH (n : Nat) : Prop := ∀ (P : Nat → Prop) (W : World) (u : Value) (l : List Prt) (first : Bool) (m : Nat), TreeH n P W u l → OkL m first l → Calls Tryd.prog 10 #[u, .bool first] W fun r W' => r = .returned (.bool true) ∧ Below W.heap.size W W'
theorem tidy_zero : TidyIH 0 := fun P W u l first m h hk => by
  obtain ⟨rfl, rfl⟩ := h
  go_enter Tryd.func10, Tryd.ntmps10
  go_wp2_with fail
  go_loopw [5] (fun v5 wr => v5 = .int .i64 0 ∧ wr = W) (fun _ _ => 0)
  case atStart => exact ⟨rfl, rfl⟩
  case round =>
    obtain ⟨rfl, hwr⟩ := hrel
    obtain rfl := hwr.symm
    go_wp2_with fail
    go_ret
    exact ⟨rfl, Below.refl _ _⟩
set_option maxHeartbeats 8000000 in
theorem tidy_step {n : Nat} (ih : TidyIH n) (P : Nat → Prop) (W : World) (u : Value) (l : List Prt) (first : Bool) (m : Nat) (h : TreeH (n + 1) P W u l) (hk : OkL m first l) : Calls Tryd.prog 10 #[u, .bool first] W fun r W' => r = .returned (.bool true) ∧ Below W.heap.size W W' := by
  obtain ⟨ua, uc, rfl⟩ := tree_slice h
  have HH := Lib.hid h
  have HK := Lib.hid hk
  have HIH : Hid (TidyIH n) := ih
  clear h hk ih
  go_enter Tryd.func10, Tryd.ntmps10
  go_wp2_with fail
  go_loopw [5] (fun v5 wr => ∃ i : Nat, i ≤ l.length ∧ v5 = .int .i64 (i : Int) ∧ Below W.heap.size W wr) (fun v5 _ => l.length - (intOf v5).toNat)
  case atStart => exact ⟨0, Nat.zero_le _, rfl, Below.refl _ _⟩
  case round =>
    obtain ⟨i, hi, rfl, hb⟩ := hrel
    have HB := Lib.hid hb
    by_cases hlt : i < l.length
    case neg =>
      have a3 : decide (i < l.length) = false := decide_eq_false (by omega)
      have a1 : decide ((i : Int) < (l.length : Int)) = false := decide_eq_false (by omega)
      have a2 : ¬ ((i : Int) < (l.length : Int)) := by omega
      clear hb
      go_wp2_with fail
      go_ret
      exact ⟨rfl, HB.out⟩
    have ht := tree_below HH.out hb
    obtain ⟨g, c, e, _, hgl, hlm, hat⟩ := tree_at ht (by omega)
    injection e with e1 _ e3
    subst e1
    subst e3
    have hp := hat i hlt
    obtain ⟨v, p4, hv⟩ := hp.c4
    have HV := Lib.hid hv
    obtain ⟨hway, hwt⟩ := way_of HK.out i hlt
    have HWt := Lib.hid hwt
    have hadj : 0 < i → ∃ q : Nat, wr.cell? ⟨g, (i - 1) * 5, none⟩ = some (.int .i64 (q : Int)) ∧ ¬ (l[i].k ≤ 2 ∧ q = l[i].k) := fun h0 => by
      refine ⟨l[i - 1].k, (hat (i - 1) (by omega)).c0, ?_⟩
      have := (HK.out (i - 1) (by omega)).2 (by omega)
      simpa only [Nat.sub_add_cancel h0] using this
    obtain ⟨p0, p1, p2, p3, _⟩ := hp
    have xI : ∀ (kd : IntKind) (w' : World), (Instr.indexAt 23 (.slice (some ⟨g, 0, none⟩) l.length uc) (.int kd (i : Int))).run Tryd.prog w' = .ok (.pointer (some ⟨g, i * 5, none⟩)) w' := fun kd w' => idx_pt i hlt kd w'
    have xJ : 0 < i → ∀ (kd : IntKind) (w' : World), (Instr.indexAt 23 (.slice (some ⟨g, 0, none⟩) l.length uc) (.int kd ((i : Int) - 1))).run Tryd.prog w' = .ok (.pointer (some ⟨g, (i - 1) * 5, none⟩)) w' := fun h0 kd w' => by
      have := idx_pt (g := g) (n := l.length) (c := uc) (i - 1) (by omega) kd w'
      rw [show ((i - 1 : Nat) : Int) = (i : Int) - 1 by omega] at this
      exact this
    obtain ⟨va, vc, rfl⟩ := tree_slice hv
    generalize l[i].k = pk at *
    generalize l[i].t = pt at *
    generalize l[i].o = po at *
    generalize l[i].q = pq at *
    generalize hwl : l[i].w.length = wl at *
    have HWl := Lib.hid hwl
    have HAdj := Lib.hid hadj
    have HXJ := Lib.hid xJ
    have HWay := Lib.hid hway
    have hll : (l.length : Int) ≤ 9223372036854775807 := by unfold maxLen at hlm; omega
    have a3 : decide (i < l.length) = true := decide_eq_true (by omega)
    have a1 : decide ((i : Int) < (l.length : Int)) = true := decide_eq_true (by omega)
    have a2 : (i : Int) < (l.length : Int) := by omega
    clear hb ht hv hwt hadj xJ hway hwl hat hlm hgl
    obtain ⟨w2, hw2⟩ : ∃ w2, wr.alloc (.cells #[.int .i64 (pk : Int), .string (str pt), .string (str po), .bool pq, .slice va wl vc] ptT) = w2 := ⟨_, rfl⟩
    have hb2 : Below wr.heap.size wr w2 := by rw [← hw2]; exact (Below.refl _ _).alloc (Nat.le_refl _) _
    have hc2 : w2.heap[wr.heap.size]? = some (.cells #[.int .i64 (pk : Int), .string (str pt), .string (str po), .bool pq, .slice va wl vc] ptT) := by rw [← hw2]; exact heap_alloc_new _ _
    have HW2 := Lib.hid hw2
    have HB2 := Lib.hid hb2
    obtain ⟨tb, htb⟩ : ∃ tb, wr.heap.size = tb := ⟨_, rfl⟩
    rw [htb] at hc2
    have HTb := Lib.hid htb
    have HC2 := Lib.hid hc2
    clear hw2 hb2 hc2 htb
    go_upto_region 5 with fail
    rw [HW2.out, HTb.out]
    obtain ⟨⟨c0, c1, c2, c3, c4⟩, f0, f1, f2, f3, f4⟩ := pt_cells HC2.out
    clear p0 p1 p2 p3 f0 f1 f2 f3 f4
    go_cut [69] (fun s69 wx => s69 = .bool false ∧ wx = w2)
    case first =>
      have hway := HWay.out
      have e0 : (str ([] : Nm)).toList = [] := str_toList _
      clear xI a1 a2
      cases hway with
      | lit h =>
        have ne := str_ne h
        have ne2 := fun e => h (List.eq_nil_of_length_eq_zero (by have := congrArg List.length (show (str pt).toList = [] from e); rw [str_toList] at this; exact this))
        go_wp2_with fail
        go_meet
        exact ⟨rfl, rfl⟩
      | quo =>
        go_wp2_with fail
        go_meet
        exact ⟨rfl, rfl⟩
      | par =>
        go_wp2_with fail
        go_meet
        exact ⟨rfl, rfl⟩
      | ari =>
        go_wp2_with fail
        go_meet
        exact ⟨rfl, rfl⟩
      | til h hi =>
        subst h
        subst hi
        go_wp2_with fail
        go_meet
        exact ⟨rfl, rfl⟩
    case rest =>
      obtain ⟨rfl, hwc⟩ := hcut
      have hwc2 := hwc.symm
      subst hwc2
      clear hwc
      go_upto_region 7 with fail
      go_cut [87] (fun s87 wx => s87 = .bool false ∧ Below w2.heap.size w2 wx)
      case first =>
        by_cases h0 : 0 < i
        case neg =>
          have z1 : decide ((0 : Int) < (i : Int)) = false := decide_eq_false (by omega)
          have z2 : ¬ ((0 : Int) < (i : Int)) := by omega
          go_quiet (fail)
          go_wp2_with fail
          go_meet
          exact ⟨rfl, drewN_below _ _⟩
        obtain ⟨q, hq, hne⟩ := HAdj.out h0
        have hq2 : w2.cell? ⟨g, (i - 1) * 5, none⟩ = some (.int .i64 (q : Int)) := cell_below HB2.out (Nat.le_refl _) hq
        have xJ := HXJ.out h0
        have z1 : decide ((0 : Int) < (i : Int)) = true := decide_eq_true (by omega)
        have z2 : (0 : Int) < (i : Int) := by omega
        by_cases h2 : pk ≤ 2
        case neg =>
          have k1 : decide ((pk : Int) ≤ 2) = false := decide_eq_false (by omega)
          have k2 : ¬ (pk : Int) ≤ 2 := by omega
          clear hne h2 hq
          go_quiet (fail)
          go_wp2_with fail
          go_meet
          exact ⟨rfl, drewN_below _ _⟩
        have k1 : decide ((pk : Int) ≤ 2) = true := decide_eq_true (by omega)
        have k2 : (pk : Int) ≤ 2 := by omega
        have k3 : ((q : Int) == (pk : Int)) = false := by rw [beq_eq_false_iff_ne]; intro e; exact hne ⟨h2, by omega⟩
        clear hne h2 hq
        go_quiet (fail)
        go_wp2_with fail
        go_meet
        exact ⟨rfl, drewN_below _ _⟩
      case rest =>
        obtain ⟨rfl, hbc⟩ := hcut
        have hb3 := HB2.out.trans (hbc.mono HB2.out.size)
        have hc3 := (hbc.block tb (Array.getElem?_eq_some_iff.1 HC2.out).1).trans HC2.out
        have HB3 := Lib.hid hb3
        obtain ⟨⟨d0, d1, d2, d3, d4⟩, _⟩ := pt_cells hc3
        have HCa := Lib.hid (HIH.out P wc _ _ false _ (tree_below HV.out hb3) (okL_tidy HWt.out))
        clear hbc hb3 hc3 c0 c1 c2 c3 c4 d0 d1 d2 d3 xI
        go_wp2_with fail
        refine HCa.out.mono ?_
        rintro r w4 ⟨rfl, hb4⟩
        have HB4 : Hid (Below W.heap.size W w4) := HB.out.trans ((HB3.out.trans (hb4.mono HB3.out.size)).mono HB.out.size)
        clear hb4 d4
        go_wp2_with fail
        go_roundw
        case rel => exact ⟨i + 1, by omega, by go_num, HB4.out⟩
        case measure => simp [intOf]; omega
theorem tidy_calls : ∀ n, TidyIH n
  | 0 => tidy_zero
  | n + 1 => fun P W u l first m h hk => tidy_step (tidy_calls n) P W u l first m h hk
end Go.Proofs.YtfjkgeeaeolkhaaDoor
