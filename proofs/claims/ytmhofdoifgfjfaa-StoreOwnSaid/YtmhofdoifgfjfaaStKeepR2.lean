/-
  State: a keep, read. Conditions: as each contract says.
-/
import Derived.Test.YtmhofdoifgfjfaaStKeepR
set_option linter.unusedVariables false
set_option maxRecDepth 100000
namespace Go.Proofs.Ytmhofdoifgfjfaa
open Go.RowKit Base

def keepH : World → List Value → KeepD → Prop := pairH 4 envH (pairH 1 fnsH (pairH 1 trapsH pairsH))
theorem keep_st : St inner keepH := pair_st env_st (pair_st fns_st (pair_st traps_st pairs_st))
set_option maxHeartbeats 4000000 in
theorem keep_rk : RkH 37 keepC [.slice none 0 0, .slice none 0 0, .int .i64 0, .string ⟨#[]⟩, .slice none 0 0, .slice none 0 0, .slice none 0 0] (keepH) (inner) := by
  intro W F q l0 e0 g off cur t hr hc hz hg ht
  have HR0 := Lib.hid hr
  have HC0 := Lib.hid hc
  have HZ0 : Hid (Zer cur off ([.slice none 0 0, .slice none 0 0, .int .i64 0, .string ⟨#[]⟩] ++ ([.slice none 0 0] ++ ([.slice none 0 0] ++ ([.slice none 0 0]))))) := hz
  have HBd : Hid (off + 7 ≤ cur.length) := (zer_all hz).resolve_left (fun h => by cases h)
  have HG := Lib.hid hg
  have HT := Lib.hid ht
  clear hr hc hz hg ht
  go_enter Try.func37, Try.ntmps37
  go_wp2_with fail
  refine (around_rk W F q l0 e0 g off _ t HR0.out HC0.out (zer_fst HZ0.out) HG.out HT.out).mono ?_
  rintro r w1 ⟨rfl, hr, ⟨v1, hl, hc, hH⟩, hu⟩
  obtain ⟨⟨a1, l1, e1⟩, hd⟩ : ∃ x, (envC).dec l0 e0 = x := ⟨_, rfl⟩
  rw [hd] at hr hH
  have HD1 := Lib.hid hd
  have HR1 : Hid (RkI F q l1 e1 w1) := hr
  have HL1 : Hid (v1.length = 4) := hl
  have HK1 : Hid (Kept (inner) W w1) := Kept.up HR0.out HC0.out HT.out rfl rfl hu
  have HH1 : Hid ((envH) w1 v1 a1) := hH
  have HU1 := Lib.hid hu
  have HC1 : Hid (Cut g (splice cur off (v1)) t w1) := hc
  have HV1 := HL1
  have HZ1 : Hid (Zer (splice cur off v1) (off + 4) ([.slice none 0 0] ++ ([.slice none 0 0] ++ ([.slice none 0 0])))) := zer_step HZ0.out HL1.out rfl rfl
  clear hr hl hc hH hu hd
  go_wp2_with fail
  refine (row_fn_rk w1 F q l1 e1 g (off + 4) _ t HR1.out HC1.out (zer_fst HZ1.out) HG.out rfl).mono ?_
  rintro r w2 ⟨rfl, hr, ⟨v2, hl, hc, hH⟩, hu⟩
  obtain ⟨⟨a2, l2, e2⟩, hd⟩ : ∃ x, (rowC fnC).dec l1 e1 = x := ⟨_, rfl⟩
  rw [hd] at hr hH
  have HD2 := Lib.hid hd
  have HR2 : Hid (RkI F q l2 e2 w2) := hr
  have HL2 : Hid (v2.length = 1) := hl
  have HK2 : Hid (Kept (inner) w1 w2) := Kept.up HR1.out HC1.out HT.out rfl rfl hu
  have HH2 : Hid ((fnsH) w2 v2 a2) := hH
  have HU2 := Lib.hid (HU1.out.trans hu)
  rw [splice_two (k := 4) HV1.out rfl (by have := HBd.out; omega)] at hc
  have HC2 : Hid (Cut g (splice cur off (v1 ++ v2)) t w2) := hc
  have HV2 : Hid ((v1 ++ v2).length = 5) := by show _ = _; rw [List.length_append, HV1.out, HL2.out]
  have hz := zer_step (off' := off + 5) HZ1.out HL2.out rfl (by omega)
  rw [splice_two (k := 4) HV1.out rfl (by have := HBd.out; omega)] at hz
  have HZ2 : Hid (Zer (splice cur off (v1 ++ v2)) (off + 5) ([.slice none 0 0] ++ ([.slice none 0 0]))) := hz
  clear hz
  clear hr hl hc hH hu hd
  go_wp2_with fail
  refine (row_trap_rk w2 F q l2 e2 g (off + 5) _ t HR2.out HC2.out (zer_fst HZ2.out) HG.out rfl).mono ?_
  rintro r w3 ⟨rfl, hr, ⟨v3, hl, hc, hH⟩, hu⟩
  obtain ⟨⟨a3, l3, e3⟩, hd⟩ : ∃ x, (rowC trapC).dec l2 e2 = x := ⟨_, rfl⟩
  rw [hd] at hr hH
  have HD3 := Lib.hid hd
  have HR3 : Hid (RkI F q l3 e3 w3) := hr
  have HL3 : Hid (v3.length = 1) := hl
  have HK3 : Hid (Kept (inner) w2 w3) := Kept.up HR2.out HC2.out HT.out rfl rfl hu
  have HH3 : Hid ((trapsH) w3 v3 a3) := hH
  have HU3 := Lib.hid (HU2.out.trans hu)
  rw [splice_two (k := 5) HV2.out rfl (by have := HBd.out; omega)] at hc
  have HC3 : Hid (Cut g (splice cur off (v1 ++ v2 ++ v3)) t w3) := hc
  have HV3 : Hid ((v1 ++ v2 ++ v3).length = 6) := by show _ = _; rw [List.length_append, HV2.out, HL3.out]
  have hz := zer_step (off' := off + 6) HZ2.out HL3.out rfl (by omega)
  rw [splice_two (k := 5) HV2.out rfl (by have := HBd.out; omega)] at hz
  have HZ3 : Hid (Zer (splice cur off (v1 ++ v2 ++ v3)) (off + 6) ([.slice none 0 0])) := hz
  clear hz
  clear hr hl hc hH hu hd
  have x0 : w3.cell? ⟨g, off + 6, none⟩ = some (.slice none 0 0) := (HC3.out.cell (off + 6)).trans (HZ3.out 0 Nat.zero_lt_one)
  go_upto_region 4 with fail
  clear x0
  obtain ⟨nb, wb, hwb, hnbe, hk4, hbb⟩ : ∃ nb wb, w3.alloc (.cells #[.slice none 0 0] 32) = wb ∧ w3.heap.size = nb ∧ wb.heap[nb]? = some (.cells #[.slice none 0 0] 32) ∧ Below w3.heap.size w3 wb :=
    ⟨_, _, rfl, rfl, heap_alloc_new w3 _, (Below.refl w3.heap.size w3).alloc (Nat.le_refl _) _⟩
  have HBb := Lib.hid hbb
  have HK4b : Hid (Cut nb [.slice none 0 0] 32 wb) := hk4
  have HNb := Lib.hid hnbe
  have HRb := Lib.hid (HR3.out.below hbb)
  have HNF : Hid (F < nb) := by have := HR3.out.F_lt; show _ < _; omega
  rw [hwb, hnbe]
  clear hbb hk4 hwb hnbe
  go_wp2_with fail
  refine (row_pair_rk wb F q l3 e3 nb 0 [.slice none 0 0] 32 HRb.out HK4b.out (fun j hj => by match j, hj with | 0, _ => rfl) HNF.out rfl).mono ?_
  rintro r wc ⟨rfl, hr, ⟨v4, hl, hcb, hH⟩, hu⟩
  obtain ⟨u, xs, rfl, hown, heach⟩ := hH
  obtain ⟨ua, uc, rfl, _, _, _, _⟩ := ownsRow_slice hown
  have hgw := HC3.out.lt
  have hFg := HG.out
  have hqF := HR3.out.lt
  have hnb := HNb.out
  have HCg : Hid (Cut g (splice cur off (v1 ++ v2 ++ v3)) t wc) := (hu.block g (Nat.lt_of_lt_of_le hgw HBb.out.size) (by omega) (by omega) (by omega)).trans ((HBb.out.block g hgw).trans HC3.out)
  have HX0 : Hid ((splice cur off (v1 ++ v2 ++ v3))[off + 6]? = some (.slice none 0 0)) := HZ3.out 0 Nat.zero_lt_one
  have hkb : Cut nb [.slice ua ((rowC prC).dec l3 e3).1.length uc] 32 wc := hcb
  have HU3c : Hid (RUp F q g w3 wc) := ⟨hu.os.trans HBb.out.os, hu.tape.trans HBb.out.tape, hu.output.trans HBb.out.output, Nat.le_trans HBb.out.size hu.size, fun j hj a b _ => (hu.block j (Nat.lt_of_lt_of_le hj HBb.out.size) a b (by omega)).trans (HBb.out.block j hj)⟩
  have HRc := Lib.hid hr
  have HO := Lib.hid hown
  have HE := Lib.hid heach
  clear hr hl hcb hu hown heach hgw hFg hqF hnb
  obtain ⟨y0, y1⟩ := one_cell (show wc.heap[nb]? = some (.cells #[.slice ua ((rowC prC).dec l3 e3).1.length uc] 32) from hkb)
  have x0 : wc.cell? ⟨g, off + 6, none⟩ = some (.slice none 0 0) := (HCg.out.cell (off + 6)).trans HX0.out
  have x1 : wc.frozen? ⟨g, off + 6, none⟩ = false := HCg.out.frozen (off + 6)
  clear hkb
  go_wp2_with fail
  clear y0 y1 x0 x1
  have hgl : off + 6 < (splice cur off (v1 ++ v2 ++ v3)).length := (List.getElem?_eq_some_iff.1 HX0.out).1
  have hr := HRc.out.set HG.out (off + 6) (.slice ua ((rowC prC).dec l3 e3).1.length uc)
  have hc := HCg.out.set (off + 6) (.slice ua ((rowC prC).dec l3 e3).1.length uc)
  rw [← splice_one _ _ _ hgl] at hc
  have hH : pairsH (wc.setCell ⟨g, off + 6, none⟩ (.slice ua ((rowC prC).dec l3 e3).1.length uc)) [.slice ua ((rowC prC).dec l3 e3).1.length uc] ((rowC prC).dec l3 e3).1 := pairs_st.keep ⟨_, _, rfl, HO.out, HE.out⟩ (Kept.set HCg.out HT.out)
  have hu : RUp F q g w3 (wc.setCell ⟨g, off + 6, none⟩ (.slice ua ((rowC prC).dec l3 e3).1.length uc)) := HU3c.out.trans (RUp.of_grown (Ap.grown_set wc g (off + 6) _) (fun j hj => .inr (.inr (by injection hj with hj; exact hj.symm))))
  have hl : [Value.slice ua ((rowC prC).dec l3 e3).1.length uc].length = 1 := rfl
  generalize Value.slice ua ((rowC prC).dec l3 e3).1.length uc = u at *
  obtain ⟨w4, hw4⟩ : ∃ x, wc.setCell ⟨g, off + 6, none⟩ u = x := ⟨_, rfl⟩
  rw [hw4] at hr hc hH hu ⊢
  obtain ⟨v4, hv4⟩ : ∃ v, [u] = v := ⟨_, rfl⟩
  rw [hv4] at hc hH hl
  clear hw4 hv4 hgl
  obtain ⟨⟨a4, l4, e4⟩, hd⟩ : ∃ x, (rowC prC).dec l3 e3 = x := ⟨_, rfl⟩
  rw [hd] at hr hH
  have HD4 := Lib.hid hd
  have HR4 : Hid (RkI F q l4 e4 w4) := hr
  have HL4 : Hid (v4.length = 1) := hl
  have HK4 : Hid (Kept (inner) w3 w4) := Kept.up HR3.out HC3.out HT.out rfl rfl hu
  have HH4 : Hid ((pairsH) w4 v4 a4) := hH
  have HU4 := Lib.hid (HU3.out.trans hu)
  rw [splice_two (k := 6) HV3.out rfl (by have := HBd.out; omega)] at hc
  have HC4 : Hid (Cut g (splice cur off (v1 ++ v2 ++ v3 ++ v4)) t w4) := hc
  have HV4 : Hid ((v1 ++ v2 ++ v3 ++ v4).length = 7) := by show _ = _; rw [List.length_append, HV3.out, HL4.out]
  clear hr hl hc hH hu hd
  refine bodyPost_end (v := .tuple #[]) (results_none rfl _ _ _) rfl ?_
  have HD : Hid ((keepC).dec l0 e0 = ((a1, (a2, (a3, a4))), l4, e4)) := by
    show ((pairC (envC) (pairC (rowC fnC) (pairC (rowC trapC) (rowC prC))))).dec l0 e0 = _
    rw [pairC_dec HD1.out, pairC_dec HD2.out, pairC_dec HD3.out, HD4.out]
  have hc := HC4.out
  rw [List.append_assoc, List.append_assoc] at hc
  have hv := HV4.out
  rw [List.append_assoc, List.append_assoc] at hv
  rw [HD.out]
  exact ⟨rfl, HR4.out, ⟨_, hv, hc, v1, _, rfl, HL1.out, (env_st).keep HH1.out (HK2.out.trans (HK3.out.trans HK4.out)), v2, _, rfl, HL2.out, (fns_st).keep HH2.out (HK3.out.trans HK4.out), v3, _, rfl, HL3.out, (traps_st).keep HH3.out HK4.out, HH4.out⟩, HU4.out⟩
end Go.Proofs.Ytmhofdoifgfjfaa
