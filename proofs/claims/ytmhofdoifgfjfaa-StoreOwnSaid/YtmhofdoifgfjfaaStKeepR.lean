/-
  State: an environment, a request, an answer, read. Conditions: as each contract says.
-/
import Derived.Test.YtmhofdoifgfjfaaStRowR
set_option linter.unusedVariables false
set_option maxRecDepth 100000
namespace Go.Proofs.Ytmhofdoifgfjfaa
open Go.RowKit Base

theorem RkPost.h {α : Type} {V : α → List Value} {a : α} {k : Nat} {F q g o : Nat} {cur : List Value} {t : TypeId} {l : Nm} {e : Int} {W : World} {r : Ending} {W' : World} (h : RkPost F q g o cur (V a) t l e W r W') (hl : (V a).length = k) : RkPostH F q g o cur k t (flatH V) a l e W r W' :=
  ⟨h.1, h.2.1, ⟨_, hl, h.2.2.1, rfl⟩, h.2.2.2⟩
abbrev numR : RkH 45 numC [.int .i64 0] (flatH numV) noT := num_rk.h (fun _ => rfl)
abbrev num64R : RkH 61 numC [.int .i64 0] (flatH numV) noT := num64_rk.h (fun _ => rfl)
theorem txt1_rkh (W : World) (F q : Nat) (l : Nm) (e : Int) (g off : Nat) (cur : List Value) (t : TypeId) (h : RkI F q l e W) (hc : Cut g cur t W) (h0 : Zer cur off [.string ⟨#[]⟩]) (hg : F < g) (ht : noT t = false) :
    Calls Try.prog 60 #[.pointer (some ⟨F, 0, none⟩), .slice (some ⟨W.heap.size, 0, none⟩) 1 1] (W.alloc (.cells #[.pointer (some ⟨g, off, none⟩)] 134))
      (RkPostH F q g off cur 1 t (flatH txtV) (txtC.dec l e).1 (txtC.dec l e).2.1 (txtC.dec l e).2.2 W) :=
  (txt1_rk W F q l e g off cur t h hc h0 hg).mono fun _ _ h => RkPost.h (V := txtV) h rfl
/-- Many of one sort, as a pair within a pair. -/
def Many {α β : Type} (c : Cd α) (f : α → Value) (n : Nat) (d : Cd β) (V : β → List Value) : Prop := ∀ l e, (manyD c n l e).1.map f = V (d.dec l e).1 ∧ (manyD c n l e).2 = (d.dec l e).2
theorem many_one {α : Type} (c : Cd α) (f : α → Value) : Many c f 1 c fun a => [f a] := fun l e => ⟨rfl, rfl⟩
theorem many_more {α β : Type} {c : Cd α} {f : α → Value} {n : Nat} {d : Cd β} {V : β → List Value} (h : Many c f n d V) : Many c f (n + 1) (pairC c d) fun p => f p.1 :: V p.2 := fun l e => by
  refine ⟨?_, ?_⟩
  · show f _ :: List.map f (manyD c n (c.dec l e).2.1 (c.dec l e).2.2).1 = _
    rw [(h _ _).1]
    rfl
  · show (manyD c n (c.dec l e).2.1 (c.dec l e).2.2).2 = _
    rw [(h _ _).2]
    rfl
theorem rk_nums_h {β : Type} {d : Cd β} {V : β → List Value} {m : Nat} (hm : Many numC iv m d V) (W : World) (F q : Nat) (l : Nm) (e : Int) (g off : Nat) (cur : List Value) (t : TypeId) (b : Nat) (h : RkI F q l e W) (hc : Cut g cur t W) (h0 : ∀ j, j < m → cur[off + j]? = some (.int .i64 0)) (hg : F < g)
    (hb : Pts b g off m 107 W) (hbF : F < b) (hbg : b ≠ g) (hn : m ≤ 1000) :
    Calls Try.prog 46 #[.pointer (some ⟨F, 0, none⟩), .slice (some ⟨b, 0, none⟩) m m] W (RkPost F q g off cur (V (d.dec l e).1) t (d.dec l e).2.1 (d.dec l e).2.2 W) := by
  have h1 := rk_numbers_calls W F q l e g off m cur t b h hc h0 hg hb hbF hbg hn
  rw [(hm l e).1, (hm l e).2] at h1
  exact h1
theorem rk_bits_h {β : Type} {d : Cd β} {V : β → List Value} {m : Nat} (hm : Many bitC bv1 m d V) (W : World) (F q : Nat) (l : Nm) (e : Int) (g off : Nat) (cur : List Value) (t : TypeId) (b : Nat) (h : RkI F q l e W) (hc : Cut g cur t W) (h0 : ∀ j, j < m → cur[off + j]? = some (.bool false)) (hg : F < g)
    (hb : Pts b g off m 109 W) (hbF : F < b) (hbg : b ≠ g) (hn : m ≤ 1000) :
    Calls Try.prog 47 #[.pointer (some ⟨F, 0, none⟩), .slice (some ⟨b, 0, none⟩) m m] W (RkPost F q g off cur (V (d.dec l e).1) t (d.dec l e).2.1 (d.dec l e).2.2 W) := by
  have h1 := rk_truths_calls W F q l e g off m cur t b h hc h0 hg hb hbF hbg hn
  rw [(hm l e).1, (hm l e).2] at h1
  exact h1
theorem bit1_rkh (W : World) (F q : Nat) (l : Nm) (e : Int) (g off : Nat) (cur : List Value) (t : TypeId) (h : RkI F q l e W) (hc : Cut g cur t W) (h0 : Zer cur off [.bool false]) (hg : F < g) (ht : noT t = false) :
    Calls Try.prog 47 #[.pointer (some ⟨F, 0, none⟩), .slice (some ⟨W.heap.size, 0, none⟩) 1 1] (W.alloc (.cells #[.pointer (some ⟨g, off, none⟩)] 109))
      (RkPostH F q g off cur 1 t (flatH bitV) (bitC.dec l e).1 (bitC.dec l e).2.1 (bitC.dec l e).2.2 W) := by
  have hb := (Below.refl W.heap.size W).alloc (Nat.le_refl _) (.cells #[.pointer (some ⟨g, off, none⟩)] 109)
  have hgw := hc.lt
  refine (rk_bits_h (many_one bitC bv1) _ F q l e g off cur t W.heap.size (h.below hb) ((hb.block g hgw).trans hc) (fun j hj => ?_) hg (pts1 W g off _) h.F_lt (by omega) (by decide)).mono ?_
  · match j, hj with
    | 0, _ => exact h0 0 (by decide)
  rintro r w' ⟨rfl, hr, hcu, hu⟩
  exact ⟨rfl, hr, ⟨_, rfl, hcu, rfl⟩, (RUp.of_below hb).trans hu⟩
/-! ### What the cells denote -/
abbrev strsH := RowH 1 9 (flatH txtV)
abbrev varsH := RowH 2 155 (flatH varV)
abbrev fnsH := RowH 3 121 (flatH fnV)
abbrev trapsH := RowH 2 126 (flatH trapV)
abbrev pairsH := RowH 2 131 (flatH prV)
abbrev int64sH := RowH 1 2 (flatH numV)
abbrev cellsH := RowH 2 143 (flatH varV)
abbrev intsH := RowH 1 3 (flatH numV)
theorem strs_st : St inner strsH := row_st (flat_st _ _) rfl
theorem vars_st : St inner varsH := row_st (flat_st _ _) rfl
theorem fns_st : St inner fnsH := row_st (flat_st _ _) rfl
theorem traps_st : St inner trapsH := row_st (flat_st _ _) rfl
theorem pairs_st : St inner pairsH := row_st (flat_st _ _) rfl
theorem int64s_st : St inner int64sH := row_st (flat_st _ _) rfl
theorem cells_st : St inner cellsH := row_st (flat_st _ _) rfl
theorem ints_st : St inner2 intsH := row_st (flat_st _ _) rfl
def envH : World → List Value → EnvD → Prop := pairH 1 varsH (pairH 1 strsH (pairH 1 (flatH numV) (flatH txtV)))
theorem env_st : St inner envH := pair_st vars_st (pair_st strs_st (pair_st (flat_st _ _) (flat_st _ _)))
def reqH : World → List Value → ReqD → Prop := pairH 1 (flatH numV) (pairH 1 (flatH numV) (pairH 1 (flatH numV) (pairH 1 (flatH txtV) strsH)))
theorem req_st : St inner reqH := pair_st (flat_st _ _) (pair_st (flat_st _ _) (pair_st (flat_st _ _) (pair_st (flat_st _ _) strs_st)))
def ansH : World → List Value → AnsD → Prop := pairH 2 (flatH num2V) (pairH 1 (flatH numV) (pairH 1 (flatH numV) (pairH 1 (flatH txtV) (pairH 1 strsH (flatH numV)))))
theorem ans_st : St inner ansH := pair_st (flat_st _ _) (pair_st (flat_st _ _) (pair_st (flat_st _ _) (pair_st (flat_st _ _) (pair_st strs_st (flat_st _ _)))))
set_option maxHeartbeats 4000000 in
theorem around_rk : RkH 53 envC [.slice none 0 0, .slice none 0 0, .int .i64 0, .string ⟨#[]⟩] (envH) (inner) := by
  intro W F q l0 e0 g off cur t hr hc hz hg ht
  have HR0 := Lib.hid hr
  have HC0 := Lib.hid hc
  have HZ0 : Hid (Zer cur off ([.slice none 0 0] ++ ([.slice none 0 0] ++ ([.int .i64 0] ++ ([.string ⟨#[]⟩]))))) := hz
  have HBd : Hid (off + 4 ≤ cur.length) := (zer_all hz).resolve_left (fun h => by cases h)
  have HG := Lib.hid hg
  have HT := Lib.hid ht
  clear hr hc hz hg ht
  go_enter Try.func53, Try.ntmps53
  go_wp2_with fail
  refine (row_var_rk W F q l0 e0 g off _ t HR0.out HC0.out (zer_fst HZ0.out) HG.out rfl).mono ?_
  rintro r w1 ⟨rfl, hr, ⟨v1, hl, hc, hH⟩, hu⟩
  obtain ⟨⟨a1, l1, e1⟩, hd⟩ : ∃ x, (rowC varC).dec l0 e0 = x := ⟨_, rfl⟩
  rw [hd] at hr hH
  have HD1 := Lib.hid hd
  have HR1 : Hid (RkI F q l1 e1 w1) := hr
  have HL1 : Hid (v1.length = 1) := hl
  have HK1 : Hid (Kept (inner) W w1) := Kept.up HR0.out HC0.out HT.out rfl rfl hu
  have HH1 : Hid ((varsH) w1 v1 a1) := hH
  have HU1 := Lib.hid hu
  have HC1 : Hid (Cut g (splice cur off (v1)) t w1) := hc
  have HV1 := HL1
  have HZ1 : Hid (Zer (splice cur off v1) (off + 1) ([.slice none 0 0] ++ ([.int .i64 0] ++ ([.string ⟨#[]⟩])))) := zer_step HZ0.out HL1.out rfl rfl
  clear hr hl hc hH hu hd
  go_wp2_with fail
  refine (row_string_rk w1 F q l1 e1 g (off + 1) _ t HR1.out HC1.out (zer_fst HZ1.out) HG.out rfl).mono ?_
  rintro r w2 ⟨rfl, hr, ⟨v2, hl, hc, hH⟩, hu⟩
  obtain ⟨⟨a2, l2, e2⟩, hd⟩ : ∃ x, (rowC txtC).dec l1 e1 = x := ⟨_, rfl⟩
  rw [hd] at hr hH
  have HD2 := Lib.hid hd
  have HR2 : Hid (RkI F q l2 e2 w2) := hr
  have HL2 : Hid (v2.length = 1) := hl
  have HK2 : Hid (Kept (inner) w1 w2) := Kept.up HR1.out HC1.out HT.out rfl rfl hu
  have HH2 : Hid ((strsH) w2 v2 a2) := hH
  have HU2 := Lib.hid (HU1.out.trans hu)
  rw [splice_two (k := 1) HV1.out rfl (by have := HBd.out; omega)] at hc
  have HC2 : Hid (Cut g (splice cur off (v1 ++ v2)) t w2) := hc
  have HV2 : Hid ((v1 ++ v2).length = 2) := by show _ = _; rw [List.length_append, HV1.out, HL2.out]
  have hz := zer_step (off' := off + 2) HZ1.out HL2.out rfl (by omega)
  rw [splice_two (k := 1) HV1.out rfl (by have := HBd.out; omega)] at hz
  have HZ2 : Hid (Zer (splice cur off (v1 ++ v2)) (off + 2) ([.int .i64 0] ++ ([.string ⟨#[]⟩]))) := hz
  clear hz
  clear hr hl hc hH hu hd
  go_wp2_with fail
  refine (numR w2 F q l2 e2 g (off + 2) _ t HR2.out HC2.out (zer_fst HZ2.out) HG.out rfl).mono ?_
  rintro r w3 ⟨rfl, hr, ⟨v3, hl, hc, hH⟩, hu⟩
  obtain ⟨⟨a3, l3, e3⟩, hd⟩ : ∃ x, (numC).dec l2 e2 = x := ⟨_, rfl⟩
  rw [hd] at hr hH
  have HD3 := Lib.hid hd
  have HR3 : Hid (RkI F q l3 e3 w3) := hr
  have HL3 : Hid (v3.length = 1) := hl
  have HK3 : Hid (Kept (inner) w2 w3) := Kept.up HR2.out HC2.out HT.out rfl rfl hu
  have HH3 : Hid ((flatH numV) w3 v3 a3) := hH
  have HU3 := Lib.hid (HU2.out.trans hu)
  rw [splice_two (k := 2) HV2.out rfl (by have := HBd.out; omega)] at hc
  have HC3 : Hid (Cut g (splice cur off (v1 ++ v2 ++ v3)) t w3) := hc
  have HV3 : Hid ((v1 ++ v2 ++ v3).length = 3) := by show _ = _; rw [List.length_append, HV2.out, HL3.out]
  have hz := zer_step (off' := off + 3) HZ2.out HL3.out rfl (by omega)
  rw [splice_two (k := 2) HV2.out rfl (by have := HBd.out; omega)] at hz
  have HZ3 : Hid (Zer (splice cur off (v1 ++ v2 ++ v3)) (off + 3) ([.string ⟨#[]⟩])) := hz
  clear hz
  clear hr hl hc hH hu hd
  go_wp2_with fail
  refine (txt1_rkh w3 F q l3 e3 g (off + 3) _ t HR3.out HC3.out HZ3.out HG.out rfl).mono ?_
  rintro r w4 ⟨rfl, hr, ⟨v4, hl, hc, hH⟩, hu⟩
  obtain ⟨⟨a4, l4, e4⟩, hd⟩ : ∃ x, (txtC).dec l3 e3 = x := ⟨_, rfl⟩
  rw [hd] at hr hH
  have HD4 := Lib.hid hd
  have HR4 : Hid (RkI F q l4 e4 w4) := hr
  have HL4 : Hid (v4.length = 1) := hl
  have HK4 : Hid (Kept (inner) w3 w4) := Kept.up HR3.out HC3.out HT.out rfl rfl hu
  have HH4 : Hid ((flatH txtV) w4 v4 a4) := hH
  have HU4 := Lib.hid (HU3.out.trans hu)
  rw [splice_two (k := 3) HV3.out rfl (by have := HBd.out; omega)] at hc
  have HC4 : Hid (Cut g (splice cur off (v1 ++ v2 ++ v3 ++ v4)) t w4) := hc
  have HV4 : Hid ((v1 ++ v2 ++ v3 ++ v4).length = 4) := by show _ = _; rw [List.length_append, HV3.out, HL4.out]
  clear hr hl hc hH hu hd
  go_wp2_with fail
  refine bodyPost_end (v := .tuple #[]) (results_none rfl _ _ _) rfl ?_
  have HD : Hid ((envC).dec l0 e0 = ((a1, (a2, (a3, a4))), l4, e4)) := by
    show ((pairC (rowC varC) (pairC (rowC txtC) (pairC (numC) (txtC))))).dec l0 e0 = _
    rw [pairC_dec HD1.out, pairC_dec HD2.out, pairC_dec HD3.out, HD4.out]
  have hc := HC4.out
  rw [List.append_assoc, List.append_assoc] at hc
  have hv := HV4.out
  rw [List.append_assoc, List.append_assoc] at hv
  rw [HD.out]
  exact ⟨rfl, HR4.out, ⟨_, hv, hc, v1, _, rfl, HL1.out, (vars_st).keep HH1.out (HK2.out.trans (HK3.out.trans HK4.out)), v2, _, rfl, HL2.out, (strs_st).keep HH2.out (HK3.out.trans HK4.out), v3, _, rfl, HL3.out, HH3.out, HH4.out⟩, HU4.out⟩
set_option maxHeartbeats 4000000 in
theorem request_rk : RkH 42 reqC [.int .i64 0, .int .i64 0, .int .i64 0, .string ⟨#[]⟩, .slice none 0 0] (reqH) (inner) := by
  intro W F q l0 e0 g off cur t hr hc hz hg ht
  have HR0 := Lib.hid hr
  have HC0 := Lib.hid hc
  have HZ0 : Hid (Zer cur off ([.int .i64 0] ++ ([.int .i64 0] ++ ([.int .i64 0] ++ ([.string ⟨#[]⟩] ++ ([.slice none 0 0])))))) := hz
  have HBd : Hid (off + 5 ≤ cur.length) := (zer_all hz).resolve_left (fun h => by cases h)
  have HG := Lib.hid hg
  have HT := Lib.hid ht
  clear hr hc hz hg ht
  go_enter Try.func42, Try.ntmps42
  go_wp2_with fail
  refine (numR W F q l0 e0 g off _ t HR0.out HC0.out (zer_fst HZ0.out) HG.out rfl).mono ?_
  rintro r w1 ⟨rfl, hr, ⟨v1, hl, hc, hH⟩, hu⟩
  obtain ⟨⟨a1, l1, e1⟩, hd⟩ : ∃ x, (numC).dec l0 e0 = x := ⟨_, rfl⟩
  rw [hd] at hr hH
  have HD1 := Lib.hid hd
  have HR1 : Hid (RkI F q l1 e1 w1) := hr
  have HL1 : Hid (v1.length = 1) := hl
  have HK1 : Hid (Kept (inner) W w1) := Kept.up HR0.out HC0.out HT.out rfl rfl hu
  have HH1 : Hid ((flatH numV) w1 v1 a1) := hH
  have HU1 := Lib.hid hu
  have HC1 : Hid (Cut g (splice cur off (v1)) t w1) := hc
  have HV1 := HL1
  have HZ1 : Hid (Zer (splice cur off v1) (off + 1) ([.int .i64 0] ++ ([.int .i64 0] ++ ([.string ⟨#[]⟩] ++ ([.slice none 0 0]))))) := zer_step HZ0.out HL1.out rfl rfl
  clear hr hl hc hH hu hd
  go_wp2_with fail
  refine (num64R w1 F q l1 e1 g (off + 1) _ t HR1.out HC1.out (zer_fst HZ1.out) HG.out rfl).mono ?_
  rintro r w2 ⟨rfl, hr, ⟨v2, hl, hc, hH⟩, hu⟩
  obtain ⟨⟨a2, l2, e2⟩, hd⟩ : ∃ x, (numC).dec l1 e1 = x := ⟨_, rfl⟩
  rw [hd] at hr hH
  have HD2 := Lib.hid hd
  have HR2 : Hid (RkI F q l2 e2 w2) := hr
  have HL2 : Hid (v2.length = 1) := hl
  have HK2 : Hid (Kept (inner) w1 w2) := Kept.up HR1.out HC1.out HT.out rfl rfl hu
  have HH2 : Hid ((flatH numV) w2 v2 a2) := hH
  have HU2 := Lib.hid (HU1.out.trans hu)
  rw [splice_two (k := 1) HV1.out rfl (by have := HBd.out; omega)] at hc
  have HC2 : Hid (Cut g (splice cur off (v1 ++ v2)) t w2) := hc
  have HV2 : Hid ((v1 ++ v2).length = 2) := by show _ = _; rw [List.length_append, HV1.out, HL2.out]
  have hz := zer_step (off' := off + 2) HZ1.out HL2.out rfl (by omega)
  rw [splice_two (k := 1) HV1.out rfl (by have := HBd.out; omega)] at hz
  have HZ2 : Hid (Zer (splice cur off (v1 ++ v2)) (off + 2) ([.int .i64 0] ++ ([.string ⟨#[]⟩] ++ ([.slice none 0 0])))) := hz
  clear hz
  clear hr hl hc hH hu hd
  go_wp2_with fail
  refine (num64R w2 F q l2 e2 g (off + 2) _ t HR2.out HC2.out (zer_fst HZ2.out) HG.out rfl).mono ?_
  rintro r w3 ⟨rfl, hr, ⟨v3, hl, hc, hH⟩, hu⟩
  obtain ⟨⟨a3, l3, e3⟩, hd⟩ : ∃ x, (numC).dec l2 e2 = x := ⟨_, rfl⟩
  rw [hd] at hr hH
  have HD3 := Lib.hid hd
  have HR3 : Hid (RkI F q l3 e3 w3) := hr
  have HL3 : Hid (v3.length = 1) := hl
  have HK3 : Hid (Kept (inner) w2 w3) := Kept.up HR2.out HC2.out HT.out rfl rfl hu
  have HH3 : Hid ((flatH numV) w3 v3 a3) := hH
  have HU3 := Lib.hid (HU2.out.trans hu)
  rw [splice_two (k := 2) HV2.out rfl (by have := HBd.out; omega)] at hc
  have HC3 : Hid (Cut g (splice cur off (v1 ++ v2 ++ v3)) t w3) := hc
  have HV3 : Hid ((v1 ++ v2 ++ v3).length = 3) := by show _ = _; rw [List.length_append, HV2.out, HL3.out]
  have hz := zer_step (off' := off + 3) HZ2.out HL3.out rfl (by omega)
  rw [splice_two (k := 2) HV2.out rfl (by have := HBd.out; omega)] at hz
  have HZ3 : Hid (Zer (splice cur off (v1 ++ v2 ++ v3)) (off + 3) ([.string ⟨#[]⟩] ++ ([.slice none 0 0]))) := hz
  clear hz
  clear hr hl hc hH hu hd
  go_wp2_with fail
  refine (txt1_rkh w3 F q l3 e3 g (off + 3) _ t HR3.out HC3.out (zer_fst HZ3.out) HG.out rfl).mono ?_
  rintro r w4 ⟨rfl, hr, ⟨v4, hl, hc, hH⟩, hu⟩
  obtain ⟨⟨a4, l4, e4⟩, hd⟩ : ∃ x, (txtC).dec l3 e3 = x := ⟨_, rfl⟩
  rw [hd] at hr hH
  have HD4 := Lib.hid hd
  have HR4 : Hid (RkI F q l4 e4 w4) := hr
  have HL4 : Hid (v4.length = 1) := hl
  have HK4 : Hid (Kept (inner) w3 w4) := Kept.up HR3.out HC3.out HT.out rfl rfl hu
  have HH4 : Hid ((flatH txtV) w4 v4 a4) := hH
  have HU4 := Lib.hid (HU3.out.trans hu)
  rw [splice_two (k := 3) HV3.out rfl (by have := HBd.out; omega)] at hc
  have HC4 : Hid (Cut g (splice cur off (v1 ++ v2 ++ v3 ++ v4)) t w4) := hc
  have HV4 : Hid ((v1 ++ v2 ++ v3 ++ v4).length = 4) := by show _ = _; rw [List.length_append, HV3.out, HL4.out]
  have hz := zer_step (off' := off + 4) HZ3.out HL4.out rfl (by omega)
  rw [splice_two (k := 3) HV3.out rfl (by have := HBd.out; omega)] at hz
  have HZ4 : Hid (Zer (splice cur off (v1 ++ v2 ++ v3 ++ v4)) (off + 4) ([.slice none 0 0])) := hz
  clear hz
  clear hr hl hc hH hu hd
  go_wp2_with fail
  refine (row_string_rk w4 F q l4 e4 g (off + 4) _ t HR4.out HC4.out HZ4.out HG.out rfl).mono ?_
  rintro r w5 ⟨rfl, hr, ⟨v5, hl, hc, hH⟩, hu⟩
  obtain ⟨⟨a5, l5, e5⟩, hd⟩ : ∃ x, (rowC txtC).dec l4 e4 = x := ⟨_, rfl⟩
  rw [hd] at hr hH
  have HD5 := Lib.hid hd
  have HR5 : Hid (RkI F q l5 e5 w5) := hr
  have HL5 : Hid (v5.length = 1) := hl
  have HK5 : Hid (Kept (inner) w4 w5) := Kept.up HR4.out HC4.out HT.out rfl rfl hu
  have HH5 : Hid ((strsH) w5 v5 a5) := hH
  have HU5 := Lib.hid (HU4.out.trans hu)
  rw [splice_two (k := 4) HV4.out rfl (by have := HBd.out; omega)] at hc
  have HC5 : Hid (Cut g (splice cur off (v1 ++ v2 ++ v3 ++ v4 ++ v5)) t w5) := hc
  have HV5 : Hid ((v1 ++ v2 ++ v3 ++ v4 ++ v5).length = 5) := by show _ = _; rw [List.length_append, HV4.out, HL5.out]
  clear hr hl hc hH hu hd
  go_wp2_with fail
  refine bodyPost_end (v := .tuple #[]) (results_none rfl _ _ _) rfl ?_
  have HD : Hid ((reqC).dec l0 e0 = ((a1, (a2, (a3, (a4, a5)))), l5, e5)) := by
    show ((pairC (numC) (pairC (numC) (pairC (numC) (pairC (txtC) (rowC txtC)))))).dec l0 e0 = _
    rw [pairC_dec HD1.out, pairC_dec HD2.out, pairC_dec HD3.out, pairC_dec HD4.out, HD5.out]
  have hc := HC5.out
  rw [List.append_assoc, List.append_assoc, List.append_assoc] at hc
  have hv := HV5.out
  rw [List.append_assoc, List.append_assoc, List.append_assoc] at hv
  rw [HD.out]
  exact ⟨rfl, HR5.out, ⟨_, hv, hc, v1, _, rfl, HL1.out, HH1.out, v2, _, rfl, HL2.out, HH2.out, v3, _, rfl, HL3.out, HH3.out, v4, _, rfl, HL4.out, HH4.out, HH5.out⟩, HU5.out⟩
set_option maxHeartbeats 4000000 in
theorem answer_rk : RkH 43 ansC [.int .i64 0, .int .i64 0, .int .i64 0, .int .i64 0, .string ⟨#[]⟩, .slice none 0 0, .int .i64 0] (ansH) (inner) := by
  intro W F q l0 e0 g off cur t hr hc hz hg ht
  have HR0 := Lib.hid hr
  have HC0 := Lib.hid hc
  have HZ0 : Hid (Zer cur off ([.int .i64 0, .int .i64 0] ++ ([.int .i64 0] ++ ([.int .i64 0] ++ ([.string ⟨#[]⟩] ++ ([.slice none 0 0] ++ ([.int .i64 0]))))))) := hz
  have HBd : Hid (off + 7 ≤ cur.length) := (zer_all hz).resolve_left (fun h => by cases h)
  have HG := Lib.hid hg
  have HT := Lib.hid ht
  clear hr hc hz hg ht
  go_enter Try.func43, Try.ntmps43
  go_upto_region 0 with fail
  refine Rt.wp_region_rkt 9 [] [Rg.Is (.pointer (some ⟨F, 0, none⟩)), Rg.Is (.pointer (some ⟨g, off, none⟩)), Rg.Is (.pointer (some ⟨g, off, none⟩)), Rg.Is (.pointer (some ⟨g, off, none⟩)), Rg.Is (.pointer (some ⟨g, off, none⟩)), Rg.Is (.pointer (some ⟨g, off, none⟩)), Rg.Is (.pointer (some ⟨g, off + 1, none⟩)), (fun u x => ∃ b, u = .slice (some ⟨b, 0, none⟩) 2 2 ∧ W.heap.size ≤ b ∧ x.heap[b]? = some (.cells #[.pointer (some ⟨g, off, none⟩), .pointer (some ⟨g, off + 1, none⟩)] 107)), (fun u x => u = .tuple #[] ∧ RkI F q ((pairC numC numC).dec l0 e0).2.1 ((pairC numC numC).dec l0 e0).2.2 x ∧ Cut g (splice cur off (num2V ((pairC numC numC).dec l0 e0).1)) t x ∧ RUp F q g W x)] (fun _ _ => True) (fun ls x => ls 8 = false → Below W.heap.size W x) (fun k x y => if k = 8 then (RUp F q g x y) else Below x.heap.size x y) (by kernel_rfl) (by kernel_rfl) (of_decide_eq_true (by kernel_rfl)) (by kernel_rfl) (by kernel_rfl) trivial (fun _ => ⟨rfl, rfl, rfl, Nat.le_refl _, fun _ _ => rfl⟩) (fun ls ls' x e h1 h2 => h1 (by rw [e]; exact h2)) (fun _ _ _ _ _ => trivial) (fun i ls x _ h1 => by rw [show ([] : List Bool).getD i true = true from rfl] at h1; cases h1) ?_ ⟨rfl, rfl, rfl, rfl, rfl, rfl, rfl, rfl, rfl, trivial⟩ ⟨?_, ?_, ?_, ?_, ?_, ?_, ?_, ?_, ?_, trivial⟩ ?_
  · intro i k u x y hik _ h1 hK
    match i, h1, hik with
    | 0, h1, _ => exact h1
    | 1, h1, _ => exact h1
    | 2, h1, _ => exact h1
    | 3, h1, _ => exact h1
    | 4, h1, _ => exact h1
    | 5, h1, _ => exact h1
    | 6, h1, _ => exact h1
    | 7, h1, hik =>
      obtain ⟨b, h2, h4, h5⟩ := h1
      have hbs := (Array.getElem?_eq_some_iff.1 h5).1
      by_cases hk : k = 8
      · subst hk
        rw [if_pos rfl] at hK
        have h9 : y.heap[b]? = x.heap[b]? := hK.block b hbs (by have := HR0.out.F_lt; omega) (by have := HR0.out.F_lt; have := HR0.out.lt; omega) (by have := HC0.out.lt; omega)
        exact ⟨b, h2, h4, h9.trans h5⟩
      · rw [if_neg hk] at hK
        exact ⟨b, h2, h4, (hK.block b hbs).trans h5⟩
    | 8, h1, hik =>
      rw [if_neg (fun e => hik e.symm)] at hK
      obtain ⟨h2, h3, h4, h5⟩ := h1
      exact ⟨h2, h3.below hK, (hK.block g h4.lt).trans h4, h5.trans (RUp.of_below hK)⟩
    | _ + 9, _, _ => trivial
  · intro _ b x ls hR hS hself hup hdn hk
    have h0 : b.eval (.tmp 0) = .pointer (some ⟨F, 0, none⟩) := Eq.mp (by kernel_rfl) (hk 0 (by decide))
    have lA : ls 8 = false := hdn [] 8 _ rfl (by kernel_rfl)
    have hb := hS lA
    exact Rg.does_move ⟨by rw [if_neg (by decide)]; exact Below.refl _ _, h0, fun hh => hS hh⟩
  · intro _ b x ls hR hS hself hup hdn hk
    have h1 : b.eval (.tmp 1) = .pointer (some ⟨g, off, none⟩) := Eq.mp (by kernel_rfl) (hk 1 (by decide))
    have lA : ls 8 = false := hdn [7, 3, 2] 8 _ rfl (by kernel_rfl)
    have hb := hS lA
    exact Rg.does_move ⟨by rw [if_neg (by decide)]; exact Below.refl _ _, h1, fun hh => hS hh⟩
  · intro _ b x ls hR hS hself hup hdn hk
    have h5 : b.eval (.tmp 5) = .pointer (some ⟨g, off, none⟩) := Eq.mp (by kernel_rfl) (hk 5 (by decide))
    have lA : ls 8 = false := hdn [7, 3] 8 _ rfl (by kernel_rfl)
    have hb := hS lA
    exact Ap.does_nil _ h5 ⟨by rw [if_neg (by decide)]; exact Below.refl _ _, rfl, fun hh => hS hh⟩
  · intro _ b x ls hR hS hself hup hdn hk
    have h6 : b.eval (.tmp 6) = .pointer (some ⟨g, off, none⟩) := Eq.mp (by kernel_rfl) (hk 6 (by decide))
    have lA : ls 8 = false := hdn [7] 8 _ rfl (by kernel_rfl)
    have hb := hS lA
    exact Rs.does_field _ _ h6 (fld_ans0 g off x) ⟨by rw [if_neg (by decide)]; exact Below.refl _ _, rfl, fun hh => hS hh⟩
  · intro _ b x ls hR hS hself hup hdn hk
    have h1 : b.eval (.tmp 1) = .pointer (some ⟨g, off, none⟩) := Eq.mp (by kernel_rfl) (hk 1 (by decide))
    have lA : ls 8 = false := hdn [7, 6, 5] 8 _ rfl (by kernel_rfl)
    have hb := hS lA
    exact Rg.does_move ⟨by rw [if_neg (by decide)]; exact Below.refl _ _, h1, fun hh => hS hh⟩
  · intro _ b x ls hR hS hself hup hdn hk
    have h8 : b.eval (.tmp 8) = .pointer (some ⟨g, off, none⟩) := Eq.mp (by kernel_rfl) (hk 8 (by decide))
    have lA : ls 8 = false := hdn [7, 6] 8 _ rfl (by kernel_rfl)
    have hb := hS lA
    exact Ap.does_nil _ h8 ⟨by rw [if_neg (by decide)]; exact Below.refl _ _, rfl, fun hh => hS hh⟩
  · intro _ b x ls hR hS hself hup hdn hk
    have h9 : b.eval (.tmp 9) = .pointer (some ⟨g, off, none⟩) := Eq.mp (by kernel_rfl) (hk 9 (by decide))
    have lA : ls 8 = false := hdn [7] 8 _ rfl (by kernel_rfl)
    have hb := hS lA
    exact Rs.does_field _ _ h9 (fld_ans1 g off x) ⟨by rw [if_neg (by decide)]; exact Below.refl _ _, rfl, fun hh => hS hh⟩
  · intro _ b x ls hR hS hself hup hdn hk
    have h7 : b.eval (.tmp 7) = .pointer (some ⟨g, off, none⟩) := Eq.mp (by kernel_rfl) (hk 7 (by decide))
    have h10 : b.eval (.tmp 10) = .pointer (some ⟨g, off + 1, none⟩) := Eq.mp (by kernel_rfl) (hk 10 (by decide))
    have lA : ls 8 = false := hdn [] 8 _ rfl (by kernel_rfl)
    have hb := hS lA
    have hal := (Below.refl x.heap.size x).alloc (Nat.le_refl _) (.cells #[.pointer (some ⟨g, off, none⟩), .pointer (some ⟨g, off + 1, none⟩)] 107)
    exact Rg.does_build #[(0, .pointer (some ⟨g, off, none⟩)), (1, .pointer (some ⟨g, off + 1, none⟩))] _ (by simp [h7, h10]) (by go_simp) ⟨by rw [if_neg (by decide)]; exact hal, ⟨x.heap.size, rfl, hb.size, heap_alloc_new x _⟩, fun hh => hb.trans (hal.mono hb.size)⟩
  · intro _ b x ls hR hS hself hup hdn hk
    have h4 : b.eval (.tmp 4) = .pointer (some ⟨F, 0, none⟩) := Eq.mp (by kernel_rfl) (hk 4 (by decide))
    have h11 : (fun u x => ∃ b, u = .slice (some ⟨b, 0, none⟩) 2 2 ∧ W.heap.size ≤ b ∧ x.heap[b]? = some (.cells #[.pointer (some ⟨g, off, none⟩), .pointer (some ⟨g, off + 1, none⟩)] 107)) (b.eval (.tmp 11)) x := Eq.mp (by kernel_rfl) (hk 11 (by decide))
    have hb := hS hself
    obtain ⟨b1, hq2, hq4, hq5⟩ := h11
    refine Rg.does_func #[.pointer (some ⟨F, 0, none⟩), .slice (some ⟨b1, 0, none⟩) 2 2] Try.func46 (by kernel_rfl) (by kernel_rfl) (by simp [h4, hq2]) (rk_nums_h (many_more (many_one numC iv)) x F q l0 e0 g off cur t b1 (HR0.out.below hb) ((hb.block g HC0.out.lt).trans HC0.out) (fun j hj => by have h6 := (zer_fst HZ0.out); match j, hj with | 0, _ => exact h6 0 (by decide) | 1, _ => exact h6 1 (by decide)) HG.out ⟨⟨_, hq5, fun j hj => by match j, hj with | 0, _ => rfl | 1, _ => rfl⟩⟩ (by have := HR0.out.F_lt; omega) (by have := HC0.out.lt; omega) (by decide)) ?_
    rintro e' w' ⟨rfl, hr, hcu, hu⟩
    exact ⟨_, rfl, by rw [if_pos rfl]; exact hu, ⟨rfl, hr, hcu, (RUp.of_below hb).trans hu⟩, fun hh => by simp [Rs.upd] at hh⟩
  · intro vals w1 ls _ hSD _ hL
    obtain ⟨g0, g1, g2, g3, g4, g5, g6, g7, g8, _⟩ := hL
    obtain ⟨e8, hr, hc, hu⟩ := g8
    have hl : (num2V ((pairC numC numC).dec l0 e0).1).length = 2 := rfl
    obtain ⟨v1, hv⟩ : ∃ v, num2V ((pairC numC numC).dec l0 e0).1 = v := ⟨_, rfl⟩
    have hH : flatH num2V w1 v1 ((pairC numC numC).dec l0 e0).1 := hv.symm
    rw [hv] at hc hl
    clear hv
    have q0 := g0; have q1 := g1
    obtain ⟨⟨a1, l1, e1⟩, hd⟩ : ∃ x, (pairC numC numC).dec l0 e0 = x := ⟨_, rfl⟩
    rw [hd] at hr hH
    have HD1 := Lib.hid hd
    have HR1 : Hid (RkI F q l1 e1 w1) := hr
    have HL1 : Hid (v1.length = 2) := hl
    have HK1 : Hid (Kept (inner) W w1) := Kept.up HR0.out HC0.out HT.out rfl rfl hu
    have HH1 : Hid ((flatH num2V) w1 v1 a1) := hH
    have HU1 := Lib.hid hu
    have HC1 : Hid (Cut g (splice cur off (v1)) t w1) := hc
    have HV1 := HL1
    have HZ1 : Hid (Zer (splice cur off v1) (off + 2) ([.int .i64 0] ++ ([.int .i64 0] ++ ([.string ⟨#[]⟩] ++ ([.slice none 0 0] ++ ([.int .i64 0])))))) := zer_step HZ0.out HL1.out rfl rfl
    clear hr hl hc hH hu hd
    simp only [Rg.putAll, List.take_succ_cons, List.take_zero, List.drop_succ_cons, List.drop_zero, List.setIfInBounds_toArray, List.set_cons_succ, List.set_cons_zero]
    clear g0 g1 g2 g3 g4 g5 g6 g7 e8 q0 q1
    go_wp2_with fail
    refine (num64R w1 F q l1 e1 g (off + 2) _ t HR1.out HC1.out (zer_fst HZ1.out) HG.out rfl).mono ?_
    rintro r w2 ⟨rfl, hr, ⟨v2, hl, hc, hH⟩, hu⟩
    obtain ⟨⟨a2, l2, e2⟩, hd⟩ : ∃ x, (numC).dec l1 e1 = x := ⟨_, rfl⟩
    rw [hd] at hr hH
    have HD2 := Lib.hid hd
    have HR2 : Hid (RkI F q l2 e2 w2) := hr
    have HL2 : Hid (v2.length = 1) := hl
    have HK2 : Hid (Kept (inner) w1 w2) := Kept.up HR1.out HC1.out HT.out rfl rfl hu
    have HH2 : Hid ((flatH numV) w2 v2 a2) := hH
    have HU2 := Lib.hid (HU1.out.trans hu)
    rw [splice_two (k := 2) HV1.out rfl (by have := HBd.out; omega)] at hc
    have HC2 : Hid (Cut g (splice cur off (v1 ++ v2)) t w2) := hc
    have HV2 : Hid ((v1 ++ v2).length = 3) := by show _ = _; rw [List.length_append, HV1.out, HL2.out]
    have hz := zer_step (off' := off + 3) HZ1.out HL2.out rfl (by omega)
    rw [splice_two (k := 2) HV1.out rfl (by have := HBd.out; omega)] at hz
    have HZ2 : Hid (Zer (splice cur off (v1 ++ v2)) (off + 3) ([.int .i64 0] ++ ([.string ⟨#[]⟩] ++ ([.slice none 0 0] ++ ([.int .i64 0]))))) := hz
    clear hz
    clear hr hl hc hH hu hd
    go_wp2_with fail
    refine (num64R w2 F q l2 e2 g (off + 3) _ t HR2.out HC2.out (zer_fst HZ2.out) HG.out rfl).mono ?_
    rintro r w3 ⟨rfl, hr, ⟨v3, hl, hc, hH⟩, hu⟩
    obtain ⟨⟨a3, l3, e3⟩, hd⟩ : ∃ x, (numC).dec l2 e2 = x := ⟨_, rfl⟩
    rw [hd] at hr hH
    have HD3 := Lib.hid hd
    have HR3 : Hid (RkI F q l3 e3 w3) := hr
    have HL3 : Hid (v3.length = 1) := hl
    have HK3 : Hid (Kept (inner) w2 w3) := Kept.up HR2.out HC2.out HT.out rfl rfl hu
    have HH3 : Hid ((flatH numV) w3 v3 a3) := hH
    have HU3 := Lib.hid (HU2.out.trans hu)
    rw [splice_two (k := 3) HV2.out rfl (by have := HBd.out; omega)] at hc
    have HC3 : Hid (Cut g (splice cur off (v1 ++ v2 ++ v3)) t w3) := hc
    have HV3 : Hid ((v1 ++ v2 ++ v3).length = 4) := by show _ = _; rw [List.length_append, HV2.out, HL3.out]
    have hz := zer_step (off' := off + 4) HZ2.out HL3.out rfl (by omega)
    rw [splice_two (k := 3) HV2.out rfl (by have := HBd.out; omega)] at hz
    have HZ3 : Hid (Zer (splice cur off (v1 ++ v2 ++ v3)) (off + 4) ([.string ⟨#[]⟩] ++ ([.slice none 0 0] ++ ([.int .i64 0])))) := hz
    clear hz
    clear hr hl hc hH hu hd
    go_wp2_with fail
    refine (txt1_rkh w3 F q l3 e3 g (off + 4) _ t HR3.out HC3.out (zer_fst HZ3.out) HG.out rfl).mono ?_
    rintro r w4 ⟨rfl, hr, ⟨v4, hl, hc, hH⟩, hu⟩
    obtain ⟨⟨a4, l4, e4⟩, hd⟩ : ∃ x, (txtC).dec l3 e3 = x := ⟨_, rfl⟩
    rw [hd] at hr hH
    have HD4 := Lib.hid hd
    have HR4 : Hid (RkI F q l4 e4 w4) := hr
    have HL4 : Hid (v4.length = 1) := hl
    have HK4 : Hid (Kept (inner) w3 w4) := Kept.up HR3.out HC3.out HT.out rfl rfl hu
    have HH4 : Hid ((flatH txtV) w4 v4 a4) := hH
    have HU4 := Lib.hid (HU3.out.trans hu)
    rw [splice_two (k := 4) HV3.out rfl (by have := HBd.out; omega)] at hc
    have HC4 : Hid (Cut g (splice cur off (v1 ++ v2 ++ v3 ++ v4)) t w4) := hc
    have HV4 : Hid ((v1 ++ v2 ++ v3 ++ v4).length = 5) := by show _ = _; rw [List.length_append, HV3.out, HL4.out]
    have hz := zer_step (off' := off + 5) HZ3.out HL4.out rfl (by omega)
    rw [splice_two (k := 4) HV3.out rfl (by have := HBd.out; omega)] at hz
    have HZ4 : Hid (Zer (splice cur off (v1 ++ v2 ++ v3 ++ v4)) (off + 5) ([.slice none 0 0] ++ ([.int .i64 0]))) := hz
    clear hz
    clear hr hl hc hH hu hd
    go_wp2_with fail
    refine (row_string_rk w4 F q l4 e4 g (off + 5) _ t HR4.out HC4.out (zer_fst HZ4.out) HG.out rfl).mono ?_
    rintro r w5 ⟨rfl, hr, ⟨v5, hl, hc, hH⟩, hu⟩
    obtain ⟨⟨a5, l5, e5⟩, hd⟩ : ∃ x, (rowC txtC).dec l4 e4 = x := ⟨_, rfl⟩
    rw [hd] at hr hH
    have HD5 := Lib.hid hd
    have HR5 : Hid (RkI F q l5 e5 w5) := hr
    have HL5 : Hid (v5.length = 1) := hl
    have HK5 : Hid (Kept (inner) w4 w5) := Kept.up HR4.out HC4.out HT.out rfl rfl hu
    have HH5 : Hid ((strsH) w5 v5 a5) := hH
    have HU5 := Lib.hid (HU4.out.trans hu)
    rw [splice_two (k := 5) HV4.out rfl (by have := HBd.out; omega)] at hc
    have HC5 : Hid (Cut g (splice cur off (v1 ++ v2 ++ v3 ++ v4 ++ v5)) t w5) := hc
    have HV5 : Hid ((v1 ++ v2 ++ v3 ++ v4 ++ v5).length = 6) := by show _ = _; rw [List.length_append, HV4.out, HL5.out]
    have hz := zer_step (off' := off + 6) HZ4.out HL5.out rfl (by omega)
    rw [splice_two (k := 5) HV4.out rfl (by have := HBd.out; omega)] at hz
    have HZ5 : Hid (Zer (splice cur off (v1 ++ v2 ++ v3 ++ v4 ++ v5)) (off + 6) ([.int .i64 0])) := hz
    clear hz
    clear hr hl hc hH hu hd
    go_wp2_with fail
    refine (numR w5 F q l5 e5 g (off + 6) _ t HR5.out HC5.out HZ5.out HG.out rfl).mono ?_
    rintro r w6 ⟨rfl, hr, ⟨v6, hl, hc, hH⟩, hu⟩
    obtain ⟨⟨a6, l6, e6⟩, hd⟩ : ∃ x, (numC).dec l5 e5 = x := ⟨_, rfl⟩
    rw [hd] at hr hH
    have HD6 := Lib.hid hd
    have HR6 : Hid (RkI F q l6 e6 w6) := hr
    have HL6 : Hid (v6.length = 1) := hl
    have HK6 : Hid (Kept (inner) w5 w6) := Kept.up HR5.out HC5.out HT.out rfl rfl hu
    have HH6 : Hid ((flatH numV) w6 v6 a6) := hH
    have HU6 := Lib.hid (HU5.out.trans hu)
    rw [splice_two (k := 6) HV5.out rfl (by have := HBd.out; omega)] at hc
    have HC6 : Hid (Cut g (splice cur off (v1 ++ v2 ++ v3 ++ v4 ++ v5 ++ v6)) t w6) := hc
    have HV6 : Hid ((v1 ++ v2 ++ v3 ++ v4 ++ v5 ++ v6).length = 7) := by show _ = _; rw [List.length_append, HV5.out, HL6.out]
    clear hr hl hc hH hu hd
    go_wp2_with fail
    refine bodyPost_end (v := .tuple #[]) (results_none rfl _ _ _) rfl ?_
    have HD : Hid ((ansC).dec l0 e0 = ((a1, (a2, (a3, (a4, (a5, a6))))), l6, e6)) := by
      show ((pairC (pairC numC numC) (pairC (numC) (pairC (numC) (pairC (txtC) (pairC (rowC txtC) (numC))))))).dec l0 e0 = _
      rw [pairC_dec HD1.out, pairC_dec HD2.out, pairC_dec HD3.out, pairC_dec HD4.out, pairC_dec HD5.out, HD6.out]
    have hc := HC6.out
    rw [List.append_assoc, List.append_assoc, List.append_assoc, List.append_assoc] at hc
    have hv := HV6.out
    rw [List.append_assoc, List.append_assoc, List.append_assoc, List.append_assoc] at hv
    rw [HD.out]
    exact ⟨rfl, HR6.out, ⟨_, hv, hc, v1, _, rfl, HL1.out, HH1.out, v2, _, rfl, HL2.out, HH2.out, v3, _, rfl, HL3.out, HH3.out, v4, _, rfl, HL4.out, HH4.out, v5, _, rfl, HL5.out, (strs_st).keep HH5.out HK6.out, HH6.out⟩, HU6.out⟩
end Go.Proofs.Ytmhofdoifgfjfaa
