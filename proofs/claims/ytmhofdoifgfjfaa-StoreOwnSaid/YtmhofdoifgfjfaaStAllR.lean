/-
  State: a state, read. Conditions: as each contract says.
-/
import Derived.Test.YtmhofdoifgfjfaaStFramesR
set_option linter.unusedVariables false
set_option maxRecDepth 100000
namespace Go.Proofs.Ytmhofdoifgfjfaa
open Go.RowKit Base

theorem inner_no {t : TypeId} (h : inner2 t = false) : inner t = false := by
  rcases hq : inner t with _ | _
  · rfl
  · rw [inner_less t hq] at h; cases h
abbrev framesH := RowH 19 96 frameH
theorem frames_st : St inner2 framesH := row_st (st_less frame_st inner_less) rfl
def stateH : World → List Value → StateD → Prop := pairH 7 keepH (pairH 1 strsH (pairH 1 framesH (pairH 5 reqH (pairH 7 ansH (pairH 1 intsH (pairH 3 (flatH num3V) (pairH 3 (flatH bit3V) (flatH numV))))))))
theorem state_st : St inner2 stateH := pair_st (st_less keep_st inner_less) (pair_st (st_less strs_st inner_less) (pair_st frames_st (pair_st (st_less req_st inner_less) (pair_st (st_less ans_st inner_less) (pair_st ints_st (pair_st (flat_st _ _) (pair_st (flat_st _ _) (flat_st _ _))))))))
theorem numE_rk : RkOk 48 numC numV 0 := fun W F q l e g off cur t h hc h0 hg => rk_errno_calls W F q l e g off cur t h hc (h0 0 (by decide)) hg
set_option maxHeartbeats 4000000 in
theorem all_rk : RkH 27 stateC [.slice none 0 0, .slice none 0 0, .int .i64 0, .string ⟨#[]⟩, .slice none 0 0, .slice none 0 0, .slice none 0 0, .slice none 0 0, .slice none 0 0, .int .i64 0, .int .i64 0, .int .i64 0, .string ⟨#[]⟩, .slice none 0 0, .int .i64 0, .int .i64 0, .int .i64 0, .int .i64 0, .string ⟨#[]⟩, .slice none 0 0, .int .i64 0, .slice none 0 0, .int .i64 0, .int .i64 0, .int .i64 0, .bool false, .bool false, .bool false, .int .i64 0] (stateH) (inner2) := by
  intro W F q l0 e0 g off cur t hr hc hz hg ht
  have HR0 := Lib.hid hr
  have HC0 := Lib.hid hc
  have HZ0 : Hid (Zer cur off ([.slice none 0 0, .slice none 0 0, .int .i64 0, .string ⟨#[]⟩, .slice none 0 0, .slice none 0 0, .slice none 0 0] ++ ([.slice none 0 0] ++ ([.slice none 0 0] ++ ([.int .i64 0, .int .i64 0, .int .i64 0, .string ⟨#[]⟩, .slice none 0 0] ++ ([.int .i64 0, .int .i64 0, .int .i64 0, .int .i64 0, .string ⟨#[]⟩, .slice none 0 0, .int .i64 0] ++ ([.slice none 0 0] ++ ([.int .i64 0, .int .i64 0, .int .i64 0] ++ ([.bool false, .bool false, .bool false] ++ ([.int .i64 0])))))))))) := hz
  have HBd : Hid (off + 29 ≤ cur.length) := (zer_all hz).resolve_left (fun h => by cases h)
  have HG := Lib.hid hg
  have HT := Lib.hid ht
  clear hr hc hz hg ht
  go_enter Try.func27, Try.ntmps27
  go_wp2_with fail
  refine (keep_rk W F q l0 e0 g off _ t HR0.out HC0.out (zer_fst HZ0.out) HG.out (inner_no HT.out)).mono ?_
  rintro r w1 ⟨rfl, hr, ⟨v1, hl, hc, hH⟩, hu⟩
  obtain ⟨⟨a1, l1, e1⟩, hd⟩ : ∃ x, (keepC).dec l0 e0 = x := ⟨_, rfl⟩
  rw [hd] at hr hH
  have HD1 := Lib.hid hd
  have HR1 : Hid (RkI F q l1 e1 w1) := hr
  have HL1 : Hid (v1.length = 7) := hl
  have HK1 : Hid (Kept (inner2) W w1) := Kept.up HR0.out HC0.out HT.out rfl rfl hu
  have HH1 : Hid ((keepH) w1 v1 a1) := hH
  have HU1 := Lib.hid hu
  have HC1 : Hid (Cut g (splice cur off (v1)) t w1) := hc
  have HV1 := HL1
  have HZ1 : Hid (Zer (splice cur off v1) (off + 7) ([.slice none 0 0] ++ ([.slice none 0 0] ++ ([.int .i64 0, .int .i64 0, .int .i64 0, .string ⟨#[]⟩, .slice none 0 0] ++ ([.int .i64 0, .int .i64 0, .int .i64 0, .int .i64 0, .string ⟨#[]⟩, .slice none 0 0, .int .i64 0] ++ ([.slice none 0 0] ++ ([.int .i64 0, .int .i64 0, .int .i64 0] ++ ([.bool false, .bool false, .bool false] ++ ([.int .i64 0]))))))))) := zer_step HZ0.out HL1.out rfl rfl
  clear hr hl hc hH hu hd
  go_wp2_with fail
  refine (row_string_rk w1 F q l1 e1 g (off + 7) _ t HR1.out HC1.out (zer_fst HZ1.out) HG.out rfl).mono ?_
  rintro r w2 ⟨rfl, hr, ⟨v2, hl, hc, hH⟩, hu⟩
  obtain ⟨⟨a2, l2, e2⟩, hd⟩ : ∃ x, (rowC txtC).dec l1 e1 = x := ⟨_, rfl⟩
  rw [hd] at hr hH
  have HD2 := Lib.hid hd
  have HR2 : Hid (RkI F q l2 e2 w2) := hr
  have HL2 : Hid (v2.length = 1) := hl
  have HK2 : Hid (Kept (inner2) w1 w2) := Kept.up HR1.out HC1.out HT.out rfl rfl hu
  have HH2 : Hid ((strsH) w2 v2 a2) := hH
  have HU2 := Lib.hid (HU1.out.trans hu)
  rw [splice_two (k := 7) HV1.out rfl (by have := HBd.out; omega)] at hc
  have HC2 : Hid (Cut g (splice cur off (v1 ++ v2)) t w2) := hc
  have HV2 : Hid ((v1 ++ v2).length = 8) := by show _ = _; rw [List.length_append, HV1.out, HL2.out]
  have hz := zer_step (off' := off + 8) HZ1.out HL2.out rfl (by omega)
  rw [splice_two (k := 7) HV1.out rfl (by have := HBd.out; omega)] at hz
  have HZ2 : Hid (Zer (splice cur off (v1 ++ v2)) (off + 8) ([.slice none 0 0] ++ ([.int .i64 0, .int .i64 0, .int .i64 0, .string ⟨#[]⟩, .slice none 0 0] ++ ([.int .i64 0, .int .i64 0, .int .i64 0, .int .i64 0, .string ⟨#[]⟩, .slice none 0 0, .int .i64 0] ++ ([.slice none 0 0] ++ ([.int .i64 0, .int .i64 0, .int .i64 0] ++ ([.bool false, .bool false, .bool false] ++ ([.int .i64 0])))))))) := hz
  clear hz
  clear hr hl hc hH hu hd
  go_wp2_with fail
  refine (row_frame_rk w2 F q l2 e2 g (off + 8) _ t HR2.out HC2.out (zer_fst HZ2.out) HG.out (inner_no HT.out)).mono ?_
  rintro r w3 ⟨rfl, hr, ⟨v3, hl, hc, hH⟩, hu⟩
  obtain ⟨⟨a3, l3, e3⟩, hd⟩ : ∃ x, (rowC frameC).dec l2 e2 = x := ⟨_, rfl⟩
  rw [hd] at hr hH
  have HD3 := Lib.hid hd
  have HR3 : Hid (RkI F q l3 e3 w3) := hr
  have HL3 : Hid (v3.length = 1) := hl
  have HK3 : Hid (Kept (inner2) w2 w3) := Kept.up HR2.out HC2.out HT.out rfl rfl hu
  have HH3 : Hid ((framesH) w3 v3 a3) := hH
  have HU3 := Lib.hid (HU2.out.trans hu)
  rw [splice_two (k := 8) HV2.out rfl (by have := HBd.out; omega)] at hc
  have HC3 : Hid (Cut g (splice cur off (v1 ++ v2 ++ v3)) t w3) := hc
  have HV3 : Hid ((v1 ++ v2 ++ v3).length = 9) := by show _ = _; rw [List.length_append, HV2.out, HL3.out]
  have hz := zer_step (off' := off + 9) HZ2.out HL3.out rfl (by omega)
  rw [splice_two (k := 8) HV2.out rfl (by have := HBd.out; omega)] at hz
  have HZ3 : Hid (Zer (splice cur off (v1 ++ v2 ++ v3)) (off + 9) ([.int .i64 0, .int .i64 0, .int .i64 0, .string ⟨#[]⟩, .slice none 0 0] ++ ([.int .i64 0, .int .i64 0, .int .i64 0, .int .i64 0, .string ⟨#[]⟩, .slice none 0 0, .int .i64 0] ++ ([.slice none 0 0] ++ ([.int .i64 0, .int .i64 0, .int .i64 0] ++ ([.bool false, .bool false, .bool false] ++ ([.int .i64 0]))))))) := hz
  clear hz
  clear hr hl hc hH hu hd
  go_wp2_with fail
  refine (request_rk w3 F q l3 e3 g (off + 9) _ t HR3.out HC3.out (zer_fst HZ3.out) HG.out (inner_no HT.out)).mono ?_
  rintro r w4 ⟨rfl, hr, ⟨v4, hl, hc, hH⟩, hu⟩
  obtain ⟨⟨a4, l4, e4⟩, hd⟩ : ∃ x, (reqC).dec l3 e3 = x := ⟨_, rfl⟩
  rw [hd] at hr hH
  have HD4 := Lib.hid hd
  have HR4 : Hid (RkI F q l4 e4 w4) := hr
  have HL4 : Hid (v4.length = 5) := hl
  have HK4 : Hid (Kept (inner2) w3 w4) := Kept.up HR3.out HC3.out HT.out rfl rfl hu
  have HH4 : Hid ((reqH) w4 v4 a4) := hH
  have HU4 := Lib.hid (HU3.out.trans hu)
  rw [splice_two (k := 9) HV3.out rfl (by have := HBd.out; omega)] at hc
  have HC4 : Hid (Cut g (splice cur off (v1 ++ v2 ++ v3 ++ v4)) t w4) := hc
  have HV4 : Hid ((v1 ++ v2 ++ v3 ++ v4).length = 14) := by show _ = _; rw [List.length_append, HV3.out, HL4.out]
  have hz := zer_step (off' := off + 14) HZ3.out HL4.out rfl (by omega)
  rw [splice_two (k := 9) HV3.out rfl (by have := HBd.out; omega)] at hz
  have HZ4 : Hid (Zer (splice cur off (v1 ++ v2 ++ v3 ++ v4)) (off + 14) ([.int .i64 0, .int .i64 0, .int .i64 0, .int .i64 0, .string ⟨#[]⟩, .slice none 0 0, .int .i64 0] ++ ([.slice none 0 0] ++ ([.int .i64 0, .int .i64 0, .int .i64 0] ++ ([.bool false, .bool false, .bool false] ++ ([.int .i64 0])))))) := hz
  clear hz
  clear hr hl hc hH hu hd
  go_wp2_with fail
  refine (answer_rk w4 F q l4 e4 g (off + 14) _ t HR4.out HC4.out (zer_fst HZ4.out) HG.out (inner_no HT.out)).mono ?_
  rintro r w5 ⟨rfl, hr, ⟨v5, hl, hc, hH⟩, hu⟩
  obtain ⟨⟨a5, l5, e5⟩, hd⟩ : ∃ x, (ansC).dec l4 e4 = x := ⟨_, rfl⟩
  rw [hd] at hr hH
  have HD5 := Lib.hid hd
  have HR5 : Hid (RkI F q l5 e5 w5) := hr
  have HL5 : Hid (v5.length = 7) := hl
  have HK5 : Hid (Kept (inner2) w4 w5) := Kept.up HR4.out HC4.out HT.out rfl rfl hu
  have HH5 : Hid ((ansH) w5 v5 a5) := hH
  have HU5 := Lib.hid (HU4.out.trans hu)
  rw [splice_two (k := 14) HV4.out rfl (by have := HBd.out; omega)] at hc
  have HC5 : Hid (Cut g (splice cur off (v1 ++ v2 ++ v3 ++ v4 ++ v5)) t w5) := hc
  have HV5 : Hid ((v1 ++ v2 ++ v3 ++ v4 ++ v5).length = 21) := by show _ = _; rw [List.length_append, HV4.out, HL5.out]
  have hz := zer_step (off' := off + 21) HZ4.out HL5.out rfl (by omega)
  rw [splice_two (k := 14) HV4.out rfl (by have := HBd.out; omega)] at hz
  have HZ5 : Hid (Zer (splice cur off (v1 ++ v2 ++ v3 ++ v4 ++ v5)) (off + 21) ([.slice none 0 0] ++ ([.int .i64 0, .int .i64 0, .int .i64 0] ++ ([.bool false, .bool false, .bool false] ++ ([.int .i64 0]))))) := hz
  clear hz
  clear hr hl hc hH hu hd
  go_wp2_with fail
  refine (row_int_rk w5 F q l5 e5 g (off + 21) _ t HR5.out HC5.out (zer_fst HZ5.out) HG.out rfl).mono ?_
  rintro r w6 ⟨rfl, hr, ⟨v6, hl, hc, hH⟩, hu⟩
  obtain ⟨⟨a6, l6, e6⟩, hd⟩ : ∃ x, (rowC numC).dec l5 e5 = x := ⟨_, rfl⟩
  rw [hd] at hr hH
  have HD6 := Lib.hid hd
  have HR6 : Hid (RkI F q l6 e6 w6) := hr
  have HL6 : Hid (v6.length = 1) := hl
  have HK6 : Hid (Kept (inner2) w5 w6) := Kept.up HR5.out HC5.out HT.out rfl rfl hu
  have HH6 : Hid ((intsH) w6 v6 a6) := hH
  have HU6 := Lib.hid (HU5.out.trans hu)
  rw [splice_two (k := 21) HV5.out rfl (by have := HBd.out; omega)] at hc
  have HC6 : Hid (Cut g (splice cur off (v1 ++ v2 ++ v3 ++ v4 ++ v5 ++ v6)) t w6) := hc
  have HV6 : Hid ((v1 ++ v2 ++ v3 ++ v4 ++ v5 ++ v6).length = 22) := by show _ = _; rw [List.length_append, HV5.out, HL6.out]
  have hz := zer_step (off' := off + 22) HZ5.out HL6.out rfl (by omega)
  rw [splice_two (k := 21) HV5.out rfl (by have := HBd.out; omega)] at hz
  have HZ6 : Hid (Zer (splice cur off (v1 ++ v2 ++ v3 ++ v4 ++ v5 ++ v6)) (off + 22) ([.int .i64 0, .int .i64 0, .int .i64 0] ++ ([.bool false, .bool false, .bool false] ++ ([.int .i64 0])))) := hz
  clear hz
  clear hr hl hc hH hu hd
  go_upto_region 6 with fail
  generalize hcc : splice cur off (v1 ++ v2 ++ v3 ++ v4 ++ v5 ++ v6) = cu6 at *
  have HCC6 := Lib.hid hcc
  clear hcc
  refine Rt.wp_region_rkt 12 [] [Rg.Is (.pointer (some ⟨F, 0, none⟩)), Rg.Is (.pointer (some ⟨g, off, none⟩)), Rg.Is (.pointer (some ⟨g, off, none⟩)), Rg.Is (.pointer (some ⟨g, off + 22, none⟩)), Rg.Is (.pointer (some ⟨g, off, none⟩)), Rg.Is (.pointer (some ⟨g, off, none⟩)), Rg.Is (.pointer (some ⟨g, off + 23, none⟩)), Rg.Is (.pointer (some ⟨g, off, none⟩)), Rg.Is (.pointer (some ⟨g, off, none⟩)), Rg.Is (.pointer (some ⟨g, off + 24, none⟩)), (fun u x => ∃ b, u = .slice (some ⟨b, 0, none⟩) 3 3 ∧ w6.heap.size ≤ b ∧ x.heap[b]? = some (.cells #[.pointer (some ⟨g, off + 22, none⟩), .pointer (some ⟨g, off + 23, none⟩), .pointer (some ⟨g, off + 24, none⟩)] 107)), (fun u x => u = .tuple #[] ∧ RkI F q ((pairC numC (pairC numC numC)).dec l6 e6).2.1 ((pairC numC (pairC numC numC)).dec l6 e6).2.2 x ∧ Cut g (splice cu6 (off + 22) (num3V ((pairC numC (pairC numC numC)).dec l6 e6).1)) t x ∧ RUp F q g w6 x)] (fun _ _ => True) (fun ls x => ls 11 = false → Below w6.heap.size w6 x) (fun k x y => if k = 11 then (RUp F q g x y) else Below x.heap.size x y) (by kernel_rfl) (by kernel_rfl) (of_decide_eq_true (by kernel_rfl)) (by kernel_rfl) (by kernel_rfl) trivial (fun _ => ⟨rfl, rfl, rfl, Nat.le_refl _, fun _ _ => rfl⟩) (fun ls ls' x e h1 h2 => h1 (by rw [e]; exact h2)) (fun _ _ _ _ _ => trivial) (fun i ls x _ h1 => by rw [show ([] : List Bool).getD i true = true from rfl] at h1; cases h1) ?_ ⟨rfl, rfl, rfl, rfl, rfl, rfl, rfl, rfl, rfl, rfl, rfl, rfl, trivial⟩ ⟨?_, ?_, ?_, ?_, ?_, ?_, ?_, ?_, ?_, ?_, ?_, ?_, trivial⟩ ?_
  · intro i k u x y hik _ h1 hK
    match i, h1, hik with
    | 0, h1, _ => exact h1
    | 1, h1, _ => exact h1
    | 2, h1, _ => exact h1
    | 3, h1, _ => exact h1
    | 4, h1, _ => exact h1
    | 5, h1, _ => exact h1
    | 6, h1, _ => exact h1
    | 7, h1, _ => exact h1
    | 8, h1, _ => exact h1
    | 9, h1, _ => exact h1
    | 10, h1, hik =>
      obtain ⟨b, h2, h4, h5⟩ := h1
      have hbs := (Array.getElem?_eq_some_iff.1 h5).1
      by_cases hk : k = 11
      · subst hk
        rw [if_pos rfl] at hK
        have h9 : y.heap[b]? = x.heap[b]? := hK.block b hbs (by have := HR6.out.F_lt; omega) (by have := HR6.out.F_lt; have := HR6.out.lt; omega) (by have := HC6.out.lt; omega)
        exact ⟨b, h2, h4, h9.trans h5⟩
      · rw [if_neg hk] at hK
        exact ⟨b, h2, h4, (hK.block b hbs).trans h5⟩
    | 11, h1, hik =>
      rw [if_neg (fun e => hik e.symm)] at hK
      obtain ⟨h2, h3, h4, h5⟩ := h1
      exact ⟨h2, h3.below hK, (hK.block g h4.lt).trans h4, h5.trans (RUp.of_below hK)⟩
    | _ + 12, _, _ => trivial
  · intro _ b x ls hR hS hself hup hdn hk
    have h0 : b.eval (.tmp 0) = .pointer (some ⟨F, 0, none⟩) := Eq.mp (by kernel_rfl) (hk 0 (by decide))
    have lA : ls 11 = false := hdn [] 11 _ rfl (by kernel_rfl)
    have hb := hS lA
    exact Rg.does_move ⟨by rw [if_neg (by decide)]; exact Below.refl _ _, h0, fun hh => hS hh⟩
  · intro _ b x ls hR hS hself hup hdn hk
    have h1 : b.eval (.tmp 1) = .pointer (some ⟨g, off, none⟩) := Eq.mp (by kernel_rfl) (hk 1 (by decide))
    have lA : ls 11 = false := hdn [10, 3, 2] 11 _ rfl (by kernel_rfl)
    have hb := hS lA
    exact Rg.does_move ⟨by rw [if_neg (by decide)]; exact Below.refl _ _, h1, fun hh => hS hh⟩
  · intro _ b x ls hR hS hself hup hdn hk
    have h35 : b.eval (.tmp 35) = .pointer (some ⟨g, off, none⟩) := Eq.mp (by kernel_rfl) (hk 35 (by decide))
    have lA : ls 11 = false := hdn [10, 3] 11 _ rfl (by kernel_rfl)
    have hb := hS lA
    exact Ap.does_nil _ h35 ⟨by rw [if_neg (by decide)]; exact Below.refl _ _, rfl, fun hh => hS hh⟩
  · intro _ b x ls hR hS hself hup hdn hk
    have h36 : b.eval (.tmp 36) = .pointer (some ⟨g, off, none⟩) := Eq.mp (by kernel_rfl) (hk 36 (by decide))
    have lA : ls 11 = false := hdn [10] 11 _ rfl (by kernel_rfl)
    have hb := hS lA
    exact Rs.does_field _ _ h36 (fld_st6 g off x) ⟨by rw [if_neg (by decide)]; exact Below.refl _ _, rfl, fun hh => hS hh⟩
  · intro _ b x ls hR hS hself hup hdn hk
    have h1 : b.eval (.tmp 1) = .pointer (some ⟨g, off, none⟩) := Eq.mp (by kernel_rfl) (hk 1 (by decide))
    have lA : ls 11 = false := hdn [10, 6, 5] 11 _ rfl (by kernel_rfl)
    have hb := hS lA
    exact Rg.does_move ⟨by rw [if_neg (by decide)]; exact Below.refl _ _, h1, fun hh => hS hh⟩
  · intro _ b x ls hR hS hself hup hdn hk
    have h38 : b.eval (.tmp 38) = .pointer (some ⟨g, off, none⟩) := Eq.mp (by kernel_rfl) (hk 38 (by decide))
    have lA : ls 11 = false := hdn [10, 6] 11 _ rfl (by kernel_rfl)
    have hb := hS lA
    exact Ap.does_nil _ h38 ⟨by rw [if_neg (by decide)]; exact Below.refl _ _, rfl, fun hh => hS hh⟩
  · intro _ b x ls hR hS hself hup hdn hk
    have h39 : b.eval (.tmp 39) = .pointer (some ⟨g, off, none⟩) := Eq.mp (by kernel_rfl) (hk 39 (by decide))
    have lA : ls 11 = false := hdn [10] 11 _ rfl (by kernel_rfl)
    have hb := hS lA
    exact Rs.does_field _ _ h39 (fld_st7 g off x) ⟨by rw [if_neg (by decide)]; exact Below.refl _ _, rfl, fun hh => hS hh⟩
  · intro _ b x ls hR hS hself hup hdn hk
    have h1 : b.eval (.tmp 1) = .pointer (some ⟨g, off, none⟩) := Eq.mp (by kernel_rfl) (hk 1 (by decide))
    have lA : ls 11 = false := hdn [10, 9, 8] 11 _ rfl (by kernel_rfl)
    have hb := hS lA
    exact Rg.does_move ⟨by rw [if_neg (by decide)]; exact Below.refl _ _, h1, fun hh => hS hh⟩
  · intro _ b x ls hR hS hself hup hdn hk
    have h41 : b.eval (.tmp 41) = .pointer (some ⟨g, off, none⟩) := Eq.mp (by kernel_rfl) (hk 41 (by decide))
    have lA : ls 11 = false := hdn [10, 9] 11 _ rfl (by kernel_rfl)
    have hb := hS lA
    exact Ap.does_nil _ h41 ⟨by rw [if_neg (by decide)]; exact Below.refl _ _, rfl, fun hh => hS hh⟩
  · intro _ b x ls hR hS hself hup hdn hk
    have h42 : b.eval (.tmp 42) = .pointer (some ⟨g, off, none⟩) := Eq.mp (by kernel_rfl) (hk 42 (by decide))
    have lA : ls 11 = false := hdn [10] 11 _ rfl (by kernel_rfl)
    have hb := hS lA
    exact Rs.does_field _ _ h42 (fld_st8 g off x) ⟨by rw [if_neg (by decide)]; exact Below.refl _ _, rfl, fun hh => hS hh⟩
  · intro _ b x ls hR hS hself hup hdn hk
    have h37 : b.eval (.tmp 37) = .pointer (some ⟨g, off + 22, none⟩) := Eq.mp (by kernel_rfl) (hk 37 (by decide))
    have h40 : b.eval (.tmp 40) = .pointer (some ⟨g, off + 23, none⟩) := Eq.mp (by kernel_rfl) (hk 40 (by decide))
    have h43 : b.eval (.tmp 43) = .pointer (some ⟨g, off + 24, none⟩) := Eq.mp (by kernel_rfl) (hk 43 (by decide))
    have lA : ls 11 = false := hdn [] 11 _ rfl (by kernel_rfl)
    have hb := hS lA
    have hal := (Below.refl x.heap.size x).alloc (Nat.le_refl _) (.cells #[.pointer (some ⟨g, off + 22, none⟩), .pointer (some ⟨g, off + 23, none⟩), .pointer (some ⟨g, off + 24, none⟩)] 107)
    exact Rg.does_build #[(0, .pointer (some ⟨g, off + 22, none⟩)), (1, .pointer (some ⟨g, off + 23, none⟩)), (2, .pointer (some ⟨g, off + 24, none⟩))] _ (by simp [h37, h40, h43]) (by go_simp) ⟨by rw [if_neg (by decide)]; exact hal, ⟨x.heap.size, rfl, hb.size, heap_alloc_new x _⟩, fun hh => hb.trans (hal.mono hb.size)⟩
  · intro _ b x ls hR hS hself hup hdn hk
    have h34 : b.eval (.tmp 34) = .pointer (some ⟨F, 0, none⟩) := Eq.mp (by kernel_rfl) (hk 34 (by decide))
    have h44 : (fun u x => ∃ b, u = .slice (some ⟨b, 0, none⟩) 3 3 ∧ w6.heap.size ≤ b ∧ x.heap[b]? = some (.cells #[.pointer (some ⟨g, off + 22, none⟩), .pointer (some ⟨g, off + 23, none⟩), .pointer (some ⟨g, off + 24, none⟩)] 107)) (b.eval (.tmp 44)) x := Eq.mp (by kernel_rfl) (hk 44 (by decide))
    have hb := hS hself
    obtain ⟨b1, hq2, hq4, hq5⟩ := h44
    refine Rg.does_func #[.pointer (some ⟨F, 0, none⟩), .slice (some ⟨b1, 0, none⟩) 3 3] Try.func46 (by kernel_rfl) (by kernel_rfl) (by simp [h34, hq2]) (rk_nums_h (many_more (many_more (many_one numC iv))) x F q l6 e6 g (off + 22) cu6 t b1 (HR6.out.below hb) ((hb.block g HC6.out.lt).trans HC6.out) (fun j hj => by have h6 := (zer_fst HZ6.out); match j, hj with | 0, _ => exact h6 0 (by decide) | 1, _ => exact h6 1 (by decide) | 2, _ => exact h6 2 (by decide)) HG.out ⟨⟨_, hq5, fun j hj => by match j, hj with | 0, _ => rfl | 1, _ => rfl | 2, _ => rfl⟩⟩ (by have := HR6.out.F_lt; omega) (by have := HC6.out.lt; omega) (by decide)) ?_
    rintro e' w' ⟨rfl, hr, hcu, hu⟩
    exact ⟨_, rfl, by rw [if_pos rfl]; exact hu, ⟨rfl, hr, hcu, (RUp.of_below hb).trans hu⟩, fun hh => by simp [Rs.upd] at hh⟩
  · intro vals w7 ls _ hSD _ hL
    obtain ⟨g0, g1, g2, g3, g4, g5, g6, g7, g8, g9, g10, g11, _⟩ := hL
    obtain ⟨eT, hr, hc, hu⟩ := g11
    have hl : (num3V ((pairC numC (pairC numC numC)).dec l6 e6).1).length = 3 := rfl
    obtain ⟨v7, hv⟩ : ∃ v, num3V ((pairC numC (pairC numC numC)).dec l6 e6).1 = v := ⟨_, rfl⟩
    have hH : flatH num3V w7 v7 ((pairC numC (pairC numC numC)).dec l6 e6).1 := hv.symm
    rw [hv] at hc hl
    clear hv
    rw [← HCC6.out] at hc
    have HC6 := HC6; have HZ6 := HZ6
    rw [← HCC6.out] at HC6 HZ6
    have q0 := g0; have q1 := g1
    obtain ⟨⟨a7, l7, e7⟩, hd⟩ : ∃ x, (pairC numC (pairC numC numC)).dec l6 e6 = x := ⟨_, rfl⟩
    rw [hd] at hr hH
    have HD7 := Lib.hid hd
    have HR7 : Hid (RkI F q l7 e7 w7) := hr
    have HL7 : Hid (v7.length = 3) := hl
    have HK7 : Hid (Kept (inner2) w6 w7) := Kept.up HR6.out HC6.out HT.out rfl rfl hu
    have HH7 : Hid ((flatH num3V) w7 v7 a7) := hH
    have HU7 := Lib.hid (HU6.out.trans hu)
    rw [splice_two (k := 22) HV6.out rfl (by have := HBd.out; omega)] at hc
    have HC7 : Hid (Cut g (splice cur off (v1 ++ v2 ++ v3 ++ v4 ++ v5 ++ v6 ++ v7)) t w7) := hc
    have HV7 : Hid ((v1 ++ v2 ++ v3 ++ v4 ++ v5 ++ v6 ++ v7).length = 25) := by show _ = _; rw [List.length_append, HV6.out, HL7.out]
    have hz := zer_step (off' := off + 25) HZ6.out HL7.out rfl (by omega)
    rw [splice_two (k := 22) HV6.out rfl (by have := HBd.out; omega)] at hz
    have HZ7 : Hid (Zer (splice cur off (v1 ++ v2 ++ v3 ++ v4 ++ v5 ++ v6 ++ v7)) (off + 25) ([.bool false, .bool false, .bool false] ++ ([.int .i64 0]))) := hz
    clear hz
    clear hr hl hc hH hu hd
    simp only [Rg.putAll, List.take_succ_cons, List.take_zero, List.drop_succ_cons, List.drop_zero, List.setIfInBounds_toArray, List.set_cons_succ, List.set_cons_zero]
    clear g0 g1 g2 g3 g4 g5 g6 g7 g8 g9 g10 eT q0 q1
    go_upto_region 7 with fail
    generalize hcc : splice cur off (v1 ++ v2 ++ v3 ++ v4 ++ v5 ++ v6 ++ v7) = cu7 at *
    have HCC7 := Lib.hid hcc
    clear hcc
    refine Rt.wp_region_rkt 12 [] [Rg.Is (.pointer (some ⟨F, 0, none⟩)), Rg.Is (.pointer (some ⟨g, off, none⟩)), Rg.Is (.pointer (some ⟨g, off, none⟩)), Rg.Is (.pointer (some ⟨g, off + 25, none⟩)), Rg.Is (.pointer (some ⟨g, off, none⟩)), Rg.Is (.pointer (some ⟨g, off, none⟩)), Rg.Is (.pointer (some ⟨g, off + 26, none⟩)), Rg.Is (.pointer (some ⟨g, off, none⟩)), Rg.Is (.pointer (some ⟨g, off, none⟩)), Rg.Is (.pointer (some ⟨g, off + 27, none⟩)), (fun u x => ∃ b, u = .slice (some ⟨b, 0, none⟩) 3 3 ∧ w7.heap.size ≤ b ∧ x.heap[b]? = some (.cells #[.pointer (some ⟨g, off + 25, none⟩), .pointer (some ⟨g, off + 26, none⟩), .pointer (some ⟨g, off + 27, none⟩)] 109)), (fun u x => u = .tuple #[] ∧ RkI F q ((pairC bitC (pairC bitC bitC)).dec l7 e7).2.1 ((pairC bitC (pairC bitC bitC)).dec l7 e7).2.2 x ∧ Cut g (splice cu7 (off + 25) (bit3V ((pairC bitC (pairC bitC bitC)).dec l7 e7).1)) t x ∧ RUp F q g w7 x)] (fun _ _ => True) (fun ls x => ls 11 = false → Below w7.heap.size w7 x) (fun k x y => if k = 11 then (RUp F q g x y) else Below x.heap.size x y) (by kernel_rfl) (by kernel_rfl) (of_decide_eq_true (by kernel_rfl)) (by kernel_rfl) (by kernel_rfl) trivial (fun _ => ⟨rfl, rfl, rfl, Nat.le_refl _, fun _ _ => rfl⟩) (fun ls ls' x e h1 h2 => h1 (by rw [e]; exact h2)) (fun _ _ _ _ _ => trivial) (fun i ls x _ h1 => by rw [show ([] : List Bool).getD i true = true from rfl] at h1; cases h1) ?_ ⟨rfl, rfl, rfl, rfl, rfl, rfl, rfl, rfl, rfl, rfl, rfl, rfl, trivial⟩ ⟨?_, ?_, ?_, ?_, ?_, ?_, ?_, ?_, ?_, ?_, ?_, ?_, trivial⟩ ?_
    · intro i k u x y hik _ h1 hK
      match i, h1, hik with
      | 0, h1, _ => exact h1
      | 1, h1, _ => exact h1
      | 2, h1, _ => exact h1
      | 3, h1, _ => exact h1
      | 4, h1, _ => exact h1
      | 5, h1, _ => exact h1
      | 6, h1, _ => exact h1
      | 7, h1, _ => exact h1
      | 8, h1, _ => exact h1
      | 9, h1, _ => exact h1
      | 10, h1, hik =>
        obtain ⟨b, h2, h4, h5⟩ := h1
        have hbs := (Array.getElem?_eq_some_iff.1 h5).1
        by_cases hk : k = 11
        · subst hk
          rw [if_pos rfl] at hK
          have h9 : y.heap[b]? = x.heap[b]? := hK.block b hbs (by have := HR7.out.F_lt; omega) (by have := HR7.out.F_lt; have := HR7.out.lt; omega) (by have := HC7.out.lt; omega)
          exact ⟨b, h2, h4, h9.trans h5⟩
        · rw [if_neg hk] at hK
          exact ⟨b, h2, h4, (hK.block b hbs).trans h5⟩
      | 11, h1, hik =>
        rw [if_neg (fun e => hik e.symm)] at hK
        obtain ⟨h2, h3, h4, h5⟩ := h1
        exact ⟨h2, h3.below hK, (hK.block g h4.lt).trans h4, h5.trans (RUp.of_below hK)⟩
      | _ + 12, _, _ => trivial
    · intro _ b x ls hR hS hself hup hdn hk
      have h0 : b.eval (.tmp 0) = .pointer (some ⟨F, 0, none⟩) := Eq.mp (by kernel_rfl) (hk 0 (by decide))
      have lA : ls 11 = false := hdn [] 11 _ rfl (by kernel_rfl)
      have hb := hS lA
      exact Rg.does_move ⟨by rw [if_neg (by decide)]; exact Below.refl _ _, h0, fun hh => hS hh⟩
    · intro _ b x ls hR hS hself hup hdn hk
      have h1 : b.eval (.tmp 1) = .pointer (some ⟨g, off, none⟩) := Eq.mp (by kernel_rfl) (hk 1 (by decide))
      have lA : ls 11 = false := hdn [10, 3, 2] 11 _ rfl (by kernel_rfl)
      have hb := hS lA
      exact Rg.does_move ⟨by rw [if_neg (by decide)]; exact Below.refl _ _, h1, fun hh => hS hh⟩
    · intro _ b x ls hR hS hself hup hdn hk
      have h47 : b.eval (.tmp 47) = .pointer (some ⟨g, off, none⟩) := Eq.mp (by kernel_rfl) (hk 47 (by decide))
      have lA : ls 11 = false := hdn [10, 3] 11 _ rfl (by kernel_rfl)
      have hb := hS lA
      exact Ap.does_nil _ h47 ⟨by rw [if_neg (by decide)]; exact Below.refl _ _, rfl, fun hh => hS hh⟩
    · intro _ b x ls hR hS hself hup hdn hk
      have h48 : b.eval (.tmp 48) = .pointer (some ⟨g, off, none⟩) := Eq.mp (by kernel_rfl) (hk 48 (by decide))
      have lA : ls 11 = false := hdn [10] 11 _ rfl (by kernel_rfl)
      have hb := hS lA
      exact Rs.does_field _ _ h48 (fld_st9 g off x) ⟨by rw [if_neg (by decide)]; exact Below.refl _ _, rfl, fun hh => hS hh⟩
    · intro _ b x ls hR hS hself hup hdn hk
      have h1 : b.eval (.tmp 1) = .pointer (some ⟨g, off, none⟩) := Eq.mp (by kernel_rfl) (hk 1 (by decide))
      have lA : ls 11 = false := hdn [10, 6, 5] 11 _ rfl (by kernel_rfl)
      have hb := hS lA
      exact Rg.does_move ⟨by rw [if_neg (by decide)]; exact Below.refl _ _, h1, fun hh => hS hh⟩
    · intro _ b x ls hR hS hself hup hdn hk
      have h50 : b.eval (.tmp 50) = .pointer (some ⟨g, off, none⟩) := Eq.mp (by kernel_rfl) (hk 50 (by decide))
      have lA : ls 11 = false := hdn [10, 6] 11 _ rfl (by kernel_rfl)
      have hb := hS lA
      exact Ap.does_nil _ h50 ⟨by rw [if_neg (by decide)]; exact Below.refl _ _, rfl, fun hh => hS hh⟩
    · intro _ b x ls hR hS hself hup hdn hk
      have h51 : b.eval (.tmp 51) = .pointer (some ⟨g, off, none⟩) := Eq.mp (by kernel_rfl) (hk 51 (by decide))
      have lA : ls 11 = false := hdn [10] 11 _ rfl (by kernel_rfl)
      have hb := hS lA
      exact Rs.does_field _ _ h51 (fld_st10 g off x) ⟨by rw [if_neg (by decide)]; exact Below.refl _ _, rfl, fun hh => hS hh⟩
    · intro _ b x ls hR hS hself hup hdn hk
      have h1 : b.eval (.tmp 1) = .pointer (some ⟨g, off, none⟩) := Eq.mp (by kernel_rfl) (hk 1 (by decide))
      have lA : ls 11 = false := hdn [10, 9, 8] 11 _ rfl (by kernel_rfl)
      have hb := hS lA
      exact Rg.does_move ⟨by rw [if_neg (by decide)]; exact Below.refl _ _, h1, fun hh => hS hh⟩
    · intro _ b x ls hR hS hself hup hdn hk
      have h53 : b.eval (.tmp 53) = .pointer (some ⟨g, off, none⟩) := Eq.mp (by kernel_rfl) (hk 53 (by decide))
      have lA : ls 11 = false := hdn [10, 9] 11 _ rfl (by kernel_rfl)
      have hb := hS lA
      exact Ap.does_nil _ h53 ⟨by rw [if_neg (by decide)]; exact Below.refl _ _, rfl, fun hh => hS hh⟩
    · intro _ b x ls hR hS hself hup hdn hk
      have h54 : b.eval (.tmp 54) = .pointer (some ⟨g, off, none⟩) := Eq.mp (by kernel_rfl) (hk 54 (by decide))
      have lA : ls 11 = false := hdn [10] 11 _ rfl (by kernel_rfl)
      have hb := hS lA
      exact Rs.does_field _ _ h54 (fld_st11 g off x) ⟨by rw [if_neg (by decide)]; exact Below.refl _ _, rfl, fun hh => hS hh⟩
    · intro _ b x ls hR hS hself hup hdn hk
      have h49 : b.eval (.tmp 49) = .pointer (some ⟨g, off + 25, none⟩) := Eq.mp (by kernel_rfl) (hk 49 (by decide))
      have h52 : b.eval (.tmp 52) = .pointer (some ⟨g, off + 26, none⟩) := Eq.mp (by kernel_rfl) (hk 52 (by decide))
      have h55 : b.eval (.tmp 55) = .pointer (some ⟨g, off + 27, none⟩) := Eq.mp (by kernel_rfl) (hk 55 (by decide))
      have lA : ls 11 = false := hdn [] 11 _ rfl (by kernel_rfl)
      have hb := hS lA
      have hal := (Below.refl x.heap.size x).alloc (Nat.le_refl _) (.cells #[.pointer (some ⟨g, off + 25, none⟩), .pointer (some ⟨g, off + 26, none⟩), .pointer (some ⟨g, off + 27, none⟩)] 109)
      exact Rg.does_build #[(0, .pointer (some ⟨g, off + 25, none⟩)), (1, .pointer (some ⟨g, off + 26, none⟩)), (2, .pointer (some ⟨g, off + 27, none⟩))] _ (by simp [h49, h52, h55]) (by go_simp) ⟨by rw [if_neg (by decide)]; exact hal, ⟨x.heap.size, rfl, hb.size, heap_alloc_new x _⟩, fun hh => hb.trans (hal.mono hb.size)⟩
    · intro _ b x ls hR hS hself hup hdn hk
      have h46 : b.eval (.tmp 46) = .pointer (some ⟨F, 0, none⟩) := Eq.mp (by kernel_rfl) (hk 46 (by decide))
      have h56 : (fun u x => ∃ b, u = .slice (some ⟨b, 0, none⟩) 3 3 ∧ w7.heap.size ≤ b ∧ x.heap[b]? = some (.cells #[.pointer (some ⟨g, off + 25, none⟩), .pointer (some ⟨g, off + 26, none⟩), .pointer (some ⟨g, off + 27, none⟩)] 109)) (b.eval (.tmp 56)) x := Eq.mp (by kernel_rfl) (hk 56 (by decide))
      have hb := hS hself
      obtain ⟨b1, hq2, hq4, hq5⟩ := h56
      refine Rg.does_func #[.pointer (some ⟨F, 0, none⟩), .slice (some ⟨b1, 0, none⟩) 3 3] Try.func47 (by kernel_rfl) (by kernel_rfl) (by simp [h46, hq2]) (rk_bits_h (many_more (many_more (many_one bitC bv1))) x F q l7 e7 g (off + 25) cu7 t b1 (HR7.out.below hb) ((hb.block g HC7.out.lt).trans HC7.out) (fun j hj => by have h6 := (zer_fst HZ7.out); match j, hj with | 0, _ => exact h6 0 (by decide) | 1, _ => exact h6 1 (by decide) | 2, _ => exact h6 2 (by decide)) HG.out ⟨⟨_, hq5, fun j hj => by match j, hj with | 0, _ => rfl | 1, _ => rfl | 2, _ => rfl⟩⟩ (by have := HR7.out.F_lt; omega) (by have := HC7.out.lt; omega) (by decide)) ?_
      rintro e' w' ⟨rfl, hr, hcu, hu⟩
      exact ⟨_, rfl, by rw [if_pos rfl]; exact hu, ⟨rfl, hr, hcu, (RUp.of_below hb).trans hu⟩, fun hh => by simp [Rs.upd] at hh⟩
    · intro vals w8 ls _ hSD _ hL
      obtain ⟨g0, g1, g2, g3, g4, g5, g6, g7, g8, g9, g10, g11, _⟩ := hL
      obtain ⟨eT, hr, hc, hu⟩ := g11
      have hl : (bit3V ((pairC bitC (pairC bitC bitC)).dec l7 e7).1).length = 3 := rfl
      obtain ⟨v8, hv⟩ : ∃ v, bit3V ((pairC bitC (pairC bitC bitC)).dec l7 e7).1 = v := ⟨_, rfl⟩
      have hH : flatH bit3V w8 v8 ((pairC bitC (pairC bitC bitC)).dec l7 e7).1 := hv.symm
      rw [hv] at hc hl
      clear hv
      rw [← HCC7.out] at hc
      have HC7 := HC7; have HZ7 := HZ7
      rw [← HCC7.out] at HC7 HZ7
      have q0 := g0; have q1 := g1
      obtain ⟨⟨a8, l8, e8⟩, hd⟩ : ∃ x, (pairC bitC (pairC bitC bitC)).dec l7 e7 = x := ⟨_, rfl⟩
      rw [hd] at hr hH
      have HD8 := Lib.hid hd
      have HR8 : Hid (RkI F q l8 e8 w8) := hr
      have HL8 : Hid (v8.length = 3) := hl
      have HK8 : Hid (Kept (inner2) w7 w8) := Kept.up HR7.out HC7.out HT.out rfl rfl hu
      have HH8 : Hid ((flatH bit3V) w8 v8 a8) := hH
      have HU8 := Lib.hid (HU7.out.trans hu)
      rw [splice_two (k := 25) HV7.out rfl (by have := HBd.out; omega)] at hc
      have HC8 : Hid (Cut g (splice cur off (v1 ++ v2 ++ v3 ++ v4 ++ v5 ++ v6 ++ v7 ++ v8)) t w8) := hc
      have HV8 : Hid ((v1 ++ v2 ++ v3 ++ v4 ++ v5 ++ v6 ++ v7 ++ v8).length = 28) := by show _ = _; rw [List.length_append, HV7.out, HL8.out]
      have hz := zer_step (off' := off + 28) HZ7.out HL8.out rfl (by omega)
      rw [splice_two (k := 25) HV7.out rfl (by have := HBd.out; omega)] at hz
      have HZ8 : Hid (Zer (splice cur off (v1 ++ v2 ++ v3 ++ v4 ++ v5 ++ v6 ++ v7 ++ v8)) (off + 28) ([.int .i64 0])) := hz
      clear hz
      clear hr hl hc hH hu hd
      simp only [Rg.putAll, List.take_succ_cons, List.take_zero, List.drop_succ_cons, List.drop_zero, List.setIfInBounds_toArray, List.set_cons_succ, List.set_cons_zero]
      clear g0 g1 g2 g3 g4 g5 g6 g7 g8 g9 g10 eT q0 q1
      go_wp2_with fail
      refine ((numE_rk.h (fun _ => rfl)) w8 F q l8 e8 g (off + 28) _ t HR8.out HC8.out HZ8.out HG.out rfl).mono ?_
      rintro r w9 ⟨rfl, hr, ⟨v9, hl, hc, hH⟩, hu⟩
      obtain ⟨⟨a9, l9, e9⟩, hd⟩ : ∃ x, (numC).dec l8 e8 = x := ⟨_, rfl⟩
      rw [hd] at hr hH
      have HD9 := Lib.hid hd
      have HR9 : Hid (RkI F q l9 e9 w9) := hr
      have HL9 : Hid (v9.length = 1) := hl
      have HK9 : Hid (Kept (inner2) w8 w9) := Kept.up HR8.out HC8.out HT.out rfl rfl hu
      have HH9 : Hid ((flatH numV) w9 v9 a9) := hH
      have HU9 := Lib.hid (HU8.out.trans hu)
      rw [splice_two (k := 28) HV8.out rfl (by have := HBd.out; omega)] at hc
      have HC9 : Hid (Cut g (splice cur off (v1 ++ v2 ++ v3 ++ v4 ++ v5 ++ v6 ++ v7 ++ v8 ++ v9)) t w9) := hc
      have HV9 : Hid ((v1 ++ v2 ++ v3 ++ v4 ++ v5 ++ v6 ++ v7 ++ v8 ++ v9).length = 29) := by show _ = _; rw [List.length_append, HV8.out, HL9.out]
      clear hr hl hc hH hu hd
      go_wp2_with fail
      refine bodyPost_end (v := .tuple #[]) (results_none rfl _ _ _) rfl ?_
      have HD : Hid ((stateC).dec l0 e0 = ((a1, (a2, (a3, (a4, (a5, (a6, (a7, (a8, a9)))))))), l9, e9)) := by
        show ((pairC (keepC) (pairC (rowC txtC) (pairC (rowC frameC) (pairC (reqC) (pairC (ansC) (pairC (rowC numC) (pairC (pairC numC (pairC numC numC)) (pairC (pairC bitC (pairC bitC bitC)) (numC)))))))))).dec l0 e0 = _
        rw [pairC_dec HD1.out, pairC_dec HD2.out, pairC_dec HD3.out, pairC_dec HD4.out, pairC_dec HD5.out, pairC_dec HD6.out, pairC_dec HD7.out, pairC_dec HD8.out, HD9.out]
      have hc := HC9.out
      rw [List.append_assoc, List.append_assoc, List.append_assoc, List.append_assoc, List.append_assoc, List.append_assoc, List.append_assoc] at hc
      have hv := HV9.out
      rw [List.append_assoc, List.append_assoc, List.append_assoc, List.append_assoc, List.append_assoc, List.append_assoc, List.append_assoc] at hv
      rw [HD.out]
      exact ⟨rfl, HR9.out, ⟨_, hv, hc, v1, _, rfl, HL1.out, (st_less keep_st inner_less).keep HH1.out (HK2.out.trans (HK3.out.trans (HK4.out.trans (HK5.out.trans (HK6.out.trans (HK7.out.trans (HK8.out.trans HK9.out))))))), v2, _, rfl, HL2.out, (st_less strs_st inner_less).keep HH2.out (HK3.out.trans (HK4.out.trans (HK5.out.trans (HK6.out.trans (HK7.out.trans (HK8.out.trans HK9.out)))))), v3, _, rfl, HL3.out, (frames_st).keep HH3.out (HK4.out.trans (HK5.out.trans (HK6.out.trans (HK7.out.trans (HK8.out.trans HK9.out))))), v4, _, rfl, HL4.out, (st_less req_st inner_less).keep HH4.out (HK5.out.trans (HK6.out.trans (HK7.out.trans (HK8.out.trans HK9.out)))), v5, _, rfl, HL5.out, (st_less ans_st inner_less).keep HH5.out (HK6.out.trans (HK7.out.trans (HK8.out.trans HK9.out))), v6, _, rfl, HL6.out, (ints_st).keep HH6.out (HK7.out.trans (HK8.out.trans HK9.out)), v7, _, rfl, HL7.out, HH7.out, v8, _, rfl, HL8.out, HH8.out, HH9.out⟩, HU9.out⟩
end Go.Proofs.Ytmhofdoifgfjfaa
