/-
  State: a frame, read. Conditions: as each contract says.
-/
import Derived.Test.YtmhofdoifgfjfaaStKeepR2
set_option linter.unusedVariables false
set_option maxRecDepth 100000
namespace Go.Proofs.Ytmhofdoifgfjfaa
open Go.RowKit Base

def frameH : World → List Value → FrameD → Prop := pairH 5 (flatH num5V) (pairH 1 (flatH bitV) (pairH 1 (flatH numV) (pairH 1 (flatH numV) (pairH 1 (flatH txtV) (pairH 1 int64sH (pairH 1 strsH (pairH 1 cellsH keepH)))))))
theorem frame_st : St inner frameH := pair_st (flat_st _ _) (pair_st (flat_st _ _) (pair_st (flat_st _ _) (pair_st (flat_st _ _) (pair_st (flat_st _ _) (pair_st int64s_st (pair_st strs_st (pair_st cells_st keep_st)))))))
set_option maxHeartbeats 4000000 in
theorem frame_rk : RkH 41 frameC [.int .i64 0, .int .i64 0, .int .i64 0, .int .i64 0, .int .i64 0, .bool false, .int .i64 0, .int .i64 0, .string ⟨#[]⟩, .slice none 0 0, .slice none 0 0, .slice none 0 0, .slice none 0 0, .slice none 0 0, .int .i64 0, .string ⟨#[]⟩, .slice none 0 0, .slice none 0 0, .slice none 0 0] (frameH) (inner) := by
  intro W F q l0 e0 g off cur t hr hc hz hg ht
  have HR0 := Lib.hid hr
  have HC0 := Lib.hid hc
  have HZ0 : Hid (Zer cur off ([.int .i64 0, .int .i64 0, .int .i64 0, .int .i64 0, .int .i64 0] ++ ([.bool false] ++ ([.int .i64 0] ++ ([.int .i64 0] ++ ([.string ⟨#[]⟩] ++ ([.slice none 0 0] ++ ([.slice none 0 0] ++ ([.slice none 0 0] ++ ([.slice none 0 0, .slice none 0 0, .int .i64 0, .string ⟨#[]⟩, .slice none 0 0, .slice none 0 0, .slice none 0 0])))))))))) := hz
  have HBd : Hid (off + 19 ≤ cur.length) := (zer_all hz).resolve_left (fun h => by cases h)
  have HG := Lib.hid hg
  have HT := Lib.hid ht
  clear hr hc hz hg ht
  go_enter Try.func41, Try.ntmps41
  go_upto_region 0 with fail
  refine Rt.wp_region_rkt 18 [] [Rg.Is (.pointer (some ⟨F, 0, none⟩)), Rg.Is (.pointer (some ⟨g, off, none⟩)), Rg.Is (.pointer (some ⟨g, off, none⟩)), Rg.Is (.pointer (some ⟨g, off, none⟩)), Rg.Is (.pointer (some ⟨g, off, none⟩)), Rg.Is (.pointer (some ⟨g, off, none⟩)), Rg.Is (.pointer (some ⟨g, off + 1, none⟩)), Rg.Is (.pointer (some ⟨g, off, none⟩)), Rg.Is (.pointer (some ⟨g, off, none⟩)), Rg.Is (.pointer (some ⟨g, off + 2, none⟩)), Rg.Is (.pointer (some ⟨g, off, none⟩)), Rg.Is (.pointer (some ⟨g, off, none⟩)), Rg.Is (.pointer (some ⟨g, off + 3, none⟩)), Rg.Is (.pointer (some ⟨g, off, none⟩)), Rg.Is (.pointer (some ⟨g, off, none⟩)), Rg.Is (.pointer (some ⟨g, off + 4, none⟩)), (fun u x => ∃ b, u = .slice (some ⟨b, 0, none⟩) 5 5 ∧ W.heap.size ≤ b ∧ x.heap[b]? = some (.cells #[.pointer (some ⟨g, off, none⟩), .pointer (some ⟨g, off + 1, none⟩), .pointer (some ⟨g, off + 2, none⟩), .pointer (some ⟨g, off + 3, none⟩), .pointer (some ⟨g, off + 4, none⟩)] 107)), (fun u x => u = .tuple #[] ∧ RkI F q ((pairC numC (pairC numC (pairC numC (pairC numC numC)))).dec l0 e0).2.1 ((pairC numC (pairC numC (pairC numC (pairC numC numC)))).dec l0 e0).2.2 x ∧ Cut g (splice cur off (num5V ((pairC numC (pairC numC (pairC numC (pairC numC numC)))).dec l0 e0).1)) t x ∧ RUp F q g W x)] (fun _ _ => True) (fun ls x => ls 17 = false → Below W.heap.size W x) (fun k x y => if k = 17 then (RUp F q g x y) else Below x.heap.size x y) (by kernel_rfl) (by kernel_rfl) (of_decide_eq_true (by kernel_rfl)) (by kernel_rfl) (by kernel_rfl) trivial (fun _ => ⟨rfl, rfl, rfl, Nat.le_refl _, fun _ _ => rfl⟩) (fun ls ls' x e h1 h2 => h1 (by rw [e]; exact h2)) (fun _ _ _ _ _ => trivial) (fun i ls x _ h1 => by rw [show ([] : List Bool).getD i true = true from rfl] at h1; cases h1) ?_ ⟨rfl, rfl, rfl, rfl, rfl, rfl, rfl, rfl, rfl, rfl, rfl, rfl, rfl, rfl, rfl, rfl, rfl, rfl, trivial⟩ ⟨?_, ?_, ?_, ?_, ?_, ?_, ?_, ?_, ?_, ?_, ?_, ?_, ?_, ?_, ?_, ?_, ?_, ?_, trivial⟩ ?_
  · intro i k u x y hik _ h1 hK
    match i, h1, hik with
    | 0, h1, _ => exact h1
    | 1, h1, _ => exact h1
    | 2, h1, _ => exact h1
    | 3, h1, _ => exact h1
    | 4, h1, _ => exact h1
    | 5, h1, _ => exact h1
    | 6, h1, _ => exact h1
    | 7, h1, _ => exact h1
    | 8, h1, _ => exact h1
    | 9, h1, _ => exact h1
    | 10, h1, _ => exact h1
    | 11, h1, _ => exact h1
    | 12, h1, _ => exact h1
    | 13, h1, _ => exact h1
    | 14, h1, _ => exact h1
    | 15, h1, _ => exact h1
    | 16, h1, hik =>
      obtain ⟨b, h2, h4, h5⟩ := h1
      have hbs := (Array.getElem?_eq_some_iff.1 h5).1
      by_cases hk : k = 17
      · subst hk
        rw [if_pos rfl] at hK
        have h9 : y.heap[b]? = x.heap[b]? := hK.block b hbs (by have := HR0.out.F_lt; omega) (by have := HR0.out.F_lt; have := HR0.out.lt; omega) (by have := HC0.out.lt; omega)
        exact ⟨b, h2, h4, h9.trans h5⟩
      · rw [if_neg hk] at hK
        exact ⟨b, h2, h4, (hK.block b hbs).trans h5⟩
    | 17, h1, hik =>
      rw [if_neg (fun e => hik e.symm)] at hK
      obtain ⟨h2, h3, h4, h5⟩ := h1
      exact ⟨h2, h3.below hK, (hK.block g h4.lt).trans h4, h5.trans (RUp.of_below hK)⟩
    | _ + 18, _, _ => trivial
  · intro _ b x ls hR hS hself hup hdn hk
    have h0 : b.eval (.tmp 0) = .pointer (some ⟨F, 0, none⟩) := Eq.mp (by kernel_rfl) (hk 0 (by decide))
    have lA : ls 17 = false := hdn [] 17 _ rfl (by kernel_rfl)
    have hb := hS lA
    exact Rg.does_move ⟨by rw [if_neg (by decide)]; exact Below.refl _ _, h0, fun hh => hS hh⟩
  · intro _ b x ls hR hS hself hup hdn hk
    have h1 : b.eval (.tmp 1) = .pointer (some ⟨g, off, none⟩) := Eq.mp (by kernel_rfl) (hk 1 (by decide))
    have lA : ls 17 = false := hdn [16, 3, 2] 17 _ rfl (by kernel_rfl)
    have hb := hS lA
    exact Rg.does_move ⟨by rw [if_neg (by decide)]; exact Below.refl _ _, h1, fun hh => hS hh⟩
  · intro _ b x ls hR hS hself hup hdn hk
    have h5 : b.eval (.tmp 5) = .pointer (some ⟨g, off, none⟩) := Eq.mp (by kernel_rfl) (hk 5 (by decide))
    have lA : ls 17 = false := hdn [16, 3] 17 _ rfl (by kernel_rfl)
    have hb := hS lA
    exact Ap.does_nil _ h5 ⟨by rw [if_neg (by decide)]; exact Below.refl _ _, rfl, fun hh => hS hh⟩
  · intro _ b x ls hR hS hself hup hdn hk
    have h6 : b.eval (.tmp 6) = .pointer (some ⟨g, off, none⟩) := Eq.mp (by kernel_rfl) (hk 6 (by decide))
    have lA : ls 17 = false := hdn [16] 17 _ rfl (by kernel_rfl)
    have hb := hS lA
    exact Rs.does_field _ _ h6 (fld_fr0 g off x) ⟨by rw [if_neg (by decide)]; exact Below.refl _ _, rfl, fun hh => hS hh⟩
  · intro _ b x ls hR hS hself hup hdn hk
    have h1 : b.eval (.tmp 1) = .pointer (some ⟨g, off, none⟩) := Eq.mp (by kernel_rfl) (hk 1 (by decide))
    have lA : ls 17 = false := hdn [16, 6, 5] 17 _ rfl (by kernel_rfl)
    have hb := hS lA
    exact Rg.does_move ⟨by rw [if_neg (by decide)]; exact Below.refl _ _, h1, fun hh => hS hh⟩
  · intro _ b x ls hR hS hself hup hdn hk
    have h8 : b.eval (.tmp 8) = .pointer (some ⟨g, off, none⟩) := Eq.mp (by kernel_rfl) (hk 8 (by decide))
    have lA : ls 17 = false := hdn [16, 6] 17 _ rfl (by kernel_rfl)
    have hb := hS lA
    exact Ap.does_nil _ h8 ⟨by rw [if_neg (by decide)]; exact Below.refl _ _, rfl, fun hh => hS hh⟩
  · intro _ b x ls hR hS hself hup hdn hk
    have h9 : b.eval (.tmp 9) = .pointer (some ⟨g, off, none⟩) := Eq.mp (by kernel_rfl) (hk 9 (by decide))
    have lA : ls 17 = false := hdn [16] 17 _ rfl (by kernel_rfl)
    have hb := hS lA
    exact Rs.does_field _ _ h9 (fld_fr1 g off x) ⟨by rw [if_neg (by decide)]; exact Below.refl _ _, rfl, fun hh => hS hh⟩
  · intro _ b x ls hR hS hself hup hdn hk
    have h1 : b.eval (.tmp 1) = .pointer (some ⟨g, off, none⟩) := Eq.mp (by kernel_rfl) (hk 1 (by decide))
    have lA : ls 17 = false := hdn [16, 9, 8] 17 _ rfl (by kernel_rfl)
    have hb := hS lA
    exact Rg.does_move ⟨by rw [if_neg (by decide)]; exact Below.refl _ _, h1, fun hh => hS hh⟩
  · intro _ b x ls hR hS hself hup hdn hk
    have h11 : b.eval (.tmp 11) = .pointer (some ⟨g, off, none⟩) := Eq.mp (by kernel_rfl) (hk 11 (by decide))
    have lA : ls 17 = false := hdn [16, 9] 17 _ rfl (by kernel_rfl)
    have hb := hS lA
    exact Ap.does_nil _ h11 ⟨by rw [if_neg (by decide)]; exact Below.refl _ _, rfl, fun hh => hS hh⟩
  · intro _ b x ls hR hS hself hup hdn hk
    have h12 : b.eval (.tmp 12) = .pointer (some ⟨g, off, none⟩) := Eq.mp (by kernel_rfl) (hk 12 (by decide))
    have lA : ls 17 = false := hdn [16] 17 _ rfl (by kernel_rfl)
    have hb := hS lA
    exact Rs.does_field _ _ h12 (fld_fr2 g off x) ⟨by rw [if_neg (by decide)]; exact Below.refl _ _, rfl, fun hh => hS hh⟩
  · intro _ b x ls hR hS hself hup hdn hk
    have h1 : b.eval (.tmp 1) = .pointer (some ⟨g, off, none⟩) := Eq.mp (by kernel_rfl) (hk 1 (by decide))
    have lA : ls 17 = false := hdn [16, 12, 11] 17 _ rfl (by kernel_rfl)
    have hb := hS lA
    exact Rg.does_move ⟨by rw [if_neg (by decide)]; exact Below.refl _ _, h1, fun hh => hS hh⟩
  · intro _ b x ls hR hS hself hup hdn hk
    have h14 : b.eval (.tmp 14) = .pointer (some ⟨g, off, none⟩) := Eq.mp (by kernel_rfl) (hk 14 (by decide))
    have lA : ls 17 = false := hdn [16, 12] 17 _ rfl (by kernel_rfl)
    have hb := hS lA
    exact Ap.does_nil _ h14 ⟨by rw [if_neg (by decide)]; exact Below.refl _ _, rfl, fun hh => hS hh⟩
  · intro _ b x ls hR hS hself hup hdn hk
    have h15 : b.eval (.tmp 15) = .pointer (some ⟨g, off, none⟩) := Eq.mp (by kernel_rfl) (hk 15 (by decide))
    have lA : ls 17 = false := hdn [16] 17 _ rfl (by kernel_rfl)
    have hb := hS lA
    exact Rs.does_field _ _ h15 (fld_fr3 g off x) ⟨by rw [if_neg (by decide)]; exact Below.refl _ _, rfl, fun hh => hS hh⟩
  · intro _ b x ls hR hS hself hup hdn hk
    have h1 : b.eval (.tmp 1) = .pointer (some ⟨g, off, none⟩) := Eq.mp (by kernel_rfl) (hk 1 (by decide))
    have lA : ls 17 = false := hdn [16, 15, 14] 17 _ rfl (by kernel_rfl)
    have hb := hS lA
    exact Rg.does_move ⟨by rw [if_neg (by decide)]; exact Below.refl _ _, h1, fun hh => hS hh⟩
  · intro _ b x ls hR hS hself hup hdn hk
    have h17 : b.eval (.tmp 17) = .pointer (some ⟨g, off, none⟩) := Eq.mp (by kernel_rfl) (hk 17 (by decide))
    have lA : ls 17 = false := hdn [16, 15] 17 _ rfl (by kernel_rfl)
    have hb := hS lA
    exact Ap.does_nil _ h17 ⟨by rw [if_neg (by decide)]; exact Below.refl _ _, rfl, fun hh => hS hh⟩
  · intro _ b x ls hR hS hself hup hdn hk
    have h18 : b.eval (.tmp 18) = .pointer (some ⟨g, off, none⟩) := Eq.mp (by kernel_rfl) (hk 18 (by decide))
    have lA : ls 17 = false := hdn [16] 17 _ rfl (by kernel_rfl)
    have hb := hS lA
    exact Rs.does_field _ _ h18 (fld_fr4 g off x) ⟨by rw [if_neg (by decide)]; exact Below.refl _ _, rfl, fun hh => hS hh⟩
  · intro _ b x ls hR hS hself hup hdn hk
    have h7 : b.eval (.tmp 7) = .pointer (some ⟨g, off, none⟩) := Eq.mp (by kernel_rfl) (hk 7 (by decide))
    have h10 : b.eval (.tmp 10) = .pointer (some ⟨g, off + 1, none⟩) := Eq.mp (by kernel_rfl) (hk 10 (by decide))
    have h13 : b.eval (.tmp 13) = .pointer (some ⟨g, off + 2, none⟩) := Eq.mp (by kernel_rfl) (hk 13 (by decide))
    have h16 : b.eval (.tmp 16) = .pointer (some ⟨g, off + 3, none⟩) := Eq.mp (by kernel_rfl) (hk 16 (by decide))
    have h19 : b.eval (.tmp 19) = .pointer (some ⟨g, off + 4, none⟩) := Eq.mp (by kernel_rfl) (hk 19 (by decide))
    have lA : ls 17 = false := hdn [] 17 _ rfl (by kernel_rfl)
    have hb := hS lA
    have hal := (Below.refl x.heap.size x).alloc (Nat.le_refl _) (.cells #[.pointer (some ⟨g, off, none⟩), .pointer (some ⟨g, off + 1, none⟩), .pointer (some ⟨g, off + 2, none⟩), .pointer (some ⟨g, off + 3, none⟩), .pointer (some ⟨g, off + 4, none⟩)] 107)
    exact Rg.does_build #[(0, .pointer (some ⟨g, off, none⟩)), (1, .pointer (some ⟨g, off + 1, none⟩)), (2, .pointer (some ⟨g, off + 2, none⟩)), (3, .pointer (some ⟨g, off + 3, none⟩)), (4, .pointer (some ⟨g, off + 4, none⟩))] _ (by simp [h7, h10, h13, h16, h19]) (by go_simp) ⟨by rw [if_neg (by decide)]; exact hal, ⟨x.heap.size, rfl, hb.size, heap_alloc_new x _⟩, fun hh => hb.trans (hal.mono hb.size)⟩
  · intro _ b x ls hR hS hself hup hdn hk
    have h4 : b.eval (.tmp 4) = .pointer (some ⟨F, 0, none⟩) := Eq.mp (by kernel_rfl) (hk 4 (by decide))
    have h20 : (fun u x => ∃ b, u = .slice (some ⟨b, 0, none⟩) 5 5 ∧ W.heap.size ≤ b ∧ x.heap[b]? = some (.cells #[.pointer (some ⟨g, off, none⟩), .pointer (some ⟨g, off + 1, none⟩), .pointer (some ⟨g, off + 2, none⟩), .pointer (some ⟨g, off + 3, none⟩), .pointer (some ⟨g, off + 4, none⟩)] 107)) (b.eval (.tmp 20)) x := Eq.mp (by kernel_rfl) (hk 20 (by decide))
    have hb := hS hself
    obtain ⟨b1, hq2, hq4, hq5⟩ := h20
    refine Rg.does_func #[.pointer (some ⟨F, 0, none⟩), .slice (some ⟨b1, 0, none⟩) 5 5] Try.func46 (by kernel_rfl) (by kernel_rfl) (by simp [h4, hq2]) (rk_nums_h (many_more (many_more (many_more (many_more (many_one numC iv))))) x F q l0 e0 g off cur t b1 (HR0.out.below hb) ((hb.block g HC0.out.lt).trans HC0.out) (fun j hj => by have h6 := (zer_fst HZ0.out); match j, hj with | 0, _ => exact h6 0 (by decide) | 1, _ => exact h6 1 (by decide) | 2, _ => exact h6 2 (by decide) | 3, _ => exact h6 3 (by decide) | 4, _ => exact h6 4 (by decide)) HG.out ⟨⟨_, hq5, fun j hj => by match j, hj with | 0, _ => rfl | 1, _ => rfl | 2, _ => rfl | 3, _ => rfl | 4, _ => rfl⟩⟩ (by have := HR0.out.F_lt; omega) (by have := HC0.out.lt; omega) (by decide)) ?_
    rintro e' w' ⟨rfl, hr, hcu, hu⟩
    exact ⟨_, rfl, by rw [if_pos rfl]; exact hu, ⟨rfl, hr, hcu, (RUp.of_below hb).trans hu⟩, fun hh => by simp [Rs.upd] at hh⟩
  · intro vals w1 ls _ hSD _ hL
    obtain ⟨g0, g1, g2, g3, g4, g5, g6, g7, g8, g9, g10, g11, g12, g13, g14, g15, g16, g17, _⟩ := hL
    obtain ⟨e8, hr, hc, hu⟩ := g17
    have hl : (num5V ((pairC numC (pairC numC (pairC numC (pairC numC numC)))).dec l0 e0).1).length = 5 := rfl
    obtain ⟨v1, hv⟩ : ∃ v, num5V ((pairC numC (pairC numC (pairC numC (pairC numC numC)))).dec l0 e0).1 = v := ⟨_, rfl⟩
    have hH : flatH num5V w1 v1 ((pairC numC (pairC numC (pairC numC (pairC numC numC)))).dec l0 e0).1 := hv.symm
    rw [hv] at hc hl
    clear hv
    have q0 := g0; have q1 := g1
    obtain ⟨⟨a1, l1, e1⟩, hd⟩ : ∃ x, (pairC numC (pairC numC (pairC numC (pairC numC numC)))).dec l0 e0 = x := ⟨_, rfl⟩
    rw [hd] at hr hH
    have HD1 := Lib.hid hd
    have HR1 : Hid (RkI F q l1 e1 w1) := hr
    have HL1 : Hid (v1.length = 5) := hl
    have HK1 : Hid (Kept (inner) W w1) := Kept.up HR0.out HC0.out HT.out rfl rfl hu
    have HH1 : Hid ((flatH num5V) w1 v1 a1) := hH
    have HU1 := Lib.hid hu
    have HC1 : Hid (Cut g (splice cur off (v1)) t w1) := hc
    have HV1 := HL1
    have HZ1 : Hid (Zer (splice cur off v1) (off + 5) ([.bool false] ++ ([.int .i64 0] ++ ([.int .i64 0] ++ ([.string ⟨#[]⟩] ++ ([.slice none 0 0] ++ ([.slice none 0 0] ++ ([.slice none 0 0] ++ ([.slice none 0 0, .slice none 0 0, .int .i64 0, .string ⟨#[]⟩, .slice none 0 0, .slice none 0 0, .slice none 0 0]))))))))) := zer_step HZ0.out HL1.out rfl rfl
    clear hr hl hc hH hu hd
    simp only [Rg.putAll, List.take_succ_cons, List.take_zero, List.drop_succ_cons, List.drop_zero, List.setIfInBounds_toArray, List.set_cons_succ, List.set_cons_zero]
    clear g0 g1 g2 g3 g4 g5 g6 g7 g8 g9 g10 g11 g12 g13 g14 g15 g16 e8 q0 q1
    go_wp2_with fail
    refine (bit1_rkh w1 F q l1 e1 g (off + 5) _ t HR1.out HC1.out (zer_fst HZ1.out) HG.out rfl).mono ?_
    rintro r w2 ⟨rfl, hr, ⟨v2, hl, hc, hH⟩, hu⟩
    obtain ⟨⟨a2, l2, e2⟩, hd⟩ : ∃ x, (bitC).dec l1 e1 = x := ⟨_, rfl⟩
    rw [hd] at hr hH
    have HD2 := Lib.hid hd
    have HR2 : Hid (RkI F q l2 e2 w2) := hr
    have HL2 : Hid (v2.length = 1) := hl
    have HK2 : Hid (Kept (inner) w1 w2) := Kept.up HR1.out HC1.out HT.out rfl rfl hu
    have HH2 : Hid ((flatH bitV) w2 v2 a2) := hH
    have HU2 := Lib.hid (HU1.out.trans hu)
    rw [splice_two (k := 5) HV1.out rfl (by have := HBd.out; omega)] at hc
    have HC2 : Hid (Cut g (splice cur off (v1 ++ v2)) t w2) := hc
    have HV2 : Hid ((v1 ++ v2).length = 6) := by show _ = _; rw [List.length_append, HV1.out, HL2.out]
    have hz := zer_step (off' := off + 6) HZ1.out HL2.out rfl (by omega)
    rw [splice_two (k := 5) HV1.out rfl (by have := HBd.out; omega)] at hz
    have HZ2 : Hid (Zer (splice cur off (v1 ++ v2)) (off + 6) ([.int .i64 0] ++ ([.int .i64 0] ++ ([.string ⟨#[]⟩] ++ ([.slice none 0 0] ++ ([.slice none 0 0] ++ ([.slice none 0 0] ++ ([.slice none 0 0, .slice none 0 0, .int .i64 0, .string ⟨#[]⟩, .slice none 0 0, .slice none 0 0, .slice none 0 0])))))))) := hz
    clear hz
    clear hr hl hc hH hu hd
    go_wp2_with fail
    refine (num64R w2 F q l2 e2 g (off + 6) _ t HR2.out HC2.out (zer_fst HZ2.out) HG.out rfl).mono ?_
    rintro r w3 ⟨rfl, hr, ⟨v3, hl, hc, hH⟩, hu⟩
    obtain ⟨⟨a3, l3, e3⟩, hd⟩ : ∃ x, (numC).dec l2 e2 = x := ⟨_, rfl⟩
    rw [hd] at hr hH
    have HD3 := Lib.hid hd
    have HR3 : Hid (RkI F q l3 e3 w3) := hr
    have HL3 : Hid (v3.length = 1) := hl
    have HK3 : Hid (Kept (inner) w2 w3) := Kept.up HR2.out HC2.out HT.out rfl rfl hu
    have HH3 : Hid ((flatH numV) w3 v3 a3) := hH
    have HU3 := Lib.hid (HU2.out.trans hu)
    rw [splice_two (k := 6) HV2.out rfl (by have := HBd.out; omega)] at hc
    have HC3 : Hid (Cut g (splice cur off (v1 ++ v2 ++ v3)) t w3) := hc
    have HV3 : Hid ((v1 ++ v2 ++ v3).length = 7) := by show _ = _; rw [List.length_append, HV2.out, HL3.out]
    have hz := zer_step (off' := off + 7) HZ2.out HL3.out rfl (by omega)
    rw [splice_two (k := 6) HV2.out rfl (by have := HBd.out; omega)] at hz
    have HZ3 : Hid (Zer (splice cur off (v1 ++ v2 ++ v3)) (off + 7) ([.int .i64 0] ++ ([.string ⟨#[]⟩] ++ ([.slice none 0 0] ++ ([.slice none 0 0] ++ ([.slice none 0 0] ++ ([.slice none 0 0, .slice none 0 0, .int .i64 0, .string ⟨#[]⟩, .slice none 0 0, .slice none 0 0, .slice none 0 0]))))))) := hz
    clear hz
    clear hr hl hc hH hu hd
    go_wp2_with fail
    refine (num64R w3 F q l3 e3 g (off + 7) _ t HR3.out HC3.out (zer_fst HZ3.out) HG.out rfl).mono ?_
    rintro r w4 ⟨rfl, hr, ⟨v4, hl, hc, hH⟩, hu⟩
    obtain ⟨⟨a4, l4, e4⟩, hd⟩ : ∃ x, (numC).dec l3 e3 = x := ⟨_, rfl⟩
    rw [hd] at hr hH
    have HD4 := Lib.hid hd
    have HR4 : Hid (RkI F q l4 e4 w4) := hr
    have HL4 : Hid (v4.length = 1) := hl
    have HK4 : Hid (Kept (inner) w3 w4) := Kept.up HR3.out HC3.out HT.out rfl rfl hu
    have HH4 : Hid ((flatH numV) w4 v4 a4) := hH
    have HU4 := Lib.hid (HU3.out.trans hu)
    rw [splice_two (k := 7) HV3.out rfl (by have := HBd.out; omega)] at hc
    have HC4 : Hid (Cut g (splice cur off (v1 ++ v2 ++ v3 ++ v4)) t w4) := hc
    have HV4 : Hid ((v1 ++ v2 ++ v3 ++ v4).length = 8) := by show _ = _; rw [List.length_append, HV3.out, HL4.out]
    have hz := zer_step (off' := off + 8) HZ3.out HL4.out rfl (by omega)
    rw [splice_two (k := 7) HV3.out rfl (by have := HBd.out; omega)] at hz
    have HZ4 : Hid (Zer (splice cur off (v1 ++ v2 ++ v3 ++ v4)) (off + 8) ([.string ⟨#[]⟩] ++ ([.slice none 0 0] ++ ([.slice none 0 0] ++ ([.slice none 0 0] ++ ([.slice none 0 0, .slice none 0 0, .int .i64 0, .string ⟨#[]⟩, .slice none 0 0, .slice none 0 0, .slice none 0 0])))))) := hz
    clear hz
    clear hr hl hc hH hu hd
    go_wp2_with fail
    refine (txt1_rkh w4 F q l4 e4 g (off + 8) _ t HR4.out HC4.out (zer_fst HZ4.out) HG.out rfl).mono ?_
    rintro r w5 ⟨rfl, hr, ⟨v5, hl, hc, hH⟩, hu⟩
    obtain ⟨⟨a5, l5, e5⟩, hd⟩ : ∃ x, (txtC).dec l4 e4 = x := ⟨_, rfl⟩
    rw [hd] at hr hH
    have HD5 := Lib.hid hd
    have HR5 : Hid (RkI F q l5 e5 w5) := hr
    have HL5 : Hid (v5.length = 1) := hl
    have HK5 : Hid (Kept (inner) w4 w5) := Kept.up HR4.out HC4.out HT.out rfl rfl hu
    have HH5 : Hid ((flatH txtV) w5 v5 a5) := hH
    have HU5 := Lib.hid (HU4.out.trans hu)
    rw [splice_two (k := 8) HV4.out rfl (by have := HBd.out; omega)] at hc
    have HC5 : Hid (Cut g (splice cur off (v1 ++ v2 ++ v3 ++ v4 ++ v5)) t w5) := hc
    have HV5 : Hid ((v1 ++ v2 ++ v3 ++ v4 ++ v5).length = 9) := by show _ = _; rw [List.length_append, HV4.out, HL5.out]
    have hz := zer_step (off' := off + 9) HZ4.out HL5.out rfl (by omega)
    rw [splice_two (k := 8) HV4.out rfl (by have := HBd.out; omega)] at hz
    have HZ5 : Hid (Zer (splice cur off (v1 ++ v2 ++ v3 ++ v4 ++ v5)) (off + 9) ([.slice none 0 0] ++ ([.slice none 0 0] ++ ([.slice none 0 0] ++ ([.slice none 0 0, .slice none 0 0, .int .i64 0, .string ⟨#[]⟩, .slice none 0 0, .slice none 0 0, .slice none 0 0]))))) := hz
    clear hz
    clear hr hl hc hH hu hd
    go_wp2_with fail
    refine (row_int64_rk w5 F q l5 e5 g (off + 9) _ t HR5.out HC5.out (zer_fst HZ5.out) HG.out rfl).mono ?_
    rintro r w6 ⟨rfl, hr, ⟨v6, hl, hc, hH⟩, hu⟩
    obtain ⟨⟨a6, l6, e6⟩, hd⟩ : ∃ x, (rowC numC).dec l5 e5 = x := ⟨_, rfl⟩
    rw [hd] at hr hH
    have HD6 := Lib.hid hd
    have HR6 : Hid (RkI F q l6 e6 w6) := hr
    have HL6 : Hid (v6.length = 1) := hl
    have HK6 : Hid (Kept (inner) w5 w6) := Kept.up HR5.out HC5.out HT.out rfl rfl hu
    have HH6 : Hid ((int64sH) w6 v6 a6) := hH
    have HU6 := Lib.hid (HU5.out.trans hu)
    rw [splice_two (k := 9) HV5.out rfl (by have := HBd.out; omega)] at hc
    have HC6 : Hid (Cut g (splice cur off (v1 ++ v2 ++ v3 ++ v4 ++ v5 ++ v6)) t w6) := hc
    have HV6 : Hid ((v1 ++ v2 ++ v3 ++ v4 ++ v5 ++ v6).length = 10) := by show _ = _; rw [List.length_append, HV5.out, HL6.out]
    have hz := zer_step (off' := off + 10) HZ5.out HL6.out rfl (by omega)
    rw [splice_two (k := 9) HV5.out rfl (by have := HBd.out; omega)] at hz
    have HZ6 : Hid (Zer (splice cur off (v1 ++ v2 ++ v3 ++ v4 ++ v5 ++ v6)) (off + 10) ([.slice none 0 0] ++ ([.slice none 0 0] ++ ([.slice none 0 0, .slice none 0 0, .int .i64 0, .string ⟨#[]⟩, .slice none 0 0, .slice none 0 0, .slice none 0 0])))) := hz
    clear hz
    clear hr hl hc hH hu hd
    go_wp2_with fail
    refine (row_string_rk w6 F q l6 e6 g (off + 10) _ t HR6.out HC6.out (zer_fst HZ6.out) HG.out rfl).mono ?_
    rintro r w7 ⟨rfl, hr, ⟨v7, hl, hc, hH⟩, hu⟩
    obtain ⟨⟨a7, l7, e7⟩, hd⟩ : ∃ x, (rowC txtC).dec l6 e6 = x := ⟨_, rfl⟩
    rw [hd] at hr hH
    have HD7 := Lib.hid hd
    have HR7 : Hid (RkI F q l7 e7 w7) := hr
    have HL7 : Hid (v7.length = 1) := hl
    have HK7 : Hid (Kept (inner) w6 w7) := Kept.up HR6.out HC6.out HT.out rfl rfl hu
    have HH7 : Hid ((strsH) w7 v7 a7) := hH
    have HU7 := Lib.hid (HU6.out.trans hu)
    rw [splice_two (k := 10) HV6.out rfl (by have := HBd.out; omega)] at hc
    have HC7 : Hid (Cut g (splice cur off (v1 ++ v2 ++ v3 ++ v4 ++ v5 ++ v6 ++ v7)) t w7) := hc
    have HV7 : Hid ((v1 ++ v2 ++ v3 ++ v4 ++ v5 ++ v6 ++ v7).length = 11) := by show _ = _; rw [List.length_append, HV6.out, HL7.out]
    have hz := zer_step (off' := off + 11) HZ6.out HL7.out rfl (by omega)
    rw [splice_two (k := 10) HV6.out rfl (by have := HBd.out; omega)] at hz
    have HZ7 : Hid (Zer (splice cur off (v1 ++ v2 ++ v3 ++ v4 ++ v5 ++ v6 ++ v7)) (off + 11) ([.slice none 0 0] ++ ([.slice none 0 0, .slice none 0 0, .int .i64 0, .string ⟨#[]⟩, .slice none 0 0, .slice none 0 0, .slice none 0 0]))) := hz
    clear hz
    clear hr hl hc hH hu hd
    go_wp2_with fail
    refine (row_cell_rk w7 F q l7 e7 g (off + 11) _ t HR7.out HC7.out (zer_fst HZ7.out) HG.out rfl).mono ?_
    rintro r w8 ⟨rfl, hr, ⟨v8, hl, hc, hH⟩, hu⟩
    obtain ⟨⟨a8, l8, e8⟩, hd⟩ : ∃ x, (rowC varC).dec l7 e7 = x := ⟨_, rfl⟩
    rw [hd] at hr hH
    have HD8 := Lib.hid hd
    have HR8 : Hid (RkI F q l8 e8 w8) := hr
    have HL8 : Hid (v8.length = 1) := hl
    have HK8 : Hid (Kept (inner) w7 w8) := Kept.up HR7.out HC7.out HT.out rfl rfl hu
    have HH8 : Hid ((cellsH) w8 v8 a8) := hH
    have HU8 := Lib.hid (HU7.out.trans hu)
    rw [splice_two (k := 11) HV7.out rfl (by have := HBd.out; omega)] at hc
    have HC8 : Hid (Cut g (splice cur off (v1 ++ v2 ++ v3 ++ v4 ++ v5 ++ v6 ++ v7 ++ v8)) t w8) := hc
    have HV8 : Hid ((v1 ++ v2 ++ v3 ++ v4 ++ v5 ++ v6 ++ v7 ++ v8).length = 12) := by show _ = _; rw [List.length_append, HV7.out, HL8.out]
    have hz := zer_step (off' := off + 12) HZ7.out HL8.out rfl (by omega)
    rw [splice_two (k := 11) HV7.out rfl (by have := HBd.out; omega)] at hz
    have HZ8 : Hid (Zer (splice cur off (v1 ++ v2 ++ v3 ++ v4 ++ v5 ++ v6 ++ v7 ++ v8)) (off + 12) ([.slice none 0 0, .slice none 0 0, .int .i64 0, .string ⟨#[]⟩, .slice none 0 0, .slice none 0 0, .slice none 0 0])) := hz
    clear hz
    clear hr hl hc hH hu hd
    go_wp2_with fail
    refine (keep_rk w8 F q l8 e8 g (off + 12) _ t HR8.out HC8.out HZ8.out HG.out HT.out).mono ?_
    rintro r w9 ⟨rfl, hr, ⟨v9, hl, hc, hH⟩, hu⟩
    obtain ⟨⟨a9, l9, e9⟩, hd⟩ : ∃ x, (keepC).dec l8 e8 = x := ⟨_, rfl⟩
    rw [hd] at hr hH
    have HD9 := Lib.hid hd
    have HR9 : Hid (RkI F q l9 e9 w9) := hr
    have HL9 : Hid (v9.length = 7) := hl
    have HK9 : Hid (Kept (inner) w8 w9) := Kept.up HR8.out HC8.out HT.out rfl rfl hu
    have HH9 : Hid ((keepH) w9 v9 a9) := hH
    have HU9 := Lib.hid (HU8.out.trans hu)
    rw [splice_two (k := 12) HV8.out rfl (by have := HBd.out; omega)] at hc
    have HC9 : Hid (Cut g (splice cur off (v1 ++ v2 ++ v3 ++ v4 ++ v5 ++ v6 ++ v7 ++ v8 ++ v9)) t w9) := hc
    have HV9 : Hid ((v1 ++ v2 ++ v3 ++ v4 ++ v5 ++ v6 ++ v7 ++ v8 ++ v9).length = 19) := by show _ = _; rw [List.length_append, HV8.out, HL9.out]
    clear hr hl hc hH hu hd
    go_wp2_with fail
    refine bodyPost_end (v := .tuple #[]) (results_none rfl _ _ _) rfl ?_
    have HD : Hid ((frameC).dec l0 e0 = ((a1, (a2, (a3, (a4, (a5, (a6, (a7, (a8, a9)))))))), l9, e9)) := by
      show ((pairC (pairC numC (pairC numC (pairC numC (pairC numC numC)))) (pairC (bitC) (pairC (numC) (pairC (numC) (pairC (txtC) (pairC (rowC numC) (pairC (rowC txtC) (pairC (rowC varC) (keepC)))))))))).dec l0 e0 = _
      rw [pairC_dec HD1.out, pairC_dec HD2.out, pairC_dec HD3.out, pairC_dec HD4.out, pairC_dec HD5.out, pairC_dec HD6.out, pairC_dec HD7.out, pairC_dec HD8.out, HD9.out]
    have hc := HC9.out
    rw [List.append_assoc, List.append_assoc, List.append_assoc, List.append_assoc, List.append_assoc, List.append_assoc, List.append_assoc] at hc
    have hv := HV9.out
    rw [List.append_assoc, List.append_assoc, List.append_assoc, List.append_assoc, List.append_assoc, List.append_assoc, List.append_assoc] at hv
    rw [HD.out]
    exact ⟨rfl, HR9.out, ⟨_, hv, hc, v1, _, rfl, HL1.out, HH1.out, v2, _, rfl, HL2.out, HH2.out, v3, _, rfl, HL3.out, HH3.out, v4, _, rfl, HL4.out, HH4.out, v5, _, rfl, HL5.out, HH5.out, v6, _, rfl, HL6.out, (int64s_st).keep HH6.out (HK7.out.trans (HK8.out.trans HK9.out)), v7, _, rfl, HL7.out, (strs_st).keep HH7.out (HK8.out.trans HK9.out), v8, _, rfl, HL8.out, (cells_st).keep HH8.out HK9.out, HH9.out⟩, HU9.out⟩
end Go.Proofs.Ytmhofdoifgfjfaa
