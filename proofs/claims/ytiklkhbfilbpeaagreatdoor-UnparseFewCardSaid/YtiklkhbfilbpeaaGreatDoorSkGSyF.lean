/-
  Syntax: a case's item; a case. Conditions: as each contract says.
  Syntax: a case. Conditions: as the contract says.
  Syntax: what is asked. Conditions: as the contract says.
-/
import Derived.Test.YtiklkhbfilbpeaaGreatDoorSkGSyE
set_option linter.unusedVariables false
set_option linter.unusedSimpArgs false
set_option maxRecDepth 100000
namespace Go.Proofs.YtiklkhbfilbpeaaGreatDoor.Sx
open Go.RowKit Base Lx Sy
set_option maxHeartbeats 8000000 in
theorem item_calls {nest : S → Sy.P Nat} {d : Nat} (E : Env nest d) (hL : ListC nest d) (W : World) (b B : Nat) (P : Nat → Prop) (v : Value) (s : S) (h : Rd W b B P v s d) (hP : ∀ g, W.heap.size ≤ g → P g) (hF : ph s ≤ 80000) :
    Calls Tryz.prog 153 #[.pointer (some ⟨b, 0, none⟩)] W (Post eN W b B P v d (itemM nest s)) := by
  have HR := Lib.hid h
  have HE : Hid (Env nest d) := E
  have HLi : Hid (ListC nest d) := hL
  have HP : Hid (∀ g, W.heap.size ≤ g → P g) := hP
  have HV : Hid (∀ g, v.ownBlock = some g → B ≤ g) := fun g hg => (h.own g hg).1
  obtain ⟨fl, hfl⟩ : ∃ fl, isM 2 [[40]] s = fl := ⟨_, rfl⟩
  have HFl := Lib.hid hfl
  obtain ⟨s1, hs1⟩ : ∃ s1, (if fl = true then tk s else s) = s1 := ⟨_, rfl⟩
  have HS1 := Lib.hid hs1
  have HPh : Hid (ph s1 + 0 ≤ 80000) := by rw [← hs1]; have := ph_tk s; split <;> (show _ ≤ _; omega)
  obtain ⟨ln, hln⟩ : ∃ ln, (nx s).ln = ln := ⟨_, rfl⟩
  obtain ⟨Z, hZ⟩ : ∃ Z, itemM nest s = Z := ⟨_, rfl⟩
  have HZ3 : Hid (Z = bd (rawM s1) fun w s1 => bd (whileM (isM 2 [[124]]) altT [w] s1) fun ws s2 => bd (needM 2 [[41]] s2) fun _ s3 => bd (listM nest true s3) fun k s4 => Sy.putM { k := 10, ws := ws, ks := [k], ln := ln } s4) := by
    show _ = _
    rw [← hZ, ← hs1, ← hfl, ← hln]
    rfl
  have F3 := fld_tkV3 (nx s)
  rw [hln] at F3
  rw [hZ]
  clear h hP hF hZ E hL hfl hs1 hln
  go_enter Tryz.func153, Tryz.ntmps153
  go_wp2_with fail
  refine (next_calls W b B P v s d HR.out).mono ?_
  rintro r w2 ⟨rfl, hb2⟩
  have HR2 := Lib.hid (HR.out.below hb2)
  have HT0 : Hid (Turn b v W v w2) := Turn.of_below hb2
  have HBl : Hid (Below B W w2) := hb2.mono HR.out.size
  have HB2 : Hid (∀ g, w2.heap.size ≤ g → P g) := fun g hg => HP.out g (Nat.le_trans hb2.size hg)
  clear hb2
  go_upto_region 2 with fail
  obtain ⟨n0, hn0⟩ : ∃ n0 : Nd, n0 = { k := 10, ln := ln } := ⟨_, rfl⟩
  obtain ⟨w3, hw3, hm3, hb3⟩ := Mid.start HR2.out n0 (by rw [hn0]) (by rw [hn0]) (by rw [hn0])
  obtain ⟨N, hN⟩ : ∃ N, w2.heap.size = N := ⟨_, rfl⟩
  have hw3' : w2.alloc (.cells #[.int .i64 10, .string ⟨#[]⟩, .bool false, .slice none 0 0, .int .i64 0, .slice none 0 0, .slice none 0 0, .int .i64 (ln : Int)] ndT) = w3 := by rw [hn0] at hw3; exact hw3
  rw [hw3', hN]
  rw [hN] at hm3
  have HM3 := Lib.hid hm3
  have HN0 := Lib.hid hn0
  clear hw3 hm3 hb3 hw3' hN F3 hn0
  go_wp2_with fail
  refine (is_lit w3 b B _ v s d HM3.out.bx.rd 2 [[40]] (by decide)).mono ?_
  rintro r w4 ⟨rfl, hb4⟩
  rw [show isM 2 [[40]] s = fl from HFl.out]
  have HM4 := Lib.hid (HM3.out.below ((Below.refl _ _).trans hb4))
  clear hb4
  go_upto_if 10 with fail
  go_cut [] (fun wx => Mid w2 v wx b B P v s1 d N n0 (.slice none 0 0) (.slice none 0 0) (.slice none 0 0))
  case first =>
    cases fl with
    | false =>
      have h2 : s1 = s := by rw [← HS1.out, if_neg (by decide)]
      go_wp2_with fail
      go_meet
      rw [h2]
      exact HM4.out
    | true =>
      have h2 : tk s = s1 := by rw [← HS1.out, if_pos rfl]
      go_wp2_with fail
      refine (take_calls w4 b B _ v s d HM4.out.bx.rd).mono ?_
      rintro r w5 ⟨rfl, ht5, hr5⟩
      have HM5 := Lib.hid (HM4.out.step ht5 hr5)
      rw [h2] at HM5
      clear ht5 hr5 h2
      go_wp2_with fail
      go_meet
      exact HM5.out
  case rest =>
    have HMc := Lib.hid hcut
    clear hcut HM3 HM4
    go_wp2_with fail
    refine (raw_calls wc b B _ v s1 d HMc.out.bx.rd).mono ?_
    rintro r w4 hp
    rcases post_cases hp with ⟨er, hXe, rfl, hb9⟩ | ⟨y, u9, v4, hXy, rfl, he, ht, hr⟩
    · have hz : Z = .error er := by rw [HZ3.out, hXe]; rfl
      exact ⟨rfl, post_error hz ((HBl.out.trans (HMc.out.belowB HV.out)).trans hb9)⟩
    have he' : u9 = .string (str y.1) := he
    subst he'
    have HM4 := Lib.hid (HMc.out.step ht hr)
    have HX4 := Lib.hid hXy
    have HZ4 : Hid (Z = bd (whileM (isM 2 [[124]]) altT [y.1] y.2) fun ws s2 => bd (needM 2 [[41]] s2) fun _ s3 => bd (listM nest true s3) fun k s4 => Sy.putM { k := 10, ws := ws, ks := [k], ln := ln } s4) := by show _ = _; rw [HZ3.out, hXy]; rfl
    have HPh5 : Hid (ph y.2 + 8 ≤ 80000) := by have hp0 := HPh.out; have h8 := raw_cost y hXy; show _ ≤ _; omega
    clear hp he ht hr hXy
    obtain ⟨wL6, w6, hwL6, hw6, hx8, hm9⟩ := HM4.out.new_w y.1
    have hwL6' : w4.alloc (.cells #[.string (str y.1)] stT) = wL6 := hwL6
    obtain ⟨n6, hn2⟩ : ∃ n2 : Nd, { n0 with ws := [y.1] } = n2 := ⟨_, rfl⟩
    rw [hn2] at hm9
    have HN2 := Lib.hid hn2
    have HM6 := Lib.hid hm9
    obtain ⟨⟨x0, x1, x2, x3, x4, x5, x6, x7⟩, z0, z1, z2, z3, z4, z5, z6, z7⟩ := nd_cells hx8
    clear hwL6 hm9 hn2 hx8
    have HN6 := Lib.hid HN2.out
    clear HN2
    go_wp2_with fail
    clear x0 x1 x2 x3 x4 x5 x6 x7 z0 z1 z2 z3 z4 z5 z6 z7
    obtain ⟨n1, hn1⟩ : ∃ n1 : Nd, n1 = n0 := ⟨_, rfl⟩
    have HN1 := Lib.hid hn1
    have HMw : Hid (n6 = { n1 with ws := [y.1] }) := by show _ = _; rw [← HN6.out, HN1.out, HN0.out]
    have HFew := Lib.hid HM6.out.bx.rd.ok.few
    have HPs : Hid (ph y.2 + 8 ≤ 80000) := HPh5.out
    clear hn1
    go_loopw [] (fun wr => ∃ (s' : S) (ws : List Nm) (v' uw : Value) (m : Nd), whileM (isM 2 [[124]]) altT ws s' = whileM (isM 2 [[124]]) altT [y.1] y.2 ∧ m = { n1 with ws := ws } ∧ Mid w2 v wr b B P v' s' d N m uw (.slice none 0 0) (.slice none 0 0) ∧ ph s' + 8 ≤ 80000 ∧ ws.length + s'.2.length ≤ 10001) (fun wr => tkLen wr b)
    case atStart => exact ⟨_, [y.1], _, _, n6, rfl, HMw.out, HM6.out, HPs.out, by have := HFew.out; simp only [List.length_singleton]; omega⟩
    case round =>
      obtain ⟨s', ws, v', uw, m, hrun, hm1, hm, hph, hfw⟩ := hrel
      have HRun := Lib.hid hrun
      have HMk := Lib.hid hm1
      have HM0 := Lib.hid hm
      have HPh90 := Lib.hid hph
      have HFw := Lib.hid hfw
      clear hrun hm1 hm hph hfw
      go_wp2_with fail
      refine (is_lit wr b B _ v' s' d HM0.out.bx.rd 2 [[124]] (by decide)).mono ?_
      rintro r w31 ⟨rfl, hb31⟩
      have HM31 := Lib.hid (HM0.out.below ((Below.refl _ _).trans hb31))
      clear hb31
      obtain ⟨z31, hz31⟩ : ∃ z, isM 2 [[124]] s' = z := ⟨_, rfl⟩
      have Hzi31 := Lib.hid hz31
      rw [hz31]
      clear hz31
      cases z31 with
      | true =>
        have HStep : Hid (whileM (isM 2 [[124]]) altT [y.1] y.2 = bd (bd (rawM (tk s')) fun w s => .ok (ws ++ [w], s)) (whileM (isM 2 [[124]]) altT)) := by show _ = _; rw [← HRun.out, while_eq alt_takes alt_ne, if_pos Hzi31.out]
        have HZ32 : Hid (Z = bd (bd (bd (rawM (tk s')) fun w s => .ok (ws ++ [w], s)) (whileM (isM 2 [[124]]) altT)) fun ws s2 => bd (needM 2 [[41]] s2) fun _ s3 => bd (listM nest true s3) fun k s4 => Sy.putM { k := 10, ws := ws, ks := [k], ln := ln } s4) := by show _ = _; rw [HZ4.out, HStep.out]
        go_wp2_with fail
        refine (take_calls w31 b B _ v' s' d HM31.out.bx.rd).mono ?_
        rintro r w33 ⟨rfl, ht33, hr33⟩
        have HM33 := Lib.hid (HM31.out.step ht33 hr33)
        clear ht33 hr33
        have HPh34 : Hid (ph (tk s') + 16 ≤ 80000) := by have hp0 := HPh90.out; have h8 := ph_tk8 (s := s') (by rw [isM_k Hzi31.out]; decide); show _ ≤ _; omega
        go_upto_region 7 with fail
        obtain ⟨X35, hX⟩ : ∃ X, rawM (tk s') = X := ⟨_, rfl⟩
        have HX35 := Lib.hid hX
        have HLen : Hid (m.ws.length ≤ 100000) := by show _ ≤ _; rw [HMk.out]; show ws.length ≤ _; have := HFw.out; omega
        have HCall : Hid (∀ x, Rd x b B (offP P N uw (.slice none 0 0) (.slice none 0 0)) v' (tk s') d → w33.heap.size ≤ x.heap.size → Calls Tryz.prog 134 #[.pointer (some ⟨b, 0, none⟩)] x (Post eS x b B (offP P N uw (.slice none 0 0) (.slice none 0 0)) v' d X35)) := fun x hr hs => by
          rw [← hX]
          exact raw_calls x b B _ v' (tk s') d hr
        have hX9 := hX
        clear hX
        have HM := HM33
        obtain ⟨i0, hi0, hz0, hz1, hz2⟩ := info_parts info_st
        have HUq : Hid (∀ g, Value.ownBlock (uw) = some g → g < w33.heap.size) := fun g hg => (HM.out.rows.w.lt g hg).2
        refine Rp.wp_region_rkx (fun ch x => ∃ e, X35 = .error e ∧ panY e.1 e.2 = Ending.panicked ch ∧ Below B w33 x) 6 [] [Rg.Is (.pointer (some ⟨N, 3, none⟩)), Rg.Is (uw), Rg.Is (.pointer (some ⟨b, 0, none⟩)), (fun u9 (x : World) => ∃ y, X35 = .ok y ∧ u9 = sv y.1), (fun u9 x => ∃ q, u9 = .slice (some ⟨q, 0, none⟩) 1 1 ∧ w33.heap.size ≤ q ∧ (∃ y, X35 = .ok y ∧ x.heap[q]? = some (.cells #[sv y.1] stT)) ∧ w33.heap.size < x.heap.size), (fun u9 x => ∃ y v9, X35 = .ok y ∧ MidA w2 v x b B P v9 y.2 d N (m) ({ m with ws := m.ws ++ [y.1] }) uw (.slice none 0 0) (.slice none 0 0) u9 (.slice none 0 0) (.slice none 0 0) ∧ w33.heap.size < x.heap.size)] (fun _ _ => True) (fun ls x => (ls 3 = false → x.heap.size = w33.heap.size ∧ Below w33.heap.size w33 x) ∧ (ls 3 = true → ls 5 = false → ∃ y v9, X35 = .ok y ∧ Mid w2 v x b B P v9 y.2 d N (m) uw (.slice none 0 0) (.slice none 0 0) ∧ w33.heap.size ≤ x.heap.size)) (fun k x y => if k = 3 then x.heap.size = w33.heap.size else if k = 5 then x.grownBy y (Value.ownBlock (uw)) else (Below x.heap.size x y ∧ (k = 4 ∨ y.heap.size = x.heap.size))) (by kernel_rfl) (by kernel_rfl) (of_decide_eq_true (by kernel_rfl)) (by kernel_rfl) (by kernel_rfl) trivial ⟨fun _ => ⟨rfl, rfl, rfl, rfl, Nat.le_refl _, fun _ _ => rfl⟩, fun h => by cases h⟩ (fun ls ls' x e h1 => ⟨fun h2 => h1.1 (by rw [e]; exact h2), fun h2 h3 => h1.2 (by rw [e]; exact h2) (by rw [e]; exact h3)⟩) (fun _ _ _ _ _ => trivial) (fun i ls x _ h1 => by rw [show ([] : List Bool).getD i true = true from rfl] at h1; cases h1) ?_ ⟨rfl, rfl, rfl, rfl, rfl, rfl, trivial⟩ ⟨?_, ?_, ?_, ?_, ?_, ?_, trivial⟩ ?_ ?_
        · intro i k u8 x y9 hik _ h1 hK
          match i, h1, hik with
          | 0, h1, _ => exact h1
          | 1, h1, _ => exact h1
          | 2, h1, _ => exact h1
          | 3, h1, _ => exact h1
          | 4, h1, hik =>
            obtain ⟨q, hq, hqw, ⟨y, hXy, hqx⟩, hlt⟩ := h1
            have hql := (Array.getElem?_eq_some_iff.1 hqx).1
            by_cases k3 : k = 3
            · rw [if_pos k3] at hK; omega
            · rw [if_neg k3] at hK
              by_cases k5 : k = 5
              · rw [if_pos k5] at hK
                exact ⟨q, hq, hqw, ⟨y, hXy, (hK.block q hql (fun e => by have := HUq.out q e.symm; omega)).trans hqx⟩, Nat.lt_of_lt_of_le hlt hK.size⟩
              · rw [if_neg k5] at hK
                exact ⟨q, hq, hqw, ⟨y, hXy, (hK.1.block q hql).trans hqx⟩, Nat.lt_of_lt_of_le hlt hK.1.size⟩
          | 5, h1, hik =>
            obtain ⟨y, v9, hXy, hA, hlt⟩ := h1
            by_cases k3 : k = 3
            · rw [if_pos k3] at hK; omega
            · rw [if_neg k3, if_neg (fun e => hik e.symm)] at hK
              exact ⟨y, v9, hXy, hA.below hK.1, Nat.lt_of_lt_of_le hlt hK.1.size⟩
          | _ + 6, _, _ => trivial
        · intro _ b9 x ls hR hS hself hup hdn hk
          have h3 : b9.eval (.tmp 3) = .pointer (some ⟨N, 0, none⟩) := Eq.mp (by kernel_rfl) (hk 3 (by decide))
          refine Rp.doesX_of ?_
          exact Rs.does_field _ _ h3 (by have := fld_nd N 0 3 (by decide) x; rw [Nat.zero_add] at this; exact this) ⟨by rw [if_neg (by decide), if_neg (by decide)]; exact ⟨Below.refl _ _, .inr rfl⟩, rfl, ⟨fun hh => hS.1 hh, fun h2 h3 => hS.2 h2 h3⟩⟩
        · intro _ b9 x ls hR hS hself hup hdn hk
          have h22 : b9.eval (.tmp 22) = .pointer (some ⟨N, 3, none⟩) := Eq.mp (by kernel_rfl) (hk 22 (by decide))
          have l5 : ls 5 = false := hdn [] 5 _ rfl (by kernel_rfl)
          have hc : x.cell? ⟨N, 3, none⟩ = some (uw) := by
            cases l3 : ls 3 with
            | false => have hm := HM.out.below (hS.1 l3).2; simp [World.cell?, hm.bx.box]
            | true => obtain ⟨y, v9, hXy, hm, hsz⟩ := hS.2 l3 l5; simp [World.cell?, hm.bx.box]
          refine Rp.doesX_of ?_
          exact Rg.does_load _ _ h22 (Ap.load_plainP (by simp [isAgg]) hc) ⟨by rw [if_neg (by decide), if_neg (by decide)]; exact ⟨Below.refl _ _, .inr rfl⟩, rfl, ⟨fun hh => hS.1 hh, fun h2 h3 => hS.2 h2 h3⟩⟩
        · intro _ b9 x ls hR hS hself hup hdn hk
          have h0 : b9.eval (.tmp 0) = .pointer (some ⟨b, 0, none⟩) := Eq.mp (by kernel_rfl) (hk 0 (by decide))
          refine Rp.doesX_of ?_
          exact Rg.does_move ⟨by rw [if_neg (by decide), if_neg (by decide)]; exact ⟨Below.refl _ _, .inr rfl⟩, h0, ⟨fun hh => hS.1 hh, fun h2 h3 => hS.2 h2 h3⟩⟩
        · intro _ b9 x ls hR hS hself hup hdn hk
          have h24 : b9.eval (.tmp 24) = .pointer (some ⟨b, 0, none⟩) := Eq.mp (by kernel_rfl) (hk 24 (by decide))
          obtain ⟨hsz, hb⟩ := hS.1 hself
          have hm := HM.out.below hb
          refine Rp.does_func #[.pointer (some ⟨b, 0, none⟩)] Tryz.func134 (by kernel_rfl) (by kernel_rfl) (by simp [h24, show ∀ v, b9.eval (.const v) = v from fun _ => rfl]) (HCall.out x hm.bx.rd hb.size) ?_
          intro e w' hp
          rcases post_cases hp with ⟨er, hXe, rfl, hb9⟩ | ⟨y, u9, v9, hXy, rfl, he, ht, hr⟩
          · exact .inr ⟨_, rfl, er, hXe, rfl, (hb.mono HM.out.bx.rd.size).trans hb9⟩
          · exact .inl ⟨u9, rfl, by rw [if_pos rfl]; exact hsz, ⟨y, hXy, he⟩, ⟨fun hh => by simp [Rs.upd] at hh, fun _ _ => ⟨y, v9, hXy, hm.step ht hr, by have := ht.size; omega⟩⟩⟩
        · intro _ b9 x ls hR hS hself hup hdn hk
          have h25 : (fun u9 (x : World) => ∃ y, X35 = .ok y ∧ u9 = sv y.1) (b9.eval (.tmp 25)) x := Eq.mp (by kernel_rfl) (hk 25 (by decide))
          have l3 : ls 3 = true := hup [] 3 (by kernel_rfl)
          have l5 : ls 5 = false := hdn [] 5 _ rfl (by kernel_rfl)
          obtain ⟨y, v9, hXy, hm, hsz⟩ := hS.2 l3 l5
          obtain ⟨y2, hXy2, he⟩ := h25
          have hyy : y2 = y := Except.ok.inj (hXy2.symm.trans hXy)
          subst hyy
          have hal := (Below.refl x.heap.size x).alloc (Nat.le_refl _) (.cells #[sv y2.1] stT)
          refine Rp.doesX_of ?_
          exact Rg.does_build #[(0, sv y2.1)] _ (by simp [he]) (by go_simp; rfl) ⟨by rw [if_neg (by decide), if_neg (by decide)]; exact ⟨hal, .inl rfl⟩, ⟨x.heap.size, rfl, hsz, ⟨y2, hXy, heap_alloc_new x _⟩, by rw [World.size_alloc]; omega⟩, ⟨fun hh => absurd (l3.symm.trans hh) (by decide), fun _ _ => ⟨y2, v9, hXy, hm.below hal, by rw [World.size_alloc]; omega⟩⟩⟩
        · intro _ b9 x ls hR hS hself hup hdn hk
          have h23 : b9.eval (.tmp 23) = uw := Eq.mp (by kernel_rfl) (hk 23 (by decide))
          have h26 : (fun u9 x => ∃ q, u9 = .slice (some ⟨q, 0, none⟩) 1 1 ∧ w33.heap.size ≤ q ∧ (∃ y, X35 = .ok y ∧ x.heap[q]? = some (.cells #[sv y.1] stT)) ∧ w33.heap.size < x.heap.size) (b9.eval (.tmp 26)) x := Eq.mp (by kernel_rfl) (hk 26 (by decide))
          have l3 : ls 3 = true := hup [] 3 (by kernel_rfl)
          obtain ⟨y, v9, hXy, hm, hsz⟩ := hS.2 l3 hself
          obtain ⟨q, hq, hqw, ⟨y2, hXy2, hqx⟩, hlt⟩ := h26
          have hyy : y2 = y := Except.ok.inj (hXy2.symm.trans hXy)
          subst hyy
          obtain ⟨u9, w', hrun, hown', hgr, hat⟩ := Ap.run_append_at (P := Tryz.prog) x 0 33 33 33 stT i0 _ 1 16 Tryz.underlying33 (append_side Tryz.underlying33) hi0 hz0 hz1 hz2 rfl (by decide) (by decide) (uw) _ _ hm.rows.w (b9.eval (.tmp 26)) 1 ([sv y2.1]) (by rw [hq]; exact src_cells (b := q) (off := 0) rfl (by intro u hu; obtain rfl := List.mem_singleton.1 hu; rfl) (.inr rfl) (fun i z hi => by rw [Nat.zero_add]; unfold World.cell?; simp only [hqx]; simpa using hi)) (by unfold maxLen; have := HLen.out; omega) (by have := HLen.out; omega) (Nat.zero_le _)
          refine Rp.doesX_of ?_
          exact Ap.does_append (uw) _ u9 w' h23 rfl hrun ⟨by rw [if_neg (by decide), if_pos rfl]; exact hgr, ⟨y2, v9, hXy, hm.app_w y2.1 hgr hown' hat, Nat.lt_of_lt_of_le hlt hgr.size⟩, ⟨fun hh => absurd (l3.symm.trans hh) (by decide), fun _ hh => by simp [Rs.upd] at hh⟩⟩
        · intro ch a' w' hdf hD
          obtain ⟨er, hXe, hpe, hbe⟩ := hD
          refine ⟨hdf, ?_⟩
          rw [← hpe]
          have hz : Z = .error er := by rw [HZ32.out, hX9, hXe]; rfl
          exact post_error hz ((HBl.out.trans (HM.out.belowB HV.out)).trans hbe)
        intro vals wD ls _ hSD _ hL
        obtain ⟨g0, g1, g2, g3, g4, g5, _⟩ := hL
        obtain ⟨q, v35, hXy, hA, _⟩ := (g5 : (fun u9 x => ∃ y v9, X35 = .ok y ∧ MidA w2 v x b B P v9 y.2 d N (m) ({ m with ws := m.ws ++ [y.1] }) uw (.slice none 0 0) (.slice none 0 0) u9 (.slice none 0 0) (.slice none 0 0) ∧ w33.heap.size < x.heap.size) (vals 5) wD)
        clear g0 g1 g2 g3 g4 hSD
        obtain ⟨n35, hn2⟩ : ∃ n2 : Nd, { m with ws := m.ws ++ [q.1] } = n2 := ⟨_, rfl⟩
        rw [hn2] at hA
        have HN2 := Lib.hid hn2
        simp only [Rg.putAll, List.take_succ_cons, List.take_zero, List.drop_succ_cons, List.drop_zero, List.setIfInBounds_toArray, List.set_cons_succ, List.set_cons_zero]
        generalize vals 0 = g0 at *
        generalize vals 1 = g1 at *
        generalize vals 2 = g2 at *
        generalize vals 3 = g3 at *
        generalize vals 4 = g4 at *
        generalize vals 5 = u9 at *
        obtain ⟨a35, c35, hu9, _⟩ := ownsRow_slice hA.rows.w
        subst hu9
        obtain ⟨w35, hw35, hm9⟩ := hA.set 3 (.slice a35 n35.ws.length c35) (by rw [← HN2.out]; rfl)
        obtain ⟨⟨x0, x1, x2, x3, x4, x5, x6, x7⟩, z0, z1, z2, z3, z4, z5, z6, z7⟩ := nd_cells hA.bx.box
        have HM35 := Lib.hid hm9
        have HXy := Lib.hid hXy
        clear hA hm9 hXy i0 hi0 hz0 hz1 hz2 hn2
        have hXq : rawM (tk s') = .ok q := by rw [hX9]; exact HXy.out
        have HZ35 : Hid (Z = bd (whileM (isM 2 [[124]]) altT (ws ++ [q.1]) q.2) fun ws s2 => bd (needM 2 [[41]] s2) fun _ s3 => bd (listM nest true s3) fun k s4 => Sy.putM { k := 10, ws := ws, ks := [k], ln := ln } s4) := by show _ = _; rw [HZ32.out, hXq]; rfl
        have HN35 := Lib.hid HN2.out
        clear HN2 HLen HCall HM hX9
        have HPh36 : Hid (ph q.2 + 24 ≤ 80000) := by have hp0 := HPh34.out; have h8 := raw_cost q hXq; show _ ≤ _; omega
        have HXy35 := HXy
        clear hXq HXy
        have hXr : rawM (tk s') = .ok q := by rw [show rawM (tk s') = X35 from HX35.out]; exact HXy35.out
        have HRun2 : Hid (whileM (isM 2 [[124]]) altT (ws ++ [q.1]) q.2 = whileM (isM 2 [[124]]) altT [y.1] y.2) := by show _ = _; rw [HStep.out, hXr]; rfl
        have HLt : Hid (q.2.2.length < s'.2.length) := Nat.lt_trans (raw_lt hXr) (isM_lt Hzi31.out (by decide))
        have HMk2 : Hid (n35 = { n1 with ws := ws ++ [q.1] }) := by show _ = _; rw [← HN35.out, HMk.out]
        clear hXr
        go_wp2_with fail
        go_roundw
        case rel => exact ⟨q.2, ws ++ [q.1], _, _, n35, HRun2.out, HMk2.out, HM35.out, by have := HPh36.out; omega, by have := HFw.out; have := HLt.out; simp only [List.length_append, List.length_singleton]; omega⟩
        case measure => rw [rd_len HM35.out.bx.rd, rd_len HM0.out.bx.rd]; exact HLt.out
      | false =>
        have HZ32 : Hid (Z = bd (needM 2 [[41]] s') fun _ s3 => bd (listM nest true s3) fun k s4 => Sy.putM { k := 10, ws := ws, ks := [k], ln := ln } s4) := by show _ = _; rw [HZ4.out, ← HRun.out, while_eq alt_takes alt_ne, if_neg (by rw [show isM 2 [[124]] s' = false from Hzi31.out]; decide)]; rfl
        obtain ⟨⟨aw, cw, huw⟩, _⟩ := HM31.out.lens
        subst huw
        go_wp2_with fail
        refine (need_lit w31 b B _ v' s' d HM31.out.bx.rd 2 [[41]] (by decide)).mono ?_
        rintro r w33 hp
        rcases post_cases hp with ⟨er, hXe, rfl, hb9⟩ | ⟨e, u9, v33, hXy, rfl, he, ht, hr⟩
        · have hz : Z = .error er := by rw [HZ32.out, hXe]; rfl
          exact ⟨rfl, post_error hz ((HBl.out.trans (HM31.out.belowB HV.out)).trans hb9)⟩
        have he' : u9 = .tuple #[] := he
        subst he'
        have HM33 := Lib.hid (HM31.out.step ht hr)
        have HX33 := Lib.hid hXy
        have HZ33 : Hid (Z = bd (listM nest true e.2) fun k s4 => Sy.putM { k := 10, ws := ws, ks := [k], ln := ln } s4) := by show _ = _; rw [HZ32.out, hXy]; rfl
        have HPh34 : Hid (ph e.2 + 16 ≤ 80000) := by have hp0 := HPh90.out; have h8 := need_cost (by decide) e hXy; show _ ≤ _; omega
        clear hp he ht hr hXy
        go_wp2_with fail
        refine (HLi.out w33 b B _ v33 e.2 true HM33.out.bx.rd (HM33.out.free HB2.out) (by have := HPh34.out; omega)).mono ?_
        rintro r w35 hp
        rcases post_cases hp with ⟨er, hXe, rfl, hb9⟩ | ⟨x, u9, v35, hXy, rfl, he, ht, hr⟩
        · have hz : Z = .error er := by rw [HZ33.out, hXe]; rfl
          exact ⟨rfl, post_error hz ((HBl.out.trans (HM33.out.belowB HV.out)).trans hb9)⟩
        have he' : u9 = .int .i64 (x.1 : Int) := he
        subst he'
        have HM35 := Lib.hid (HM33.out.step ht hr)
        have HX35 := Lib.hid hXy
        have HZ35 : Hid (Z = Sy.putM { k := 10, ws := ws, ks := [x.1], ln := ln } x.2) := by show _ = _; rw [HZ33.out, hXy]; rfl
        have HPh36 : Hid (ph x.2 + 15 ≤ 80000) := by have hp0 := HPh34.out; have h8 := list_cost HE.out.cost true e.2 x hXy; show _ ≤ _; omega
        clear hp he ht hr hXy
        obtain ⟨wL37, w37, hwL37, hw37, hx8, hm9⟩ := HM35.out.new_k x.1
        have hwL37' : w35.alloc (.cells #[.int .i64 (x.1 : Int)] inT) = wL37 := hwL37
        obtain ⟨n37, hn2⟩ : ∃ n2 : Nd, { m with ks := [x.1] } = n2 := ⟨_, rfl⟩
        rw [hn2] at hm9
        have HN2 := Lib.hid hn2
        have HM37 := Lib.hid hm9
        obtain ⟨⟨x0, x1, x2, x3, x4, x5, x6, x7⟩, z0, z1, z2, z3, z4, z5, z6, z7⟩ := nd_cells hx8
        clear hwL37 hm9 hn2 hx8
        have HN37 := Lib.hid HN2.out
        clear HN2
        go_upto_region 10 with fail
        clear x0 x1 x2 x3 x4 x5 x6 x7 z0 z1 z2 z3 z4 z5 z6 z7
        obtain ⟨⟨x0, x1, x2, x3, x4, x5, x6, x7⟩, z0, z1, z2, z3, z4, z5, z6, z7⟩ := nd_cells HM37.out.bx.box
        have HX9 : Hid (Z = Sy.putM n37 x.2) := by show _ = _; rw [HZ35.out, ← HN37.out, HMk.out, HN1.out, HN0.out]
        have HPs9 : Hid ((x.2).1.length ≤ 100000) := by have := HPh36.out; unfold ph at this; show _ ≤ _; omega
        go_wp2_with fail
        have hput := put_calls w37 b B P _ x.2 d HM37.out.rd n37 _ _ _ (HM37.out.rowsP HB2.out) HPs9.out
        refine hput.mono ?_
        clear hput
        rintro r w8 hp
        rw [← HX9.out] at hp
        have HP8 := Lib.hid hp
        clear hp
        rcases post_cases HP8.out with ⟨er, hXe, _, _⟩ | ⟨y8, u8, v8, hX8, rfl, he, ht8, hr8⟩
        · exact absurd (HX9.out.symm.trans hXe) (by intro h; cases h)
        · have HF8 : Hid (Turn b v W v8 w8 ∧ Rd w8 b B P v8 y8.2 d) := ⟨(HT0.out.trans HM37.out.bx.turn).trans ht8, hr8⟩
          have HX8 := Lib.hid hX8
          clear ht8 hr8 hX8
          have he' : u8 = .int .i64 (y8.1 : Int) := he
          subst he'
          clear he
          go_wp2_with fail
          go_ret
          exact post_ok HX8.out rfl HF8.out.1 HF8.out.2
end Go.Proofs.YtiklkhbfilbpeaaGreatDoor.Sx
set_option linter.unusedVariables false
set_option linter.unusedSimpArgs false
set_option maxRecDepth 100000
namespace Go.Proofs.YtiklkhbfilbpeaaGreatDoor.Sx
open Go.RowKit Base Lx Sy
abbrev ItemC (nest : S → Sy.P Nat) (d : Nat) : Prop := ∀ (W : World) (b B : Nat) (P : Nat → Prop) (v : Value) (s : S), Rd W b B P v s d → (∀ g, W.heap.size ≤ g → P g) → ph s ≤ 80000 →
  Calls Tryz.prog 153 #[.pointer (some ⟨b, 0, none⟩)] W (Post eN W b B P v d (itemM nest s))
set_option maxHeartbeats 8000000 in
theorem cases_calls {nest : S → Sy.P Nat} {d : Nat} (E : Env nest d) (hL : ListC nest d) (hB : ItemC nest d) (W : World) (b B : Nat) (P : Nat → Prop) (v : Value) (s : S) (h : Rd W b B P v s d) (hP : ∀ g, W.heap.size ≤ g → P g) (hF : ph s ≤ 80000) (h4 : (nx s).k ≠ 4) (ln : Nat) :
    Calls Tryz.prog 129 #[.pointer (some ⟨b, 0, none⟩), .agg #[.int .i64 0, .string ⟨#[]⟩, .bool false, .slice none 0 0, .int .i64 0, .slice none 0 0, .slice none 0 0, .int .i64 (ln : Int)]] W (PostN W b B P v d (casesM nest ln s)) := by
  have HR := Lib.hid h
  have HE : Hid (Env nest d) := E
  have HLi : Hid (ListC nest d) := hL
  have HIt : Hid (ItemC nest d) := hB
  have HP : Hid (∀ g, W.heap.size ≤ g → P g) := hP
  have HPh : Hid (ph s + 0 ≤ 80000) := hF
  have H4 := Lib.hid h4
  have HV : Hid (∀ g, v.ownBlock = some g → B ≤ g) := fun g hg => (h.own g hg).1
  obtain ⟨n0, hn0⟩ : ∃ n0 : Nd, n0 = { k := 0, ln := ln } := ⟨_, rfl⟩
  have HN0 := Lib.hid hn0
  obtain ⟨w1, w2, hw1, hw2, hz1, hm2, hb2⟩ := Mid2.start h n0 (by rw [hn0]) (by rw [hn0]) (by rw [hn0])
  obtain ⟨N, hN⟩ : ∃ N, W.heap.size = N := ⟨_, rfl⟩
  have hw1' : W.alloc (.cells #[.int .i64 0, .string ⟨#[]⟩, .bool false, .slice none 0 0, .int .i64 0, .slice none 0 0, .slice none 0 0, .int .i64 (ln : Int)] ndT) = w1 := by rw [hn0] at hw1; exact hw1
  rw [hN] at hm2 hz1
  have HW1 := Lib.hid hw1'
  have HW2 := Lib.hid hw2
  have HZ1 := Lib.hid hz1
  have HNn := Lib.hid hN
  have HM2 := Lib.hid hm2
  obtain ⟨Z, hZ⟩ : ∃ Z, casesM nest ln s = Z := ⟨_, rfl⟩
  have HZm := Lib.hid hZ
  rw [hZ]
  clear h hP hF h4 E hL hB hn0 hw1 hw1' hw2 hz1 hN hm2 hb2 hZ
  go_enter Tryz.func129, Tryz.ntmps129
  go_upto_region 1 with fail
  rw [HW1.out, HW2.out, HNn.out]
  have HZ3 : Hid (Z = bd (rawM (tk s)) fun t s => bd (needM 1 [[105, 110]] (lns s)) fun _ s => bd (itemsM nest [] (lns s)) fun ks s => bd (needM 1 [[101, 115, 97, 99]] s) fun _ s => .ok ({ k := 9, t := t, ks := ks, ln := ln }, s)) := HZm.out.symm
  go_wp2_with fail
  refine (take_calls w2 b B _ v s d HM2.out.bx.rd).mono ?_
  rintro r w4 ⟨rfl, ht4, hr4⟩
  have HM4 := Lib.hid (HM2.out.step ht4 hr4)
  clear ht4 hr4
  have HPh5 : Hid (ph (tk s) + 8 ≤ 80000) := by have hp0 := HPh.out; have h8 := ph_tk8 (s := s) H4.out; show _ ≤ _; omega
  obtain ⟨⟨x0, x1, x2, x3, x4, x5, x6, x7⟩, z0, z1, z2, z3, z4, z5, z6, z7⟩ := nd_cells HM4.out.bx.box
  obtain ⟨n6, hn6⟩ : ∃ n1 : Nd, n1 = { n0 with k := 9 } := ⟨_, rfl⟩
  have HN6 := Lib.hid hn6
  obtain ⟨w6, hw6, hm6⟩ := HM4.out.set 0 (.int .i64 9) n6 (by rw [hn6]; rfl) (by rw [hn6]) (by rw [hn6]) (by rw [hn6])
  have HM6 := Lib.hid hm6
  clear hm6 hn6
  go_wp2_with fail
  refine (raw_calls w6 b B _ v (tk s) d HM6.out.bx.rd).mono ?_
  rintro r w7 hp
  rcases post_cases hp with ⟨er, hXe, rfl, hb9⟩ | ⟨y, u9, v7, hXy, rfl, he, ht, hr⟩
  · have hz : Z = .error er := by rw [HZ3.out, hXe]; rfl
    exact ⟨rfl, postN_error hz ((HM6.out.belowB HV.out).trans hb9)⟩
  have he' : u9 = .string (str y.1) := he
  subst he'
  have HM7 := Lib.hid (HM6.out.step ht hr)
  have HX7 := Lib.hid hXy
  have HZ7 : Hid (Z = bd (needM 1 [[105, 110]] (lns y.2)) fun _ s => bd (itemsM nest [] (lns s)) fun ks s => bd (needM 1 [[101, 115, 97, 99]] s) fun _ s => .ok ({ k := 9, t := y.1, ks := ks, ln := ln }, s)) := by show _ = _; rw [HZ3.out, hXy]; rfl
  have HPh8 : Hid (ph y.2 + 16 ≤ 80000) := by have hp0 := HPh5.out; have h8 := raw_cost y hXy; show _ ≤ _; omega
  clear hp he ht hr hXy
  clear x0 x1 x2 x3 x4 x5 x6 x7 z0 z1 z2 z3 z4 z5 z6 z7
  obtain ⟨⟨x0, x1, x2, x3, x4, x5, x6, x7⟩, z0, z1, z2, z3, z4, z5, z6, z7⟩ := nd_cells HM7.out.bx.box
  obtain ⟨n9, hn9⟩ : ∃ n1 : Nd, n1 = { n6 with t := y.1 } := ⟨_, rfl⟩
  have HN9 := Lib.hid hn9
  obtain ⟨w9, hw9, hm9⟩ := HM7.out.set 1 (.string (str y.1)) n9 (by rw [hn9]; rfl) (by rw [hn9]) (by rw [hn9]) (by rw [hn9])
  have HM9 := Lib.hid hm9
  clear hm9 hn9
  go_wp2_with fail
  refine (lines_calls w9 b B _ v7 y.2 d HM9.out.bx.rd).mono ?_
  rintro r w10 ⟨rfl, ht10, hr10⟩
  have HM10 := Lib.hid (HM9.out.step ht10 hr10)
  clear ht10 hr10
  clear x0 x1 x2 x3 x4 x5 x6 x7 z0 z1 z2 z3 z4 z5 z6 z7
  have HPh11 : Hid (ph (lns y.2) + 16 ≤ 80000) := by have hp0 := HPh8.out; have h8 := ph_lns y.2; show _ ≤ _; omega
  go_wp2_with fail
  refine (need_lit w10 b B _ v7 (lns y.2) d HM10.out.bx.rd 1 [[105, 110]] (by decide)).mono ?_
  rintro r w12 hp
  rcases post_cases hp with ⟨er, hXe, rfl, hb9⟩ | ⟨e, u9, v12, hXy, rfl, he, ht, hr⟩
  · have hz : Z = .error er := by rw [HZ7.out, hXe]; rfl
    exact ⟨rfl, postN_error hz ((HM10.out.belowB HV.out).trans hb9)⟩
  have he' : u9 = .tuple #[] := he
  subst he'
  have HM12 := Lib.hid (HM10.out.step ht hr)
  have HX12 := Lib.hid hXy
  have HZ12 : Hid (Z = bd (itemsM nest [] (lns e.2)) fun ks s => bd (needM 1 [[101, 115, 97, 99]] s) fun _ s => .ok ({ k := 9, t := y.1, ks := ks, ln := ln }, s)) := by show _ = _; rw [HZ7.out, hXy]; rfl
  have HPh13 : Hid (ph e.2 + 24 ≤ 80000) := by have hp0 := HPh11.out; have h8 := need_cost (by decide) e hXy; show _ ≤ _; omega
  clear hp he ht hr hXy
  go_wp2_with fail
  refine (lines_calls w12 b B _ v12 e.2 d HM12.out.bx.rd).mono ?_
  rintro r w14 ⟨rfl, ht14, hr14⟩
  have HM14 := Lib.hid (HM12.out.step ht14 hr14)
  clear ht14 hr14
  have HPh15 : Hid (ph (lns e.2) + 24 ≤ 80000) := by have hp0 := HPh13.out; have h8 := ph_lns e.2; show _ ≤ _; omega
  go_wp2_with fail
  obtain ⟨n1, hn1⟩ : ∃ n1 : Nd, n1 = n9 := ⟨_, rfl⟩
  have HN1 := Lib.hid hn1
  have HMw : Hid (n9 = { n1 with ks := [] }) := by show _ = _; rw [HN1.out, HN9.out, HN6.out, HN0.out]
  have HPs : Hid (ph (lns e.2) + 8 ≤ 80000) := by have := HPh15.out; show _ ≤ _; omega
  clear hn1
  go_loopw [] (fun wr => ∃ (s' : S) (ks : List Nat) (v' uk : Value) (m : Nd), itemsM nest ks s' = itemsM nest [] (lns e.2) ∧ m = { n1 with ks := ks } ∧ Mid2 W v wr b B P v' s' d N m (.slice none 0 0) (.slice none 0 0) uk (N + 1) ∧ ph s' + ks.length + 8 ≤ 80000) (fun wr => tkLen wr b)
  case atStart => exact ⟨_, [], _, _, n9, rfl, HMw.out, HM14.out, by have := HPs.out; simpa using this⟩
  case round =>
    obtain ⟨s', ks, v', uk, m, hrun, hm1, hm, hph⟩ := hrel
    have HRun := Lib.hid hrun
    have HMk := Lib.hid hm1
    have HM0 := Lib.hid hm
    have HPk := Lib.hid hph
    have HPh90 : Hid (ph s' + 8 ≤ 80000) := by show _ ≤ _; omega
    clear hrun hm1 hm hph
    go_wp2_with fail
    refine (word_lit wr b B _ v' s' d HM0.out.bx.rd [[101, 115, 97, 99]] (by decide)).mono ?_
    rintro r w31 ⟨rfl, hb31⟩
    have HM31 := Lib.hid (HM0.out.below ((Below.refl _ _).trans hb31))
    clear hb31
    obtain ⟨z31, hz31⟩ : ∃ z, isM 1 [[101, 115, 97, 99]] s' = z := ⟨_, rfl⟩
    have Hzi31 := Lib.hid hz31
    rw [hz31]
    clear hz31
    cases z31 with
    | true =>
      have HZ32 : Hid (Z = bd (needM 1 [[101, 115, 97, 99]] s') fun _ s => .ok ({ k := 9, t := y.1, ks := ks, ln := ln }, s)) := by show _ = _; rw [HZ12.out, ← HRun.out, itemsM_eq HE.out.weak, if_pos Hzi31.out]; rfl
      obtain ⟨_, _, ⟨ak, ck, huk⟩⟩ := HM31.out.lens
      subst huk
      go_wp2_with fail
      refine (need_lit w31 b B _ v' s' d HM31.out.bx.rd 1 [[101, 115, 97, 99]] (by decide)).mono ?_
      rintro r w33 hp
      rcases post_cases hp with ⟨er, hXe, rfl, hb9⟩ | ⟨x, u9, v33, hXy, rfl, he, ht, hr⟩
      · have hz : Z = .error er := by rw [HZ32.out, hXe]; rfl
        exact ⟨rfl, postN_error hz ((HM31.out.belowB HV.out).trans hb9)⟩
      have he' : u9 = .tuple #[] := he
      subst he'
      have HM33 := Lib.hid (HM31.out.step ht hr)
      have HX33 := Lib.hid hXy
      have HZ33 : Hid (Z = .ok ({ k := 9, t := y.1, ks := ks, ln := ln }, x.2)) := by show _ = _; rw [HZ32.out, hXy]; rfl
      have HPh34 : Hid (ph x.2 + 16 ≤ 80000) := by have hp0 := HPh90.out; have h8 := need_cost (by decide) x hXy; show _ ≤ _; omega
      clear hp he ht hr hXy
      go_upto_region 13 with fail
      obtain ⟨⟨x0, x1, x2, x3, x4, x5, x6, x7⟩, z0, z1, z2, z3, z4, z5, z6, z7⟩ := nd_cells HM33.out.bx.box
      have HOk : Hid (Z = .ok (m, x.2)) := by show _ = _; (rw [HZ33.out, HMk.out, HN1.out, HN9.out, HN6.out, HN0.out]; try rfl)
      obtain ⟨wF, hwF, hx99, hr99, ht99, hd99⟩ := HM33.out.fin
      have HF99 : Hid (Rows wF (fun g => W.heap.size ≤ g) m _ _ _ ∧ Turn b v W _ wF ∧ Rd wF b B P _ x.2 d) := ⟨hr99, ht99, hd99⟩
      obtain ⟨⟨y0, y1, y2, y3, y4, y5, y6, y7⟩, _⟩ := nd_cells hx99
      obtain ⟨⟨r0, r1, r2, r3, r4, r5, r6, r7⟩, q0, q1, q2, q3, q4, q5, q6, q7⟩ := nd_cells HM33.out.res
      clear hx99 hr99 ht99 hd99
      go_wp2_with fail
      refine bodyPost_ret (v := .agg (ndA m (.slice none 0 0) (.slice none 0 0) (.slice ak m.ks.length ck))) (by simp [results, Tryz.results129, go_sem, y0, y1, y2, y3, y4, y5, y6, y7, ndA]) rfl ?_
      rw [show Z = .ok (m, x.2) from HOk.out]
      exact ⟨_, _, _, _, rfl, HF99.out.1, HF99.out.2.1, HF99.out.2.2⟩
    | false =>
      have HStep : Hid (itemsM nest [] (lns e.2) = bd (itemM nest s') fun k s => if isM 2 [[59, 59]] s then itemsM nest (ks ++ [k]) (lns (tk s)) else .ok (ks ++ [k], s)) := by show _ = _; rw [← HRun.out, itemsM_eq HE.out.weak, if_neg (by rw [show isM 1 [[101, 115, 97, 99]] s' = false from Hzi31.out]; decide)]
      have HZ32 : Hid (Z = bd (bd (itemM nest s') fun k s => if isM 2 [[59, 59]] s then itemsM nest (ks ++ [k]) (lns (tk s)) else .ok (ks ++ [k], s)) fun ks s => bd (needM 1 [[101, 115, 97, 99]] s) fun _ s => .ok ({ k := 9, t := y.1, ks := ks, ln := ln }, s)) := by show _ = _; rw [HZ12.out, HStep.out]
      go_upto_region 8 with fail
      obtain ⟨X33, hX⟩ : ∃ X, itemM nest s' = X := ⟨_, rfl⟩
      have HX33 := Lib.hid hX
      have HLen : Hid (m.ks.length ≤ 100000) := by show _ ≤ _; rw [HMk.out]; show ks.length ≤ _; have := HPk.out; omega
      have HCall : Hid (∀ x, Rd x b B (offP P N (.slice none 0 0) (.slice none 0 0) uk) v' s' d → w31.heap.size ≤ x.heap.size → Calls Tryz.prog 153 #[.pointer (some ⟨b, 0, none⟩)] x (Post eN x b B (offP P N (.slice none 0 0) (.slice none 0 0) uk) v' d X33)) := fun x hr hs => by
        rw [← hX]
        exact HIt.out x b B _ v' s' hr (fun g hg => HM31.out.free HP.out g (Nat.le_trans hs hg)) (by have := HPh90.out; omega)
      have hX9 := hX
      clear hX
      have HM := HM31
      obtain ⟨i0, hi0, hz0, hz1, hz2⟩ := info_parts info_in
      have HUq : Hid (∀ g, Value.ownBlock (uk) = some g → g < w31.heap.size) := fun g hg => (HM.out.rows.k.lt g hg).2
      refine Rp.wp_region_rkx (fun ch x => ∃ e, X33 = .error e ∧ panY e.1 e.2 = Ending.panicked ch ∧ Below B w31 x) 6 [] [Rg.Is (.pointer (some ⟨N, 6, none⟩)), Rg.Is (uk), Rg.Is (.pointer (some ⟨b, 0, none⟩)), (fun u9 (x : World) => ∃ y, X33 = .ok y ∧ u9 = iv y.1), (fun u9 x => ∃ q, u9 = .slice (some ⟨q, 0, none⟩) 1 1 ∧ w31.heap.size ≤ q ∧ (∃ y, X33 = .ok y ∧ x.heap[q]? = some (.cells #[iv y.1] inT)) ∧ w31.heap.size < x.heap.size), (fun u9 x => ∃ y v9, X33 = .ok y ∧ MidA2 W v x b B P v9 y.2 d N (m) ({ m with ks := m.ks ++ [y.1] }) (.slice none 0 0) (.slice none 0 0) uk (.slice none 0 0) (.slice none 0 0) u9 (N + 1) ∧ w31.heap.size < x.heap.size)] (fun _ _ => True) (fun ls x => (ls 3 = false → x.heap.size = w31.heap.size ∧ Below w31.heap.size w31 x) ∧ (ls 3 = true → ls 5 = false → ∃ y v9, X33 = .ok y ∧ Mid2 W v x b B P v9 y.2 d N (m) (.slice none 0 0) (.slice none 0 0) uk (N + 1) ∧ w31.heap.size ≤ x.heap.size)) (fun k x y => if k = 3 then x.heap.size = w31.heap.size else if k = 5 then x.grownBy y (Value.ownBlock (uk)) else (Below x.heap.size x y ∧ (k = 4 ∨ y.heap.size = x.heap.size))) (by kernel_rfl) (by kernel_rfl) (of_decide_eq_true (by kernel_rfl)) (by kernel_rfl) (by kernel_rfl) trivial ⟨fun _ => ⟨rfl, rfl, rfl, rfl, Nat.le_refl _, fun _ _ => rfl⟩, fun h => by cases h⟩ (fun ls ls' x e h1 => ⟨fun h2 => h1.1 (by rw [e]; exact h2), fun h2 h3 => h1.2 (by rw [e]; exact h2) (by rw [e]; exact h3)⟩) (fun _ _ _ _ _ => trivial) (fun i ls x _ h1 => by rw [show ([] : List Bool).getD i true = true from rfl] at h1; cases h1) ?_ ⟨rfl, rfl, rfl, rfl, rfl, rfl, trivial⟩ ⟨?_, ?_, ?_, ?_, ?_, ?_, trivial⟩ ?_ ?_
      · intro i k u8 x y9 hik _ h1 hK
        match i, h1, hik with
        | 0, h1, _ => exact h1
        | 1, h1, _ => exact h1
        | 2, h1, _ => exact h1
        | 3, h1, _ => exact h1
        | 4, h1, hik =>
          obtain ⟨q, hq, hqw, ⟨y, hXy, hqx⟩, hlt⟩ := h1
          have hql := (Array.getElem?_eq_some_iff.1 hqx).1
          by_cases k3 : k = 3
          · rw [if_pos k3] at hK; omega
          · rw [if_neg k3] at hK
            by_cases k5 : k = 5
            · rw [if_pos k5] at hK
              exact ⟨q, hq, hqw, ⟨y, hXy, (hK.block q hql (fun e => by have := HUq.out q e.symm; omega)).trans hqx⟩, Nat.lt_of_lt_of_le hlt hK.size⟩
            · rw [if_neg k5] at hK
              exact ⟨q, hq, hqw, ⟨y, hXy, (hK.1.block q hql).trans hqx⟩, Nat.lt_of_lt_of_le hlt hK.1.size⟩
        | 5, h1, hik =>
          obtain ⟨y, v9, hXy, hA, hlt⟩ := h1
          by_cases k3 : k = 3
          · rw [if_pos k3] at hK; omega
          · rw [if_neg k3, if_neg (fun e => hik e.symm)] at hK
            exact ⟨y, v9, hXy, hA.below hK.1, Nat.lt_of_lt_of_le hlt hK.1.size⟩
        | _ + 6, _, _ => trivial
      · intro _ b9 x ls hR hS hself hup hdn hk
        have h3 : b9.eval (.tmp 3) = .pointer (some ⟨N, 0, none⟩) := Eq.mp (by kernel_rfl) (hk 3 (by decide))
        refine Rp.doesX_of ?_
        exact Rs.does_field _ _ h3 (by have := fld_nd N 0 6 (by decide) x; rw [Nat.zero_add] at this; exact this) ⟨by rw [if_neg (by decide), if_neg (by decide)]; exact ⟨Below.refl _ _, .inr rfl⟩, rfl, ⟨fun hh => hS.1 hh, fun h2 h3 => hS.2 h2 h3⟩⟩
      · intro _ b9 x ls hR hS hself hup hdn hk
        have h22 : b9.eval (.tmp 22) = .pointer (some ⟨N, 6, none⟩) := Eq.mp (by kernel_rfl) (hk 22 (by decide))
        have l5 : ls 5 = false := hdn [] 5 _ rfl (by kernel_rfl)
        have hc : x.cell? ⟨N, 6, none⟩ = some (uk) := by
          cases l3 : ls 3 with
          | false => have hm := HM.out.below (hS.1 l3).2; simp [World.cell?, hm.bx.box]
          | true => obtain ⟨y, v9, hXy, hm, hsz⟩ := hS.2 l3 l5; simp [World.cell?, hm.bx.box]
        refine Rp.doesX_of ?_
        exact Rg.does_load _ _ h22 (Ap.load_plainP (by simp [isAgg]) hc) ⟨by rw [if_neg (by decide), if_neg (by decide)]; exact ⟨Below.refl _ _, .inr rfl⟩, rfl, ⟨fun hh => hS.1 hh, fun h2 h3 => hS.2 h2 h3⟩⟩
      · intro _ b9 x ls hR hS hself hup hdn hk
        have h0 : b9.eval (.tmp 0) = .pointer (some ⟨b, 0, none⟩) := Eq.mp (by kernel_rfl) (hk 0 (by decide))
        refine Rp.doesX_of ?_
        exact Rg.does_move ⟨by rw [if_neg (by decide), if_neg (by decide)]; exact ⟨Below.refl _ _, .inr rfl⟩, h0, ⟨fun hh => hS.1 hh, fun h2 h3 => hS.2 h2 h3⟩⟩
      · intro _ b9 x ls hR hS hself hup hdn hk
        have h24 : b9.eval (.tmp 24) = .pointer (some ⟨b, 0, none⟩) := Eq.mp (by kernel_rfl) (hk 24 (by decide))
        obtain ⟨hsz, hb⟩ := hS.1 hself
        have hm := HM.out.below hb
        refine Rp.does_func #[.pointer (some ⟨b, 0, none⟩)] Tryz.func153 (by kernel_rfl) (by kernel_rfl) (by simp [h24, show ∀ v, b9.eval (.const v) = v from fun _ => rfl]) (HCall.out x hm.bx.rd hb.size) ?_
        intro e w' hp
        rcases post_cases hp with ⟨er, hXe, rfl, hb9⟩ | ⟨y, u9, v9, hXy, rfl, he, ht, hr⟩
        · exact .inr ⟨_, rfl, er, hXe, rfl, (hb.mono HM.out.bx.rd.size).trans hb9⟩
        · exact .inl ⟨u9, rfl, by rw [if_pos rfl]; exact hsz, ⟨y, hXy, he⟩, ⟨fun hh => by simp [Rs.upd] at hh, fun _ _ => ⟨y, v9, hXy, hm.step ht hr, by have := ht.size; omega⟩⟩⟩
      · intro _ b9 x ls hR hS hself hup hdn hk
        have h25 : (fun u9 (x : World) => ∃ y, X33 = .ok y ∧ u9 = iv y.1) (b9.eval (.tmp 25)) x := Eq.mp (by kernel_rfl) (hk 25 (by decide))
        have l3 : ls 3 = true := hup [] 3 (by kernel_rfl)
        have l5 : ls 5 = false := hdn [] 5 _ rfl (by kernel_rfl)
        obtain ⟨y, v9, hXy, hm, hsz⟩ := hS.2 l3 l5
        obtain ⟨y2, hXy2, he⟩ := h25
        have hyy : y2 = y := Except.ok.inj (hXy2.symm.trans hXy)
        subst hyy
        have hal := (Below.refl x.heap.size x).alloc (Nat.le_refl _) (.cells #[iv y2.1] inT)
        refine Rp.doesX_of ?_
        exact Rg.does_build #[(0, iv y2.1)] _ (by simp [he]) (by go_simp; rfl) ⟨by rw [if_neg (by decide), if_neg (by decide)]; exact ⟨hal, .inl rfl⟩, ⟨x.heap.size, rfl, hsz, ⟨y2, hXy, heap_alloc_new x _⟩, by rw [World.size_alloc]; omega⟩, ⟨fun hh => absurd (l3.symm.trans hh) (by decide), fun _ _ => ⟨y2, v9, hXy, hm.below hal, by rw [World.size_alloc]; omega⟩⟩⟩
      · intro _ b9 x ls hR hS hself hup hdn hk
        have h23 : b9.eval (.tmp 23) = uk := Eq.mp (by kernel_rfl) (hk 23 (by decide))
        have h26 : (fun u9 x => ∃ q, u9 = .slice (some ⟨q, 0, none⟩) 1 1 ∧ w31.heap.size ≤ q ∧ (∃ y, X33 = .ok y ∧ x.heap[q]? = some (.cells #[iv y.1] inT)) ∧ w31.heap.size < x.heap.size) (b9.eval (.tmp 26)) x := Eq.mp (by kernel_rfl) (hk 26 (by decide))
        have l3 : ls 3 = true := hup [] 3 (by kernel_rfl)
        obtain ⟨y, v9, hXy, hm, hsz⟩ := hS.2 l3 hself
        obtain ⟨q, hq, hqw, ⟨y2, hXy2, hqx⟩, hlt⟩ := h26
        have hyy : y2 = y := Except.ok.inj (hXy2.symm.trans hXy)
        subst hyy
        obtain ⟨u9, w', hrun, hown', hgr, hat⟩ := Ap.run_append_at (P := Tryz.prog) x 0 35 35 35 inT i0 _ 1 8 Tryz.underlying35 (append_side Tryz.underlying35) hi0 hz0 hz1 hz2 rfl (by decide) (by decide) (uk) _ _ hm.rows.k (b9.eval (.tmp 26)) 1 ([iv y2.1]) (by rw [hq]; exact src_cells (b := q) (off := 0) rfl (by intro u hu; obtain rfl := List.mem_singleton.1 hu; rfl) (.inr rfl) (fun i z hi => by rw [Nat.zero_add]; unfold World.cell?; simp only [hqx]; simpa using hi)) (by unfold maxLen; have := HLen.out; omega) (by have := HLen.out; omega) (Nat.zero_le _)
        refine Rp.doesX_of ?_
        exact Ap.does_append (uk) _ u9 w' h23 rfl hrun ⟨by rw [if_neg (by decide), if_pos rfl]; exact hgr, ⟨y2, v9, hXy, hm.app_k y2.1 hgr hown' hat, Nat.lt_of_lt_of_le hlt hgr.size⟩, ⟨fun hh => absurd (l3.symm.trans hh) (by decide), fun _ hh => by simp [Rs.upd] at hh⟩⟩
      · intro ch a' w' hdf hD
        obtain ⟨er, hXe, hpe, hbe⟩ := hD
        refine ⟨hdf, ?_⟩
        rw [← hpe]
        have hz : Z = .error er := by rw [HZ32.out, hX9, hXe]; rfl
        exact postN_error hz ((HM.out.belowB HV.out).trans hbe)
      intro vals wD ls _ hSD _ hL
      obtain ⟨g0, g1, g2, g3, g4, g5, _⟩ := hL
      obtain ⟨q, v33, hXy, hA, _⟩ := (g5 : (fun u9 x => ∃ y v9, X33 = .ok y ∧ MidA2 W v x b B P v9 y.2 d N (m) ({ m with ks := m.ks ++ [y.1] }) (.slice none 0 0) (.slice none 0 0) uk (.slice none 0 0) (.slice none 0 0) u9 (N + 1) ∧ w31.heap.size < x.heap.size) (vals 5) wD)
      clear g0 g1 g2 g3 g4 hSD
      obtain ⟨n33, hn2⟩ : ∃ n2 : Nd, { m with ks := m.ks ++ [q.1] } = n2 := ⟨_, rfl⟩
      rw [hn2] at hA
      have HN2 := Lib.hid hn2
      simp only [Rg.putAll, List.take_succ_cons, List.take_zero, List.drop_succ_cons, List.drop_zero, List.setIfInBounds_toArray, List.set_cons_succ, List.set_cons_zero]
      generalize vals 0 = g0 at *
      generalize vals 1 = g1 at *
      generalize vals 2 = g2 at *
      generalize vals 3 = g3 at *
      generalize vals 4 = g4 at *
      generalize vals 5 = u9 at *
      obtain ⟨a33, c33, hu9, _⟩ := ownsRow_slice hA.rows.k
      subst hu9
      obtain ⟨w33, hw33, hm9⟩ := hA.set 6 (.slice a33 n33.ks.length c33) (by rw [← HN2.out]; rfl)
      obtain ⟨⟨x0, x1, x2, x3, x4, x5, x6, x7⟩, z0, z1, z2, z3, z4, z5, z6, z7⟩ := nd_cells hA.bx.box
      have HM33 := Lib.hid hm9
      have HXy := Lib.hid hXy
      clear hA hm9 hXy i0 hi0 hz0 hz1 hz2 hn2
      have hXq : itemM nest s' = .ok q := by rw [hX9]; exact HXy.out
      have HZ33 : Hid (Z = bd (if isM 2 [[59, 59]] q.2 then itemsM nest (ks ++ [q.1]) (lns (tk q.2)) else .ok (ks ++ [q.1], q.2)) fun ks s => bd (needM 1 [[101, 115, 97, 99]] s) fun _ s => .ok ({ k := 9, t := y.1, ks := ks, ln := ln }, s)) := by show _ = _; rw [HZ32.out, hXq]; rfl
      have HN33 := Lib.hid HN2.out
      clear HN2 HLen HCall HM hX9
      have HPh34 : Hid (ph q.2 + 8 ≤ 80000) := by have hp0 := HPh90.out; have h8 := item_cost HE.out.cost s' q hXq; show _ ≤ _; omega
      have HXy33 := HXy
      clear hXq HXy
      have hXr : itemM nest s' = .ok q := by rw [show itemM nest s' = X33 from HX33.out]; exact HXy33.out
      have HStep2 : Hid (itemsM nest [] (lns e.2) = if isM 2 [[59, 59]] q.2 then itemsM nest (ks ++ [q.1]) (lns (tk q.2)) else .ok (ks ++ [q.1], q.2)) := by show _ = _; rw [HStep.out, hXr]; rfl
      have HCo : Hid (ph q.2 + 14 ≤ ph s' ∧ q.2.2.length ≤ s'.2.length) := ⟨item_cost HE.out.cost s' q hXr, item_weak HE.out.weak s' q hXr⟩
      have HMk2 : Hid (n33 = { n1 with ks := ks ++ [q.1] }) := by show _ = _; rw [← HN33.out, HMk.out]
      clear hXr
      go_wp2_with fail
      refine (is_lit w33 b B _ v33 q.2 d HM33.out.bx.rd 2 [[59, 59]] (by decide)).mono ?_
      rintro r w35 ⟨rfl, hb35⟩
      have HM35 := Lib.hid (HM33.out.below ((Below.refl _ _).trans hb35))
      clear hb35
      obtain ⟨z35, hz35⟩ : ∃ z, isM 2 [[59, 59]] q.2 = z := ⟨_, rfl⟩
      have Hzi35 := Lib.hid hz35
      rw [hz35]
      clear hz35
      clear x0 x1 x2 x3 x4 x5 x6 x7 z0 z1 z2 z3 z4 z5 z6 z7
      cases z35 with
      | true =>
        have HRun2 : Hid (itemsM nest (ks ++ [q.1]) (lns (tk q.2)) = itemsM nest [] (lns e.2)) := by show _ = _; rw [HStep2.out, if_pos Hzi35.out]
        have HLt : Hid ((lns (tk q.2)).2.length < s'.2.length) := by have h1 := lns_le (tk q.2); have h2 := isM_lt Hzi35.out (by decide); have h3 := HCo.out.2; show _ < _; omega
        go_wp2_with fail
        refine (take_calls w35 b B _ v33 q.2 d HM35.out.bx.rd).mono ?_
        rintro r w36 ⟨rfl, ht36, hr36⟩
        have HM36 := Lib.hid (HM35.out.step ht36 hr36)
        clear ht36 hr36
        have HPh37 : Hid (ph (tk q.2) + 8 ≤ 80000) := by have hp0 := HPh34.out; have h8 := ph_tk q.2; show _ ≤ _; omega
        go_wp2_with fail
        refine (lines_calls w36 b B _ v33 (tk q.2) d HM36.out.bx.rd).mono ?_
        rintro r w38 ⟨rfl, ht38, hr38⟩
        have HM38 := Lib.hid (HM36.out.step ht38 hr38)
        clear ht38 hr38
        have HPh39 : Hid (ph (lns (tk q.2)) + 8 ≤ 80000) := by have hp0 := HPh37.out; have h8 := ph_lns (tk q.2); show _ ≤ _; omega
        go_wp2_with fail
        go_roundw
        case rel => exact ⟨(lns (tk q.2)), ks ++ [q.1], _, _, n33, HRun2.out, HMk2.out, HM38.out, by have h1 := HCo.out.1; have h2 := HPk.out; have h3 := ph_lns (tk q.2); have h4 := ph_tk q.2; simp only [List.length_append, List.length_singleton]; omega⟩
        case measure => rw [rd_len HM38.out.bx.rd, rd_len HM0.out.bx.rd]; exact HLt.out
      | false =>
        have HZ36 : Hid (Z = bd (needM 1 [[101, 115, 97, 99]] q.2) fun _ s => .ok ({ k := 9, t := y.1, ks := ks ++ [q.1], ln := ln }, s)) := by show _ = _; rw [HZ33.out, if_neg (by rw [show isM 2 [[59, 59]] q.2 = false from Hzi35.out]; decide)]; rfl
        go_wp2_with fail
        refine (need_lit w35 b B _ v33 q.2 d HM35.out.bx.rd 1 [[101, 115, 97, 99]] (by decide)).mono ?_
        rintro r w37 hp
        rcases post_cases hp with ⟨er, hXe, rfl, hb9⟩ | ⟨x, u9, v37, hXy, rfl, he, ht, hr⟩
        · have hz : Z = .error er := by rw [HZ36.out, hXe]; rfl
          exact ⟨rfl, postN_error hz ((HM35.out.belowB HV.out).trans hb9)⟩
        have he' : u9 = .tuple #[] := he
        subst he'
        have HM37 := Lib.hid (HM35.out.step ht hr)
        have HX37 := Lib.hid hXy
        have HZ37 : Hid (Z = .ok ({ k := 9, t := y.1, ks := ks ++ [q.1], ln := ln }, x.2)) := by show _ = _; rw [HZ36.out, hXy]; rfl
        have HPh38 : Hid (ph x.2 + 16 ≤ 80000) := by have hp0 := HPh34.out; have h8 := need_cost (by decide) x hXy; show _ ≤ _; omega
        clear hp he ht hr hXy
        go_upto_region 13 with fail
        obtain ⟨⟨x0, x1, x2, x3, x4, x5, x6, x7⟩, z0, z1, z2, z3, z4, z5, z6, z7⟩ := nd_cells HM37.out.bx.box
        have HOk : Hid (Z = .ok (n33, x.2)) := by show _ = _; (rw [HZ37.out, HMk2.out, HN1.out, HN9.out, HN6.out, HN0.out]; try rfl)
        obtain ⟨wF, hwF, hx99, hr99, ht99, hd99⟩ := HM37.out.fin
        have HF99 : Hid (Rows wF (fun g => W.heap.size ≤ g) n33 _ _ _ ∧ Turn b v W _ wF ∧ Rd wF b B P _ x.2 d) := ⟨hr99, ht99, hd99⟩
        obtain ⟨⟨y0, y1, y2, y3, y4, y5, y6, y7⟩, _⟩ := nd_cells hx99
        obtain ⟨⟨r0, r1, r2, r3, r4, r5, r6, r7⟩, q0, q1, q2, q3, q4, q5, q6, q7⟩ := nd_cells HM37.out.res
        clear hx99 hr99 ht99 hd99
        go_wp2_with fail
        refine bodyPost_ret (v := .agg (ndA n33 (.slice none 0 0) (.slice none 0 0) (.slice a33 n33.ks.length c33))) (by simp [results, Tryz.results129, go_sem, y0, y1, y2, y3, y4, y5, y6, y7, ndA]) rfl ?_
        rw [show Z = .ok (n33, x.2) from HOk.out]
        exact ⟨_, _, _, _, rfl, HF99.out.1, HF99.out.2.1, HF99.out.2.2⟩
end Go.Proofs.YtiklkhbfilbpeaaGreatDoor.Sx
set_option linter.unusedVariables false
set_option linter.unusedSimpArgs false
set_option maxRecDepth 100000
namespace Go.Proofs.YtiklkhbfilbpeaaGreatDoor.Sx
open Go.RowKit Base Lx Sy
def ndLen (w : World) (b : Nat) : Nat := match w.cell? ⟨b, 0, none⟩ with | some (.slice _ n _) => n | _ => 0
theorem rd_ndLen {W : World} {b B : Nat} {P : Nat → Prop} {v : Value} {s : S} {d : Nat} (h : Rd W b B P v s d) : ndLen W b = s.1.length := by
  obtain ⟨u, hbx, _⟩ := h.box
  obtain ⟨zs, _, h2, _⟩ := h.row
  obtain ⟨a, c, rfl, _⟩ := ownsRow_slice h2
  unfold ndLen
  rw [(yr_cells hbx).1.1]
theorem len_keep {W W' : World} {b : Nat} (h : W'.heap[b]? = W.heap[b]?) : ndLen W' b = ndLen W b ∧ tkLen W' b = tkLen W b := by
  unfold ndLen tkLen World.cell?
  simp only [h]
  exact ⟨trivial, trivial⟩
theorem asksM_lt {nest : S → Sy.P Nat} (hn : ∀ s, Weak s (nest s)) {ln : Nat} {s : S} (h : (nx s).k ≠ 4) {y : Nd × S} (e : asksM nest ln s = .ok y) : y.2.2.length < s.2.length := by
  rw [asksM_eq hn ln s h] at e
  obtain ⟨c, t, h1, e⟩ := bd_ok_inv e
  have k1 := list_weak hn false _ _ h1
  obtain ⟨_, u, h2, e⟩ := bd_ok_inv e
  have k2 := need_weak _ h2
  obtain ⟨b, w, h3, e⟩ := bd_ok_inv e
  have k3 := list_weak hn false _ _ h3
  have k4 := tk_lt h
  simp only at k1 k2 k3
  have fin : ∀ z, y.2.2.length ≤ z → z ≤ w.2.length → y.2.2.length < s.2.length := fun z h1 h2 => by omega
  split at e
  · obtain ⟨n, x, h4, e⟩ := bd_ok_inv e
    have k5 := asks_weak hn _ _ _ _ h4
    injection e with e
    subst e
    exact fin _ (Nat.le_refl _) k5
  · split at e
    · obtain ⟨k, x, h4, e⟩ := bd_ok_inv e
      have k5 := list_weak hn false _ _ h4
      obtain ⟨_, z, h5, e⟩ := bd_ok_inv e
      have k6 := need_weak _ h5
      injection e with e
      subst e
      have := tk_le w
      simp only at k5 k6
      exact fin _ (Nat.le_refl _) (by simp only; omega)
    · obtain ⟨_, z, h5, e⟩ := bd_ok_inv e
      have k6 := need_weak _ h5
      injection e with e
      subst e
      exact fin _ (Nat.le_refl _) k6
theorem asksM_cost {nest : S → Sy.P Nat} (hn : NestC nest) (ln : Nat) (s : S) (h : (nx s).k ≠ 4) : Le 8 (ph s) (asksM nest ln s) := asks_cost hn _ ln s h
theorem build_nd7 (z : Int) (w : World) : (Instr.build ndT #[(7, .int .i64 z)]).run Tryz.prog w = .ok (.agg #[.int .i64 0, .string ⟨#[]⟩, .bool false, .slice none 0 0, .int .i64 0, .slice none 0 0, .slice none 0 0, .int .i64 z]) w := by go_simp
theorem turn_rows {b B : Nat} {P : Nat → Prop} {v v' : Value} {s : S} {d : Nat} {W W' : World} (ht : Turn b v W v' W') (hr : Rd W b B P v s d) : ∀ (g : Nat) (X : Array Value) (t : TypeId), W.heap[g]? = some (.cells X t) → rowT t → W'.heap[g]? = W.heap[g]? := fun g X t hX hT => by
  have hl := (Array.getElem?_eq_some_iff.1 hX).1
  refine ht.block g hl (fun e => ?_) (fun e => ?_)
  · subst e
    obtain ⟨u, hbx, _⟩ := hr.box
    have := cells_inj hX hbx
    rw [this] at hT
    exact rowT_no.2.1 hT
  · exact hr.own_ne hX (fun e => by rw [e] at hT; exact rowT_no.1 hT) e
/-- Behind a put: one node more, fewer tokens. -/
def PPut (X : Sy.P Nd) (b len : Nat) (x : World) : Prop := ∃ y8, X = .ok y8 ∧ ndLen x b = y8.2.1.length + 1 ∧ tkLen x b < len
theorem PPut.keep {X : Sy.P Nd} {b len : Nat} {x y : World} (h : PPut X b len x) (hb : y.heap[b]? = x.heap[b]?) : PPut X b len y := by
  obtain ⟨y8, h1, h2, h3⟩ := h
  have := len_keep hb
  exact ⟨y8, h1, by rw [this.1]; exact h2, by rw [this.2]; exact h3⟩
/-- The contract, for fewer tokens. -/
def AskIH (nest : S → Sy.P Nat) (d n : Nat) : Prop := ∀ (W : World) (b B : Nat) (P : Nat → Prop) (v : Value) (s : S), Rd W b B P v s d → (∀ g, W.heap.size ≤ g → P g) → ph s ≤ 80000 → (nx s).k ≠ 4 → s.2.length < n → ∀ ln : Nat,
  Calls Tryz.prog 126 #[.pointer (some ⟨b, 0, none⟩), .agg #[.int .i64 0, .string ⟨#[]⟩, .bool false, .slice none 0 0, .int .i64 0, .slice none 0 0, .slice none 0 0, .int .i64 (ln : Int)]] W (PostN W b B P v d (asksM nest ln s))
set_option maxHeartbeats 16000000 in
theorem asks_step {nest : S → Sy.P Nat} {d : Nat} (E : Env nest d) (hL : ListC nest d) (m : Nat) (hB : AskIH nest d m) (W : World) (b B : Nat) (P : Nat → Prop) (v : Value) (s : S) (h : Rd W b B P v s d) (hP : ∀ g, W.heap.size ≤ g → P g) (hF : ph s ≤ 80000) (h4 : (nx s).k ≠ 4) (hm : s.2.length ≤ m) (ln : Nat) :
    Calls Tryz.prog 126 #[.pointer (some ⟨b, 0, none⟩), .agg #[.int .i64 0, .string ⟨#[]⟩, .bool false, .slice none 0 0, .int .i64 0, .slice none 0 0, .slice none 0 0, .int .i64 (ln : Int)]] W (PostN W b B P v d (asksM nest ln s)) := by
  have HR := Lib.hid h
  have HE : Hid (Env nest d) := E
  have HLi : Hid (ListC nest d) := hL
  have HIH : Hid (AskIH nest d m) := hB
  have HP : Hid (∀ g, W.heap.size ≤ g → P g) := hP
  have HPh : Hid (ph s + 0 ≤ 80000) := hF
  have H4 := Lib.hid h4
  have HMm : Hid (s.2.length ≤ m) := hm
  have HV : Hid (∀ g, v.ownBlock = some g → B ≤ g) := fun g hg => (h.own g hg).1
  obtain ⟨n0, hn0⟩ : ∃ n0 : Nd, n0 = { k := 0, ln := ln } := ⟨_, rfl⟩
  have HN0 := Lib.hid hn0
  obtain ⟨w1, w2, hw1, hw2, hz1, hm2, hb2⟩ := Mid2.start h n0 (by rw [hn0]) (by rw [hn0]) (by rw [hn0])
  obtain ⟨N, hN⟩ : ∃ N, W.heap.size = N := ⟨_, rfl⟩
  have hw1' : W.alloc (.cells #[.int .i64 0, .string ⟨#[]⟩, .bool false, .slice none 0 0, .int .i64 0, .slice none 0 0, .slice none 0 0, .int .i64 (ln : Int)] ndT) = w1 := by rw [hn0] at hw1; exact hw1
  rw [hN] at hm2 hz1
  have HW1 := Lib.hid hw1'
  have HW2 := Lib.hid hw2
  have HZ1 := Lib.hid hz1
  have HNn := Lib.hid hN
  have HM2 := Lib.hid hm2
  obtain ⟨Z, hZ⟩ : ∃ Z, asksM nest ln s = Z := ⟨_, rfl⟩
  have HZm := Lib.hid hZ
  rw [hZ]
  clear h hP hF h4 hm E hL hB hn0 hw1 hw1' hw2 hz1 hN hm2 hb2 hZ
  go_enter Tryz.func126, Tryz.ntmps126
  go_upto_region 1 with fail
  rw [HW1.out, HW2.out, HNn.out]
  have HZ3 : Hid (Z = bd (listM nest false (tk s)) fun c s => bd (needM 1 [[116, 104, 101, 110]] s) fun _ s => bd (listM nest false s) fun b s => if isM 1 [[101, 108, 105, 102]] s then bd (asksM nest (nx s).ln s) fun n s => bd (Sy.putM n s) fun k s => .ok ({ k := 6, ks := [c, b, k], ln := ln }, s) else if isM 1 [[101, 108, 115, 101]] s then bd (listM nest false (tk s)) fun k s => bd (needM 1 [[102, 105]] s) fun _ s => .ok ({ k := 6, ks := [c, b, k], ln := ln }, s) else bd (needM 1 [[102, 105]] s) fun _ s => .ok ({ k := 6, ks := [c, b], ln := ln }, s)) := by show _ = _; rw [← HZm.out, asksM_eq HE.out.weak ln s H4.out]
  go_wp2_with fail
  refine (take_calls w2 b B _ v s d HM2.out.bx.rd).mono ?_
  rintro r w4 ⟨rfl, ht4, hr4⟩
  have HM4 := Lib.hid (HM2.out.step ht4 hr4)
  clear ht4 hr4
  have HPh5 : Hid (ph (tk s) + 8 ≤ 80000) := by have hp0 := HPh.out; have h8 := ph_tk8 (s := s) H4.out; show _ ≤ _; omega
  obtain ⟨⟨x0, x1, x2, x3, x4, x5, x6, x7⟩, z0, z1, z2, z3, z4, z5, z6, z7⟩ := nd_cells HM4.out.bx.box
  obtain ⟨n6, hn6⟩ : ∃ n1 : Nd, n1 = { n0 with k := 6 } := ⟨_, rfl⟩
  have HN6 := Lib.hid hn6
  obtain ⟨w6, hw6, hm6⟩ := HM4.out.set 0 (.int .i64 6) n6 (by rw [hn6]; rfl) (by rw [hn6]) (by rw [hn6]) (by rw [hn6])
  have HM6 := Lib.hid hm6
  clear hm6 hn6
  go_wp2_with fail
  refine (HLi.out w6 b B _ v (tk s) false HM6.out.bx.rd (HM6.out.free HP.out) (by have := HPh5.out; omega)).mono ?_
  rintro r w7 hp
  rcases post_cases hp with ⟨er, hXe, rfl, hb9⟩ | ⟨y, u9, v7, hXy, rfl, he, ht, hr⟩
  · have hz : Z = .error er := by rw [HZ3.out, hXe]; rfl
    exact ⟨rfl, postN_error hz ((HM6.out.belowB HV.out).trans hb9)⟩
  have he' : u9 = .int .i64 (y.1 : Int) := he
  subst he'
  have HM7 := Lib.hid (HM6.out.step ht hr)
  have HX7 := Lib.hid hXy
  have HZ7 : Hid (Z = bd (needM 1 [[116, 104, 101, 110]] y.2) fun _ s => bd (listM nest false s) fun b s => if isM 1 [[101, 108, 105, 102]] s then bd (asksM nest (nx s).ln s) fun n s => bd (Sy.putM n s) fun k s => .ok ({ k := 6, ks := [y.1, b, k], ln := ln }, s) else if isM 1 [[101, 108, 115, 101]] s then bd (listM nest false (tk s)) fun k s => bd (needM 1 [[102, 105]] s) fun _ s => .ok ({ k := 6, ks := [y.1, b, k], ln := ln }, s) else bd (needM 1 [[102, 105]] s) fun _ s => .ok ({ k := 6, ks := [y.1, b], ln := ln }, s)) := by show _ = _; rw [HZ3.out, hXy]; rfl
  have HPh8 : Hid (ph y.2 + 7 ≤ 80000) := by have hp0 := HPh5.out; have h8 := list_cost HE.out.cost false (tk s) y hXy; show _ ≤ _; omega
  clear hp he ht hr hXy
  clear x0 x1 x2 x3 x4 x5 x6 x7 z0 z1 z2 z3 z4 z5 z6 z7
  obtain ⟨wL9, w9, hwL9, hw9, hx8, hm9⟩ := HM7.out.new_k y.1
  have hwL9' : w7.alloc (.cells #[.int .i64 (y.1 : Int)] inT) = wL9 := hwL9
  obtain ⟨n9, hn2⟩ : ∃ n2 : Nd, { n6 with ks := [y.1] } = n2 := ⟨_, rfl⟩
  rw [hn2] at hm9
  have HN2 := Lib.hid hn2
  have HM9 := Lib.hid hm9
  obtain ⟨⟨x0, x1, x2, x3, x4, x5, x6, x7⟩, z0, z1, z2, z3, z4, z5, z6, z7⟩ := nd_cells hx8
  clear hwL9 hm9 hn2 hx8
  have HN9 := Lib.hid HN2.out
  clear HN2
  go_wp2_with fail
  refine (need_lit w9 b B _ v7 y.2 d HM9.out.bx.rd 1 [[116, 104, 101, 110]] (by decide)).mono ?_
  rintro r w10 hp
  rcases post_cases hp with ⟨er, hXe, rfl, hb9⟩ | ⟨e, u9, v10, hXy, rfl, he, ht, hr⟩
  · have hz : Z = .error er := by rw [HZ7.out, hXe]; rfl
    exact ⟨rfl, postN_error hz ((HM9.out.belowB HV.out).trans hb9)⟩
  have he' : u9 = .tuple #[] := he
  subst he'
  have HM10 := Lib.hid (HM9.out.step ht hr)
  have HX10 := Lib.hid hXy
  have HZ10 : Hid (Z = bd (listM nest false e.2) fun b s => if isM 1 [[101, 108, 105, 102]] s then bd (asksM nest (nx s).ln s) fun n s => bd (Sy.putM n s) fun k s => .ok ({ k := 6, ks := [y.1, b, k], ln := ln }, s) else if isM 1 [[101, 108, 115, 101]] s then bd (listM nest false (tk s)) fun k s => bd (needM 1 [[102, 105]] s) fun _ s => .ok ({ k := 6, ks := [y.1, b, k], ln := ln }, s) else bd (needM 1 [[102, 105]] s) fun _ s => .ok ({ k := 6, ks := [y.1, b], ln := ln }, s)) := by show _ = _; rw [HZ7.out, hXy]; rfl
  have HPh11 : Hid (ph e.2 + 15 ≤ 80000) := by have hp0 := HPh8.out; have h8 := need_cost (by decide) e hXy; show _ ≤ _; omega
  clear hp he ht hr hXy
  clear x0 x1 x2 x3 x4 x5 x6 x7 z0 z1 z2 z3 z4 z5 z6 z7
  go_upto_region 5 with fail
  obtain ⟨X12, hX⟩ : ∃ X, listM nest false e.2 = X := ⟨_, rfl⟩
  have HX12 := Lib.hid hX
  have HLen : Hid (n9.ks.length ≤ 100000) := by show _ ≤ _; rw [← HN9.out, HN6.out, HN0.out]; simp
  have HCall : Hid (∀ x, Rd x b B (offP P N (.slice none 0 0) (.slice none 0 0) (.slice (some ⟨w7.heap.size, 0, none⟩) 1 1)) v10 e.2 d → w10.heap.size ≤ x.heap.size → Calls Tryz.prog 23 #[.pointer (some ⟨b, 0, none⟩), .bool false] x (Post eN x b B (offP P N (.slice none 0 0) (.slice none 0 0) (.slice (some ⟨w7.heap.size, 0, none⟩) 1 1)) v10 d X12)) := fun x hr hs => by
    rw [← hX]
    exact HLi.out x b B _ v10 e.2 false hr (fun g hg => HM10.out.free HP.out g (Nat.le_trans hs hg)) (by have := HPh11.out; omega)
  have hX9 := hX
  clear hX
  have HM := HM10
  obtain ⟨i0, hi0, hz0, hz1, hz2⟩ := info_parts info_in
  have HUq : Hid (∀ g, Value.ownBlock ((.slice (some ⟨w7.heap.size, 0, none⟩) 1 1)) = some g → g < w10.heap.size) := fun g hg => (HM.out.rows.k.lt g hg).2
  refine Rp.wp_region_rkx (fun ch x => ∃ e, X12 = .error e ∧ panY e.1 e.2 = Ending.panicked ch ∧ Below B w10 x) 6 [] [Rg.Is (.pointer (some ⟨N, 6, none⟩)), Rg.Is ((.slice (some ⟨w7.heap.size, 0, none⟩) 1 1)), Rg.Is (.pointer (some ⟨b, 0, none⟩)), (fun u9 (x : World) => ∃ y, X12 = .ok y ∧ u9 = iv y.1), (fun u9 x => ∃ q, u9 = .slice (some ⟨q, 0, none⟩) 1 1 ∧ w10.heap.size ≤ q ∧ (∃ y, X12 = .ok y ∧ x.heap[q]? = some (.cells #[iv y.1] inT)) ∧ w10.heap.size < x.heap.size), (fun u9 x => ∃ y v9, X12 = .ok y ∧ MidA2 W v x b B P v9 y.2 d N (n9) ({ n9 with ks := n9.ks ++ [y.1] }) (.slice none 0 0) (.slice none 0 0) (.slice (some ⟨w7.heap.size, 0, none⟩) 1 1) (.slice none 0 0) (.slice none 0 0) u9 (N + 1) ∧ w10.heap.size < x.heap.size)] (fun _ _ => True) (fun ls x => (ls 3 = false → x.heap.size = w10.heap.size ∧ Below w10.heap.size w10 x) ∧ (ls 3 = true → ls 5 = false → ∃ y v9, X12 = .ok y ∧ Mid2 W v x b B P v9 y.2 d N (n9) (.slice none 0 0) (.slice none 0 0) (.slice (some ⟨w7.heap.size, 0, none⟩) 1 1) (N + 1) ∧ w10.heap.size ≤ x.heap.size)) (fun k x y => if k = 3 then x.heap.size = w10.heap.size else if k = 5 then x.grownBy y (Value.ownBlock ((.slice (some ⟨w7.heap.size, 0, none⟩) 1 1))) else (Below x.heap.size x y ∧ (k = 4 ∨ y.heap.size = x.heap.size))) (by kernel_rfl) (by kernel_rfl) (of_decide_eq_true (by kernel_rfl)) (by kernel_rfl) (by kernel_rfl) trivial ⟨fun _ => ⟨rfl, rfl, rfl, rfl, Nat.le_refl _, fun _ _ => rfl⟩, fun h => by cases h⟩ (fun ls ls' x e h1 => ⟨fun h2 => h1.1 (by rw [e]; exact h2), fun h2 h3 => h1.2 (by rw [e]; exact h2) (by rw [e]; exact h3)⟩) (fun _ _ _ _ _ => trivial) (fun i ls x _ h1 => by rw [show ([] : List Bool).getD i true = true from rfl] at h1; cases h1) ?_ ⟨rfl, rfl, rfl, rfl, rfl, rfl, trivial⟩ ⟨?_, ?_, ?_, ?_, ?_, ?_, trivial⟩ ?_ ?_
  · intro i k u8 x y9 hik _ h1 hK
    match i, h1, hik with
    | 0, h1, _ => exact h1
    | 1, h1, _ => exact h1
    | 2, h1, _ => exact h1
    | 3, h1, _ => exact h1
    | 4, h1, hik =>
      obtain ⟨q, hq, hqw, ⟨y, hXy, hqx⟩, hlt⟩ := h1
      have hql := (Array.getElem?_eq_some_iff.1 hqx).1
      by_cases k3 : k = 3
      · rw [if_pos k3] at hK; omega
      · rw [if_neg k3] at hK
        by_cases k5 : k = 5
        · rw [if_pos k5] at hK
          exact ⟨q, hq, hqw, ⟨y, hXy, (hK.block q hql (fun e => by have := HUq.out q e.symm; omega)).trans hqx⟩, Nat.lt_of_lt_of_le hlt hK.size⟩
        · rw [if_neg k5] at hK
          exact ⟨q, hq, hqw, ⟨y, hXy, (hK.1.block q hql).trans hqx⟩, Nat.lt_of_lt_of_le hlt hK.1.size⟩
    | 5, h1, hik =>
      obtain ⟨y, v9, hXy, hA, hlt⟩ := h1
      by_cases k3 : k = 3
      · rw [if_pos k3] at hK; omega
      · rw [if_neg k3, if_neg (fun e => hik e.symm)] at hK
        exact ⟨y, v9, hXy, hA.below hK.1, Nat.lt_of_lt_of_le hlt hK.1.size⟩
    | _ + 6, _, _ => trivial
  · intro _ b9 x ls hR hS hself hup hdn hk
    have h3 : b9.eval (.tmp 3) = .pointer (some ⟨N, 0, none⟩) := Eq.mp (by kernel_rfl) (hk 3 (by decide))
    refine Rp.doesX_of ?_
    exact Rs.does_field _ _ h3 (by have := fld_nd N 0 6 (by decide) x; rw [Nat.zero_add] at this; exact this) ⟨by rw [if_neg (by decide), if_neg (by decide)]; exact ⟨Below.refl _ _, .inr rfl⟩, rfl, ⟨fun hh => hS.1 hh, fun h2 h3 => hS.2 h2 h3⟩⟩
  · intro _ b9 x ls hR hS hself hup hdn hk
    have h15 : b9.eval (.tmp 15) = .pointer (some ⟨N, 6, none⟩) := Eq.mp (by kernel_rfl) (hk 15 (by decide))
    have l5 : ls 5 = false := hdn [] 5 _ rfl (by kernel_rfl)
    have hc : x.cell? ⟨N, 6, none⟩ = some ((.slice (some ⟨w7.heap.size, 0, none⟩) 1 1)) := by
      cases l3 : ls 3 with
      | false => have hm := HM.out.below (hS.1 l3).2; simp [World.cell?, hm.bx.box]
      | true => obtain ⟨y, v9, hXy, hm, hsz⟩ := hS.2 l3 l5; simp [World.cell?, hm.bx.box]
    refine Rp.doesX_of ?_
    exact Rg.does_load _ _ h15 (Ap.load_plainP (by simp [isAgg]) hc) ⟨by rw [if_neg (by decide), if_neg (by decide)]; exact ⟨Below.refl _ _, .inr rfl⟩, rfl, ⟨fun hh => hS.1 hh, fun h2 h3 => hS.2 h2 h3⟩⟩
  · intro _ b9 x ls hR hS hself hup hdn hk
    have h0 : b9.eval (.tmp 0) = .pointer (some ⟨b, 0, none⟩) := Eq.mp (by kernel_rfl) (hk 0 (by decide))
    refine Rp.doesX_of ?_
    exact Rg.does_move ⟨by rw [if_neg (by decide), if_neg (by decide)]; exact ⟨Below.refl _ _, .inr rfl⟩, h0, ⟨fun hh => hS.1 hh, fun h2 h3 => hS.2 h2 h3⟩⟩
  · intro _ b9 x ls hR hS hself hup hdn hk
    have h17 : b9.eval (.tmp 17) = .pointer (some ⟨b, 0, none⟩) := Eq.mp (by kernel_rfl) (hk 17 (by decide))
    obtain ⟨hsz, hb⟩ := hS.1 hself
    have hm := HM.out.below hb
    refine Rp.does_func #[.pointer (some ⟨b, 0, none⟩), .bool false] Tryz.func23 (by kernel_rfl) (by kernel_rfl) (by simp [h17, show ∀ v, b9.eval (.const v) = v from fun _ => rfl]) (HCall.out x hm.bx.rd hb.size) ?_
    intro e w' hp
    rcases post_cases hp with ⟨er, hXe, rfl, hb9⟩ | ⟨y, u9, v9, hXy, rfl, he, ht, hr⟩
    · exact .inr ⟨_, rfl, er, hXe, rfl, (hb.mono HM.out.bx.rd.size).trans hb9⟩
    · exact .inl ⟨u9, rfl, by rw [if_pos rfl]; exact hsz, ⟨y, hXy, he⟩, ⟨fun hh => by simp [Rs.upd] at hh, fun _ _ => ⟨y, v9, hXy, hm.step ht hr, by have := ht.size; omega⟩⟩⟩
  · intro _ b9 x ls hR hS hself hup hdn hk
    have h18 : (fun u9 (x : World) => ∃ y, X12 = .ok y ∧ u9 = iv y.1) (b9.eval (.tmp 18)) x := Eq.mp (by kernel_rfl) (hk 18 (by decide))
    have l3 : ls 3 = true := hup [] 3 (by kernel_rfl)
    have l5 : ls 5 = false := hdn [] 5 _ rfl (by kernel_rfl)
    obtain ⟨y, v9, hXy, hm, hsz⟩ := hS.2 l3 l5
    obtain ⟨y2, hXy2, he⟩ := h18
    have hyy : y2 = y := Except.ok.inj (hXy2.symm.trans hXy)
    subst hyy
    have hal := (Below.refl x.heap.size x).alloc (Nat.le_refl _) (.cells #[iv y2.1] inT)
    refine Rp.doesX_of ?_
    exact Rg.does_build #[(0, iv y2.1)] _ (by simp [he]) (by go_simp; rfl) ⟨by rw [if_neg (by decide), if_neg (by decide)]; exact ⟨hal, .inl rfl⟩, ⟨x.heap.size, rfl, hsz, ⟨y2, hXy, heap_alloc_new x _⟩, by rw [World.size_alloc]; omega⟩, ⟨fun hh => absurd (l3.symm.trans hh) (by decide), fun _ _ => ⟨y2, v9, hXy, hm.below hal, by rw [World.size_alloc]; omega⟩⟩⟩
  · intro _ b9 x ls hR hS hself hup hdn hk
    have h16 : b9.eval (.tmp 16) = (.slice (some ⟨w7.heap.size, 0, none⟩) 1 1) := Eq.mp (by kernel_rfl) (hk 16 (by decide))
    have h19 : (fun u9 x => ∃ q, u9 = .slice (some ⟨q, 0, none⟩) 1 1 ∧ w10.heap.size ≤ q ∧ (∃ y, X12 = .ok y ∧ x.heap[q]? = some (.cells #[iv y.1] inT)) ∧ w10.heap.size < x.heap.size) (b9.eval (.tmp 19)) x := Eq.mp (by kernel_rfl) (hk 19 (by decide))
    have l3 : ls 3 = true := hup [] 3 (by kernel_rfl)
    obtain ⟨y, v9, hXy, hm, hsz⟩ := hS.2 l3 hself
    obtain ⟨q, hq, hqw, ⟨y2, hXy2, hqx⟩, hlt⟩ := h19
    have hyy : y2 = y := Except.ok.inj (hXy2.symm.trans hXy)
    subst hyy
    obtain ⟨u9, w', hrun, hown', hgr, hat⟩ := Ap.run_append_at (P := Tryz.prog) x 0 35 35 35 inT i0 _ 1 8 Tryz.underlying35 (append_side Tryz.underlying35) hi0 hz0 hz1 hz2 rfl (by decide) (by decide) ((.slice (some ⟨w7.heap.size, 0, none⟩) 1 1)) _ _ hm.rows.k (b9.eval (.tmp 19)) 1 ([iv y2.1]) (by rw [hq]; exact src_cells (b := q) (off := 0) rfl (by intro u hu; obtain rfl := List.mem_singleton.1 hu; rfl) (.inr rfl) (fun i z hi => by rw [Nat.zero_add]; unfold World.cell?; simp only [hqx]; simpa using hi)) (by unfold maxLen; have := HLen.out; omega) (by have := HLen.out; omega) (Nat.zero_le _)
    refine Rp.doesX_of ?_
    exact Ap.does_append ((.slice (some ⟨w7.heap.size, 0, none⟩) 1 1)) _ u9 w' h16 rfl hrun ⟨by rw [if_neg (by decide), if_pos rfl]; exact hgr, ⟨y2, v9, hXy, hm.app_k y2.1 hgr hown' hat, Nat.lt_of_lt_of_le hlt hgr.size⟩, ⟨fun hh => absurd (l3.symm.trans hh) (by decide), fun _ hh => by simp [Rs.upd] at hh⟩⟩
  · intro ch a' w' hdf hD
    obtain ⟨er, hXe, hpe, hbe⟩ := hD
    refine ⟨hdf, ?_⟩
    rw [← hpe]
    have hz : Z = .error er := by rw [HZ10.out, hX9, hXe]; rfl
    exact postN_error hz ((HM.out.belowB HV.out).trans hbe)
  intro vals wD ls _ hSD _ hL
  obtain ⟨g0, g1, g2, g3, g4, g5, _⟩ := hL
  obtain ⟨q, v12, hXy, hA, _⟩ := (g5 : (fun u9 x => ∃ y v9, X12 = .ok y ∧ MidA2 W v x b B P v9 y.2 d N (n9) ({ n9 with ks := n9.ks ++ [y.1] }) (.slice none 0 0) (.slice none 0 0) (.slice (some ⟨w7.heap.size, 0, none⟩) 1 1) (.slice none 0 0) (.slice none 0 0) u9 (N + 1) ∧ w10.heap.size < x.heap.size) (vals 5) wD)
  clear g0 g1 g2 g3 g4 hSD
  obtain ⟨n12, hn2⟩ : ∃ n2 : Nd, { n9 with ks := n9.ks ++ [q.1] } = n2 := ⟨_, rfl⟩
  rw [hn2] at hA
  have HN2 := Lib.hid hn2
  simp only [Rg.putAll, List.take_succ_cons, List.take_zero, List.drop_succ_cons, List.drop_zero, List.setIfInBounds_toArray, List.set_cons_succ, List.set_cons_zero]
  generalize vals 0 = g0 at *
  generalize vals 1 = g1 at *
  generalize vals 2 = g2 at *
  generalize vals 3 = g3 at *
  generalize vals 4 = g4 at *
  generalize vals 5 = u9 at *
  obtain ⟨a12, c12, hu9, _⟩ := ownsRow_slice hA.rows.k
  subst hu9
  obtain ⟨w12, hw12, hm9⟩ := hA.set 6 (.slice a12 n12.ks.length c12) (by rw [← HN2.out]; rfl)
  obtain ⟨⟨x0, x1, x2, x3, x4, x5, x6, x7⟩, z0, z1, z2, z3, z4, z5, z6, z7⟩ := nd_cells hA.bx.box
  have HM12 := Lib.hid hm9
  have HXy := Lib.hid hXy
  clear hA hm9 hXy i0 hi0 hz0 hz1 hz2 hn2
  have hXq : listM nest false e.2 = .ok q := by rw [hX9]; exact HXy.out
  have HZ12 : Hid (Z = if isM 1 [[101, 108, 105, 102]] q.2 then bd (asksM nest (nx q.2).ln q.2) fun n s => bd (Sy.putM n s) fun k s => .ok ({ k := 6, ks := [y.1, q.1, k], ln := ln }, s) else if isM 1 [[101, 108, 115, 101]] q.2 then bd (listM nest false (tk q.2)) fun k s => bd (needM 1 [[102, 105]] s) fun _ s => .ok ({ k := 6, ks := [y.1, q.1, k], ln := ln }, s) else bd (needM 1 [[102, 105]] q.2) fun _ s => .ok ({ k := 6, ks := [y.1, q.1], ln := ln }, s)) := by show _ = _; rw [HZ10.out, hXq]; rfl
  have HN12 := Lib.hid HN2.out
  clear HN2 HLen HCall HM hX9
  have HPh13 : Hid (ph q.2 + 14 ≤ 80000) := by have hp0 := HPh11.out; have h8 := list_cost HE.out.cost false e.2 q hXq; show _ ≤ _; omega
  have HXy12 := HXy
  clear hXq HXy
  have HQm : Hid (q.2.2.length < s.2.length) := by
    have h1 := list_weak HE.out.weak false _ _ (show listM nest false (tk s) = .ok y from HX7.out)
    have h2 := need_weak _ (show needM 1 [[116, 104, 101, 110]] y.2 = .ok e from HX10.out)
    have h3 := list_weak HE.out.weak false e.2 q (by rw [show listM nest false e.2 = X12 from HX12.out]; exact HXy12.out)
    have h4 := tk_lt H4.out
    show _ < _
    omega
  go_wp2_with fail
  refine (word_lit w12 b B _ v12 q.2 d HM12.out.bx.rd [[101, 108, 105, 102]] (by decide)).mono ?_
  rintro r w14 ⟨rfl, hb14⟩
  have HM14 := Lib.hid (HM12.out.below ((Below.refl _ _).trans hb14))
  clear hb14
  obtain ⟨z14, hz14⟩ : ∃ z, isM 1 [[101, 108, 105, 102]] q.2 = z := ⟨_, rfl⟩
  have Hzi14 := Lib.hid hz14
  rw [hz14]
  clear hz14
  clear x0 x1 x2 x3 x4 x5 x6 x7 z0 z1 z2 z3 z4 z5 z6 z7
  cases z14 with
  | false =>
    have HZ15 : Hid (Z = if isM 1 [[101, 108, 115, 101]] q.2 then bd (listM nest false (tk q.2)) fun k s => bd (needM 1 [[102, 105]] s) fun _ s => .ok ({ k := 6, ks := [y.1, q.1, k], ln := ln }, s) else bd (needM 1 [[102, 105]] q.2) fun _ s => .ok ({ k := 6, ks := [y.1, q.1], ln := ln }, s)) := by show _ = _; rw [HZ12.out, if_neg (by rw [show isM 1 [[101, 108, 105, 102]] q.2 = false from Hzi14.out]; decide)]
    go_wp2_with fail
    refine (word_lit w14 b B _ v12 q.2 d HM14.out.bx.rd [[101, 108, 115, 101]] (by decide)).mono ?_
    rintro r w16 ⟨rfl, hb16⟩
    have HM16 := Lib.hid (HM14.out.below ((Below.refl _ _).trans hb16))
    clear hb16
    obtain ⟨z16, hz16⟩ : ∃ z, isM 1 [[101, 108, 115, 101]] q.2 = z := ⟨_, rfl⟩
    have Hzi16 := Lib.hid hz16
    rw [hz16]
    clear hz16
    cases z16 with
    | false =>
      have HZ17 : Hid (Z = bd (needM 1 [[102, 105]] q.2) fun _ s => .ok ({ k := 6, ks := [y.1, q.1], ln := ln }, s)) := by show _ = _; rw [HZ15.out, if_neg (by rw [show isM 1 [[101, 108, 115, 101]] q.2 = false from Hzi16.out]; decide)]
      go_wp2_with fail
      refine (need_lit w16 b B _ v12 q.2 d HM16.out.bx.rd 1 [[102, 105]] (by decide)).mono ?_
      rintro r w18 hp
      rcases post_cases hp with ⟨er, hXe, rfl, hb9⟩ | ⟨f, u9, v18, hXy, rfl, he, ht, hr⟩
      · have hz : Z = .error er := by rw [HZ17.out, hXe]; rfl
        exact ⟨rfl, postN_error hz ((HM16.out.belowB HV.out).trans hb9)⟩
      have he' : u9 = .tuple #[] := he
      subst he'
      have HM18 := Lib.hid (HM16.out.step ht hr)
      have HX18 := Lib.hid hXy
      have HZ18 : Hid (Z = .ok ({ k := 6, ks := [y.1, q.1], ln := ln }, f.2)) := by show _ = _; rw [HZ17.out, hXy]; rfl
      have HPh19 : Hid (ph f.2 + 22 ≤ 80000) := by have hp0 := HPh13.out; have h8 := need_cost (by decide) f hXy; show _ ≤ _; omega
      clear hp he ht hr hXy
      go_upto_region 13 with fail
      obtain ⟨⟨x0, x1, x2, x3, x4, x5, x6, x7⟩, z0, z1, z2, z3, z4, z5, z6, z7⟩ := nd_cells HM18.out.bx.box
      have HOk : Hid (Z = .ok (n12, f.2)) := by show _ = _; (rw [HZ18.out, ← HN12.out, ← HN9.out, HN6.out, HN0.out]; try rfl)
      obtain ⟨wF, hwF, hx99, hr99, ht99, hd99⟩ := HM18.out.fin
      have HF99 : Hid (Rows wF (fun g => W.heap.size ≤ g) n12 _ _ _ ∧ Turn b v W _ wF ∧ Rd wF b B P _ f.2 d) := ⟨hr99, ht99, hd99⟩
      obtain ⟨⟨y0, y1, y2, y3, y4, y5, y6, y7⟩, _⟩ := nd_cells hx99
      obtain ⟨⟨r0, r1, r2, r3, r4, r5, r6, r7⟩, q0, q1, q2, q3, q4, q5, q6, q7⟩ := nd_cells HM18.out.res
      clear hx99 hr99 ht99 hd99
      go_wp2_with fail
      refine bodyPost_ret (v := .agg (ndA n12 (.slice none 0 0) (.slice none 0 0) (.slice a12 n12.ks.length c12))) (by simp [results, Tryz.results126, go_sem, y0, y1, y2, y3, y4, y5, y6, y7, ndA]) rfl ?_
      rw [show Z = .ok (n12, f.2) from HOk.out]
      exact ⟨_, _, _, _, rfl, HF99.out.1, HF99.out.2.1, HF99.out.2.2⟩
    | true =>
      have HZ17 : Hid (Z = bd (listM nest false (tk q.2)) fun k s => bd (needM 1 [[102, 105]] s) fun _ s => .ok ({ k := 6, ks := [y.1, q.1, k], ln := ln }, s)) := by show _ = _; rw [HZ15.out, if_pos Hzi16.out]
      go_wp2_with fail
      refine (take_calls w16 b B _ v12 q.2 d HM16.out.bx.rd).mono ?_
      rintro r w18 ⟨rfl, ht18, hr18⟩
      have HM18 := Lib.hid (HM16.out.step ht18 hr18)
      clear ht18 hr18
      have HPh19 : Hid (ph (tk q.2) + 22 ≤ 80000) := by have hp0 := HPh13.out; have h8 := ph_tk8 (s := q.2) (by rw [isM_k Hzi16.out]; decide); show _ ≤ _; omega
      go_upto_region 11 with fail
      obtain ⟨X20, hX⟩ : ∃ X, listM nest false (tk q.2) = X := ⟨_, rfl⟩
      have HX20 := Lib.hid hX
      have HLen : Hid (n12.ks.length ≤ 100000) := by show _ ≤ _; rw [← HN12.out, ← HN9.out, HN6.out, HN0.out]; simp
      have HCall : Hid (∀ x, Rd x b B (offP P N (.slice none 0 0) (.slice none 0 0) (.slice a12 n12.ks.length c12)) v12 (tk q.2) d → w18.heap.size ≤ x.heap.size → Calls Tryz.prog 23 #[.pointer (some ⟨b, 0, none⟩), .bool false] x (Post eN x b B (offP P N (.slice none 0 0) (.slice none 0 0) (.slice a12 n12.ks.length c12)) v12 d X20)) := fun x hr hs => by
        rw [← hX]
        exact HLi.out x b B _ v12 (tk q.2) false hr (fun g hg => HM18.out.free HP.out g (Nat.le_trans hs hg)) (by have := HPh19.out; omega)
      have hX9 := hX
      clear hX
      have HM := HM18
      obtain ⟨i0, hi0, hz0, hz1, hz2⟩ := info_parts info_in
      have HUq : Hid (∀ g, Value.ownBlock ((.slice a12 n12.ks.length c12)) = some g → g < w18.heap.size) := fun g hg => (HM.out.rows.k.lt g hg).2
      refine Rp.wp_region_rkx (fun ch x => ∃ e, X20 = .error e ∧ panY e.1 e.2 = Ending.panicked ch ∧ Below B w18 x) 6 [] [Rg.Is (.pointer (some ⟨N, 6, none⟩)), Rg.Is ((.slice a12 n12.ks.length c12)), Rg.Is (.pointer (some ⟨b, 0, none⟩)), (fun u9 (x : World) => ∃ y, X20 = .ok y ∧ u9 = iv y.1), (fun u9 x => ∃ q, u9 = .slice (some ⟨q, 0, none⟩) 1 1 ∧ w18.heap.size ≤ q ∧ (∃ y, X20 = .ok y ∧ x.heap[q]? = some (.cells #[iv y.1] inT)) ∧ w18.heap.size < x.heap.size), (fun u9 x => ∃ y v9, X20 = .ok y ∧ MidA2 W v x b B P v9 y.2 d N (n12) ({ n12 with ks := n12.ks ++ [y.1] }) (.slice none 0 0) (.slice none 0 0) (.slice a12 n12.ks.length c12) (.slice none 0 0) (.slice none 0 0) u9 (N + 1) ∧ w18.heap.size < x.heap.size)] (fun _ _ => True) (fun ls x => (ls 3 = false → x.heap.size = w18.heap.size ∧ Below w18.heap.size w18 x) ∧ (ls 3 = true → ls 5 = false → ∃ y v9, X20 = .ok y ∧ Mid2 W v x b B P v9 y.2 d N (n12) (.slice none 0 0) (.slice none 0 0) (.slice a12 n12.ks.length c12) (N + 1) ∧ w18.heap.size ≤ x.heap.size)) (fun k x y => if k = 3 then x.heap.size = w18.heap.size else if k = 5 then x.grownBy y (Value.ownBlock ((.slice a12 n12.ks.length c12))) else (Below x.heap.size x y ∧ (k = 4 ∨ y.heap.size = x.heap.size))) (by kernel_rfl) (by kernel_rfl) (of_decide_eq_true (by kernel_rfl)) (by kernel_rfl) (by kernel_rfl) trivial ⟨fun _ => ⟨rfl, rfl, rfl, rfl, Nat.le_refl _, fun _ _ => rfl⟩, fun h => by cases h⟩ (fun ls ls' x e h1 => ⟨fun h2 => h1.1 (by rw [e]; exact h2), fun h2 h3 => h1.2 (by rw [e]; exact h2) (by rw [e]; exact h3)⟩) (fun _ _ _ _ _ => trivial) (fun i ls x _ h1 => by rw [show ([] : List Bool).getD i true = true from rfl] at h1; cases h1) ?_ ⟨rfl, rfl, rfl, rfl, rfl, rfl, trivial⟩ ⟨?_, ?_, ?_, ?_, ?_, ?_, trivial⟩ ?_ ?_
      · intro i k u8 x y9 hik _ h1 hK
        match i, h1, hik with
        | 0, h1, _ => exact h1
        | 1, h1, _ => exact h1
        | 2, h1, _ => exact h1
        | 3, h1, _ => exact h1
        | 4, h1, hik =>
          obtain ⟨q, hq, hqw, ⟨y, hXy, hqx⟩, hlt⟩ := h1
          have hql := (Array.getElem?_eq_some_iff.1 hqx).1
          by_cases k3 : k = 3
          · rw [if_pos k3] at hK; omega
          · rw [if_neg k3] at hK
            by_cases k5 : k = 5
            · rw [if_pos k5] at hK
              exact ⟨q, hq, hqw, ⟨y, hXy, (hK.block q hql (fun e => by have := HUq.out q e.symm; omega)).trans hqx⟩, Nat.lt_of_lt_of_le hlt hK.size⟩
            · rw [if_neg k5] at hK
              exact ⟨q, hq, hqw, ⟨y, hXy, (hK.1.block q hql).trans hqx⟩, Nat.lt_of_lt_of_le hlt hK.1.size⟩
        | 5, h1, hik =>
          obtain ⟨y, v9, hXy, hA, hlt⟩ := h1
          by_cases k3 : k = 3
          · rw [if_pos k3] at hK; omega
          · rw [if_neg k3, if_neg (fun e => hik e.symm)] at hK
            exact ⟨y, v9, hXy, hA.below hK.1, Nat.lt_of_lt_of_le hlt hK.1.size⟩
        | _ + 6, _, _ => trivial
      · intro _ b9 x ls hR hS hself hup hdn hk
        have h3 : b9.eval (.tmp 3) = .pointer (some ⟨N, 0, none⟩) := Eq.mp (by kernel_rfl) (hk 3 (by decide))
        refine Rp.doesX_of ?_
        exact Rs.does_field _ _ h3 (by have := fld_nd N 0 6 (by decide) x; rw [Nat.zero_add] at this; exact this) ⟨by rw [if_neg (by decide), if_neg (by decide)]; exact ⟨Below.refl _ _, .inr rfl⟩, rfl, ⟨fun hh => hS.1 hh, fun h2 h3 => hS.2 h2 h3⟩⟩
      · intro _ b9 x ls hR hS hself hup hdn hk
        have h46 : b9.eval (.tmp 46) = .pointer (some ⟨N, 6, none⟩) := Eq.mp (by kernel_rfl) (hk 46 (by decide))
        have l5 : ls 5 = false := hdn [] 5 _ rfl (by kernel_rfl)
        have hc : x.cell? ⟨N, 6, none⟩ = some ((.slice a12 n12.ks.length c12)) := by
          cases l3 : ls 3 with
          | false => have hm := HM.out.below (hS.1 l3).2; simp [World.cell?, hm.bx.box]
          | true => obtain ⟨y, v9, hXy, hm, hsz⟩ := hS.2 l3 l5; simp [World.cell?, hm.bx.box]
        refine Rp.doesX_of ?_
        exact Rg.does_load _ _ h46 (Ap.load_plainP (by simp [isAgg]) hc) ⟨by rw [if_neg (by decide), if_neg (by decide)]; exact ⟨Below.refl _ _, .inr rfl⟩, rfl, ⟨fun hh => hS.1 hh, fun h2 h3 => hS.2 h2 h3⟩⟩
      · intro _ b9 x ls hR hS hself hup hdn hk
        have h0 : b9.eval (.tmp 0) = .pointer (some ⟨b, 0, none⟩) := Eq.mp (by kernel_rfl) (hk 0 (by decide))
        refine Rp.doesX_of ?_
        exact Rg.does_move ⟨by rw [if_neg (by decide), if_neg (by decide)]; exact ⟨Below.refl _ _, .inr rfl⟩, h0, ⟨fun hh => hS.1 hh, fun h2 h3 => hS.2 h2 h3⟩⟩
      · intro _ b9 x ls hR hS hself hup hdn hk
        have h48 : b9.eval (.tmp 48) = .pointer (some ⟨b, 0, none⟩) := Eq.mp (by kernel_rfl) (hk 48 (by decide))
        obtain ⟨hsz, hb⟩ := hS.1 hself
        have hm := HM.out.below hb
        refine Rp.does_func #[.pointer (some ⟨b, 0, none⟩), .bool false] Tryz.func23 (by kernel_rfl) (by kernel_rfl) (by simp [h48, show ∀ v, b9.eval (.const v) = v from fun _ => rfl]) (HCall.out x hm.bx.rd hb.size) ?_
        intro e w' hp
        rcases post_cases hp with ⟨er, hXe, rfl, hb9⟩ | ⟨y, u9, v9, hXy, rfl, he, ht, hr⟩
        · exact .inr ⟨_, rfl, er, hXe, rfl, (hb.mono HM.out.bx.rd.size).trans hb9⟩
        · exact .inl ⟨u9, rfl, by rw [if_pos rfl]; exact hsz, ⟨y, hXy, he⟩, ⟨fun hh => by simp [Rs.upd] at hh, fun _ _ => ⟨y, v9, hXy, hm.step ht hr, by have := ht.size; omega⟩⟩⟩
      · intro _ b9 x ls hR hS hself hup hdn hk
        have h49 : (fun u9 (x : World) => ∃ y, X20 = .ok y ∧ u9 = iv y.1) (b9.eval (.tmp 49)) x := Eq.mp (by kernel_rfl) (hk 49 (by decide))
        have l3 : ls 3 = true := hup [] 3 (by kernel_rfl)
        have l5 : ls 5 = false := hdn [] 5 _ rfl (by kernel_rfl)
        obtain ⟨y, v9, hXy, hm, hsz⟩ := hS.2 l3 l5
        obtain ⟨y2, hXy2, he⟩ := h49
        have hyy : y2 = y := Except.ok.inj (hXy2.symm.trans hXy)
        subst hyy
        have hal := (Below.refl x.heap.size x).alloc (Nat.le_refl _) (.cells #[iv y2.1] inT)
        refine Rp.doesX_of ?_
        exact Rg.does_build #[(0, iv y2.1)] _ (by simp [he]) (by go_simp; rfl) ⟨by rw [if_neg (by decide), if_neg (by decide)]; exact ⟨hal, .inl rfl⟩, ⟨x.heap.size, rfl, hsz, ⟨y2, hXy, heap_alloc_new x _⟩, by rw [World.size_alloc]; omega⟩, ⟨fun hh => absurd (l3.symm.trans hh) (by decide), fun _ _ => ⟨y2, v9, hXy, hm.below hal, by rw [World.size_alloc]; omega⟩⟩⟩
      · intro _ b9 x ls hR hS hself hup hdn hk
        have h47 : b9.eval (.tmp 47) = (.slice a12 n12.ks.length c12) := Eq.mp (by kernel_rfl) (hk 47 (by decide))
        have h50 : (fun u9 x => ∃ q, u9 = .slice (some ⟨q, 0, none⟩) 1 1 ∧ w18.heap.size ≤ q ∧ (∃ y, X20 = .ok y ∧ x.heap[q]? = some (.cells #[iv y.1] inT)) ∧ w18.heap.size < x.heap.size) (b9.eval (.tmp 50)) x := Eq.mp (by kernel_rfl) (hk 50 (by decide))
        have l3 : ls 3 = true := hup [] 3 (by kernel_rfl)
        obtain ⟨y, v9, hXy, hm, hsz⟩ := hS.2 l3 hself
        obtain ⟨q, hq, hqw, ⟨y2, hXy2, hqx⟩, hlt⟩ := h50
        have hyy : y2 = y := Except.ok.inj (hXy2.symm.trans hXy)
        subst hyy
        obtain ⟨u9, w', hrun, hown', hgr, hat⟩ := Ap.run_append_at (P := Tryz.prog) x 0 35 35 35 inT i0 _ 1 8 Tryz.underlying35 (append_side Tryz.underlying35) hi0 hz0 hz1 hz2 rfl (by decide) (by decide) ((.slice a12 n12.ks.length c12)) _ _ hm.rows.k (b9.eval (.tmp 50)) 1 ([iv y2.1]) (by rw [hq]; exact src_cells (b := q) (off := 0) rfl (by intro u hu; obtain rfl := List.mem_singleton.1 hu; rfl) (.inr rfl) (fun i z hi => by rw [Nat.zero_add]; unfold World.cell?; simp only [hqx]; simpa using hi)) (by unfold maxLen; have := HLen.out; omega) (by have := HLen.out; omega) (Nat.zero_le _)
        refine Rp.doesX_of ?_
        exact Ap.does_append ((.slice a12 n12.ks.length c12)) _ u9 w' h47 rfl hrun ⟨by rw [if_neg (by decide), if_pos rfl]; exact hgr, ⟨y2, v9, hXy, hm.app_k y2.1 hgr hown' hat, Nat.lt_of_lt_of_le hlt hgr.size⟩, ⟨fun hh => absurd (l3.symm.trans hh) (by decide), fun _ hh => by simp [Rs.upd] at hh⟩⟩
      · intro ch a' w' hdf hD
        obtain ⟨er, hXe, hpe, hbe⟩ := hD
        refine ⟨hdf, ?_⟩
        rw [← hpe]
        have hz : Z = .error er := by rw [HZ17.out, hX9, hXe]; rfl
        exact postN_error hz ((HM.out.belowB HV.out).trans hbe)
      intro vals wD ls _ hSD _ hL
      obtain ⟨g0, g1, g2, g3, g4, g5, _⟩ := hL
      obtain ⟨x9, v20, hXy, hA, _⟩ := (g5 : (fun u9 x => ∃ y v9, X20 = .ok y ∧ MidA2 W v x b B P v9 y.2 d N (n12) ({ n12 with ks := n12.ks ++ [y.1] }) (.slice none 0 0) (.slice none 0 0) (.slice a12 n12.ks.length c12) (.slice none 0 0) (.slice none 0 0) u9 (N + 1) ∧ w18.heap.size < x.heap.size) (vals 5) wD)
      clear g0 g1 g2 g3 g4 hSD
      obtain ⟨n20, hn2⟩ : ∃ n2 : Nd, { n12 with ks := n12.ks ++ [x9.1] } = n2 := ⟨_, rfl⟩
      rw [hn2] at hA
      have HN2 := Lib.hid hn2
      simp only [Rg.putAll, List.take_succ_cons, List.take_zero, List.drop_succ_cons, List.drop_zero, List.setIfInBounds_toArray, List.set_cons_succ, List.set_cons_zero]
      generalize vals 0 = g0 at *
      generalize vals 1 = g1 at *
      generalize vals 2 = g2 at *
      generalize vals 3 = g3 at *
      generalize vals 4 = g4 at *
      generalize vals 5 = u9 at *
      obtain ⟨a20, c20, hu9, _⟩ := ownsRow_slice hA.rows.k
      subst hu9
      obtain ⟨w20, hw20, hm9⟩ := hA.set 6 (.slice a20 n20.ks.length c20) (by rw [← HN2.out]; rfl)
      obtain ⟨⟨x0, x1, x2, x3, x4, x5, x6, x7⟩, z0, z1, z2, z3, z4, z5, z6, z7⟩ := nd_cells hA.bx.box
      have HM20 := Lib.hid hm9
      have HXy := Lib.hid hXy
      clear hA hm9 hXy i0 hi0 hz0 hz1 hz2 hn2
      have hXq : listM nest false (tk q.2) = .ok x9 := by rw [hX9]; exact HXy.out
      have HZ20 : Hid (Z = bd (needM 1 [[102, 105]] x9.2) fun _ s => .ok ({ k := 6, ks := [y.1, q.1, x9.1], ln := ln }, s)) := by show _ = _; rw [HZ17.out, hXq]; rfl
      have HN20 := Lib.hid HN2.out
      clear HN2 HLen HCall HM hX9
      have HPh21 : Hid (ph x9.2 + 21 ≤ 80000) := by have hp0 := HPh19.out; have h8 := list_cost HE.out.cost false (tk q.2) x9 hXq; show _ ≤ _; omega
      have HXy20 := HXy
      clear hXq HXy
      go_wp2_with fail
      refine (need_lit w20 b B _ v20 x9.2 d HM20.out.bx.rd 1 [[102, 105]] (by decide)).mono ?_
      rintro r w22 hp
      rcases post_cases hp with ⟨er, hXe, rfl, hb9⟩ | ⟨f, u9, v22, hXy, rfl, he, ht, hr⟩
      · have hz : Z = .error er := by rw [HZ20.out, hXe]; rfl
        exact ⟨rfl, postN_error hz ((HM20.out.belowB HV.out).trans hb9)⟩
      have he' : u9 = .tuple #[] := he
      subst he'
      have HM22 := Lib.hid (HM20.out.step ht hr)
      have HX22 := Lib.hid hXy
      have HZ22 : Hid (Z = .ok ({ k := 6, ks := [y.1, q.1, x9.1], ln := ln }, f.2)) := by show _ = _; rw [HZ20.out, hXy]; rfl
      have HPh23 : Hid (ph f.2 + 29 ≤ 80000) := by have hp0 := HPh21.out; have h8 := need_cost (by decide) f hXy; show _ ≤ _; omega
      clear hp he ht hr hXy
      clear x0 x1 x2 x3 x4 x5 x6 x7 z0 z1 z2 z3 z4 z5 z6 z7
      go_upto_region 13 with fail
      obtain ⟨⟨x0, x1, x2, x3, x4, x5, x6, x7⟩, z0, z1, z2, z3, z4, z5, z6, z7⟩ := nd_cells HM22.out.bx.box
      have HOk : Hid (Z = .ok (n20, f.2)) := by show _ = _; (rw [HZ22.out, ← HN20.out, ← HN12.out, ← HN9.out, HN6.out, HN0.out]; try rfl)
      obtain ⟨wF, hwF, hx99, hr99, ht99, hd99⟩ := HM22.out.fin
      have HF99 : Hid (Rows wF (fun g => W.heap.size ≤ g) n20 _ _ _ ∧ Turn b v W _ wF ∧ Rd wF b B P _ f.2 d) := ⟨hr99, ht99, hd99⟩
      obtain ⟨⟨y0, y1, y2, y3, y4, y5, y6, y7⟩, _⟩ := nd_cells hx99
      obtain ⟨⟨r0, r1, r2, r3, r4, r5, r6, r7⟩, q0, q1, q2, q3, q4, q5, q6, q7⟩ := nd_cells HM22.out.res
      clear hx99 hr99 ht99 hd99
      go_wp2_with fail
      refine bodyPost_ret (v := .agg (ndA n20 (.slice none 0 0) (.slice none 0 0) (.slice a20 n20.ks.length c20))) (by simp [results, Tryz.results126, go_sem, y0, y1, y2, y3, y4, y5, y6, y7, ndA]) rfl ?_
      rw [show Z = .ok (n20, f.2) from HOk.out]
      exact ⟨_, _, _, _, rfl, HF99.out.1, HF99.out.2.1, HF99.out.2.2⟩
  | true =>
    have HZ15 : Hid (Z = bd (asksM nest (nx q.2).ln q.2) fun n s => bd (Sy.putM n s) fun k s => .ok ({ k := 6, ks := [y.1, q.1, k], ln := ln }, s)) := by show _ = _; rw [HZ12.out, if_pos Hzi14.out]
    go_upto_region 7 with fail
    obtain ⟨X, hX⟩ : ∃ X, asksM nest (nx q.2).ln q.2 = X := ⟨_, rfl⟩
    have HXa := Lib.hid hX
    have HK1 : Hid ((nx q.2).k ≠ 4) := by show _ ≠ _; rw [isM_k Hzi14.out]; decide
    have HLen : Hid (n12.ks.length ≤ 100000) := by show _ ≤ _; rw [← HN12.out, ← HN9.out, HN6.out, HN0.out]; simp
    have HXlt : Hid (∀ y8, X = .ok y8 → y8.2.2.length < q.2.2.length ∧ ph y8.2 + 8 ≤ ph q.2) := fun y8 h => ⟨asksM_lt HE.out.weak HK1.out (by rw [hX]; exact h), asksM_cost HE.out.cost _ _ HK1.out y8 (by rw [hX]; exact h)⟩
    have HIa : Hid (∀ x, Rd x b B (offP P N (.slice none 0 0) (.slice none 0 0) (.slice a12 n12.ks.length c12)) v12 q.2 d → w14.heap.size ≤ x.heap.size → Calls Tryz.prog 126 #[.pointer (some ⟨b, 0, none⟩), .agg #[.int .i64 0, .string ⟨#[]⟩, .bool false, .slice none 0 0, .int .i64 0, .slice none 0 0, .slice none 0 0, .int .i64 ((nx q.2).ln : Int)]] x (PostN x b B (offP P N (.slice none 0 0) (.slice none 0 0) (.slice a12 n12.ks.length c12)) v12 d X)) := fun x hr hs => by
      rw [← hX]
      exact HIH.out x b B _ v12 q.2 hr (fun g hg => HM14.out.free HP.out g (Nat.le_trans hs hg)) (by have := HPh13.out; omega) HK1.out (by have := HQm.out; have := HMm.out; omega) _
    clear hX
    have HM := HM14
    have HUq : Hid (∀ g, Value.ownBlock (.slice a12 n12.ks.length c12) = some g → g < w14.heap.size ∧ g ≠ b) := fun g hg => ⟨(HM.out.rows.k.lt g hg).2, (HM.out.toMid.rowB HM.out.rows.k (by unfold rowT; decide) HM.out.rows.qk hg).2.1⟩
    have HbW : Hid (b < w14.heap.size) := HM.out.bx.rd.lt
    have HFr : Hid (∀ g, w14.heap.size ≤ g → (offP P N (.slice none 0 0) (.slice none 0 0) (.slice a12 n12.ks.length c12)) g) := HM.out.free HP.out
    have HPq : Hid (ph q.2 ≤ 80000) := by have := HPh13.out; show _ ≤ _; omega
    obtain ⟨i0, hi0, hz0, hz1, hz2⟩ := info_parts info_in
    refine Rp.wp_region_rkx (fun ch x => ∃ e, X = .error e ∧ panY e.1 e.2 = Ending.panicked ch ∧ Below B w14 x) 12 [] [Rg.Is (.pointer (some ⟨N, 6, none⟩)), Rg.Is ((.slice a12 n12.ks.length c12)), Rg.Is (.pointer (some ⟨b, 0, none⟩)), Rg.Is (.pointer (some ⟨b, 0, none⟩)), Rg.Is (.pointer (some ⟨b, 0, none⟩)), Rg.Is (tkV (nx q.2)), Rg.Is (.int .i64 ((nx q.2).ln : Int)), Rg.Is (.agg #[.int .i64 0, .string ⟨#[]⟩, .bool false, .slice none 0 0, .int .i64 0, .slice none 0 0, .slice none 0 0, .int .i64 ((nx q.2).ln : Int)]), (fun u9 (x : World) => ∃ y8 uw8 ur8 uk8, X = .ok y8 ∧ u9 = .agg (ndA y8.1 uw8 ur8 uk8) ∧ Rows x (fun g => w14.heap.size ≤ g) y8.1 uw8 ur8 uk8), (fun u9 (x : World) => ∃ y8, X = .ok y8 ∧ u9 = iv y8.2.1.length), (fun u9 x => ∃ q9, u9 = .slice (some ⟨q9, 0, none⟩) 1 1 ∧ w14.heap.size ≤ q9 ∧ (∃ y8, X = .ok y8 ∧ x.heap[q9]? = some (.cells #[iv y8.2.1.length] inT)) ∧ PPut X b q.2.2.length x), (fun u9 x => ∃ y8 v9, X = .ok y8 ∧ MidA2 W v x b B P v9 (y8.2.1 ++ [y8.1], y8.2.2) d N n12 { n12 with ks := n12.ks ++ [y8.2.1.length] } (.slice none 0 0) (.slice none 0 0) (.slice a12 n12.ks.length c12) (.slice none 0 0) (.slice none 0 0) u9 (N + 1) ∧ PPut X b q.2.2.length x)] (fun _ _ => True) (fun ls x => (ls 8 = false → Below w14.heap.size w14 x) ∧ (ls 8 = true → ls 9 = false → ∃ y8 v8, X = .ok y8 ∧ Mid2 W v x b B P v8 y8.2 d N n12 (.slice none 0 0) (.slice none 0 0) (.slice a12 n12.ks.length c12) (N + 1) ∧ w14.heap.size ≤ x.heap.size) ∧ (ls 9 = true → ls 11 = false → ∃ y8 v9, X = .ok y8 ∧ Mid2 W v x b B P v9 (y8.2.1 ++ [y8.1], y8.2.2) d N n12 (.slice none 0 0) (.slice none 0 0) (.slice a12 n12.ks.length c12) (N + 1) ∧ w14.heap.size ≤ x.heap.size)) (fun k x y => if k = 8 then tkLen x b = q.2.2.length else if k = 9 then (∃ y8, X = .ok y8 ∧ ndLen x b = y8.2.1.length) ∧ (∀ (g : Nat) (Y : Array Value) (t : TypeId), x.heap[g]? = some (.cells Y t) → rowT t → y.heap[g]? = x.heap[g]?) else if k = 11 then x.grownBy y (Value.ownBlock (.slice a12 n12.ks.length c12)) else Below x.heap.size x y) (by kernel_rfl) (by kernel_rfl) (of_decide_eq_true (by kernel_rfl)) (by kernel_rfl) (by kernel_rfl) trivial ⟨fun _ => ⟨rfl, rfl, rfl, Nat.le_refl _, fun _ _ => rfl⟩, fun h => (by cases h), fun h => (by cases h)⟩ (fun ls ls' x e h1 => ⟨fun h2 => h1.1 (by rw [e]; exact h2), fun h2 h3 => h1.2.1 (by rw [e]; exact h2) (by rw [e]; exact h3), fun h2 h3 => h1.2.2 (by rw [e]; exact h2) (by rw [e]; exact h3)⟩) (fun _ _ _ _ _ => trivial) (fun i ls x _ h1 => by rw [show ([] : List Bool).getD i true = true from rfl] at h1; cases h1) ?_ ⟨rfl, rfl, rfl, rfl, rfl, rfl, rfl, rfl, rfl, rfl, rfl, rfl, trivial⟩ ⟨?_, ?_, ?_, ?_, ?_, ?_, ?_, ?_, ?_, ?_, ?_, ?_, trivial⟩ ?_ ?_
    · intro i k u8 x y9 hik _ h1 hK
      match i, h1, hik with
      | 0, h1, _ => exact h1
      | 1, h1, _ => exact h1
      | 2, h1, _ => exact h1
      | 3, h1, _ => exact h1
      | 4, h1, _ => exact h1
      | 5, h1, _ => exact h1
      | 6, h1, _ => exact h1
      | 7, h1, _ => exact h1
      | 8, h1, hik =>
        obtain ⟨y8, uw8, ur8, uk8, hX8, hu8, hr8⟩ := h1
        rw [if_neg (fun e => hik e.symm)] at hK
        refine ⟨y8, uw8, ur8, uk8, hX8, hu8, ?_⟩
        by_cases k9 : k = 9
        · rw [if_pos k9] at hK
          exact hr8.keep (fun g Y t _ hY hT => hK.2 g Y t hY hT)
        · rw [if_neg k9] at hK
          by_cases k11 : k = 11
          · rw [if_pos k11] at hK
            exact hr8.keep (fun g Y t hg hY hT => hK.block g (Array.getElem?_eq_some_iff.1 hY).1 (fun e => by have := (HUq.out g e.symm).1; omega))
          · rw [if_neg k11] at hK
            exact hr8.below hK
      | 9, h1, _ => exact h1
      | 10, h1, hik =>
        obtain ⟨q9, hq, hqw, ⟨y8, hX8, hqx⟩, hp⟩ := h1
        have hql := (Array.getElem?_eq_some_iff.1 hqx).1
        have hbw := HbW.out
        by_cases k8 : k = 8
        · rw [if_pos k8] at hK
          obtain ⟨y7, h7, h71, h72⟩ := hp
          omega
        · rw [if_neg k8] at hK
          by_cases k9 : k = 9
          · rw [if_pos k9] at hK
            obtain ⟨y7, h7, h71, h72⟩ := hp
            obtain ⟨⟨y6, h6, h61⟩, _⟩ := hK
            have hyy : y7 = y6 := Except.ok.inj (h7.symm.trans h6)
            subst hyy
            omega
          · rw [if_neg k9] at hK
            by_cases k11 : k = 11
            · rw [if_pos k11] at hK
              exact ⟨q9, hq, hqw, ⟨y8, hX8, (hK.block q9 hql (fun e => by have := (HUq.out q9 e.symm).1; omega)).trans hqx⟩, hp.keep (hK.block b (by omega) (fun e => (HUq.out b e.symm).2 rfl))⟩
            · rw [if_neg k11] at hK
              exact ⟨q9, hq, hqw, ⟨y8, hX8, (hK.block q9 hql).trans hqx⟩, hp.keep (hK.block b (by omega))⟩
      | 11, h1, hik =>
        obtain ⟨y8, v9, hX8, hA, hp⟩ := h1
        by_cases k8 : k = 8
        · rw [if_pos k8] at hK
          obtain ⟨y7, h7, h71, h72⟩ := hp
          omega
        · rw [if_neg k8] at hK
          by_cases k9 : k = 9
          · rw [if_pos k9] at hK
            obtain ⟨y7, h7, h71, h72⟩ := hp
            obtain ⟨⟨y6, h6, h61⟩, _⟩ := hK
            have hyy : y7 = y6 := Except.ok.inj (h7.symm.trans h6)
            subst hyy
            omega
          · rw [if_neg k9, if_neg (fun e => hik e.symm)] at hK
            exact ⟨y8, v9, hX8, hA.below hK, hp.keep (hK.block b hA.bx.rd.lt)⟩
      | _ + 12, _, _ => trivial
    · intro _ b9 x ls hR hS hself hup hdn hk
      have h3 : b9.eval (.tmp 3) = .pointer (some ⟨N, 0, none⟩) := Eq.mp (by kernel_rfl) (hk 3 (by decide))
      refine Rp.doesX_of ?_
      exact Rs.does_field _ _ h3 (by have := fld_nd N 0 6 (by decide) x; rw [Nat.zero_add] at this; exact this) ⟨by rw [if_neg (by decide), if_neg (by decide), if_neg (by decide)]; exact Below.refl _ _, rfl, ⟨fun hh => hS.1 hh, fun h1 h2 => hS.2.1 h1 h2, fun h1 h2 => hS.2.2 h1 h2⟩⟩
    · intro _ b9 x ls hR hS hself hup hdn hk
      have h26 : b9.eval (.tmp 26) = .pointer (some ⟨N, 6, none⟩) := Eq.mp (by kernel_rfl) (hk 26 (by decide))
      have l11 : ls 11 = false := hdn [] 11 _ rfl (by kernel_rfl)
      have hc : x.cell? ⟨N, 6, none⟩ = some ((.slice a12 n12.ks.length c12)) := by
        cases l8 : ls 8 with
        | false => have hm := HM.out.below (hS.1 l8); simp [World.cell?, hm.bx.box]
        | true =>
          cases l9 : ls 9 with
          | false => obtain ⟨y8, v8, hX8, hm, hsz⟩ := hS.2.1 l8 l9; simp [World.cell?, hm.bx.box]
          | true => obtain ⟨y8, v8, hX8, hm, hsz⟩ := hS.2.2 l9 l11; simp [World.cell?, hm.bx.box]
      refine Rp.doesX_of ?_
      exact Rg.does_load _ _ h26 (Ap.load_plainP (by simp [isAgg]) hc) ⟨by rw [if_neg (by decide), if_neg (by decide), if_neg (by decide)]; exact Below.refl _ _, rfl, ⟨fun hh => hS.1 hh, fun h1 h2 => hS.2.1 h1 h2, fun h1 h2 => hS.2.2 h1 h2⟩⟩
    · intro _ b9 x ls hR hS hself hup hdn hk
      have h0 : b9.eval (.tmp 0) = .pointer (some ⟨b, 0, none⟩) := Eq.mp (by kernel_rfl) (hk 0 (by decide))
      refine Rp.doesX_of ?_
      exact Rg.does_move ⟨by rw [if_neg (by decide), if_neg (by decide), if_neg (by decide)]; exact Below.refl _ _, h0, ⟨fun hh => hS.1 hh, fun h1 h2 => hS.2.1 h1 h2, fun h1 h2 => hS.2.2 h1 h2⟩⟩
    · intro _ b9 x ls hR hS hself hup hdn hk
      have h0 : b9.eval (.tmp 0) = .pointer (some ⟨b, 0, none⟩) := Eq.mp (by kernel_rfl) (hk 0 (by decide))
      refine Rp.doesX_of ?_
      exact Rg.does_move ⟨by rw [if_neg (by decide), if_neg (by decide), if_neg (by decide)]; exact Below.refl _ _, h0, ⟨fun hh => hS.1 hh, fun h1 h2 => hS.2.1 h1 h2, fun h1 h2 => hS.2.2 h1 h2⟩⟩
    · intro _ b9 x ls hR hS hself hup hdn hk
      have h0 : b9.eval (.tmp 0) = .pointer (some ⟨b, 0, none⟩) := Eq.mp (by kernel_rfl) (hk 0 (by decide))
      refine Rp.doesX_of ?_
      exact Rg.does_move ⟨by rw [if_neg (by decide), if_neg (by decide), if_neg (by decide)]; exact Below.refl _ _, h0, ⟨fun hh => hS.1 hh, fun h1 h2 => hS.2.1 h1 h2, fun h1 h2 => hS.2.2 h1 h2⟩⟩
    · intro _ b9 x ls hR hS hself hup hdn hk
      have h30 : b9.eval (.tmp 30) = .pointer (some ⟨b, 0, none⟩) := Eq.mp (by kernel_rfl) (hk 30 (by decide))
      have l8 : ls 8 = false := hdn [] 8 _ rfl (by kernel_rfl)
      have l9 : ls 9 = false := hdn [8] 9 _ rfl (by kernel_rfl)
      have hb := hS.1 l8
      have hm := HM.out.below hb
      refine Rp.does_func #[.pointer (some ⟨b, 0, none⟩)] Tryz.func24 (by kernel_rfl) (by kernel_rfl) (by simp [h30]) (next_calls x b B _ v12 q.2 d hm.bx.rd) ?_
      rintro e w' ⟨rfl, hb'⟩
      exact .inl ⟨_, rfl, by rw [if_neg (by decide), if_neg (by decide), if_neg (by decide)]; exact hb', rfl, ⟨fun _ => hb.trans (hb'.mono hb.size), fun hh => absurd (l8.symm.trans hh) (by decide), fun hh => absurd (l9.symm.trans hh) (by decide)⟩⟩
    · intro _ b9 x ls hR hS hself hup hdn hk
      have h31 : b9.eval (.tmp 31) = tkV (nx q.2) := Eq.mp (by kernel_rfl) (hk 31 (by decide))
      refine Rp.doesX_of ?_
      exact does_fldv _ _ h31 (fld_tkV3 (nx q.2) x) ⟨by rw [if_neg (by decide), if_neg (by decide), if_neg (by decide)]; exact Below.refl _ _, rfl, ⟨fun hh => hS.1 hh, fun h1 h2 => hS.2.1 h1 h2, fun h1 h2 => hS.2.2 h1 h2⟩⟩
    · intro _ b9 x ls hR hS hself hup hdn hk
      have h32 : b9.eval (.tmp 32) = .int .i64 ((nx q.2).ln : Int) := Eq.mp (by kernel_rfl) (hk 32 (by decide))
      refine Rp.doesX_of ?_
      exact Ap.does_buildS #[(7, .int .i64 ((nx q.2).ln : Int))] _ (by simp [h32]) (build_nd7 _ x) ⟨by rw [if_neg (by decide), if_neg (by decide), if_neg (by decide)]; exact Below.refl _ _, rfl, ⟨fun hh => hS.1 hh, fun h1 h2 => hS.2.1 h1 h2, fun h1 h2 => hS.2.2 h1 h2⟩⟩
    · intro _ b9 x ls hR hS hself hup hdn hk
      have h29 : b9.eval (.tmp 29) = .pointer (some ⟨b, 0, none⟩) := Eq.mp (by kernel_rfl) (hk 29 (by decide))
      have h33 : b9.eval (.tmp 33) = .agg #[.int .i64 0, .string ⟨#[]⟩, .bool false, .slice none 0 0, .int .i64 0, .slice none 0 0, .slice none 0 0, .int .i64 ((nx q.2).ln : Int)] := Eq.mp (by kernel_rfl) (hk 33 (by decide))
      have l9 : ls 9 = false := hdn [] 9 _ rfl (by kernel_rfl)
      have hb := hS.1 hself
      have hm := HM.out.below hb
      refine Rp.does_func #[.pointer (some ⟨b, 0, none⟩), .agg #[.int .i64 0, .string ⟨#[]⟩, .bool false, .slice none 0 0, .int .i64 0, .slice none 0 0, .slice none 0 0, .int .i64 ((nx q.2).ln : Int)]] Tryz.func126 (by kernel_rfl) (by kernel_rfl) (by simp [h29, h33]) (HIa.out x hm.bx.rd hb.size) ?_
      intro e w' hp
      rcases postN_cases hp with ⟨er, hXe, rfl, hb9⟩ | ⟨y8, uw8, ur8, uk8, v8, hX8, rfl, hr8, ht8, hd8⟩
      · exact .inr ⟨_, rfl, er, hXe, rfl, (hb.mono HM.out.bx.rd.size).trans hb9⟩
      · exact .inl ⟨_, rfl, by rw [if_pos rfl]; exact rd_len hm.bx.rd, ⟨y8, uw8, ur8, uk8, hX8, rfl, hr8.less (fun g hg _ => Nat.le_trans hb.size hg)⟩, ⟨fun hh => by simp [Rs.upd] at hh, fun _ _ => ⟨y8, v8, hX8, hm.step ht8 hd8, Nat.le_trans hb.size ht8.size⟩, fun hh => absurd (l9.symm.trans hh) (by decide)⟩⟩
    · intro _ b9 x ls hR hS hself hup hdn hk
      have h28 : b9.eval (.tmp 28) = .pointer (some ⟨b, 0, none⟩) := Eq.mp (by kernel_rfl) (hk 28 (by decide))
      have h34 : (fun u9 (x : World) => ∃ y8 uw8 ur8 uk8, X = .ok y8 ∧ u9 = .agg (ndA y8.1 uw8 ur8 uk8) ∧ Rows x (fun g => w14.heap.size ≤ g) y8.1 uw8 ur8 uk8) (b9.eval (.tmp 34)) x := Eq.mp (by kernel_rfl) (hk 34 (by decide))
      have l8 : ls 8 = true := hup [] 8 (by kernel_rfl)
      obtain ⟨y8, v8, hX8, hm, hsz⟩ := hS.2.1 l8 hself
      obtain ⟨y7, uw8, ur8, uk8, hX7, hu8, hr8⟩ := h34
      have hyy : y7 = y8 := Except.ok.inj (hX7.symm.trans hX8)
      subst hyy
      refine Rp.does_func #[.pointer (some ⟨b, 0, none⟩), .agg (ndA y7.1 uw8 ur8 uk8)] Tryz.func55 (by kernel_rfl) (by kernel_rfl) (by simp [h28, hu8]) (put_calls x b B _ v8 y7.2 d hm.bx.rd y7.1 uw8 ur8 uk8 (hr8.less (fun g hg _ => HFr.out g hg)) (by have := (HXlt.out y7 hX8).2; have := HPq.out; unfold ph at *; omega)) ?_
      rintro e w' ⟨u9, v9, rfl, hu9, ht9, hd9⟩
      exact .inl ⟨u9, rfl, by rw [if_neg (by decide), if_pos rfl]; exact ⟨⟨y7, hX8, rd_ndLen hm.bx.rd⟩, turn_rows ht9 hm.bx.rd⟩, ⟨y7, hX8, hu9⟩, ⟨fun hh => absurd (l8.symm.trans hh) (by decide), fun _ hh => by simp [Rs.upd] at hh, fun _ _ => ⟨y7, v9, hX8, hm.step ht9 hd9, Nat.le_trans hsz ht9.size⟩⟩⟩
    · intro _ b9 x ls hR hS hself hup hdn hk
      have h35 : (fun u9 (x : World) => ∃ y8, X = .ok y8 ∧ u9 = iv y8.2.1.length) (b9.eval (.tmp 35)) x := Eq.mp (by kernel_rfl) (hk 35 (by decide))
      have l9 : ls 9 = true := hup [] 9 (by kernel_rfl)
      have l8 : ls 8 = true := hup [9] 8 (by kernel_rfl)
      have l11 : ls 11 = false := hdn [] 11 _ rfl (by kernel_rfl)
      obtain ⟨y8, v9, hX8, hm, hsz⟩ := hS.2.2 l9 l11
      obtain ⟨y7, hX7, he⟩ := h35
      have hyy : y7 = y8 := Except.ok.inj (hX7.symm.trans hX8)
      subst hyy
      have hal := (Below.refl x.heap.size x).alloc (Nat.le_refl _) (.cells #[iv y7.2.1.length] inT)
      have hpp : PPut X b q.2.2.length x := ⟨y7, hX8, by rw [rd_ndLen hm.bx.rd]; simp, by rw [rd_len hm.bx.rd]; exact (HXlt.out y7 hX8).1⟩
      refine Rp.doesX_of ?_
      exact Rg.does_build #[(0, iv y7.2.1.length)] _ (by simp [he]) (by go_simp; rfl) ⟨by rw [if_neg (by decide), if_neg (by decide), if_neg (by decide)]; exact hal, ⟨x.heap.size, rfl, hsz, ⟨y7, hX8, heap_alloc_new x _⟩, hpp.keep (hal.block b hm.bx.rd.lt)⟩, ⟨fun hh => absurd (l8.symm.trans hh) (by decide), fun _ hh => absurd (l9.symm.trans hh) (by decide), fun _ _ => ⟨y7, v9, hX8, hm.below hal, by rw [World.size_alloc]; omega⟩⟩⟩
    · intro _ b9 x ls hR hS hself hup hdn hk
      have h27 : b9.eval (.tmp 27) = (.slice a12 n12.ks.length c12) := Eq.mp (by kernel_rfl) (hk 27 (by decide))
      have h36 : (fun u9 x => ∃ q9, u9 = .slice (some ⟨q9, 0, none⟩) 1 1 ∧ w14.heap.size ≤ q9 ∧ (∃ y8, X = .ok y8 ∧ x.heap[q9]? = some (.cells #[iv y8.2.1.length] inT)) ∧ PPut X b q.2.2.length x) (b9.eval (.tmp 36)) x := Eq.mp (by kernel_rfl) (hk 36 (by decide))
      have l9 : ls 9 = true := hup [10] 9 (by kernel_rfl)
      have l8 : ls 8 = true := hup [10, 9] 8 (by kernel_rfl)
      obtain ⟨y8, v9, hX8, hm, hsz⟩ := hS.2.2 l9 hself
      obtain ⟨q9, hq, hqw, ⟨y7, hX7, hqx⟩, hpp⟩ := h36
      have hyy : y7 = y8 := Except.ok.inj (hX7.symm.trans hX8)
      subst hyy
      obtain ⟨u9, w', hrun, hown', hgr, hat⟩ := Ap.run_append_at (P := Tryz.prog) x 0 35 35 35 inT i0 _ 1 8 Tryz.underlying35 (append_side Tryz.underlying35) hi0 hz0 hz1 hz2 rfl (by decide) (by decide) ((.slice a12 n12.ks.length c12)) _ _ hm.rows.k (b9.eval (.tmp 36)) 1 ([iv y7.2.1.length]) (by rw [hq]; exact src_cells (b := q9) (off := 0) rfl (by intro u hu; obtain rfl := List.mem_singleton.1 hu; rfl) (.inr rfl) (fun i z hi => by rw [Nat.zero_add]; unfold World.cell?; simp only [hqx]; simpa using hi)) (by unfold maxLen; have := HLen.out; omega) (by have := HLen.out; omega) (Nat.zero_le _)
      refine Rp.doesX_of ?_
      exact Ap.does_append ((.slice a12 n12.ks.length c12)) _ u9 w' h27 rfl hrun ⟨by rw [if_neg (by decide), if_neg (by decide), if_pos rfl]; exact hgr, ⟨y7, v9, hX8, hm.app_k y7.2.1.length hgr hown' hat, hpp.keep (hgr.block b hm.bx.rd.lt (fun e => (HUq.out b e.symm).2 rfl))⟩, ⟨fun hh => absurd (l8.symm.trans hh) (by decide), fun _ hh => absurd (l9.symm.trans hh) (by decide), fun _ hh => by simp [Rs.upd] at hh⟩⟩
    · intro ch a' w' hdf hD
      obtain ⟨er, hXe, hpe, hbe⟩ := hD
      refine ⟨hdf, ?_⟩
      rw [← hpe]
      have hz : Z = .error er := by rw [HZ15.out, show asksM nest (nx q.2).ln q.2 = X from HXa.out, hXe]; rfl
      exact postN_error hz ((HM.out.belowB HV.out).trans hbe)
    intro vals wD ls _ hSD _ hL
    obtain ⟨g0, g1, g2, g3, g4, g5, g6, g7, g8, g9, g10, g11, _⟩ := hL
    obtain ⟨y8, v9, hX8, hA, _⟩ := (g11 : (fun u9 x => ∃ y8 v9, X = .ok y8 ∧ MidA2 W v x b B P v9 (y8.2.1 ++ [y8.1], y8.2.2) d N n12 { n12 with ks := n12.ks ++ [y8.2.1.length] } (.slice none 0 0) (.slice none 0 0) (.slice a12 n12.ks.length c12) (.slice none 0 0) (.slice none 0 0) u9 (N + 1) ∧ PPut X b q.2.2.length x) (vals 11) wD)
    clear g0 g1 g2 g3 g4 g5 g6 g7 g8 g9 g10 hSD
    obtain ⟨nE, hnE⟩ : ∃ n2 : Nd, { n12 with ks := n12.ks ++ [y8.2.1.length] } = n2 := ⟨_, rfl⟩
    rw [hnE] at hA
    have HNE := Lib.hid hnE
    simp only [Rg.putAll, List.take_succ_cons, List.take_zero, List.drop_succ_cons, List.drop_zero, List.setIfInBounds_toArray, List.set_cons_succ, List.set_cons_zero]
    generalize vals 0 = g0 at *
    generalize vals 1 = g1 at *
    generalize vals 2 = g2 at *
    generalize vals 3 = g3 at *
    generalize vals 4 = g4 at *
    generalize vals 5 = g5 at *
    generalize vals 6 = g6 at *
    generalize vals 7 = g7 at *
    generalize vals 8 = g8 at *
    generalize vals 9 = g9 at *
    generalize vals 10 = g10 at *
    generalize vals 11 = u9 at *
    obtain ⟨a9, c9, hu9, _⟩ := ownsRow_slice hA.rows.k
    subst hu9
    obtain ⟨w99, hw99, hm99⟩ := hA.set 6 (.slice a9 nE.ks.length c9) (by rw [← HNE.out]; rfl)
    obtain ⟨⟨x0, x1, x2, x3, x4, x5, x6, x7⟩, z0, z1, z2, z3, z4, z5, z6, z7⟩ := nd_cells hA.bx.box
    have HM99 := Lib.hid hm99
    have HZ99 : Hid (Z = .ok ({ k := 6, ks := [y.1, q.1, y8.2.1.length], ln := ln }, (y8.2.1 ++ [y8.1], y8.2.2))) := by show _ = _; rw [HZ15.out, show asksM nest (nx q.2).ln q.2 = X from HXa.out, hX8]; rfl
    clear hA hm99 hX8 i0 hi0 hz0 hz1 hz2 hnE
    go_upto_region 8 with fail
    clear x0 x1 x2 x3 x4 x5 x6 x7 z0 z1 z2 z3 z4 z5 z6 z7
    obtain ⟨⟨x0, x1, x2, x3, x4, x5, x6, x7⟩, z0, z1, z2, z3, z4, z5, z6, z7⟩ := nd_cells HM99.out.bx.box
    have HOk : Hid (Z = .ok (nE, (y8.2.1 ++ [y8.1], y8.2.2))) := by show _ = _; (rw [HZ99.out, ← HNE.out, ← HN12.out, ← HN9.out, HN6.out, HN0.out]; try rfl)
    obtain ⟨wF, hwF, hx99, hr99, ht99, hd99⟩ := HM99.out.fin
    have HF99 : Hid (Rows wF (fun g => W.heap.size ≤ g) nE _ _ _ ∧ Turn b v W _ wF ∧ Rd wF b B P _ (y8.2.1 ++ [y8.1], y8.2.2) d) := ⟨hr99, ht99, hd99⟩
    obtain ⟨⟨y0, y1, y2, y3, y4, y5, y6, y7⟩, _⟩ := nd_cells hx99
    obtain ⟨⟨r0, r1, r2, r3, r4, r5, r6, r7⟩, q0, q1, q2, q3, q4, q5, q6, q7⟩ := nd_cells HM99.out.res
    clear hx99 hr99 ht99 hd99
    go_wp2_with fail
    refine bodyPost_ret (v := .agg (ndA nE (.slice none 0 0) (.slice none 0 0) (.slice a9 nE.ks.length c9))) (by simp [results, Tryz.results126, go_sem, y0, y1, y2, y3, y4, y5, y6, y7, ndA]) rfl ?_
    rw [show Z = .ok (nE, (y8.2.1 ++ [y8.1], y8.2.2)) from HOk.out]
    exact ⟨_, _, _, _, rfl, HF99.out.1, HF99.out.2.1, HF99.out.2.2⟩
theorem asks_ih {nest : S → Sy.P Nat} {d : Nat} (E : Env nest d) (hL : ListC nest d) : ∀ m, AskIH nest d m
  | 0 => fun W b B P v s h hP hF h4 hm => absurd hm (Nat.not_lt_zero _)
  | m + 1 => fun W b B P v s h hP hF h4 hm ln => asks_step E hL m (asks_ih E hL m) W b B P v s h hP hF h4 (Nat.le_of_lt_succ hm) ln
end Go.Proofs.YtiklkhbfilbpeaaGreatDoor.Sx
