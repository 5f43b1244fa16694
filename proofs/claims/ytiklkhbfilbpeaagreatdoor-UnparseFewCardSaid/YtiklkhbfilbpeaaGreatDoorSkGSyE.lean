/-
  Syntax: a pipeline. Conditions: as the contract says.
  Syntax: pipelines with signs between. Conditions: as the contract says.
  Syntax: a node that is handed back, beside its place. Conditions: as each law says.
  Syntax: what stands in braces, or parentheses; a loop's body; loops. Conditions: as each contract says.
  Syntax: a body between do and done; what a for loop is. Conditions: as each contract says.
-/
import Derived.Test.YtiklkhbfilbpeaaGreatDoorSkGSyD
set_option linter.unusedVariables false
set_option linter.unusedSimpArgs false
set_option maxRecDepth 100000
namespace Go.Proofs.YtiklkhbfilbpeaaGreatDoor.Sx
open Go.RowKit Base Lx Sy
theorem idx_in {g o n c : Nat} (j : Nat) (hj : j < n) (kd : IntKind) (w' : World) : (Instr.indexAt 35 (.slice (some ⟨g, o, none⟩) n c) (.int kd (j : Int))).run Tryz.prog w' = .ok (.pointer (some ⟨g, o + j, none⟩)) w' := by
  obtain ⟨i, hi, _, hs, _⟩ := info_parts info_in
  have he : Tryz.prog.elem 35 = inT := by simp [Program.elem, Tryz.underlying35]
  rw [run_indexAt_slice w' 35 _ n c kd j (by rw [he]; exact Tryz.underlying35), if_pos ⟨by omega, by omega⟩, he]
  simp [sizeOf, typeInfo, hi, hs, Result.andThen, Addr.add_lit]
/-- A row of numbers, at its cells. -/
theorem own_ints {W : World} {u : Value} {l : List Nat} {n : Nat} (h : W.ownsRow 0 inT 1 u n (l.map iv)) (hl : 0 < n) : ∃ g c, u = .slice (some ⟨g, 0, none⟩) n c ∧ ∀ (j k : Nat), j < n → l[j]? = some k → W.cell? ⟨g, j, none⟩ = some (.int .i64 (k : Int)) := by
  obtain ⟨g, cap, cur, rfl, hgb, hg, hcn, hcm, hcl, hcx⟩ := Sl.own_row h hl
  refine ⟨g, cap, rfl, fun j k hj hk => ?_⟩
  have h1 : (l.map iv)[j]? = some (iv k) := by rw [List.getElem?_map, hk]; rfl
  rw [← hcx, List.getElem?_take, if_pos (by omega)] at h1
  unfold World.cell?
  simp only [hg]
  simp only [Nat.zero_add, List.getElem?_toArray]
  exact h1
abbrev CmdC (nest : S → Sy.P Nat) (d : Nat) : Prop := ∀ (W : World) (b B : Nat) (P : Nat → Prop) (v : Value) (s : S), Rd W b B P v s d → (∀ g, W.heap.size ≤ g → P g) → ph s ≤ 80000 →
  Calls Tryz.prog 97 #[.pointer (some ⟨b, 0, none⟩)] W (Post eN W b B P v d (cmdM nest s))
set_option maxHeartbeats 8000000 in
theorem pipeline_calls {nest : S → Sy.P Nat} {d : Nat} (E : Env nest d) (hC : CmdC nest d) (W : World) (b B : Nat) (P : Nat → Prop) (v : Value) (s : S) (h : Rd W b B P v s d) (hP : ∀ g, W.heap.size ≤ g → P g) (hF : ph s ≤ 80000) :
    Calls Tryz.prog 72 #[.pointer (some ⟨b, 0, none⟩)] W (Post eN W b B P v d (pipeM nest s)) := by
  have HR := Lib.hid h
  have HE : Hid (Env nest d) := E
  have HCm : Hid (CmdC nest d) := hC
  have HP : Hid (∀ g, W.heap.size ≤ g → P g) := hP
  have HF : Hid (ph s ≤ 80000) := hF
  have HV : Hid (∀ g, v.ownBlock = some g → B ≤ g) := fun g hg => (h.own g hg).1
  obtain ⟨fl, hfl⟩ : ∃ fl, isM 1 [[33]] s = fl := ⟨_, rfl⟩
  have HFl := Lib.hid hfl
  obtain ⟨s1, hs1⟩ : ∃ s1, (if fl = true then tk s else s) = s1 := ⟨_, rfl⟩
  have HS1 := Lib.hid hs1
  have HPh1 : Hid (ph s1 ≤ 80000) := by rw [← hs1]; have := ph_tk s; split <;> (show _ ≤ _; omega)
  obtain ⟨Z, hZ⟩ : ∃ Z, pipeM nest s = Z := ⟨_, rfl⟩
  have HZ : Hid (Z = bd (cmdM nest s1) fun k s2 => bd (whileM (isM 2 [[124]]) (pipT nest) [k] s2) fun ks s3 => if fl = false ∧ ks.length = 1 then .ok (k, s3) else Sy.putM { k := 2, fl := fl, ks := ks, ln := (nx s).ln } s3) := by
    show _ = _
    rw [← hZ, ← hs1, ← hfl]
    rfl
  rw [hZ]
  clear h hP hF hZ E hC hfl hs1
  go_enter Tryz.func72, Tryz.ntmps72
  go_wp2_with fail
  refine (next_calls W b B P v s d HR.out).mono ?_
  rintro r w2 ⟨rfl, hb2⟩
  have HR2 := Lib.hid (HR.out.below hb2)
  have HT0 : Hid (Turn b v W v w2) := Turn.of_below hb2
  have HBl : Hid (Below B W w2) := hb2.mono HR.out.size
  have HB2 : Hid (∀ g, w2.heap.size ≤ g → P g) := fun g hg => HP.out g (Nat.le_trans hb2.size hg)
  clear hb2
  have F3 := fld_tkV3 (nx s)
  go_upto_region 2 with fail
  obtain ⟨n0, hn0⟩ : ∃ n0 : Nd, n0 = { k := 2, ln := (nx s).ln } := ⟨_, rfl⟩
  obtain ⟨w3, hw3, hm3, hb3⟩ := Mid.start HR2.out n0 (by rw [hn0]) (by rw [hn0]) (by rw [hn0])
  obtain ⟨N, hN⟩ : ∃ N, w2.heap.size = N := ⟨_, rfl⟩
  have hw3' : w2.alloc (.cells #[.int .i64 2, .string ⟨#[]⟩, .bool false, .slice none 0 0, .int .i64 0, .slice none 0 0, .slice none 0 0, .int .i64 ((nx s).ln : Int)] ndT) = w3 := by rw [hn0] at hw3; exact hw3
  rw [hw3', hN]
  rw [hN] at hm3
  have HM3 := Lib.hid hm3
  have HN0 := Lib.hid hn0
  clear hw3 hm3 hb3 hw3' hN F3 hn0
  obtain ⟨n1, hn1⟩ : ∃ n1 : Nd, n1 = { n0 with fl := fl } := ⟨_, rfl⟩
  have HN1 := Lib.hid hn1
  clear hn1
  go_wp2_with fail
  refine (word_lit w3 b B _ v s d HM3.out.bx.rd [[33]] (by decide)).mono ?_
  rintro r w4 ⟨rfl, hb4⟩
  rw [show isM 1 [[33]] s = fl from HFl.out]
  have HM4 := Lib.hid (HM3.out.below ((Below.refl _ _).trans hb4))
  clear hb4
  go_upto_if 10 with fail
  go_cut [] (fun wx => Mid w2 v wx b B P v s1 d N n1 (.slice none 0 0) (.slice none 0 0) (.slice none 0 0))
  case first =>
    cases fl with
    | false =>
      have h1 : n1 = n0 := by rw [HN1.out, HN0.out]
      have h2 : s1 = s := by rw [← HS1.out, if_neg (by decide)]
      go_wp2_with fail
      go_meet
      rw [h1, h2]
      exact HM4.out
    | true =>
      have h2 : tk s = s1 := by rw [← HS1.out, if_pos rfl]
      go_wp2_with fail
      refine (take_calls w4 b B _ v s d HM4.out.bx.rd).mono ?_
      rintro r w5 ⟨rfl, ht5, hr5⟩
      have HM5 := Lib.hid (HM4.out.step ht5 hr5)
      clear ht5 hr5
      obtain ⟨⟨x0, x1, x2, x3, x4, x5, x6, x7⟩, z0, z1, z2, z3, z4, z5, z6, z7⟩ := nd_cells HM5.out.bx.box
      obtain ⟨w6, hw6, hm6⟩ := HM5.out.set 2 (.bool true) n1 (by rw [HN1.out]; rfl) (by rw [HN1.out]) (by rw [HN1.out]) (by rw [HN1.out])
      rw [h2] at hm6
      clear h2
      go_wp2_with fail
      go_meet
      exact hm6
  case rest =>
    have HMc := Lib.hid hcut
    clear hcut HM3 HM4
    have hX : ∃ X, cmdM nest s1 = X := ⟨_, rfl⟩
    obtain ⟨X, hX⟩ := hX
    have HX := Lib.hid hX
    go_wp2_with fail
    refine (HCm.out wc b B _ v s1 HMc.out.bx.rd (HMc.out.free HB2.out) HPh1.out).mono ?_
    rintro r w5 hp
    rw [hX] at hp
    rw [hX] at HZ
    rcases post_cases hp with ⟨er, hXe, rfl, hb9⟩ | ⟨y, u5, v5, hXy, rfl, he, ht, hr⟩
    · have hz : Z = .error er := by rw [HZ.out, hXe]; rfl
      exact ⟨rfl, post_error hz ((HBl.out.trans (HMc.out.belowB HV.out)).trans hb9)⟩
    have he' : u5 = .int .i64 (y.1 : Int) := he
    subst he'
    have HXy := Lib.hid hXy
    have HM5 := Lib.hid (HMc.out.step ht hr)
    have HCo : Hid (ph y.2 + 7 ≤ ph s1) := cmd_cost HE.out.cost s1 y (by rw [hX, hXy])
    have HZ2 : Hid (Z = bd (whileM (isM 2 [[124]]) (pipT nest) [y.1] y.2) fun ks s3 => if fl = false ∧ ks.length = 1 then .ok (y.1, s3) else Sy.putM { k := 2, fl := fl, ks := ks, ln := (nx s).ln } s3) := by show _ = _; rw [HZ.out, hXy]; rfl
    clear hp he ht hr hX hXy HZ
    obtain ⟨w8, w9, hw8, hw9, hx8, hm9⟩ := HM5.out.new_k y.1
    have hw8' : w5.alloc (.cells #[.int .i64 (y.1 : Int)] inT) = w8 := hw8
    obtain ⟨n2, hn2⟩ : ∃ n2 : Nd, { n1 with ks := [y.1] } = n2 := ⟨_, rfl⟩
    rw [hn2] at hm9
    have HN2 := Lib.hid hn2
    have HM9 := Lib.hid hm9
    obtain ⟨⟨x0, x1, x2, x3, x4, x5, x6, x7⟩, z0, z1, z2, z3, z4, z5, z6, z7⟩ := nd_cells hx8
    clear hw8 hm9 hn2 hx8
    go_wp2_with fail
    have HNl : Hid (n2 = { n1 with ks := [y.1] }) := HN2.out.symm
    clear HN2 x0 x1 x2 x3 x4 x5 x6 x7 z0 z1 z2 z3 z4 z5 z6 z7 hw8' hw9
    go_loopw [] (fun wr => ∃ (s' : S) (ks : List Nat) (v' uk : Value) (m : Nd), whileM (isM 2 [[124]]) (pipT nest) ks s' = whileM (isM 2 [[124]]) (pipT nest) [y.1] y.2 ∧ m = { n1 with ks := ks } ∧ Mid w2 v wr b B P v' s' d N m (.slice none 0 0) (.slice none 0 0) uk ∧ ph s' + ks.length ≤ 80000 ∧ ∃ kr, ks = y.1 :: kr) (fun wr => tkLen wr b)
    case atStart => exact ⟨y.2, [y.1], v5, _, n2, rfl, HNl.out, HM9.out, by have := HCo.out; have := HPh1.out; simp only [List.length_singleton]; omega, [], rfl⟩
    case round =>
      obtain ⟨s', ks, v', uk, m, hrun, hm1, hm, hph, kr, hkr⟩ := hrel
      have HRun := Lib.hid hrun
      have HMk := Lib.hid hm1
      have HM0 := Lib.hid hm
      have HPh := Lib.hid hph
      have HKr := Lib.hid hkr
      clear hrun hm1 hm hph hkr HM9 HNl
      go_wp2_with fail
      refine (is_lit wr b B _ v' s' d HM0.out.bx.rd 2 [[124]] (by decide)).mono ?_
      rintro r w4 ⟨rfl, hb4⟩
      have HM := Lib.hid (HM0.out.below ((Below.refl _ _).trans hb4))
      clear hb4
      obtain ⟨z, hz⟩ : ∃ z, isM 2 [[124]] s' = z := ⟨_, rfl⟩
      have HZi := Lib.hid hz
      rw [hz]
      clear hz
      cases z with
      | true =>
        go_wp2_with fail
        refine (take_calls w4 b B _ v' s' d HM.out.bx.rd).mono ?_
        rintro r w6 ⟨rfl, ht6, hr6⟩
        have HM6 := Lib.hid (HM.out.step ht6 hr6)
        clear ht6 hr6
        go_wp2_with fail
        refine (lines_calls w6 b B _ v' (tk s') d HM6.out.bx.rd).mono ?_
        rintro r w7 ⟨rfl, ht7, hr7⟩
        have HM7 := Lib.hid (HM6.out.step ht7 hr7)
        clear ht7 hr7
        go_upto_region 9 with fail
        obtain ⟨X, hX⟩ : ∃ X, cmdM nest (lns (tk s')) = X := ⟨_, rfl⟩
        have HX1 := Lib.hid hX
        have HPh7 : Hid (ph (lns (tk s')) + 8 ≤ ph s') := by have h1 := ph_lns (tk s'); have h2 := ph_tk8 (s := s') (by rw [isM_k HZi.out]; decide); show _ ≤ _; omega
        have HLen : Hid (m.ks.length ≤ 100000) := by have := HPh.out; show _ ≤ _; rw [HMk.out]; show ks.length ≤ _; omega
        have HCall : Hid (∀ x, Rd x b B (offP P N (.slice none 0 0) (.slice none 0 0) uk) v' (lns (tk s')) d → w7.heap.size ≤ x.heap.size → Calls Tryz.prog 97 #[.pointer (some ⟨b, 0, none⟩)] x (Post eN x b B (offP P N (.slice none 0 0) (.slice none 0 0) uk) v' d X)) := fun x hr hs => by
          rw [← hX]
          exact HCm.out x b B _ v' _ hr (fun g hg => HM7.out.free HB2.out g (Nat.le_trans hs hg)) (by have := HPh.out; have := HPh7.out; omega)
        have HStep : Hid (whileM (isM 2 [[124]]) (pipT nest) [y.1] y.2 = bd (bd X fun k s => .ok (ks ++ [k], s)) (whileM (isM 2 [[124]]) (pipT nest))) := by
          show _ = _
          rw [← HRun.out, while_eq (pip_takes HE.out.weak) alt_ne, if_pos HZi.out, ← hX]
        have HMp := HM7
        clear hX HRun
        have HM := HM7
        obtain ⟨i0, hi0, hz0, hz1, hz2⟩ := info_parts info_in
        have HUq : Hid (∀ g, Value.ownBlock (uk) = some g → g < w7.heap.size) := fun g hg => (HM.out.rows.k.lt g hg).2
        refine Rp.wp_region_rkx (fun ch x => ∃ e, X = .error e ∧ panY e.1 e.2 = Ending.panicked ch ∧ Below B w7 x) 6 [] [Rg.Is (.pointer (some ⟨N, 6, none⟩)), Rg.Is (uk), Rg.Is (.pointer (some ⟨b, 0, none⟩)), (fun u9 (x : World) => ∃ y, X = .ok y ∧ u9 = iv y.1), (fun u9 x => ∃ q, u9 = .slice (some ⟨q, 0, none⟩) 1 1 ∧ w7.heap.size ≤ q ∧ (∃ y, X = .ok y ∧ x.heap[q]? = some (.cells #[iv y.1] inT)) ∧ w7.heap.size < x.heap.size), (fun u9 x => ∃ y v9, X = .ok y ∧ MidA w2 v x b B P v9 y.2 d N (m) ({ m with ks := m.ks ++ [y.1] }) (.slice none 0 0) (.slice none 0 0) uk (.slice none 0 0) (.slice none 0 0) u9 ∧ w7.heap.size < x.heap.size)] (fun _ _ => True) (fun ls x => (ls 3 = false → x.heap.size = w7.heap.size ∧ Below w7.heap.size w7 x) ∧ (ls 3 = true → ls 5 = false → ∃ y v9, X = .ok y ∧ Mid w2 v x b B P v9 y.2 d N (m) (.slice none 0 0) (.slice none 0 0) uk ∧ w7.heap.size ≤ x.heap.size)) (fun k x y => if k = 3 then x.heap.size = w7.heap.size else if k = 5 then x.grownBy y (Value.ownBlock (uk)) else (Below x.heap.size x y ∧ (k = 4 ∨ y.heap.size = x.heap.size))) (by kernel_rfl) (by kernel_rfl) (of_decide_eq_true (by kernel_rfl)) (by kernel_rfl) (by kernel_rfl) trivial ⟨fun _ => ⟨rfl, rfl, rfl, rfl, Nat.le_refl _, fun _ _ => rfl⟩, fun h => by cases h⟩ (fun ls ls' x e h1 => ⟨fun h2 => h1.1 (by rw [e]; exact h2), fun h2 h3 => h1.2 (by rw [e]; exact h2) (by rw [e]; exact h3)⟩) (fun _ _ _ _ _ => trivial) (fun i ls x _ h1 => by rw [show ([] : List Bool).getD i true = true from rfl] at h1; cases h1) ?_ ⟨rfl, rfl, rfl, rfl, rfl, rfl, trivial⟩ ⟨?_, ?_, ?_, ?_, ?_, ?_, trivial⟩ ?_ ?_
        · intro i k u8 x y9 hik _ h1 hK
          match i, h1, hik with
          | 0, h1, _ => exact h1
          | 1, h1, _ => exact h1
          | 2, h1, _ => exact h1
          | 3, h1, _ => exact h1
          | 4, h1, hik =>
            obtain ⟨q, hq, hqw, ⟨y, hXy, hqx⟩, hlt⟩ := h1
            have hql := (Array.getElem?_eq_some_iff.1 hqx).1
            by_cases k3 : k = 3
            · rw [if_pos k3] at hK; omega
            · rw [if_neg k3] at hK
              by_cases k5 : k = 5
              · rw [if_pos k5] at hK
                exact ⟨q, hq, hqw, ⟨y, hXy, (hK.block q hql (fun e => by have := HUq.out q e.symm; omega)).trans hqx⟩, Nat.lt_of_lt_of_le hlt hK.size⟩
              · rw [if_neg k5] at hK
                exact ⟨q, hq, hqw, ⟨y, hXy, (hK.1.block q hql).trans hqx⟩, Nat.lt_of_lt_of_le hlt hK.1.size⟩
          | 5, h1, hik =>
            obtain ⟨y, v9, hXy, hA, hlt⟩ := h1
            by_cases k3 : k = 3
            · rw [if_pos k3] at hK; omega
            · rw [if_neg k3, if_neg (fun e => hik e.symm)] at hK
              exact ⟨y, v9, hXy, hA.below hK.1, Nat.lt_of_lt_of_le hlt hK.1.size⟩
          | _ + 6, _, _ => trivial
        · intro _ b9 x ls hR hS hself hup hdn hk
          have h3 : b9.eval (.tmp 3) = .pointer (some ⟨N, 0, none⟩) := Eq.mp (by kernel_rfl) (hk 3 (by decide))
          refine Rp.doesX_of ?_
          exact Rs.does_field _ _ h3 (by have := fld_nd N 0 6 (by decide) x; rw [Nat.zero_add] at this; exact this) ⟨by rw [if_neg (by decide), if_neg (by decide)]; exact ⟨Below.refl _ _, .inr rfl⟩, rfl, ⟨fun hh => hS.1 hh, fun h2 h3 => hS.2 h2 h3⟩⟩
        · intro _ b9 x ls hR hS hself hup hdn hk
          have h25 : b9.eval (.tmp 25) = .pointer (some ⟨N, 6, none⟩) := Eq.mp (by kernel_rfl) (hk 25 (by decide))
          have l5 : ls 5 = false := hdn [] 5 _ rfl (by kernel_rfl)
          have hc : x.cell? ⟨N, 6, none⟩ = some (uk) := by
            cases l3 : ls 3 with
            | false => have hm := HM.out.below (hS.1 l3).2; simp [World.cell?, hm.bx.box]
            | true => obtain ⟨y, v9, hXy, hm, hsz⟩ := hS.2 l3 l5; simp [World.cell?, hm.bx.box]
          refine Rp.doesX_of ?_
          exact Rg.does_load _ _ h25 (Ap.load_plainP (by simp [isAgg]) hc) ⟨by rw [if_neg (by decide), if_neg (by decide)]; exact ⟨Below.refl _ _, .inr rfl⟩, rfl, ⟨fun hh => hS.1 hh, fun h2 h3 => hS.2 h2 h3⟩⟩
        · intro _ b9 x ls hR hS hself hup hdn hk
          have h0 : b9.eval (.tmp 0) = .pointer (some ⟨b, 0, none⟩) := Eq.mp (by kernel_rfl) (hk 0 (by decide))
          refine Rp.doesX_of ?_
          exact Rg.does_move ⟨by rw [if_neg (by decide), if_neg (by decide)]; exact ⟨Below.refl _ _, .inr rfl⟩, h0, ⟨fun hh => hS.1 hh, fun h2 h3 => hS.2 h2 h3⟩⟩
        · intro _ b9 x ls hR hS hself hup hdn hk
          have h27 : b9.eval (.tmp 27) = .pointer (some ⟨b, 0, none⟩) := Eq.mp (by kernel_rfl) (hk 27 (by decide))
          obtain ⟨hsz, hb⟩ := hS.1 hself
          have hm := HM.out.below hb
          refine Rp.does_func #[.pointer (some ⟨b, 0, none⟩)] Tryz.func97 (by kernel_rfl) (by kernel_rfl) (by simp [h27, show ∀ v, b9.eval (.const v) = v from fun _ => rfl]) (HCall.out x hm.bx.rd hb.size) ?_
          intro e w' hp
          rcases post_cases hp with ⟨er, hXe, rfl, hb9⟩ | ⟨y, u9, v9, hXy, rfl, he, ht, hr⟩
          · exact .inr ⟨_, rfl, er, hXe, rfl, (hb.mono HM.out.bx.rd.size).trans hb9⟩
          · exact .inl ⟨u9, rfl, by rw [if_pos rfl]; exact hsz, ⟨y, hXy, he⟩, ⟨fun hh => by simp [Rs.upd] at hh, fun _ _ => ⟨y, v9, hXy, hm.step ht hr, by have := ht.size; omega⟩⟩⟩
        · intro _ b9 x ls hR hS hself hup hdn hk
          have h28 : (fun u9 (x : World) => ∃ y, X = .ok y ∧ u9 = iv y.1) (b9.eval (.tmp 28)) x := Eq.mp (by kernel_rfl) (hk 28 (by decide))
          have l3 : ls 3 = true := hup [] 3 (by kernel_rfl)
          have l5 : ls 5 = false := hdn [] 5 _ rfl (by kernel_rfl)
          obtain ⟨y, v9, hXy, hm, hsz⟩ := hS.2 l3 l5
          obtain ⟨y2, hXy2, he⟩ := h28
          have hyy : y2 = y := Except.ok.inj (hXy2.symm.trans hXy)
          subst hyy
          have hal := (Below.refl x.heap.size x).alloc (Nat.le_refl _) (.cells #[iv y2.1] inT)
          refine Rp.doesX_of ?_
          exact Rg.does_build #[(0, iv y2.1)] _ (by simp [he]) (by go_simp; rfl) ⟨by rw [if_neg (by decide), if_neg (by decide)]; exact ⟨hal, .inl rfl⟩, ⟨x.heap.size, rfl, hsz, ⟨y2, hXy, heap_alloc_new x _⟩, by rw [World.size_alloc]; omega⟩, ⟨fun hh => absurd (l3.symm.trans hh) (by decide), fun _ _ => ⟨y2, v9, hXy, hm.below hal, by rw [World.size_alloc]; omega⟩⟩⟩
        · intro _ b9 x ls hR hS hself hup hdn hk
          have h26 : b9.eval (.tmp 26) = uk := Eq.mp (by kernel_rfl) (hk 26 (by decide))
          have h29 : (fun u9 x => ∃ q, u9 = .slice (some ⟨q, 0, none⟩) 1 1 ∧ w7.heap.size ≤ q ∧ (∃ y, X = .ok y ∧ x.heap[q]? = some (.cells #[iv y.1] inT)) ∧ w7.heap.size < x.heap.size) (b9.eval (.tmp 29)) x := Eq.mp (by kernel_rfl) (hk 29 (by decide))
          have l3 : ls 3 = true := hup [] 3 (by kernel_rfl)
          obtain ⟨y, v9, hXy, hm, hsz⟩ := hS.2 l3 hself
          obtain ⟨q, hq, hqw, ⟨y2, hXy2, hqx⟩, hlt⟩ := h29
          have hyy : y2 = y := Except.ok.inj (hXy2.symm.trans hXy)
          subst hyy
          obtain ⟨u9, w', hrun, hown', hgr, hat⟩ := Ap.run_append_at (P := Tryz.prog) x 0 35 35 35 inT i0 _ 1 8 Tryz.underlying35 (append_side Tryz.underlying35) hi0 hz0 hz1 hz2 rfl (by decide) (by decide) (uk) _ _ hm.rows.k (b9.eval (.tmp 29)) 1 ([iv y2.1]) (by rw [hq]; exact src_cells (b := q) (off := 0) rfl (by intro u hu; obtain rfl := List.mem_singleton.1 hu; rfl) (.inr rfl) (fun i z hi => by rw [Nat.zero_add]; unfold World.cell?; simp only [hqx]; simpa using hi)) (by unfold maxLen; have := HLen.out; omega) (by have := HLen.out; omega) (Nat.zero_le _)
          refine Rp.doesX_of ?_
          exact Ap.does_append (uk) _ u9 w' h26 rfl hrun ⟨by rw [if_neg (by decide), if_pos rfl]; exact hgr, ⟨y2, v9, hXy, hm.app_k y2.1 hgr hown' hat, Nat.lt_of_lt_of_le hlt hgr.size⟩, ⟨fun hh => absurd (l3.symm.trans hh) (by decide), fun _ hh => by simp [Rs.upd] at hh⟩⟩
        · intro ch a' w' hdf hD
          obtain ⟨er, hXe, hpe, hbe⟩ := hD
          refine ⟨hdf, ?_⟩
          rw [← hpe]
          have hz : Z = .error er := by rw [HZ2.out, HStep.out, hXe]; rfl
          exact post_error hz ((HBl.out.trans (HM.out.belowB HV.out)).trans hbe)
        intro vals wD ls _ hSD _ hL
        obtain ⟨g0, g1, g2, g3, g4, g5, _⟩ := hL
        obtain ⟨q, v9, hXy, hA, _⟩ := (g5 : (fun u9 x => ∃ y v9, X = .ok y ∧ MidA w2 v x b B P v9 y.2 d N (m) ({ m with ks := m.ks ++ [y.1] }) (.slice none 0 0) (.slice none 0 0) uk (.slice none 0 0) (.slice none 0 0) u9 ∧ w7.heap.size < x.heap.size) (vals 5) wD)
        clear g0 g1 g2 g3 g4 hSD
        obtain ⟨m2, hn2⟩ : ∃ n2 : Nd, { m with ks := m.ks ++ [q.1] } = n2 := ⟨_, rfl⟩
        rw [hn2] at hA
        have HN2 := Lib.hid hn2
        simp only [Rg.putAll, List.take_succ_cons, List.take_zero, List.drop_succ_cons, List.drop_zero, List.setIfInBounds_toArray, List.set_cons_succ, List.set_cons_zero]
        generalize vals 0 = g0 at *
        generalize vals 1 = g1 at *
        generalize vals 2 = g2 at *
        generalize vals 3 = g3 at *
        generalize vals 4 = g4 at *
        generalize vals 5 = u9 at *
        obtain ⟨a9, c9, hu9, _⟩ := ownsRow_slice hA.rows.k
        subst hu9
        obtain ⟨w9, hw9, hm9⟩ := hA.set 6 (.slice a9 m2.ks.length c9) (by rw [← HN2.out]; rfl)
        obtain ⟨⟨x0, x1, x2, x3, x4, x5, x6, x7⟩, z0, z1, z2, z3, z4, z5, z6, z7⟩ := nd_cells hA.bx.box
        have HM9 := Lib.hid hm9
        have HXy := Lib.hid hXy
        clear hA hm9 hXy i0 hi0 hz0 hz1 hz2 hn2
        have HMk2 : Hid (m2 = { n1 with ks := ks ++ [q.1] }) := by show _ = _; rw [← HN2.out, HMk.out]
        have HRun2 : Hid (whileM (isM 2 [[124]]) (pipT nest) (ks ++ [q.1]) q.2 = whileM (isM 2 [[124]]) (pipT nest) [y.1] y.2) := by show _ = _; rw [HStep.out, HXy.out]; rfl
        have HLe : Hid (ph q.2 + 7 ≤ ph (lns (tk s'))) := cmd_cost HE.out.cost _ q (by rw [HX1.out, HXy.out])
        have HLt : Hid (q.2.2.length < s'.2.length) := by
          have h1 := cmd_weak HE.out.weak (lns (tk s')) q (by rw [HX1.out, HXy.out])
          have h2 := lns_le (tk s')
          have h3 := tk_lt (s := s') (by rw [isM_k HZi.out]; decide)
          show _ < _
          omega
        have HKr2 : Hid (∃ kr, ks ++ [q.1] = y.1 :: kr) := by rw [HKr.out]; exact ⟨_, rfl⟩
        clear HN2 HMk HCall HLen HStep
        go_wp2_with fail
        go_roundw
        case rel => exact ⟨q.2, ks ++ [q.1], v9, _, m2, HRun2.out, HMk2.out, HM9.out, by have := HPh.out; have := HPh7.out; have := HLe.out; simp only [List.length_append, List.length_singleton]; omega, HKr2.out⟩
        case measure => rw [rd_len HM9.out.bx.rd, rd_len HM0.out.bx.rd]; exact HLt.out
      | false =>
        have HZ3 : Hid (Z = if fl = false ∧ ks.length = 1 then .ok (y.1, s') else Sy.putM { k := 2, fl := fl, ks := ks, ln := (nx s).ln } s') := by
          show _ = _
          rw [HZ2.out, ← HRun.out, while_eq (pip_takes HE.out.weak) alt_ne, if_neg (by rw [show isM 2 [[124]] s' = false from HZi.out]; decide)]
          rfl
        have HMp : Hid (m = { k := 2, fl := fl, ks := ks, ln := (nx s).ln }) := by show _ = _; rw [HMk.out, HN1.out, HN0.out]
        have HPs : Hid (s'.1.length ≤ 100000) := by have := HPh.out; unfold ph at this; show _ ≤ _; omega
        obtain ⟨⟨aw, cw, huw⟩, ⟨ar, cr, hur⟩, ⟨ak, ck, huk⟩⟩ := HM.out.lens
        obtain ⟨L, hL⟩ : ∃ L, m.ks.length = L := ⟨_, rfl⟩
        have HLL := Lib.hid hL
        have hLk : ks.length = L := by rw [← hL, HMk.out]
        have hL1 : 0 < L := by rw [← hLk, HKr.out]; simp
        have hints := own_ints HM.out.rows.k (by rw [hL]; exact hL1)
        rw [hL] at huk
        rw [hL] at hints
        subst huk
        obtain ⟨⟨x0, x1, x2, x3, x4, x5, x6, x7⟩, z0, z1, z2, z3, z4, z5, z6, z7⟩ := nd_cells HM.out.bx.box
        have hmf : m.fl = fl := by rw [HMk.out, HN1.out]
        rw [hmf] at x2
        have HMf := Lib.hid hmf
        clear huw hur hL hmf
        cases fl with
        | true =>
          have HX9 : Hid (Z = Sy.putM m s') := by show _ = _; rw [HZ3.out, if_neg (fun h => by cases h.1), HMp.out]
          clear hints hLk hL1
          go_wp2_with fail
          have hput := put_calls w4 b B P _ s' d HM.out.rd m _ _ _ (HM.out.rowsP HB2.out) HPs.out
          rw [show m.fl = true from HMf.out] at hput
          refine hput.mono ?_
          clear hput
          rintro r w8 hp
          rw [← HX9.out] at hp
          have HP8 := Lib.hid hp
          clear hp
          rcases post_cases HP8.out with ⟨er, hXe, _, _⟩ | ⟨y8, u8, v8, hX8, rfl, he, ht8, hr8⟩
          · exact absurd (HX9.out.symm.trans hXe) (by intro h; cases h)
          · have HF8 : Hid (Turn b v W v8 w8 ∧ Rd w8 b B P v8 y8.2 d) := ⟨(HT0.out.trans HM.out.bx.turn).trans ht8, hr8⟩
            have HX8 := Lib.hid hX8
            clear ht8 hr8 hX8
            have he' : u8 = .int .i64 (y8.1 : Int) := he
            subst he'
            clear he
            go_wp2_with fail
            go_ret
            exact post_ok HX8.out rfl HF8.out.1 HF8.out.2
        | false =>
          by_cases hL2 : L = 1
          · obtain ⟨g, c, hgk, hcl⟩ := hints
            have hc0 := hcl 0 y.1 hL1 (by rw [HMk.out, HKr.out]; rfl)
            injection hgk with q1 q2 q3
            subst q1 q3
            have XI := fun w' => idx_in (g := g) (o := 0) (n := L) (c := ck) 0 hL1 .i64 w'
            simp only [Nat.zero_add, Int.cast_ofNat_Int] at XI
            have e1 : ((L : Int) == 1) = true := by rw [beq_iff_eq]; omega
            have e3 : decide ((L : Int) = 1) = true := decide_eq_true (by omega)
            have HX9 : Hid (Z = .ok (y.1, s')) := by show _ = _; rw [HZ3.out, if_pos ⟨rfl, by rw [hLk]; exact hL2⟩]
            have HF9 : Hid (Turn b v W v' w4 ∧ Rd w4 b B P v' s' d) := ⟨HT0.out.trans HM.out.bx.turn, HM.out.rd⟩
            clear hcl hL2 hLk hL1
            go_wp2_with fail
            go_ret
            exact post_ok HX9.out rfl HF9.out.1 HF9.out.2
          · have e1 : ((L : Int) == 1) = false := by rw [beq_eq_false_iff_ne]; omega
            have e3 : decide ((L : Int) = 1) = false := decide_eq_false (by omega)
            have HX9 : Hid (Z = Sy.putM m s') := by show _ = _; rw [HZ3.out, if_neg (fun h => hL2 (by rw [← hLk]; exact h.2)), HMp.out]
            clear hints hL2 hLk hL1
            go_wp2_with fail
            have hput := put_calls w4 b B P _ s' d HM.out.rd m _ _ _ (HM.out.rowsP HB2.out) HPs.out
            rw [show m.fl = false from HMf.out] at hput
            refine hput.mono ?_
            clear hput
            rintro r w8 hp
            rw [← HX9.out] at hp
            have HP8 := Lib.hid hp
            clear hp
            rcases post_cases HP8.out with ⟨er, hXe, _, _⟩ | ⟨y8, u8, v8, hX8, rfl, he, ht8, hr8⟩
            · exact absurd (HX9.out.symm.trans hXe) (by intro h; cases h)
            · have HF8 : Hid (Turn b v W v8 w8 ∧ Rd w8 b B P v8 y8.2 d) := ⟨(HT0.out.trans HM.out.bx.turn).trans ht8, hr8⟩
              have HX8 := Lib.hid hX8
              clear ht8 hr8 hX8
              have he' : u8 = .int .i64 (y8.1 : Int) := he
              subst he'
              clear he
              go_wp2_with fail
              go_ret
              exact post_ok HX8.out rfl HF8.out.1 HF8.out.2
end Go.Proofs.YtiklkhbfilbpeaaGreatDoor.Sx
set_option linter.unusedVariables false
set_option linter.unusedSimpArgs false
set_option maxRecDepth 100000
namespace Go.Proofs.YtiklkhbfilbpeaaGreatDoor.Sx
open Go.RowKit Base Lx Sy
abbrev PipeC (nest : S → Sy.P Nat) (d : Nat) : Prop := ∀ (W : World) (b B : Nat) (P : Nat → Prop) (v : Value) (s : S), Rd W b B P v s d → (∀ g, W.heap.size ≤ g → P g) → ph s ≤ 80000 →
  Calls Tryz.prog 72 #[.pointer (some ⟨b, 0, none⟩)] W (Post eN W b B P v d (pipeM nest s))
theorem ao_ne (s : S) (h : isM 2 [[38, 38], [124, 124]] s = true) : s.2 ≠ [] := isM_ne h (by decide)
/-- A row of two numbers, laid for a call. -/
theorem two_ints (W : World) (Q : Nat → Prop) (hQ : Q W.heap.size) (n : Nd) (j k : Nat) (h1 : n.ws = []) (h2 : n.rs = []) (h3 : n.ks = [j, k]) : ∃ w1, W.alloc (.cells #[.int .i64 (j : Int), .int .i64 (k : Int)] inT) = w1 ∧ Below W.heap.size W w1 ∧ Rows w1 Q n (.slice none 0 0) (.slice none 0 0) (.slice (some ⟨W.heap.size, 0, none⟩) 2 2) := by
  refine ⟨_, rfl, (Below.refl _ _).alloc (Nat.le_refl _) _, ?_, ?_, ?_, fun g hg => (by cases hg), fun g hg => (by cases hg), fun g hg => (by obtain rfl := Option.some.inj hg; exact hQ)⟩
  · rw [h1]; exact World.ownsRow_nil _ _ _ _
  · rw [h2]; exact World.ownsRow_nil _ _ _ _
  · rw [h3]
    exact ⟨rfl, .inr ⟨_, 2, _, rfl, Nat.zero_le _, heap_alloc_new W _, Nat.le_refl _, by unfold maxLen; decide, rfl, rfl⟩⟩
set_option maxHeartbeats 2000000 in
theorem andor_calls {nest : S → Sy.P Nat} {d : Nat} (E : Env nest d) (hC : PipeC nest d) (W : World) (b B : Nat) (P : Nat → Prop) (v : Value) (s : S) (h : Rd W b B P v s d) (hP : ∀ g, W.heap.size ≤ g → P g) (hF : ph s ≤ 80000) :
    Calls Tryz.prog 52 #[.pointer (some ⟨b, 0, none⟩)] W (Post eN W b B P v d (andorM nest s)) := by
  have HR := Lib.hid h
  have HE : Hid (Env nest d) := E
  have HPi : Hid (PipeC nest d) := hC
  have HP : Hid (∀ g, W.heap.size ≤ g → P g) := hP
  have HF : Hid (ph s ≤ 80000) := hF
  have HV : Hid (∀ g, v.ownBlock = some g → B ≤ g) := fun g hg => (h.own g hg).1
  have HbB : Hid (B ≤ b ∧ B ≤ W.heap.size) := ⟨h.bB, h.size⟩
  obtain ⟨Z, hZ⟩ : ∃ Z, andorM nest s = Z := ⟨_, rfl⟩
  have HZ : Hid (Z = bd (pipeM nest s) fun k s1 => whileM (isM 2 [[38, 38], [124, 124]]) (aoT nest (nx s).ln) k s1) := hZ.symm
  rw [hZ]
  clear h hP hF hZ E hC
  obtain ⟨ln, hln⟩ : ∃ ln, (nx s).ln = ln := ⟨_, rfl⟩
  have F3 := fld_tkV3 (nx s)
  rw [hln] at F3 HZ
  obtain ⟨X, hX⟩ : ∃ X, pipeM nest s = X := ⟨_, rfl⟩
  have HX := Lib.hid hX
  rw [hX] at HZ
  clear hln hX
  go_enter Tryz.func52, Tryz.ntmps52
  go_wp2_with fail
  refine (next_calls W b B P v s d HR.out).mono ?_
  rintro r w2 ⟨rfl, hb2⟩
  have HR2 := Lib.hid (HR.out.below hb2)
  have HT2 : Hid (Turn b v W v w2) := Turn.of_below hb2
  have HB2 : Hid (∀ g, w2.heap.size ≤ g → P g) := fun g hg => HP.out g (Nat.le_trans hb2.size hg)
  clear hb2
  go_wp2_with fail
  refine (HPi.out w2 b B P v s HR2.out HB2.out HF.out).mono ?_
  rintro r w3 hp
  rw [show pipeM nest s = X from HX.out] at hp
  rcases post_cases hp with ⟨er, hXe, rfl, hb9⟩ | ⟨y, u3, v3, hXy, rfl, he, ht, hr⟩
  · have hz : Z = .error er := by rw [HZ.out, hXe]; rfl
    exact ⟨rfl, post_error hz ((HT2.out.below HbB.out.1 HV.out HbB.out.2).trans hb9)⟩
  have he' : u3 = .int .i64 (y.1 : Int) := he
  subst he'
  have HR3 := Lib.hid hr
  have HT3 := Lib.hid (HT2.out.trans ht)
  have HZ2 : Hid (Z = whileM (isM 2 [[38, 38], [124, 124]]) (aoT nest ln) y.1 y.2) := by show _ = _; rw [HZ.out, hXy]; rfl
  have HPh : Hid (ph y.2 ≤ 80000) := by have := pipe_cost HE.out.cost s y (by rw [HX.out, hXy]); have := HF.out; show _ ≤ _; omega
  clear hp he ht hr hXy HZ F3
  go_wp2_with fail
  go_loopw [4] (fun v4 wr => ∃ (s' : S) (k : Nat) (v' : Value), v4 = .int .i64 (k : Int) ∧ whileM (isM 2 [[38, 38], [124, 124]]) (aoT nest ln) k s' = Z ∧ Rd wr b B P v' s' d ∧ Turn b v W v' wr ∧ ph s' ≤ 80000) (fun _ wr => tkLen wr b)
  case atStart => exact ⟨y.2, y.1, v3, rfl, HZ2.out.symm, HR3.out, HT3.out, HPh.out⟩
  case round =>
    obtain ⟨s', k, v', rfl, hrun, hr, ht, hph⟩ := hrel
    have HRun := Lib.hid hrun
    have HR4 := Lib.hid hr
    have HT4 := Lib.hid ht
    have HPh4 := Lib.hid hph
    clear hrun hr ht hph HR3 HT3 HZ2 HPh
    go_wp2_with fail
    refine (is_lit wr b B P v' s' d HR4.out 2 [[38, 38], [124, 124]] (by decide)).mono ?_
    rintro r w5 ⟨rfl, hb5⟩
    have hb5' : Below wr.heap.size wr w5 := (Below.refl _ _).trans hb5
    have HR5 := Lib.hid (HR4.out.below hb5')
    have HT5 := Lib.hid (HT4.out.trans (Turn.of_below hb5'))
    clear hb5 hb5'
    obtain ⟨z, hz⟩ : ∃ z, isM 2 [[38, 38], [124, 124]] s' = z := ⟨_, rfl⟩
    have HZi := Lib.hid hz
    rw [hz]
    clear hz
    cases z with
    | false =>
      have HX9 : Hid (Z = .ok (k, s')) := by show _ = _; rw [← HRun.out, while_eq (ao_takes HE.out.weak ln) ao_ne, if_neg (by rw [show isM 2 [[38, 38], [124, 124]] s' = false from HZi.out]; decide)]
      go_wp2_with fail
      go_ret
      exact post_ok HX9.out rfl HT5.out HR5.out
    | true =>
      go_wp2_with fail
      refine (take_calls w5 b B P v' s' d HR5.out).mono ?_
      rintro r w6 ⟨rfl, ht6, hr6⟩
      have HR6 := Lib.hid hr6
      have HT6 := Lib.hid (HT5.out.trans ht6)
      clear ht6 hr6
      obtain ⟨t, ht⟩ : ∃ t, nx s' = t := ⟨_, rfl⟩
      have HT := Lib.hid ht
      have F1 := fld_tkV1 t
      rw [ht]
      clear ht
      obtain ⟨kd, hkd⟩ : ∃ kd : Nat, kd = if t.t = [124, 124] then 4 else 3 := ⟨_, rfl⟩
      have HKd := Lib.hid hkd
      clear hkd
      obtain ⟨zo, hzo⟩ : ∃ zo, ((str t.t).toList == [124, 124]) = zo := ⟨_, rfl⟩
      have HZo : Hid (kd = if zo = true then 4 else 3) := by
        show _ = _
        rw [HKd.out, ← hzo, str_toList]
        by_cases ho : t.t = [124, 124]
        · rw [if_pos ho, ho]; rfl
        · rw [if_neg ho, if_neg (by simpa using ho)]
      go_upto_if 17 with fail
      clear hzo
      go_cut [5] (fun s5 wx => s5 = .int .i64 (kd : Int) ∧ wx = w6)
      case first =>
        cases zo with
        | true =>
          have hk4 : kd = 4 := by rw [HZo.out]; rfl
          go_wp2_with fail
          go_meet
          exact ⟨by rw [hk4]; rfl, rfl⟩
        | false =>
          have hk3 : kd = 3 := by rw [HZo.out]; rfl
          go_wp2_with fail
          go_meet
          exact ⟨by rw [hk3]; rfl, rfl⟩
      case rest =>
        obtain ⟨rfl, hwc⟩ := hcut
        have hwc2 := hwc.symm
        subst hwc2
        clear hwc
        go_wp2_with fail
        refine (lines_calls w6 b B P v' (tk s') d HR6.out).mono ?_
        rintro r w7 ⟨rfl, ht7, hr7⟩
        have HR7 := Lib.hid hr7
        have HT7 := Lib.hid (HT6.out.trans ht7)
        clear ht7 hr7
        obtain ⟨Y, hY⟩ : ∃ Y, pipeM nest (lns (tk s')) = Y := ⟨_, rfl⟩
        have HY := Lib.hid hY
        have HPh7 : Hid (ph (lns (tk s')) + 8 ≤ ph s') := by have h1 := ph_lns (tk s'); have h2 := ph_tk8 (s := s') (by rw [isM_k HZi.out]; decide); show _ ≤ _; omega
        have HStep : Hid (Z = bd (bd Y fun k2 s3 => Sy.putM { k := kd, ks := [k, k2], ln := ln } s3) (whileM (isM 2 [[38, 38], [124, 124]]) (aoT nest ln))) := by
          show _ = _
          rw [← HRun.out, while_eq (ao_takes HE.out.weak ln) ao_ne, if_pos HZi.out, ← hY]
          show bd (bd (pipeM nest (lns (tk s'))) fun k2 s3 => Sy.putM { k := if (nx s').t = [124, 124] then 4 else 3, ks := [k, k2], ln := ln } s3) _ = _
          rw [HT.out, ← HKd.out]
        clear hY
        go_wp2_with fail
        refine (HPi.out w7 b B P v' _ HR7.out (fun g hg => HP.out g (Nat.le_trans HT7.out.size hg)) (by have := HPh7.out; have := HPh4.out; omega)).mono ?_
        rintro r w8 hp
        rw [show pipeM nest (lns (tk s')) = Y from HY.out] at hp
        rcases post_cases hp with ⟨er, hXe, rfl, hb9⟩ | ⟨q, u8, v8, hXq, rfl, he, ht8, hr8⟩
        · have hz : Z = .error er := by rw [HStep.out, hXe]; rfl
          exact ⟨rfl, post_error hz ((HT7.out.below HbB.out.1 HV.out HbB.out.2).trans hb9)⟩
        have he' : u8 = .int .i64 (q.1 : Int) := he
        subst he'
        have HCo : Hid (ph q.2 + 6 ≤ ph (lns (tk s'))) := pipe_cost HE.out.cost _ q (by rw [HY.out, hXq])
        have HLe : Hid (q.2.2.length < s'.2.length) := by
          have h1 := pipe_weak HE.out.weak (lns (tk s')) q (by rw [HY.out, hXq])
          have h2 := lns_le (tk s')
          have h3 := tk_lt (s := s') (by rw [isM_k HZi.out]; decide)
          show _ < _
          omega
        have HT8 := Lib.hid (HT7.out.trans ht8)
        obtain ⟨n, hn⟩ : ∃ n : Nd, n = { k := kd, ks := [k, q.1], ln := ln } := ⟨_, rfl⟩
        obtain ⟨w9, hw9, hb9, hrows⟩ := two_ints w8 P (HP.out _ HT8.out.size) n k q.1 (by rw [hn]) (by rw [hn]) (by rw [hn])
        have hrd9 := hr8.below hb9
        have HT9 := Lib.hid (HT8.out.trans (Turn.of_below hb9))
        have HStep2 : Hid (Z = bd (Sy.putM n q.2) (whileM (isM 2 [[38, 38], [124, 124]]) (aoT nest ln))) := by show _ = _; rw [HStep.out, hXq, hn]; rfl
        have hput := put_calls w9 b B P v8 q.2 d hrd9 n _ _ _ hrows (by have := HCo.out; have := HPh7.out; have := HPh4.out; unfold ph at *; omega)
        rw [hn] at hput
        have HPut := Lib.hid hput
        have HN := Lib.hid hn
        clear hp he ht8 hr8 hXq hrd9 hrows hput hn hb9 HStep
        go_wp2_with fail
        refine HPut.out.mono ?_
        rintro r w10 hp
        obtain ⟨ua, va, rfl, hua, hta, hra⟩ := hp
        have hua' : ua = .int .i64 (q.2.1.length : Int) := hua
        subst hua'
        have HRa := Lib.hid hra
        have HTa := Lib.hid (HT9.out.trans hta)
        have HPha : Hid (ph ((q.2.1 ++ [({ k := kd, ks := [k, q.1], ln := ln } : Nd)], q.2.2) : S) ≤ 80000) := by
          have := HCo.out; have := HPh7.out; have := HPh4.out
          unfold ph at *
          show _ ≤ _
          simp only [List.length_append, List.length_singleton]; omega
        have HRun2 : Hid (whileM (isM 2 [[38, 38], [124, 124]]) (aoT nest ln) q.2.1.length (q.2.1 ++ [({ k := kd, ks := [k, q.1], ln := ln } : Nd)], q.2.2) = Z) := by show _ = _; rw [HStep2.out, HN.out]; rfl
        clear hua hta hra HPut
        go_wp2_with fail
        go_roundw
        case rel => exact ⟨_, q.2.1.length, va, rfl, HRun2.out, HRa.out, HTa.out, HPha.out⟩
        case measure => rw [rd_len HRa.out, rd_len HR4.out]; exact HLe.out
end Go.Proofs.YtiklkhbfilbpeaaGreatDoor.Sx
set_option linter.unusedVariables false
set_option linter.unusedSimpArgs false
set_option maxRecDepth 100000
namespace Go.Proofs.YtiklkhbfilbpeaaGreatDoor.Sx
open Go.RowKit Base Lx Sy
abbrev zNd : Array Value := #[.int .i64 0, .string ⟨#[]⟩, .bool false, .slice none 0 0, .int .i64 0, .slice none 0 0, .slice none 0 0, .int .i64 0]
/-- A node in box N; M: where it will be handed back. -/
structure Mid2 (W0 : World) (v0 : Value) (W : World) (b B : Nat) (P : Nat → Prop) (v : Value) (s : S) (d N : Nat) (n : Nd) (uw ur uk : Value) (M : Nat) : Prop extends Mid W0 v0 W b B P v s d N n uw ur uk where
  res : W.heap[M]? = some (.cells zNd ndT)
  rNew : W0.heap.size ≤ M
  rNe : M ≠ N
  rOwn : v.ownBlock ≠ some M
structure MidA2 (W0 : World) (v0 : Value) (W : World) (b B : Nat) (P : Nat → Prop) (v : Value) (s : S) (d N : Nat) (n n' : Nd) (uw ur uk uw' ur' uk' : Value) (M : Nat) : Prop extends MidA W0 v0 W b B P v s d N n n' uw ur uk uw' ur' uk' where
  res : W.heap[M]? = some (.cells zNd ndT)
  rNew : W0.heap.size ≤ M
  rNe : M ≠ N
  rOwn : v.ownBlock ≠ some M
section
variable {W0 W W' : World} {b B : Nat} {P : Nat → Prop} {v0 v v' : Value} {s s' : S} {d N M : Nat} {n n' : Nd} {uw ur uk uw' ur' uk' u : Value}
theorem Mid2.below (h : Mid2 W0 v0 W b B P v s d N n uw ur uk M) (hb : Below W.heap.size W W') : Mid2 W0 v0 W' b B P v s d N n uw ur uk M :=
  ⟨h.toMid.below hb, (hb.block M (Array.getElem?_eq_some_iff.1 h.res).1).trans h.res, h.rNew, h.rNe, h.rOwn⟩
theorem MidA2.below (h : MidA2 W0 v0 W b B P v s d N n n' uw ur uk uw' ur' uk' M) (hb : Below W.heap.size W W') : MidA2 W0 v0 W' b B P v s d N n n' uw ur uk uw' ur' uk' M :=
  ⟨h.toMidA.below hb, (hb.block M (Array.getElem?_eq_some_iff.1 h.res).1).trans h.res, h.rNew, h.rNe, h.rOwn⟩
theorem Mid2.step (h : Mid2 W0 v0 W b B P v s d N n uw ur uk M) (ht : Turn b v W v' W') (hr : Rd W' b B (offP P N uw ur uk) v' s' d) : Mid2 W0 v0 W' b B P v' s' d N n uw ur uk M := by
  have hl := (Array.getElem?_eq_some_iff.1 h.res).1
  exact ⟨h.toMid.step ht hr, (ht.block M hl (by have := h.rNew; have := h.bx.old; omega) h.rOwn).trans h.res, h.rNew, h.rNe, fun e => h.rOwn (ht.own M e hl)⟩
theorem Mid2.set (h : Mid2 W0 v0 W b B P v s d N n uw ur uk M) (i : Nat) (x : Value) (n' : Nd) (he : (ndA n uw ur uk).setIfInBounds i x = ndA n' uw ur uk) (h1 : n'.ws = n.ws) (h2 : n'.rs = n.rs) (h3 : n'.ks = n.ks) : ∃ w', W.setCell ⟨N, i, none⟩ x = w' ∧ Mid2 W0 v0 w' b B P v s d N n' uw ur uk M := by
  obtain ⟨w', hw, hm⟩ := h.toMid.set i x n' he h1 h2 h3
  have hg : W.grownBy w' (some N) := by rw [← hw]; exact Sl.setCells_grown N [x] i W
  exact ⟨w', hw, hm, (hg.block M (Array.getElem?_eq_some_iff.1 h.res).1 (fun e => h.rNe (Option.some.inj e))).trans h.res, h.rNew, h.rNe, h.rOwn⟩
theorem MidA2.set (h : MidA2 W0 v0 W b B P v s d N n n' uw ur uk uw' ur' uk' M) (i : Nat) (x : Value) (he : (ndA n uw ur uk).setIfInBounds i x = ndA n' uw' ur' uk') : ∃ w', W.setCell ⟨N, i, none⟩ x = w' ∧ Mid2 W0 v0 w' b B P v s d N n' uw' ur' uk' M := by
  obtain ⟨w', hw, hm⟩ := h.toMidA.set i x he
  have hg : W.grownBy w' (some N) := by rw [← hw]; exact Sl.setCells_grown N [x] i W
  exact ⟨w', hw, hm, (hg.block M (Array.getElem?_eq_some_iff.1 h.res).1 (fun e => h.rNe (Option.some.inj e))).trans h.res, h.rNew, h.rNe, h.rOwn⟩
theorem Mid2.app_w (h : Mid2 W0 v0 W b B P v s d N n uw ur uk M) (x : Nm) (hg : W.grownBy W' uw.ownBlock) (ho : W'.ownsRow 0 stT 1 u (n.ws.length + 1) (n.ws.map sv ++ [sv x])) (hat : ∀ g, u.ownBlock = some g → g < W.heap.size → uw.ownBlock = some g) : MidA2 W0 v0 W' b B P v s d N n { n with ws := n.ws ++ [x] } uw ur uk u ur uk M := by
  refine ⟨h.toMid.app_w x hg ho hat, (hg.block M (Array.getElem?_eq_some_iff.1 h.res).1 (fun e => ?_)).trans h.res, h.rNew, h.rNe, h.rOwn⟩
  obtain ⟨X, hX⟩ := own_at h.rows.w e.symm
  exact absurd (cells_inj hX h.res) (by decide)
theorem Mid2.new_w (h : Mid2 W0 v0 W b B P v s d N n uw ur uk M) (x : Nm) : ∃ w1 w2, W.alloc (.cells #[sv x] stT) = w1 ∧ w1.setCell ⟨N, 3, none⟩ (.slice (some ⟨W.heap.size, 0, none⟩) 1 1) = w2 ∧ w1.heap[N]? = some (.cells (ndA n uw ur uk) ndT) ∧ Mid2 W0 v0 w2 b B P v s d N { n with ws := [x] } (.slice (some ⟨W.heap.size, 0, none⟩) 1 1) ur uk M := by
  obtain ⟨w1, w2, h1, h2, h3, h4⟩ := h.toMid.new_w x
  have hal : Below W.heap.size W w1 := by rw [← h1]; exact (Below.refl _ _).alloc (Nat.le_refl _) _
  have hg : w1.grownBy w2 (some N) := by rw [← h2]; exact Sl.setCells_grown N [_] 3 w1
  have hr1 := (h.below hal).res
  exact ⟨w1, w2, h1, h2, h3, h4, (hg.block M (Array.getElem?_eq_some_iff.1 hr1).1 (fun e => h.rNe (Option.some.inj e))).trans hr1, h.rNew, h.rNe, h.rOwn⟩
theorem Mid2.app_r (h : Mid2 W0 v0 W b B P v s d N n uw ur uk M) (x : Rdr) (hg : W.grownBy W' ur.ownBlock) (ho : W'.ownsRow 0 rrT 4 u (n.rs.length + 1) (n.rs.flatMap rrC ++ rrC x)) (hat : ∀ g, u.ownBlock = some g → g < W.heap.size → ur.ownBlock = some g) : MidA2 W0 v0 W' b B P v s d N n { n with rs := n.rs ++ [x] } uw ur uk uw u uk M := by
  refine ⟨h.toMid.app_r x hg ho hat, (hg.block M (Array.getElem?_eq_some_iff.1 h.res).1 (fun e => ?_)).trans h.res, h.rNew, h.rNe, h.rOwn⟩
  obtain ⟨X, hX⟩ := own_at h.rows.r e.symm
  exact absurd (cells_inj hX h.res) (by decide)
theorem Mid2.app_k (h : Mid2 W0 v0 W b B P v s d N n uw ur uk M) (x : Nat) (hg : W.grownBy W' uk.ownBlock) (ho : W'.ownsRow 0 inT 1 u (n.ks.length + 1) (n.ks.map iv ++ [iv x])) (hat : ∀ g, u.ownBlock = some g → g < W.heap.size → uk.ownBlock = some g) : MidA2 W0 v0 W' b B P v s d N n { n with ks := n.ks ++ [x] } uw ur uk uw ur u M := by
  refine ⟨h.toMid.app_k x hg ho hat, (hg.block M (Array.getElem?_eq_some_iff.1 h.res).1 (fun e => ?_)).trans h.res, h.rNew, h.rNe, h.rOwn⟩
  obtain ⟨X, hX⟩ := own_at h.rows.k e.symm
  exact absurd (cells_inj hX h.res) (by decide)
theorem Mid2.new_k (h : Mid2 W0 v0 W b B P v s d N n uw ur uk M) (x : Nat) : ∃ w1 w2, W.alloc (.cells #[iv x] inT) = w1 ∧ w1.setCell ⟨N, 6, none⟩ (.slice (some ⟨W.heap.size, 0, none⟩) 1 1) = w2 ∧ w1.heap[N]? = some (.cells (ndA n uw ur uk) ndT) ∧ Mid2 W0 v0 w2 b B P v s d N { n with ks := [x] } uw ur (.slice (some ⟨W.heap.size, 0, none⟩) 1 1) M := by
  obtain ⟨w1, w2, h1, h2, h3, h4⟩ := h.toMid.new_k x
  have hal : Below W.heap.size W w1 := by rw [← h1]; exact (Below.refl _ _).alloc (Nat.le_refl _) _
  have hg : w1.grownBy w2 (some N) := by rw [← h2]; exact Sl.setCells_grown N [_] 6 w1
  have hr1 := (h.below hal).res
  exact ⟨w1, w2, h1, h2, h3, h4, (hg.block M (Array.getElem?_eq_some_iff.1 hr1).1 (fun e => h.rNe (Option.some.inj e))).trans hr1, h.rNew, h.rNe, h.rOwn⟩
theorem Mid2.start (h : Rd W b B P v s d) (n : Nd) (h1 : n.ws = []) (h2 : n.rs = []) (h3 : n.ks = []) : ∃ w1 w2, W.alloc (.cells (ndA n (.slice none 0 0) (.slice none 0 0) (.slice none 0 0)) ndT) = w1 ∧ w1.alloc (.cells zNd ndT) = w2 ∧ w1.heap.size = W.heap.size + 1 ∧ Mid2 W v w2 b B P v s d W.heap.size n (.slice none 0 0) (.slice none 0 0) (.slice none 0 0) (W.heap.size + 1) ∧ Below W.heap.size W w2 := by
  obtain ⟨w1, hw, hm, hb⟩ := Mid.start h n h1 h2 h3
  have hz : w1.heap.size = W.heap.size + 1 := by rw [← hw]; exact World.size_alloc _ _
  have hal := (Below.refl w1.heap.size w1).alloc (Nat.le_refl _) (.cells zNd ndT)
  have hnew := heap_alloc_new w1 (.cells zNd ndT)
  rw [hz] at hnew
  refine ⟨w1, _, hw, rfl, hz, ⟨hm.below hal, hnew, by omega, by omega, fun e => ?_⟩, hb.trans (hal.mono hb.size)⟩
  have := (h.own _ e).2
  omega
/-- The node is handed back. -/
theorem Mid2.fin (h : Mid2 W0 v0 W b B P v s d N n uw ur uk M) : ∃ w9, (((((((W.setCell ⟨M, 0, none⟩ (.int .i64 (n.k : Int))).setCell ⟨M, 1, none⟩ (.string (str n.t))).setCell ⟨M, 2, none⟩ (.bool n.fl)).setCell ⟨M, 3, none⟩ uw).setCell ⟨M, 4, none⟩ (.int .i64 (n.st : Int))).setCell ⟨M, 5, none⟩ ur).setCell ⟨M, 6, none⟩ uk).setCell ⟨M, 7, none⟩ (.int .i64 (n.ln : Int)) = w9 ∧
    w9.heap[M]? = some (.cells (ndA n uw ur uk) ndT) ∧ Rows w9 (fun g => W0.heap.size ≤ g) n uw ur uk ∧ Turn b v0 W0 v w9 ∧ Rd w9 b B P v s d := by
  have hg : W.grownBy (W.setCells M 0 [.int .i64 (n.k : Int), .string (str n.t), .bool n.fl, uw, .int .i64 (n.st : Int), ur, uk, .int .i64 (n.ln : Int)]) (some M) := Sl.setCells_grown M _ 0 W
  have hx : (W.setCells M 0 [.int .i64 (n.k : Int), .string (str n.t), .bool n.fl, uw, .int .i64 (n.st : Int), ur, uk, .int .i64 (n.ln : Int)]).heap[M]? = some (.cells (ndA n uw ur uk) ndT) := Sl.heap_setCells M ndT _ 0 W _ h.res (by simp)
  have hrow : ∀ (g : Nat) (X : Array Value) (t : TypeId), W.heap[g]? = some (.cells X t) → rowT t → (W.setCells M 0 [.int .i64 (n.k : Int), .string (str n.t), .bool n.fl, uw, .int .i64 (n.st : Int), ur, uk, .int .i64 (n.ln : Int)]).heap[g]? = W.heap[g]? := fun g X t hX hT => hg.block g (Array.getElem?_eq_some_iff.1 hX).1 (fun e => by
    obtain rfl := Option.some.inj e
    have := cells_inj hX h.res
    rw [this] at hT
    exact rowT_no.1 hT)
  have h1 := h.rNew
  have h2 := h.bx.old
  have h3 := h.bx.rd.bB
  refine ⟨_, rfl, hx, h.rows.keep (fun g X t _ hX hT => hrow g X t hX hT), Turn.grown h.bx.turn hg (fun g e => by obtain rfl := Option.some.inj e; exact h1), ?_⟩
  exact h.toMid.rd.turn hg (fun g e _ => by
    obtain rfl := Option.some.inj e
    exact ⟨by omega, by omega, h.rOwn, fun _ X t hX hT => by
      have := cells_inj hX h.res
      rw [this] at hT
      exact rowT_no.1 hT⟩)
end
end Go.Proofs.YtiklkhbfilbpeaaGreatDoor.Sx
set_option linter.unusedVariables false
set_option linter.unusedSimpArgs false
set_option maxRecDepth 100000
namespace Go.Proofs.YtiklkhbfilbpeaaGreatDoor.Sx
open Go.RowKit Base Lx Sy
abbrev ListC (nest : S → Sy.P Nat) (d : Nat) : Prop := ∀ (W : World) (b B : Nat) (P : Nat → Prop) (v : Value) (s : S) (em : Bool), Rd W b B P v s d → (∀ g, W.heap.size ≤ g → P g) → ph s ≤ 80000 →
  Calls Tryz.prog 23 #[.pointer (some ⟨b, 0, none⟩), .bool em] W (Post eN W b B P v d (listM nest em s))
abbrev BodyC (nest : S → Sy.P Nat) (d : Nat) : Prop := ∀ (W : World) (b B : Nat) (P : Nat → Prop) (v : Value) (s : S), Rd W b B P v s d → (∀ g, W.heap.size ≤ g → P g) → ph s ≤ 80000 →
  Calls Tryz.prog 152 #[.pointer (some ⟨b, 0, none⟩)] W (Post eN W b B P v d (bodyM nest s))
set_option maxHeartbeats 4000000 in
theorem group_calls {nest : S → Sy.P Nat} {d : Nat} (E : Env nest d) (hL : ListC nest d) (hB : BodyC nest d) (W : World) (b B : Nat) (P : Nat → Prop) (v : Value) (s : S) (h : Rd W b B P v s d) (hP : ∀ g, W.heap.size ≤ g → P g) (hF : ph s ≤ 80000) (h4 : (nx s).k ≠ 4) (ln : Nat) :
    Calls Tryz.prog 125 #[.pointer (some ⟨b, 0, none⟩), .agg #[.int .i64 0, .string ⟨#[]⟩, .bool false, .slice none 0 0, .int .i64 0, .slice none 0 0, .slice none 0 0, .int .i64 (ln : Int)]] W (PostN W b B P v d (groupM nest ln s)) := by
  have HR := Lib.hid h
  have HE : Hid (Env nest d) := E
  have HLi : Hid (ListC nest d) := hL
  have HBo : Hid (BodyC nest d) := hB
  have HP : Hid (∀ g, W.heap.size ≤ g → P g) := hP
  have HPh : Hid (ph s + 0 ≤ 80000) := hF
  have H4 := Lib.hid h4
  have HV : Hid (∀ g, v.ownBlock = some g → B ≤ g) := fun g hg => (h.own g hg).1
  obtain ⟨n0, hn0⟩ : ∃ n0 : Nd, n0 = { k := 0, ln := ln } := ⟨_, rfl⟩
  have HN0 := Lib.hid hn0
  obtain ⟨w1, w2, hw1, hw2, hz1, hm2, hb2⟩ := Mid2.start h n0 (by rw [hn0]) (by rw [hn0]) (by rw [hn0])
  obtain ⟨N, hN⟩ : ∃ N, W.heap.size = N := ⟨_, rfl⟩
  have hw1' : W.alloc (.cells #[.int .i64 0, .string ⟨#[]⟩, .bool false, .slice none 0 0, .int .i64 0, .slice none 0 0, .slice none 0 0, .int .i64 (ln : Int)] ndT) = w1 := by rw [hn0] at hw1; exact hw1
  rw [hN] at hm2 hz1
  have HW1 := Lib.hid hw1'
  have HW2 := Lib.hid hw2
  have HZ1 := Lib.hid hz1
  have HNn := Lib.hid hN
  have HM2 := Lib.hid hm2
  obtain ⟨Z, hZ⟩ : ∃ Z, groupM nest ln s = Z := ⟨_, rfl⟩
  have HZm := Lib.hid hZ
  rw [hZ]
  clear h hP hF h4 E hL hB hn0 hw1 hw1' hw2 hz1 hN hm2 hb2 hZ
  go_enter Tryz.func125, Tryz.ntmps125
  go_upto_region 1 with fail
  rw [HW1.out, HW2.out, HNn.out]
  have HZ3 : Hid (Z = bd (listM nest false (tk s)) fun k s => bd (needM 1 [[125]] s) fun _ s => .ok ({ k := 11, ks := [k], ln := ln }, s)) := HZm.out.symm
  go_wp2_with fail
  refine (take_calls w2 b B _ v s d HM2.out.bx.rd).mono ?_
  rintro r w4 ⟨rfl, ht4, hr4⟩
  have HM4 := Lib.hid (HM2.out.step ht4 hr4)
  clear ht4 hr4
  have HPh5 : Hid (ph (tk s) + 8 ≤ 80000) := by have hp0 := HPh.out; have h8 := ph_tk8 (s := s) H4.out; show _ ≤ _; omega
  obtain ⟨⟨x0, x1, x2, x3, x4, x5, x6, x7⟩, z0, z1, z2, z3, z4, z5, z6, z7⟩ := nd_cells HM4.out.bx.box
  obtain ⟨n6, hn6⟩ : ∃ n1 : Nd, n1 = { n0 with k := 11 } := ⟨_, rfl⟩
  have HN6 := Lib.hid hn6
  obtain ⟨w6, hw6, hm6⟩ := HM4.out.set 0 (.int .i64 11) n6 (by rw [hn6]; rfl) (by rw [hn6]) (by rw [hn6]) (by rw [hn6])
  have HM6 := Lib.hid hm6
  clear hm6 hn6
  go_wp2_with fail
  refine (HLi.out w6 b B _ v (tk s) false HM6.out.bx.rd (HM6.out.free HP.out) (by have := HPh5.out; omega)).mono ?_
  rintro r w7 hp
  rcases post_cases hp with ⟨er, hXe, rfl, hb9⟩ | ⟨y, u9, v7, hXy, rfl, he, ht, hr⟩
  · have hz : Z = .error er := by rw [HZ3.out, hXe]; rfl
    exact ⟨rfl, postN_error hz ((HM6.out.belowB HV.out).trans hb9)⟩
  have he' : u9 = .int .i64 (y.1 : Int) := he
  subst he'
  have HM7 := Lib.hid (HM6.out.step ht hr)
  have HX7 := Lib.hid hXy
  have HZ7 : Hid (Z = bd (needM 1 [[125]] y.2) fun _ s => .ok ({ k := 11, ks := [y.1], ln := ln }, s)) := by show _ = _; rw [HZ3.out, hXy]; rfl
  have HPh8 : Hid (ph y.2 + 7 ≤ 80000) := by have hp0 := HPh5.out; have h8 := list_cost HE.out.cost false (tk s) y hXy; show _ ≤ _; omega
  clear hp he ht hr hXy
  clear x0 x1 x2 x3 x4 x5 x6 x7 z0 z1 z2 z3 z4 z5 z6 z7
  obtain ⟨wL9, w9, hwL9, hw9, hx8, hm9⟩ := HM7.out.new_k y.1
  have hwL9' : w7.alloc (.cells #[.int .i64 (y.1 : Int)] inT) = wL9 := hwL9
  obtain ⟨n9, hn2⟩ : ∃ n2 : Nd, { n6 with ks := [y.1] } = n2 := ⟨_, rfl⟩
  rw [hn2] at hm9
  have HN2 := Lib.hid hn2
  have HM9 := Lib.hid hm9
  obtain ⟨⟨x0, x1, x2, x3, x4, x5, x6, x7⟩, z0, z1, z2, z3, z4, z5, z6, z7⟩ := nd_cells hx8
  clear hwL9 hm9 hn2 hx8
  have HN9 := Lib.hid HN2.out
  clear HN2
  go_wp2_with fail
  refine (need_lit w9 b B _ v7 y.2 d HM9.out.bx.rd 1 [[125]] (by decide)).mono ?_
  rintro r w10 hp
  rcases post_cases hp with ⟨er, hXe, rfl, hb9⟩ | ⟨q, u9, v10, hXy, rfl, he, ht, hr⟩
  · have hz : Z = .error er := by rw [HZ7.out, hXe]; rfl
    exact ⟨rfl, postN_error hz ((HM9.out.belowB HV.out).trans hb9)⟩
  have he' : u9 = .tuple #[] := he
  subst he'
  have HM10 := Lib.hid (HM9.out.step ht hr)
  have HX10 := Lib.hid hXy
  have HZ10 : Hid (Z = .ok ({ k := 11, ks := [y.1], ln := ln }, q.2)) := by show _ = _; rw [HZ7.out, hXy]; rfl
  have HPh11 : Hid (ph q.2 + 15 ≤ 80000) := by have hp0 := HPh8.out; have h8 := need_cost (by decide) q hXy; show _ ≤ _; omega
  clear hp he ht hr hXy
  clear x0 x1 x2 x3 x4 x5 x6 x7 z0 z1 z2 z3 z4 z5 z6 z7
  obtain ⟨⟨x0, x1, x2, x3, x4, x5, x6, x7⟩, z0, z1, z2, z3, z4, z5, z6, z7⟩ := nd_cells HM10.out.bx.box
  have HOk : Hid (Z = .ok (n9, q.2)) := by show _ = _; (rw [HZ10.out, ← HN9.out, HN6.out, HN0.out]; try rfl)
  obtain ⟨wF, hwF, hx99, hr99, ht99, hd99⟩ := HM10.out.fin
  have HF99 : Hid (Rows wF (fun g => W.heap.size ≤ g) n9 _ _ _ ∧ Turn b v W _ wF ∧ Rd wF b B P _ q.2 d) := ⟨hr99, ht99, hd99⟩
  obtain ⟨⟨y0, y1, y2, y3, y4, y5, y6, y7⟩, _⟩ := nd_cells hx99
  obtain ⟨⟨r0, r1, r2, r3, r4, r5, r6, r7⟩, q0, q1, q2, q3, q4, q5, q6, q7⟩ := nd_cells HM10.out.res
  clear hx99 hr99 ht99 hd99
  go_wp2_with fail
  refine bodyPost_ret (v := .agg (ndA n9 (.slice none 0 0) (.slice none 0 0) (.slice (some ⟨w7.heap.size, 0, none⟩) 1 1))) (by simp [results, Tryz.results125, go_sem, y0, y1, y2, y3, y4, y5, y6, y7, ndA]) rfl ?_
  rw [show Z = .ok (n9, q.2) from HOk.out]
  exact ⟨_, _, _, _, rfl, HF99.out.1, HF99.out.2.1, HF99.out.2.2⟩
set_option maxHeartbeats 4000000 in
theorem sub_calls {nest : S → Sy.P Nat} {d : Nat} (E : Env nest d) (hL : ListC nest d) (hB : BodyC nest d) (W : World) (b B : Nat) (P : Nat → Prop) (v : Value) (s : S) (h : Rd W b B P v s d) (hP : ∀ g, W.heap.size ≤ g → P g) (hF : ph s ≤ 80000) (h4 : (nx s).k ≠ 4) (ln : Nat) :
    Calls Tryz.prog 130 #[.pointer (some ⟨b, 0, none⟩), .agg #[.int .i64 0, .string ⟨#[]⟩, .bool false, .slice none 0 0, .int .i64 0, .slice none 0 0, .slice none 0 0, .int .i64 (ln : Int)]] W (PostN W b B P v d (subM nest ln s)) := by
  have HR := Lib.hid h
  have HE : Hid (Env nest d) := E
  have HLi : Hid (ListC nest d) := hL
  have HBo : Hid (BodyC nest d) := hB
  have HP : Hid (∀ g, W.heap.size ≤ g → P g) := hP
  have HPh : Hid (ph s + 0 ≤ 80000) := hF
  have H4 := Lib.hid h4
  have HV : Hid (∀ g, v.ownBlock = some g → B ≤ g) := fun g hg => (h.own g hg).1
  obtain ⟨n0, hn0⟩ : ∃ n0 : Nd, n0 = { k := 0, ln := ln } := ⟨_, rfl⟩
  have HN0 := Lib.hid hn0
  obtain ⟨w1, w2, hw1, hw2, hz1, hm2, hb2⟩ := Mid2.start h n0 (by rw [hn0]) (by rw [hn0]) (by rw [hn0])
  obtain ⟨N, hN⟩ : ∃ N, W.heap.size = N := ⟨_, rfl⟩
  have hw1' : W.alloc (.cells #[.int .i64 0, .string ⟨#[]⟩, .bool false, .slice none 0 0, .int .i64 0, .slice none 0 0, .slice none 0 0, .int .i64 (ln : Int)] ndT) = w1 := by rw [hn0] at hw1; exact hw1
  rw [hN] at hm2 hz1
  have HW1 := Lib.hid hw1'
  have HW2 := Lib.hid hw2
  have HZ1 := Lib.hid hz1
  have HNn := Lib.hid hN
  have HM2 := Lib.hid hm2
  obtain ⟨Z, hZ⟩ : ∃ Z, subM nest ln s = Z := ⟨_, rfl⟩
  have HZm := Lib.hid hZ
  rw [hZ]
  clear h hP hF h4 E hL hB hn0 hw1 hw1' hw2 hz1 hN hm2 hb2 hZ
  go_enter Tryz.func130, Tryz.ntmps130
  go_upto_region 1 with fail
  rw [HW1.out, HW2.out, HNn.out]
  have HZ3 : Hid (Z = bd (listM nest false (tk s)) fun k s => bd (needM 2 [[41]] s) fun _ s => .ok ({ k := 12, ks := [k], ln := ln }, s)) := HZm.out.symm
  go_wp2_with fail
  refine (take_calls w2 b B _ v s d HM2.out.bx.rd).mono ?_
  rintro r w4 ⟨rfl, ht4, hr4⟩
  have HM4 := Lib.hid (HM2.out.step ht4 hr4)
  clear ht4 hr4
  have HPh5 : Hid (ph (tk s) + 8 ≤ 80000) := by have hp0 := HPh.out; have h8 := ph_tk8 (s := s) H4.out; show _ ≤ _; omega
  obtain ⟨⟨x0, x1, x2, x3, x4, x5, x6, x7⟩, z0, z1, z2, z3, z4, z5, z6, z7⟩ := nd_cells HM4.out.bx.box
  obtain ⟨n6, hn6⟩ : ∃ n1 : Nd, n1 = { n0 with k := 12 } := ⟨_, rfl⟩
  have HN6 := Lib.hid hn6
  obtain ⟨w6, hw6, hm6⟩ := HM4.out.set 0 (.int .i64 12) n6 (by rw [hn6]; rfl) (by rw [hn6]) (by rw [hn6]) (by rw [hn6])
  have HM6 := Lib.hid hm6
  clear hm6 hn6
  go_wp2_with fail
  refine (HLi.out w6 b B _ v (tk s) false HM6.out.bx.rd (HM6.out.free HP.out) (by have := HPh5.out; omega)).mono ?_
  rintro r w7 hp
  rcases post_cases hp with ⟨er, hXe, rfl, hb9⟩ | ⟨y, u9, v7, hXy, rfl, he, ht, hr⟩
  · have hz : Z = .error er := by rw [HZ3.out, hXe]; rfl
    exact ⟨rfl, postN_error hz ((HM6.out.belowB HV.out).trans hb9)⟩
  have he' : u9 = .int .i64 (y.1 : Int) := he
  subst he'
  have HM7 := Lib.hid (HM6.out.step ht hr)
  have HX7 := Lib.hid hXy
  have HZ7 : Hid (Z = bd (needM 2 [[41]] y.2) fun _ s => .ok ({ k := 12, ks := [y.1], ln := ln }, s)) := by show _ = _; rw [HZ3.out, hXy]; rfl
  have HPh8 : Hid (ph y.2 + 7 ≤ 80000) := by have hp0 := HPh5.out; have h8 := list_cost HE.out.cost false (tk s) y hXy; show _ ≤ _; omega
  clear hp he ht hr hXy
  clear x0 x1 x2 x3 x4 x5 x6 x7 z0 z1 z2 z3 z4 z5 z6 z7
  obtain ⟨wL9, w9, hwL9, hw9, hx8, hm9⟩ := HM7.out.new_k y.1
  have hwL9' : w7.alloc (.cells #[.int .i64 (y.1 : Int)] inT) = wL9 := hwL9
  obtain ⟨n9, hn2⟩ : ∃ n2 : Nd, { n6 with ks := [y.1] } = n2 := ⟨_, rfl⟩
  rw [hn2] at hm9
  have HN2 := Lib.hid hn2
  have HM9 := Lib.hid hm9
  obtain ⟨⟨x0, x1, x2, x3, x4, x5, x6, x7⟩, z0, z1, z2, z3, z4, z5, z6, z7⟩ := nd_cells hx8
  clear hwL9 hm9 hn2 hx8
  have HN9 := Lib.hid HN2.out
  clear HN2
  go_wp2_with fail
  refine (need_lit w9 b B _ v7 y.2 d HM9.out.bx.rd 2 [[41]] (by decide)).mono ?_
  rintro r w10 hp
  rcases post_cases hp with ⟨er, hXe, rfl, hb9⟩ | ⟨q, u9, v10, hXy, rfl, he, ht, hr⟩
  · have hz : Z = .error er := by rw [HZ7.out, hXe]; rfl
    exact ⟨rfl, postN_error hz ((HM9.out.belowB HV.out).trans hb9)⟩
  have he' : u9 = .tuple #[] := he
  subst he'
  have HM10 := Lib.hid (HM9.out.step ht hr)
  have HX10 := Lib.hid hXy
  have HZ10 : Hid (Z = .ok ({ k := 12, ks := [y.1], ln := ln }, q.2)) := by show _ = _; rw [HZ7.out, hXy]; rfl
  have HPh11 : Hid (ph q.2 + 15 ≤ 80000) := by have hp0 := HPh8.out; have h8 := need_cost (by decide) q hXy; show _ ≤ _; omega
  clear hp he ht hr hXy
  clear x0 x1 x2 x3 x4 x5 x6 x7 z0 z1 z2 z3 z4 z5 z6 z7
  obtain ⟨⟨x0, x1, x2, x3, x4, x5, x6, x7⟩, z0, z1, z2, z3, z4, z5, z6, z7⟩ := nd_cells HM10.out.bx.box
  have HOk : Hid (Z = .ok (n9, q.2)) := by show _ = _; (rw [HZ10.out, ← HN9.out, HN6.out, HN0.out]; try rfl)
  obtain ⟨wF, hwF, hx99, hr99, ht99, hd99⟩ := HM10.out.fin
  have HF99 : Hid (Rows wF (fun g => W.heap.size ≤ g) n9 _ _ _ ∧ Turn b v W _ wF ∧ Rd wF b B P _ q.2 d) := ⟨hr99, ht99, hd99⟩
  obtain ⟨⟨y0, y1, y2, y3, y4, y5, y6, y7⟩, _⟩ := nd_cells hx99
  obtain ⟨⟨r0, r1, r2, r3, r4, r5, r6, r7⟩, q0, q1, q2, q3, q4, q5, q6, q7⟩ := nd_cells HM10.out.res
  clear hx99 hr99 ht99 hd99
  go_wp2_with fail
  refine bodyPost_ret (v := .agg (ndA n9 (.slice none 0 0) (.slice none 0 0) (.slice (some ⟨w7.heap.size, 0, none⟩) 1 1))) (by simp [results, Tryz.results130, go_sem, y0, y1, y2, y3, y4, y5, y6, y7, ndA]) rfl ?_
  rw [show Z = .ok (n9, q.2) from HOk.out]
  exact ⟨_, _, _, _, rfl, HF99.out.1, HF99.out.2.1, HF99.out.2.2⟩
set_option maxHeartbeats 4000000 in
theorem loop_calls {nest : S → Sy.P Nat} {d : Nat} (E : Env nest d) (hL : ListC nest d) (hB : BodyC nest d) (W : World) (b B : Nat) (P : Nat → Prop) (v : Value) (s : S) (h : Rd W b B P v s d) (hP : ∀ g, W.heap.size ≤ g → P g) (hF : ph s ≤ 80000) (h4 : (nx s).k ≠ 4) (ln : Nat) :
    Calls Tryz.prog 127 #[.pointer (some ⟨b, 0, none⟩), .agg #[.int .i64 0, .string ⟨#[]⟩, .bool false, .slice none 0 0, .int .i64 0, .slice none 0 0, .slice none 0 0, .int .i64 (ln : Int)]] W (PostN W b B P v d (whilM nest ln s)) := by
  have HR := Lib.hid h
  have HE : Hid (Env nest d) := E
  have HLi : Hid (ListC nest d) := hL
  have HBo : Hid (BodyC nest d) := hB
  have HP : Hid (∀ g, W.heap.size ≤ g → P g) := hP
  have HPh : Hid (ph s + 0 ≤ 80000) := hF
  have H4 := Lib.hid h4
  have HV : Hid (∀ g, v.ownBlock = some g → B ≤ g) := fun g hg => (h.own g hg).1
  obtain ⟨n0, hn0⟩ : ∃ n0 : Nd, n0 = { k := 0, ln := ln } := ⟨_, rfl⟩
  have HN0 := Lib.hid hn0
  obtain ⟨w1, w2, hw1, hw2, hz1, hm2, hb2⟩ := Mid2.start h n0 (by rw [hn0]) (by rw [hn0]) (by rw [hn0])
  obtain ⟨N, hN⟩ : ∃ N, W.heap.size = N := ⟨_, rfl⟩
  have hw1' : W.alloc (.cells #[.int .i64 0, .string ⟨#[]⟩, .bool false, .slice none 0 0, .int .i64 0, .slice none 0 0, .slice none 0 0, .int .i64 (ln : Int)] ndT) = w1 := by rw [hn0] at hw1; exact hw1
  rw [hN] at hm2 hz1
  have HW1 := Lib.hid hw1'
  have HW2 := Lib.hid hw2
  have HZ1 := Lib.hid hz1
  have HNn := Lib.hid hN
  have HM2 := Lib.hid hm2
  obtain ⟨Z, hZ⟩ : ∃ Z, whilM nest ln s = Z := ⟨_, rfl⟩
  have HZm := Lib.hid hZ
  rw [hZ]
  clear h hP hF h4 E hL hB hn0 hw1 hw1' hw2 hz1 hN hm2 hb2 hZ
  go_enter Tryz.func127, Tryz.ntmps127
  go_upto_region 1 with fail
  rw [HW1.out, HW2.out, HNn.out]
  obtain ⟨fl, hfl⟩ : ∃ fl, ((str (nx s).t).toList == [117, 110, 116, 105, 108]) = fl := ⟨_, rfl⟩
  have hfl2 : decide ((nx s).t = [117, 110, 116, 105, 108]) = fl := by rw [← hfl, str_toList, Bool.eq_iff_iff]; simp
  have HZ3 : Hid (Z = bd (listM nest false (tk s)) fun c s1 => bd (bodyM nest s1) fun b s2 => .ok ({ k := 7, fl := fl, ks := [c, b], ln := ln }, s2)) := by show _ = _; rw [← HZm.out, ← hfl2]; rfl
  have F1 := fld_tkV1 (nx s)
  clear hfl2
  obtain ⟨⟨x0, x1, x2, x3, x4, x5, x6, x7⟩, z0, z1, z2, z3, z4, z5, z6, z7⟩ := nd_cells HM2.out.bx.box
  obtain ⟨n4, hn4⟩ : ∃ n1 : Nd, n1 = { n0 with k := 7 } := ⟨_, rfl⟩
  have HN4 := Lib.hid hn4
  obtain ⟨w4, hw4, hm4⟩ := HM2.out.set 0 (.int .i64 7) n4 (by rw [hn4]; rfl) (by rw [hn4]) (by rw [hn4]) (by rw [hn4])
  have HM4 := Lib.hid hm4
  clear hm4 hn4
  go_wp2_with fail
  refine (take_calls w4 b B _ v s d HM4.out.bx.rd).mono ?_
  rintro r w5 ⟨rfl, ht5, hr5⟩
  have HM5 := Lib.hid (HM4.out.step ht5 hr5)
  clear ht5 hr5
  clear x0 x1 x2 x3 x4 x5 x6 x7 z0 z1 z2 z3 z4 z5 z6 z7
  have HPh6 : Hid (ph (tk s) + 8 ≤ 80000) := by have hp0 := HPh.out; have h8 := ph_tk8 (s := s) H4.out; show _ ≤ _; omega
  obtain ⟨⟨x0, x1, x2, x3, x4, x5, x6, x7⟩, z0, z1, z2, z3, z4, z5, z6, z7⟩ := nd_cells HM5.out.bx.box
  obtain ⟨n7, hn7⟩ : ∃ n1 : Nd, n1 = { n4 with fl := fl } := ⟨_, rfl⟩
  have HN7 := Lib.hid hn7
  obtain ⟨w7, hw7, hm7⟩ := HM5.out.set 2 (.bool fl) n7 (by rw [hn7]; rfl) (by rw [hn7]) (by rw [hn7]) (by rw [hn7])
  have HM7 := Lib.hid hm7
  clear hm7 hn7
  go_wp2_with fail
  refine (HLi.out w7 b B _ v (tk s) false HM7.out.bx.rd (HM7.out.free HP.out) (by have := HPh6.out; omega)).mono ?_
  rintro r w8 hp
  rcases post_cases hp with ⟨er, hXe, rfl, hb9⟩ | ⟨y, u9, v8, hXy, rfl, he, ht, hr⟩
  · have hz : Z = .error er := by rw [HZ3.out, hXe]; rfl
    exact ⟨rfl, postN_error hz ((HM7.out.belowB HV.out).trans hb9)⟩
  have he' : u9 = .int .i64 (y.1 : Int) := he
  subst he'
  have HM8 := Lib.hid (HM7.out.step ht hr)
  have HX8 := Lib.hid hXy
  have HZ8 : Hid (Z = bd (bodyM nest y.2) fun b s2 => .ok ({ k := 7, fl := fl, ks := [y.1, b], ln := ln }, s2)) := by show _ = _; rw [HZ3.out, hXy]; rfl
  have HPh9 : Hid (ph y.2 + 7 ≤ 80000) := by have hp0 := HPh6.out; have h8 := list_cost HE.out.cost false (tk s) y hXy; show _ ≤ _; omega
  clear hp he ht hr hXy
  clear x0 x1 x2 x3 x4 x5 x6 x7 z0 z1 z2 z3 z4 z5 z6 z7
  obtain ⟨wL10, w10, hwL10, hw10, hx8, hm9⟩ := HM8.out.new_k y.1
  have hwL10' : w8.alloc (.cells #[.int .i64 (y.1 : Int)] inT) = wL10 := hwL10
  obtain ⟨n10, hn2⟩ : ∃ n2 : Nd, { n7 with ks := [y.1] } = n2 := ⟨_, rfl⟩
  rw [hn2] at hm9
  have HN2 := Lib.hid hn2
  have HM10 := Lib.hid hm9
  obtain ⟨⟨x0, x1, x2, x3, x4, x5, x6, x7⟩, z0, z1, z2, z3, z4, z5, z6, z7⟩ := nd_cells hx8
  clear hwL10 hm9 hn2 hx8
  have HN10 := Lib.hid HN2.out
  clear HN2
  go_upto_region 4 with fail
  clear x0 x1 x2 x3 x4 x5 x6 x7 z0 z1 z2 z3 z4 z5 z6 z7
  obtain ⟨X11, hX⟩ : ∃ X, bodyM nest y.2 = X := ⟨_, rfl⟩
  have HX11 := Lib.hid hX
  have HLen : Hid (n10.ks.length ≤ 100000) := by show _ ≤ _; rw [← HN10.out, HN7.out, HN4.out, HN0.out]; simp
  have HCall : Hid (∀ x, Rd x b B (offP P N (.slice none 0 0) (.slice none 0 0) (.slice (some ⟨w8.heap.size, 0, none⟩) 1 1)) v8 y.2 d → w10.heap.size ≤ x.heap.size → Calls Tryz.prog 152 #[.pointer (some ⟨b, 0, none⟩)] x (Post eN x b B (offP P N (.slice none 0 0) (.slice none 0 0) (.slice (some ⟨w8.heap.size, 0, none⟩) 1 1)) v8 d X11)) := fun x hr hs => by
    rw [← hX]
    exact HBo.out x b B _ v8 y.2 hr (fun g hg => HM10.out.free HP.out g (Nat.le_trans hs hg)) (by have := HPh9.out; omega)
  have hX9 := hX
  clear hX
  have HM := HM10
  obtain ⟨i0, hi0, hz0, hz1, hz2⟩ := info_parts info_in
  have HUq : Hid (∀ g, Value.ownBlock ((.slice (some ⟨w8.heap.size, 0, none⟩) 1 1)) = some g → g < w10.heap.size) := fun g hg => (HM.out.rows.k.lt g hg).2
  refine Rp.wp_region_rkx (fun ch x => ∃ e, X11 = .error e ∧ panY e.1 e.2 = Ending.panicked ch ∧ Below B w10 x) 6 [] [Rg.Is (.pointer (some ⟨N, 6, none⟩)), Rg.Is ((.slice (some ⟨w8.heap.size, 0, none⟩) 1 1)), Rg.Is (.pointer (some ⟨b, 0, none⟩)), (fun u9 (x : World) => ∃ y, X11 = .ok y ∧ u9 = iv y.1), (fun u9 x => ∃ q, u9 = .slice (some ⟨q, 0, none⟩) 1 1 ∧ w10.heap.size ≤ q ∧ (∃ y, X11 = .ok y ∧ x.heap[q]? = some (.cells #[iv y.1] inT)) ∧ w10.heap.size < x.heap.size), (fun u9 x => ∃ y v9, X11 = .ok y ∧ MidA2 W v x b B P v9 y.2 d N (n10) ({ n10 with ks := n10.ks ++ [y.1] }) (.slice none 0 0) (.slice none 0 0) (.slice (some ⟨w8.heap.size, 0, none⟩) 1 1) (.slice none 0 0) (.slice none 0 0) u9 (N + 1) ∧ w10.heap.size < x.heap.size)] (fun _ _ => True) (fun ls x => (ls 3 = false → x.heap.size = w10.heap.size ∧ Below w10.heap.size w10 x) ∧ (ls 3 = true → ls 5 = false → ∃ y v9, X11 = .ok y ∧ Mid2 W v x b B P v9 y.2 d N (n10) (.slice none 0 0) (.slice none 0 0) (.slice (some ⟨w8.heap.size, 0, none⟩) 1 1) (N + 1) ∧ w10.heap.size ≤ x.heap.size)) (fun k x y => if k = 3 then x.heap.size = w10.heap.size else if k = 5 then x.grownBy y (Value.ownBlock ((.slice (some ⟨w8.heap.size, 0, none⟩) 1 1))) else (Below x.heap.size x y ∧ (k = 4 ∨ y.heap.size = x.heap.size))) (by kernel_rfl) (by kernel_rfl) (of_decide_eq_true (by kernel_rfl)) (by kernel_rfl) (by kernel_rfl) trivial ⟨fun _ => ⟨rfl, rfl, rfl, rfl, Nat.le_refl _, fun _ _ => rfl⟩, fun h => by cases h⟩ (fun ls ls' x e h1 => ⟨fun h2 => h1.1 (by rw [e]; exact h2), fun h2 h3 => h1.2 (by rw [e]; exact h2) (by rw [e]; exact h3)⟩) (fun _ _ _ _ _ => trivial) (fun i ls x _ h1 => by rw [show ([] : List Bool).getD i true = true from rfl] at h1; cases h1) ?_ ⟨rfl, rfl, rfl, rfl, rfl, rfl, trivial⟩ ⟨?_, ?_, ?_, ?_, ?_, ?_, trivial⟩ ?_ ?_
  · intro i k u8 x y9 hik _ h1 hK
    match i, h1, hik with
    | 0, h1, _ => exact h1
    | 1, h1, _ => exact h1
    | 2, h1, _ => exact h1
    | 3, h1, _ => exact h1
    | 4, h1, hik =>
      obtain ⟨q, hq, hqw, ⟨y, hXy, hqx⟩, hlt⟩ := h1
      have hql := (Array.getElem?_eq_some_iff.1 hqx).1
      by_cases k3 : k = 3
      · rw [if_pos k3] at hK; omega
      · rw [if_neg k3] at hK
        by_cases k5 : k = 5
        · rw [if_pos k5] at hK
          exact ⟨q, hq, hqw, ⟨y, hXy, (hK.block q hql (fun e => by have := HUq.out q e.symm; omega)).trans hqx⟩, Nat.lt_of_lt_of_le hlt hK.size⟩
        · rw [if_neg k5] at hK
          exact ⟨q, hq, hqw, ⟨y, hXy, (hK.1.block q hql).trans hqx⟩, Nat.lt_of_lt_of_le hlt hK.1.size⟩
    | 5, h1, hik =>
      obtain ⟨y, v9, hXy, hA, hlt⟩ := h1
      by_cases k3 : k = 3
      · rw [if_pos k3] at hK; omega
      · rw [if_neg k3, if_neg (fun e => hik e.symm)] at hK
        exact ⟨y, v9, hXy, hA.below hK.1, Nat.lt_of_lt_of_le hlt hK.1.size⟩
    | _ + 6, _, _ => trivial
  · intro _ b9 x ls hR hS hself hup hdn hk
    have h3 : b9.eval (.tmp 3) = .pointer (some ⟨N, 0, none⟩) := Eq.mp (by kernel_rfl) (hk 3 (by decide))
    refine Rp.doesX_of ?_
    exact Rs.does_field _ _ h3 (by have := fld_nd N 0 6 (by decide) x; rw [Nat.zero_add] at this; exact this) ⟨by rw [if_neg (by decide), if_neg (by decide)]; exact ⟨Below.refl _ _, .inr rfl⟩, rfl, ⟨fun hh => hS.1 hh, fun h2 h3 => hS.2 h2 h3⟩⟩
  · intro _ b9 x ls hR hS hself hup hdn hk
    have h15 : b9.eval (.tmp 15) = .pointer (some ⟨N, 6, none⟩) := Eq.mp (by kernel_rfl) (hk 15 (by decide))
    have l5 : ls 5 = false := hdn [] 5 _ rfl (by kernel_rfl)
    have hc : x.cell? ⟨N, 6, none⟩ = some ((.slice (some ⟨w8.heap.size, 0, none⟩) 1 1)) := by
      cases l3 : ls 3 with
      | false => have hm := HM.out.below (hS.1 l3).2; simp [World.cell?, hm.bx.box]
      | true => obtain ⟨y, v9, hXy, hm, hsz⟩ := hS.2 l3 l5; simp [World.cell?, hm.bx.box]
    refine Rp.doesX_of ?_
    exact Rg.does_load _ _ h15 (Ap.load_plainP (by simp [isAgg]) hc) ⟨by rw [if_neg (by decide), if_neg (by decide)]; exact ⟨Below.refl _ _, .inr rfl⟩, rfl, ⟨fun hh => hS.1 hh, fun h2 h3 => hS.2 h2 h3⟩⟩
  · intro _ b9 x ls hR hS hself hup hdn hk
    have h0 : b9.eval (.tmp 0) = .pointer (some ⟨b, 0, none⟩) := Eq.mp (by kernel_rfl) (hk 0 (by decide))
    refine Rp.doesX_of ?_
    exact Rg.does_move ⟨by rw [if_neg (by decide), if_neg (by decide)]; exact ⟨Below.refl _ _, .inr rfl⟩, h0, ⟨fun hh => hS.1 hh, fun h2 h3 => hS.2 h2 h3⟩⟩
  · intro _ b9 x ls hR hS hself hup hdn hk
    have h17 : b9.eval (.tmp 17) = .pointer (some ⟨b, 0, none⟩) := Eq.mp (by kernel_rfl) (hk 17 (by decide))
    obtain ⟨hsz, hb⟩ := hS.1 hself
    have hm := HM.out.below hb
    refine Rp.does_func #[.pointer (some ⟨b, 0, none⟩)] Tryz.func152 (by kernel_rfl) (by kernel_rfl) (by simp [h17, show ∀ v, b9.eval (.const v) = v from fun _ => rfl]) (HCall.out x hm.bx.rd hb.size) ?_
    intro e w' hp
    rcases post_cases hp with ⟨er, hXe, rfl, hb9⟩ | ⟨y, u9, v9, hXy, rfl, he, ht, hr⟩
    · exact .inr ⟨_, rfl, er, hXe, rfl, (hb.mono HM.out.bx.rd.size).trans hb9⟩
    · exact .inl ⟨u9, rfl, by rw [if_pos rfl]; exact hsz, ⟨y, hXy, he⟩, ⟨fun hh => by simp [Rs.upd] at hh, fun _ _ => ⟨y, v9, hXy, hm.step ht hr, by have := ht.size; omega⟩⟩⟩
  · intro _ b9 x ls hR hS hself hup hdn hk
    have h18 : (fun u9 (x : World) => ∃ y, X11 = .ok y ∧ u9 = iv y.1) (b9.eval (.tmp 18)) x := Eq.mp (by kernel_rfl) (hk 18 (by decide))
    have l3 : ls 3 = true := hup [] 3 (by kernel_rfl)
    have l5 : ls 5 = false := hdn [] 5 _ rfl (by kernel_rfl)
    obtain ⟨y, v9, hXy, hm, hsz⟩ := hS.2 l3 l5
    obtain ⟨y2, hXy2, he⟩ := h18
    have hyy : y2 = y := Except.ok.inj (hXy2.symm.trans hXy)
    subst hyy
    have hal := (Below.refl x.heap.size x).alloc (Nat.le_refl _) (.cells #[iv y2.1] inT)
    refine Rp.doesX_of ?_
    exact Rg.does_build #[(0, iv y2.1)] _ (by simp [he]) (by go_simp; rfl) ⟨by rw [if_neg (by decide), if_neg (by decide)]; exact ⟨hal, .inl rfl⟩, ⟨x.heap.size, rfl, hsz, ⟨y2, hXy, heap_alloc_new x _⟩, by rw [World.size_alloc]; omega⟩, ⟨fun hh => absurd (l3.symm.trans hh) (by decide), fun _ _ => ⟨y2, v9, hXy, hm.below hal, by rw [World.size_alloc]; omega⟩⟩⟩
  · intro _ b9 x ls hR hS hself hup hdn hk
    have h16 : b9.eval (.tmp 16) = (.slice (some ⟨w8.heap.size, 0, none⟩) 1 1) := Eq.mp (by kernel_rfl) (hk 16 (by decide))
    have h19 : (fun u9 x => ∃ q, u9 = .slice (some ⟨q, 0, none⟩) 1 1 ∧ w10.heap.size ≤ q ∧ (∃ y, X11 = .ok y ∧ x.heap[q]? = some (.cells #[iv y.1] inT)) ∧ w10.heap.size < x.heap.size) (b9.eval (.tmp 19)) x := Eq.mp (by kernel_rfl) (hk 19 (by decide))
    have l3 : ls 3 = true := hup [] 3 (by kernel_rfl)
    obtain ⟨y, v9, hXy, hm, hsz⟩ := hS.2 l3 hself
    obtain ⟨q, hq, hqw, ⟨y2, hXy2, hqx⟩, hlt⟩ := h19
    have hyy : y2 = y := Except.ok.inj (hXy2.symm.trans hXy)
    subst hyy
    obtain ⟨u9, w', hrun, hown', hgr, hat⟩ := Ap.run_append_at (P := Tryz.prog) x 0 35 35 35 inT i0 _ 1 8 Tryz.underlying35 (append_side Tryz.underlying35) hi0 hz0 hz1 hz2 rfl (by decide) (by decide) ((.slice (some ⟨w8.heap.size, 0, none⟩) 1 1)) _ _ hm.rows.k (b9.eval (.tmp 19)) 1 ([iv y2.1]) (by rw [hq]; exact src_cells (b := q) (off := 0) rfl (by intro u hu; obtain rfl := List.mem_singleton.1 hu; rfl) (.inr rfl) (fun i z hi => by rw [Nat.zero_add]; unfold World.cell?; simp only [hqx]; simpa using hi)) (by unfold maxLen; have := HLen.out; omega) (by have := HLen.out; omega) (Nat.zero_le _)
    refine Rp.doesX_of ?_
    exact Ap.does_append ((.slice (some ⟨w8.heap.size, 0, none⟩) 1 1)) _ u9 w' h16 rfl hrun ⟨by rw [if_neg (by decide), if_pos rfl]; exact hgr, ⟨y2, v9, hXy, hm.app_k y2.1 hgr hown' hat, Nat.lt_of_lt_of_le hlt hgr.size⟩, ⟨fun hh => absurd (l3.symm.trans hh) (by decide), fun _ hh => by simp [Rs.upd] at hh⟩⟩
  · intro ch a' w' hdf hD
    obtain ⟨er, hXe, hpe, hbe⟩ := hD
    refine ⟨hdf, ?_⟩
    rw [← hpe]
    have hz : Z = .error er := by rw [HZ8.out, hX9, hXe]; rfl
    exact postN_error hz ((HM.out.belowB HV.out).trans hbe)
  intro vals wD ls _ hSD _ hL
  obtain ⟨g0, g1, g2, g3, g4, g5, _⟩ := hL
  obtain ⟨q, v11, hXy, hA, _⟩ := (g5 : (fun u9 x => ∃ y v9, X11 = .ok y ∧ MidA2 W v x b B P v9 y.2 d N (n10) ({ n10 with ks := n10.ks ++ [y.1] }) (.slice none 0 0) (.slice none 0 0) (.slice (some ⟨w8.heap.size, 0, none⟩) 1 1) (.slice none 0 0) (.slice none 0 0) u9 (N + 1) ∧ w10.heap.size < x.heap.size) (vals 5) wD)
  clear g0 g1 g2 g3 g4 hSD
  obtain ⟨n11, hn2⟩ : ∃ n2 : Nd, { n10 with ks := n10.ks ++ [q.1] } = n2 := ⟨_, rfl⟩
  rw [hn2] at hA
  have HN2 := Lib.hid hn2
  simp only [Rg.putAll, List.take_succ_cons, List.take_zero, List.drop_succ_cons, List.drop_zero, List.setIfInBounds_toArray, List.set_cons_succ, List.set_cons_zero]
  generalize vals 0 = g0 at *
  generalize vals 1 = g1 at *
  generalize vals 2 = g2 at *
  generalize vals 3 = g3 at *
  generalize vals 4 = g4 at *
  generalize vals 5 = u9 at *
  obtain ⟨a11, c11, hu9, _⟩ := ownsRow_slice hA.rows.k
  subst hu9
  obtain ⟨w11, hw11, hm9⟩ := hA.set 6 (.slice a11 n11.ks.length c11) (by rw [← HN2.out]; rfl)
  obtain ⟨⟨x0, x1, x2, x3, x4, x5, x6, x7⟩, z0, z1, z2, z3, z4, z5, z6, z7⟩ := nd_cells hA.bx.box
  have HM11 := Lib.hid hm9
  have HXy := Lib.hid hXy
  clear hA hm9 hXy i0 hi0 hz0 hz1 hz2 hn2
  have hXq : bodyM nest y.2 = .ok q := by rw [hX9]; exact HXy.out
  have HZ11 : Hid (Z = .ok ({ k := 7, fl := fl, ks := [y.1, q.1], ln := ln }, q.2)) := by show _ = _; rw [HZ8.out, hXq]; rfl
  have HN11 := Lib.hid HN2.out
  clear HN2 HLen HCall HM hX9
  have HPh12 : Hid (ph q.2 + 15 ≤ 80000) := by have hp0 := HPh9.out; have h8 := body_cost HE.out.cost y.2 q hXq; show _ ≤ _; omega
  have HXy11 := HXy
  clear hXq HXy
  go_upto_region 5 with fail
  clear x0 x1 x2 x3 x4 x5 x6 x7 z0 z1 z2 z3 z4 z5 z6 z7
  obtain ⟨⟨x0, x1, x2, x3, x4, x5, x6, x7⟩, z0, z1, z2, z3, z4, z5, z6, z7⟩ := nd_cells HM11.out.bx.box
  have HOk : Hid (Z = .ok (n11, q.2)) := by show _ = _; (rw [HZ11.out, ← HN11.out, ← HN10.out, HN7.out, HN4.out, HN0.out]; try rfl)
  obtain ⟨wF, hwF, hx99, hr99, ht99, hd99⟩ := HM11.out.fin
  have HF99 : Hid (Rows wF (fun g => W.heap.size ≤ g) n11 _ _ _ ∧ Turn b v W _ wF ∧ Rd wF b B P _ q.2 d) := ⟨hr99, ht99, hd99⟩
  obtain ⟨⟨y0, y1, y2, y3, y4, y5, y6, y7⟩, _⟩ := nd_cells hx99
  obtain ⟨⟨r0, r1, r2, r3, r4, r5, r6, r7⟩, q0, q1, q2, q3, q4, q5, q6, q7⟩ := nd_cells HM11.out.res
  clear hx99 hr99 ht99 hd99
  go_wp2_with fail
  refine bodyPost_ret (v := .agg (ndA n11 (.slice none 0 0) (.slice none 0 0) (.slice a11 n11.ks.length c11))) (by simp [results, Tryz.results127, go_sem, y0, y1, y2, y3, y4, y5, y6, y7, ndA]) rfl ?_
  rw [show Z = .ok (n11, q.2) from HOk.out]
  exact ⟨_, _, _, _, rfl, HF99.out.1, HF99.out.2.1, HF99.out.2.2⟩
end Go.Proofs.YtiklkhbfilbpeaaGreatDoor.Sx
set_option linter.unusedVariables false
set_option linter.unusedSimpArgs false
set_option maxRecDepth 100000
namespace Go.Proofs.YtiklkhbfilbpeaaGreatDoor.Sx
open Go.RowKit Base Lx Sy
set_option maxHeartbeats 2000000 in
theorem body_calls {nest : S → Sy.P Nat} {d : Nat} (E : Env nest d) (hL : ListC nest d) (W : World) (b B : Nat) (P : Nat → Prop) (v : Value) (s : S) (h : Rd W b B P v s d) (hP : ∀ g, W.heap.size ≤ g → P g) (hF : ph s ≤ 80000) :
    Calls Tryz.prog 152 #[.pointer (some ⟨b, 0, none⟩)] W (Post eN W b B P v d (bodyM nest s)) := by
  have HR := Lib.hid h
  have HLi : Hid (ListC nest d) := hL
  have HP : Hid (∀ g, W.heap.size ≤ g → P g) := hP
  have HF : Hid (ph s ≤ 80000) := hF
  have HV : Hid (∀ g, v.ownBlock = some g → B ≤ g) := fun g hg => (h.own g hg).1
  have HbB : Hid (B ≤ b ∧ B ≤ W.heap.size) := ⟨h.bB, h.size⟩
  obtain ⟨Z, hZ⟩ : ∃ Z, bodyM nest s = Z := ⟨_, rfl⟩
  have HZ : Hid (Z = bd (needM 1 [[100, 111]] s) fun _ s => bd (listM nest false s) fun k s => bd (needM 1 [[100, 111, 110, 101]] s) fun _ s => .ok (k, s)) := hZ.symm
  rw [hZ]
  clear h hP hF hZ E hL
  go_enter Tryz.func152, Tryz.ntmps152
  go_wp2_with fail
  refine (need_lit W b B P v s d HR.out 1 [[100, 111]] (by decide)).mono ?_
  rintro r w2 hp
  rcases post_cases hp with ⟨er, hXe, rfl, hb9⟩ | ⟨y, u2, v2, hXy, rfl, he, ht, hr⟩
  · have hz : Z = .error er := by rw [HZ.out, hXe]; rfl
    exact ⟨rfl, post_error hz hb9⟩
  have he' : u2 = .tuple #[] := he
  subst he'
  have HR2 := Lib.hid hr
  have HT2 := Lib.hid ht
  have HZ2 : Hid (Z = bd (listM nest false y.2) fun k s => bd (needM 1 [[100, 111, 110, 101]] s) fun _ s => .ok (k, s)) := by show _ = _; rw [HZ.out, hXy]; rfl
  have HF2 : Hid (ph y.2 ≤ 80000) := by have := need_cost (by decide) y hXy; have := HF.out; show _ ≤ _; omega
  clear hp he ht hr hXy
  go_wp2_with fail
  refine (HLi.out w2 b B P v2 y.2 false HR2.out (fun g hg => HP.out g (Nat.le_trans HT2.out.size hg)) HF2.out).mono ?_
  rintro r w3 hp
  rcases post_cases hp with ⟨er, hXe, rfl, hb9⟩ | ⟨q, u3, v3, hXy, rfl, he, ht, hr⟩
  · have hz : Z = .error er := by rw [HZ2.out, hXe]; rfl
    exact ⟨rfl, post_error hz ((HT2.out.below HbB.out.1 HV.out HbB.out.2).trans hb9)⟩
  have he' : u3 = .int .i64 (q.1 : Int) := he
  subst he'
  have HR3 := Lib.hid hr
  have HT3 := Lib.hid (HT2.out.trans ht)
  have HZ3 : Hid (Z = bd (needM 1 [[100, 111, 110, 101]] q.2) fun _ s => .ok (q.1, s)) := by show _ = _; rw [HZ2.out, hXy]; rfl
  clear hp he ht hr hXy
  go_wp2_with fail
  refine (need_lit w3 b B P v3 q.2 d HR3.out 1 [[100, 111, 110, 101]] (by decide)).mono ?_
  rintro r w4 hp
  rcases post_cases hp with ⟨er, hXe, rfl, hb9⟩ | ⟨x, u4, v4, hXy, rfl, he, ht, hr⟩
  · have hz : Z = .error er := by rw [HZ3.out, hXe]; rfl
    exact ⟨rfl, post_error hz ((HT3.out.below HbB.out.1 HV.out HbB.out.2).trans hb9)⟩
  have he' : u4 = .tuple #[] := he
  subst he'
  have HF4 : Hid (Turn b v W v4 w4 ∧ Rd w4 b B P v4 x.2 d) := ⟨HT3.out.trans ht, hr⟩
  have HZ4 : Hid (Z = .ok (q.1, x.2)) := by show _ = _; rw [HZ3.out, hXy]; rfl
  clear hp he ht hr hXy
  go_wp2_with fail
  go_ret
  exact post_ok HZ4.out rfl HF4.out.1 HF4.out.2
set_option maxHeartbeats 8000000 in
theorem each_calls {nest : S → Sy.P Nat} {d : Nat} (E : Env nest d) (hL : ListC nest d) (hB : BodyC nest d) (W : World) (b B : Nat) (P : Nat → Prop) (v : Value) (s : S) (h : Rd W b B P v s d) (hP : ∀ g, W.heap.size ≤ g → P g) (hF : ph s ≤ 80000) (h4 : (nx s).k ≠ 4) (ln : Nat) :
    Calls Tryz.prog 128 #[.pointer (some ⟨b, 0, none⟩), .agg #[.int .i64 0, .string ⟨#[]⟩, .bool false, .slice none 0 0, .int .i64 0, .slice none 0 0, .slice none 0 0, .int .i64 (ln : Int)]] W (PostN W b B P v d (eachM nest ln s)) := by
  have HR := Lib.hid h
  have HE : Hid (Env nest d) := E
  have HLi : Hid (ListC nest d) := hL
  have HBo : Hid (BodyC nest d) := hB
  have HP : Hid (∀ g, W.heap.size ≤ g → P g) := hP
  have HPh : Hid (ph s + 0 ≤ 80000) := hF
  have H4 := Lib.hid h4
  have HV : Hid (∀ g, v.ownBlock = some g → B ≤ g) := fun g hg => (h.own g hg).1
  obtain ⟨n0, hn0⟩ : ∃ n0 : Nd, n0 = { k := 0, ln := ln } := ⟨_, rfl⟩
  have HN0 := Lib.hid hn0
  obtain ⟨w1, w2, hw1, hw2, hz1, hm2, hb2⟩ := Mid2.start h n0 (by rw [hn0]) (by rw [hn0]) (by rw [hn0])
  obtain ⟨N, hN⟩ : ∃ N, W.heap.size = N := ⟨_, rfl⟩
  have hw1' : W.alloc (.cells #[.int .i64 0, .string ⟨#[]⟩, .bool false, .slice none 0 0, .int .i64 0, .slice none 0 0, .slice none 0 0, .int .i64 (ln : Int)] ndT) = w1 := by rw [hn0] at hw1; exact hw1
  rw [hN] at hm2 hz1
  have HW1 := Lib.hid hw1'
  have HW2 := Lib.hid hw2
  have HZ1 := Lib.hid hz1
  have HNn := Lib.hid hN
  have HM2 := Lib.hid hm2
  obtain ⟨Z, hZ⟩ : ∃ Z, eachM nest ln s = Z := ⟨_, rfl⟩
  have HZm := Lib.hid hZ
  rw [hZ]
  clear h hP hF h4 E hL hB hn0 hw1 hw1' hw2 hz1 hN hm2 hb2 hZ
  go_enter Tryz.func128, Tryz.ntmps128
  go_upto_region 1 with fail
  rw [HW1.out, HW2.out, HNn.out]
  have HZ3 : Hid (Z = eachM nest ln s) := HZm.out.symm
  go_wp2_with fail
  refine (take_calls w2 b B _ v s d HM2.out.bx.rd).mono ?_
  rintro r w4 ⟨rfl, ht4, hr4⟩
  have HM4 := Lib.hid (HM2.out.step ht4 hr4)
  clear ht4 hr4
  have HPh5 : Hid (ph (tk s) + 8 ≤ 80000) := by have hp0 := HPh.out; have h8 := ph_tk8 (s := s) H4.out; show _ ≤ _; omega
  obtain ⟨⟨x0, x1, x2, x3, x4, x5, x6, x7⟩, z0, z1, z2, z3, z4, z5, z6, z7⟩ := nd_cells HM4.out.bx.box
  obtain ⟨n6, hn6⟩ : ∃ n1 : Nd, n1 = { n0 with k := 8 } := ⟨_, rfl⟩
  have HN6 := Lib.hid hn6
  obtain ⟨w6, hw6, hm6⟩ := HM4.out.set 0 (.int .i64 8) n6 (by rw [hn6]; rfl) (by rw [hn6]) (by rw [hn6]) (by rw [hn6])
  have HM6 := Lib.hid hm6
  clear hm6 hn6
  obtain ⟨t7, ht7⟩ : ∃ t, nx (tk s) = t := ⟨_, rfl⟩
  have HT7 := Lib.hid ht7
  clear ht7
  have F71 := fld_tkV1 t7
  go_wp2_with fail
  refine (next_calls w6 b B _ v (tk s) d HM6.out.bx.rd).mono ?_
  rintro r w7 ⟨rfl, hb7⟩
  rw [show nx (tk s) = t7 from HT7.out]
  have HM7 := Lib.hid (HM6.out.below hb7)
  clear hb7
  clear x0 x1 x2 x3 x4 x5 x6 x7 z0 z1 z2 z3 z4 z5 z6 z7
  have htl : t7.t.length ≤ 100000 := by
    obtain ⟨t', l', hs⟩ := List.exists_cons_of_ne_nil HM7.out.bx.rd.ok.ne
    have := HM7.out.bx.rd.ok.each t' (by rw [hs]; exact List.mem_cons_self)
    rw [← HT7.out, nx_at hs]
    exact this.1
  go_wp2_with fail
  refine (name_calls w7 t7.t (by omega)).mono ?_
  rintro r wn ⟨rfl, hwn⟩
  obtain rfl := hwn
  obtain ⟨zn, hzn⟩ : ∃ z, nameB t7.t = z := ⟨_, rfl⟩
  have Hzn := Lib.hid hzn
  rw [hzn]
  clear hzn htl
  cases zn with
  | false =>
    go_wp2_with fail
    have HE8 : Hid (Z = er 20 (tk s)) := by show _ = _; rw [HZ3.out]; unfold eachM; simp only; rw [if_pos (by rw [show nx (tk s) = t7 from HT7.out]; exact Hzn.out)]
    refine (fail_calls w7 b B _ v (tk s) d HM7.out.bx.rd 20).mono ?_
    rintro r w8 ⟨rfl, hb8⟩
    exact ⟨rfl, postN_error HE8.out ((HM7.out.belowB HV.out).trans (hb8.mono HM7.out.bx.rd.size))⟩
  | true =>
    have HZ8 : Hid (Z = bd (rawM (tk s)) fun t s => if isM 2 [[59]] s = true then bd (bodyM nest (lns (tk s))) fun b s => .ok ({ k := 8, t := t, fl := true, ks := [b], ln := ln }, s) else if isM 1 [[105, 110]] (lns s) = true then bd (whileM wrdB wrdT [] (tk (lns s))) fun ws s => if isM 2 [[59]] s = false ∧ (nx s).k ≠ 3 then er 20 s else bd (bodyM nest (lns (tk s))) fun b s => .ok ({ k := 8, t := t, ws := ws, ks := [b], ln := ln }, s) else bd (bodyM nest (lns s)) fun b s => .ok ({ k := 8, t := t, fl := true, ks := [b], ln := ln }, s)) := by show _ = _; rw [HZ3.out]; unfold eachM; simp only; rw [if_neg (by rw [show nx (tk s) = t7 from HT7.out, show nameB t7.t = true from Hzn.out]; decide)]
    go_wp2_with fail
    refine (raw_calls w7 b B _ v (tk s) d HM7.out.bx.rd).mono ?_
    rintro r w9 hp
    rcases post_cases hp with ⟨er, hXe, rfl, hb9⟩ | ⟨y, u9, v9, hXy, rfl, he, ht, hr⟩
    · have hz : Z = .error er := by rw [HZ8.out, hXe]; rfl
      exact ⟨rfl, postN_error hz ((HM7.out.belowB HV.out).trans hb9)⟩
    have he' : u9 = .string (str y.1) := he
    subst he'
    have HM9 := Lib.hid (HM7.out.step ht hr)
    have HX9 := Lib.hid hXy
    have HZ9 : Hid (Z = if isM 2 [[59]] y.2 = true then bd (bodyM nest (lns (tk y.2))) fun b s => .ok ({ k := 8, t := y.1, fl := true, ks := [b], ln := ln }, s) else if isM 1 [[105, 110]] (lns y.2) = true then bd (whileM wrdB wrdT [] (tk (lns y.2))) fun ws s => if isM 2 [[59]] s = false ∧ (nx s).k ≠ 3 then er 20 s else bd (bodyM nest (lns (tk s))) fun b s => .ok ({ k := 8, t := y.1, ws := ws, ks := [b], ln := ln }, s) else bd (bodyM nest (lns y.2)) fun b s => .ok ({ k := 8, t := y.1, fl := true, ks := [b], ln := ln }, s)) := by show _ = _; rw [HZ8.out, hXy]; rfl
    have HPh10 : Hid (ph y.2 + 16 ≤ 80000) := by have hp0 := HPh5.out; have h8 := raw_cost y hXy; show _ ≤ _; omega
    clear hp he ht hr hXy
    obtain ⟨⟨x0, x1, x2, x3, x4, x5, x6, x7⟩, z0, z1, z2, z3, z4, z5, z6, z7⟩ := nd_cells HM9.out.bx.box
    obtain ⟨n11, hn11⟩ : ∃ n1 : Nd, n1 = { n6 with t := y.1 } := ⟨_, rfl⟩
    have HN11 := Lib.hid hn11
    obtain ⟨w11, hw11, hm11⟩ := HM9.out.set 1 (.string (str y.1)) n11 (by rw [hn11]; rfl) (by rw [hn11]) (by rw [hn11]) (by rw [hn11])
    have HM11 := Lib.hid hm11
    clear hm11 hn11
    go_upto_region 6 with fail
    clear x0 x1 x2 x3 x4 x5 x6 x7 z0 z1 z2 z3 z4 z5 z6 z7
    obtain ⟨⟨x0, x1, x2, x3, x4, x5, x6, x7⟩, z0, z1, z2, z3, z4, z5, z6, z7⟩ := nd_cells HM11.out.bx.box
    obtain ⟨n12, hn12⟩ : ∃ n1 : Nd, n1 = { n11 with fl := true } := ⟨_, rfl⟩
    have HN12 := Lib.hid hn12
    obtain ⟨w12, hw12, hm12⟩ := HM11.out.set 2 (.bool true) n12 (by rw [hn12]; rfl) (by rw [hn12]) (by rw [hn12]) (by rw [hn12])
    have HM12 := Lib.hid hm12
    clear hm12 hn12
    go_upto_region 7 with fail
    clear x0 x1 x2 x3 x4 x5 x6 x7 z0 z1 z2 z3 z4 z5 z6 z7
    go_wp2_with fail
    refine (is_lit w12 b B _ v9 y.2 d HM12.out.bx.rd 2 [[59]] (by decide)).mono ?_
    rintro r w13 ⟨rfl, hb13⟩
    have HM13 := Lib.hid (HM12.out.below ((Below.refl _ _).trans hb13))
    clear hb13
    obtain ⟨z13, hz13⟩ : ∃ z, isM 2 [[59]] y.2 = z := ⟨_, rfl⟩
    have Hzi13 := Lib.hid hz13
    rw [hz13]
    clear hz13
    cases z13 with
    | true =>
      have HZ14 : Hid (Z = bd (bodyM nest (lns (tk y.2))) fun b s => .ok ({ k := 8, t := y.1, fl := true, ks := [b], ln := ln }, s)) := by show _ = _; rw [HZ9.out, if_pos Hzi13.out]
      go_wp2_with fail
      refine (take_calls w13 b B _ v9 y.2 d HM13.out.bx.rd).mono ?_
      rintro r w15 ⟨rfl, ht15, hr15⟩
      have HM15 := Lib.hid (HM13.out.step ht15 hr15)
      clear ht15 hr15
      have HPh16 : Hid (ph (tk y.2) + 16 ≤ 80000) := by have hp0 := HPh10.out; have h8 := ph_tk y.2; show _ ≤ _; omega
      go_wp2_with fail
      refine (lines_calls w15 b B _ v9 (tk y.2) d HM15.out.bx.rd).mono ?_
      rintro r w17 ⟨rfl, ht17, hr17⟩
      have HM17 := Lib.hid (HM15.out.step ht17 hr17)
      clear ht17 hr17
      have HPh18 : Hid (ph (lns (tk y.2)) + 16 ≤ 80000) := by have hp0 := HPh16.out; have h8 := ph_lns (tk y.2); show _ ≤ _; omega
      go_wp2_with fail
      refine (HBo.out w17 b B _ v9 (lns (tk y.2)) HM17.out.bx.rd (HM17.out.free HP.out) (by have := HPh18.out; omega)).mono ?_
      rintro r w19 hp
      rcases post_cases hp with ⟨er, hXe, rfl, hb9⟩ | ⟨q, u9, v19, hXy, rfl, he, ht, hr⟩
      · have hz : Z = .error er := by rw [HZ14.out, hXe]; rfl
        exact ⟨rfl, postN_error hz ((HM17.out.belowB HV.out).trans hb9)⟩
      have he' : u9 = .int .i64 (q.1 : Int) := he
      subst he'
      have HM19 := Lib.hid (HM17.out.step ht hr)
      have HX19 := Lib.hid hXy
      have HZ19 : Hid (Z = .ok ({ k := 8, t := y.1, fl := true, ks := [q.1], ln := ln }, q.2)) := by show _ = _; rw [HZ14.out, hXy]; rfl
      have HPh20 : Hid (ph q.2 + 24 ≤ 80000) := by have hp0 := HPh18.out; have h8 := body_cost HE.out.cost (lns (tk y.2)) q hXy; show _ ≤ _; omega
      clear hp he ht hr hXy
      obtain ⟨wL21, w21, hwL21, hw21, hx8, hm9⟩ := HM19.out.new_k q.1
      have hwL21' : w19.alloc (.cells #[.int .i64 (q.1 : Int)] inT) = wL21 := hwL21
      obtain ⟨n21, hn2⟩ : ∃ n2 : Nd, { n12 with ks := [q.1] } = n2 := ⟨_, rfl⟩
      rw [hn2] at hm9
      have HN2 := Lib.hid hn2
      have HM21 := Lib.hid hm9
      obtain ⟨⟨x0, x1, x2, x3, x4, x5, x6, x7⟩, z0, z1, z2, z3, z4, z5, z6, z7⟩ := nd_cells hx8
      clear hwL21 hm9 hn2 hx8
      have HN21 := Lib.hid HN2.out
      clear HN2
      go_upto_region 11 with fail
      clear x0 x1 x2 x3 x4 x5 x6 x7 z0 z1 z2 z3 z4 z5 z6 z7
      obtain ⟨⟨x0, x1, x2, x3, x4, x5, x6, x7⟩, z0, z1, z2, z3, z4, z5, z6, z7⟩ := nd_cells HM21.out.bx.box
      have HOk : Hid (Z = .ok (n21, q.2)) := by show _ = _; (rw [HZ19.out, ← HN21.out, HN12.out, HN11.out, HN6.out, HN0.out]; try rfl)
      obtain ⟨wF, hwF, hx99, hr99, ht99, hd99⟩ := HM21.out.fin
      have HF99 : Hid (Rows wF (fun g => W.heap.size ≤ g) n21 _ _ _ ∧ Turn b v W _ wF ∧ Rd wF b B P _ q.2 d) := ⟨hr99, ht99, hd99⟩
      obtain ⟨⟨y0, y1, y2, y3, y4, y5, y6, y7⟩, _⟩ := nd_cells hx99
      obtain ⟨⟨r0, r1, r2, r3, r4, r5, r6, r7⟩, q0, q1, q2, q3, q4, q5, q6, q7⟩ := nd_cells HM21.out.res
      clear hx99 hr99 ht99 hd99
      go_wp2_with fail
      refine bodyPost_ret (v := .agg (ndA n21 (.slice none 0 0) (.slice none 0 0) (.slice (some ⟨w19.heap.size, 0, none⟩) 1 1))) (by simp [results, Tryz.results128, go_sem, y0, y1, y2, y3, y4, y5, y6, y7, ndA]) rfl ?_
      rw [show Z = .ok (n21, q.2) from HOk.out]
      exact ⟨_, _, _, _, rfl, HF99.out.1, HF99.out.2.1, HF99.out.2.2⟩
    | false =>
      have HZ14 : Hid (Z = if isM 1 [[105, 110]] (lns y.2) = true then bd (whileM wrdB wrdT [] (tk (lns y.2))) fun ws s => if isM 2 [[59]] s = false ∧ (nx s).k ≠ 3 then er 20 s else bd (bodyM nest (lns (tk s))) fun b s => .ok ({ k := 8, t := y.1, ws := ws, ks := [b], ln := ln }, s) else bd (bodyM nest (lns y.2)) fun b s => .ok ({ k := 8, t := y.1, fl := true, ks := [b], ln := ln }, s)) := by show _ = _; rw [HZ9.out, if_neg (by rw [show isM 2 [[59]] y.2 = false from Hzi13.out]; decide)]
      go_wp2_with fail
      refine (lines_calls w13 b B _ v9 y.2 d HM13.out.bx.rd).mono ?_
      rintro r w15 ⟨rfl, ht15, hr15⟩
      have HM15 := Lib.hid (HM13.out.step ht15 hr15)
      clear ht15 hr15
      have HPh16 : Hid (ph (lns y.2) + 16 ≤ 80000) := by have hp0 := HPh10.out; have h8 := ph_lns y.2; show _ ≤ _; omega
      go_wp2_with fail
      refine (word_lit w15 b B _ v9 (lns y.2) d HM15.out.bx.rd [[105, 110]] (by decide)).mono ?_
      rintro r w17 ⟨rfl, hb17⟩
      have HM17 := Lib.hid (HM15.out.below ((Below.refl _ _).trans hb17))
      clear hb17
      obtain ⟨z17, hz17⟩ : ∃ z, isM 1 [[105, 110]] (lns y.2) = z := ⟨_, rfl⟩
      have Hzi17 := Lib.hid hz17
      rw [hz17]
      clear hz17
      cases z17 with
      | false =>
        have HZ18 : Hid (Z = bd (bodyM nest (lns y.2)) fun b s => .ok ({ k := 8, t := y.1, fl := true, ks := [b], ln := ln }, s)) := by show _ = _; rw [HZ14.out, if_neg (by rw [show isM 1 [[105, 110]] (lns y.2) = false from Hzi17.out]; decide)]
        go_wp2_with fail
        refine (HBo.out w17 b B _ v9 (lns y.2) HM17.out.bx.rd (HM17.out.free HP.out) (by have := HPh16.out; omega)).mono ?_
        rintro r w19 hp
        rcases post_cases hp with ⟨er, hXe, rfl, hb9⟩ | ⟨q, u9, v19, hXy, rfl, he, ht, hr⟩
        · have hz : Z = .error er := by rw [HZ18.out, hXe]; rfl
          exact ⟨rfl, postN_error hz ((HM17.out.belowB HV.out).trans hb9)⟩
        have he' : u9 = .int .i64 (q.1 : Int) := he
        subst he'
        have HM19 := Lib.hid (HM17.out.step ht hr)
        have HX19 := Lib.hid hXy
        have HZ19 : Hid (Z = .ok ({ k := 8, t := y.1, fl := true, ks := [q.1], ln := ln }, q.2)) := by show _ = _; rw [HZ18.out, hXy]; rfl
        have HPh20 : Hid (ph q.2 + 24 ≤ 80000) := by have hp0 := HPh16.out; have h8 := body_cost HE.out.cost (lns y.2) q hXy; show _ ≤ _; omega
        clear hp he ht hr hXy
        obtain ⟨wL21, w21, hwL21, hw21, hx8, hm9⟩ := HM19.out.new_k q.1
        have hwL21' : w19.alloc (.cells #[.int .i64 (q.1 : Int)] inT) = wL21 := hwL21
        obtain ⟨n21, hn2⟩ : ∃ n2 : Nd, { n12 with ks := [q.1] } = n2 := ⟨_, rfl⟩
        rw [hn2] at hm9
        have HN2 := Lib.hid hn2
        have HM21 := Lib.hid hm9
        obtain ⟨⟨x0, x1, x2, x3, x4, x5, x6, x7⟩, z0, z1, z2, z3, z4, z5, z6, z7⟩ := nd_cells hx8
        clear hwL21 hm9 hn2 hx8
        have HN21 := Lib.hid HN2.out
        clear HN2
        go_upto_region 23 with fail
        clear x0 x1 x2 x3 x4 x5 x6 x7 z0 z1 z2 z3 z4 z5 z6 z7
        obtain ⟨⟨x0, x1, x2, x3, x4, x5, x6, x7⟩, z0, z1, z2, z3, z4, z5, z6, z7⟩ := nd_cells HM21.out.bx.box
        have HOk : Hid (Z = .ok (n21, q.2)) := by show _ = _; (rw [HZ19.out, ← HN21.out, HN12.out, HN11.out, HN6.out, HN0.out]; try rfl)
        obtain ⟨wF, hwF, hx99, hr99, ht99, hd99⟩ := HM21.out.fin
        have HF99 : Hid (Rows wF (fun g => W.heap.size ≤ g) n21 _ _ _ ∧ Turn b v W _ wF ∧ Rd wF b B P _ q.2 d) := ⟨hr99, ht99, hd99⟩
        obtain ⟨⟨y0, y1, y2, y3, y4, y5, y6, y7⟩, _⟩ := nd_cells hx99
        obtain ⟨⟨r0, r1, r2, r3, r4, r5, r6, r7⟩, q0, q1, q2, q3, q4, q5, q6, q7⟩ := nd_cells HM21.out.res
        clear hx99 hr99 ht99 hd99
        go_wp2_with fail
        refine bodyPost_ret (v := .agg (ndA n21 (.slice none 0 0) (.slice none 0 0) (.slice (some ⟨w19.heap.size, 0, none⟩) 1 1))) (by simp [results, Tryz.results128, go_sem, y0, y1, y2, y3, y4, y5, y6, y7, ndA]) rfl ?_
        rw [show Z = .ok (n21, q.2) from HOk.out]
        exact ⟨_, _, _, _, rfl, HF99.out.1, HF99.out.2.1, HF99.out.2.2⟩
      | true =>
        have HZ18 : Hid (Z = bd (whileM wrdB wrdT [] (tk (lns y.2))) fun ws s => if isM 2 [[59]] s = false ∧ (nx s).k ≠ 3 then er 20 s else bd (bodyM nest (lns (tk s))) fun b s => .ok ({ k := 8, t := y.1, ws := ws, ks := [b], ln := ln }, s)) := by show _ = _; rw [HZ14.out, if_pos Hzi17.out]
        go_wp2_with fail
        refine (take_calls w17 b B _ v9 (lns y.2) d HM17.out.bx.rd).mono ?_
        rintro r w19 ⟨rfl, ht19, hr19⟩
        have HM19 := Lib.hid (HM17.out.step ht19 hr19)
        clear ht19 hr19
        have HPh20 : Hid (ph (tk (lns y.2)) + 16 ≤ 80000) := by have hp0 := HPh16.out; have h8 := ph_tk (lns y.2); show _ ≤ _; omega
        obtain ⟨⟨x0, x1, x2, x3, x4, x5, x6, x7⟩, z0, z1, z2, z3, z4, z5, z6, z7⟩ := nd_cells HM19.out.bx.box
        obtain ⟨n21, hn21⟩ : ∃ n1 : Nd, n1 = { n12 with fl := false } := ⟨_, rfl⟩
        have HN21 := Lib.hid hn21
        obtain ⟨w21, hw21, hm21⟩ := HM19.out.set 2 (.bool false) n21 (by rw [hn21]; rfl) (by rw [hn21]) (by rw [hn21]) (by rw [hn21])
        have HM21 := Lib.hid hm21
        clear hm21 hn21
        go_wp2_with fail
        clear x0 x1 x2 x3 x4 x5 x6 x7 z0 z1 z2 z3 z4 z5 z6 z7
        have HMw : Hid (n21 = { n21 with ws := [] }) := by show _ = _; rw [HN21.out, HN12.out, HN11.out, HN6.out, HN0.out]
        obtain ⟨n1, hn1⟩ : ∃ n1 : Nd, n1 = n21 := ⟨_, rfl⟩
        have HN1 := Lib.hid hn1
        have HFew := Lib.hid HM21.out.bx.rd.ok.few
        have HPs : Hid (ph (tk (lns y.2)) ≤ 80000) := by have := HPh20.out; show _ ≤ _; omega
        clear hn1
        go_loopw [] (fun wr => ∃ (s' : S) (ws : List Nm) (v' uw : Value) (m : Nd), whileM wrdB wrdT ws s' = whileM wrdB wrdT [] (tk (lns y.2)) ∧ m = { n1 with ws := ws } ∧ Mid2 W v wr b B P v' s' d N m uw (.slice none 0 0) (.slice none 0 0) (N + 1) ∧ ph s' ≤ 80000 ∧ ws.length + s'.2.length ≤ 10000) (fun wr => tkLen wr b)
        case atStart => exact ⟨_, [], _, _, n21, rfl, by rw [HN1.out]; exact HMw.out, HM21.out, HPs.out, by have := HFew.out; simpa using this⟩
        case round =>
          obtain ⟨s', ws, v', uw, m, hrun, hm1, hm, hph, hfw⟩ := hrel
          have HRun := Lib.hid hrun
          have HMk := Lib.hid hm1
          have HM0 := Lib.hid hm
          have HPh0 := Lib.hid hph
          have HFw := Lib.hid hfw
          have HPh90 : Hid (ph s' + 0 ≤ 80000) := hph
          clear hrun hm1 hm hph hfw
          obtain ⟨t31, ht31⟩ : ∃ t, nx s' = t := ⟨_, rfl⟩
          have HT31 := Lib.hid ht31
          clear ht31
          have F310 := fld_tkV0 t31
          go_wp2_with fail
          refine (next_calls wr b B _ v' s' d HM0.out.bx.rd).mono ?_
          rintro r w31 ⟨rfl, hb31⟩
          rw [show nx s' = t31 from HT31.out]
          have HM31 := Lib.hid (HM0.out.below hb31)
          clear hb31
          by_cases hk : t31.k = 1
          · have e1 : ((t31.k : Int) == 1) = true := by simp; omega
            have e3 : decide ((t31.k : Int) = 1) = true := by simp; omega
            have HC : Hid (wrdB s' = true) := by show decide ((nx s').k = 1) = true; rw [HT31.out]; exact decide_eq_true hk
            clear hk
            have HStep : Hid (whileM wrdB wrdT [] (tk (lns y.2)) = bd (bd (rawM s') fun w s => .ok (ws ++ [w], s)) (whileM wrdB wrdT)) := by show _ = _; rw [← HRun.out, while_eq wrd_takes wrd_ne, if_pos HC.out]
            have HZ32 : Hid (Z = bd (bd (bd (rawM s') fun w s => .ok (ws ++ [w], s)) (whileM wrdB wrdT)) fun ws s => if isM 2 [[59]] s = false ∧ (nx s).k ≠ 3 then er 20 s else bd (bodyM nest (lns (tk s))) fun b s => .ok ({ k := 8, t := y.1, ws := ws, ks := [b], ln := ln }, s)) := by show _ = _; rw [HZ18.out, HStep.out]
            go_upto_region 17 with fail
            obtain ⟨X33, hX⟩ : ∃ X, rawM s' = X := ⟨_, rfl⟩
            have HX33 := Lib.hid hX
            have HLen : Hid (m.ws.length ≤ 100000) := by show _ ≤ _; rw [HMk.out]; show ws.length ≤ _; have := HFw.out; omega
            have HCall : Hid (∀ x, Rd x b B (offP P N uw (.slice none 0 0) (.slice none 0 0)) v' s' d → w31.heap.size ≤ x.heap.size → Calls Tryz.prog 134 #[.pointer (some ⟨b, 0, none⟩)] x (Post eS x b B (offP P N uw (.slice none 0 0) (.slice none 0 0)) v' d X33)) := fun x hr hs => by
              rw [← hX]
              exact raw_calls x b B _ v' s' d hr
            have hX9 := hX
            clear hX
            have HM := HM31
            obtain ⟨i0, hi0, hz0, hz1, hz2⟩ := info_parts info_st
            have HUq : Hid (∀ g, Value.ownBlock (uw) = some g → g < w31.heap.size) := fun g hg => (HM.out.rows.w.lt g hg).2
            refine Rp.wp_region_rkx (fun ch x => ∃ e, X33 = .error e ∧ panY e.1 e.2 = Ending.panicked ch ∧ Below B w31 x) 6 [] [Rg.Is (.pointer (some ⟨N, 3, none⟩)), Rg.Is (uw), Rg.Is (.pointer (some ⟨b, 0, none⟩)), (fun u9 (x : World) => ∃ y, X33 = .ok y ∧ u9 = sv y.1), (fun u9 x => ∃ q, u9 = .slice (some ⟨q, 0, none⟩) 1 1 ∧ w31.heap.size ≤ q ∧ (∃ y, X33 = .ok y ∧ x.heap[q]? = some (.cells #[sv y.1] stT)) ∧ w31.heap.size < x.heap.size), (fun u9 x => ∃ y v9, X33 = .ok y ∧ MidA2 W v x b B P v9 y.2 d N (m) ({ m with ws := m.ws ++ [y.1] }) uw (.slice none 0 0) (.slice none 0 0) u9 (.slice none 0 0) (.slice none 0 0) (N + 1) ∧ w31.heap.size < x.heap.size)] (fun _ _ => True) (fun ls x => (ls 3 = false → x.heap.size = w31.heap.size ∧ Below w31.heap.size w31 x) ∧ (ls 3 = true → ls 5 = false → ∃ y v9, X33 = .ok y ∧ Mid2 W v x b B P v9 y.2 d N (m) uw (.slice none 0 0) (.slice none 0 0) (N + 1) ∧ w31.heap.size ≤ x.heap.size)) (fun k x y => if k = 3 then x.heap.size = w31.heap.size else if k = 5 then x.grownBy y (Value.ownBlock (uw)) else (Below x.heap.size x y ∧ (k = 4 ∨ y.heap.size = x.heap.size))) (by kernel_rfl) (by kernel_rfl) (of_decide_eq_true (by kernel_rfl)) (by kernel_rfl) (by kernel_rfl) trivial ⟨fun _ => ⟨rfl, rfl, rfl, rfl, Nat.le_refl _, fun _ _ => rfl⟩, fun h => by cases h⟩ (fun ls ls' x e h1 => ⟨fun h2 => h1.1 (by rw [e]; exact h2), fun h2 h3 => h1.2 (by rw [e]; exact h2) (by rw [e]; exact h3)⟩) (fun _ _ _ _ _ => trivial) (fun i ls x _ h1 => by rw [show ([] : List Bool).getD i true = true from rfl] at h1; cases h1) ?_ ⟨rfl, rfl, rfl, rfl, rfl, rfl, trivial⟩ ⟨?_, ?_, ?_, ?_, ?_, ?_, trivial⟩ ?_ ?_
            · intro i k u8 x y9 hik _ h1 hK
              match i, h1, hik with
              | 0, h1, _ => exact h1
              | 1, h1, _ => exact h1
              | 2, h1, _ => exact h1
              | 3, h1, _ => exact h1
              | 4, h1, hik =>
                obtain ⟨q, hq, hqw, ⟨y, hXy, hqx⟩, hlt⟩ := h1
                have hql := (Array.getElem?_eq_some_iff.1 hqx).1
                by_cases k3 : k = 3
                · rw [if_pos k3] at hK; omega
                · rw [if_neg k3] at hK
                  by_cases k5 : k = 5
                  · rw [if_pos k5] at hK
                    exact ⟨q, hq, hqw, ⟨y, hXy, (hK.block q hql (fun e => by have := HUq.out q e.symm; omega)).trans hqx⟩, Nat.lt_of_lt_of_le hlt hK.size⟩
                  · rw [if_neg k5] at hK
                    exact ⟨q, hq, hqw, ⟨y, hXy, (hK.1.block q hql).trans hqx⟩, Nat.lt_of_lt_of_le hlt hK.1.size⟩
              | 5, h1, hik =>
                obtain ⟨y, v9, hXy, hA, hlt⟩ := h1
                by_cases k3 : k = 3
                · rw [if_pos k3] at hK; omega
                · rw [if_neg k3, if_neg (fun e => hik e.symm)] at hK
                  exact ⟨y, v9, hXy, hA.below hK.1, Nat.lt_of_lt_of_le hlt hK.1.size⟩
              | _ + 6, _, _ => trivial
            · intro _ b9 x ls hR hS hself hup hdn hk
              have h3 : b9.eval (.tmp 3) = .pointer (some ⟨N, 0, none⟩) := Eq.mp (by kernel_rfl) (hk 3 (by decide))
              refine Rp.doesX_of ?_
              exact Rs.does_field _ _ h3 (by have := fld_nd N 0 3 (by decide) x; rw [Nat.zero_add] at this; exact this) ⟨by rw [if_neg (by decide), if_neg (by decide)]; exact ⟨Below.refl _ _, .inr rfl⟩, rfl, ⟨fun hh => hS.1 hh, fun h2 h3 => hS.2 h2 h3⟩⟩
            · intro _ b9 x ls hR hS hself hup hdn hk
              have h43 : b9.eval (.tmp 43) = .pointer (some ⟨N, 3, none⟩) := Eq.mp (by kernel_rfl) (hk 43 (by decide))
              have l5 : ls 5 = false := hdn [] 5 _ rfl (by kernel_rfl)
              have hc : x.cell? ⟨N, 3, none⟩ = some (uw) := by
                cases l3 : ls 3 with
                | false => have hm := HM.out.below (hS.1 l3).2; simp [World.cell?, hm.bx.box]
                | true => obtain ⟨y, v9, hXy, hm, hsz⟩ := hS.2 l3 l5; simp [World.cell?, hm.bx.box]
              refine Rp.doesX_of ?_
              exact Rg.does_load _ _ h43 (Ap.load_plainP (by simp [isAgg]) hc) ⟨by rw [if_neg (by decide), if_neg (by decide)]; exact ⟨Below.refl _ _, .inr rfl⟩, rfl, ⟨fun hh => hS.1 hh, fun h2 h3 => hS.2 h2 h3⟩⟩
            · intro _ b9 x ls hR hS hself hup hdn hk
              have h0 : b9.eval (.tmp 0) = .pointer (some ⟨b, 0, none⟩) := Eq.mp (by kernel_rfl) (hk 0 (by decide))
              refine Rp.doesX_of ?_
              exact Rg.does_move ⟨by rw [if_neg (by decide), if_neg (by decide)]; exact ⟨Below.refl _ _, .inr rfl⟩, h0, ⟨fun hh => hS.1 hh, fun h2 h3 => hS.2 h2 h3⟩⟩
            · intro _ b9 x ls hR hS hself hup hdn hk
              have h45 : b9.eval (.tmp 45) = .pointer (some ⟨b, 0, none⟩) := Eq.mp (by kernel_rfl) (hk 45 (by decide))
              obtain ⟨hsz, hb⟩ := hS.1 hself
              have hm := HM.out.below hb
              refine Rp.does_func #[.pointer (some ⟨b, 0, none⟩)] Tryz.func134 (by kernel_rfl) (by kernel_rfl) (by simp [h45, show ∀ v, b9.eval (.const v) = v from fun _ => rfl]) (HCall.out x hm.bx.rd hb.size) ?_
              intro e w' hp
              rcases post_cases hp with ⟨er, hXe, rfl, hb9⟩ | ⟨y, u9, v9, hXy, rfl, he, ht, hr⟩
              · exact .inr ⟨_, rfl, er, hXe, rfl, (hb.mono HM.out.bx.rd.size).trans hb9⟩
              · exact .inl ⟨u9, rfl, by rw [if_pos rfl]; exact hsz, ⟨y, hXy, he⟩, ⟨fun hh => by simp [Rs.upd] at hh, fun _ _ => ⟨y, v9, hXy, hm.step ht hr, by have := ht.size; omega⟩⟩⟩
            · intro _ b9 x ls hR hS hself hup hdn hk
              have h46 : (fun u9 (x : World) => ∃ y, X33 = .ok y ∧ u9 = sv y.1) (b9.eval (.tmp 46)) x := Eq.mp (by kernel_rfl) (hk 46 (by decide))
              have l3 : ls 3 = true := hup [] 3 (by kernel_rfl)
              have l5 : ls 5 = false := hdn [] 5 _ rfl (by kernel_rfl)
              obtain ⟨y, v9, hXy, hm, hsz⟩ := hS.2 l3 l5
              obtain ⟨y2, hXy2, he⟩ := h46
              have hyy : y2 = y := Except.ok.inj (hXy2.symm.trans hXy)
              subst hyy
              have hal := (Below.refl x.heap.size x).alloc (Nat.le_refl _) (.cells #[sv y2.1] stT)
              refine Rp.doesX_of ?_
              exact Rg.does_build #[(0, sv y2.1)] _ (by simp [he]) (by go_simp; rfl) ⟨by rw [if_neg (by decide), if_neg (by decide)]; exact ⟨hal, .inl rfl⟩, ⟨x.heap.size, rfl, hsz, ⟨y2, hXy, heap_alloc_new x _⟩, by rw [World.size_alloc]; omega⟩, ⟨fun hh => absurd (l3.symm.trans hh) (by decide), fun _ _ => ⟨y2, v9, hXy, hm.below hal, by rw [World.size_alloc]; omega⟩⟩⟩
            · intro _ b9 x ls hR hS hself hup hdn hk
              have h44 : b9.eval (.tmp 44) = uw := Eq.mp (by kernel_rfl) (hk 44 (by decide))
              have h47 : (fun u9 x => ∃ q, u9 = .slice (some ⟨q, 0, none⟩) 1 1 ∧ w31.heap.size ≤ q ∧ (∃ y, X33 = .ok y ∧ x.heap[q]? = some (.cells #[sv y.1] stT)) ∧ w31.heap.size < x.heap.size) (b9.eval (.tmp 47)) x := Eq.mp (by kernel_rfl) (hk 47 (by decide))
              have l3 : ls 3 = true := hup [] 3 (by kernel_rfl)
              obtain ⟨y, v9, hXy, hm, hsz⟩ := hS.2 l3 hself
              obtain ⟨q, hq, hqw, ⟨y2, hXy2, hqx⟩, hlt⟩ := h47
              have hyy : y2 = y := Except.ok.inj (hXy2.symm.trans hXy)
              subst hyy
              obtain ⟨u9, w', hrun, hown', hgr, hat⟩ := Ap.run_append_at (P := Tryz.prog) x 0 33 33 33 stT i0 _ 1 16 Tryz.underlying33 (append_side Tryz.underlying33) hi0 hz0 hz1 hz2 rfl (by decide) (by decide) (uw) _ _ hm.rows.w (b9.eval (.tmp 47)) 1 ([sv y2.1]) (by rw [hq]; exact src_cells (b := q) (off := 0) rfl (by intro u hu; obtain rfl := List.mem_singleton.1 hu; rfl) (.inr rfl) (fun i z hi => by rw [Nat.zero_add]; unfold World.cell?; simp only [hqx]; simpa using hi)) (by unfold maxLen; have := HLen.out; omega) (by have := HLen.out; omega) (Nat.zero_le _)
              refine Rp.doesX_of ?_
              exact Ap.does_append (uw) _ u9 w' h44 rfl hrun ⟨by rw [if_neg (by decide), if_pos rfl]; exact hgr, ⟨y2, v9, hXy, hm.app_w y2.1 hgr hown' hat, Nat.lt_of_lt_of_le hlt hgr.size⟩, ⟨fun hh => absurd (l3.symm.trans hh) (by decide), fun _ hh => by simp [Rs.upd] at hh⟩⟩
            · intro ch a' w' hdf hD
              obtain ⟨er, hXe, hpe, hbe⟩ := hD
              refine ⟨hdf, ?_⟩
              rw [← hpe]
              have hz : Z = .error er := by rw [HZ32.out, hX9, hXe]; rfl
              exact postN_error hz ((HM.out.belowB HV.out).trans hbe)
            intro vals wD ls _ hSD _ hL
            obtain ⟨g0, g1, g2, g3, g4, g5, _⟩ := hL
            obtain ⟨q, v33, hXy, hA, _⟩ := (g5 : (fun u9 x => ∃ y v9, X33 = .ok y ∧ MidA2 W v x b B P v9 y.2 d N (m) ({ m with ws := m.ws ++ [y.1] }) uw (.slice none 0 0) (.slice none 0 0) u9 (.slice none 0 0) (.slice none 0 0) (N + 1) ∧ w31.heap.size < x.heap.size) (vals 5) wD)
            clear g0 g1 g2 g3 g4 hSD
            obtain ⟨n33, hn2⟩ : ∃ n2 : Nd, { m with ws := m.ws ++ [q.1] } = n2 := ⟨_, rfl⟩
            rw [hn2] at hA
            have HN2 := Lib.hid hn2
            simp only [Rg.putAll, List.take_succ_cons, List.take_zero, List.drop_succ_cons, List.drop_zero, List.setIfInBounds_toArray, List.set_cons_succ, List.set_cons_zero]
            generalize vals 0 = g0 at *
            generalize vals 1 = g1 at *
            generalize vals 2 = g2 at *
            generalize vals 3 = g3 at *
            generalize vals 4 = g4 at *
            generalize vals 5 = u9 at *
            obtain ⟨a33, c33, hu9, _⟩ := ownsRow_slice hA.rows.w
            subst hu9
            obtain ⟨w33, hw33, hm9⟩ := hA.set 3 (.slice a33 n33.ws.length c33) (by rw [← HN2.out]; rfl)
            obtain ⟨⟨x0, x1, x2, x3, x4, x5, x6, x7⟩, z0, z1, z2, z3, z4, z5, z6, z7⟩ := nd_cells hA.bx.box
            have HM33 := Lib.hid hm9
            have HXy := Lib.hid hXy
            clear hA hm9 hXy i0 hi0 hz0 hz1 hz2 hn2
            have hXq : rawM s' = .ok q := by rw [hX9]; exact HXy.out
            have HZ33 : Hid (Z = bd (whileM wrdB wrdT (ws ++ [q.1]) q.2) fun ws s => if isM 2 [[59]] s = false ∧ (nx s).k ≠ 3 then er 20 s else bd (bodyM nest (lns (tk s))) fun b s => .ok ({ k := 8, t := y.1, ws := ws, ks := [b], ln := ln }, s)) := by show _ = _; rw [HZ32.out, hXq]; rfl
            have HN33 := Lib.hid HN2.out
            clear HN2 HLen HCall HM hX9
            have HPh34 : Hid (ph q.2 + 8 ≤ 80000) := by have hp0 := HPh90.out; have h8 := raw_cost q hXq; show _ ≤ _; omega
            have HXy33 := HXy
            clear hXq HXy
            have hXr : rawM s' = .ok q := by rw [show rawM s' = X33 from HX33.out]; exact HXy33.out
            have HRun2 : Hid (whileM wrdB wrdT (ws ++ [q.1]) q.2 = whileM wrdB wrdT [] (tk (lns y.2))) := by show _ = _; rw [HStep.out, hXr]; rfl
            have HLt : Hid (q.2.2.length < s'.2.length) := raw_lt hXr
            have HMk2 : Hid (n33 = { n1 with ws := ws ++ [q.1] }) := by show _ = _; rw [← HN33.out, HMk.out]
            clear hXr
            go_wp2_with fail
            go_roundw
            case rel => exact ⟨q.2, ws ++ [q.1], _, _, n33, HRun2.out, HMk2.out, HM33.out, by have := HPh34.out; omega, by have := HFw.out; have := HLt.out; simp only [List.length_append, List.length_singleton]; omega⟩
            case measure => rw [rd_len HM33.out.bx.rd, rd_len HM0.out.bx.rd]; exact HLt.out
          · have e1 : ((t31.k : Int) == 1) = false := by simp; omega
            have e3 : decide ((t31.k : Int) = 1) = false := by simp; omega
            have HC : Hid (wrdB s' = false) := by show decide ((nx s').k = 1) = false; rw [HT31.out]; exact decide_eq_false hk
            clear hk
            have HZ32 : Hid (Z = if isM 2 [[59]] s' = false ∧ (nx s').k ≠ 3 then er 20 s' else bd (bodyM nest (lns (tk s'))) fun b s => .ok ({ k := 8, t := y.1, ws := ws, ks := [b], ln := ln }, s)) := by show _ = _; rw [HZ18.out, ← HRun.out, while_eq wrd_takes wrd_ne, if_neg (by rw [show wrdB s' = false from HC.out]; decide)]; rfl
            obtain ⟨⟨aw, cw, huw⟩, _⟩ := HM31.out.lens
            subst huw
            go_wp2_with fail
            refine (is_lit w31 b B _ v' s' d HM31.out.bx.rd 2 [[59]] (by decide)).mono ?_
            rintro r w33 ⟨rfl, hb33⟩
            have HM33 := Lib.hid (HM31.out.below ((Below.refl _ _).trans hb33))
            clear hb33
            obtain ⟨z33, hz33⟩ : ∃ z, isM 2 [[59]] s' = z := ⟨_, rfl⟩
            have Hzi33 := Lib.hid hz33
            rw [hz33]
            clear hz33
            cases z33 with
            | true =>
              have HZ34 : Hid (Z = bd (bodyM nest (lns (tk s'))) fun b s => .ok ({ k := 8, t := y.1, ws := ws, ks := [b], ln := ln }, s)) := by show _ = _; rw [HZ32.out, if_neg (fun h => absurd (Hzi33.out.symm.trans h.1) (by decide))]
              go_wp2_with fail
              refine (take_calls w33 b B _ v' s' d HM33.out.bx.rd).mono ?_
              rintro r w35 ⟨rfl, ht35, hr35⟩
              have HM35 := Lib.hid (HM33.out.step ht35 hr35)
              clear ht35 hr35
              have HPh36 : Hid (ph (tk s') + 0 ≤ 80000) := by have hp0 := HPh90.out; have h8 := ph_tk s'; show _ ≤ _; omega
              go_wp2_with fail
              refine (lines_calls w35 b B _ v' (tk s') d HM35.out.bx.rd).mono ?_
              rintro r w37 ⟨rfl, ht37, hr37⟩
              have HM37 := Lib.hid (HM35.out.step ht37 hr37)
              clear ht37 hr37
              have HPh38 : Hid (ph (lns (tk s')) + 0 ≤ 80000) := by have hp0 := HPh36.out; have h8 := ph_lns (tk s'); show _ ≤ _; omega
              go_wp2_with fail
              refine (HBo.out w37 b B _ v' (lns (tk s')) HM37.out.bx.rd (HM37.out.free HP.out) (by have := HPh38.out; omega)).mono ?_
              rintro r w39 hp
              rcases post_cases hp with ⟨er, hXe, rfl, hb9⟩ | ⟨x, u9, v39, hXy, rfl, he, ht, hr⟩
              · have hz : Z = .error er := by rw [HZ34.out, hXe]; rfl
                exact ⟨rfl, postN_error hz ((HM37.out.belowB HV.out).trans hb9)⟩
              have he' : u9 = .int .i64 (x.1 : Int) := he
              subst he'
              have HM39 := Lib.hid (HM37.out.step ht hr)
              have HX39 := Lib.hid hXy
              have HZ39 : Hid (Z = .ok ({ k := 8, t := y.1, ws := ws, ks := [x.1], ln := ln }, x.2)) := by show _ = _; rw [HZ34.out, hXy]; rfl
              have HPh40 : Hid (ph x.2 + 8 ≤ 80000) := by have hp0 := HPh38.out; have h8 := body_cost HE.out.cost (lns (tk s')) x hXy; show _ ≤ _; omega
              clear hp he ht hr hXy
              obtain ⟨wL41, w41, hwL41, hw41, hx8, hm9⟩ := HM39.out.new_k x.1
              have hwL41' : w39.alloc (.cells #[.int .i64 (x.1 : Int)] inT) = wL41 := hwL41
              obtain ⟨n41, hn2⟩ : ∃ n2 : Nd, { m with ks := [x.1] } = n2 := ⟨_, rfl⟩
              rw [hn2] at hm9
              have HN2 := Lib.hid hn2
              have HM41 := Lib.hid hm9
              obtain ⟨⟨x0, x1, x2, x3, x4, x5, x6, x7⟩, z0, z1, z2, z3, z4, z5, z6, z7⟩ := nd_cells hx8
              clear hwL41 hm9 hn2 hx8
              have HN41 := Lib.hid HN2.out
              clear HN2
              go_upto_region 23 with fail
              clear x0 x1 x2 x3 x4 x5 x6 x7 z0 z1 z2 z3 z4 z5 z6 z7
              obtain ⟨⟨x0, x1, x2, x3, x4, x5, x6, x7⟩, z0, z1, z2, z3, z4, z5, z6, z7⟩ := nd_cells HM41.out.bx.box
              have HOk : Hid (Z = .ok (n41, x.2)) := by show _ = _; (rw [HZ39.out, ← HN41.out, HMk.out, HN1.out, HN21.out, HN12.out, HN11.out, HN6.out, HN0.out]; try rfl)
              obtain ⟨wF, hwF, hx99, hr99, ht99, hd99⟩ := HM41.out.fin
              have HF99 : Hid (Rows wF (fun g => W.heap.size ≤ g) n41 _ _ _ ∧ Turn b v W _ wF ∧ Rd wF b B P _ x.2 d) := ⟨hr99, ht99, hd99⟩
              obtain ⟨⟨y0, y1, y2, y3, y4, y5, y6, y7⟩, _⟩ := nd_cells hx99
              obtain ⟨⟨r0, r1, r2, r3, r4, r5, r6, r7⟩, q0, q1, q2, q3, q4, q5, q6, q7⟩ := nd_cells HM41.out.res
              clear hx99 hr99 ht99 hd99
              go_wp2_with fail
              refine bodyPost_ret (v := .agg (ndA n41 (.slice aw m.ws.length cw) (.slice none 0 0) (.slice (some ⟨w39.heap.size, 0, none⟩) 1 1))) (by simp [results, Tryz.results128, go_sem, y0, y1, y2, y3, y4, y5, y6, y7, ndA]) rfl ?_
              rw [show Z = .ok (n41, x.2) from HOk.out]
              exact ⟨_, _, _, _, rfl, HF99.out.1, HF99.out.2.1, HF99.out.2.2⟩
            | false =>
              obtain ⟨t34, ht34⟩ : ∃ t, nx s' = t := ⟨_, rfl⟩
              have HT34 := Lib.hid ht34
              clear ht34
              have F340 := fld_tkV0 t34
              go_wp2_with fail
              refine (next_calls w33 b B _ v' s' d HM33.out.bx.rd).mono ?_
              rintro r w34 ⟨rfl, hb34⟩
              rw [show nx s' = t34 from HT34.out]
              have HM34 := Lib.hid (HM33.out.below hb34)
              clear hb34
              by_cases hk : t34.k = 3
              · have e1 : ((t34.k : Int) == 3) = true := by simp; omega
                have e2 : ((t34.k : Int) != 3) = false := by simp; omega
                have e3 : decide ((t34.k : Int) = 3) = true := by simp; omega
                have HK : Hid ((nx s').k = 3) := by show _ = _; rw [HT34.out]; exact hk
                clear hk
                have HZ35 : Hid (Z = bd (bodyM nest (lns (tk s'))) fun b s => .ok ({ k := 8, t := y.1, ws := ws, ks := [b], ln := ln }, s)) := by show _ = _; rw [HZ32.out, if_neg (fun h => h.2 HK.out)]
                go_wp2_with fail
                refine (take_calls w34 b B _ v' s' d HM34.out.bx.rd).mono ?_
                rintro r w36 ⟨rfl, ht36, hr36⟩
                have HM36 := Lib.hid (HM34.out.step ht36 hr36)
                clear ht36 hr36
                have HPh37 : Hid (ph (tk s') + 0 ≤ 80000) := by have hp0 := HPh90.out; have h8 := ph_tk s'; show _ ≤ _; omega
                go_wp2_with fail
                refine (lines_calls w36 b B _ v' (tk s') d HM36.out.bx.rd).mono ?_
                rintro r w38 ⟨rfl, ht38, hr38⟩
                have HM38 := Lib.hid (HM36.out.step ht38 hr38)
                clear ht38 hr38
                have HPh39 : Hid (ph (lns (tk s')) + 0 ≤ 80000) := by have hp0 := HPh37.out; have h8 := ph_lns (tk s'); show _ ≤ _; omega
                go_wp2_with fail
                refine (HBo.out w38 b B _ v' (lns (tk s')) HM38.out.bx.rd (HM38.out.free HP.out) (by have := HPh39.out; omega)).mono ?_
                rintro r w40 hp
                rcases post_cases hp with ⟨er, hXe, rfl, hb9⟩ | ⟨x, u9, v40, hXy, rfl, he, ht, hr⟩
                · have hz : Z = .error er := by rw [HZ35.out, hXe]; rfl
                  exact ⟨rfl, postN_error hz ((HM38.out.belowB HV.out).trans hb9)⟩
                have he' : u9 = .int .i64 (x.1 : Int) := he
                subst he'
                have HM40 := Lib.hid (HM38.out.step ht hr)
                have HX40 := Lib.hid hXy
                have HZ40 : Hid (Z = .ok ({ k := 8, t := y.1, ws := ws, ks := [x.1], ln := ln }, x.2)) := by show _ = _; rw [HZ35.out, hXy]; rfl
                have HPh41 : Hid (ph x.2 + 8 ≤ 80000) := by have hp0 := HPh39.out; have h8 := body_cost HE.out.cost (lns (tk s')) x hXy; show _ ≤ _; omega
                clear hp he ht hr hXy
                obtain ⟨wL42, w42, hwL42, hw42, hx8, hm9⟩ := HM40.out.new_k x.1
                have hwL42' : w40.alloc (.cells #[.int .i64 (x.1 : Int)] inT) = wL42 := hwL42
                obtain ⟨n42, hn2⟩ : ∃ n2 : Nd, { m with ks := [x.1] } = n2 := ⟨_, rfl⟩
                rw [hn2] at hm9
                have HN2 := Lib.hid hn2
                have HM42 := Lib.hid hm9
                obtain ⟨⟨x0, x1, x2, x3, x4, x5, x6, x7⟩, z0, z1, z2, z3, z4, z5, z6, z7⟩ := nd_cells hx8
                clear hwL42 hm9 hn2 hx8
                have HN42 := Lib.hid HN2.out
                clear HN2
                go_upto_region 23 with fail
                clear x0 x1 x2 x3 x4 x5 x6 x7 z0 z1 z2 z3 z4 z5 z6 z7
                obtain ⟨⟨x0, x1, x2, x3, x4, x5, x6, x7⟩, z0, z1, z2, z3, z4, z5, z6, z7⟩ := nd_cells HM42.out.bx.box
                have HOk : Hid (Z = .ok (n42, x.2)) := by show _ = _; (rw [HZ40.out, ← HN42.out, HMk.out, HN1.out, HN21.out, HN12.out, HN11.out, HN6.out, HN0.out]; try rfl)
                obtain ⟨wF, hwF, hx99, hr99, ht99, hd99⟩ := HM42.out.fin
                have HF99 : Hid (Rows wF (fun g => W.heap.size ≤ g) n42 _ _ _ ∧ Turn b v W _ wF ∧ Rd wF b B P _ x.2 d) := ⟨hr99, ht99, hd99⟩
                obtain ⟨⟨y0, y1, y2, y3, y4, y5, y6, y7⟩, _⟩ := nd_cells hx99
                obtain ⟨⟨r0, r1, r2, r3, r4, r5, r6, r7⟩, q0, q1, q2, q3, q4, q5, q6, q7⟩ := nd_cells HM42.out.res
                clear hx99 hr99 ht99 hd99
                go_wp2_with fail
                refine bodyPost_ret (v := .agg (ndA n42 (.slice aw m.ws.length cw) (.slice none 0 0) (.slice (some ⟨w40.heap.size, 0, none⟩) 1 1))) (by simp [results, Tryz.results128, go_sem, y0, y1, y2, y3, y4, y5, y6, y7, ndA]) rfl ?_
                rw [show Z = .ok (n42, x.2) from HOk.out]
                exact ⟨_, _, _, _, rfl, HF99.out.1, HF99.out.2.1, HF99.out.2.2⟩
              · have e1 : ((t34.k : Int) == 3) = false := by simp; omega
                have e2 : ((t34.k : Int) != 3) = true := by simp; omega
                have e3 : decide ((t34.k : Int) = 3) = false := by simp; omega
                have HK : Hid ((nx s').k ≠ 3) := by show _ ≠ _; rw [HT34.out]; exact hk
                clear hk
                go_wp2_with fail
                have HE35 : Hid (Z = er 20 s') := by show _ = _; rw [HZ32.out, if_pos ⟨Hzi33.out, HK.out⟩]
                refine (fail_calls w34 b B _ v' s' d HM34.out.bx.rd 20).mono ?_
                rintro r w35 ⟨rfl, hb35⟩
                exact ⟨rfl, postN_error HE35.out ((HM34.out.belowB HV.out).trans (hb35.mono HM34.out.bx.rd.size))⟩
end Go.Proofs.YtiklkhbfilbpeaaGreatDoor.Sx
