/-
  State: the law's 'of'. Conditions: as each contract says.
-/
import Derived.Test.YtnmlnaoljkhjeaaStOfLib
set_option linter.unusedVariables false
set_option maxRecDepth 100000
namespace Go.Proofs.Ytnmlnaoljkhjeaa
open Go.RowKit Base

theorem frameA_inv3 {W : World} {vs : List Value} {a : FrameD} (h : frameA W vs a) : ∃ (uk : List Value) (p9 p10 p11 : Option Addr) (k9 k10 k11 : Nat), vs = [.int .i64 a.1.1, .int .i64 a.1.2.1, .int .i64 a.1.2.2.1, .int .i64 a.1.2.2.2.1, .int .i64 a.1.2.2.2.2, .bool a.2.1, .int .i64 a.2.2.1, .int .i64 a.2.2.2.1, .string (str a.2.2.2.2.1), .slice p9 a.2.2.2.2.2.1.length k9, .slice p10 a.2.2.2.2.2.2.1.length k10, .slice p11 a.2.2.2.2.2.2.2.1.length k11] ++ uk ∧
    keepA W uk a.2.2.2.2.2.2.2.2 ∧ numsA W [.slice p9 a.2.2.2.2.2.1.length k9] a.2.2.2.2.2.1 ∧ strsA W [.slice p10 a.2.2.2.2.2.2.1.length k10] a.2.2.2.2.2.2.1 ∧ RowE 2 (flatH varV) W p11 k11 a.2.2.2.2.2.2.2.1 := by
  obtain ⟨_, _, rfl, _, rfl, ⟨_, _, rfl, _, rfl, ⟨_, _, rfl, _, rfl, ⟨_, _, rfl, _, rfl, ⟨_, _, rfl, _, rfl, ⟨_, _, rfl, _, ⟨p5, k5, rfl, m5, n5, e5⟩, ⟨_, _, rfl, _, ⟨p6, k6, rfl, m6, n6, e6⟩, ⟨_, us, rfl, _, ⟨p7, k7, rfl, m7, n7, e7⟩, hk⟩⟩⟩⟩⟩⟩⟩⟩ := h
  exact ⟨us, p5, p6, p7, k5, k6, k7, rfl, hk, ⟨_, _, rfl, m5, n5, e5⟩, ⟨_, _, rfl, m6, n6, e6⟩, ⟨m7, n7, e7⟩⟩
abbrev sZ : Array Value := #[.slice none 0 0, .slice none 0 0, .int .i64 0, .string ⟨#[]⟩, .slice none 0 0, .slice none 0 0, .slice none 0 0, .slice none 0 0, .slice none 0 0, .int .i64 0, .int .i64 0, .int .i64 0, .string ⟨#[]⟩, .slice none 0 0, .int .i64 0, .int .i64 0, .int .i64 0, .int .i64 0, .string ⟨#[]⟩, .slice none 0 0, .int .i64 0, .slice none 0 0, .slice none 0 0, .slice none 0 0, .int .i64 0]
theorem und_keep : (Try.prog.underlying 31).map TypeDesc.isRow = some true := by kernel_rfl
theorem keep_len_in (fd : FrameD) : (keepC.enc fd.2.2.2.2.2.2.2.2).length ≤ (frameC.enc fd).length := by
  unfold frameC
  simp only [pairC_len]
  omega
set_option maxHeartbeats 4000000 in
theorem of_calls (W : World) (vs : List Value) (s : StateD) (h : stateA W vs s) (hl : (stateC.enc s).length ≤ 100000000) :
    Calls Try.prog 12 #[.agg vs.toArray] W fun r w' => ∃ us : List Value, r = .returned (.agg us.toArray) ∧ us.length = 25 ∧ rStateA w' us s ∧ Below W.heap.size W w' := by
  have hfn : fewN s ≤ 100000000 := Nat.le_trans (few_ge s) hl
  unfold fewN headN at hfn
  have hl2 := hl
  unfold stateC at hl2
  simp only [pairC_len] at hl2
  have hfe : (encs frameC s.2.2.1).length ≤ ((rowC frameC).enc s.2.2.1).length := by
    show _ ≤ (intB _ ++ encs _ _).length
    rw [List.length_append]
    omega
  have HFE : Hid ((encs frameC s.2.2.1).length ≤ 100000000) := by show _ ≤ _; omega
  have HKE : Hid ((keepC.enc s.1).length ≤ 100000000) := by show _ ≤ _; omega
  have HN8 : Hid (s.2.2.1.length ≤ 100000000) := by show _ ≤ _; omega
  obtain ⟨uk, _, hvs, hukl, hk, ⟨u7, _, rfl, _, hout, ⟨_, _, rfl, _, ⟨p8, k8, rfl, m8, n8, e8⟩, ⟨uq, _, rfl, hql, hreq, ⟨ua, _, rfl, hal, hans, ⟨u21, _, rfl, _, hnums, ⟨_, _, rfl, _, rfl, ⟨_, _, rfl, _, rfl, hz⟩⟩⟩⟩⟩⟩⟩⟩ := h
  obtain ⟨p7, k7, rfl, _⟩ := id hout
  obtain ⟨p21, k21, rfl, _⟩ := id hnums
  obtain rfl := hz
  have hkl := keepA_len hk
  have hrl := reqA_len hreq
  have hanl := ansA_len hans
  obtain ⟨v0, v1, v2, v3, v4, v5, v6, rfl⟩ := list7 hkl
  obtain ⟨v9, v10, v11, v12, v13, rfl⟩ := list5 hrl
  obtain ⟨v14, v15, v16, v17, v18, v19, v20, rfl⟩ := list7 hanl
  have HVS : Hid (vs = [v0, v1, v2, v3, v4, v5, v6, .slice p7 s.2.1.length k7, .slice p8 s.2.2.1.length k8, v9, v10, v11, v12, v13, v14, v15, v16, v17, v18, v19, v20, .slice p21 s.2.2.2.2.2.1.length k21, .int .i64 s.2.2.2.2.2.2.1.1, .int .i64 s.2.2.2.2.2.2.1.2.1, .int .i64 s.2.2.2.2.2.2.1.2.2, .bool s.2.2.2.2.2.2.2.1.1, .bool s.2.2.2.2.2.2.2.1.2.1, .bool s.2.2.2.2.2.2.2.1.2.2, .int .i64 s.2.2.2.2.2.2.2.2]) := hvs
  have HKe := Lib.hid hk
  have HOut := Lib.hid hout
  have HReq := Lib.hid hreq
  have HAns := Lib.hid hans
  have HNums := Lib.hid hnums
  have HE8 : Hid (s.2.2.1.length ≤ k8 ∧ k8 ≤ maxLen ∧ (s.2.2.1 = [] ∨ ∃ b o, p8 = some ⟨b, o, none⟩ ∧ ∀ j (hj : j < s.2.2.1.length), ∃ us, us.length = 19 ∧ CellsAt W b (o + j * 19) us ∧ (∀ i, i < 19 → W.frozen? ⟨b, o + j * 19 + i, none⟩ = false) ∧ frameA W us s.2.2.1[j])) := ⟨m8, n8, e8⟩
  obtain ⟨w1, hw1, hc, hc2, hb1⟩ : ∃ w1, (W.alloc (.cells vs.toArray stT)).alloc (.cells sZ rST) = w1 ∧ Cut W.heap.size vs stT w1 ∧ Cut (W.heap.size + 1) sZ.toList rST w1 ∧ Below W.heap.size W w1 := by
    refine ⟨_, rfl, ?_, ?_, ?_⟩
    · exact (Below.heap_alloc _ _ _ (by rw [World.size_alloc]; omega)).trans (heap_alloc_new W _)
    · have := heap_alloc_new (W.alloc (.cells vs.toArray stT)) (.cells sZ rST)
      rw [World.size_alloc] at this
      exact this
    · have h1 := (Below.refl W.heap.size W).alloc (Nat.le_refl _) (.cells vs.toArray stT)
      exact h1.alloc h1.size _
  have HW : Hid ((W.alloc (.cells vs.toArray stT)).alloc (.cells #[.slice none 0 0, .slice none 0 0, .int .i64 0, .string ⟨#[]⟩, .slice none 0 0, .slice none 0 0, .slice none 0 0, .slice none 0 0, .slice none 0 0, .int .i64 0, .int .i64 0, .int .i64 0, .string ⟨#[]⟩, .slice none 0 0, .int .i64 0, .int .i64 0, .int .i64 0, .int .i64 0, .string ⟨#[]⟩, .slice none 0 0, .int .i64 0, .slice none 0 0, .slice none 0 0, .slice none 0 0, .int .i64 0] rST) = w1) := hw1
  have HC := Lib.hid hc
  have HC2 := Lib.hid hc2
  have HB1 := Lib.hid hb1
  obtain ⟨dd, hdu, hdr⟩ := Option.map_eq_some_iff.1 und_fr
  have HDu := Lib.hid hdu
  have HDr := Lib.hid hdr
  obtain ⟨dk, hku, hkr⟩ := Option.map_eq_some_iff.1 und_keep
  have HKu := Lib.hid hku
  have HKr := Lib.hid hkr
  clear hl hl2 hfe hfn hvs hukl hk hout m8 n8 e8 hql hreq hal hans hnums hkl hrl hanl hw1 hc hc2 hb1 hdu hdr hku hkr
  generalize hfr : s.2.2.1 = fr at *
  have HFR := Lib.hid hfr
  clear hfr
  go_enter Try.func12, Try.ntmps12
  go_upto_region 1 with fail
  rw [HW.out]
  obtain ⟨eb, heb⟩ : ∃ eb, W.heap.size = eb := ⟨_, rfl⟩
  rw [heb] at HC HC2 ⊢
  have HEb := Lib.hid heb
  clear heb
  have HC8 : Hid (vs[8]? = some (.slice p8 fr.length k8)) := by rw [HVS.out]; rfl
  go_wp2_with fail
  go_loopw [3, 4] (fun va vi wr => ∃ (K : Nat) (U : Value), K ≤ fr.length ∧ vi = .int .i64 K ∧ va = U ∧ FrsI w1.heap.size (eb + 1) wr U K fr ∧ Below w1.heap.size w1 wr) (fun _ vi _ => fr.length - (intOf vi).toNat)
  case atStart => exact ⟨0, _, Nat.zero_le _, rfl, rfl, frs_nil _ _ _ _, Below.refl _ _⟩
  case round =>
    obtain ⟨K, U, hK, rfl, hu, hI, hb⟩ := hrel
    rw [hu]
    clear hu
    have HBo := Lib.hid hb
    have HIo := Lib.hid hI
    clear hb hI
    have hc8 : wr.cell? ⟨eb, 8, none⟩ = some (.slice p8 fr.length k8) := (HBo.out.cell (p := ⟨eb, 8, none⟩) HC.out.lt).trans ((HC.out.cell 8).trans HC8.out)
    by_cases hlt : K < fr.length
    · obtain ⟨_, _, he⟩ := HE8.out
      obtain ⟨b, o, rfl, hel⟩ := he.resolve_left (fun e => by rw [e] at hlt; exact absurd hlt (Nat.not_lt_zero _))
      obtain ⟨us, hul, hcu, _, hA⟩ := hel K hlt
      have h1s := frameA_1 hA
      have hbl : b < W.heap.size := World.block_lt_of_cell? W _ (hcu 0 (by omega))
      have hWr : Below W.heap.size W wr := HB1.out.trans (HBo.out.mono HB1.out.size)
      have HRg : Hid (wr.rangeAt b (o + K * 19) us) := fun j v hv => by
        have hj : j < us.length := (List.getElem?_eq_some_iff.1 hv).1
        have := (hWr.cell (p := ⟨b, o + K * 19 + j, none⟩) hbl).trans (hcu j hj)
        rw [this, ← hv, List.getElem?_eq_getElem hj]
      obtain ⟨fb, wa, hwa, hfb, hca, hba⟩ : ∃ fb wa, wr.alloc (.cells frZ.toArray frT) = wa ∧ wr.heap.size = fb ∧ Cut fb frZ frT wa ∧ Below wr.heap.size wr wa := ⟨_, _, rfl, rfl, heap_alloc_new wr _, (Below.refl wr.heap.size wr).alloc (Nat.le_refl _) _⟩
      have HWa : Hid (wr.alloc (.cells #[.int .i64 0, .int .i64 0, .int .i64 0, .int .i64 0, .int .i64 0, .bool false, .int .i64 0, .int .i64 0, .string ⟨#[]⟩, .slice none 0 0, .slice none 0 0, .slice none 0 0, .slice none 0 0, .slice none 0 0, .int .i64 0, .string ⟨#[]⟩, .slice none 0 0, .slice none 0 0, .slice none 0 0] frT) = wa) := hwa
      have HFb := Lib.hid hfb
      have HCa := Lib.hid hca
      have HBa := Lib.hid hba
      have HUl := Lib.hid hul
      have HU1 := Lib.hid h1s.2
      have HA := Lib.hid hA
      have HKl : Hid ((keepC.enc fr[K].2.2.2.2.2.2.2.2).length ≤ 100000000) := by
        have h1 := encs_take frameC fr (K + 1)
        rw [encs_take_succ frameC hlt, List.length_append] at h1
        have h2 := keep_len_in fr[K]
        have h3 := HFE.out
        show _ ≤ _
        omega
      have HNl : Hid (fr[K].2.2.2.2.2.2.2.1.length ≤ 100000000) := by
        have h1 := encs_take frameC fr (K + 1)
        rw [encs_take_succ frameC hlt, List.length_append] at h1
        have h2 := frame_ge fr[K]
        unfold frameN at h2
        have h3 := HFE.out
        show _ ≤ _
        omega
      have hx := fun W => row_idx Try.underlying32 19 info_el_frame b o fr.length k8 K hlt W
      clear h1s hwa hfb hca hba hul hcu hel he hA hWr
      have hk9 : K ≤ 100000000 := by have := HN8.out; omega
      have u1 : decide ((K : Int) < (fr.length : Int)) = true := decide_eq_true (by omega)
      have u2 : (K : Int) < (fr.length : Int) := by omega
      have u3 : decide (K < fr.length) = true := decide_eq_true hlt
      go_upto_region 5 with fail
      go_upto_region 6 with (first | (refine wpList_load_mid rfl frT (.tmp 18) rfl b (o + K * 19) rfl us dd HRg.out HDu.out HDr.out (by rw [HUl.out]; exact info_fr) ?_) | (refine wpList_store_mid rfl frT (.tmp 5) (.tmp 19) rfl wr.heap.size 0 us.toArray rfl rfl (by rw [HWa.out, HFb.out]; exact there_cut HCa.out _ (by rw [List.size_toArray, HUl.out]; exact Nat.le_refl _)) (by rw [List.size_toArray, HUl.out]; exact info_fr) (all_oneCell_toArray HU1.out) ?_))
      rw [HWa.out, HFb.out]
      have HCs : Hid (Cut fb us frT (wa.setCells fb 0 us)) := set_cut HCa.out (by rw [HUl.out]; rfl)
      have HBs : Hid (Below wr.heap.size wr (wa.setCells fb 0 us)) := HBa.out.grown (Sl.setCells_grown fb us 0 wa) HBa.out.size (fun j hj => by have := Option.some.inj hj; have := HFb.out; omega)
      clear hc8 hx u1 u2 u3
      generalize wa.setCells fb 0 us = ws at *
      generalize wr = wo at *
      generalize hfd : fr[K] = fd at *
      have HFd : Hid (∀ h : K < fr.length, fr[K] = fd) := fun _ => hfd
      clear hfd
      obtain ⟨ukf, p9, p10, p11, k9, k10, k11, hus, hkf, hn9, hs10, he11⟩ := frameA_inv3 HA.out
      have HUs := Lib.hid hus
      have HKf := Lib.hid hkf
      have HN9 := Lib.hid hn9
      have HS10 := Lib.hid hs10
      have hWs : Below W.heap.size W ws := (HB1.out.trans (HBo.out.mono HB1.out.size)).trans (HBs.out.mono (Nat.le_trans HB1.out.size HBo.out.size))
      have HWs := Lib.hid hWs
      have HE11 := Lib.hid (he11.below (by decide) hWs)
      have HV11 : Hid (us[11]? = some (.slice p11 fd.2.2.2.2.2.2.2.1.length k11)) := by rw [HUs.out]; rfl
      clear hus hkf hn9 hs10 he11 hWs
      go_wp2_with fail
      go_loopw [6, 7] (fun va vi wr => ∃ (k : Nat) (u : Value), k ≤ (fd.2.2.2.2.2.2.2.1).length ∧ vi = .int .i64 k ∧ va = u ∧ wr.ownsRow ws.heap.size 93 2 u k (((fd.2.2.2.2.2.2.2.1).take k).flatMap varV) ∧ Below ws.heap.size ws wr) (fun _ vi _ => (fd.2.2.2.2.2.2.2.1).length - (intOf vi).toNat)
      case atStart => exact ⟨0, _, Nat.zero_le _, rfl, rfl, World.ownsRow_nil _ _ _ _, Below.refl _ _⟩
      case round =>
        obtain ⟨k, u, hk, rfl, hu, hown, hb⟩ := hrel
        rw [hu]
        clear hu
        have HB := Lib.hid hb
        have HO := Lib.hid hown
        clear hb hown
        have hcs : wr.cell? ⟨fb, 11, none⟩ = some (.slice p11 (fd.2.2.2.2.2.2.2.1).length k11) := (HB.out.cell (p := ⟨fb, 11, none⟩) (HCs.out).lt).trans (((HCs.out).cell 11).trans HV11.out)
        by_cases hlt : k < (fd.2.2.2.2.2.2.2.1).length
        · obtain ⟨bq, o, hpe, hbl, hcu⟩ := (HE11.out).at (by decide) hlt
          subst hpe
          have HKs := Lib.hid hcs
          have HX := Lib.hid (fun W => row_idx Try.underlying68 2 (by kernel_rfl) bq o (fd.2.2.2.2.2.2.2.1).length k11 k hlt W)
          have HF0 : Hid (wr.cell? ⟨bq, o + k * 2, none⟩ = some (.string (str ((fd.2.2.2.2.2.2.2.1)[k].1)))) := (HB.out.cell (p := ⟨bq, o + k * 2, none⟩) hbl).trans (hcu 0 (show 0 < 2 by decide))
          have HF1 : Hid (wr.cell? ⟨bq, o + k * 2 + 1, none⟩ = some (.string (str ((fd.2.2.2.2.2.2.2.1)[k].2)))) := (HB.out.cell (p := ⟨bq, o + k * 2 + 1, none⟩) hbl).trans (hcu 1 (show 1 < 2 by decide))
          have HT : Hid (((fd.2.2.2.2.2.2.2.1).take (k + 1)).flatMap varV = ((fd.2.2.2.2.2.2.2.1).take k).flatMap varV ++ varV (fd.2.2.2.2.2.2.2.1)[k]) := by show _ = _; rw [List.take_succ_eq_append_getElem hlt, List.flatMap_append]; simp
          clear hcu hcs
          generalize (fd.2.2.2.2.2.2.2.1)[k] = s at *
          obtain ⟨xs, hxs⟩ : ∃ x, ((fd.2.2.2.2.2.2.2.1).take k).flatMap varV = x := ⟨_, rfl⟩
          have HXs := Lib.hid hxs
          rw [hxs] at HO
          clear hxs
          have hk9 : k ≤ 100000000 := by have := HNl.out; omega
          have u1 : decide ((k : Int) < ((fd.2.2.2.2.2.2.2.1).length : Int)) = true := decide_eq_true (by omega)
          have u2 : (k : Int) < ((fd.2.2.2.2.2.2.2.1).length : Int) := by omega
          have u3 : decide (k < (fd.2.2.2.2.2.2.2.1).length) = true := decide_eq_true hlt
          have hcs := HKs.out
          go_upto_region 10 with fail
          clear u1 u2 u3 hcs
          have HLB : Hid (ws.heap.size ≤ wr.heap.size) := HB.out.size
          obtain ⟨i0, hi0, hz0', hz1, hz2⟩ : ∃ i, Try.prog.info? 93 = some i ∧ i.zero = some (.agg #[.string ⟨#[]⟩, .string ⟨#[]⟩]) ∧ i.size = 2 ∧ i.bytes = 32 := info_parts (by kernel_rfl)
          refine Rt.wp_region_rkt 16 [] [Rg.Is (u), Rg.Is (.pointer (some ⟨fb, 11, none⟩)), Rg.Is (.slice (some ⟨bq, o, none⟩) (fd.2.2.2.2.2.2.2.1).length k11), Rg.Is (.int .i64 (k : Int)), Rg.Is (.pointer (some ⟨bq, o + k * 2, none⟩)), Rg.Is (.pointer (some ⟨bq, o + k * 2, none⟩)), Rg.Is (.string (str (s.1))), Rg.Is (.pointer (some ⟨fb, 11, none⟩)), Rg.Is (.slice (some ⟨bq, o, none⟩) (fd.2.2.2.2.2.2.2.1).length k11), Rg.Is (.int .i64 (k : Int)), Rg.Is (.pointer (some ⟨bq, o + k * 2, none⟩)), Rg.Is (.pointer (some ⟨bq, o + k * 2 + 1, none⟩)), Rg.Is (.string (str (s.2))), Rg.Is (.agg #[.string (str (s.1)), .string (str (s.2))]), (fun u' x => ∃ b1, u' = .slice (some ⟨b1, 0, none⟩) 1 1 ∧ wr.heap.size ≤ b1 ∧ x.heap[b1]? = some (.cells #[.string (str (s.1)), .string (str (s.2))] 93)), (fun u' x => Apd wr u ws.heap.size 93 2 k xs [.string (str (s.1)), .string (str (s.2))] u' x)] (fun _ _ => True) (fun ls x => ls 15 = false → Below wr.heap.size wr x) (fun k x y => if k = 15 then x.grownBy y (Value.ownBlock (u)) else Below x.heap.size x y) (by kernel_rfl) (by kernel_rfl) (of_decide_eq_true (by kernel_rfl)) (by kernel_rfl) (by kernel_rfl) trivial (fun _ => ⟨rfl, rfl, rfl, Nat.le_refl _, fun _ _ => rfl⟩) (fun ls ls' x e h1 h2 => h1 (by rw [e]; exact h2)) (fun _ _ _ _ _ => trivial) (fun i ls x _ h1 => by rw [show ([] : List Bool).getD i true = true from rfl] at h1; cases h1) ?_ ⟨rfl, rfl, rfl, rfl, rfl, rfl, rfl, rfl, rfl, rfl, rfl, rfl, rfl, rfl, rfl, rfl, trivial⟩ ⟨?_, ?_, ?_, ?_, ?_, ?_, ?_, ?_, ?_, ?_, ?_, ?_, ?_, ?_, ?_, ?_, trivial⟩ ?_
          · intro i k u x y hik _ h1 hK
            match i, h1, hik with
            | 0, h1, _ => exact h1
            | 1, h1, _ => exact h1
            | 2, h1, _ => exact h1
            | 3, h1, _ => exact h1
            | 4, h1, _ => exact h1
            | 5, h1, _ => exact h1
            | 6, h1, _ => exact h1
            | 7, h1, _ => exact h1
            | 8, h1, _ => exact h1
            | 9, h1, _ => exact h1
            | 10, h1, _ => exact h1
            | 11, h1, _ => exact h1
            | 12, h1, _ => exact h1
            | 13, h1, _ => exact h1
            | 14, h1, hik =>
              obtain ⟨b1, h2, h3, h4⟩ := h1
              refine ⟨b1, h2, h3, ?_⟩
              have hg1 := (Array.getElem?_eq_some_iff.1 h4).1
              by_cases hk6 : k = 15
              · subst hk6
                rw [if_pos rfl] at hK
                exact (hK.block b1 hg1 (fun e => by have := (HO.out.lt _ e.symm).2; omega)).trans h4
              · rw [if_neg hk6] at hK
                exact (hK.block b1 hg1).trans h4
            | 15, h1, hik =>
              rw [if_neg (fun e => hik e.symm)] at hK
              exact h1.below hK
            | _ + 16, _, _ => trivial
          · intro _ b x ls hR hS hself hup hdn hk
            have h6 : b.eval (.tmp 6) = u := Eq.mp (by kernel_rfl) (hk 6 (by decide))
            have lA : ls 15 = false := hdn [] 15 _ rfl (by kernel_rfl)
            have hb := hS lA
            exact Rg.does_move ⟨by rw [if_neg (by decide)]; exact Below.refl _ _, h6, fun hh => hS hh⟩
          · intro _ b x ls hR hS hself hup hdn hk
            have h5 : b.eval (.tmp 5) = .pointer (some ⟨fb, 0, none⟩) := Eq.mp (by kernel_rfl) (hk 5 (by decide))
            have lA : ls 15 = false := hdn [14, 13, 6, 5, 4, 2] 15 _ rfl (by kernel_rfl)
            have hb := hS lA
            exact Rs.does_field _ _ h5 (show (Instr.fieldAt 70 (.pointer (some ⟨fb, 0, none⟩)) 11).run Try.prog x = .ok (.pointer (some ⟨fb, 11, none⟩)) x from rfl) ⟨by rw [if_neg (by decide)]; exact Below.refl _ _, rfl, fun hh => hS hh⟩
          · intro _ b x ls hR hS hself hup hdn hk
            have h28 : b.eval (.tmp 28) = .pointer (some ⟨fb, 11, none⟩) := Eq.mp (by kernel_rfl) (hk 28 (by decide))
            have lA : ls 15 = false := hdn [14, 13, 6, 5, 4] 15 _ rfl (by kernel_rfl)
            have hb := hS lA
            exact Rg.does_load _ _ h28 (Ap.load_plainP (by simp [isAgg]) (cell_below hb (Nat.le_refl _) HKs.out)) ⟨by rw [if_neg (by decide)]; exact Below.refl _ _, rfl, fun hh => hS hh⟩
          · intro _ b x ls hR hS hself hup hdn hk
            have h7 : b.eval (.tmp 7) = .int .i64 (k : Int) := Eq.mp (by kernel_rfl) (hk 7 (by decide))
            have lA : ls 15 = false := hdn [14, 13, 6, 5, 4] 15 _ rfl (by kernel_rfl)
            have hb := hS lA
            exact Rg.does_move ⟨by rw [if_neg (by decide)]; exact Below.refl _ _, h7, fun hh => hS hh⟩
          · intro _ b x ls hR hS hself hup hdn hk
            have h29 : b.eval (.tmp 29) = .slice (some ⟨bq, o, none⟩) (fd.2.2.2.2.2.2.2.1).length k11 := Eq.mp (by kernel_rfl) (hk 29 (by decide))
            have h30 : b.eval (.tmp 30) = .int .i64 (k : Int) := Eq.mp (by kernel_rfl) (hk 30 (by decide))
            have lA : ls 15 = false := hdn [14, 13, 6, 5] 15 _ rfl (by kernel_rfl)
            have hb := hS lA
            exact Rg.does_index _ _ _ h29 h30 (HX.out x) ⟨by rw [if_neg (by decide)]; exact Below.refl _ _, rfl, fun hh => hS hh⟩
          · intro _ b x ls hR hS hself hup hdn hk
            have h31 : b.eval (.tmp 31) = .pointer (some ⟨bq, o + k * 2, none⟩) := Eq.mp (by kernel_rfl) (hk 31 (by decide))
            have lA : ls 15 = false := hdn [14, 13, 6] 15 _ rfl (by kernel_rfl)
            have hb := hS lA
            exact Rs.does_field _ _ h31 (show (Instr.fieldAt 92 (.pointer (some ⟨bq, o + k * 2, none⟩)) 0).run Try.prog x = .ok (.pointer (some ⟨bq, o + k * 2, none⟩)) x from rfl) ⟨by rw [if_neg (by decide)]; exact Below.refl _ _, rfl, fun hh => hS hh⟩
          · intro _ b x ls hR hS hself hup hdn hk
            have h32 : b.eval (.tmp 32) = .pointer (some ⟨bq, o + k * 2, none⟩) := Eq.mp (by kernel_rfl) (hk 32 (by decide))
            have lA : ls 15 = false := hdn [14, 13] 15 _ rfl (by kernel_rfl)
            have hb := hS lA
            exact Rg.does_load _ _ h32 (Ap.load_plainP (by simp [isAgg]) (cell_below hb (Nat.le_refl _) HF0.out)) ⟨by rw [if_neg (by decide)]; exact Below.refl _ _, rfl, fun hh => hS hh⟩
          · intro _ b x ls hR hS hself hup hdn hk
            have h5 : b.eval (.tmp 5) = .pointer (some ⟨fb, 0, none⟩) := Eq.mp (by kernel_rfl) (hk 5 (by decide))
            have lA : ls 15 = false := hdn [14, 13, 12, 11, 10, 8] 15 _ rfl (by kernel_rfl)
            have hb := hS lA
            exact Rs.does_field _ _ h5 (show (Instr.fieldAt 70 (.pointer (some ⟨fb, 0, none⟩)) 11).run Try.prog x = .ok (.pointer (some ⟨fb, 11, none⟩)) x from rfl) ⟨by rw [if_neg (by decide)]; exact Below.refl _ _, rfl, fun hh => hS hh⟩
          · intro _ b x ls hR hS hself hup hdn hk
            have h34 : b.eval (.tmp 34) = .pointer (some ⟨fb, 11, none⟩) := Eq.mp (by kernel_rfl) (hk 34 (by decide))
            have lA : ls 15 = false := hdn [14, 13, 12, 11, 10] 15 _ rfl (by kernel_rfl)
            have hb := hS lA
            exact Rg.does_load _ _ h34 (Ap.load_plainP (by simp [isAgg]) (cell_below hb (Nat.le_refl _) HKs.out)) ⟨by rw [if_neg (by decide)]; exact Below.refl _ _, rfl, fun hh => hS hh⟩
          · intro _ b x ls hR hS hself hup hdn hk
            have h7 : b.eval (.tmp 7) = .int .i64 (k : Int) := Eq.mp (by kernel_rfl) (hk 7 (by decide))
            have lA : ls 15 = false := hdn [14, 13, 12, 11, 10] 15 _ rfl (by kernel_rfl)
            have hb := hS lA
            exact Rg.does_move ⟨by rw [if_neg (by decide)]; exact Below.refl _ _, h7, fun hh => hS hh⟩
          · intro _ b x ls hR hS hself hup hdn hk
            have h35 : b.eval (.tmp 35) = .slice (some ⟨bq, o, none⟩) (fd.2.2.2.2.2.2.2.1).length k11 := Eq.mp (by kernel_rfl) (hk 35 (by decide))
            have h36 : b.eval (.tmp 36) = .int .i64 (k : Int) := Eq.mp (by kernel_rfl) (hk 36 (by decide))
            have lA : ls 15 = false := hdn [14, 13, 12, 11] 15 _ rfl (by kernel_rfl)
            have hb := hS lA
            exact Rg.does_index _ _ _ h35 h36 (HX.out x) ⟨by rw [if_neg (by decide)]; exact Below.refl _ _, rfl, fun hh => hS hh⟩
          · intro _ b x ls hR hS hself hup hdn hk
            have h37 : b.eval (.tmp 37) = .pointer (some ⟨bq, o + k * 2, none⟩) := Eq.mp (by kernel_rfl) (hk 37 (by decide))
            have lA : ls 15 = false := hdn [14, 13, 12] 15 _ rfl (by kernel_rfl)
            have hb := hS lA
            exact Rs.does_field _ _ h37 (show (Instr.fieldAt 92 (.pointer (some ⟨bq, o + k * 2, none⟩)) 1).run Try.prog x = .ok (.pointer (some ⟨bq, o + k * 2 + 1, none⟩)) x from rfl) ⟨by rw [if_neg (by decide)]; exact Below.refl _ _, rfl, fun hh => hS hh⟩
          · intro _ b x ls hR hS hself hup hdn hk
            have h38 : b.eval (.tmp 38) = .pointer (some ⟨bq, o + k * 2 + 1, none⟩) := Eq.mp (by kernel_rfl) (hk 38 (by decide))
            have lA : ls 15 = false := hdn [14, 13] 15 _ rfl (by kernel_rfl)
            have hb := hS lA
            exact Rg.does_load _ _ h38 (Ap.load_plainP (by simp [isAgg]) (cell_below hb (Nat.le_refl _) HF1.out)) ⟨by rw [if_neg (by decide)]; exact Below.refl _ _, rfl, fun hh => hS hh⟩
          · intro _ b x ls hR hS hself hup hdn hk
            have h33 : b.eval (.tmp 33) = .string (str (s.1)) := Eq.mp (by kernel_rfl) (hk 33 (by decide))
            have h39 : b.eval (.tmp 39) = .string (str (s.2)) := Eq.mp (by kernel_rfl) (hk 39 (by decide))
            have lA : ls 15 = false := hdn [14] 15 _ rfl (by kernel_rfl)
            have hb := hS lA
            exact Ap.does_buildS #[(0, .string (str (s.1))), (1, .string (str (s.2)))] (.agg #[.string (str (s.1)), .string (str (s.2))]) (by simp [h33, h39]) (by go_simp) ⟨by rw [if_neg (by decide)]; exact Below.refl _ _, rfl, fun hh => hS hh⟩
          · intro _ b x ls hR hS hself hup hdn hk
            have h40 : b.eval (.tmp 40) = .agg #[.string (str (s.1)), .string (str (s.2))] := Eq.mp (by kernel_rfl) (hk 40 (by decide))
            have lA : ls 15 = false := hdn [] 15 _ rfl (by kernel_rfl)
            have hb := hS lA
            have hal := (Below.refl x.heap.size x).alloc (Nat.le_refl _) (.cells #[.string (str (s.1)), .string (str (s.2))] 93)
            exact Rg.does_build #[(0, .agg #[.string (str (s.1)), .string (str (s.2))])] _ (by simp [h40]) (by go_simp) ⟨by rw [if_neg (by decide)]; exact hal, ⟨x.heap.size, rfl, hb.size, heap_alloc_new x _⟩, fun hh => hb.trans (hal.mono hb.size)⟩
          · intro _ b x ls hR hS hself hup hdn hk
            have h27 : b.eval (.tmp 27) = u := Eq.mp (by kernel_rfl) (hk 27 (by decide))
            have h41 : (fun u' x => ∃ b1, u' = .slice (some ⟨b1, 0, none⟩) 1 1 ∧ wr.heap.size ≤ b1 ∧ x.heap[b1]? = some (.cells #[.string (str (s.1)), .string (str (s.2))] 93)) (b.eval (.tmp 41)) x := Eq.mp (by kernel_rfl) (hk 41 (by decide))
            have hb := hS hself
            obtain ⟨b1, h2, h3, h4⟩ := h41
            have hown : World.ownsRow x ws.heap.size 93 2 u k xs := ownsRow_below HO.out hb
            obtain ⟨v', w', hrun, hown', hgr, hat⟩ := Ap.run_append_at (P := Try.prog) x ws.heap.size 84 84 84 93 i0 _ 2 32 Try.underlying84 (append_side Try.underlying84) hi0 hz0' hz1 hz2 rfl (by decide) (by decide) u k xs hown (.slice (some ⟨b1, 0, none⟩) 1 1) 1 [.string (str (s.1)), .string (str (s.2))] (src_cells (b := b1) (off := 0) rfl (by simp [Value.oneCell']) (.inr rfl) (fun j u1 hu1 => by simp only [World.cell?, h4, Nat.zero_add]; simpa using hu1)) (by unfold maxLen; omega) (by omega) (Nat.le_trans HLB.out hb.size)
            exact Ap.does_append u _ v' w' h27 h2 hrun ⟨by rw [if_pos rfl]; exact hgr, ⟨hown', x, hb, hgr, hat⟩, fun hh => by simp [Rs.upd] at hh⟩
          · intro vals wD ls _ hSD _ hL
            obtain ⟨g0, g1, g2, g3, g4, g5, g6, g7, g8, g9, g10, g11, g12, g13, g14, g15, _⟩ := hL
            have hap : Apd wr u ws.heap.size 93 2 k xs [.string (str (s.1)), .string (str (s.2))] (vals 15) wD := g15
            simp only [Rg.putAll, List.take_succ_cons, List.take_zero, List.drop_succ_cons, List.drop_zero, List.setIfInBounds_toArray, List.set_cons_succ, List.set_cons_zero]
            clear g0 g1 g2 g3 g4 g5 g6 g7 g8 g9 g10 g11 g12 g13 g14 g15
            generalize vals 15 = u2 at *
            obtain ⟨ho2, wa, hba, hga, hat⟩ := hap
            have HB2 : Hid (Below ws.heap.size ws wD) := (HB.out.trans (hba.mono HB.out.size)).grown hga (Nat.le_trans HB.out.size hba.size) (fun j hj => (HO.out.lt j hj).1)
            have HO2 : Hid (wD.ownsRow ws.heap.size 93 2 u2 (k + 1) (((fd.2.2.2.2.2.2.2.1).take (k + 1)).flatMap varV)) := by show World.ownsRow _ _ _ _ _ _ _; rw [HT.out, HXs.out]; exact ho2
            clear ho2 hba hga hat
            go_wp2_with fail
            go_roundw
            case rel => exact ⟨k + 1, _, by omega, by go_num, rfl, HO2.out, HB2.out⟩
            case measure => simp [intOf]; omega
        · obtain rfl : k = (fd.2.2.2.2.2.2.2.1).length := by omega
          have u1 : decide (((fd.2.2.2.2.2.2.2.1).length : Int) < ((fd.2.2.2.2.2.2.2.1).length : Int)) = false := decide_eq_false (by omega)
          have u2 : ¬ (((fd.2.2.2.2.2.2.2.1).length : Int) < ((fd.2.2.2.2.2.2.2.1).length : Int)) := by omega
          have u3 : decide ((fd.2.2.2.2.2.2.2.1).length < (fd.2.2.2.2.2.2.2.1).length) = false := decide_eq_false (by omega)
          have HO11 : Hid (wr.ownsRow ws.heap.size 93 2 u fd.2.2.2.2.2.2.2.1.length (fd.2.2.2.2.2.2.2.1.flatMap varV)) := by have h9 := HO.out; rwa [List.take_length] at h9
          obtain ⟨ar, cr, rfl, _, _, _, _⟩ := ownsRow_slice HO11.out
          have HBww : Hid (Below wo.heap.size wo wr) := HBs.out.trans (HB.out.mono HBs.out.size)
          have HB1w : Hid (Below w1.heap.size w1 wr) := HBo.out.trans (HBww.out.mono HBo.out.size)
          have HWw : Hid (Below W.heap.size W wr) := HB1.out.trans (HB1w.out.mono HB1.out.size)
          have HCr : Hid (Cut fb us frT wr) := cut_below HCs.out HB.out
          have HIw : Hid (FrsI w1.heap.size (eb + 1) wr U K fr) := HIo.out.below HBww.out
          obtain ⟨xs, hown, hsafe⟩ := HIw.out
          have HOU := Lib.hid hown
          have HSU := Lib.hid hsafe
          obtain ⟨_, hown2, _⟩ := HIo.out
          have HZ : Hid (∀ j, (U.ownBlock = some j ∨ j = eb + 1) → W.heap.size ≤ j ∧ j < ws.heap.size) := by
            rintro j (hj | rfl)
            · have h1 := hown2.lt j hj
              have h2 := HB1.out.size
              have h3 := HBs.out.size
              omega
            · have h1 := HEb.out
              have h2 := HC2.out.lt
              have h3 := HBo.out.size
              have h4 := HBs.out.size
              omega
          clear hown hown2 hsafe HO
          go_upto_region 11 with fail
          clear u1 u2 u3 hcs
          have HLB : Hid (w1.heap.size ≤ wr.heap.size) := HB1w.out.size
          obtain ⟨i0, hi0, hz0', hz1, hz2⟩ : ∃ i, Try.prog.info? rFT = some i ∧ i.zero = some (.agg #[.slice none 0 0, .bool false, .int .i64 0, .int .i64 0, .string ⟨#[]⟩, .slice none 0 0, .slice none 0 0, .slice none 0 0, .slice none 0 0, .slice none 0 0, .int .i64 0, .string ⟨#[]⟩, .slice none 0 0, .slice none 0 0, .slice none 0 0]) ∧ i.size = 15 ∧ i.bytes = 280 := info_parts (by kernel_rfl)
          refine Rt.wp_region_rkt 31 [] [Rg.Is (U), Rg.Is (.pointer (some ⟨fb, 0, none⟩)), Rg.Is (.int .i64 fd.1.1), Rg.Is (.pointer (some ⟨fb, 1, none⟩)), Rg.Is (.int .i64 fd.1.2.1), Rg.Is (.pointer (some ⟨fb, 2, none⟩)), Rg.Is (.int .i64 fd.1.2.2.1), Rg.Is (.pointer (some ⟨fb, 3, none⟩)), Rg.Is (.int .i64 fd.1.2.2.2.1), Rg.Is (.pointer (some ⟨fb, 4, none⟩)), Rg.Is (.int .i64 fd.1.2.2.2.2), (fun u' x => ∃ b1, u' = .slice (some ⟨b1, 0, none⟩) 5 5 ∧ wr.heap.size ≤ b1 ∧ x.heap[b1]? = some (.cells #[.int .i64 fd.1.1, .int .i64 fd.1.2.1, .int .i64 fd.1.2.2.1, .int .i64 fd.1.2.2.2.1, .int .i64 fd.1.2.2.2.2] 3)), Rg.Is (.pointer (some ⟨fb, 5, none⟩)), Rg.Is (.bool fd.2.1), Rg.Is (.pointer (some ⟨fb, 6, none⟩)), Rg.Is (.int .i64 fd.2.2.1), Rg.Is (.pointer (some ⟨fb, 7, none⟩)), Rg.Is (.int .i64 fd.2.2.2.1), Rg.Is (.pointer (some ⟨fb, 8, none⟩)), Rg.Is (.string (str fd.2.2.2.2.1)), Rg.Is (.pointer (some ⟨fb, 9, none⟩)), Rg.Is (.slice p9 fd.2.2.2.2.2.1.length k9), Rg.Is (.pointer (some ⟨fb, 10, none⟩)), Rg.Is (.slice p10 fd.2.2.2.2.2.2.1.length k10), Rg.Is (.slice ar fd.2.2.2.2.2.2.2.1.length cr), Rg.Is (.pointer (some ⟨fb, 12, none⟩)), Rg.Is (.agg ukf.toArray), (fun u' x => ∃ ks : List Value, u' = .agg ks.toArray ∧ ks.length = 7 ∧ Safe (fun i => U.ownBlock = some i ∨ i = eb + 1) keepA x ks fd.2.2.2.2.2.2.2.2), (fun u' x => ∃ cs : List Value, u' = .agg cs.toArray ∧ cs.length = 15 ∧ (∀ v ∈ cs, v.oneCell' = true) ∧ Safe (fun i => U.ownBlock = some i ∨ i = eb + 1) rFrameA x cs fd), (fun u' x => ∃ b1, u' = .slice (some ⟨b1, 0, none⟩) 1 1 ∧ wr.heap.size ≤ b1 ∧ ∃ cs : List Value, x.heap[b1]? = some (.cells cs.toArray rFT) ∧ cs.length = 15 ∧ (∀ v ∈ cs, v.oneCell' = true) ∧ Safe (fun i => U.ownBlock = some i ∨ i = eb + 1) rFrameA x cs fd), (fun u' x => ∃ cs : List Value, cs.length = 15 ∧ Apd wr U w1.heap.size rFT 15 K xs cs u' x ∧ Safe (fun i => u'.ownBlock = some i ∨ i = eb + 1) rFrameA x cs fd)] (fun _ _ => True) (fun ls x => ls 30 = false → Below wr.heap.size wr x) (fun k x y => if k = 30 then x.grownBy y (Value.ownBlock (U)) else Below x.heap.size x y) (by kernel_rfl) (by kernel_rfl) (of_decide_eq_true (by kernel_rfl)) (by kernel_rfl) (by kernel_rfl) trivial (fun _ => ⟨rfl, rfl, rfl, Nat.le_refl _, fun _ _ => rfl⟩) (fun ls ls' x e h1 h2 => h1 (by rw [e]; exact h2)) (fun _ _ _ _ _ => trivial) (fun i ls x _ h1 => by rw [show ([] : List Bool).getD i true = true from rfl] at h1; cases h1) ?_ ⟨rfl, rfl, rfl, rfl, rfl, rfl, rfl, rfl, rfl, rfl, rfl, rfl, rfl, rfl, rfl, rfl, rfl, rfl, rfl, rfl, rfl, rfl, rfl, rfl, rfl, rfl, rfl, rfl, rfl, rfl, rfl, trivial⟩ ⟨?_, ?_, ?_, ?_, ?_, ?_, ?_, ?_, ?_, ?_, ?_, ?_, ?_, ?_, ?_, ?_, ?_, ?_, ?_, ?_, ?_, ?_, ?_, ?_, ?_, ?_, ?_, ?_, ?_, ?_, ?_, trivial⟩ ?_
          · intro i k u x y hik _ h1 hK
            match i, h1, hik with
            | 0, h1, _ => exact h1
            | 1, h1, _ => exact h1
            | 2, h1, _ => exact h1
            | 3, h1, _ => exact h1
            | 4, h1, _ => exact h1
            | 5, h1, _ => exact h1
            | 6, h1, _ => exact h1
            | 7, h1, _ => exact h1
            | 8, h1, _ => exact h1
            | 9, h1, _ => exact h1
            | 10, h1, _ => exact h1
            | 11, h1, hik =>
              obtain ⟨b1, h2, h3, h4⟩ := h1
              refine ⟨b1, h2, h3, ?_⟩
              have hg1 := (Array.getElem?_eq_some_iff.1 h4).1
              by_cases hk6 : k = 30
              · subst hk6
                rw [if_pos rfl] at hK
                exact (hK.block b1 hg1 (fun e => by have := (HOU.out.lt _ e.symm).2; omega)).trans h4
              · rw [if_neg hk6] at hK
                exact (hK.block b1 hg1).trans h4
            | 12, h1, _ => exact h1
            | 13, h1, _ => exact h1
            | 14, h1, _ => exact h1
            | 15, h1, _ => exact h1
            | 16, h1, _ => exact h1
            | 17, h1, _ => exact h1
            | 18, h1, _ => exact h1
            | 19, h1, _ => exact h1
            | 20, h1, _ => exact h1
            | 21, h1, _ => exact h1
            | 22, h1, _ => exact h1
            | 23, h1, _ => exact h1
            | 24, h1, _ => exact h1
            | 25, h1, _ => exact h1
            | 26, h1, _ => exact h1
            | 27, h1, hik =>
              obtain ⟨ks, h2, h3, h9⟩ := h1
              refine ⟨ks, h2, h3, ?_⟩
              by_cases hk6 : k = 30
              · subst hk6
                rw [if_pos rfl] at hK
                exact h9.grow hK (fun j e2 => .inl e2) (fun j hj _ => hj)
              · rw [if_neg hk6] at hK
                exact h9.below hK
            | 28, h1, hik =>
              obtain ⟨cs, h2, h3, h4, h9⟩ := h1
              refine ⟨cs, h2, h3, h4, ?_⟩
              by_cases hk6 : k = 30
              · subst hk6
                rw [if_pos rfl] at hK
                exact h9.grow hK (fun j e2 => .inl e2) (fun j hj _ => hj)
              · rw [if_neg hk6] at hK
                exact h9.below hK
            | 29, h1, hik =>
              obtain ⟨b1, h2, h3, cs, h4, h5, h6, h9⟩ := h1
              refine ⟨b1, h2, h3, cs, ?_, h5, h6, ?_⟩
              · have hg1 := (Array.getElem?_eq_some_iff.1 h4).1
                by_cases hk6 : k = 30
                · subst hk6
                  rw [if_pos rfl] at hK
                  exact (hK.block b1 hg1 (fun e => by have := (HOU.out.lt _ e.symm).2; omega)).trans h4
                · rw [if_neg hk6] at hK
                  exact (hK.block b1 hg1).trans h4
              · by_cases hk6 : k = 30
                · subst hk6
                  rw [if_pos rfl] at hK
                  exact h9.grow hK (fun j e2 => .inl e2) (fun j hj _ => hj)
                · rw [if_neg hk6] at hK
                  exact h9.below hK
            | 30, h1, hik =>
              rw [if_neg (fun e => hik e.symm)] at hK
              obtain ⟨cs, g1, g2, g3⟩ := h1
              exact ⟨cs, g1, g2.below hK, g3.below hK⟩
            | _ + 31, _, _ => trivial
          · intro _ b x ls hR hS hself hup hdn hk
            have h3 : b.eval (.tmp 3) = U := Eq.mp (by kernel_rfl) (hk 3 (by decide))
            have lA : ls 30 = false := hdn [] 30 _ rfl (by kernel_rfl)
            have hb := hS lA
            exact Rg.does_move ⟨by rw [if_neg (by decide)]; exact Below.refl _ _, h3, fun hh => hS hh⟩
          · intro _ b x ls hR hS hself hup hdn hk
            have h5 : b.eval (.tmp 5) = .pointer (some ⟨fb, 0, none⟩) := Eq.mp (by kernel_rfl) (hk 5 (by decide))
            have lA : ls 30 = false := hdn [29, 28, 11, 2] 30 _ rfl (by kernel_rfl)
            have hb := hS lA
            exact Rs.does_field _ _ h5 (show (Instr.fieldAt 70 (.pointer (some ⟨fb, 0, none⟩)) 0).run Try.prog x = .ok (.pointer (some ⟨fb, 0, none⟩)) x from rfl) ⟨by rw [if_neg (by decide)]; exact Below.refl _ _, rfl, fun hh => hS hh⟩
          · intro _ b x ls hR hS hself hup hdn hk
            have h44 : b.eval (.tmp 44) = .pointer (some ⟨fb, 0, none⟩) := Eq.mp (by kernel_rfl) (hk 44 (by decide))
            have lA : ls 30 = false := hdn [29, 28, 11] 30 _ rfl (by kernel_rfl)
            have hb := hS lA
            exact Rg.does_load _ _ h44 (Ap.load_plainP (by simp [isAgg]) (cell_below hb (Nat.le_refl _) ((HCr.out.cell 0).trans (by rw [HUs.out]; rfl)))) ⟨by rw [if_neg (by decide)]; exact Below.refl _ _, rfl, fun hh => hS hh⟩
          · intro _ b x ls hR hS hself hup hdn hk
            have h5 : b.eval (.tmp 5) = .pointer (some ⟨fb, 0, none⟩) := Eq.mp (by kernel_rfl) (hk 5 (by decide))
            have lA : ls 30 = false := hdn [29, 28, 11, 4] 30 _ rfl (by kernel_rfl)
            have hb := hS lA
            exact Rs.does_field _ _ h5 (show (Instr.fieldAt 70 (.pointer (some ⟨fb, 0, none⟩)) 1).run Try.prog x = .ok (.pointer (some ⟨fb, 1, none⟩)) x from rfl) ⟨by rw [if_neg (by decide)]; exact Below.refl _ _, rfl, fun hh => hS hh⟩
          · intro _ b x ls hR hS hself hup hdn hk
            have h46 : b.eval (.tmp 46) = .pointer (some ⟨fb, 1, none⟩) := Eq.mp (by kernel_rfl) (hk 46 (by decide))
            have lA : ls 30 = false := hdn [29, 28, 11] 30 _ rfl (by kernel_rfl)
            have hb := hS lA
            exact Rg.does_load _ _ h46 (Ap.load_plainP (by simp [isAgg]) (cell_below hb (Nat.le_refl _) ((HCr.out.cell 1).trans (by rw [HUs.out]; rfl)))) ⟨by rw [if_neg (by decide)]; exact Below.refl _ _, rfl, fun hh => hS hh⟩
          · intro _ b x ls hR hS hself hup hdn hk
            have h5 : b.eval (.tmp 5) = .pointer (some ⟨fb, 0, none⟩) := Eq.mp (by kernel_rfl) (hk 5 (by decide))
            have lA : ls 30 = false := hdn [29, 28, 11, 6] 30 _ rfl (by kernel_rfl)
            have hb := hS lA
            exact Rs.does_field _ _ h5 (show (Instr.fieldAt 70 (.pointer (some ⟨fb, 0, none⟩)) 2).run Try.prog x = .ok (.pointer (some ⟨fb, 2, none⟩)) x from rfl) ⟨by rw [if_neg (by decide)]; exact Below.refl _ _, rfl, fun hh => hS hh⟩
          · intro _ b x ls hR hS hself hup hdn hk
            have h48 : b.eval (.tmp 48) = .pointer (some ⟨fb, 2, none⟩) := Eq.mp (by kernel_rfl) (hk 48 (by decide))
            have lA : ls 30 = false := hdn [29, 28, 11] 30 _ rfl (by kernel_rfl)
            have hb := hS lA
            exact Rg.does_load _ _ h48 (Ap.load_plainP (by simp [isAgg]) (cell_below hb (Nat.le_refl _) ((HCr.out.cell 2).trans (by rw [HUs.out]; rfl)))) ⟨by rw [if_neg (by decide)]; exact Below.refl _ _, rfl, fun hh => hS hh⟩
          · intro _ b x ls hR hS hself hup hdn hk
            have h5 : b.eval (.tmp 5) = .pointer (some ⟨fb, 0, none⟩) := Eq.mp (by kernel_rfl) (hk 5 (by decide))
            have lA : ls 30 = false := hdn [29, 28, 11, 8] 30 _ rfl (by kernel_rfl)
            have hb := hS lA
            exact Rs.does_field _ _ h5 (show (Instr.fieldAt 70 (.pointer (some ⟨fb, 0, none⟩)) 3).run Try.prog x = .ok (.pointer (some ⟨fb, 3, none⟩)) x from rfl) ⟨by rw [if_neg (by decide)]; exact Below.refl _ _, rfl, fun hh => hS hh⟩
          · intro _ b x ls hR hS hself hup hdn hk
            have h50 : b.eval (.tmp 50) = .pointer (some ⟨fb, 3, none⟩) := Eq.mp (by kernel_rfl) (hk 50 (by decide))
            have lA : ls 30 = false := hdn [29, 28, 11] 30 _ rfl (by kernel_rfl)
            have hb := hS lA
            exact Rg.does_load _ _ h50 (Ap.load_plainP (by simp [isAgg]) (cell_below hb (Nat.le_refl _) ((HCr.out.cell 3).trans (by rw [HUs.out]; rfl)))) ⟨by rw [if_neg (by decide)]; exact Below.refl _ _, rfl, fun hh => hS hh⟩
          · intro _ b x ls hR hS hself hup hdn hk
            have h5 : b.eval (.tmp 5) = .pointer (some ⟨fb, 0, none⟩) := Eq.mp (by kernel_rfl) (hk 5 (by decide))
            have lA : ls 30 = false := hdn [29, 28, 11, 10] 30 _ rfl (by kernel_rfl)
            have hb := hS lA
            exact Rs.does_field _ _ h5 (show (Instr.fieldAt 70 (.pointer (some ⟨fb, 0, none⟩)) 4).run Try.prog x = .ok (.pointer (some ⟨fb, 4, none⟩)) x from rfl) ⟨by rw [if_neg (by decide)]; exact Below.refl _ _, rfl, fun hh => hS hh⟩
          · intro _ b x ls hR hS hself hup hdn hk
            have h52 : b.eval (.tmp 52) = .pointer (some ⟨fb, 4, none⟩) := Eq.mp (by kernel_rfl) (hk 52 (by decide))
            have lA : ls 30 = false := hdn [29, 28, 11] 30 _ rfl (by kernel_rfl)
            have hb := hS lA
            exact Rg.does_load _ _ h52 (Ap.load_plainP (by simp [isAgg]) (cell_below hb (Nat.le_refl _) ((HCr.out.cell 4).trans (by rw [HUs.out]; rfl)))) ⟨by rw [if_neg (by decide)]; exact Below.refl _ _, rfl, fun hh => hS hh⟩
          · intro _ b x ls hR hS hself hup hdn hk
            have h45 : b.eval (.tmp 45) = .int .i64 fd.1.1 := Eq.mp (by kernel_rfl) (hk 45 (by decide))
            have h47 : b.eval (.tmp 47) = .int .i64 fd.1.2.1 := Eq.mp (by kernel_rfl) (hk 47 (by decide))
            have h49 : b.eval (.tmp 49) = .int .i64 fd.1.2.2.1 := Eq.mp (by kernel_rfl) (hk 49 (by decide))
            have h51 : b.eval (.tmp 51) = .int .i64 fd.1.2.2.2.1 := Eq.mp (by kernel_rfl) (hk 51 (by decide))
            have h53 : b.eval (.tmp 53) = .int .i64 fd.1.2.2.2.2 := Eq.mp (by kernel_rfl) (hk 53 (by decide))
            have lA : ls 30 = false := hdn [29, 28] 30 _ rfl (by kernel_rfl)
            have hb := hS lA
            have hal := (Below.refl x.heap.size x).alloc (Nat.le_refl _) (.cells #[.int .i64 fd.1.1, .int .i64 fd.1.2.1, .int .i64 fd.1.2.2.1, .int .i64 fd.1.2.2.2.1, .int .i64 fd.1.2.2.2.2] 3)
            exact Rg.does_build #[(0, .int .i64 fd.1.1), (1, .int .i64 fd.1.2.1), (2, .int .i64 fd.1.2.2.1), (3, .int .i64 fd.1.2.2.2.1), (4, .int .i64 fd.1.2.2.2.2)] _ (by simp [h45, h47, h49, h51, h53]) (bs_5 x _ _ _ _ _) ⟨by rw [if_neg (by decide)]; exact hal, ⟨x.heap.size, rfl, hb.size, heap_alloc_new x _⟩, fun hh => hb.trans (hal.mono hb.size)⟩
          · intro _ b x ls hR hS hself hup hdn hk
            have h5 : b.eval (.tmp 5) = .pointer (some ⟨fb, 0, none⟩) := Eq.mp (by kernel_rfl) (hk 5 (by decide))
            have lA : ls 30 = false := hdn [29, 28, 13] 30 _ rfl (by kernel_rfl)
            have hb := hS lA
            exact Rs.does_field _ _ h5 (show (Instr.fieldAt 70 (.pointer (some ⟨fb, 0, none⟩)) 5).run Try.prog x = .ok (.pointer (some ⟨fb, 5, none⟩)) x from rfl) ⟨by rw [if_neg (by decide)]; exact Below.refl _ _, rfl, fun hh => hS hh⟩
          · intro _ b x ls hR hS hself hup hdn hk
            have h55 : b.eval (.tmp 55) = .pointer (some ⟨fb, 5, none⟩) := Eq.mp (by kernel_rfl) (hk 55 (by decide))
            have lA : ls 30 = false := hdn [29, 28] 30 _ rfl (by kernel_rfl)
            have hb := hS lA
            exact Rg.does_load _ _ h55 (Ap.load_plainP (by simp [isAgg]) (cell_below hb (Nat.le_refl _) ((HCr.out.cell 5).trans (by rw [HUs.out]; rfl)))) ⟨by rw [if_neg (by decide)]; exact Below.refl _ _, rfl, fun hh => hS hh⟩
          · intro _ b x ls hR hS hself hup hdn hk
            have h5 : b.eval (.tmp 5) = .pointer (some ⟨fb, 0, none⟩) := Eq.mp (by kernel_rfl) (hk 5 (by decide))
            have lA : ls 30 = false := hdn [29, 28, 15] 30 _ rfl (by kernel_rfl)
            have hb := hS lA
            exact Rs.does_field _ _ h5 (show (Instr.fieldAt 70 (.pointer (some ⟨fb, 0, none⟩)) 6).run Try.prog x = .ok (.pointer (some ⟨fb, 6, none⟩)) x from rfl) ⟨by rw [if_neg (by decide)]; exact Below.refl _ _, rfl, fun hh => hS hh⟩
          · intro _ b x ls hR hS hself hup hdn hk
            have h57 : b.eval (.tmp 57) = .pointer (some ⟨fb, 6, none⟩) := Eq.mp (by kernel_rfl) (hk 57 (by decide))
            have lA : ls 30 = false := hdn [29, 28] 30 _ rfl (by kernel_rfl)
            have hb := hS lA
            exact Rg.does_load _ _ h57 (Ap.load_plainP (by simp [isAgg]) (cell_below hb (Nat.le_refl _) ((HCr.out.cell 6).trans (by rw [HUs.out]; rfl)))) ⟨by rw [if_neg (by decide)]; exact Below.refl _ _, rfl, fun hh => hS hh⟩
          · intro _ b x ls hR hS hself hup hdn hk
            have h5 : b.eval (.tmp 5) = .pointer (some ⟨fb, 0, none⟩) := Eq.mp (by kernel_rfl) (hk 5 (by decide))
            have lA : ls 30 = false := hdn [29, 28, 17] 30 _ rfl (by kernel_rfl)
            have hb := hS lA
            exact Rs.does_field _ _ h5 (show (Instr.fieldAt 70 (.pointer (some ⟨fb, 0, none⟩)) 7).run Try.prog x = .ok (.pointer (some ⟨fb, 7, none⟩)) x from rfl) ⟨by rw [if_neg (by decide)]; exact Below.refl _ _, rfl, fun hh => hS hh⟩
          · intro _ b x ls hR hS hself hup hdn hk
            have h59 : b.eval (.tmp 59) = .pointer (some ⟨fb, 7, none⟩) := Eq.mp (by kernel_rfl) (hk 59 (by decide))
            have lA : ls 30 = false := hdn [29, 28] 30 _ rfl (by kernel_rfl)
            have hb := hS lA
            exact Rg.does_load _ _ h59 (Ap.load_plainP (by simp [isAgg]) (cell_below hb (Nat.le_refl _) ((HCr.out.cell 7).trans (by rw [HUs.out]; rfl)))) ⟨by rw [if_neg (by decide)]; exact Below.refl _ _, rfl, fun hh => hS hh⟩
          · intro _ b x ls hR hS hself hup hdn hk
            have h5 : b.eval (.tmp 5) = .pointer (some ⟨fb, 0, none⟩) := Eq.mp (by kernel_rfl) (hk 5 (by decide))
            have lA : ls 30 = false := hdn [29, 28, 19] 30 _ rfl (by kernel_rfl)
            have hb := hS lA
            exact Rs.does_field _ _ h5 (show (Instr.fieldAt 70 (.pointer (some ⟨fb, 0, none⟩)) 8).run Try.prog x = .ok (.pointer (some ⟨fb, 8, none⟩)) x from rfl) ⟨by rw [if_neg (by decide)]; exact Below.refl _ _, rfl, fun hh => hS hh⟩
          · intro _ b x ls hR hS hself hup hdn hk
            have h61 : b.eval (.tmp 61) = .pointer (some ⟨fb, 8, none⟩) := Eq.mp (by kernel_rfl) (hk 61 (by decide))
            have lA : ls 30 = false := hdn [29, 28] 30 _ rfl (by kernel_rfl)
            have hb := hS lA
            exact Rg.does_load _ _ h61 (Ap.load_plainP (by simp [isAgg]) (cell_below hb (Nat.le_refl _) ((HCr.out.cell 8).trans (by rw [HUs.out]; rfl)))) ⟨by rw [if_neg (by decide)]; exact Below.refl _ _, rfl, fun hh => hS hh⟩
          · intro _ b x ls hR hS hself hup hdn hk
            have h5 : b.eval (.tmp 5) = .pointer (some ⟨fb, 0, none⟩) := Eq.mp (by kernel_rfl) (hk 5 (by decide))
            have lA : ls 30 = false := hdn [29, 28, 21] 30 _ rfl (by kernel_rfl)
            have hb := hS lA
            exact Rs.does_field _ _ h5 (show (Instr.fieldAt 70 (.pointer (some ⟨fb, 0, none⟩)) 9).run Try.prog x = .ok (.pointer (some ⟨fb, 9, none⟩)) x from rfl) ⟨by rw [if_neg (by decide)]; exact Below.refl _ _, rfl, fun hh => hS hh⟩
          · intro _ b x ls hR hS hself hup hdn hk
            have h63 : b.eval (.tmp 63) = .pointer (some ⟨fb, 9, none⟩) := Eq.mp (by kernel_rfl) (hk 63 (by decide))
            have lA : ls 30 = false := hdn [29, 28] 30 _ rfl (by kernel_rfl)
            have hb := hS lA
            exact Rg.does_load _ _ h63 (Ap.load_plainP (by simp [isAgg]) (cell_below hb (Nat.le_refl _) ((HCr.out.cell 9).trans (by rw [HUs.out]; rfl)))) ⟨by rw [if_neg (by decide)]; exact Below.refl _ _, rfl, fun hh => hS hh⟩
          · intro _ b x ls hR hS hself hup hdn hk
            have h5 : b.eval (.tmp 5) = .pointer (some ⟨fb, 0, none⟩) := Eq.mp (by kernel_rfl) (hk 5 (by decide))
            have lA : ls 30 = false := hdn [29, 28, 23] 30 _ rfl (by kernel_rfl)
            have hb := hS lA
            exact Rs.does_field _ _ h5 (show (Instr.fieldAt 70 (.pointer (some ⟨fb, 0, none⟩)) 10).run Try.prog x = .ok (.pointer (some ⟨fb, 10, none⟩)) x from rfl) ⟨by rw [if_neg (by decide)]; exact Below.refl _ _, rfl, fun hh => hS hh⟩
          · intro _ b x ls hR hS hself hup hdn hk
            have h65 : b.eval (.tmp 65) = .pointer (some ⟨fb, 10, none⟩) := Eq.mp (by kernel_rfl) (hk 65 (by decide))
            have lA : ls 30 = false := hdn [29, 28] 30 _ rfl (by kernel_rfl)
            have hb := hS lA
            exact Rg.does_load _ _ h65 (Ap.load_plainP (by simp [isAgg]) (cell_below hb (Nat.le_refl _) ((HCr.out.cell 10).trans (by rw [HUs.out]; rfl)))) ⟨by rw [if_neg (by decide)]; exact Below.refl _ _, rfl, fun hh => hS hh⟩
          · intro _ b x ls hR hS hself hup hdn hk
            have h6 : b.eval (.tmp 6) = .slice ar fd.2.2.2.2.2.2.2.1.length cr := Eq.mp (by kernel_rfl) (hk 6 (by decide))
            have lA : ls 30 = false := hdn [29, 28] 30 _ rfl (by kernel_rfl)
            have hb := hS lA
            exact Rg.does_move ⟨by rw [if_neg (by decide)]; exact Below.refl _ _, h6, fun hh => hS hh⟩
          · intro _ b x ls hR hS hself hup hdn hk
            have h5 : b.eval (.tmp 5) = .pointer (some ⟨fb, 0, none⟩) := Eq.mp (by kernel_rfl) (hk 5 (by decide))
            have lA : ls 30 = false := hdn [27, 26] 30 _ rfl (by kernel_rfl)
            have hb := hS lA
            exact Rs.does_field _ _ h5 (show (Instr.fieldAt 70 (.pointer (some ⟨fb, 0, none⟩)) 12).run Try.prog x = .ok (.pointer (some ⟨fb, 12, none⟩)) x from rfl) ⟨by rw [if_neg (by decide)]; exact Below.refl _ _, rfl, fun hh => hS hh⟩
          · intro _ b x ls hR hS hself hup hdn hk
            have h68 : b.eval (.tmp 68) = .pointer (some ⟨fb, 12, none⟩) := Eq.mp (by kernel_rfl) (hk 68 (by decide))
            have lA : ls 30 = false := hdn [27] 30 _ rfl (by kernel_rfl)
            have hb := hS lA
            exact Rg.does_load _ _ h68 (run_loadAt_mid x fb 12 _ ukf dk (fun j v hv => cell_below hb (Nat.le_refl _) ((HCr.out.cell (12 + j)).trans (by rw [HUs.out]; exact suf_right rfl j v hv))) HKu.out HKr.out (by rw [keepA_len HKf.out]; exact info_keep7)) ⟨by rw [if_neg (by decide)]; exact Below.refl _ _, rfl, fun hh => hS hh⟩
          · intro _ b x ls hR hS hself hup hdn hk
            have h69 : b.eval (.tmp 69) = .agg ukf.toArray := Eq.mp (by kernel_rfl) (hk 69 (by decide))
            have lA : ls 30 = false := hdn [] 30 _ rfl (by kernel_rfl)
            have hb := hS lA
            have hWx : Below W.heap.size W x := HWw.out.trans (hb.mono HWw.out.size)
            refine Rg.does_func #[.agg ukf.toArray] Try.func27 (by kernel_rfl) (by kernel_rfl) (by simp [h69]) (kept_calls W x (fun i => U.ownBlock = some i ∨ i = eb + 1) ukf _ HKf.out hWx (fun j hj => by have h1 := HZ.out j hj; have h2 := HB.out.size; have h3 := hb.size; omega) HKl.out) ?_
            rintro e w' ⟨ks, rfl, hkl, hks, hb'⟩
            exact ⟨_, rfl, by rw [if_neg (by decide)]; exact hb', ⟨ks, rfl, hkl, hks⟩, fun hh => hb.trans (hb'.mono hb.size)⟩
          · intro _ b x ls hR hS hself hup hdn hk
            have h54 : (fun u' x => ∃ b1, u' = .slice (some ⟨b1, 0, none⟩) 5 5 ∧ wr.heap.size ≤ b1 ∧ x.heap[b1]? = some (.cells #[.int .i64 fd.1.1, .int .i64 fd.1.2.1, .int .i64 fd.1.2.2.1, .int .i64 fd.1.2.2.2.1, .int .i64 fd.1.2.2.2.2] 3)) (b.eval (.tmp 54)) x := Eq.mp (by kernel_rfl) (hk 54 (by decide))
            have h56 : b.eval (.tmp 56) = .bool fd.2.1 := Eq.mp (by kernel_rfl) (hk 56 (by decide))
            have h58 : b.eval (.tmp 58) = .int .i64 fd.2.2.1 := Eq.mp (by kernel_rfl) (hk 58 (by decide))
            have h60 : b.eval (.tmp 60) = .int .i64 fd.2.2.2.1 := Eq.mp (by kernel_rfl) (hk 60 (by decide))
            have h62 : b.eval (.tmp 62) = .string (str fd.2.2.2.2.1) := Eq.mp (by kernel_rfl) (hk 62 (by decide))
            have h64 : b.eval (.tmp 64) = .slice p9 fd.2.2.2.2.2.1.length k9 := Eq.mp (by kernel_rfl) (hk 64 (by decide))
            have h66 : b.eval (.tmp 66) = .slice p10 fd.2.2.2.2.2.2.1.length k10 := Eq.mp (by kernel_rfl) (hk 66 (by decide))
            have h67 : b.eval (.tmp 67) = .slice ar fd.2.2.2.2.2.2.2.1.length cr := Eq.mp (by kernel_rfl) (hk 67 (by decide))
            have h70 : (fun u' x => ∃ ks : List Value, u' = .agg ks.toArray ∧ ks.length = 7 ∧ Safe (fun i => U.ownBlock = some i ∨ i = eb + 1) keepA x ks fd.2.2.2.2.2.2.2.2) (b.eval (.tmp 70)) x := Eq.mp (by kernel_rfl) (hk 70 (by decide))
            have lA : ls 30 = false := hdn [29] 30 _ rfl (by kernel_rfl)
            have hb := hS lA
            obtain ⟨b5, e5, q5, r5⟩ := h54
            obtain ⟨ks, ek, hkl7, hks⟩ := h70
            obtain ⟨y0, y1, y2, y3, y4, y5, y6, rfl⟩ := list7 hkl7
            have hone := keepA_one hks.out
            have hWx : Below W.heap.size W x := HWw.out.trans (hb.mono HWw.out.size)
            have hsf := frame_safe (W := W) (B := ws.heap.size) (fd := fd) hWx HZ.out r5 (Nat.le_trans HB.out.size q5) HN9.out HS10.out (ownsRow_below HO11.out hb) hks
            refine Ap.does_buildS #[(0, .slice (some ⟨b5, 0, none⟩) 5 5), (1, .bool fd.2.1), (2, .int .i64 fd.2.2.1), (3, .int .i64 fd.2.2.2.1), (4, .string (str fd.2.2.2.2.1)), (5, .slice p9 fd.2.2.2.2.2.1.length k9), (6, .slice p10 fd.2.2.2.2.2.2.1.length k10), (7, .slice ar fd.2.2.2.2.2.2.2.1.length cr), (8, .agg #[y0, y1, y2, y3, y4, y5, y6])] (.agg #[.slice (some ⟨b5, 0, none⟩) 5 5, .bool fd.2.1, .int .i64 fd.2.2.1, .int .i64 fd.2.2.2.1, .string (str fd.2.2.2.2.1), .slice p9 fd.2.2.2.2.2.1.length k9, .slice p10 fd.2.2.2.2.2.2.1.length k10, .slice ar fd.2.2.2.2.2.2.2.1.length cr, y0, y1, y2, y3, y4, y5, y6]) (by simp [e5, ek, h56, h58, h60, h62, h64, h66, h67]) (run_build _ _ _ _ (by kernel_rfl)) ⟨by rw [if_neg (by decide)]; exact Below.refl _ _, ⟨[.slice (some ⟨b5, 0, none⟩) 5 5, .bool fd.2.1, .int .i64 fd.2.2.1, .int .i64 fd.2.2.2.1, .string (str fd.2.2.2.2.1), .slice p9 fd.2.2.2.2.2.1.length k9, .slice p10 fd.2.2.2.2.2.2.1.length k10, .slice ar fd.2.2.2.2.2.2.2.1.length cr, y0, y1, y2, y3, y4, y5, y6], rfl, rfl, ?_, hsf⟩, fun hh => hS hh⟩
            intro v hv
            simp only [List.mem_cons, List.not_mem_nil, or_false] at hv
            rcases hv with rfl | rfl | rfl | rfl | rfl | rfl | rfl | rfl | hv
            all_goals first | rfl | exact hone v (by simp only [List.mem_cons, List.not_mem_nil, or_false]; exact hv)
          · intro _ b x ls hR hS hself hup hdn hk
            have h71 : (fun u' x => ∃ cs : List Value, u' = .agg cs.toArray ∧ cs.length = 15 ∧ (∀ v ∈ cs, v.oneCell' = true) ∧ Safe (fun i => U.ownBlock = some i ∨ i = eb + 1) rFrameA x cs fd) (b.eval (.tmp 71)) x := Eq.mp (by kernel_rfl) (hk 71 (by decide))
            have lA : ls 30 = false := hdn [] 30 _ rfl (by kernel_rfl)
            have hb := hS lA
            obtain ⟨cs, ec, hcl, hco, hcs9⟩ := h71
            obtain ⟨y0, y1, y2, y3, y4, y5, y6, y7, y8, y9, y10, y11, y12, y13, y14, rfl⟩ := list15 hcl
            have hal := (Below.refl x.heap.size x).alloc (Nat.le_refl _) (.cells #[y0, y1, y2, y3, y4, y5, y6, y7, y8, y9, y10, y11, y12, y13, y14] rFT)
            exact Rg.does_build #[(0, .agg #[y0, y1, y2, y3, y4, y5, y6, y7, y8, y9, y10, y11, y12, y13, y14])] _ (by simp [ec]) (bs_F x _ _ _ _ _ _ _ _ _ _ _ _ _ _ _ hco) ⟨by rw [if_neg (by decide)]; exact hal, ⟨x.heap.size, rfl, hb.size, _, heap_alloc_new x _, rfl, hco, hcs9.below hal⟩, fun hh => hb.trans (hal.mono hb.size)⟩
          · intro _ b x ls hR hS hself hup hdn hk
            have h43 : b.eval (.tmp 43) = U := Eq.mp (by kernel_rfl) (hk 43 (by decide))
            have h72 : (fun u' x => ∃ b1, u' = .slice (some ⟨b1, 0, none⟩) 1 1 ∧ wr.heap.size ≤ b1 ∧ ∃ cs : List Value, x.heap[b1]? = some (.cells cs.toArray rFT) ∧ cs.length = 15 ∧ (∀ v ∈ cs, v.oneCell' = true) ∧ Safe (fun i => U.ownBlock = some i ∨ i = eb + 1) rFrameA x cs fd) (b.eval (.tmp 72)) x := Eq.mp (by kernel_rfl) (hk 72 (by decide))
            have hb := hS hself
            obtain ⟨b1, h2, h3, cs, h4, hcl, hco, hcs9⟩ := h72
            have hown : World.ownsRow x w1.heap.size rFT 15 U K xs := ownsRow_below HOU.out hb
            obtain ⟨v', w', hrun, hown', hgr, hat⟩ := Ap.run_append_at (P := Try.prog) x w1.heap.size 56 56 56 rFT i0 _ 15 280 Try.underlying56 (append_side Try.underlying56) hi0 hz0' hz1 hz2 rfl (by decide) (by decide) U K xs hown (.slice (some ⟨b1, 0, none⟩) 1 1) 1 cs (src_cells (b := b1) (off := 0) hcl hco (.inr rfl) (fun j u1 hu1 => by simp only [World.cell?, h4, Nat.zero_add]; simpa using hu1)) (by unfold maxLen; omega) (by omega) (Nat.le_trans HLB.out hb.size)
            exact Ap.does_append U _ v' w' h43 h2 hrun ⟨by rw [if_pos rfl]; exact hgr, ⟨cs, hcl, ⟨hown', x, hb, hgr, hat⟩, hcs9.grow hgr (fun j e2 => .inl e2) (fun j hj hlt => hj.imp (fun e2 => hat j e2 hlt) id)⟩, fun hh => by simp [Rs.upd] at hh⟩
          · intro vals wD ls _ hSD _ hL
            obtain ⟨g0, g1, g2, g3, g4, g5, g6, g7, g8, g9, g10, g11, g12, g13, g14, g15, g16, g17, g18, g19, g20, g21, g22, g23, g24, g25, g26, g27, g28, g29, g30, _⟩ := hL
            have hap : ∃ cs : List Value, cs.length = 15 ∧ Apd wr U w1.heap.size rFT 15 K xs cs (vals 30) wD ∧ Safe (fun i => (vals 30).ownBlock = some i ∨ i = eb + 1) rFrameA wD cs fd := g30
            simp only [Rg.putAll, List.take_succ_cons, List.take_zero, List.drop_succ_cons, List.drop_zero, List.setIfInBounds_toArray, List.set_cons_succ, List.set_cons_zero]
            clear g0 g1 g2 g3 g4 g5 g6 g7 g8 g9 g10 g11 g12 g13 g14 g15 g16 g17 g18 g19 g20 g21 g22 g23 g24 g25 g26 g27 g28 g29 g30
            generalize vals 30 = u2 at *
            obtain ⟨cs, hcl, hap, hsf⟩ := hap
            have HI2 : Hid (FrsI w1.heap.size (eb + 1) wD u2 (K + 1) fr) := FrsI.push HOU.out HSU.out hcl hap (fun h => by rw [HFd.out h]; exact hsf)
            obtain ⟨_, wa, hba, hga, _⟩ := hap
            have HB2 : Hid (Below w1.heap.size w1 wD) := (HB1w.out.trans (hba.mono HB1w.out.size)).grown hga (Nat.le_trans HB1w.out.size hba.size) (fun j hj => (HOU.out.lt j hj).1)
            clear hba hga hsf hcl
            go_wp2_with fail
            go_roundw
            case rel => exact ⟨K + 1, _, by omega, by go_num, rfl, HI2.out, HB2.out⟩
            case measure => simp [intOf]; omega
    · obtain rfl : K = fr.length := by omega
      have u1 : decide ((fr.length : Int) < (fr.length : Int)) = false := decide_eq_false (by omega)
      have u2 : ¬ ((fr.length : Int) < (fr.length : Int)) := by omega
      have u3 : decide (fr.length < fr.length) = false := decide_eq_false (by omega)
      have heW : W.heap.size ≤ eb + 1 := by have := HEb.out; omega
      have heB : eb + 1 < w1.heap.size := HC2.out.lt
      have HeB := Lib.hid heB
      have HeW := Lib.hid heW
      have HFr := Lib.hid (HIo.out.row heB)
      obtain ⟨xs, ho, _⟩ := HIo.out
      obtain ⟨aF, cF, rfl, _, _, _, _⟩ := ownsRow_slice ho
      have HWw : Hid (Below W.heap.size W wr) := HB1.out.trans (HBo.out.mono HB1.out.size)
      have HCr : Hid (Cut eb vs stT wr) := cut_below HC.out HBo.out
      have HCS : Hid (Cut (eb + 1) sZ.toList rST wr) := cut_below HC2.out HBo.out
      obtain ⟨dq, hqu, hqr⟩ := Option.map_eq_some_iff.1 und_rq
      have HQu := Lib.hid hqu
      have HQr := Lib.hid hqr
      obtain ⟨da, hau, har⟩ := Option.map_eq_some_iff.1 und_ra
      have HAu := Lib.hid hau
      have HAr := Lib.hid har
      clear ho heW heB hqu hqr hau har hK
      go_upto_region 12 with fail
      clear u1 u2 u3 hc8 hlt
      refine Rg.wp_region_rgt 29 [] [Rg.Is (.pointer (some ⟨eb, 0, none⟩)), Rg.Is (.agg #[v0, v1, v2, v3, v4, v5, v6]), (fun u' x => ∃ ks : List Value, u' = .agg ks.toArray ∧ ks.length = 7 ∧ Safe (fun i => i = eb + 1) keepA x ks s.1), Rg.Is (.pointer (some ⟨eb, 7, none⟩)), Rg.Is (.slice p7 s.2.1.length k7), Rg.Is (.slice aF fr.length cF), Rg.Is (.pointer (some ⟨eb, 9, none⟩)), Rg.Is (.agg #[v9, v10, v11, v12, v13]), Rg.Is (.pointer (some ⟨eb, 14, none⟩)), Rg.Is (.agg #[v14, v15, v16, v17, v18, v19, v20]), Rg.Is (.pointer (some ⟨eb, 21, none⟩)), Rg.Is (.slice p21 s.2.2.2.2.2.1.length k21), Rg.Is (.pointer (some ⟨eb, 22, none⟩)), Rg.Is (.int .i64 s.2.2.2.2.2.2.1.1), Rg.Is (.pointer (some ⟨eb, 23, none⟩)), Rg.Is (.int .i64 s.2.2.2.2.2.2.1.2.1), Rg.Is (.pointer (some ⟨eb, 24, none⟩)), Rg.Is (.int .i64 s.2.2.2.2.2.2.1.2.2), (fun u' x => ∃ b1, u' = .slice (some ⟨b1, 0, none⟩) 3 3 ∧ wr.heap.size ≤ b1 ∧ x.heap[b1]? = some (.cells #[.int .i64 s.2.2.2.2.2.2.1.1, .int .i64 s.2.2.2.2.2.2.1.2.1, .int .i64 s.2.2.2.2.2.2.1.2.2] 3)), Rg.Is (.pointer (some ⟨eb, 25, none⟩)), Rg.Is (.bool s.2.2.2.2.2.2.2.1.1), Rg.Is (.pointer (some ⟨eb, 26, none⟩)), Rg.Is (.bool s.2.2.2.2.2.2.2.1.2.1), Rg.Is (.pointer (some ⟨eb, 27, none⟩)), Rg.Is (.bool s.2.2.2.2.2.2.2.1.2.2), (fun u' x => ∃ b1, u' = .slice (some ⟨b1, 0, none⟩) 3 3 ∧ wr.heap.size ≤ b1 ∧ x.heap[b1]? = some (.cells #[.bool s.2.2.2.2.2.2.2.1.1, .bool s.2.2.2.2.2.2.2.1.2.1, .bool s.2.2.2.2.2.2.2.1.2.2] 4)), Rg.Is (.pointer (some ⟨eb, 28, none⟩)), Rg.Is (.int .i64 s.2.2.2.2.2.2.2.2), (fun u' x => ∃ cs : List Value, u' = .agg cs.toArray ∧ cs.length = 25 ∧ (∀ v ∈ cs, v.oneCell' = true) ∧ Safe (fun i => i = eb + 1) rStateA x cs s)] (by kernel_rfl) (by kernel_rfl) (of_decide_eq_true (by kernel_rfl)) (by kernel_rfl) (by kernel_rfl) ⟨Rg.st_is _, Rg.st_is _, (fun _ _ _ h hb => by obtain ⟨ks, h2, h3, h4⟩ := h; exact ⟨ks, h2, h3, h4.below hb⟩), Rg.st_is _, Rg.st_is _, Rg.st_is _, Rg.st_is _, Rg.st_is _, Rg.st_is _, Rg.st_is _, Rg.st_is _, Rg.st_is _, Rg.st_is _, Rg.st_is _, Rg.st_is _, Rg.st_is _, Rg.st_is _, Rg.st_is _, (fun _ _ _ h hb => by obtain ⟨b1, h2, h3, h4⟩ := h; exact ⟨b1, h2, h3, (hb.block b1 (Array.getElem?_eq_some_iff.1 h4).1).trans h4⟩), Rg.st_is _, Rg.st_is _, Rg.st_is _, Rg.st_is _, Rg.st_is _, Rg.st_is _, (fun _ _ _ h hb => by obtain ⟨b1, h2, h3, h4⟩ := h; exact ⟨b1, h2, h3, (hb.block b1 (Array.getElem?_eq_some_iff.1 h4).1).trans h4⟩), Rg.st_is _, Rg.st_is _, (fun _ _ _ h hb => by obtain ⟨cs, h2, h3, h4, h5⟩ := h; exact ⟨cs, h2, h3, h4, h5.below hb⟩), trivial⟩ ⟨rfl, rfl, rfl, rfl, rfl, rfl, rfl, rfl, rfl, rfl, rfl, rfl, rfl, rfl, rfl, rfl, rfl, rfl, rfl, rfl, rfl, rfl, rfl, rfl, rfl, rfl, rfl, rfl, rfl, trivial⟩ ⟨?_, ?_, ?_, ?_, ?_, ?_, ?_, ?_, ?_, ?_, ?_, ?_, ?_, ?_, ?_, ?_, ?_, ?_, ?_, ?_, ?_, ?_, ?_, ?_, ?_, ?_, ?_, ?_, ?_, trivial⟩ ?_
      · intro _ a wx hb hk
        have h1 : a.eval (.tmp 1) = .pointer (some ⟨eb, 0, none⟩) := Eq.mp (by kernel_rfl) (hk 1 (by decide))
        exact Rs.does_field _ _ h1 (show (Instr.fieldAt 40 (.pointer (some ⟨eb, 0, none⟩)) 0).run Try.prog wx = .ok (.pointer (some ⟨eb, 0, none⟩)) wx from rfl) ⟨Below.refl _ _, rfl⟩
      · intro _ a wx hb hk
        have h74 : a.eval (.tmp 74) = .pointer (some ⟨eb, 0, none⟩) := Eq.mp (by kernel_rfl) (hk 74 (by decide))
        exact Rg.does_load _ _ h74 (run_loadAt_mid wx eb 0 _ [v0, v1, v2, v3, v4, v5, v6] dk (by have h1 := cut_mid 0 7 (cut_below HCr.out hb); rw [HVS.out] at h1; exact h1) HKu.out HKr.out info_keep7) ⟨Below.refl _ _, rfl⟩
      · intro _ a wx hb hk
        have h75 : a.eval (.tmp 75) = .agg #[v0, v1, v2, v3, v4, v5, v6] := Eq.mp (by kernel_rfl) (hk 75 (by decide))
        have hWx : Below W.heap.size W wx := HWw.out.trans (hb.mono HWw.out.size)
        refine Rg.does_func #[.agg [v0, v1, v2, v3, v4, v5, v6].toArray] Try.func27 (by kernel_rfl) (by kernel_rfl) (by simp [h75]) (kept_calls W wx (fun i => i = eb + 1) [v0, v1, v2, v3, v4, v5, v6] _ HKe.out hWx (fun j hj => by have h1 := HeB.out; have h2 := HeW.out; have h3 := HBo.out.size; have h4 := hb.size; omega) HKE.out) ?_
        rintro e w' ⟨ks, rfl, hkl, hks, hb'⟩
        exact ⟨_, rfl, hb', ks, rfl, hkl, hks⟩
      · intro _ a wx hb hk
        have h1 : a.eval (.tmp 1) = .pointer (some ⟨eb, 0, none⟩) := Eq.mp (by kernel_rfl) (hk 1 (by decide))
        exact Rs.does_field _ _ h1 (show (Instr.fieldAt 40 (.pointer (some ⟨eb, 0, none⟩)) 1).run Try.prog wx = .ok (.pointer (some ⟨eb, 7, none⟩)) wx from rfl) ⟨Below.refl _ _, rfl⟩
      · intro _ a wx hb hk
        have h77 : a.eval (.tmp 77) = .pointer (some ⟨eb, 7, none⟩) := Eq.mp (by kernel_rfl) (hk 77 (by decide))
        exact Rg.does_load _ _ h77 (Ap.load_plainP (by simp [isAgg]) (cell_below hb (Nat.le_refl _) ((HCr.out.cell 7).trans (by rw [HVS.out]; rfl)))) ⟨Below.refl _ _, rfl⟩
      · intro _ a wx hb hk
        have h3 : a.eval (.tmp 3) = .slice aF fr.length cF := Eq.mp (by kernel_rfl) (hk 3 (by decide))
        exact Rg.does_move ⟨Below.refl _ _, h3⟩
      · intro _ a wx hb hk
        have h1 : a.eval (.tmp 1) = .pointer (some ⟨eb, 0, none⟩) := Eq.mp (by kernel_rfl) (hk 1 (by decide))
        exact Rs.does_field _ _ h1 (show (Instr.fieldAt 40 (.pointer (some ⟨eb, 0, none⟩)) 3).run Try.prog wx = .ok (.pointer (some ⟨eb, 9, none⟩)) wx from rfl) ⟨Below.refl _ _, rfl⟩
      · intro _ a wx hb hk
        have h80 : a.eval (.tmp 80) = .pointer (some ⟨eb, 9, none⟩) := Eq.mp (by kernel_rfl) (hk 80 (by decide))
        exact Rg.does_load _ _ h80 (run_loadAt_mid wx eb 9 _ [v9, v10, v11, v12, v13] dq (by have h1 := cut_mid 9 5 (cut_below HCr.out hb); rw [HVS.out] at h1; exact h1) HQu.out HQr.out info_rq) ⟨Below.refl _ _, rfl⟩
      · intro _ a wx hb hk
        have h1 : a.eval (.tmp 1) = .pointer (some ⟨eb, 0, none⟩) := Eq.mp (by kernel_rfl) (hk 1 (by decide))
        exact Rs.does_field _ _ h1 (show (Instr.fieldAt 40 (.pointer (some ⟨eb, 0, none⟩)) 4).run Try.prog wx = .ok (.pointer (some ⟨eb, 14, none⟩)) wx from rfl) ⟨Below.refl _ _, rfl⟩
      · intro _ a wx hb hk
        have h82 : a.eval (.tmp 82) = .pointer (some ⟨eb, 14, none⟩) := Eq.mp (by kernel_rfl) (hk 82 (by decide))
        exact Rg.does_load _ _ h82 (run_loadAt_mid wx eb 14 _ [v14, v15, v16, v17, v18, v19, v20] da (by have h1 := cut_mid 14 7 (cut_below HCr.out hb); rw [HVS.out] at h1; exact h1) HAu.out HAr.out info_ra) ⟨Below.refl _ _, rfl⟩
      · intro _ a wx hb hk
        have h1 : a.eval (.tmp 1) = .pointer (some ⟨eb, 0, none⟩) := Eq.mp (by kernel_rfl) (hk 1 (by decide))
        exact Rs.does_field _ _ h1 (show (Instr.fieldAt 40 (.pointer (some ⟨eb, 0, none⟩)) 5).run Try.prog wx = .ok (.pointer (some ⟨eb, 21, none⟩)) wx from rfl) ⟨Below.refl _ _, rfl⟩
      · intro _ a wx hb hk
        have h84 : a.eval (.tmp 84) = .pointer (some ⟨eb, 21, none⟩) := Eq.mp (by kernel_rfl) (hk 84 (by decide))
        exact Rg.does_load _ _ h84 (Ap.load_plainP (by simp [isAgg]) (cell_below hb (Nat.le_refl _) ((HCr.out.cell 21).trans (by rw [HVS.out]; rfl)))) ⟨Below.refl _ _, rfl⟩
      · intro _ a wx hb hk
        have h1 : a.eval (.tmp 1) = .pointer (some ⟨eb, 0, none⟩) := Eq.mp (by kernel_rfl) (hk 1 (by decide))
        exact Rs.does_field _ _ h1 (show (Instr.fieldAt 40 (.pointer (some ⟨eb, 0, none⟩)) 6).run Try.prog wx = .ok (.pointer (some ⟨eb, 22, none⟩)) wx from rfl) ⟨Below.refl _ _, rfl⟩
      · intro _ a wx hb hk
        have h86 : a.eval (.tmp 86) = .pointer (some ⟨eb, 22, none⟩) := Eq.mp (by kernel_rfl) (hk 86 (by decide))
        exact Rg.does_load _ _ h86 (Ap.load_plainP (by simp [isAgg]) (cell_below hb (Nat.le_refl _) ((HCr.out.cell 22).trans (by rw [HVS.out]; rfl)))) ⟨Below.refl _ _, rfl⟩
      · intro _ a wx hb hk
        have h1 : a.eval (.tmp 1) = .pointer (some ⟨eb, 0, none⟩) := Eq.mp (by kernel_rfl) (hk 1 (by decide))
        exact Rs.does_field _ _ h1 (show (Instr.fieldAt 40 (.pointer (some ⟨eb, 0, none⟩)) 7).run Try.prog wx = .ok (.pointer (some ⟨eb, 23, none⟩)) wx from rfl) ⟨Below.refl _ _, rfl⟩
      · intro _ a wx hb hk
        have h88 : a.eval (.tmp 88) = .pointer (some ⟨eb, 23, none⟩) := Eq.mp (by kernel_rfl) (hk 88 (by decide))
        exact Rg.does_load _ _ h88 (Ap.load_plainP (by simp [isAgg]) (cell_below hb (Nat.le_refl _) ((HCr.out.cell 23).trans (by rw [HVS.out]; rfl)))) ⟨Below.refl _ _, rfl⟩
      · intro _ a wx hb hk
        have h1 : a.eval (.tmp 1) = .pointer (some ⟨eb, 0, none⟩) := Eq.mp (by kernel_rfl) (hk 1 (by decide))
        exact Rs.does_field _ _ h1 (show (Instr.fieldAt 40 (.pointer (some ⟨eb, 0, none⟩)) 8).run Try.prog wx = .ok (.pointer (some ⟨eb, 24, none⟩)) wx from rfl) ⟨Below.refl _ _, rfl⟩
      · intro _ a wx hb hk
        have h90 : a.eval (.tmp 90) = .pointer (some ⟨eb, 24, none⟩) := Eq.mp (by kernel_rfl) (hk 90 (by decide))
        exact Rg.does_load _ _ h90 (Ap.load_plainP (by simp [isAgg]) (cell_below hb (Nat.le_refl _) ((HCr.out.cell 24).trans (by rw [HVS.out]; rfl)))) ⟨Below.refl _ _, rfl⟩
      · intro _ a wx hb hk
        have h87 : a.eval (.tmp 87) = .int .i64 s.2.2.2.2.2.2.1.1 := Eq.mp (by kernel_rfl) (hk 87 (by decide))
        have h89 : a.eval (.tmp 89) = .int .i64 s.2.2.2.2.2.2.1.2.1 := Eq.mp (by kernel_rfl) (hk 89 (by decide))
        have h91 : a.eval (.tmp 91) = .int .i64 s.2.2.2.2.2.2.1.2.2 := Eq.mp (by kernel_rfl) (hk 91 (by decide))
        have hal := (Below.refl wx.heap.size wx).alloc (Nat.le_refl _) (.cells #[.int .i64 s.2.2.2.2.2.2.1.1, .int .i64 s.2.2.2.2.2.2.1.2.1, .int .i64 s.2.2.2.2.2.2.1.2.2] 3)
        exact Rg.does_build #[(0, .int .i64 s.2.2.2.2.2.2.1.1), (1, .int .i64 s.2.2.2.2.2.2.1.2.1), (2, .int .i64 s.2.2.2.2.2.2.1.2.2)] _ (by simp [h87, h89, h91]) (bs_3 wx _ _ _) ⟨hal, wx.heap.size, rfl, hb.size, heap_alloc_new wx _⟩
      · intro _ a wx hb hk
        have h1 : a.eval (.tmp 1) = .pointer (some ⟨eb, 0, none⟩) := Eq.mp (by kernel_rfl) (hk 1 (by decide))
        exact Rs.does_field _ _ h1 (show (Instr.fieldAt 40 (.pointer (some ⟨eb, 0, none⟩)) 9).run Try.prog wx = .ok (.pointer (some ⟨eb, 25, none⟩)) wx from rfl) ⟨Below.refl _ _, rfl⟩
      · intro _ a wx hb hk
        have h93 : a.eval (.tmp 93) = .pointer (some ⟨eb, 25, none⟩) := Eq.mp (by kernel_rfl) (hk 93 (by decide))
        exact Rg.does_load _ _ h93 (Ap.load_plainP (by simp [isAgg]) (cell_below hb (Nat.le_refl _) ((HCr.out.cell 25).trans (by rw [HVS.out]; rfl)))) ⟨Below.refl _ _, rfl⟩
      · intro _ a wx hb hk
        have h1 : a.eval (.tmp 1) = .pointer (some ⟨eb, 0, none⟩) := Eq.mp (by kernel_rfl) (hk 1 (by decide))
        exact Rs.does_field _ _ h1 (show (Instr.fieldAt 40 (.pointer (some ⟨eb, 0, none⟩)) 10).run Try.prog wx = .ok (.pointer (some ⟨eb, 26, none⟩)) wx from rfl) ⟨Below.refl _ _, rfl⟩
      · intro _ a wx hb hk
        have h95 : a.eval (.tmp 95) = .pointer (some ⟨eb, 26, none⟩) := Eq.mp (by kernel_rfl) (hk 95 (by decide))
        exact Rg.does_load _ _ h95 (Ap.load_plainP (by simp [isAgg]) (cell_below hb (Nat.le_refl _) ((HCr.out.cell 26).trans (by rw [HVS.out]; rfl)))) ⟨Below.refl _ _, rfl⟩
      · intro _ a wx hb hk
        have h1 : a.eval (.tmp 1) = .pointer (some ⟨eb, 0, none⟩) := Eq.mp (by kernel_rfl) (hk 1 (by decide))
        exact Rs.does_field _ _ h1 (show (Instr.fieldAt 40 (.pointer (some ⟨eb, 0, none⟩)) 11).run Try.prog wx = .ok (.pointer (some ⟨eb, 27, none⟩)) wx from rfl) ⟨Below.refl _ _, rfl⟩
      · intro _ a wx hb hk
        have h97 : a.eval (.tmp 97) = .pointer (some ⟨eb, 27, none⟩) := Eq.mp (by kernel_rfl) (hk 97 (by decide))
        exact Rg.does_load _ _ h97 (Ap.load_plainP (by simp [isAgg]) (cell_below hb (Nat.le_refl _) ((HCr.out.cell 27).trans (by rw [HVS.out]; rfl)))) ⟨Below.refl _ _, rfl⟩
      · intro _ a wx hb hk
        have h94 : a.eval (.tmp 94) = .bool s.2.2.2.2.2.2.2.1.1 := Eq.mp (by kernel_rfl) (hk 94 (by decide))
        have h96 : a.eval (.tmp 96) = .bool s.2.2.2.2.2.2.2.1.2.1 := Eq.mp (by kernel_rfl) (hk 96 (by decide))
        have h98 : a.eval (.tmp 98) = .bool s.2.2.2.2.2.2.2.1.2.2 := Eq.mp (by kernel_rfl) (hk 98 (by decide))
        have hal := (Below.refl wx.heap.size wx).alloc (Nat.le_refl _) (.cells #[.bool s.2.2.2.2.2.2.2.1.1, .bool s.2.2.2.2.2.2.2.1.2.1, .bool s.2.2.2.2.2.2.2.1.2.2] 4)
        exact Rg.does_build #[(0, .bool s.2.2.2.2.2.2.2.1.1), (1, .bool s.2.2.2.2.2.2.2.1.2.1), (2, .bool s.2.2.2.2.2.2.2.1.2.2)] _ (by simp [h94, h96, h98]) (bs_b wx _ _ _) ⟨hal, wx.heap.size, rfl, hb.size, heap_alloc_new wx _⟩
      · intro _ a wx hb hk
        have h1 : a.eval (.tmp 1) = .pointer (some ⟨eb, 0, none⟩) := Eq.mp (by kernel_rfl) (hk 1 (by decide))
        exact Rs.does_field _ _ h1 (show (Instr.fieldAt 40 (.pointer (some ⟨eb, 0, none⟩)) 12).run Try.prog wx = .ok (.pointer (some ⟨eb, 28, none⟩)) wx from rfl) ⟨Below.refl _ _, rfl⟩
      · intro _ a wx hb hk
        have h100 : a.eval (.tmp 100) = .pointer (some ⟨eb, 28, none⟩) := Eq.mp (by kernel_rfl) (hk 100 (by decide))
        exact Rg.does_load _ _ h100 (Ap.load_plainP (by simp [isAgg]) (cell_below hb (Nat.le_refl _) ((HCr.out.cell 28).trans (by rw [HVS.out]; rfl)))) ⟨Below.refl _ _, rfl⟩
      · intro _ a wx hb hk
        have h76 : (fun u' x => ∃ ks : List Value, u' = .agg ks.toArray ∧ ks.length = 7 ∧ Safe (fun i => i = eb + 1) keepA x ks s.1) (a.eval (.tmp 76)) wx := Eq.mp (by kernel_rfl) (hk 76 (by decide))
        have h78 : a.eval (.tmp 78) = .slice p7 s.2.1.length k7 := Eq.mp (by kernel_rfl) (hk 78 (by decide))
        have h79 : a.eval (.tmp 79) = .slice aF fr.length cF := Eq.mp (by kernel_rfl) (hk 79 (by decide))
        have h81 : a.eval (.tmp 81) = .agg #[v9, v10, v11, v12, v13] := Eq.mp (by kernel_rfl) (hk 81 (by decide))
        have h83 : a.eval (.tmp 83) = .agg #[v14, v15, v16, v17, v18, v19, v20] := Eq.mp (by kernel_rfl) (hk 83 (by decide))
        have h85 : a.eval (.tmp 85) = .slice p21 s.2.2.2.2.2.1.length k21 := Eq.mp (by kernel_rfl) (hk 85 (by decide))
        have h92 : (fun u' x => ∃ b1, u' = .slice (some ⟨b1, 0, none⟩) 3 3 ∧ wr.heap.size ≤ b1 ∧ x.heap[b1]? = some (.cells #[.int .i64 s.2.2.2.2.2.2.1.1, .int .i64 s.2.2.2.2.2.2.1.2.1, .int .i64 s.2.2.2.2.2.2.1.2.2] 3)) (a.eval (.tmp 92)) wx := Eq.mp (by kernel_rfl) (hk 92 (by decide))
        have h99 : (fun u' x => ∃ b1, u' = .slice (some ⟨b1, 0, none⟩) 3 3 ∧ wr.heap.size ≤ b1 ∧ x.heap[b1]? = some (.cells #[.bool s.2.2.2.2.2.2.2.1.1, .bool s.2.2.2.2.2.2.2.1.2.1, .bool s.2.2.2.2.2.2.2.1.2.2] 4)) (a.eval (.tmp 99)) wx := Eq.mp (by kernel_rfl) (hk 99 (by decide))
        have h101 : a.eval (.tmp 101) = .int .i64 s.2.2.2.2.2.2.2.2 := Eq.mp (by kernel_rfl) (hk 101 (by decide))
        obtain ⟨ks, ek, hkl7, hks⟩ := h76
        obtain ⟨b3, e3, q3, r3⟩ := h92
        obtain ⟨b4, e4, q4, r4⟩ := h99
        obtain ⟨y0, y1, y2, y3, y4, y5, y6, rfl⟩ := list7 hkl7
        have ho1 := keepA_one hks.out
        have ho2 := reqA_one HReq.out
        have ho3 := ansA_one HAns.out
        have hWx : Below W.heap.size W wx := HWw.out.trans (hb.mono HWw.out.size)
        have hsf := rstate_safe (W := W) (e := eb + 1) (s := s) (U := .slice aF fr.length cF) hWx HeW.out hks HOut.out (by rw [HFR.out]; exact HFr.out.below hb) HReq.out HAns.out HNums.out r3 (by have h1 := HeB.out; have h2 := HBo.out.size; omega) r4 (by have h1 := HeB.out; have h2 := HBo.out.size; omega)
        refine Ap.does_buildS #[(0, .agg #[y0, y1, y2, y3, y4, y5, y6]), (1, .slice p7 s.2.1.length k7), (2, .slice aF fr.length cF), (3, .agg #[v9, v10, v11, v12, v13]), (4, .agg #[v14, v15, v16, v17, v18, v19, v20]), (5, .slice p21 s.2.2.2.2.2.1.length k21), (6, .slice (some ⟨b3, 0, none⟩) 3 3), (7, .slice (some ⟨b4, 0, none⟩) 3 3), (8, .int .i64 s.2.2.2.2.2.2.2.2)] (.agg #[y0, y1, y2, y3, y4, y5, y6, .slice p7 s.2.1.length k7, .slice aF fr.length cF, v9, v10, v11, v12, v13, v14, v15, v16, v17, v18, v19, v20, .slice p21 s.2.2.2.2.2.1.length k21, .slice (some ⟨b3, 0, none⟩) 3 3, .slice (some ⟨b4, 0, none⟩) 3 3, .int .i64 s.2.2.2.2.2.2.2.2]) (by simp [ek, e3, e4, h78, h79, h81, h83, h85, h101]) (run_build _ _ _ _ (by kernel_rfl)) ⟨Below.refl _ _, [y0, y1, y2, y3, y4, y5, y6, .slice p7 s.2.1.length k7, .slice aF fr.length cF, v9, v10, v11, v12, v13, v14, v15, v16, v17, v18, v19, v20, .slice p21 s.2.2.2.2.2.1.length k21, .slice (some ⟨b3, 0, none⟩) 3 3, .slice (some ⟨b4, 0, none⟩) 3 3, .int .i64 s.2.2.2.2.2.2.2.2], rfl, rfl, ?_, hsf⟩
        intro v hv
        have hv' : v ∈ [y0, y1, y2, y3, y4, y5, y6] ++ ([.slice p7 s.2.1.length k7, .slice aF fr.length cF] ++ ([v9, v10, v11, v12, v13] ++ ([v14, v15, v16, v17, v18, v19, v20] ++ [.slice p21 s.2.2.2.2.2.1.length k21, .slice (some ⟨b3, 0, none⟩) 3 3, .slice (some ⟨b4, 0, none⟩) 3 3, .int .i64 s.2.2.2.2.2.2.2.2]))) := hv
        rw [List.mem_append, List.mem_append, List.mem_append, List.mem_append] at hv'
        rcases hv' with hv' | hv' | hv' | hv' | hv'
        · exact ho1 v hv'
        · simp only [List.mem_cons, List.not_mem_nil, or_false] at hv'
          rcases hv' with rfl | rfl <;> rfl
        · exact ho2 v hv'
        · exact ho3 v hv'
        · simp only [List.mem_cons, List.not_mem_nil, or_false] at hv'
          rcases hv' with rfl | rfl | rfl | rfl <;> rfl
      intro vals wD hbD hL
      obtain ⟨g0, g1, g2, g3, g4, g5, g6, g7, g8, g9, g10, g11, g12, g13, g14, g15, g16, g17, g18, g19, g20, g21, g22, g23, g24, g25, g26, g27, g28, _⟩ := hL
      have hap : ∃ cs : List Value, vals 28 = .agg cs.toArray ∧ cs.length = 25 ∧ (∀ v ∈ cs, v.oneCell' = true) ∧ Safe (fun i => i = eb + 1) rStateA wD cs s := g28
      obtain ⟨cs, g', hcl, hco, hst⟩ := hap
      have HBD := Lib.hid hbD
      have HCL := Lib.hid hcl
      have HCO := Lib.hid hco
      have HST := Lib.hid hst
      clear g0 g1 g2 g3 g4 g5 g6 g7 g8 g9 g10 g11 g12 g13 g14 g15 g16 g17 g18 g19 g20 g21 g22 g23 g24 g25 g26 g27 g28 hbD hcl hco hst
      simp only [Rg.putAll, List.take_succ_cons, List.take_zero, List.drop_succ_cons, List.drop_zero, List.setIfInBounds_toArray, List.set_cons_succ, List.set_cons_zero, g']
      have HCd : Hid (Cut (eb + 1) sZ.toList rST wD) := cut_below HCS.out HBD.out
      clear g'
      go_wp2_with (refine wpList_store_mid (by kernel_rfl) rST (.tmp 2) (.tmp 102) rfl (eb + 1) 0 cs.toArray rfl rfl (there_cut HCd.out _ (by rw [List.size_toArray, HCL.out]; exact Nat.le_refl _)) (by rw [List.size_toArray, HCL.out]; exact info_rS) (all_oneCell_toArray HCO.out) ?_; (obtain ⟨wL, hwL⟩ : ∃ x, wD.setCells (eb + 1) 0 cs.toArray.toList = x := ⟨_, rfl⟩); have HWL := Lib.hid hwL; (refine (congrArg (wpList _ _ _ _ _) hwL).mpr ?_); clear hwL)
      have HgK := Lib.hid (Sl.setCells_grown (eb + 1) cs 0 wD)
      have HcL : Hid (Cut (eb + 1) cs rST (wD.setCells (eb + 1) 0 cs)) := set_cut HCd.out (by rw [HCL.out]; rfl)
      have HWL2 : Hid (wD.setCells (eb + 1) 0 cs = wL) := HWL.out
      rw [HWL2.out] at HgK HcL
      have HbL : Hid (Below W.heap.size W wL) := (HWw.out.trans (HBD.out.mono HWw.out.size)).grown HgK.out (Nat.le_trans HWw.out.size HBD.out.size) (fun j hj => by have := Option.some.inj hj; have := HEb.out; omega)
      refine bodyPost_ret (results_cell1 rfl _ _ _ (eb + 1) (.agg cs.toArray) rfl (loadv_cut HcL.out und_rS (by rw [HCL.out]; exact info_rS))) rfl ?_
      exact ⟨cs, rfl, HCL.out, HST.out wL (But.of_grown HgK.out (fun j hj => (Option.some.inj hj).symm)), HbL.out⟩
end Go.Proofs.Ytnmlnaoljkhjeaa
