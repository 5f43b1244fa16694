/-
  State: the statement StatePacks, walked. Conditions: as each contract says.
-/
import Derived.Test.YtnmlnaoljkhjeaaStPQ
set_option linter.unusedVariables false
set_option maxRecDepth 100000
namespace Go.Proofs.Ytnmlnaoljkhjeaa
open Go.RowKit Base

set_option maxHeartbeats 4000000 in
theorem st_packs (W : World) (vs : List Value) (s : StateD) (hs : InS W vs s) :
    Calls Try.prog 3 #[.agg vs.toArray] W fun r W' => r = .returned (.bool true) ∧ Below W.heap.size W W' := by
  obtain ⟨w1, hw1, hc1, hb1⟩ : ∃ w1, W.alloc (.cells vs.toArray stT) = w1 ∧ Cut W.heap.size vs stT w1 ∧ Below W.heap.size W w1 := ⟨_, rfl, heap_alloc_new W _, (Below.refl W.heap.size W).alloc (Nat.le_refl _) _⟩
  have HW := Lib.hid hw1
  have HS := Lib.hid hs
  have HV : Hid (vs.length = 29) := hs.len
  obtain ⟨dd, hdu, hdr⟩ := Option.map_eq_some_iff.1 und_st
  have HDu := Lib.hid hdu
  have HDr := Lib.hid hdr
  have HInf : Hid ((Try.prog.info? stT).map (fun i => i.size) = some vs.length) := by show _ = _; rw [HV.out]; exact info_st
  have HC1 := Lib.hid hc1
  have HB1 := Lib.hid hb1
  clear hw1 hc1 hb1 hs hdu hdr
  go_enter Try.func3, Try.ntmps3
  go_upto_region 1 with fail
  rw [HW.out]
  obtain ⟨tb, htb⟩ : ∃ tb, W.heap.size = tb := ⟨_, rfl⟩
  rw [htb] at HC1 ⊢
  have HTb := Lib.hid htb
  clear htb
  go_wp2_with fail
  refine (awake_calls w1).mono ?_
  rintro r w2 ⟨rfl, hb2⟩
  have HB2 := Lib.hid (HB1.out.trans (hb2.mono HB1.out.size))
  have HC2 := Lib.hid (cut_below HC1.out hb2)
  clear hb2
  have HFw := Lib.hid (few_calls w2 vs s (HS.out.below HB2.out).a (Nat.le_trans HS.out.enc (by decide)))
  go_wp2_with (refine wpList_load_g (by kernel_rfl) stT (.tmp 1) rfl tb 0 rfl vs dd (cut_range HC2.out) HDu.out HDr.out HInf.out ?_)
  refine HFw.out.mono ?_
  rintro r w3 ⟨rfl, hb3⟩
  have HB3 := Lib.hid (HB2.out.trans (hb3.mono HB2.out.size))
  have HC3 := Lib.hid (cut_below HC2.out hb3)
  clear hb3 HFw
  by_cases hf : fewN s ≤ 300
  case neg =>
    rw [decide_eq_false hf]
    go_wp2_with fail
    go_ret
    exact ⟨rfl, HB3.out⟩
  rw [decide_eq_true hf]
  have HP := Lib.hid (state_few hf HS.out.q)
  clear hf
  have HPk := Lib.hid (pack_calls w3 vs s (PkArg.ofA (HS.out.below HB3.out).a HV.out) HP.out (Nat.le_trans HS.out.enc (by decide)))
  go_wp2_with (refine wpList_load_g (by kernel_rfl) stT (.tmp 1) rfl tb 0 rfl vs dd (cut_range HC3.out) HDu.out HDr.out HInf.out ?_)
  refine HPk.out.mono ?_
  rintro r w4 ⟨u, rfl, hown, hb4⟩
  have HB4 := Lib.hid (HB3.out.trans (hb4.mono HB3.out.size))
  have HC4 := Lib.hid (cut_below HC3.out hb4)
  obtain ⟨a4, c4, rfl, hv4⟩ := ownsRow_bytes hown
  have hle := HS.out.enc
  have HUb : Hid (unB (stateC.enc s) = (s, 0)) := unB_back HP.out
  have HLe : Hid ((stateC.enc s).length ≤ 100000000) := by show _ ≤ _; omega
  have HV4 := Lib.hid hv4
  obtain ⟨L, hL⟩ : ∃ L, (stateC.enc s).length = L := ⟨_, rfl⟩
  have HL := Lib.hid hL
  rw [hL] at HV4 hle ⊢
  clear hown hb4 HPk hv4 hL
  have HUn := Lib.hid (unpack_calls w4 a4 L c4 _ HV4.out (by omega))
  clear hle
  go_wp2_with fail
  refine HUn.out.mono ?_
  rintro r w5 ⟨vs5, rfl, hl5, hH5, hb5⟩
  rw [HUb.out] at hH5 ⊢
  have HOne5 := Lib.hid (state_1.one hH5)
  have HVl5 := Lib.hid hl5
  have HH5 := Lib.hid hH5
  have HB5 := Lib.hid (HB4.out.trans (hb5.mono HB4.out.size))
  have HC5 := Lib.hid (cut_below HC4.out hb5)
  have HV5 := Lib.hid (HV4.out.below stable_byteAt hb5)
  clear hl5 hH5 hb5 HUn
  obtain ⟨t6, w6, hw6, ht6, hc6, hb6⟩ := new_box w5
  have HW6 : Hid (w5.alloc (.cells #[.slice none 0 0, .slice none 0 0, .int .i64 0, .string ⟨#[]⟩, .slice none 0 0, .slice none 0 0, .slice none 0 0, .slice none 0 0, .slice none 0 0, .int .i64 0, .int .i64 0, .int .i64 0, .string ⟨#[]⟩, .slice none 0 0, .int .i64 0, .int .i64 0, .int .i64 0, .int .i64 0, .string ⟨#[]⟩, .slice none 0 0, .int .i64 0, .slice none 0 0, .int .i64 0, .int .i64 0, .int .i64 0, .bool false, .bool false, .bool false, .int .i64 0] stT) = w6) := hw6
  have HT6 := Lib.hid ht6
  have HC6 := Lib.hid hc6
  have HB56 : Hid (Below w5.heap.size w5 (w6.setCells t6 0 vs5)) := hb6.grown (Sl.setCells_grown t6 vs5 0 w6) hb6.size (fun j hj => by have := Option.some.inj hj; omega)
  clear hw6 ht6 hc6 hb6
  go_upto_region 9 with (refine wpList_store_mid rfl stT (.tmp 6) (.tmp 20) rfl w5.heap.size 0 vs5.toArray rfl rfl (by rw [HW6.out, HT6.out]; exact there_cut HC6.out _ (by rw [List.size_toArray, HVl5.out]; exact Nat.le_refl _)) (by rw [List.size_toArray, HVl5.out]; exact info_st) (all_oneCell_toArray HOne5.out) ?_)
  rw [HW6.out, HT6.out]
  have HCt : Hid (Cut t6 vs5 stT (w6.setCells t6 0 vs5)) := set_cut HC6.out (by rw [HVl5.out]; rfl)
  change Code.wp _ _ _ _ (w6.setCells t6 0 vs5)
  generalize w6.setCells t6 0 vs5 = w7 at *
  have HB7 : Hid (Below W.heap.size W w7) := HB5.out.trans (HB56.out.mono HB5.out.size)
  have HC7 := Lib.hid (cut_below HC5.out HB56.out)
  have HV7 := Lib.hid (HV5.out.below stable_byteAt HB56.out)
  have HA7 : Hid (stateA w7 vs5 s) := stateA_below HB56.out (state_HA HH5.out)
  have HPt : Hid (PkArg w7 vs5 s) := (PkArg.of HH5.out HVl5.out).below HB56.out
  refine Rg.wp_region_rgl [] [Rg.Is (.slice a4 L c4), Rg.Is (.string (str (stateC.enc s))), Rg.Is (.agg vs.toArray), (fun v w => ∃ us : List Value, v = .agg us.toArray ∧ us.length = 25 ∧ rStateA w us s), Rg.Is (.string (str (stateC.enc s))), Rg.Is (.bool true), Rg.Is (.bool true), Rg.Is (.int .i64 0), Rg.Is (.bool true), Rg.Is (.bool true), Rg.Is (.bool true), Rg.Is (.agg vs5.toArray), (fun v w => ∃ us : List Value, v = .agg us.toArray ∧ us.length = 25 ∧ rStateA w us s), Rg.Is (.string (str (stateC.enc s))), Rg.Is (.slice a4 L c4), Rg.Is (.string (str (stateC.enc s))), Rg.Is (.bool true), Rg.Is (.bool true), Rg.Is (.bool true), Rg.Is (.agg vs.toArray), Rg.Is (.agg vs5.toArray), Rg.Is (.bool true), Rg.Is (.bool true), Rg.Is (.bool true)] (by kernel_rfl) (by kernel_rfl) (by kernel_rfl) ⟨Rg.st_is _, Rg.st_is _, Rg.st_is _, fun v w w' h hb => h.elim fun us h => ⟨us, h.1, h.2.1, rStateA_below hb h.2.2⟩, Rg.st_is _, Rg.st_is _, Rg.st_is _, Rg.st_is _, Rg.st_is _, Rg.st_is _, Rg.st_is _, Rg.st_is _, fun v w w' h hb => h.elim fun us h => ⟨us, h.1, h.2.1, rStateA_below hb h.2.2⟩, Rg.st_is _, Rg.st_is _, Rg.st_is _, Rg.st_is _, Rg.st_is _, Rg.st_is _, Rg.st_is _, Rg.st_is _, Rg.st_is _, Rg.st_is _, Rg.st_is _, trivial⟩ ⟨rfl, rfl, rfl, rfl, rfl, rfl, rfl, ⟨rfl, fun _ _ h => h⟩, ⟨rfl, fun _ _ h => h⟩, rfl, rfl, ⟨rfl, fun _ _ h => h⟩, ⟨rfl, fun _ _ h => h⟩, ⟨rfl, fun _ _ h => h⟩, ⟨rfl, fun _ _ h => h⟩, ⟨rfl, fun _ _ h => h⟩, ⟨rfl, fun _ _ h => h⟩, rfl, rfl, ⟨rfl, fun _ _ h => h⟩, ⟨rfl, fun _ _ h => h⟩, ⟨rfl, fun _ _ h => h⟩, rfl, rfl, trivial⟩ ⟨?_, ?_, ?_, ?_, ?_, ?_, ?_, ?_, ?_, ?_, ?_, ?_, ?_, ?_, ?_, ?_, ?_, ?_, ?_, ?_, ?_, ?_, ?_, ?_, trivial⟩ ?_
  · intro _ a wx hb hk
    have h5 : a.eval (.tmp 5) = .slice a4 L c4 := Eq.mp (by kernel_rfl) (hk 5 (by decide))
    exact Rg.does_move ⟨Below.refl _ _, h5⟩
  · intro _ a wx hb hk
    have h22 : a.eval (.tmp 22) = .slice a4 L c4 := Eq.mp (by kernel_rfl) (hk 22 (by decide))
    exact Rg.does_convert _ _ h22 (str_bytes (HV7.out.below stable_byteAt (hb.mono (Nat.le_refl _)))) ⟨Below.refl _ _, rfl⟩
  · intro _ a wx hb hk
    have h1 : a.eval (.tmp 1) = .pointer (some ⟨tb, 0, none⟩) := Eq.mp (by kernel_rfl) (hk 1 (by decide))
    exact Rg.does_load _ _ h1 (load_state (cut_below HC7.out hb) HV.out) ⟨Below.refl _ _, rfl⟩
  · intro _ a wx hb hk
    have h24 : a.eval (.tmp 24) = .agg vs.toArray := Eq.mp (by kernel_rfl) (hk 24 (by decide))
    refine Rg.does_func #[.agg vs.toArray] Try.func12 (by kernel_rfl) (by kernel_rfl) (by simp [h24]) (of_calls wx vs s ((stateA_below hb (HS.out.below HB7.out).a)) HLe.out) ?_
    rintro e w' ⟨us, rfl, hul, hus, hb'⟩
    exact ⟨_, rfl, hb', us, rfl, hul, hus⟩
  · intro _ a wx hb hk
    have h25 : (fun v w => ∃ us : List Value, v = .agg us.toArray ∧ us.length = 25 ∧ rStateA w us s) (a.eval (.tmp 25)) wx := Eq.mp (by kernel_rfl) (hk 25 (by decide))
    obtain ⟨us, hu, hul, hus⟩ := h25
    refine Rg.does_func #[.agg us.toArray] Try.func11 (by kernel_rfl) (by kernel_rfl) (by simp [hu]) (ref_pack_calls wx us s hus (state_PQ HP.out) HLe.out) ?_
    rintro e w' ⟨rfl, hb'⟩
    exact ⟨_, rfl, hb', rfl⟩
  · intro _ a wx hb hk
    have h23 : a.eval (.tmp 23) = .string (str (stateC.enc s)) := Eq.mp (by kernel_rfl) (hk 23 (by decide))
    have h26 : a.eval (.tmp 26) = .string (str (stateC.enc s)) := Eq.mp (by kernel_rfl) (hk 26 (by decide))
    exact Rg.does_same_string _ h23 h26 ⟨Below.refl _ _, rfl⟩
  · intro _ a wx hb hk
    have h27 : a.eval (.tmp 27) = .bool true := Eq.mp (by kernel_rfl) (hk 27 (by decide))
    exact Rg.does_move ⟨Below.refl _ _, h27⟩
  · intro _ a wx hb hk
    have h7 : a.eval (.tmp 7) = .int .i64 0 := Eq.mp (by kernel_rfl) (hk 7 (by decide))
    exact Rg.does_move ⟨Below.refl _ _, h7⟩
  · intro _ a wx hb hk
    have h29 : a.eval (.tmp 29) = .int .i64 0 := Eq.mp (by kernel_rfl) (hk 29 (by decide))
    exact Rg.does_same_int .i64 0 h29 rfl ⟨Below.refl _ _, rfl⟩
  · intro _ a wx hb hk
    have h28 : a.eval (.tmp 28) = .bool true := Eq.mp (by kernel_rfl) (hk 28 (by decide))
    have h30 : a.eval (.tmp 30) = .bool true := Eq.mp (by kernel_rfl) (hk 30 (by decide))
    exact Rg.does_pick true h28 ⟨Below.refl _ _, h30⟩
  · intro _ a wx hb hk
    have h31 : a.eval (.tmp 31) = .bool true := Eq.mp (by kernel_rfl) (hk 31 (by decide))
    exact Rg.does_move ⟨Below.refl _ _, h31⟩
  · intro _ a wx hb hk
    have h6 : a.eval (.tmp 6) = .pointer (some ⟨t6, 0, none⟩) := Eq.mp (by kernel_rfl) (hk 6 (by decide))
    exact Rg.does_load _ _ h6 (load_state (cut_below HCt.out hb) HVl5.out) ⟨Below.refl _ _, rfl⟩
  · intro _ a wx hb hk
    have h33 : a.eval (.tmp 33) = .agg vs5.toArray := Eq.mp (by kernel_rfl) (hk 33 (by decide))
    refine Rg.does_func #[.agg vs5.toArray] Try.func12 (by kernel_rfl) (by kernel_rfl) (by simp [h33]) (of_calls wx vs5 s ((stateA_below hb HA7.out)) HLe.out) ?_
    rintro e w' ⟨us, rfl, hul, hus, hb'⟩
    exact ⟨_, rfl, hb', us, rfl, hul, hus⟩
  · intro _ a wx hb hk
    have h34 : (fun v w => ∃ us : List Value, v = .agg us.toArray ∧ us.length = 25 ∧ rStateA w us s) (a.eval (.tmp 34)) wx := Eq.mp (by kernel_rfl) (hk 34 (by decide))
    obtain ⟨us, hu, hul, hus⟩ := h34
    refine Rg.does_func #[.agg us.toArray] Try.func11 (by kernel_rfl) (by kernel_rfl) (by simp [hu]) (ref_pack_calls wx us s hus (state_PQ HP.out) HLe.out) ?_
    rintro e w' ⟨rfl, hb'⟩
    exact ⟨_, rfl, hb', rfl⟩
  · intro _ a wx hb hk
    have h5 : a.eval (.tmp 5) = .slice a4 L c4 := Eq.mp (by kernel_rfl) (hk 5 (by decide))
    exact Rg.does_move ⟨Below.refl _ _, h5⟩
  · intro _ a wx hb hk
    have h36 : a.eval (.tmp 36) = .slice a4 L c4 := Eq.mp (by kernel_rfl) (hk 36 (by decide))
    exact Rg.does_convert _ _ h36 (str_bytes (HV7.out.below stable_byteAt (hb.mono (Nat.le_refl _)))) ⟨Below.refl _ _, rfl⟩
  · intro _ a wx hb hk
    have h35 : a.eval (.tmp 35) = .string (str (stateC.enc s)) := Eq.mp (by kernel_rfl) (hk 35 (by decide))
    have h37 : a.eval (.tmp 37) = .string (str (stateC.enc s)) := Eq.mp (by kernel_rfl) (hk 37 (by decide))
    exact Rg.does_same_string _ h35 h37 ⟨Below.refl _ _, rfl⟩
  · intro _ a wx hb hk
    have h32 : a.eval (.tmp 32) = .bool true := Eq.mp (by kernel_rfl) (hk 32 (by decide))
    have h38 : a.eval (.tmp 38) = .bool true := Eq.mp (by kernel_rfl) (hk 38 (by decide))
    exact Rg.does_pick true h32 ⟨Below.refl _ _, h38⟩
  · intro _ a wx hb hk
    have h39 : a.eval (.tmp 39) = .bool true := Eq.mp (by kernel_rfl) (hk 39 (by decide))
    exact Rg.does_move ⟨Below.refl _ _, h39⟩
  · intro _ a wx hb hk
    have h1 : a.eval (.tmp 1) = .pointer (some ⟨tb, 0, none⟩) := Eq.mp (by kernel_rfl) (hk 1 (by decide))
    exact Rg.does_load _ _ h1 (load_state (cut_below HC7.out hb) HV.out) ⟨Below.refl _ _, rfl⟩
  · intro _ a wx hb hk
    have h6 : a.eval (.tmp 6) = .pointer (some ⟨t6, 0, none⟩) := Eq.mp (by kernel_rfl) (hk 6 (by decide))
    exact Rg.does_load _ _ h6 (load_state (cut_below HCt.out hb) HVl5.out) ⟨Below.refl _ _, rfl⟩
  · intro _ a wx hb hk
    have h41 : a.eval (.tmp 41) = .agg vs.toArray := Eq.mp (by kernel_rfl) (hk 41 (by decide))
    have h42 : a.eval (.tmp 42) = .agg vs5.toArray := Eq.mp (by kernel_rfl) (hk 42 (by decide))
    refine Rg.does_func #[.agg vs.toArray, .agg vs5.toArray] Try.func13 (by kernel_rfl) (by kernel_rfl) (by simp [h41, h42]) (same_calls wx vs vs5 s s ((PkArg.ofA (HS.out.below HB7.out).a HV.out).below hb) (HPt.out.below hb) HP.out HP.out HLe.out HLe.out) ?_
    rintro e w' ⟨he, hb'⟩
    subst he
    exact ⟨_, rfl, hb', congrArg Value.bool (decide_eq_true rfl)⟩
  · intro _ a wx hb hk
    have h40 : a.eval (.tmp 40) = .bool true := Eq.mp (by kernel_rfl) (hk 40 (by decide))
    have h43 : a.eval (.tmp 43) = .bool true := Eq.mp (by kernel_rfl) (hk 43 (by decide))
    exact Rg.does_pick true h40 ⟨Below.refl _ _, h43⟩
  · intro _ a wx hb hk
    have h44 : a.eval (.tmp 44) = .bool true := Eq.mp (by kernel_rfl) (hk 44 (by decide))
    exact Rg.does_assign ⟨Below.refl _ _, h44⟩
  intro vals wD hbD hL
  obtain ⟨g0, g1, g2, g3, g4, g5, g6, g7, g8, g9, g10, g11, g12, g13, g14, g15, g16, g17, g18, g19, g20, g21, g22, g23, _⟩ := hL
  have g23' : vals 23 = .bool true := g23
  have HBD := Lib.hid hbD
  clear g0 g1 g2 g3 g4 g5 g6 g7 g8 g9 g10 g11 g12 g13 g14 g15 g16 g17 g18 g19 g20 g21 g22 g23 hbD
  simp only [Rg.putAll, List.setIfInBounds_toArray, List.set_cons_succ, List.set_cons_zero, g23']
  go_wp2_with fail
  go_ret
  exact ⟨rfl, HB7.out.trans (HBD.out.mono HB7.out.size)⟩
end Go.Proofs.Ytnmlnaoljkhjeaa
