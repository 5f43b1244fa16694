/-
  Store: Near. Conditions: as each contract says.
-/
import Derived.Test.YtmhofdoifgfjfaaSoKeep
import Derived.Test.YtmhofdoifgfjfaaRegionL
set_option linter.unusedVariables false
set_option maxRecDepth 100000
namespace Go.Proofs.Ytmhofdoifgfjfaa
open Go.RowKit Base

/-- What 'Near' tells. -/
def NearPost (W : World) (pl : List Int) (f : Int → StateD) (p : Int) (r : Ending) (W' : World) : Prop :=
  (∃ us : List Value, r = .returned (.tuple #[.int .i64 (if uptoN pl p = 0 then 0 else nearB pl p), .agg us.toArray, .bool (decide (uptoN pl p ≠ 0))]) ∧ us.length = 29 ∧ (uptoN pl p ≠ 0 → stateH W' us (f (nearB pl p))) ∧ (uptoN pl p = 0 → us = stZ)) ∧ Below W.heap.size W W'
theorem results_cell3 {fn : Func} {t0 t1 t2 : Tmp} {ty : TypeId} (h : fn.results = #[.tmp t0, .cell t1 ty, .tmp t2]) (tmps : Array Value) (P : Program) (w : World) (b : Nat) (v : Value) (ht : tmps.getD t1 undef = .pointer (some ⟨b, 0, none⟩))
    (hl : (loadVar ty ⟨b, 0, none⟩).run P w = .ok v w) : (results fn tmps).run P w = .ok (.tuple #[tmps.getD t0 undef, v, tmps.getD t2 undef]) w := by
  have ht' : tmps[t1]?.getD undef = .pointer (some ⟨b, 0, none⟩) := by simpa using ht
  simp [results, h, ht', asAddr, hl]
theorem does_look {P : Program} {a : Act} {w : World} {post : Value → World → Prop} {dst : Option Tmp} {x y : Operand} {t : TypeId} {ty : TypeId} {pos : String} {after : Array Edge} {guard : Option (Nat × Bool)} (m k v : Value)
    (hx : a.eval x = m) (hy : a.eval y = k) (hr : (Instr.lookup t m k false).run P w = .ok v w) (hp : post v w) : Rg.does P { dst, op := .lookup t x y false, type := ty, pos, after, guard } a w post := by
  refine Rg.does_value (v := v) ?_ hp
  simp [execOp, hx, hy, hr, Result.andThen]
theorem run_alloc_st (w : World) : (Instr.alloc stT true (.tuple #[])).run Try.prog w = .ok (.pointer (some ⟨w.heap.size, 0, none⟩)) (w.alloc (.cells Z29 stT)) := by rfl
theorem stateH_below {W W' : World} {vs : List Value} {s : StateD} (h : stateH W vs s) (hb : Below W.heap.size W W') : stateH W' vs s := state_st.keep h (fun k c t fr hk _ => hb.block k (Array.getElem?_eq_some_iff.1 hk).1)
theorem grown_kept {S : TypeId → Bool} {w w' : World} {b : Nat} {us : List Value} {t : TypeId} (hc : Cut b us t w) (hs : S t = false) (hg : w.grownBy w' (some b)) : Kept S w w' := by
  intro k c t' fr hk ht
  refine hg.block k (Array.getElem?_eq_some_iff.1 hk).1 (fun e => ?_)
  obtain rfl : b = k := Option.some.inj e |> fun h => by omega
  have := hk.symm.trans hc
  injection this with this
  injection this with _ this _
  rw [this, hs] at ht
  cases ht
set_option maxHeartbeats 4000000 in
theorem near_calls (W : World) (B s m : Nat) (v : Value) (ev mo : Int) (pl : List Int) (f : Int → StateD) (n : Nat) (p : Int) (h : Sto W B s m v ev mo pl f n) (hp : I64 p) (hn : n ≤ 10000) :
    Calls Try.prog 11 #[.pointer (some ⟨s, 0, none⟩), .int .i64 p] W (NearPost W pl f p) := by
  obtain ⟨ar, cr, hv0, hints⟩ := own_ints h.row
  subst hv0
  obtain ⟨w1, hw1, hc1, hb1⟩ : ∃ w1, W.alloc (.cells Z29 stT) = w1 ∧ Cut W.heap.size stZ stT w1 ∧ Below W.heap.size W w1 := ⟨_, rfl, heap_alloc_new W _, (Below.refl W.heap.size W).alloc (Nat.le_refl _) _⟩
  have HW : Hid (W.alloc (.cells #[.slice none 0 0, .slice none 0 0, .int .i64 0, .string ⟨#[]⟩, .slice none 0 0, .slice none 0 0, .slice none 0 0, .slice none 0 0, .slice none 0 0, .int .i64 0, .int .i64 0, .int .i64 0, .string ⟨#[]⟩, .slice none 0 0, .int .i64 0, .int .i64 0, .int .i64 0, .int .i64 0, .string ⟨#[]⟩, .slice none 0 0, .int .i64 0, .slice none 0 0, .int .i64 0, .int .i64 0, .int .i64 0, .bool false, .bool false, .bool false, .int .i64 0] stT) = w1) := hw1
  have HC1 := Lib.hid hc1
  have HB1 := Lib.hid hb1
  have HS := Lib.hid h
  have HI := Lib.hid hp
  have hln : pl.length ≤ 10000 := Nat.le_trans h.ln hn
  have hS1 := h.below hb1
  have HIn1 := Lib.hid (hints.below (stable_intAt _) hb1)
  obtain ⟨⟨y0, y1, y2, y3⟩, f0, f1, f2, f3⟩ := so_cells hS1.box
  clear hw1 hc1 hb1 h hp hints hS1
  obtain ⟨dd, hdu, hdr⟩ := Option.map_eq_some_iff.1 und_st
  have HDu := Lib.hid hdu
  have HDr := Lib.hid hdr
  clear hdu hdr
  go_enter Try.func11, Try.ntmps11
  go_upto_region 1 with fail
  rw [HW.out]
  obtain ⟨tb, htb⟩ : ∃ tb, W.heap.size = tb := ⟨_, rfl⟩
  have HTb := Lib.hid htb
  rw [htb] at HC1 ⊢
  clear htb
  go_wp2_with fail
  refine (search_calls w1 ar cr pl p HIn1.out HS.out.up (by omega)).mono ?_
  rintro r w2 ⟨rfl, hb2⟩
  have HB2 := Lib.hid (HB1.out.trans (hb2.mono HB1.out.size))
  have HC2 := Lib.hid (cut_below HC1.out hb2)
  have HBs := Lib.hid hb2
  have HUp := Lib.hid (upto_lows HS.out.up p)
  clear hb2 y0 y1 y2 y3 f0 f1 f2 f3
  obtain ⟨⟨y0, y1, y2, y3⟩, f0, f1, f2, f3⟩ := so_cells (HS.out.below HB2.out).box
  obtain ⟨u, hu⟩ : ∃ u, uptoN pl p = u := ⟨_, rfl⟩
  have HU := Lib.hid hu
  have hlw := lowsN_le pl p
  have HCut : Hid ((lowsN pl p : Int) - (if p ∈ pl then 0 else 1) = (u : Int) - 1) := by
    show _ = _
    have := HUp.out
    rw [hu] at this
    split <;> rename_i hm
    · rw [if_pos hm] at this; omega
    · rw [if_neg hm] at this; omega
  clear hu
  go_upto_if 24 with fail
  go_cut [7, 8] (fun s7 s8 wx => s7 = .int .i64 ((u : Int) - 1) ∧ wx = w2)
  case first =>
    have e1 := HCut.out
    by_cases hm : p ∈ pl
    · rw [if_pos hm] at e1
      rw [decide_eq_true hm]
      go_wp2_with fail
      go_meet
      exact ⟨by rw [← e1]; simp, rfl⟩
    · rw [if_neg hm] at e1
      rw [decide_eq_false hm]
      go_wp2_with fail
      go_meet
      exact ⟨by rw [← e1], rfl⟩
  case rest =>
    obtain ⟨rfl, hw⟩ := hcut
    have hw2 := hw.symm
    subst hw2
    clear hw
    have HB2l : Hid (tb < w2.heap.size) := HC2.out.lt
    by_cases h0 : u = 0
    · subst h0
      have u1 : decide (((0 : Nat) : Int) - 1 < 0) = true := by decide
      go_wp2_with (refine wpList_store_mid rfl stT (.tmp 5) (.tmp 29) rfl tb 0 stZ.toArray rfl rfl (there_cut HC2.out _ (Nat.le_refl _)) info_st (all_oneCell_toArray (state_1.one (zero_state W))) ?_; (obtain ⟨wL, hwL⟩ : ∃ x, w2.setCells tb 0 stZ.toArray.toList = x := ⟨_, rfl⟩); have HWL := Lib.hid hwL; (refine (congrArg (wpList _ _ _ _ _) hwL).mpr ?_); clear hwL)
      have hwl : wL = w2 := by
        rw [← HWL.out]
        exact setCells_self tb stZ 0 w2 (fun j hj => by rw [Nat.zero_add, HC2.out.cell, List.getElem?_eq_getElem hj])
      subst hwl
      refine bodyPost_ret (results_cell3 rfl _ _ _ tb (.agg stZ.toArray) rfl (loadv_cut HC2.out und_st info_st)) rfl ?_
      unfold NearPost
      rw [HU.out]
      exact ⟨⟨stZ, rfl, rfl, fun h => absurd rfl h, fun _ => rfl⟩, HB2.out⟩
    · have u1 : decide ((u : Int) - 1 < 0) = false := decide_eq_false (by omega)
      have u2 : ¬ (u : Int) - 1 < 0 := by omega
      obtain ⟨k, rfl⟩ : ∃ k, u = k + 1 := ⟨u - 1, by omega⟩
      rw [show ((k + 1 : Nat) : Int) - 1 = (k : Int) by omega] at u1 u2 ⊢
      have hnr := near_at HS.out.up (p := p) (by rw [HU.out]; exact h0)
      rw [HU.out, Nat.add_sub_cancel] at hnr
      have hkl : k < pl.length := hnr.1
      have hnx : nearB pl p = pl[k] := by
        unfold nearB
        rw [HU.out, if_neg h0, Nat.add_sub_cancel, List.getD_eq_getElem?_getD, List.getElem?_eq_getElem hkl, Option.getD_some]
      have hS2 := HS.out.below HB2.out
      obtain ⟨D, hD, hKp⟩ := hS2.map
      obtain ⟨uu, hka, hown⟩ := hKp (nearB pl p) hnr.2.1
      obtain ⟨hfP, hfL⟩ := HS.out.fine (nearB pl p) hnr.2.1
      have hlo := HS.out.lo (nearB pl p) hnr.2.1
      obtain ⟨bb, o, hc, hix⟩ := at_ints (HIn1.out.below (stable_intAt _) (show Below w1.heap.size w1 w2 from HBs.out))
      have e0 := hc k hkl
      rw [← hnx] at e0
      have HE0 := Lib.hid e0
      have HIx := Lib.hid fun kd w' => hix kd k w' hkl
      have HNe := Lib.hid hnr
      generalize hxe : nearB pl p = x at *
      have HXe := Lib.hid hxe
      clear hxe
      have HX : Hid (I64 x) := ⟨by omega, by omega⟩
      obtain ⟨au, cu, rfl, hby⟩ := ownsRow_bytes hown
      have HLk : Hid (∀ w', Below w2.heap.size w2 w' → (Instr.lookup 58 (.map (some m)) (.int .i64 x) false).run Try.prog w' = .ok (.slice au (stateC.enc (f x)).length cu) w') := fun w' hb => look_kept (hD.kept (Sl.grown_below hb none) (by simp)) HX.out hka
      have HBy := Lib.hid hby
      have HUb : Hid (unB (stateC.enc (f x)) = (f x, 0)) := unB_back hfP
      have HFl := Lib.hid hfL
      have HY2 := Lib.hid y2
      have HY3 := Lib.hid y3
      clear hnr hnx hS2 hD hKp hka hown hfP hfL hlo hc hix e0 hby
      go_upto_region 8 with fail
      clear y0 y1 y2 y3 f0 f1 f2 f3 u1 u2
      refine Rg.wp_region_rgtL 17 15 [] [Rg.Is (.pointer (some ⟨s, 0, none⟩)), Rg.Is (.pointer (some ⟨s, 0, none⟩)), Rg.Is (.pointer (some ⟨s, 3, none⟩)), Rg.Is (.map (some m)), Rg.Is (.pointer (some ⟨s, 0, none⟩)), Rg.Is (.pointer (some ⟨s, 0, none⟩)), Rg.Is (.pointer (some ⟨s, 2, none⟩)), Rg.Is (.slice ar pl.length cr), Rg.Is (.int .i64 (k : Int)), Rg.Is (.pointer (some ⟨bb, o + k, none⟩)), Rg.Is (.int .i64 x), Rg.Is (.slice au (stateC.enc (f x)).length cu), (fun v x' => ∃ us : List Value, v = .tuple #[.agg us.toArray, .int .i64 0] ∧ us.length = 29 ∧ stateH x' us (f x)), (fun v x' => ∃ us : List Value, v = .tuple #[.agg us.toArray, .int .i64 0] ∧ us.length = 29 ∧ stateH x' us (f x)), (fun v x' => ∃ us : List Value, v = .agg us.toArray ∧ us.length = 29 ∧ stateH x' us (f x)), Rg.Is (.int .i64 0), (fun v x' => ∃ t, v = .pointer (some ⟨t, 0, none⟩) ∧ w2.heap.size ≤ t ∧ Cut t stZ stT x')] (by kernel_rfl) (by kernel_rfl) (of_decide_eq_true (by kernel_rfl)) (by kernel_rfl) (by kernel_rfl) ⟨Rg.st_is _, Rg.st_is _, Rg.st_is _, Rg.st_is _, Rg.st_is _, Rg.st_is _, Rg.st_is _, Rg.st_is _, Rg.st_is _, Rg.st_is _, Rg.st_is _, Rg.st_is _, fun v w w' h hb => by obtain ⟨us, h1, h2, h3⟩ := h; exact ⟨us, h1, h2, stateH_below h3 hb⟩, fun v w w' h hb => by obtain ⟨us, h1, h2, h3⟩ := h; exact ⟨us, h1, h2, stateH_below h3 hb⟩, fun v w w' h hb => by obtain ⟨us, h1, h2, h3⟩ := h; exact ⟨us, h1, h2, stateH_below h3 hb⟩, Rg.st_is _, fun v w w' h hb => by obtain ⟨t, h1, h2, h3⟩ := h; exact ⟨t, h1, h2, cut_below h3 hb⟩, trivial⟩ ⟨rfl, rfl, rfl, rfl, rfl, rfl, rfl, rfl, rfl, rfl, rfl, rfl, rfl, rfl, rfl, rfl, rfl, trivial⟩ ⟨?_, ?_, ?_, ?_, ?_, ?_, ?_, ?_, ?_, ?_, ?_, ?_, ?_, ?_, ?_, ?_, ?_, trivial⟩ _ (by decide) rfl (by kernel_rfl) rfl (fun _ _ _ _ h => h) ?_ ?_
      · intro _ a wx hb hk
        have h0 : a.eval (.tmp 0) = .pointer (some ⟨s, 0, none⟩) := Eq.mp (by kernel_rfl) (hk 0 (by decide))
        exact Rg.does_move ⟨Below.refl _ _, h0⟩
      · intro _ a wx hb hk
        have h31 : a.eval (.tmp 31) = .pointer (some ⟨s, 0, none⟩) := Eq.mp (by kernel_rfl) (hk 31 (by decide))
        exact Ap.does_nil _ h31 ⟨Below.refl _ _, rfl⟩
      · intro _ a wx hb hk
        have h32 : a.eval (.tmp 32) = .pointer (some ⟨s, 0, none⟩) := Eq.mp (by kernel_rfl) (hk 32 (by decide))
        exact Rs.does_field _ _ h32 (fld_so s 3 (by decide) wx) ⟨Below.refl _ _, rfl⟩
      · intro _ a wx hb hk
        have h33 : a.eval (.tmp 33) = .pointer (some ⟨s, 3, none⟩) := Eq.mp (by kernel_rfl) (hk 33 (by decide))
        exact Rg.does_load _ _ h33 (load_kmap (cell_below hb (Nat.le_refl _) HY3.out)) ⟨Below.refl _ _, rfl⟩
      · intro _ a wx hb hk
        have h0 : a.eval (.tmp 0) = .pointer (some ⟨s, 0, none⟩) := Eq.mp (by kernel_rfl) (hk 0 (by decide))
        exact Rg.does_move ⟨Below.refl _ _, h0⟩
      · intro _ a wx hb hk
        have h35 : a.eval (.tmp 35) = .pointer (some ⟨s, 0, none⟩) := Eq.mp (by kernel_rfl) (hk 35 (by decide))
        exact Ap.does_nil _ h35 ⟨Below.refl _ _, rfl⟩
      · intro _ a wx hb hk
        have h36 : a.eval (.tmp 36) = .pointer (some ⟨s, 0, none⟩) := Eq.mp (by kernel_rfl) (hk 36 (by decide))
        exact Rs.does_field _ _ h36 (fld_so s 2 (by decide) wx) ⟨Below.refl _ _, rfl⟩
      · intro _ a wx hb hk
        have h37 : a.eval (.tmp 37) = .pointer (some ⟨s, 2, none⟩) := Eq.mp (by kernel_rfl) (hk 37 (by decide))
        exact Rg.does_load _ _ h37 (load_ints (cell_below hb (Nat.le_refl _) HY2.out)) ⟨Below.refl _ _, rfl⟩
      · intro _ a wx hb hk
        have h7 : a.eval (.tmp 7) = .int .i64 (k : Int) := Eq.mp (by kernel_rfl) (hk 7 (by decide))
        exact Rg.does_move ⟨Below.refl _ _, h7⟩
      · intro _ a wx hb hk
        have h38 : a.eval (.tmp 38) = .slice ar pl.length cr := Eq.mp (by kernel_rfl) (hk 38 (by decide))
        have h39 : a.eval (.tmp 39) = .int .i64 (k : Int) := Eq.mp (by kernel_rfl) (hk 39 (by decide))
        exact Rg.does_index _ _ _ h38 h39 (HIx.out .i64 wx) ⟨Below.refl _ _, rfl⟩
      · intro _ a wx hb hk
        have h40 : a.eval (.tmp 40) = .pointer (some ⟨bb, o + k, none⟩) := Eq.mp (by kernel_rfl) (hk 40 (by decide))
        exact Rg.does_load _ _ h40 (load_int1 (cell_below hb (Nat.le_refl _) HE0.out)) ⟨Below.refl _ _, rfl⟩
      · intro _ a wx hb hk
        have h34 : a.eval (.tmp 34) = .map (some m) := Eq.mp (by kernel_rfl) (hk 34 (by decide))
        have h41 : a.eval (.tmp 41) = .int .i64 x := Eq.mp (by kernel_rfl) (hk 41 (by decide))
        exact does_look _ _ _ h34 h41 (HLk.out wx hb) ⟨Below.refl _ _, rfl⟩
      · intro _ a wx hb hk
        have h42 : a.eval (.tmp 42) = .slice au (stateC.enc (f x)).length cu := Eq.mp (by kernel_rfl) (hk 42 (by decide))
        refine Rg.does_func #[.slice au (stateC.enc (f x)).length cu] Try.func21 (by kernel_rfl) (by kernel_rfl) (by simp [h42]) (unpack_calls wx au _ cu _ (HBy.out.below stable_byteAt hb) (Nat.le_trans HFl.out (by decide))) ?_
        rintro e w' ⟨us, rfl, hul, hus, hb'⟩
        rw [HUb.out] at hus ⊢
        exact ⟨_, rfl, hb', us, rfl, hul, hus⟩
      · intro _ a wx hb hk
        have h43 : (fun v x' => ∃ us : List Value, v = .tuple #[.agg us.toArray, .int .i64 0] ∧ us.length = 29 ∧ stateH x' us (f x)) (a.eval (.tmp 43)) wx := Eq.mp (by kernel_rfl) (hk 43 (by decide))
        exact Rg.does_move ⟨Below.refl _ _, h43⟩
      · intro _ a wx hb hk
        have h30 : (fun v x' => ∃ us : List Value, v = .tuple #[.agg us.toArray, .int .i64 0] ∧ us.length = 29 ∧ stateH x' us (f x)) (a.eval (.tmp 30)) wx := Eq.mp (by kernel_rfl) (hk 30 (by decide))
        obtain ⟨us, h1, h2, h3⟩ := h30
        exact Ap.does_extract _ _ h1 rfl ⟨Below.refl _ _, us, rfl, h2, h3⟩
      · intro _ a wx hb hk
        have h30 : (fun v x' => ∃ us : List Value, v = .tuple #[.agg us.toArray, .int .i64 0] ∧ us.length = 29 ∧ stateH x' us (f x)) (a.eval (.tmp 30)) wx := Eq.mp (by kernel_rfl) (hk 30 (by decide))
        obtain ⟨us, h1, h2, h3⟩ := h30
        exact Ap.does_extract _ _ h1 rfl ⟨Below.refl _ _, rfl⟩
      · intro _ a wx hb hk
        have hal := (Below.refl wx.heap.size wx).alloc (Nat.le_refl _) (.cells Z29 stT)
        exact Ap.does_alloc _ (run_alloc_st wx) ⟨hal, wx.heap.size, rfl, hb.size, heap_alloc_new wx _⟩
      · intro a wx hb hk
        have h30 : (fun v x' => ∃ us : List Value, v = .tuple #[.agg us.toArray, .int .i64 0] ∧ us.length = 29 ∧ stateH x' us (f x)) (a.eval (.tmp 30)) wx := Eq.mp (by kernel_rfl) (hk 30 (by decide))
        obtain ⟨us, h1, h2, h3⟩ := h30
        exact ⟨_, Rg.pure_extract _ _ h1 rfl, rfl⟩
      intro vals wD hbD hL
      obtain ⟨g0, g1, g2, g3, g4, g5, g6, g7, g8, g9, g10, g11, g12, g13, g14, g15, g16, _⟩ := hL
      have g14' : ∃ us : List Value, vals 14 = .agg us.toArray ∧ us.length = 29 ∧ stateH wD us (f x) := g14
      have g16' : ∃ t, vals 16 = .pointer (some ⟨t, 0, none⟩) ∧ w2.heap.size ≤ t ∧ Cut t stZ stT wD := g16
      obtain ⟨us, e14, hul, hus⟩ := g14'
      obtain ⟨t9, e16, ht9, hct⟩ := g16'
      simp only [Rg.putAll, List.take_succ_cons, List.take_zero, List.drop_succ_cons, List.drop_zero, List.setIfInBounds_toArray, List.set_cons_succ, List.set_cons_zero, e14, e16]
      have HUl := Lib.hid hul
      have HUs := Lib.hid hus
      have HCt := Lib.hid hct
      have HT9 := Lib.hid ht9
      have HBD := Lib.hid hbD
      have HOne := Lib.hid (state_1.one hus)
      clear g0 g1 g2 g3 g4 g5 g6 g7 g8 g9 g10 g11 g12 g13 g14 g15 g16 e14 e16 hul hus hct ht9 hbD
      go_upto_region 9 with (refine wpList_store_mid rfl stT (.tmp 9) (.tmp 44) rfl t9 0 us.toArray rfl rfl (there_cut HCt.out _ (by rw [List.size_toArray, HUl.out]; exact Nat.le_refl _)) (by rw [List.size_toArray, HUl.out]; exact info_st) (all_oneCell_toArray HOne.out) ?_; (obtain ⟨wL, hwL⟩ : ∃ x, wD.setCells t9 0 us.toArray.toList = x := ⟨_, rfl⟩); have HWL := Lib.hid hwL; (refine (congrArg (wpList _ _ _ _ _) hwL).mpr ?_); clear hwL)
      have hgL := Sl.setCells_grown t9 us 0 wD
      have hcL : Cut t9 us stT (wD.setCells t9 0 us) := set_cut HCt.out (by rw [HUl.out]; rfl)
      have HWL2 : Hid (wD.setCells t9 0 us = wL) := HWL.out
      rw [HWL2.out] at hgL hcL
      have HsL : Hid (stateH wL us (f x)) := state_st.keep HUs.out (grown_kept HCt.out rfl hgL)
      have HBL : Hid (Below w2.heap.size w2 wL) := HBD.out.grown hgL HBD.out.size (fun j hj => by have := Option.some.inj hj; have := HT9.out; omega)
      have HCL := Lib.hid hcL
      clear hgL hcL
      refine Rg.wp_region_rgt 9 [] [Rg.Is (.pointer (some ⟨s, 0, none⟩)), Rg.Is (.pointer (some ⟨s, 0, none⟩)), Rg.Is (.pointer (some ⟨s, 2, none⟩)), Rg.Is (.slice ar pl.length cr), Rg.Is (.int .i64 (k : Int)), Rg.Is (.pointer (some ⟨bb, o + k, none⟩)), Rg.Is (.int .i64 x), Rg.Is (.agg us.toArray), Rg.Is (.int .i64 x)] (by kernel_rfl) (by kernel_rfl) (of_decide_eq_true (by kernel_rfl)) (by kernel_rfl) (by kernel_rfl) ⟨Rg.st_is _, Rg.st_is _, Rg.st_is _, Rg.st_is _, Rg.st_is _, Rg.st_is _, Rg.st_is _, Rg.st_is _, Rg.st_is _, trivial⟩ ⟨rfl, rfl, rfl, rfl, rfl, rfl, rfl, rfl, rfl, trivial⟩ ⟨?_, ?_, ?_, ?_, ?_, ?_, ?_, ?_, ?_, trivial⟩ ?_
      · intro _ a wx hb hk
        have h0 : a.eval (.tmp 0) = .pointer (some ⟨s, 0, none⟩) := Eq.mp (by kernel_rfl) (hk 0 (by decide))
        exact Rg.does_move ⟨Below.refl _ _, h0⟩
      · intro _ a wx hb hk
        have h46 : a.eval (.tmp 46) = .pointer (some ⟨s, 0, none⟩) := Eq.mp (by kernel_rfl) (hk 46 (by decide))
        exact Ap.does_nil _ h46 ⟨Below.refl _ _, rfl⟩
      · intro _ a wx hb hk
        have h47 : a.eval (.tmp 47) = .pointer (some ⟨s, 0, none⟩) := Eq.mp (by kernel_rfl) (hk 47 (by decide))
        exact Rs.does_field _ _ h47 (fld_so s 2 (by decide) wx) ⟨Below.refl _ _, rfl⟩
      · intro _ a wx hb hk
        have h48 : a.eval (.tmp 48) = .pointer (some ⟨s, 2, none⟩) := Eq.mp (by kernel_rfl) (hk 48 (by decide))
        exact Rg.does_load _ _ h48 (load_ints (cell_below (HBL.out.trans (hb.mono HBL.out.size)) (Nat.le_refl _) HY2.out)) ⟨Below.refl _ _, rfl⟩
      · intro _ a wx hb hk
        have h7 : a.eval (.tmp 7) = .int .i64 (k : Int) := Eq.mp (by kernel_rfl) (hk 7 (by decide))
        exact Rg.does_move ⟨Below.refl _ _, h7⟩
      · intro _ a wx hb hk
        have h49 : a.eval (.tmp 49) = .slice ar pl.length cr := Eq.mp (by kernel_rfl) (hk 49 (by decide))
        have h50 : a.eval (.tmp 50) = .int .i64 (k : Int) := Eq.mp (by kernel_rfl) (hk 50 (by decide))
        exact Rg.does_index _ _ _ h49 h50 (HIx.out .i64 wx) ⟨Below.refl _ _, rfl⟩
      · intro _ a wx hb hk
        have h51 : a.eval (.tmp 51) = .pointer (some ⟨bb, o + k, none⟩) := Eq.mp (by kernel_rfl) (hk 51 (by decide))
        exact Rg.does_load _ _ h51 (load_int1 (cell_below (HBL.out.trans (hb.mono HBL.out.size)) (Nat.le_refl _) HE0.out)) ⟨Below.refl _ _, rfl⟩
      · intro _ a wx hb hk
        have h9 : a.eval (.tmp 9) = .pointer (some ⟨t9, 0, none⟩) := Eq.mp (by kernel_rfl) (hk 9 (by decide))
        exact Rg.does_load _ _ h9 (load_state (cut_below HCL.out hb) HUl.out) ⟨Below.refl _ _, rfl⟩
      · intro _ a wx hb hk
        have h52 : a.eval (.tmp 52) = .int .i64 x := Eq.mp (by kernel_rfl) (hk 52 (by decide))
        exact Rg.does_assign ⟨Below.refl _ _, h52⟩
      intro vals wE hbD hL
      obtain ⟨g0, g1, g2, g3, g4, g5, g6, g7, g8, _⟩ := hL
      have e7 : vals 7 = .agg us.toArray := g7
      have e8 : vals 8 = .int .i64 x := g8
      simp only [Rg.putAll, List.take_succ_cons, List.take_zero, List.drop_succ_cons, List.drop_zero, List.setIfInBounds_toArray, List.set_cons_succ, List.set_cons_zero, e7, e8]
      have HBE := Lib.hid hbD
      have HCE : Hid (Cut tb stZ stT wE) := cut_below HC2.out (HBL.out.trans (hbD.mono HBL.out.size))
      have HSE : Hid (stateH wE us (f x)) := stateH_below HsL.out hbD
      clear g0 g1 g2 g3 g4 g5 g6 g7 g8 e7 e8 hbD
      go_wp2_with (refine wpList_store_mid rfl stT (.tmp 5) (.tmp 53) rfl tb 0 us.toArray rfl rfl (there_cut HCE.out _ (by rw [List.size_toArray, HUl.out]; exact Nat.le_refl _)) (by rw [List.size_toArray, HUl.out]; exact info_st) (all_oneCell_toArray HOne.out) ?_; (obtain ⟨wF, hwF⟩ : ∃ x, wE.setCells tb 0 us.toArray.toList = x := ⟨_, rfl⟩); have HWF := Lib.hid hwF; (refine (congrArg (wpList _ _ _ _ _) hwF).mpr ?_); clear hwF)
      have hgF := Sl.setCells_grown tb us 0 wE
      have hcF : Cut tb us stT (wE.setCells tb 0 us) := set_cut HCE.out (by rw [HUl.out]; rfl)
      have HWF2 : Hid (wE.setCells tb 0 us = wF) := HWF.out
      rw [HWF2.out] at hgF hcF
      have hsF : stateH wF us (f x) := state_st.keep HSE.out (grown_kept HCE.out rfl hgF)
      have hb2E : Below W.heap.size W wE := HB2.out.trans ((HBL.out.trans (HBE.out.mono HBL.out.size)).mono HB2.out.size)
      have hbF : Below W.heap.size W wF := hb2E.grown hgF hb2E.size (fun j hj => by have := Option.some.inj hj; have := HTb.out; omega)
      refine bodyPost_ret (results_cell3 rfl _ _ _ tb (.agg us.toArray) rfl (loadv_cut hcF und_st (by rw [HUl.out]; exact info_st))) rfl ?_
      unfold NearPost
      rw [HU.out]
      rw [HXe.out, if_neg h0, decide_eq_true h0]
      exact ⟨⟨us, rfl, HUl.out, fun _ => hsF, fun h => absurd h h0⟩, hbF⟩
end Go.Proofs.Ytmhofdoifgfjfaa
