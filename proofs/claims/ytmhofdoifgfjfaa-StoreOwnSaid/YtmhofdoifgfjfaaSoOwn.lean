/-
  Store: the statement StoreOwn, walked. Conditions: as each contract says.
-/
import Derived.Test.YtmhofdoifgfjfaaSoKeeps
import Derived.Test.YtmhofdoifgfjfaaGSoB
set_option linter.unusedVariables false
set_option maxRecDepth 100000
namespace Go.Proofs.Ytmhofdoifgfjfaa
open Go.RowKit Base

theorem keepB_in {ev mo : Int} {pl : List Int} {p : Int} (h : (pl.length : Int) + 1 ≤ mo) (hu : Up pl) : away ev p ∨ p ∈ keepB ev mo pl p := by
  by_cases ha : away ev p
  · exact .inl ha
  · refine .inr ?_
    unfold keepB
    by_cases hm : p ∈ pl
    · rw [if_pos (.inr hm)]; exact hm
    · rw [if_neg (fun h => h.elim ha hm)]
      unfold trim
      rw [if_pos (by rw [ins_len hu hm]; omega)]
      unfold ins
      exact List.mem_append.2 (.inr List.mem_cons_self)
def DoneA (W : World) (B s m : Nat) (v : Value) (ev mo : Int) (pl : List Int) (n : Nat) (r : Ending) (W' : World) : Prop :=
  r = .returned (.tuple #[]) ∧ ∃ v', StoA W' B s m v' ev mo pl (n + 1) ∧ Turns s m v.ownBlock W W'
/-- A place that is kept already, or that is none: nothing is kept. -/
theorem keep_done (W : World) (B s m : Nat) (v : Value) (ev mo : Int) (pl : List Int) (n : Nat) (p : Int) (b0 : Nat) (a : Option Addr) (c : Nat) (h : StoA W B s m v ev mo pl n) (hp : I64 p) (hp6 : p ≤ 1000000) (hn : n ≤ 10000)
    (ho : W.ownsRow b0 9 1 (.slice a 1 c) 1 [.string ⟨#[120]⟩]) (hB : B ≤ W.heap.size) (hin : away ev p ∨ p ∈ pl) :
    Calls Try.prog 8 #[.pointer (some ⟨s, 0, none⟩), .int .i64 p, .agg (atV (.slice a 1 c) p true).toArray] W (DoneA W B s m v ev mo pl n) := by
  obtain ⟨D, hD, _⟩ := h.map
  refine (keep_calls W B s m v ev mo pl fA n p (atV (.slice a 1 c) p true) (atD p true) h hp hp6 hn rfl (fun W' ht => ?_) (atD_P hp true) (atD_len hp true) hB).mono ?_
  · exact PkArg.of (at_state (own_base (own_turns h.box hD h.row ht ho (by decide) (by decide)) (Nat.zero_le _))) rfl
  · rintro r W' ⟨rfl, v', h1, h2, h3⟩
    unfold updF keepB at h1
    rw [if_pos hin, if_pos hin] at h1
    exact ⟨rfl, v', h1, h2⟩
/-- The names' row of what Near told. -/
theorem atB_names {B : Nat} {W : World} {us : List Value} {p : Int} {d : Bool} (h : stateB B W us (atD p d)) : ∃ u, us[7]? = some u ∧ W.ownsRow B 9 1 u 1 [.string ⟨#[120]⟩] := by
  obtain ⟨u, h1, ho⟩ := (at_cells (stateB_state h)).2.2
  obtain ⟨v1, r1, rfl, l1, _, v2, r2, rfl, l2, h2, _⟩ := h
  obtain ⟨u', xs, rfl, ho', hl, hx⟩ := h2
  have hl1 : v1.length = 7 := l1
  have e : (v1 ++ ([u'] ++ r2))[7]? = some u' := by rw [List.getElem?_append_right (by omega), hl1]; rfl
  have hx1 := hx 0 Nat.zero_lt_one
  have hxl : xs.length = 1 := hl
  match xs, hxl with
  | [x], _ =>
    obtain rfl : x = .string ⟨#[120]⟩ := by
      have : [x] = txtV [120] := hx1
      injection this
    exact ⟨u', e, ho'⟩
theorem atV_set (u : Value) (p : Int) : (atV u p false).set 27 (.bool true) = atV u p true := rfl
theorem idx_s {g n c : Nat} (j : Nat) (hj : j < n) (kd : IntKind) (w' : World) : (Instr.indexAt 27 (.slice (some ⟨g, 0, none⟩) n c) (.int kd (j : Int))).run Try.prog w' = .ok (.pointer (some ⟨g, j, none⟩)) w' := by
  obtain ⟨i, hi, _, hs, _⟩ := info_parts info_s
  have he : Try.prog.elem 27 = 9 := by simp [Program.elem, Try.underlying27]
  rw [run_indexAt_slice w' 27 _ n c kd j (by rw [he]; exact Try.underlying27), if_pos ⟨by omega, by omega⟩, he]
  simp [sizeOf, typeInfo, hi, hs, Result.andThen, Addr.add_lit]
set_option maxHeartbeats 4000000 in
theorem so_own (W : World) (ev0 : Int) (he0 : I64 ev0) (a2 : Option Addr) (n2 c2 : Nat) (ps : List Int) (h2 : Ints .i64 W a2 n2 c2 ps) (hp64 : ∀ z ∈ ps, I64 z) (a3 : Option Addr) (n3 c3 : Nat) (qs : List Int) (h3 : Ints .i64 W a3 n3 c3 qs) (hq64 : ∀ z ∈ qs, I64 z) :
    Calls Try.prog 4 #[.int .i64 ev0, .slice a2 n2 c2, .slice a3 n3 c3] W fun r W' => r = .returned (.bool true) ∧ Below W.heap.size W W' := by
  have HA2 := Lib.hid h2
  have HA3 := Lib.hid h3
  have HP6 := Lib.hid hp64
  have HQ6 := Lib.hid hq64
  obtain rfl := h2.1
  obtain rfl := h3.1
  have hn2 : ps.length ≤ 9223372036854775807 := by have := h2.2.1; have := h2.2.2.1; unfold maxLen at this; omega
  have hn3 : qs.length ≤ 9223372036854775807 := by have := h3.2.1; have := h3.2.2.1; unfold maxLen at this; omega
  clear h2 h3 hp64 hq64 he0
  go_enter Try.func4, Try.ntmps4
  go_wp2_with fail
  refine (awake_calls W).mono ?_
  rintro r w1 ⟨rfl, hb1⟩
  have HB1 := Lib.hid hb1
  clear hb1
  by_cases h80 : ps.length ≤ 40
  case neg =>
    have a1 : decide ((40 : Int) < (ps.length : Int)) = true := decide_eq_true (by omega)
    have a2 : (40 : Int) < (ps.length : Int) := by omega
    go_wp2_with fail
    go_ret
    exact ⟨rfl, HB1.out⟩
  have a1 : decide ((40 : Int) < (ps.length : Int)) = false := decide_eq_false (by omega)
  have a2 : ¬ ((40 : Int) < (ps.length : Int)) := by omega
  by_cases h20 : qs.length ≤ 40
  case neg =>
    have b1 : decide ((40 : Int) < (qs.length : Int)) = true := decide_eq_true (by omega)
    have b2 : (40 : Int) < (qs.length : Int) := by omega
    go_wp2_with fail
    go_ret
    exact ⟨rfl, HB1.out⟩
  have b1 : decide ((40 : Int) < (qs.length : Int)) = false := decide_eq_false (by omega)
  have b2 : ¬ ((40 : Int) < (qs.length : Int)) := by omega
  go_wp2_with fail
  clear a1 a2 b1 b2
  obtain ⟨B, hB⟩ : ∃ B, w1.heap.size = B := ⟨_, rfl⟩
  have HNw := Lib.hid (new_calls w1 ev0 1000 fA)
  rw [hB, show max (1000 : Int) 1 = 1000 from rfl] at HNw
  refine HNw.out.mono ?_
  rintro r w2 ⟨rfl, hs2, hb2⟩
  obtain ⟨ev, hev⟩ : ∃ ev, max ev0 1 = ev := ⟨_, rfl⟩
  rw [hev] at hs2
  have hev1 : 1 ≤ ev := by omega
  have HBe := Lib.hid hB
  have HS2 := Lib.hid hs2
  have HL2 : Hid (Below B w1 w2) := hb2
  have HZ2 : Hid (B ≤ w2.heap.size) := by have := hs2.lt; show _ ≤ _; omega
  have HEv := Lib.hid hev
  clear hs2 hb2 hev HNw hB
  go_wp2_with fail
  go_loopw [9] (fun v9 wr => ∃ (k : Nat) (v : Value) (pl : List Int), k ≤ ps.length ∧ v9 = .int .i64 (k : Int) ∧ StoA wr B (B + 1) B v ev 1000 pl (2 * k) ∧ Below B w1 wr ∧ B ≤ wr.heap.size) (fun v9 _ => ps.length - (intOf v9).toNat)
  case atStart => exact ⟨0, _, _, Nat.zero_le _, rfl, HS2.out, HL2.out, HZ2.out⟩
  case round =>
    obtain ⟨k, v, pl, hk, rfl, hs, hl, hz⟩ := hrel
    have HS := Lib.hid hs
    have HL := Lib.hid hl
    have HZ := Lib.hid hz
    have HWk : Hid (Below W.heap.size W wr) := HB1.out.trans (hl.mono (by have := HB1.out.size; have := HBe.out; omega))
    clear hs hl hz
    by_cases hlt : k < ps.length
    · obtain ⟨b2, o2, hc, hi⟩ := at_ints HA2.out
      have HC : Hid (∀ w', Below W.heap.size W w' → w'.cell? ⟨b2, o2 + k, none⟩ = some (.int .i64 ps[k])) := fun w' hb => cell_below hb (Nat.le_refl _) (hc k hlt)
      have HIx := Lib.hid fun kd w' => hi kd k w' hlt
      have e0 := HC.out wr HWk.out
      have x0 := fun kd w' => hi kd k w' hlt
      have hx64 := HP6.out ps[k] (List.getElem_mem _)
      have t3 : decide (k < ps.length) = true := decide_eq_true (by omega)
      have t1 : decide ((k : Int) < (ps.length : Int)) = true := decide_eq_true (by omega)
      have t2 : (k : Int) < (ps.length : Int) := by omega
      generalize ps[k] = x at *
      have HX64 := Lib.hid hx64
      clear hc hi hx64
      by_cases hx : x ≤ 100000
      case neg =>
        have u1 : decide ((100000 : Int) < x) = true := decide_eq_true (by omega)
        have u2 : (100000 : Int) < x := by omega
        go_wp2_with fail
        go_ret
        exact ⟨rfl, HWk.out⟩
      have u1 : decide ((100000 : Int) < x) = false := decide_eq_false (by omega)
      have u2 : ¬ ((100000 : Int) < x) := by omega
      go_upto_region 12 with fail
      clear e0 x0 u1 u2
      refine Rg.wp_region_rgt 10 [] [Rg.Is (.pointer (some ⟨B + 1, 0, none⟩)), Rg.Is (.slice a2 ps.length c2), Rg.Is (.int .i64 (k : Int)), Rg.Is (.pointer (some ⟨b2, o2 + k, none⟩)), Rg.Is (.int .i64 x), Rg.Is (.slice a2 ps.length c2), Rg.Is (.int .i64 (k : Int)), Rg.Is (.pointer (some ⟨b2, o2 + k, none⟩)), Rg.Is (.int .i64 x), (fun u x' => ∃ a c, u = .agg (atV (.slice a 1 c) x false).toArray ∧ x'.ownsRow wr.heap.size 9 1 (.slice a 1 c) 1 [.string ⟨#[120]⟩])] (by kernel_rfl) (by kernel_rfl) (of_decide_eq_true (by kernel_rfl)) (by kernel_rfl) (by kernel_rfl) ⟨Rg.st_is _, Rg.st_is _, Rg.st_is _, Rg.st_is _, Rg.st_is _, Rg.st_is _, Rg.st_is _, Rg.st_is _, Rg.st_is _, fun v w w' h hb => by obtain ⟨a, c, h1, h2⟩ := h; exact ⟨a, c, h1, ownsRow_below h2 hb⟩, trivial⟩ ⟨rfl, rfl, rfl, rfl, rfl, rfl, rfl, rfl, rfl, rfl, trivial⟩ ⟨?_, ?_, ?_, ?_, ?_, ?_, ?_, ?_, ?_, ?_, trivial⟩ ?_
      · intro _ a wx hb hk
        have h8 : a.eval (.tmp 8) = .pointer (some ⟨B + 1, 0, none⟩) := Eq.mp (by kernel_rfl) (hk 8 (by decide))
        exact Rg.does_move ⟨Below.refl _ _, h8⟩
      · intro _ a wx hb hk
        have h1 : a.eval (.tmp 1) = .slice a2 ps.length c2 := Eq.mp (by kernel_rfl) (hk 1 (by decide))
        exact Rg.does_move ⟨Below.refl _ _, h1⟩
      · intro _ a wx hb hk
        have h9 : a.eval (.tmp 9) = .int .i64 (k : Int) := Eq.mp (by kernel_rfl) (hk 9 (by decide))
        exact Rg.does_move ⟨Below.refl _ _, h9⟩
      · intro _ a wx hb hk
        have h43 : a.eval (.tmp 43) = .slice a2 ps.length c2 := Eq.mp (by kernel_rfl) (hk 43 (by decide))
        have h44 : a.eval (.tmp 44) = .int .i64 (k : Int) := Eq.mp (by kernel_rfl) (hk 44 (by decide))
        exact Rg.does_index _ _ _ h43 h44 (HIx.out .i64 wx) ⟨Below.refl _ _, rfl⟩
      · intro _ a wx hb hk
        have h45 : a.eval (.tmp 45) = .pointer (some ⟨b2, o2 + k, none⟩) := Eq.mp (by kernel_rfl) (hk 45 (by decide))
        exact Rg.does_load _ _ h45 (load_int1 (HC.out wx (HWk.out.trans (hb.mono HWk.out.size)))) ⟨Below.refl _ _, rfl⟩
      · intro _ a wx hb hk
        have h1 : a.eval (.tmp 1) = .slice a2 ps.length c2 := Eq.mp (by kernel_rfl) (hk 1 (by decide))
        exact Rg.does_move ⟨Below.refl _ _, h1⟩
      · intro _ a wx hb hk
        have h9 : a.eval (.tmp 9) = .int .i64 (k : Int) := Eq.mp (by kernel_rfl) (hk 9 (by decide))
        exact Rg.does_move ⟨Below.refl _ _, h9⟩
      · intro _ a wx hb hk
        have h47 : a.eval (.tmp 47) = .slice a2 ps.length c2 := Eq.mp (by kernel_rfl) (hk 47 (by decide))
        have h48 : a.eval (.tmp 48) = .int .i64 (k : Int) := Eq.mp (by kernel_rfl) (hk 48 (by decide))
        exact Rg.does_index _ _ _ h47 h48 (HIx.out .i64 wx) ⟨Below.refl _ _, rfl⟩
      · intro _ a wx hb hk
        have h49 : a.eval (.tmp 49) = .pointer (some ⟨b2, o2 + k, none⟩) := Eq.mp (by kernel_rfl) (hk 49 (by decide))
        exact Rg.does_load _ _ h49 (load_int1 (HC.out wx (HWk.out.trans (hb.mono HWk.out.size)))) ⟨Below.refl _ _, rfl⟩
      · intro _ a wx hb hk
        have h50 : a.eval (.tmp 50) = .int .i64 x := Eq.mp (by kernel_rfl) (hk 50 (by decide))
        refine Rg.does_func #[.int .i64 x] Try.func9 (by kernel_rfl) (by kernel_rfl) (by simp [h50]) (at_calls wx x) ?_
        rintro e w' ⟨a, c, rfl, ho, hb'⟩
        exact ⟨_, rfl, hb', a, c, rfl, own_base ho hb.size⟩
      intro vals wD hbD hL
      obtain ⟨g0, g1, g2, g3, g4, g5, g6, g7, g8, g9, _⟩ := hL
      have e4 : vals 4 = .int .i64 x := g4
      have e0 : vals 0 = .pointer (some ⟨B + 1, 0, none⟩) := g0
      have g9' : ∃ a c, vals 9 = .agg (atV (.slice a 1 c) x false).toArray ∧ wD.ownsRow wr.heap.size 9 1 (.slice a 1 c) 1 [.string ⟨#[120]⟩] := g9
      obtain ⟨aa, cc, e9, ho9⟩ := g9'
      have HDD := Lib.hid (HS.out.below hbD)
      have HLD : Hid (Below B w1 wD) := HL.out.trans (hbD.mono HZ.out)
      have HZD : Hid (B ≤ wD.heap.size) := Nat.le_trans HZ.out hbD.size
      have HK := Lib.hid (keep_at wD B (B + 1) B v ev 1000 pl (2 * k) x _ aa cc HDD.out HX64.out (by omega) (by omega) ho9 HZD.out)
      have HIn := Lib.hid (keepB_in (ev := ev) (mo := 1000) (p := x) (by have := HDD.out.ln; omega) HDD.out.up)
      simp only [Rg.putAll, List.take_succ_cons, List.take_zero, List.drop_succ_cons, List.drop_zero, List.setIfInBounds_toArray, List.set_cons_succ, List.set_cons_zero, e0, e4, e9]
      clear g0 g1 g2 g3 g4 g5 g6 g7 g8 g9 e0 e4 e9 ho9 hbD
      go_wp2_with fail
      refine HK.out.mono ?_
      rintro r w5 ⟨rfl, v5, hs5, ht5, _⟩
      obtain ⟨q, hq⟩ : ∃ q, keepB ev 1000 pl x = q := ⟨_, rfl⟩
      rw [hq] at hs5 HIn
      have HS5 := Lib.hid hs5
      have HL5 := Lib.hid (keep_low HDD.out HLD.out HZD.out ht5).1
      have HZ5 := Lib.hid (keep_low HDD.out HLD.out HZD.out ht5).2
      have HW5 : Hid (Below W.heap.size W w5) := HB1.out.trans (HL5.out.mono (by have := HB1.out.size; have := HBe.out; omega))
      clear hs5 ht5 HK HDD HLD HZD HS HL HZ hq
      have e0 := HC.out w5 HW5.out
      have x0 := HIx.out
      go_wp2_with fail
      refine (at_calls w5 x).mono ?_
      rintro r w6 ⟨a9, c9, rfl, ho, hb⟩
      clear e0 x0
      obtain ⟨us, hus⟩ : ∃ us, atV (.slice a9 1 c9) x false = us := ⟨_, rfl⟩
      have HUl : Hid (us.length = 29) := by rw [← hus]; rfl
      have HOne : Hid (∀ v ∈ us, v.oneCell' = true) := by rw [← hus]; exact atV_one _ rfl x false
      have HUs : Hid (us.set 27 (.bool true) = atV (.slice a9 1 c9) x true) := by rw [← hus]; rfl
      have HU27 : Hid (us[27]? = some (.bool false)) := by rw [← hus]; rfl
      have HO6 := Lib.hid ho
      have HB6 := Lib.hid hb
      rw [hus]
      clear hus ho hb
      obtain ⟨t6, w7, hw7, ht6, hc6, hb6⟩ := new_box w6
      have HW7 : Hid (w6.alloc (.cells #[.slice none 0 0, .slice none 0 0, .int .i64 0, .string ⟨#[]⟩, .slice none 0 0, .slice none 0 0, .slice none 0 0, .slice none 0 0, .slice none 0 0, .int .i64 0, .int .i64 0, .int .i64 0, .string ⟨#[]⟩, .slice none 0 0, .int .i64 0, .int .i64 0, .int .i64 0, .int .i64 0, .string ⟨#[]⟩, .slice none 0 0, .int .i64 0, .slice none 0 0, .int .i64 0, .int .i64 0, .int .i64 0, .bool false, .bool false, .bool false, .int .i64 0] stT) = w7) := hw7
      have HT6 := Lib.hid ht6
      have HC6 := Lib.hid hc6
      have hgB := Sl.setCells_grown t6 us 0 w7
      have HB67 : Hid (Below w6.heap.size w6 (w7.setCells t6 0 us)) := hb6.grown hgB hb6.size (fun j hj => by have := Option.some.inj hj; omega)
      clear hw7 ht6 hc6 hb6
      go_upto_region 14 with (refine wpList_store_mid rfl stT (.tmp 10) (.tmp 57) rfl w6.heap.size 0 us.toArray rfl rfl (by rw [HW7.out, HT6.out]; exact there_cut HC6.out _ (by rw [List.size_toArray, HUl.out]; exact Nat.le_refl _)) (by rw [List.size_toArray, HUl.out]; exact info_st) (all_oneCell_toArray HOne.out) ?_)
      rw [HW7.out, HT6.out]
      have hCt : Cut t6 us stT (w7.setCells t6 0 us) := set_cut HC6.out (by rw [HUl.out]; rfl)
      have HT6b : Hid (w6.heap.size ≤ t6) := Nat.le_of_eq HT6.out
      change Code.wp _ _ _ _ (w7.setCells t6 0 us)
      clear hgB
      generalize w7.setCells t6 0 us = w8 at *
      have c27 : w8.cell? ⟨t6, 27, none⟩ = some (.bool false) := (hCt.cell 27).trans HU27.out
      have f27 : w8.frozen? ⟨t6, 27, none⟩ = false := hCt.frozen 27
      have hC8 : Cut t6 (us.set 27 (.bool true)) stT (w8.setCell ⟨t6, 27, none⟩ (.bool true)) := hCt.set 27 _
      rw [HUs.out] at hC8
      have HB8 : Hid (Below w6.heap.size w6 (w8.setCell ⟨t6, 27, none⟩ (.bool true))) := HB67.out.setCell (p := ⟨t6, 27, none⟩) HT6b.out _
      have HC8 := Lib.hid hC8
      clear hCt hC8
      go_upto_region 15 with fail
      clear c27 f27
      generalize w8.setCell ⟨t6, 27, none⟩ (.bool true) = w9 at *
      have HB9 : Hid (Below w5.heap.size w5 w9) := HB6.out.trans (HB8.out.mono HB6.out.size)
      have HS9 := Lib.hid (HS5.out.below HB9.out)
      have HL9 : Hid (Below B w1 w9) := HL5.out.trans (HB9.out.mono HZ5.out)
      have HZ9 : Hid (B ≤ w9.heap.size) := Nat.le_trans HZ5.out HB9.out.size
      have HW9 : Hid (Below W.heap.size W w9) := HW5.out.trans (HB9.out.mono HW5.out.size)
      have HO9 := Lib.hid (ownsRow_below HO6.out HB8.out)
      have HUT : Hid ((atV (.slice a9 1 c9) x true).length = 29) := rfl
      refine Rg.wp_region_rgt 6 [] [Rg.Is (.pointer (some ⟨B + 1, 0, none⟩)), Rg.Is (.slice a2 ps.length c2), Rg.Is (.int .i64 (k : Int)), Rg.Is (.pointer (some ⟨b2, o2 + k, none⟩)), Rg.Is (.int .i64 x), Rg.Is (.agg (atV (.slice a9 1 c9) x true).toArray)] (by kernel_rfl) (by kernel_rfl) (of_decide_eq_true (by kernel_rfl)) (by kernel_rfl) (by kernel_rfl) ⟨Rg.st_is _, Rg.st_is _, Rg.st_is _, Rg.st_is _, Rg.st_is _, Rg.st_is _, trivial⟩ ⟨rfl, rfl, rfl, rfl, rfl, rfl, trivial⟩ ⟨?_, ?_, ?_, ?_, ?_, ?_, trivial⟩ ?_
      · intro _ a wx hb hk
        have h8 : a.eval (.tmp 8) = .pointer (some ⟨B + 1, 0, none⟩) := Eq.mp (by kernel_rfl) (hk 8 (by decide))
        exact Rg.does_move ⟨Below.refl _ _, h8⟩
      · intro _ a wx hb hk
        have h1 : a.eval (.tmp 1) = .slice a2 ps.length c2 := Eq.mp (by kernel_rfl) (hk 1 (by decide))
        exact Rg.does_move ⟨Below.refl _ _, h1⟩
      · intro _ a wx hb hk
        have h9 : a.eval (.tmp 9) = .int .i64 (k : Int) := Eq.mp (by kernel_rfl) (hk 9 (by decide))
        exact Rg.does_move ⟨Below.refl _ _, h9⟩
      · intro _ a wx hb hk
        have h60 : a.eval (.tmp 60) = .slice a2 ps.length c2 := Eq.mp (by kernel_rfl) (hk 60 (by decide))
        have h61 : a.eval (.tmp 61) = .int .i64 (k : Int) := Eq.mp (by kernel_rfl) (hk 61 (by decide))
        exact Rg.does_index _ _ _ h60 h61 (HIx.out .i64 wx) ⟨Below.refl _ _, rfl⟩
      · intro _ a wx hb hk
        have h62 : a.eval (.tmp 62) = .pointer (some ⟨b2, o2 + k, none⟩) := Eq.mp (by kernel_rfl) (hk 62 (by decide))
        exact Rg.does_load _ _ h62 (load_int1 (HC.out wx (HW9.out.trans (hb.mono HW9.out.size)))) ⟨Below.refl _ _, rfl⟩
      · intro _ a wx hb hk
        have h10 : a.eval (.tmp 10) = .pointer (some ⟨t6, 0, none⟩) := Eq.mp (by kernel_rfl) (hk 10 (by decide))
        exact Rg.does_load _ _ h10 (load_state (cut_below HC8.out hb) HUT.out) ⟨Below.refl _ _, rfl⟩
      intro vals wE hbD hL
      obtain ⟨g0, g1, g2, g3, g4, g5, _⟩ := hL
      have e0 : vals 0 = .pointer (some ⟨B + 1, 0, none⟩) := g0
      have e4 : vals 4 = .int .i64 x := g4
      have e5 : vals 5 = .agg (atV (.slice a9 1 c9) x true).toArray := g5
      have HSE := Lib.hid (HS9.out.below hbD)
      have HLE : Hid (Below B w1 wE) := HL9.out.trans (hbD.mono HZ9.out)
      have HZE : Hid (B ≤ wE.heap.size) := Nat.le_trans HZ9.out hbD.size
      have HKd := Lib.hid (keep_done wE B (B + 1) B v5 ev 1000 q (2 * k + 1) x _ a9 c9 HSE.out HX64.out (by omega) (by omega) (ownsRow_below HO9.out hbD) HZE.out HIn.out)
      simp only [Rg.putAll, List.take_succ_cons, List.take_zero, List.drop_succ_cons, List.drop_zero, List.setIfInBounds_toArray, List.set_cons_succ, List.set_cons_zero, e0, e4, e5]
      clear g0 g1 g2 g3 g4 g5 e0 e4 e5 hbD
      go_wp2_with fail
      refine HKd.out.mono ?_
      rintro r wF ⟨rfl, v6, hs6, ht6⟩
      have HSF := Lib.hid hs6
      have HLF := Lib.hid (keep_low HSE.out HLE.out HZE.out ht6).1
      have HZF := Lib.hid (keep_low HSE.out HLE.out HZE.out ht6).2
      clear hs6 ht6
      go_wp2_with fail
      go_roundw
      case rel => exact ⟨k + 1, v6, q, by omega, by go_num, HSF.out, HLF.out, HZF.out⟩
      case measure => simp [intOf]; omega
    · obtain rfl : k = ps.length := by omega
      have t3 : decide (ps.length < ps.length) = false := decide_eq_false (by omega)
      have t1 : decide ((ps.length : Int) < (ps.length : Int)) = false := decide_eq_false (by omega)
      have t2 : ¬ ((ps.length : Int) < (ps.length : Int)) := by omega
      obtain ⟨wz, hwz⟩ : ∃ wz, wz = wr := ⟨_, rfl⟩
      rw [← hwz] at HS HL HZ HWk
      have HWz := Lib.hid hwz
      clear hwz
      go_wp2_with fail
      go_loopw [11] (fun v11 wr => ∃ j : Nat, j ≤ qs.length ∧ v11 = .int .i64 (j : Int) ∧ StoA wr B (B + 1) B v ev 1000 pl (2 * ps.length) ∧ Below W.heap.size W wr) (fun v11 _ => qs.length - (intOf v11).toNat)
      case atStart => exact ⟨0, Nat.zero_le _, rfl, by rw [← HWz.out]; exact ⟨HS.out, HWk.out⟩⟩
      case round =>
        obtain ⟨j, hj, rfl, hsj, hwj⟩ := hrel
        have HSj := Lib.hid hsj
        have HWj := Lib.hid hwj
        clear hsj hwj
        by_cases hjl : j < qs.length
        · obtain ⟨b3, o3, hc, hi⟩ := at_ints HA3.out
          have HC : Hid (∀ w', Below W.heap.size W w' → w'.cell? ⟨b3, o3 + j, none⟩ = some (.int .i64 qs[j])) := fun w' hb => cell_below hb (Nat.le_refl _) (hc j hjl)
          have HIx := Lib.hid fun kd w' => hi kd j w' hjl
          have x0 := fun kd w' => hi kd j w' hjl
          have e0 := HC.out wr HWj.out
          have hz64 := HQ6.out qs[j] (List.getElem_mem _)
          have s3 : decide (j < qs.length) = true := decide_eq_true (by omega)
          have s1 : decide ((j : Int) < (qs.length : Int)) = true := decide_eq_true (by omega)
          have s2 : (j : Int) < (qs.length : Int) := by omega
          generalize qs[j] = z at *
          have HZ64 := Lib.hid hz64
          clear hc hi hz64
          go_wp2_with fail
          refine (near_callsB wr B (B + 1) B v ev 1000 pl fA (2 * ps.length) z HSj.out HZ64.out (by omega)).mono ?_
          rintro r w6 ⟨⟨us, rfl, hul, hus, hus0⟩, hb⟩
          obtain ⟨N, hN⟩ : ∃ N, (if uptoN pl z = 0 then 0 else nearB pl z) = N := ⟨_, rfl⟩
          obtain ⟨is, his⟩ : ∃ is, decide (uptoN pl z ≠ 0) = is := ⟨_, rfl⟩
          rw [hN, his]
          have HOne : Hid (∀ v ∈ us, v.oneCell' = true) := by
            by_cases h0 : uptoN pl z = 0
            · rw [hus0 h0]; exact state_1.one (zero_state w6)
            · exact state_1.one (stateB_state (hus h0))
          have HUs := Lib.hid hus
          have HUl := Lib.hid hul
          have HN := Lib.hid hN
          have HIs := Lib.hid his
          have HB6 := Lib.hid hb
          clear hus hus0 hul hN his hb e0 x0
          obtain ⟨t6, w7, hw7, ht6, hc6, hb6⟩ := new_box w6
          have HW7 : Hid (w6.alloc (.cells #[.slice none 0 0, .slice none 0 0, .int .i64 0, .string ⟨#[]⟩, .slice none 0 0, .slice none 0 0, .slice none 0 0, .slice none 0 0, .slice none 0 0, .int .i64 0, .int .i64 0, .int .i64 0, .string ⟨#[]⟩, .slice none 0 0, .int .i64 0, .int .i64 0, .int .i64 0, .int .i64 0, .string ⟨#[]⟩, .slice none 0 0, .int .i64 0, .slice none 0 0, .int .i64 0, .int .i64 0, .int .i64 0, .bool false, .bool false, .bool false, .int .i64 0] stT) = w7) := hw7
          have HT6 := Lib.hid ht6
          have HC6 := Lib.hid hc6
          have HB67 : Hid (Below w6.heap.size w6 (w7.setCells t6 0 us)) := hb6.grown (Sl.setCells_grown t6 us 0 w7) hb6.size (fun j hj => by have := Option.some.inj hj; omega)
          clear hw7 ht6 hc6 hb6
          go_upto_region 20 with (refine wpList_store_mid rfl stT (.tmp 13) (.tmp 80) rfl w6.heap.size 0 us.toArray rfl rfl (by rw [HW7.out, HT6.out]; exact there_cut HC6.out _ (by rw [List.size_toArray, HUl.out]; exact Nat.le_refl _)) (by rw [List.size_toArray, HUl.out]; exact info_st) (all_oneCell_toArray HOne.out) ?_)
          rw [HW7.out, HT6.out]
          have hCt : Cut t6 us stT (w7.setCells t6 0 us) := set_cut HC6.out (by rw [HUl.out]; rfl)
          change Code.wp _ _ _ _ (w7.setCells t6 0 us)
          generalize w7.setCells t6 0 us = w8 at *
          have HCt := Lib.hid hCt
          have HB8 : Hid (Below wr.heap.size wr w8) := HB6.out.trans (HB67.out.mono HB6.out.size)
          have HS8 := Lib.hid (HSj.out.below HB8.out)
          have HW8 : Hid (Below W.heap.size W w8) := HWj.out.trans (HB8.out.mono HWj.out.size)
          have HU8 : Hid (uptoN pl z ≠ 0 → stateB wr.heap.size w8 us (fA (nearB pl z))) := fun h => stateB_below (HUs.out h) HB67.out
          clear hCt
          by_cases h0 : uptoN pl z = 0
          · have hi0 : is = false := by rw [← HIs.out]; exact decide_eq_false (fun h => h h0)
            subst hi0
            go_wp2_with fail
            go_roundw
            case rel => exact ⟨j + 1, by omega, by go_num, HS8.out, HW8.out⟩
            case measure => simp [intOf]; omega
          · have hN0 : N = nearB pl z := by rw [← HN.out, if_neg h0]
            have hi0 : is = true := by rw [← HIs.out]; exact decide_eq_true h0
            have hnm := near_at HS8.out.up (p := z) h0
            have hnz := hnm.2.2
            have hH9 : stateB wr.heap.size w8 us (atD (nearB pl z) false) := HU8.out h0
            subst hi0
            rw [← hN0] at hH9 hnz
            obtain ⟨hd, hdn, _⟩ := at_cells (stateB_state hH9)
            obtain ⟨u, hu7, hou⟩ := atB_names hH9
            obtain ⟨g, cap, cur, hale, hgb, hg, hcn, hcm, hcl, hcx⟩ := Sl.own_row hou (by decide)
            subst hale
            have c24 : w8.cell? ⟨t6, 24, none⟩ = some (.int .i64 N) := (HCt.out.cell 24).trans hd
            have c27 : w8.cell? ⟨t6, 27, none⟩ = some (.bool false) := (HCt.out.cell 27).trans hdn
            have c7 : w8.cell? ⟨t6, 7, none⟩ = some (.slice (some ⟨g, 0, none⟩) 1 cap) := (HCt.out.cell 7).trans hu7
            have e0 := HC.out w8 HW8.out
            have x0 := HIx.out
            have v1 : decide (z < N) = false := decide_eq_false (by omega)
            have v2 : ¬ z < N := by omega
            have v3 : (N != N) = false := by simp
            have HG : Hid (Cut g cur 9 w8) := hg
            have HGb : Hid (wr.heap.size ≤ g) := hgb
            have cg : w8.cell? ⟨g, 0, none⟩ = some (.string ⟨#[120]⟩) := hou.cellAt 0 (by decide)
            have fg : w8.frozen? ⟨g, 0, none⟩ = false := hou.frozenAt 0
            have xg : ∀ (kd : IntKind) (w' : World), (Instr.indexAt 27 (.slice (some ⟨g, 0, none⟩) 1 cap) (.int kd 0)).run Try.prog w' = .ok (.pointer (some ⟨g, 0, none⟩)) w' := fun kd w' => idx_s 0 (by decide) kd w'
            clear hH9 hd hdn hu7 hou hgb hg hcn hcm hcl hcx hN0 hnm hnz
            go_upto_region 22 with fail
            clear v1 v2 v3 c24 c27
            go_upto_region 23 with fail
            go_upto_region 24 with fail
            have HgR := Lib.hid (Sl.setCells_grown g [.string ⟨#[121]⟩] 0 w8)
            have HSy := Lib.hid (HS8.out.other HG.out (by decide) (by decide) (by decide) HgR.out)
            have HBy : Hid (Below wr.heap.size wr (w8.setCells g 0 [.string ⟨#[121]⟩])) := HB8.out.grown HgR.out HB8.out.size (fun j hj => by have := Option.some.inj hj; have := HGb.out; omega)
            clear c7 e0 cg fg xg
            change Code.wp _ _ _ _ (w8.setCells g 0 [.string ⟨#[121]⟩])
            generalize w8.setCells g 0 [.string ⟨#[121]⟩] = wy at *
            have HWy : Hid (Below W.heap.size W wy) := HWj.out.trans (HBy.out.mono HWj.out.size)
            have e0 := HC.out wy HWy.out
            go_wp2_with fail
            refine (near_callsB wy B (B + 1) B v ev 1000 pl fA (2 * ps.length) z HSy.out HZ64.out (by omega)).mono ?_
            rintro r wa ⟨⟨us2, rfl, hul2, hus2, _⟩, hba⟩
            have hHa := hus2 h0
            rw [if_neg h0, decide_eq_true h0]
            clear e0 x0
            have HUl2 := Lib.hid hul2
            have HHa := Lib.hid hHa
            have HOne2 := Lib.hid (state_1.one (stateB_state hHa))
            have HBa := Lib.hid hba
            clear hul2 hus2 hHa hba
            obtain ⟨t7, wb, hwb, ht7, hc7, hb7⟩ := new_box wa
            have HWb : Hid (wa.alloc (.cells #[.slice none 0 0, .slice none 0 0, .int .i64 0, .string ⟨#[]⟩, .slice none 0 0, .slice none 0 0, .slice none 0 0, .slice none 0 0, .slice none 0 0, .int .i64 0, .int .i64 0, .int .i64 0, .string ⟨#[]⟩, .slice none 0 0, .int .i64 0, .int .i64 0, .int .i64 0, .int .i64 0, .string ⟨#[]⟩, .slice none 0 0, .int .i64 0, .slice none 0 0, .int .i64 0, .int .i64 0, .int .i64 0, .bool false, .bool false, .bool false, .int .i64 0] stT) = wb) := hwb
            have HT7 := Lib.hid ht7
            have HC7 := Lib.hid hc7
            have HBab : Hid (Below wa.heap.size wa (wb.setCells t7 0 us2)) := hb7.grown (Sl.setCells_grown t7 us2 0 wb) hb7.size (fun j hj => by have := Option.some.inj hj; omega)
            clear hwb ht7 hc7 hb7
            go_upto_region 25 with (refine wpList_store_mid rfl stT (.tmp 16) (.tmp 119) rfl wa.heap.size 0 us2.toArray rfl rfl (by rw [HWb.out, HT7.out]; exact there_cut HC7.out _ (by rw [List.size_toArray, HUl2.out]; exact Nat.le_refl _)) (by rw [List.size_toArray, HUl2.out]; exact info_st) (all_oneCell_toArray HOne2.out) ?_)
            rw [HWb.out, HT7.out]
            have hCt2 : Cut t7 us2 stT (wb.setCells t7 0 us2) := set_cut HC7.out (by rw [HUl2.out]; rfl)
            have hHb : stateB wy.heap.size (wb.setCells t7 0 us2) us2 (atD (nearB pl z) false) := stateB_below HHa.out HBab.out
            change Code.wp _ _ _ _ (wb.setCells t7 0 us2)
            generalize wb.setCells t7 0 us2 = wc at *
            have HBc : Hid (Below wy.heap.size wy wc) := HBa.out.trans (HBab.out.mono HBa.out.size)
            have HSc := Lib.hid (HSy.out.below HBc.out)
            have HWc : Hid (Below W.heap.size W wc) := HWy.out.trans (HBc.out.mono HWy.out.size)
            obtain ⟨u2, hu72, hou2⟩ := atB_names hHb
            obtain ⟨g2, cap2, cur2, hale2, _⟩ := Sl.own_row hou2 (by decide)
            subst hale2
            have c7 : wc.cell? ⟨t7, 7, none⟩ = some (.slice (some ⟨g2, 0, none⟩) 1 cap2) := (hCt2.cell 7).trans hu72
            have cg : wc.cell? ⟨g2, 0, none⟩ = some (.string ⟨#[120]⟩) := hou2.cellAt 0 (by decide)
            have xg : ∀ (kd : IntKind) (w' : World), (Instr.indexAt 27 (.slice (some ⟨g2, 0, none⟩) 1 cap2) (.int kd 0)).run Try.prog w' = .ok (.pointer (some ⟨g2, 0, none⟩)) w' := fun kd w' => idx_s 0 (by decide) kd w'
            clear hCt2 hHb hu72 hou2 h0
            go_wp2_with fail
            go_roundw
            case rel => exact ⟨j + 1, by omega, by go_num, HSc.out, HWc.out⟩
            case measure => simp [intOf]; omega
        · obtain rfl : j = qs.length := by omega
          have s3 : decide (qs.length < qs.length) = false := decide_eq_false (by omega)
          have s1 : decide ((qs.length : Int) < (qs.length : Int)) = false := decide_eq_false (by omega)
          have s2 : ¬ ((qs.length : Int) < (qs.length : Int)) := by omega
          go_wp2_with fail
          go_ret
          exact ⟨rfl, HWj.out⟩
end Go.Proofs.Ytmhofdoifgfjfaa
