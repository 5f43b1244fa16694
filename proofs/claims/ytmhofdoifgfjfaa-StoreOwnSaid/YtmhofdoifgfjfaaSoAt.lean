/-
  Store: the law's states kept; the law's example. Conditions: as each contract says.
-/
import Derived.Test.YtmhofdoifgfjfaaSoNear
set_option linter.unusedVariables false
set_option maxRecDepth 100000
namespace Go.Proofs.Ytmhofdoifgfjfaa
open Go.RowKit Base

theorem own_turns {W W' : World} {B b0 k s m n c : Nat} {e : TypeId} {v u : Value} {q : List Int} {xs : List Value} {X : Array Value} {D : DataW Value} (hbox : W.heap[s]? = some (.cells X soT)) (hm : KMap W m n D) (hrow : OwnI W B v q) (ht : Turns s m v.ownBlock W W') (hu : W.ownsRow b0 e k u c xs) (h1 : soT ≠ e) (h2 : 3 ≠ e) : W'.ownsRow b0 e k u c xs := by
  have g1 := own_apart hu hbox h1
  have g3 : u.ownBlock ≠ some m := by
    obtain ⟨es, ck, hm, _⟩ := hm
    rcases hu.2 with ⟨rfl, _⟩ | ⟨g, cap, cur, rfl, _, hg, _⟩
    · intro h; cases h
    · intro h
      obtain rfl : g = m := Option.some.inj h
      rw [hg] at hm
      cases hm
  have g4 : ∀ j, v.ownBlock = some j → u.ownBlock ≠ some j := by
    intro j hj
    have hv' : W.ownsRow B 3 1 v q.length (q.map zv) := hrow
    rcases hv'.2 with ⟨rfl, _⟩ | ⟨g, cap, cur, rfl, _, hg, _⟩
    · cases hj
    · obtain rfl : g = j := Option.some.inj hj
      exact own_apart hu hg h2
  refine ⟨hu.1, ?_⟩
  rcases hu.2 with h2 | ⟨g, cap, cur, rfl, h4, hg, h5⟩
  · exact .inl h2
  · refine .inr ⟨g, cap, cur, rfl, h4, ?_, h5⟩
    exact (ht.block g (Array.getElem?_eq_some_iff.1 hg).1 (fun e => g1 (by rw [e]; rfl)) (fun e => g3 (by rw [e]; rfl)) (fun e => g4 g e.symm rfl)).trans hg
abbrev fA : Int → StateD := fun q => atD q false
theorem updA (ev : Int) (pl : List Int) (p : Int) : updF ev pl p (atD p false) fA = fA := by
  unfold updF
  split
  · rfl
  · funext q
    by_cases h : q = p
    · rw [if_pos h, h]
    · rw [if_neg h]
/-- A store that holds the law's states. -/
abbrev StoA (W : World) (B s m : Nat) (v : Value) (ev mo : Int) (pl : List Int) (n : Nat) : Prop := Sto W B s m v ev mo pl fA n
def KeepA (W : World) (B s m : Nat) (v : Value) (ev mo : Int) (pl : List Int) (n : Nat) (p : Int) (r : Ending) (W' : World) : Prop :=
  r = .returned (.tuple #[]) ∧ ∃ v', StoA W' B s m v' ev mo (keepB ev mo pl p) (n + 1) ∧ Turns s m v.ownBlock W W' ∧ (∀ g, v'.ownBlock = some g → g < W.heap.size → v.ownBlock = some g)
theorem keep_at (W : World) (B s m : Nat) (v : Value) (ev mo : Int) (pl : List Int) (n : Nat) (p : Int) (b0 : Nat) (a : Option Addr) (c : Nat) (h : StoA W B s m v ev mo pl n) (hp : I64 p) (hp6 : p ≤ 1000000) (hn : n ≤ 10000)
    (ho : W.ownsRow b0 9 1 (.slice a 1 c) 1 [.string ⟨#[120]⟩]) (hB : B ≤ W.heap.size) :
    Calls Try.prog 8 #[.pointer (some ⟨s, 0, none⟩), .int .i64 p, .agg (atV (.slice a 1 c) p false).toArray] W (KeepA W B s m v ev mo pl n p) := by
  obtain ⟨D, hD, _⟩ := h.map
  refine (keep_calls W B s m v ev mo pl fA n p (atV (.slice a 1 c) p false) (atD p false) h hp hp6 hn rfl (fun W' ht => ?_) (atD_P hp false) (atD_len hp false) hB).mono ?_
  · exact PkArg.of (at_state (own_base (own_turns h.box hD h.row ht ho (by decide) (by decide)) (Nat.zero_le _))) rfl
  · rintro r W' ⟨rfl, v', h1, h2, h3⟩
    rw [updA] at h1
    exact ⟨rfl, v', h1, h2, h3⟩
/-- The state of a place, kept. -/
theorem at_keep {W W1 W2 : World} {B s m : Nat} {v : Value} {ev mo : Int} {pl : List Int} {n : Nat} (h : StoA W B s m v ev mo pl n) (hW : Below B W1 W) (hB : B ≤ W.heap.size) (hb : Below W.heap.size W W2) : StoA W2 B s m v ev mo pl n ∧ Below B W1 W2 ∧ B ≤ W2.heap.size :=
  ⟨h.below hb, hW.trans (hb.mono hB), Nat.le_trans hB hb.size⟩
theorem keep_low {W W1 W' : World} {B s m : Nat} {v : Value} {ev mo : Int} {pl : List Int} {f : Int → StateD} {n : Nat} (h : Sto W B s m v ev mo pl f n) (hW : Below B W1 W) (hB : B ≤ W.heap.size) (ht : Turns s m v.ownBlock W W') : Below B W1 W' ∧ B ≤ W'.heap.size :=
  ⟨hW.trans (ht.low h.sB h.mB h.lo' hB), Nat.le_trans hB ht.size⟩
/-- The cells that a law looks at. -/
theorem at_cells {W : World} {us : List Value} {p : Int} {d : Bool} (h : stateH W us (atD p d)) : us[24]? = some (.int .i64 p) ∧ us[27]? = some (.bool d) ∧ ∃ u, us[7]? = some u ∧ W.ownsRow 0 9 1 u 1 [.string ⟨#[120]⟩] := by
  obtain ⟨u, c0, c1, c2, c3, c4, c5, c6, c8, c9, c10, c11, c12, c13, c14, c15, c16, c17, c18, c19, c20, c21, c22, c23, c28, rfl, hu⟩ := at_parts h
  exact ⟨rfl, rfl, u, rfl, hu⟩
set_option maxHeartbeats 4000000 in
theorem awake_calls (W : World) : Calls Try.prog 6 #[] W fun r W' => r = .returned (.bool true) ∧ Below W.heap.size W W' := by
  obtain ⟨B, hB⟩ : ∃ B, W.heap.size = B := ⟨_, rfl⟩
  rw [hB]
  have HB0 := Lib.hid hB
  have HNw := Lib.hid (new_calls W 2 3 fA)
  rw [hB] at HNw
  clear hB
  go_enter Try.func6, Try.ntmps6
  go_wp2_with fail
  refine HNw.out.mono ?_
  rintro r w0 ⟨rfl, hs0, hb0⟩
  rw [show max (2 : Int) 1 = 2 from rfl, show max (3 : Int) 1 = 3 from rfl] at hs0
  have HS0 : Hid (StoA w0 B (B + 1) B (.slice none 0 0) 2 3 [] 0) := hs0
  have HL0 : Hid (Below B W w0) := hb0
  have HZ0 : Hid (B ≤ w0.heap.size) := by have := hb0.size; have := HB0.out; show _ ≤ _; omega
  clear hs0 hb0 HNw
  go_wp2_with fail
  refine (at_calls w0 0).mono ?_
  rintro r w1 ⟨a, c, rfl, ho, hb⟩
  obtain ⟨h1, h2, h3⟩ := at_keep HS0.out HL0.out HZ0.out hb
  have HK := Lib.hid (keep_at w1 B (B + 1) B (.slice none 0 0) 2 3 [] 0 0 _ a c h1 ⟨by decide, by decide⟩ (by decide) (by decide) ho h3)
  have H1 := Lib.hid h1
  have H2 := Lib.hid h2
  have H3 := Lib.hid h3
  clear h1 h2 h3 ho hb
  go_wp2_with fail
  refine HK.out.mono ?_
  rintro r w2 ⟨rfl, v1, hs, ht, _⟩
  rw [show keepB 2 3 [] 0 = [0] by decide] at hs
  have HS1 := Lib.hid hs
  have HL1 := Lib.hid (keep_low H1.out H2.out H3.out ht).1
  have HZ1 := Lib.hid (keep_low H1.out H2.out H3.out ht).2
  clear hs ht HK H1 H2 H3 HS0 HL0 HZ0
  go_wp2_with fail
  refine (at_calls w2 2).mono ?_
  rintro r w3 ⟨a, c, rfl, ho, hb⟩
  obtain ⟨h1, h2, h3⟩ := at_keep HS1.out HL1.out HZ1.out hb
  have HK := Lib.hid (keep_at w3 B (B + 1) B (v1) 2 3 [0] 1 2 _ a c h1 ⟨by decide, by decide⟩ (by decide) (by decide) ho h3)
  have H1 := Lib.hid h1
  have H2 := Lib.hid h2
  have H3 := Lib.hid h3
  clear h1 h2 h3 ho hb
  go_wp2_with fail
  refine HK.out.mono ?_
  rintro r w4 ⟨rfl, v2, hs, ht, _⟩
  rw [show keepB 2 3 [0] 2 = [0, 2] by decide] at hs
  have HS2 := Lib.hid hs
  have HL2 := Lib.hid (keep_low H1.out H2.out H3.out ht).1
  have HZ2 := Lib.hid (keep_low H1.out H2.out H3.out ht).2
  clear hs ht HK H1 H2 H3 HS1 HL1 HZ1
  go_wp2_with fail
  refine (at_calls w4 3).mono ?_
  rintro r w5 ⟨a, c, rfl, ho, hb⟩
  obtain ⟨h1, h2, h3⟩ := at_keep HS2.out HL2.out HZ2.out hb
  have HK := Lib.hid (keep_at w5 B (B + 1) B (v2) 2 3 [0, 2] 2 3 _ a c h1 ⟨by decide, by decide⟩ (by decide) (by decide) ho h3)
  have H1 := Lib.hid h1
  have H2 := Lib.hid h2
  have H3 := Lib.hid h3
  clear h1 h2 h3 ho hb
  go_wp2_with fail
  refine HK.out.mono ?_
  rintro r w6 ⟨rfl, v3, hs, ht, _⟩
  rw [show keepB 2 3 [0, 2] 3 = [0, 2] by decide] at hs
  have HS3 := Lib.hid hs
  have HL3 := Lib.hid (keep_low H1.out H2.out H3.out ht).1
  have HZ3 := Lib.hid (keep_low H1.out H2.out H3.out ht).2
  clear hs ht HK H1 H2 H3 HS2 HL2 HZ2
  go_wp2_with fail
  refine (at_calls w6 4).mono ?_
  rintro r w7 ⟨a, c, rfl, ho, hb⟩
  obtain ⟨h1, h2, h3⟩ := at_keep HS3.out HL3.out HZ3.out hb
  have HK := Lib.hid (keep_at w7 B (B + 1) B (v3) 2 3 [0, 2] 3 4 _ a c h1 ⟨by decide, by decide⟩ (by decide) (by decide) ho h3)
  have H1 := Lib.hid h1
  have H2 := Lib.hid h2
  have H3 := Lib.hid h3
  clear h1 h2 h3 ho hb
  go_wp2_with fail
  refine HK.out.mono ?_
  rintro r w8 ⟨rfl, v4, hs, ht, _⟩
  rw [show keepB 2 3 [0, 2] 4 = [0, 2, 4] by decide] at hs
  have HS4 := Lib.hid hs
  have HL4 := Lib.hid (keep_low H1.out H2.out H3.out ht).1
  have HZ4 := Lib.hid (keep_low H1.out H2.out H3.out ht).2
  clear hs ht HK H1 H2 H3 HS3 HL3 HZ3
  go_wp2_with fail
  refine (at_calls w8 6).mono ?_
  rintro r w9 ⟨a, c, rfl, ho, hb⟩
  obtain ⟨h1, h2, h3⟩ := at_keep HS4.out HL4.out HZ4.out hb
  have HK := Lib.hid (keep_at w9 B (B + 1) B (v4) 2 3 [0, 2, 4] 4 6 _ a c h1 ⟨by decide, by decide⟩ (by decide) (by decide) ho h3)
  have H1 := Lib.hid h1
  have H2 := Lib.hid h2
  have H3 := Lib.hid h3
  clear h1 h2 h3 ho hb
  go_wp2_with fail
  refine HK.out.mono ?_
  rintro r w10 ⟨rfl, v5, hs, ht, _⟩
  rw [show keepB 2 3 [0, 2, 4] 6 = [0, 4, 6] by decide] at hs
  have HS5 := Lib.hid hs
  have HL5 := Lib.hid (keep_low H1.out H2.out H3.out ht).1
  have HZ5 := Lib.hid (keep_low H1.out H2.out H3.out ht).2
  clear hs ht HK H1 H2 H3 HS4 HL4 HZ4
  go_wp2_with fail
  refine (places_calls w10 B (B + 1) B v5 2 3 [0, 4, 6] fA 5 HS5.out (by decide)).mono ?_
  rintro r w11 ⟨vl, rfl, hl, hb⟩
  obtain ⟨al, cl, rfl, hli⟩ := own_ints hl
  obtain ⟨hS, hL, hZ⟩ := at_keep HS5.out HL5.out HZ5.out hb
  have HS6 := Lib.hid hS
  have HL6 := Lib.hid hL
  have HZ6 := Lib.hid hZ
  have HLi := Lib.hid hli
  clear hl hb hS hL hZ hli HS5 HL5 HZ5
  go_wp2_with fail
  refine (near_calls w11 B (B + 1) B v5 2 3 [0, 4, 6] fA 5 5 HS6.out ⟨by decide, by decide⟩ (by decide)).mono ?_
  rintro r w12 ⟨⟨us, rfl, hul, hus, _⟩, hb⟩
  rw [show uptoN [0, 4, 6] 5 = 2 by decide, show nearB [0, 4, 6] 5 = 4 by decide] at hus ⊢
  rw [if_neg (by decide : ¬ 2 = 0), show decide (2 ≠ 0) = true by decide]
  have hH := hus (by decide)
  obtain ⟨hd, _, _⟩ := at_cells hH
  have HHd := Lib.hid hd
  have HUl := Lib.hid hul
  have HOne := Lib.hid (state_1.one hH)
  have HL12 : Hid (Below B W w12) := HL6.out.trans (hb.mono HZ6.out)
  have HLi12 := Lib.hid (HLi.out.below (stable_intAt _) hb)
  have HZ12 : Hid (B ≤ w12.heap.size) := Nat.le_trans HZ6.out hb.size
  clear hus hH hd hul hb
  obtain ⟨t6, w13, hw13, ht6, hc6, hb6⟩ := new_box w12
  have HW13 : Hid (w12.alloc (.cells #[.slice none 0 0, .slice none 0 0, .int .i64 0, .string ⟨#[]⟩, .slice none 0 0, .slice none 0 0, .slice none 0 0, .slice none 0 0, .slice none 0 0, .int .i64 0, .int .i64 0, .int .i64 0, .string ⟨#[]⟩, .slice none 0 0, .int .i64 0, .int .i64 0, .int .i64 0, .int .i64 0, .string ⟨#[]⟩, .slice none 0 0, .int .i64 0, .slice none 0 0, .int .i64 0, .int .i64 0, .int .i64 0, .bool false, .bool false, .bool false, .int .i64 0] stT) = w13) := hw13
  have HT6 := Lib.hid ht6
  have HC6 := Lib.hid hc6
  have HB6 : Hid (Below w12.heap.size w12 (w13.setCells t6 0 us)) := hb6.grown (Sl.setCells_grown t6 us 0 w13) hb6.size (fun j hj => by have := Option.some.inj hj; omega)
  clear hw13 ht6 hc6 hb6
  go_upto_region 9 with (refine wpList_store_mid rfl stT (.tmp 4) (.tmp 28) rfl w12.heap.size 0 us.toArray rfl rfl (by rw [HW13.out, HT6.out]; exact there_cut HC6.out _ (by rw [List.size_toArray, HUl.out]; exact Nat.le_refl _)) (by rw [List.size_toArray, HUl.out]; exact info_st) (all_oneCell_toArray HOne.out) ?_)
  rw [HW13.out, HT6.out]
  have hCt : Cut t6 us stT (w13.setCells t6 0 us) := set_cut HC6.out (by rw [HUl.out]; rfl)
  change Code.wp _ _ _ _ (w13.setCells t6 0 us)
  generalize w13.setCells t6 0 us = w14 at *
  have c24 : w14.cell? ⟨t6, 24, none⟩ = some (.int .i64 4) := (hCt.cell 24).trans HHd.out
  obtain ⟨bb, o, hc, hix⟩ := at_ints (HLi12.out.below (stable_intAt _) HB6.out)
  have e1 : w14.cell? ⟨bb, o + 1, none⟩ = some (.int .i64 4) := hc 1 (by decide)
  have e2 : w14.cell? ⟨bb, o + 2, none⟩ = some (.int .i64 6) := hc 2 (by decide)
  have x1 : ∀ (kd : IntKind) (w' : World), (Instr.indexAt 41 (.slice al 3 cl) (.int kd 1)).run Try.prog w' = .ok (.pointer (some ⟨bb, o + 1, none⟩)) w' := fun kd w' => hix kd 1 w' (by decide)
  have x2 : ∀ (kd : IntKind) (w' : World), (Instr.indexAt 41 (.slice al 3 cl) (.int kd 2)).run Try.prog w' = .ok (.pointer (some ⟨bb, o + 2, none⟩)) w' := fun kd w' => hix kd 2 w' (by decide)
  have HL14 : Hid (Below B W w14) := HL12.out.trans (HB6.out.mono HZ12.out)
  clear hCt hc hix
  go_wp2_with fail
  go_ret
  exact ⟨rfl, HL14.out⟩
end Go.Proofs.Ytmhofdoifgfjfaa
