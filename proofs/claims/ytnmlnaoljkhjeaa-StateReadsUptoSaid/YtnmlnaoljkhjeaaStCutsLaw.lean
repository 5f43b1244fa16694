/-
  State: the statement StateCuts, walked. Conditions: as each contract says.
-/
import Derived.Test.YtnmlnaoljkhjeaaGAw
set_option linter.unusedVariables false
set_option maxRecDepth 100000
namespace Go.Proofs.Ytnmlnaoljkhjeaa
open Go.RowKit Base

theorem pair_below {α β : Type} {k : Nat} {A1 : World → List Value → α → Prop} {A2 : World → List Value → β → Prop} {W W' : World} (h1 : ∀ {vs a}, A1 W vs a → A1 W' vs a) (h2 : ∀ {vs a}, A2 W vs a → A2 W' vs a) {vs : List Value} {a : α × β} (h : pairH k A1 A2 W vs a) : pairH k A1 A2 W' vs a := by
  obtain ⟨v1, v2, e, hl, g1, g2⟩ := h
  exact ⟨v1, v2, e, hl, h1 g1, h2 g2⟩
theorem rowA_below {α : Type} {k : Nat} (hk : 0 < k) {A : World → List Value → α → Prop} {W W' : World} (hb : Below W.heap.size W W') (h : ∀ {vs a}, A W vs a → A W' vs a) {vs : List Value} {zs : List α} (hr : RowA k A W vs zs) : RowA k A W' vs zs := by
  obtain ⟨p, cap, rfl, h1, h2, he⟩ := hr
  refine ⟨p, cap, rfl, h1, h2, he.imp id ?_⟩
  rintro ⟨b, o, rfl, hel⟩
  refine ⟨b, o, rfl, fun j hj => ?_⟩
  obtain ⟨us, hl, hcu, hfu, hA⟩ := hel j hj
  have hbl : b < W.heap.size := World.block_lt_of_cell? W _ (hcu 0 (by omega))
  exact ⟨us, hl, hcu.below hb hbl, fun i hi => (hb.frozen (p := ⟨b, o + j * k + i, none⟩) hbl).trans (hfu i hi), h hA⟩
theorem flat_bl {α : Type} {V : α → List Value} {W W' : World} {vs : List Value} {a : α} (h : flatH V W vs a) : flatH V W' vs a := h
section
variable {W W' : World} (hb : Below W.heap.size W W')
include hb
theorem strsA_below {vs : List Value} {a : List Nm} (h : strsA W vs a) : strsA W' vs a := rowA_below (k := 1) (by decide) hb id h
theorem varsA_below {vs : List Value} {a : List VarD} (h : varsA W vs a) : varsA W' vs a := rowA_below (k := 2) (by decide) hb id h
theorem fnsA_below {vs : List Value} {a : List FnD} (h : fnsA W vs a) : fnsA W' vs a := rowA_below (k := 3) (by decide) hb id h
theorem trapsA_below {vs : List Value} {a : List TrapD} (h : trapsA W vs a) : trapsA W' vs a := rowA_below (k := 2) (by decide) hb id h
theorem pairsA_below {vs : List Value} {a : List PairD} (h : pairsA W vs a) : pairsA W' vs a := rowA_below (k := 2) (by decide) hb id h
theorem numsA_below {vs : List Value} {a : List Int} (h : numsA W vs a) : numsA W' vs a := rowA_below (k := 1) (by decide) hb id h
theorem envA_below {vs : List Value} {a : EnvD} (h : envA W vs a) : envA W' vs a := pair_below (varsA_below hb) (pair_below (strsA_below hb) (pair_below flat_bl flat_bl)) h
theorem keepA_below {vs : List Value} {a : KeepD} (h : keepA W vs a) : keepA W' vs a := pair_below (envA_below hb) (pair_below (fnsA_below hb) (pair_below (trapsA_below hb) (pairsA_below hb))) h
theorem frameA_below {vs : List Value} {a : FrameD} (h : frameA W vs a) : frameA W' vs a := pair_below flat_bl (pair_below flat_bl (pair_below flat_bl (pair_below flat_bl (pair_below flat_bl (pair_below (numsA_below hb) (pair_below (strsA_below hb) (pair_below (varsA_below hb) (keepA_below hb)))))))) h
theorem framesA_below {vs : List Value} {a : List FrameD} (h : framesA W vs a) : framesA W' vs a := rowA_below (k := 19) (by decide) hb (frameA_below hb) h
theorem reqA_below {vs : List Value} {a : ReqD} (h : reqA W vs a) : reqA W' vs a := pair_below flat_bl (pair_below flat_bl (pair_below flat_bl (pair_below flat_bl (strsA_below hb)))) h
theorem ansA_below {vs : List Value} {a : AnsD} (h : ansA W vs a) : ansA W' vs a := pair_below flat_bl (pair_below flat_bl (pair_below flat_bl (pair_below flat_bl (pair_below (strsA_below hb) flat_bl)))) h
theorem stateA_below {vs : List Value} {a : StateD} (h : stateA W vs a) : stateA W' vs a :=
  pair_below (keepA_below hb) (pair_below (strsA_below hb) (pair_below (framesA_below hb) (pair_below (reqA_below hb) (pair_below (ansA_below hb) (pair_below (numsA_below hb) (pair_below flat_bl (pair_below flat_bl flat_bl))))))) h
end
theorem cut_below {W W' : World} {b : Nat} {us : List Value} {t : TypeId} (h : Cut b us t W) (hb : Below W.heap.size W W') : Cut b us t W' := (hb.block b h.lt).trans h
theorem own_other {w w' : World} {base : Nat} {e : TypeId} {k : Nat} {v : Value} {n : Nat} {xs : List Value} {q : Option Nat} (h : w.ownsRow base e k v n xs) (hg : w.grownBy w' q) (hq : ∀ j, q = some j → v.ownBlock ≠ some j) : w'.ownsRow base e k v n xs := by
  refine ⟨h.1, ?_⟩
  rcases h.2 with h2 | ⟨g, cap, cur, rfl, h2, h3, h4⟩
  · exact .inl h2
  · exact .inr ⟨g, cap, cur, rfl, h2, (hg.block g (Array.getElem?_eq_some_iff.1 h3).1 (fun e => hq g e.symm rfl)).trans h3, h4⟩
/-- What a state that came in is. -/
structure InS (W : World) (vs : List Value) (s : StateD) : Prop where
  a : stateA W vs s
  q : StateQ s
  len : vs.length = 29
  enc : (stateC.enc s).length ≤ 10485760
theorem InS.below {W W' : World} {vs : List Value} {s : StateD} (h : InS W vs s) (hb : Below W.heap.size W W') : InS W' vs s := ⟨stateA_below hb h.a, h.q, h.len, h.enc⟩
theorem InS.one {W : World} {vs : List Value} {s : StateD} (h : InS W vs s) : ∀ v ∈ vs, v.oneCell' = true := by
  obtain ⟨p0, p1, p4, p5, p6, p7, p8, p13, p19, p21, k0, k1, k4, k5, k6, k7, k8, k13, k19, k21, hvs, _⟩ := stateA_inv h.a
  intro v hv
  rw [hvs] at hv
  simp only [List.mem_cons, List.not_mem_nil, or_false] at hv
  rcases hv with rfl | rfl | rfl | rfl | rfl | rfl | rfl | rfl | rfl | rfl | rfl | rfl | rfl | rfl | rfl | rfl | rfl | rfl | rfl | rfl | rfl | rfl | rfl | rfl | rfl | rfl | rfl | rfl | rfl <;> rfl
abbrev Z29 : Array Value := #[.slice none 0 0, .slice none 0 0, .int .i64 0, .string ⟨#[]⟩, .slice none 0 0, .slice none 0 0, .slice none 0 0, .slice none 0 0, .slice none 0 0, .int .i64 0, .int .i64 0, .int .i64 0, .string ⟨#[]⟩, .slice none 0 0, .int .i64 0, .int .i64 0, .int .i64 0, .int .i64 0, .string ⟨#[]⟩, .slice none 0 0, .int .i64 0, .slice none 0 0, .int .i64 0, .int .i64 0, .int .i64 0, .bool false, .bool false, .bool false, .int .i64 0]
/-- A new box for a state, and what is stored there. -/
theorem new_box (w : World) : ∃ t w', w.alloc (.cells Z29 stT) = w' ∧ w.heap.size = t ∧ Cut t stZ stT w' ∧ Below w.heap.size w w' := ⟨_, _, rfl, rfl, heap_alloc_new w _, (Below.refl w.heap.size w).alloc (Nat.le_refl _) _⟩
set_option maxHeartbeats 4000000 in
theorem st_cuts (W : World) (vs : List Value) (s : StateD) (hs : InS W vs s) (cu : Nat) (hcu : cu ≤ 65535) (am : Option Addr) (n cap : Nat) (more : Nm) (hm : Bytes W am n cap more) (hn : n ≤ 100000000) :
    Calls Try.prog 5 #[.agg vs.toArray, .int .u16 (cu : Int), .slice am n cap] W fun r W' => r = .returned (.bool true) ∧ Below W.heap.size W W' := by
  obtain ⟨w1, hw1, hc1, hb1⟩ : ∃ w1, W.alloc (.cells vs.toArray stT) = w1 ∧ Cut W.heap.size vs stT w1 ∧ Below W.heap.size W w1 := ⟨_, rfl, heap_alloc_new W _, (Below.refl W.heap.size W).alloc (Nat.le_refl _) _⟩
  have HW := Lib.hid hw1
  have HS := Lib.hid hs
  have HV : Hid (vs.length = 29) := hs.len
  have HM := Lib.hid hm
  have HMl : Hid (n = more.length) := hm.1
  obtain ⟨dd, hdu, hdr⟩ := Option.map_eq_some_iff.1 und_st
  have HDu := Lib.hid hdu
  have HDr := Lib.hid hdr
  have HInf : Hid ((Try.prog.info? stT).map (fun i => i.size) = some vs.length) := by show _ = _; rw [HV.out]; exact info_st
  have HC1 := Lib.hid hc1
  have HB1 := Lib.hid hb1
  clear hw1 hc1 hb1 hs hm hdu hdr
  go_enter Try.func5, Try.ntmps5
  go_upto_region 1 with fail
  rw [HW.out]
  obtain ⟨tb, htb⟩ : ∃ tb, W.heap.size = tb := ⟨_, rfl⟩
  rw [htb] at HC1 ⊢
  go_wp2_with fail
  refine (awake_calls w1).mono ?_
  rintro r w2 ⟨rfl, hb2⟩
  have HB2 := Lib.hid (HB1.out.trans (hb2.mono HB1.out.size))
  have HC2 := Lib.hid (cut_below HC1.out hb2)
  clear hb2
  have HFw := Lib.hid (few_calls w2 vs s (HS.out.below HB2.out).a (Nat.le_trans HS.out.enc (by decide)))
  go_wp2_with (refine wpList_load_g (by kernel_rfl) stT (.tmp 3) rfl tb 0 rfl vs dd (cut_range HC2.out) HDu.out HDr.out HInf.out ?_)
  refine HFw.out.mono ?_
  rintro r w3 ⟨rfl, hb3⟩
  have HB3 := Lib.hid (HB2.out.trans (hb3.mono HB2.out.size))
  have HC3 := Lib.hid (cut_below HC2.out hb3)
  clear hb3 HFw
  by_cases hf : fewN s ≤ 300
  case neg =>
    rw [decide_eq_false hf]
    go_wp2_with fail
    go_ret
    exact ⟨rfl, HB3.out⟩
  rw [decide_eq_true hf]
  have HP := Lib.hid (state_few hf HS.out.q)
  clear hf
  by_cases hm0 : more = []
  · have e1 : n = 0 := by rw [HMl.out, hm0]; rfl
    subst e1
    go_wp2_with fail
    go_ret
    exact ⟨rfl, HB3.out⟩
  have hnp : 0 < n := by rw [HMl.out]; exact List.length_pos_iff.2 hm0
  have HM0 := Lib.hid hm0
  clear hm0
  have u1 : decide ((n : Int) = 0) = false := decide_eq_false (by omega)
  have u2 : ((n : Int) == 0) = false := by rw [beq_eq_false_iff_ne]; omega
  have u3 : ¬ (n : Int) = 0 := by omega
  have HPk := Lib.hid (pack_calls w3 vs s (PkArg.ofA (HS.out.below HB3.out).a HV.out) HP.out (Nat.le_trans HS.out.enc (by decide)))
  go_wp2_with (refine wpList_load_g (by kernel_rfl) stT (.tmp 3) rfl tb 0 rfl vs dd (cut_range HC3.out) HDu.out HDr.out HInf.out ?_)
  refine HPk.out.mono ?_
  rintro r w4 ⟨u, rfl, hown, hb4⟩
  clear u1 u2 u3
  have HB4 := Lib.hid (HB3.out.trans (hb4.mono HB3.out.size))
  have HOw4 : Hid (w4.ownsRow W.heap.size 5 1 u (stateC.enc s).length ((stateC.enc s).map bv)) := own_base hown HB3.out.size
  obtain ⟨a4, c4, rfl, hv4⟩ := ownsRow_bytes hown
  have h29 := enc29 s
  have hle := HS.out.enc
  have HUc : Hid (∀ k, k < (stateC.enc s).length → (unB ((stateC.enc s).take k)).2 = 10) := fun k hk => unB_cut HP.out hk
  have HUm : Hid ((unB (stateC.enc s ++ more)).2 = 14) := unB_more HP.out HM0.out
  have hcb := hv4.2.2.1
  have hnb := hv4.2.1
  have HLe : Hid ((stateC.enc s).length = (stateC.enc s).length) := rfl
  clear hown hb4 HPk
  generalize stateC.enc s = bs at *
  obtain ⟨L, hL⟩ : ∃ L, bs.length = L := ⟨_, rfl⟩
  rw [hL] at h29 hle hv4 HOw4 HUc hnb ⊢
  have HL := Lib.hid hL
  obtain ⟨k, hk⟩ : ∃ k : Nat, k = cu % L := ⟨_, rfl⟩
  have hkL : k < L := by rw [hk]; exact Nat.mod_lt cu (by omega)
  have hkI : (cu : Int) % (L : Int) = (k : Int) := by rw [hk]; simp
  have hkT : Int.tmod (cu : Int) (L : Int) = (k : Int) := by rw [← hkI]; exact Int.tmod_eq_emod_of_nonneg (by omega)
  obtain ⟨asl, hsub, hrun⟩ := sub_bytes hv4 0 k (Nat.zero_le _) (by omega)
  rw [List.drop_zero, Nat.sub_zero, Nat.sub_zero] at hsub
  have hr2 : ∀ w', (Instr.slice 43 (.slice a4 L c4) none (some (.int .i64 (k : Int))) none).run Try.prog w' = .ok (.slice asl k c4) w' := fun w' => by have := (hrun w').2.1 rfl .i64; simpa using this
  have HSub := Lib.hid hsub
  have HUk : Hid ((unB (bs.take k)).2 = 10) := HUc.out k hkL
  have hL0 : ¬ (L : Int) = 0 := by omega
  clear hsub hrun hk hL HUc hv4
  go_wp2_with fail
  clear hr2 hL0 hkI hkT
  refine (unpack_calls w4 asl k c4 _ HSub.out (by have := HSub.out.2.1; omega)).mono ?_
  rintro r w5 ⟨vs5, rfl, hl5, hH5, hb5⟩
  rw [HUk.out]
  have HOne5 := Lib.hid (state_1.one hH5)
  have HVl5 := Lib.hid hl5
  have HB5 := Lib.hid (HB4.out.trans (hb5.mono HB4.out.size))
  have HOw5 := Lib.hid (ownsRow_below HOw4.out hb5)
  clear hl5 hH5 hb5
  obtain ⟨t6, w6, hw6, ht6, hc6, hb6⟩ := new_box w5
  have HW6 : Hid (w5.alloc (.cells #[.slice none 0 0, .slice none 0 0, .int .i64 0, .string ⟨#[]⟩, .slice none 0 0, .slice none 0 0, .slice none 0 0, .slice none 0 0, .slice none 0 0, .int .i64 0, .int .i64 0, .int .i64 0, .string ⟨#[]⟩, .slice none 0 0, .int .i64 0, .int .i64 0, .int .i64 0, .int .i64 0, .string ⟨#[]⟩, .slice none 0 0, .int .i64 0, .slice none 0 0, .int .i64 0, .int .i64 0, .int .i64 0, .bool false, .bool false, .bool false, .int .i64 0] stT) = w6) := hw6
  have HT6 := Lib.hid ht6
  have HC6 := Lib.hid hc6
  have HB6 : Hid (Below W.heap.size W (w6.setCells t6 0 vs5)) := (HB5.out.trans (hb6.mono HB5.out.size)).grown (Sl.setCells_grown t6 vs5 0 w6) (Nat.le_trans HB5.out.size hb6.size) (fun j hj => by have := Option.some.inj hj; have := HB5.out.size; omega)
  have HOw6 : Hid ((w6.setCells t6 0 vs5).ownsRow W.heap.size 5 1 (.slice a4 L c4) L (bs.map bv)) := own_other (ownsRow_below HOw5.out hb6) (Sl.setCells_grown t6 vs5 0 w6) (fun j hj e => by have := Option.some.inj hj; have := (HOw5.out.lt _ e).2; omega)
  clear hw6 ht6 hc6 hb6
  go_upto_region 11 with (refine wpList_store_mid rfl stT (.tmp 10) (.tmp 40) rfl w5.heap.size 0 vs5.toArray rfl rfl (by rw [HW6.out, HT6.out]; exact there_cut HC6.out _ (by rw [List.size_toArray, HVl5.out]; exact Nat.le_refl _)) (by rw [List.size_toArray, HVl5.out]; exact info_st) (all_oneCell_toArray HOne5.out) ?_)
  rw [HW6.out, HT6.out]
  change Code.wp _ _ _ _ (w6.setCells t6 0 vs5)
  generalize w6.setCells t6 0 vs5 = w7 at *
  obtain ⟨i0, hi0, hz0, hz1, hz2⟩ := info_parts info_u8
  have HSr := Lib.hid (src_bytes (P := Try.prog) (HM.out.below stable_byteAt HB6.out))
  go_wp2_with (at_builtin; refine Ap.wpList_append_at rfl (.tmp 43) (.tmp 44) 43 43 rfl W.heap.size 5 i0 _ 1 1 Try.underlying43 (append_side Try.underlying43) hi0 hz0 hz1 hz2 rfl (by decide) (by decide) (.slice a4 L c4) L (bs.map bv) rfl HOw6.out _ n (more.map bv) rfl HSr.out ?_ ?_ ?_ ?_)
  case _ => unfold maxLen; omega
  case _ => omega
  case _ => exact HB6.out.size
  intro u8 w8 hown8 hg8 _
  have HB8 : Hid (Below W.heap.size W w8) := HB6.out.grown hg8 HB6.out.size (fun j hj => (HOw6.out.lt j hj).1)
  rw [← List.map_append] at hown8
  obtain ⟨a8, c8, rfl, hv8⟩ := ownsRow_bytes hown8
  have HV8 := Lib.hid hv8
  clear hown8 hg8 hv8
  have HUx := Lib.hid (unpack_calls w8 a8 (L + n) c8 _ HV8.out (by omega))
  rw [HUm.out] at HUx
  go_wp2_with fail
  refine HUx.out.mono ?_
  rintro r w9 ⟨vs9, rfl, hl9, hH9, hb9⟩
  have HOne9 := Lib.hid (state_1.one hH9)
  have HVl9 := Lib.hid hl9
  have HB9 := Lib.hid (HB8.out.trans (hb9.mono HB8.out.size))
  clear hl9 hH9 hb9 HUx
  obtain ⟨tA, wA, hwA, htA, hcA, hbA⟩ := new_box w9
  have HWA : Hid (w9.alloc (.cells #[.slice none 0 0, .slice none 0 0, .int .i64 0, .string ⟨#[]⟩, .slice none 0 0, .slice none 0 0, .slice none 0 0, .slice none 0 0, .slice none 0 0, .int .i64 0, .int .i64 0, .int .i64 0, .string ⟨#[]⟩, .slice none 0 0, .int .i64 0, .int .i64 0, .int .i64 0, .int .i64 0, .string ⟨#[]⟩, .slice none 0 0, .int .i64 0, .slice none 0 0, .int .i64 0, .int .i64 0, .int .i64 0, .bool false, .bool false, .bool false, .int .i64 0] stT) = wA) := hwA
  have HTA := Lib.hid htA
  have HCA := Lib.hid hcA
  have HBA : Hid (Below W.heap.size W (wA.setCells tA 0 vs9)) := (HB9.out.trans (hbA.mono HB9.out.size)).grown (Sl.setCells_grown tA vs9 0 wA) (Nat.le_trans HB9.out.size hbA.size) (fun j hj => by have := Option.some.inj hj; have := HB9.out.size; omega)
  clear hwA htA hcA hbA
  go_upto_region 12 with (refine wpList_store_mid rfl stT (.tmp 12) (.tmp 47) rfl w9.heap.size 0 vs9.toArray rfl rfl (by rw [HWA.out, HTA.out]; exact there_cut HCA.out _ (by rw [List.size_toArray, HVl9.out]; exact Nat.le_refl _)) (by rw [List.size_toArray, HVl9.out]; exact info_st) (all_oneCell_toArray HOne9.out) ?_)
  rw [HWA.out, HTA.out]
  change Code.wp _ _ _ _ (wA.setCells tA 0 vs9)
  generalize wA.setCells tA 0 vs9 = wB at *
  go_wp2_with fail
  go_ret
  exact ⟨rfl, HBA.out⟩
end Go.Proofs.Ytnmlnaoljkhjeaa
