/-
  Word: a tree of parts, at its cells; the example. Conditions: as each law says.
-/
import Derived.Test.YtfjkgeeaeolkhaaDoorWoBody
set_option linter.unusedVariables false
set_option linter.unusedSimpArgs false
set_option maxRecDepth 100000
namespace Go.Proofs.YtfjkgeeaeolkhaaDoor
open Go.RowKit Base Wo

/-- A part, at its cells; T: of its word's row. -/
structure PtAt (T : Value → List Prt → Prop) (W : World) (g o : Nat) (p : Prt) : Prop where
  c0 : W.cell? ⟨g, o, none⟩ = some (.int .i64 (p.k : Int))
  c1 : W.cell? ⟨g, o + 1, none⟩ = some (.string (str p.t))
  c2 : W.cell? ⟨g, o + 2, none⟩ = some (.string (str p.o))
  c3 : W.cell? ⟨g, o + 3, none⟩ = some (.bool p.q)
  c4 : ∃ u, W.cell? ⟨g, o + 4, none⟩ = some u ∧ T u p.w
theorem tree_at {n : Nat} {P : Nat → Prop} {W : World} {u : Value} {l : List Prt} (h : TreeH (n + 1) P W u l) (hl : 0 < l.length) :
    ∃ g c, u = .slice (some ⟨g, 0, none⟩) l.length c ∧ P g ∧ g < W.heap.size ∧ l.length ≤ maxLen ∧ ∀ i (hi : i < l.length), PtAt (TreeH n P W) W g (i * 5) l[i] := by
  obtain ⟨h1, zs, rfl, h3, h4⟩ := h
  obtain ⟨g, cap, cur, rfl, hgb, hg, hcn, hcm, hcl, hcx⟩ := Sl.own_row h3 hl
  refine ⟨g, cap, rfl, h1 g rfl, (h3.lt g rfl).2, Nat.le_trans hcn hcm, fun i hi => ?_⟩
  have hz : i < zs.length := by rw [List.length_map] at hi; exact hi
  have hlen : (zs.map (·.1)).length = zs.length := List.length_map _
  have hcut : Cut g cur ptT W := hg
  have hat : ∀ j, j < 5 → cur[i * 5 + j]? = (cz zs[i])[j]? := fun j hj => by
    have h5 := cz_flat_at zs i hz j hj
    rw [← hcx, List.getElem?_take, if_pos (by rw [hlen]; omega)] at h5
    exact h5
  have e : (zs.map (·.1))[i] = zs[i].1 := List.getElem_map _
  rw [e]
  exact ⟨(hcut.cell _).trans (hat 0 (by decide)), (hcut.cell _).trans (hat 1 (by decide)), (hcut.cell _).trans (hat 2 (by decide)), (hcut.cell _).trans (hat 3 (by decide)), zs[i].2, (hcut.cell _).trans (hat 4 (by decide)), h4 _ (List.getElem_mem _)⟩
theorem tree_mono {n : Nat} {P : Nat → Prop} {W : World} {u : Value} {l : List Prt} (h : TreeH n P W u l) : ∃ a c, u = .slice a l.length c := tree_slice h
theorem body_det {f g : Nat} {s : Nm} {a b : Except Int (List Prt)} (h : bodyM f s = some a) (h2 : bodyM g s = some b) : a = b := by
  have hl : ∀ {f g : Nat}, f ≤ g → Le (bodyM f s) (bodyM g s) := fun {f g} hf => by
    unfold bodyM
    exact le_bnd (le_loop (fun s => le_inner (fun s => le_within 0 s hf) _ _ _) _ hf) fun a => le_refl _
  have h3 := le_eq (hl (Nat.le_max_left f g)) h
  have h4 := le_eq (hl (Nat.le_max_right f g)) h2
  rw [h3] at h4
  exact Option.some.inj h4
theorem ok_is {x : M (List Prt)} {l : List Prt} (h : okIs x l = true) : x = some (.ok l) := by
  match x, h with
  | some (.ok m), h => rw [eqN_eq h]
theorem err_is {x : M (List Prt)} {e : Int} (h : errIs x e = true) : x = some (.error e) := by
  match x, h with
  | some (.error d), h => have : d = e := by simpa [errIs] using h
                          rw [this]
def awL : List Prt := [.mk 1 [97] [] false [], .mk 3 [120] [] true [], .mk 2 [98] [] false []]
def awB : List Prt := [.mk 2 [97, 34] [] false [], .mk 3 [120] [] true []]
theorem aw1 : parseM 20 [97, 34, 36, 120, 34, 39, 98, 39] = some (.ok awL) := ok_is (by decide +kernel)
theorem aw2 : parseM 20 [36, 123, 120] = some (.error 11) := err_is (by decide +kernel)
theorem aw3 : bodyM 20 [97, 34, 36, 120] = some (.ok awB) := ok_is (by decide +kernel)
set_option maxHeartbeats 2000000 in
theorem awake_calls (W : World) (hO : OpsT W) : Calls Tryd.prog 8 #[] W fun r W' => r = .returned (.bool true) ∧ Below W.heap.size W W' := by
  have HO := Lib.hid hO
  have HA := Lib.hid (parse_calls W [97, 34, 36, 120, 34, 39, 98, 39] (by decide) hO)
  clear hO
  go_enter Tryd.func8, Tryd.ntmps8
  go_wp2_with fail
  refine HA.out.mono ?_
  rintro r w1 ⟨f, x, hx, hb, hp⟩
  obtain rfl := parse_det hx aw1
  obtain ⟨u, rfl, ht⟩ := hp
  have HB1 := Lib.hid hb
  have HT1 := Lib.hid ht
  have HA2 := Lib.hid (parse_calls w1 [36, 123, 120] (by decide) (HO.out.below hb))
  clear hx hb ht
  go_wp2_with fail
  refine HA2.out.mono ?_
  rintro r w2 ⟨f, x, hx, hb, hp⟩
  obtain rfl := parse_det hx aw2
  obtain rfl := hp
  have HB2 := Lib.hid (HB1.out.trans (hb.mono HB1.out.size))
  have HT2 := Lib.hid (tree_below HT1.out hb)
  have HA3 := Lib.hid (body_calls w2 [97, 34, 36, 120] (by decide) (HO.out.below HB2.out))
  clear hx hb
  go_wp2_with fail
  refine HA3.out.mono ?_
  rintro r w3 ⟨f, x, hx, hb, hp⟩
  obtain rfl := body_det hx aw3
  obtain ⟨m, rfl, ht⟩ := hp
  have HB3 := Lib.hid (HB2.out.trans (hb.mono HB2.out.size))
  have ht1 := tree_below HT2.out hb
  obtain ⟨g, c, rfl, _, _, _, hp⟩ := tree_at ht1 (by decide)
  obtain ⟨k, d, rfl, _, _, _, hq⟩ := tree_at ht (by decide)
  have a0 := (hp 0 (by decide)).c0
  have b0 := (hp 1 (by decide)).c0
  have b1 := (hp 1 (by decide)).c1
  have b3 := (hp 1 (by decide)).c3
  have d1 := (hp 2 (by decide)).c1
  have q1 := (hq 0 (by decide)).c1
  have XI : Hid (∀ (i : Nat) (hi : i < 3) (kd : IntKind) (w' : World), (Instr.indexAt 23 (.slice (some ⟨g, 0, none⟩) 3 c) (.int kd (i : Int))).run Tryd.prog w' = .ok (.pointer (some ⟨g, i * 5, none⟩)) w') := fun i hi kd w' => idx_pt i hi kd w'
  have XJ : Hid (∀ (i : Nat) (hi : i < 2) (kd : IntKind) (w' : World), (Instr.indexAt 23 (.slice (some ⟨k, 0, none⟩) 2 d) (.int kd (i : Int))).run Tryd.prog w' = .ok (.pointer (some ⟨k, i * 5, none⟩)) w') := fun i hi kd w' => idx_pt i hi kd w'
  have i0 := XI.out 0 (by decide)
  have i1 := XI.out 1 (by decide)
  have i2 := XI.out 2 (by decide)
  have j0 := XJ.out 0 (by decide)
  have s1 : ((str [120]).toList == [120]) = true := by rw [str_toList]; rfl
  have s2 : ((str [98]).toList == [98]) = true := by rw [str_toList]; rfl
  have s3 : ((str [97, 34]).toList == [97, 34]) = true := by rw [str_toList]; rfl
  simp only [awL, awB, List.length_cons, List.length_nil, List.getElem_cons_succ, List.getElem_cons_zero, Prt.k, Prt.t, Prt.q, Nat.zero_mul, Nat.zero_add, Nat.one_mul, Nat.reduceMul, Nat.reduceAdd, Int.cast_ofNat_Int] at a0 b0 b1 b3 d1 q1 i0 i1 i2 j0
  clear hx hb ht ht1 hp hq
  simp only [awL, awB, List.length_cons, List.length_nil, Nat.zero_add, Nat.reduceAdd]
  go_wp2_with fail
  go_ret
  exact ⟨rfl, HB3.out⟩
end Go.Proofs.YtfjkgeeaeolkhaaDoor
