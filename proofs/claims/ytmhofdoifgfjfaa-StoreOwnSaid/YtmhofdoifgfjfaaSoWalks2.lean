/-
  Store: the law's at, New, Places. Conditions: as each contract says.
-/
import Derived.Test.YtmhofdoifgfjfaaSoLib
set_option linter.unusedVariables false
set_option maxRecDepth 100000
namespace Go.Proofs.Ytmhofdoifgfjfaa
open Go.RowKit Base

theorem info_s : (Try.prog.info? 9).map (fun i => (i.zero, i.size, i.bytes)) = some (some (.string ⟨#[]⟩), 1, 16) := by kernel_rfl
theorem atV_one (u : Value) (hu : u.oneCell' = true) (p : Int) (d : Bool) : ∀ v ∈ atV u p d, v.oneCell' = true := by
  intro v hv
  simp only [List.mem_cons, List.not_mem_nil, or_false] at hv
  rcases hv with rfl | rfl | rfl | rfl | rfl | rfl | rfl | rfl | rfl | rfl | rfl | rfl | rfl | rfl | rfl | rfl | rfl | rfl | rfl | rfl | rfl | rfl | rfl | rfl | rfl | rfl | rfl | rfl | rfl <;> first | rfl | exact hu
set_option maxHeartbeats 4000000 in
theorem at_calls (W : World) (p : Int) : Calls Try.prog 9 #[.int .i64 p] W fun r W' => ∃ a c, r = .returned (.agg (atV (.slice a 1 c) p false).toArray) ∧ W'.ownsRow W.heap.size 9 1 (.slice a 1 c) 1 [.string ⟨#[120]⟩] ∧ Below W.heap.size W W' := by
  obtain ⟨i0, hi0, hz0, hz1, hz2⟩ := info_parts info_s
  obtain ⟨dd, hdu, hdr⟩ := Option.map_eq_some_iff.1 und_st
  have HDu := Lib.hid hdu
  have HDr := Lib.hid hdr
  obtain ⟨B, hB⟩ : ∃ B, W.heap.size = B := ⟨_, rfl⟩
  obtain ⟨wA, hwA, hcA, hcB, hbA⟩ : ∃ wA, (W.alloc (.cells Z29 stT)).alloc (.cells Z29 stT) = wA ∧ Cut B stZ stT wA ∧ Cut (B + 1) stZ stT wA ∧ Below B W wA := by
    have h1 : (W.alloc (.cells Z29 stT)).heap.size = B + 1 := by rw [World.size_alloc, hB]
    have b1 := (Below.refl W.heap.size W).alloc (Nat.le_refl _) (.cells Z29 stT)
    have c1 := heap_alloc_new W (.cells Z29 stT)
    have c2 := heap_alloc_new (W.alloc (.cells Z29 stT)) (.cells Z29 stT)
    rw [h1] at c2
    rw [hB] at c1 b1
    refine ⟨_, rfl, ?_, c2, b1.alloc (by omega) _⟩
    exact (Below.heap_alloc _ _ _ (by omega)).trans c1
  have HA : Hid ((W.alloc (.cells #[.slice none 0 0, .slice none 0 0, .int .i64 0, .string ⟨#[]⟩, .slice none 0 0, .slice none 0 0, .slice none 0 0, .slice none 0 0, .slice none 0 0, .int .i64 0, .int .i64 0, .int .i64 0, .string ⟨#[]⟩, .slice none 0 0, .int .i64 0, .int .i64 0, .int .i64 0, .int .i64 0, .string ⟨#[]⟩, .slice none 0 0, .int .i64 0, .slice none 0 0, .int .i64 0, .int .i64 0, .int .i64 0, .bool false, .bool false, .bool false, .int .i64 0] stT)).alloc (.cells #[.slice none 0 0, .slice none 0 0, .int .i64 0, .string ⟨#[]⟩, .slice none 0 0, .slice none 0 0, .slice none 0 0, .slice none 0 0, .slice none 0 0, .int .i64 0, .int .i64 0, .int .i64 0, .string ⟨#[]⟩, .slice none 0 0, .int .i64 0, .int .i64 0, .int .i64 0, .int .i64 0, .string ⟨#[]⟩, .slice none 0 0, .int .i64 0, .slice none 0 0, .int .i64 0, .int .i64 0, .int .i64 0, .bool false, .bool false, .bool false, .int .i64 0] stT) = wA) := hwA
  have HA0 := Lib.hid hcA
  have HB0 := Lib.hid hcB
  have HW0 : Hid (Below B W wA) := hbA
  have HBl0 : Hid (B + 1 < wA.heap.size) := hcB.lt
  have HB := Lib.hid hB
  clear hwA hcA hcB hbA hdu hdr
  go_enter Try.func9, Try.ntmps9
  go_upto_region 2 with (refine wpList_store_mid rfl stT (.tmp 3) (.tmp 5) rfl (B + 1) 0 (atV (.slice none 0 0) p false).toArray rfl rfl (by rw [HA.out]; exact there_cut HB0.out _ (Nat.le_refl _)) info_st (all_oneCell_toArray (atV_one _ rfl p false)) ?_)
  rw [HA.out]
  have hc1 : Cut (B + 1) (atV (.slice none 0 0) p false) stT (wA.setCells (B + 1) 0 (atV (.slice none 0 0) p false)) := set_cut HB0.out rfl
  have hg1 := Sl.setCells_grown (B + 1) (atV (.slice none 0 0) p false) 0 wA
  have HCB := Lib.hid hc1
  have HCA : Hid (Cut B stZ stT (wA.setCells (B + 1) 0 (atV (.slice none 0 0) p false))) := (hg1.block B HA0.out.lt (by simp)).trans HA0.out
  have HBA : Hid (Below B W (wA.setCells (B + 1) 0 (atV (.slice none 0 0) p false))) := HW0.out.grown hg1 (by have := HBl0.out; omega) (fun j hj => by have := Option.some.inj hj; omega)
  have HBl : Hid (B + 1 < (wA.setCells (B + 1) 0 (atV (.slice none 0 0) p false)).heap.size) := hc1.lt
  clear hc1 hg1
  change Code.wp _ _ _ _ (wA.setCells (B + 1) 0 (atV (.slice none 0 0) p false))
  generalize wA.setCells (B + 1) 0 (atV (.slice none 0 0) p false) = wA at *
  have c7 : wA.cell? ⟨B + 1, 7, none⟩ = some (.slice none 0 0) := HCB.out.cell 7
  have f7 : wA.frozen? ⟨B + 1, 7, none⟩ = false := HCB.out.frozen 7
  have hal := (Below.refl wA.heap.size wA).alloc (Nat.le_refl _) (.cells #[.string ⟨#[120]⟩] 9)
  have HAl := Lib.hid hal
  have HN0 : Hid ((wA.alloc (.cells #[.string ⟨#[120]⟩] 9)).ownsRow (B + 2) 9 1 (.slice none 0 0) 0 []) := World.ownsRow_nil _ _ _ _
  go_wp2_with (at_builtin; refine wpList_append_src rfl (.tmp 7) (.tmp 8) 27 27 rfl (B + 2) 9 i0 (.string ⟨#[]⟩) 1 16 Try.underlying27 (append_side Try.underlying27) hi0 hz0 hz1 hz2 rfl (by decide) (by decide) (.slice none 0 0) 0 [] rfl HN0.out _ 1 [.string ⟨#[120]⟩] rfl (src_new wA [.string ⟨#[120]⟩] 9 1 1 rfl (by simp [Value.oneCell']) _) ?_ ?_ ?_ ?_)
  case _ => unfold maxLen; omega
  case _ => omega
  case _ => have := HBl.out; rw [World.size_alloc]; omega
  intro v' w2 hown hgr _
  obtain ⟨a, c, rfl, _, _, _, _⟩ := ownsRow_slice hown
  have hb2 : Below wA.heap.size wA w2 := hal.grown hgr hal.size (fun j hj => by cases hj)
  have hcA2 := cut_below HCA.out hb2
  have hcB2 := cut_below HCB.out hb2
  have c72 : w2.cell? ⟨B + 1, 7, none⟩ = some (.slice none 0 0) := hcB2.cell 7
  have f72 : w2.frozen? ⟨B + 1, 7, none⟩ = false := hcB2.frozen 7
  have HB2 : Hid (Below B W w2) := HBA.out.trans (hb2.mono (by have := HBl.out; omega))
  have HCA2 := Lib.hid hcA2
  have HCB2 := Lib.hid hcB2
  have HO2 : Hid (w2.ownsRow (B + 2) 9 1 (.slice a 1 c) 1 [.string ⟨#[120]⟩]) := hown
  clear hown hgr hb2 hcA2 hcB2 c7 f7 hal
  have hw3 : Cut (B + 1) (atV (.slice a 1 c) p false) stT (w2.setCell ⟨B + 1, 7, none⟩ (.slice a 1 c)) := HCB2.out.set 7 (.slice a 1 c)
  have hgs : w2.grownBy (w2.setCell ⟨B + 1, 7, none⟩ (.slice a 1 c)) (some (B + 1)) := Sl.setCells_grown (B + 1) [.slice a 1 c] 7 w2
  have HC3 := Lib.hid hw3
  have HCA3 : Hid (Cut B stZ stT (w2.setCell ⟨B + 1, 7, none⟩ (.slice a 1 c))) := (hgs.block B HCA2.out.lt (by simp)).trans HCA2.out
  have HO3 : Hid ((w2.setCell ⟨B + 1, 7, none⟩ (.slice a 1 c)).ownsRow (B + 2) 9 1 (.slice a 1 c) 1 [.string ⟨#[120]⟩]) := own_other HO2.out hgs (fun j hj => by obtain rfl := Option.some.inj hj; intro e; have := (HO2.out.lt _ e).1; omega)
  have HB3 : Hid (Below B W (w2.setCell ⟨B + 1, 7, none⟩ (.slice a 1 c))) := HB2.out.grown hgs (by have := HB2.out.size; have := HB.out; omega) (fun j hj => by have := Option.some.inj hj; omega)
  clear hw3 hgs
  go_upto_region 3 with fail
  clear c72 f72
  generalize w2.setCell ⟨B + 1, 7, none⟩ (.slice a 1 c) = w3 at *
  go_wp2_with (first
    | (refine wpList_load_g (by kernel_rfl) stT (.tmp 3) rfl (B + 1) 0 rfl (atV (.slice a 1 c) p false) dd (cut_range HC3.out) HDu.out HDr.out info_st ?_)
    | (refine wpList_store_mid rfl stT (.tmp 2) (.tmp 11) rfl B 0 (atV (.slice a 1 c) p false).toArray rfl rfl (there_cut HCA3.out _ (Nat.le_refl _)) info_st (all_oneCell_toArray (atV_one _ rfl p false)) ?_; (obtain ⟨wL, hwL⟩ : ∃ x, w3.setCells B 0 (atV (.slice a 1 c) p false).toArray.toList = x := ⟨_, rfl⟩); have HWL := Lib.hid hwL; (refine (congrArg (wpList _ _ _ _ _) hwL).mpr ?_); clear hwL))
  have hcf : Cut B (atV (.slice a 1 c) p false) stT (w3.setCells B 0 (atV (.slice a 1 c) p false)) := set_cut HCA3.out rfl
  have hgf := Sl.setCells_grown B (atV (.slice a 1 c) p false) 0 w3
  have HWL2 : Hid (w3.setCells B 0 (atV (.slice a 1 c) p false) = wL) := HWL.out
  rw [HWL2.out] at hcf hgf
  have hof := own_other HO3.out hgf (fun j hj => by obtain rfl := Option.some.inj hj; intro e; have := (HO3.out.lt _ e).1; omega)
  have hbf : Below B W wL := HB3.out.grown hgf (by have := HB3.out.size; have := HB.out; omega) (fun j hj => by have := Option.some.inj hj; omega)
  refine bodyPost_ret (results_cell1 rfl _ _ _ B (.agg (atV (.slice a 1 c) p false).toArray) rfl (loadv_cut hcf und_st info_st)) rfl ?_
  exact ⟨a, c, rfl, own_base hof (by omega), hbf⟩
end Go.Proofs.Ytmhofdoifgfjfaa
