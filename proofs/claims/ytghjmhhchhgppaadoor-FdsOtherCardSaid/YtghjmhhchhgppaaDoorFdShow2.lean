/-
  A table as a text: the walk. Conditions: the row is not too long; the library's table of powers reads as it is laid.
-/
import Derived.Test.YtghjmhhchhgppaaDoorFdShow
import Derived.Test.YtghjmhhchhgppaaDoorRegionT
set_option linter.unusedVariables false
set_option maxRecDepth 100000
namespace Go.Proofs.YtghjmhhchhgppaaDoor
open Go.RowKit Base

theorem flat_str (l : List (List UInt8)) (x : List UInt8) : (l ++ [x]).flatMap strC = l.flatMap strC ++ strC x := by rw [List.flatMap_append]; simp
theorem join_small {l : List Pr} (h : Smalls l) : (Lib.join (l.map pairT) [32]).length ≤ 42 * l.length := show_len l h
set_option maxHeartbeats 4000000 in
theorem fd_show_calls (w : World) (a : Option Addr) (n c : Nat) (l : List Pr) (h : Prs w a n c l) (hs : Smalls l) (ht : Tb w) (hl : l.length ≤ 100000) :
    Calls Tryd.prog 13 #[.slice a n c] w fun e w' => e = .returned (.string (str (showB l))) ∧ Below w.heap.size w w' := by
  obtain ⟨i0, hi0, hz0, hz1, hz2⟩ := info_parts info_strS
  obtain rfl := h.1
  have H := Lib.hid h
  have HS := Lib.hid hs
  have HT := Lib.hid ht
  clear h hs ht
  go_enter Tryd.func13, Tryd.ntmps13
  go_wp2_with fail
  go_loopw [3, 8] (fun v3 v8 wr => ∃ (k : Nat) (v : Value), v = v3 ∧ k ≤ l.length ∧ v8 = .int .i64 k ∧ OwnS wr w.heap.size v ((l.take k).map pairT) ∧ Below w.heap.size w wr) (fun _ v8 _ => l.length - (intOf v8).toNat)
  case atStart => exact ⟨0, _, rfl, Nat.zero_le _, rfl, World.ownsRow_nil _ _ _ _, Below.refl _ _⟩
  case round =>
    obtain ⟨k, v3, rfl, hk, rfl, hown, hb⟩ := hrel
    have hkl : ((l.take k).map pairT).length = k := by rw [List.length_map, List.length_take]; omega
    by_cases hlt : k < l.length
    · obtain ⟨b, off, hcs, hix⟩ := prs_at (H.out.below (Ap.stable_cellsAt prC) hb)
      have hx := fun W => hix 26 Tryd.underlying26 .i64 k W hlt
      obtain ⟨c0, c1⟩ := hcs k hlt
      have HTk := Lib.hid (show (l.take (k + 1)).map pairT = (l.take k).map pairT ++ [pairT l[k]] by rw [List.take_succ_eq_append_getElem hlt, List.map_append]; rfl)
      have hkl2 : ((l.take (k + 1)).map pairT).length = k + 1 := by rw [List.length_map, List.length_take]; omega
      have HK2 := Lib.hid hkl2
      have hsm := HS.out l[k] (List.getElem_mem hlt)
      generalize l[k]'hlt = p at *
      generalize off + k * 2 = q1 at *
      have hO : wr.ownsRow w.heap.size 9 1 v3 k (((l.take k).map pairT).flatMap strC) := by
        have h1 : wr.ownsRow w.heap.size 9 1 v3 ((l.take k).map pairT).length (((l.take k).map pairT).flatMap strC) := hown
        rw [hkl] at h1
        exact h1
      have HO := Lib.hid hO
      have HB := Lib.hid hb
      have HSm := Lib.hid hsm
      clear hown hb hcs hix hkl hkl2 hsm hO
      generalize (l.take k).map pairT = old at *
      have u3 : decide (k < l.length) = true := decide_eq_true (by omega)
      have u1 : decide ((k : Int) < (l.length : Int)) = true := decide_eq_true (by omega)
      have u2 : (k : Int) < (l.length : Int) := by omega
      go_upto_region 5 with fail
      have HX : Hid ((wr.alloc (.cells #[.int .i64 p.1, .int .i64 p.2] 44)).heap[wr.heap.size]? = some (.cells #[.int .i64 p.1, .int .i64 p.2] 44)) := heap_alloc_new wr _
      have HBA := Lib.hid (HB.out.alloc HB.out.size (.cells #[.int .i64 p.1, .int .i64 p.2] 44))
      have HOA := Lib.hid (HO.out.alloc (.cells #[.int .i64 p.1, .int .i64 p.2] 44))
      generalize wr.alloc (.cells #[.int .i64 p.1, .int .i64 p.2] 44) = w1 at *
      generalize wr.heap.size = q at *
      have C0 : Hid (w1.cell? ⟨q, 0, none⟩ = some (.int .i64 p.1)) := by show _ = _; have := HX.out; simp [World.cell?, this]
      have C1 : Hid (w1.cell? ⟨q, 1, none⟩ = some (.int .i64 p.2)) := by show _ = _; have := HX.out; simp [World.cell?, this]
      have HT1 := Lib.hid (HT.out.below HBA.out)
      have hsz1 : w.heap.size ≤ w1.heap.size := HBA.out.size
      have hi1 := itoa_len HSm.out.1
      have hi2 := itoa_len HSm.out.2
      have HI1 := Lib.hid hi1
      have HI2 := Lib.hid hi2
      have hpt : pairT p = Lib.itoa p.1 ++ 61 :: Lib.itoa p.2 := rfl
      have HPt := Lib.hid hpt
      clear c0 c1 hx hi1 hi2 hpt HB HO
      refine Rt.wp_region_rkt 11 [] [Rg.Is (v3), Rg.Is (.pointer (some ⟨q, 0, none⟩)), Rg.Is (.int .i64 p.1), Rg.Is (.string (str (Lib.itoa p.1))), Rg.Is (.string (str (Lib.itoa p.1 ++ [61]))), Rg.Is (.pointer (some ⟨q, 1, none⟩)), Rg.Is (.int .i64 p.2), Rg.Is (.string (str (Lib.itoa p.2))), Rg.Is (.string (str (pairT p))), (fun u x => ∃ g, u = .slice (some ⟨g, 0, none⟩) 1 1 ∧ w1.heap.size ≤ g ∧ x.heap[g]? = some (.cells (strC (pairT p)).toArray 9)), (fun u x => x.ownsRow w.heap.size 9 1 u (k + 1) (old.flatMap strC ++ strC (pairT p)) ∧ Below w.heap.size w x)] (fun _ _ => True) (fun ls x => ls 10 = false → Below w1.heap.size w1 x) (fun k x y => if k = 10 then x.grownBy y (Value.ownBlock (v3)) else Below x.heap.size x y) (by kernel_rfl) (by kernel_rfl) (of_decide_eq_true (by kernel_rfl)) (by kernel_rfl) (by kernel_rfl) trivial (fun _ => ⟨rfl, rfl, rfl, Nat.le_refl _, fun _ _ => rfl⟩) (fun ls ls' x e h1 h2 => h1 (by rw [e]; exact h2)) (fun _ _ _ _ _ => trivial) (fun i ls x _ h1 => by rw [show ([] : List Bool).getD i true = true from rfl] at h1; cases h1) ?_ ⟨rfl, rfl, rfl, rfl, rfl, rfl, rfl, rfl, rfl, rfl, rfl, trivial⟩ ⟨?_, ?_, ?_, ?_, ?_, ?_, ?_, ?_, ?_, ?_, ?_, trivial⟩ ?_
      · intro i k u x y hik _ h1 hK
        match i, h1, hik with
        | 0, h1, _ => exact h1
        | 1, h1, _ => exact h1
        | 2, h1, _ => exact h1
        | 3, h1, _ => exact h1
        | 4, h1, _ => exact h1
        | 5, h1, _ => exact h1
        | 6, h1, _ => exact h1
        | 7, h1, _ => exact h1
        | 8, h1, _ => exact h1
        | 9, h1, hik =>
          obtain ⟨g, h2, h3, h4⟩ := h1
          refine ⟨g, h2, h3, ?_⟩
          have hg := (Array.getElem?_eq_some_iff.1 h4).1
          by_cases hk : k = 10
          · subst hk
            rw [if_pos rfl] at hK
            exact (hK.block g hg (fun e => by have := (HOA.out.lt _ e.symm).2; omega)).trans h4
          · rw [if_neg hk] at hK
            exact (hK.block g hg).trans h4
        | 10, h1, hik =>
          rw [if_neg (fun e => hik e.symm)] at hK
          exact ⟨ownsRow_below h1.1 hK, h1.2.trans (hK.mono h1.2.size)⟩
        | _ + 11, _, _ => trivial
      · intro _ b x ls hR hS hself hup hdn hk
        have h3 : b.eval (.tmp 3) = v3 := Eq.mp (by kernel_rfl) (hk 3 (by decide))
        have lA : ls 10 = false := hdn [] 10 _ rfl (by kernel_rfl)
        have hb := hS lA
        exact Rg.does_move ⟨by rw [if_neg (by decide)]; exact Below.refl _ _, h3, fun hh => hS hh⟩
      · intro _ b x ls hR hS hself hup hdn hk
        have h5 : b.eval (.tmp 5) = .pointer (some ⟨q, 0, none⟩) := Eq.mp (by kernel_rfl) (hk 5 (by decide))
        have lA : ls 10 = false := hdn [7, 3, 2] 10 _ rfl (by kernel_rfl)
        have hb := hS lA
        exact Rs.does_field _ _ h5 (pair_f0 q 0 x) ⟨by rw [if_neg (by decide)]; exact Below.refl _ _, rfl, fun hh => hS hh⟩
      · intro _ b x ls hR hS hself hup hdn hk
        have h13 : b.eval (.tmp 13) = .pointer (some ⟨q, 0, none⟩) := Eq.mp (by kernel_rfl) (hk 13 (by decide))
        have lA : ls 10 = false := hdn [7, 3] 10 _ rfl (by kernel_rfl)
        have hb := hS lA
        exact Rg.does_load _ _ h13 (load_intP (cell_below hb (Nat.le_refl _) C0.out)) ⟨by rw [if_neg (by decide)]; exact Below.refl _ _, rfl, fun hh => hS hh⟩
      · intro _ b x ls hR hS hself hup hdn hk
        have h14 : b.eval (.tmp 14) = .int .i64 p.1 := Eq.mp (by kernel_rfl) (hk 14 (by decide))
        have lA : ls 10 = false := hdn [7] 10 _ rfl (by kernel_rfl)
        have hb := hS lA
        refine Rg.does_func #[.int .i64 p.1] Tryd.func21 (by kernel_rfl) (by kernel_rfl) (by simp [h14]) (fd_itoa_calls x p.1 HSm.out.1 (HT1.out.below hb)) ?_
        rintro e w' ⟨rfl, hb'⟩
        exact ⟨_, rfl, by rw [if_neg (by decide)]; exact hb', rfl, fun hh => hb.trans (hb'.mono hb.size)⟩
      · intro _ b x ls hR hS hself hup hdn hk
        have h15 : b.eval (.tmp 15) = .string (str (Lib.itoa p.1)) := Eq.mp (by kernel_rfl) (hk 15 (by decide))
        have lA : ls 10 = false := hdn [9, 8] 10 _ rfl (by kernel_rfl)
        have hb := hS lA
        exact Sw.does_bin_str _ _ _ h15 rfl (Sw.run_cat (m := [61]) (by have := HI1.out; simp; omega)) ⟨by rw [if_neg (by decide)]; exact Below.refl _ _, rfl, fun hh => hS hh⟩
      · intro _ b x ls hR hS hself hup hdn hk
        have h5 : b.eval (.tmp 5) = .pointer (some ⟨q, 0, none⟩) := Eq.mp (by kernel_rfl) (hk 5 (by decide))
        have lA : ls 10 = false := hdn [7, 6] 10 _ rfl (by kernel_rfl)
        have hb := hS lA
        exact Rs.does_field _ _ h5 (pair_f1 q 0 x) ⟨by rw [if_neg (by decide)]; exact Below.refl _ _, rfl, fun hh => hS hh⟩
      · intro _ b x ls hR hS hself hup hdn hk
        have h17 : b.eval (.tmp 17) = .pointer (some ⟨q, 1, none⟩) := Eq.mp (by kernel_rfl) (hk 17 (by decide))
        have lA : ls 10 = false := hdn [7] 10 _ rfl (by kernel_rfl)
        have hb := hS lA
        exact Rg.does_load _ _ h17 (load_i64P (cell_below hb (Nat.le_refl _) C1.out)) ⟨by rw [if_neg (by decide)]; exact Below.refl _ _, rfl, fun hh => hS hh⟩
      · intro _ b x ls hR hS hself hup hdn hk
        have h18 : b.eval (.tmp 18) = .int .i64 p.2 := Eq.mp (by kernel_rfl) (hk 18 (by decide))
        have lA : ls 10 = false := hdn [] 10 _ rfl (by kernel_rfl)
        have hb := hS lA
        refine Rg.does_func #[.int .i64 p.2, .int .i64 10] Tryd.func22 (by kernel_rfl) (by kernel_rfl) (by simp [h18]; rfl) (fd_format_calls x p.2 HSm.out.2 (HT1.out.below hb)) ?_
        rintro e w' ⟨rfl, hb'⟩
        exact ⟨_, rfl, by rw [if_neg (by decide)]; exact hb', rfl, fun hh => hb.trans (hb'.mono hb.size)⟩
      · intro _ b x ls hR hS hself hup hdn hk
        have h16 : b.eval (.tmp 16) = .string (str (Lib.itoa p.1 ++ [61])) := Eq.mp (by kernel_rfl) (hk 16 (by decide))
        have h19 : b.eval (.tmp 19) = .string (str (Lib.itoa p.2)) := Eq.mp (by kernel_rfl) (hk 19 (by decide))
        have lA : ls 10 = false := hdn [9] 10 _ rfl (by kernel_rfl)
        have hb := hS lA
        exact Sw.does_bin_str _ _ _ h16 h19 (Sw.run_cat (by have := HI1.out; have := HI2.out; simp; omega)) ⟨by rw [if_neg (by decide)]; exact Below.refl _ _, by rw [HPt.out]; simp; rfl, fun hh => hS hh⟩
      · intro _ b x ls hR hS hself hup hdn hk
        have h20 : b.eval (.tmp 20) = .string (str (pairT p)) := Eq.mp (by kernel_rfl) (hk 20 (by decide))
        have lA : ls 10 = false := hdn [] 10 _ rfl (by kernel_rfl)
        have hb := hS lA
        have hal := (Below.refl x.heap.size x).alloc (Nat.le_refl _) (.cells (strC (pairT p)).toArray 9)
        exact Rg.does_build #[(0, .string (str (pairT p)))] _ (by simp [h20]) (by go_simp; rfl) ⟨by rw [if_neg (by decide)]; exact hal, ⟨x.heap.size, rfl, hb.size, heap_alloc_new x _⟩, fun hh => hb.trans (hal.mono hb.size)⟩
      · intro _ b x ls hR hS hself hup hdn hk
        have h12 : b.eval (.tmp 12) = v3 := Eq.mp (by kernel_rfl) (hk 12 (by decide))
        have h21 : (fun u x => ∃ g, u = .slice (some ⟨g, 0, none⟩) 1 1 ∧ w1.heap.size ≤ g ∧ x.heap[g]? = some (.cells (strC (pairT p)).toArray 9)) (b.eval (.tmp 21)) x := Eq.mp (by kernel_rfl) (hk 21 (by decide))
        have hb := hS hself
        obtain ⟨g, h2, h3, h4⟩ := h21
        have hown : x.ownsRow w.heap.size 9 1 v3 k (old.flatMap strC) := ownsRow_below HOA.out hb
        obtain ⟨v', w', hrun, hown', hgr, hat⟩ := Ap.run_append_at (P := Tryd.prog) x w.heap.size 52 52 52 9 i0 _ 1 16 Tryd.underlying52 (append_side Tryd.underlying52) hi0 hz0 hz1 hz2 rfl (by omega) (by omega) v3 _ _ hown (b.eval (.tmp 21)) 1 (strC (pairT p)) (by rw [h2]; exact Ap.src_cellsAt strC_len strC_one h4 1) (by unfold maxLen; omega) (by omega) (by have := hb.size; omega)
        exact Ap.does_append v3 _ v' w' h12 rfl hrun ⟨by rw [if_pos rfl]; exact hgr, ⟨hown', (HBA.out.trans (hb.mono hsz1)).grown hgr (by have := hb.size; omega) (fun j hj => (HOA.out.lt j hj).1)⟩, fun hh => by simp [Rs.upd] at hh⟩
      · intro vals wD ls _ hSD _ hL
        obtain ⟨g0, g1, g2, g3, g4, g5, g6, g7, g8, g9, g10, _⟩ := hL
        obtain ⟨hown, hbel⟩ : wD.ownsRow w.heap.size 9 1 (vals 10) (k + 1) (old.flatMap strC ++ strC (pairT p)) ∧ Below w.heap.size w wD := g10
        clear g0 g1 g2 g3 g4 g5 g6 g7 g8 g9
        simp only [Rg.putAll, List.take_succ_cons, List.take_zero, List.drop_succ_cons, List.drop_zero, List.setIfInBounds_toArray, List.set_cons_succ, List.set_cons_zero]
        generalize vals 10 = u3 at *
        have HOD : Hid (OwnS wD w.heap.size u3 ((l.take (k + 1)).map pairT)) := by
          show World.ownsRow _ _ _ _ _ _ _
          rw [HK2.out, HTk.out, flat_str]
          exact hown
        have HBD := Lib.hid hbel
        clear hown hbel
        go_wp2_with fail
        go_roundw
        case rel => exact ⟨k + 1, _, rfl, by omega, by go_num, HOD.out, HBD.out⟩
        case measure => simp [intOf]; omega
    · obtain rfl : k = l.length := by omega
      have u3 : decide (l.length < l.length) = false := decide_eq_false (by omega)
      have u1 : decide ((l.length : Int) < (l.length : Int)) = false := decide_eq_false (by omega)
      have u2 : ¬ ((l.length : Int) < (l.length : Int)) := by omega
      rw [List.take_length] at hown
      obtain ⟨a1, c1, rfl, hrow⟩ : ∃ a1 c1, v3 = .slice a1 (l.map pairT).length c1 ∧ RowOf (Ap.cellsAt strC) 1 wr a1 (l.map pairT).length c1 (l.map pairT) := Ap.own_cells (by decide) strC_len hown
      have HJ := Lib.hid (join_calls wr a1 _ c1 (l.map pairT) hrow (by rw [List.length_map]; exact hl) (by have := join_small HS.out; omega))
      have HB := Lib.hid hb
      have HSh : Hid (showB l = Lib.join (l.map pairT) [32]) := rfl
      rw [List.length_map] at HJ ⊢
      clear hown hb hrow hkl
      go_wp2_with fail
      refine HJ.out.mono ?_
      rintro e w2 ⟨rfl, hb2⟩
      have HB2 := Lib.hid (HB.out.trans (hb2.mono HB.out.size))
      clear hb2 HJ
      go_wp2_with fail
      go_ret
      rw [HSh.out]
      exact ⟨rfl, HB2.out⟩
end Go.Proofs.YtghjmhhchhgppaaDoor
