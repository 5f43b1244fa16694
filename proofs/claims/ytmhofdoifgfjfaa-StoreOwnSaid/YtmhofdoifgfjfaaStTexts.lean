/-
  State: texts, and truths, put and read. Conditions: as each contract says.
-/
import Derived.Test.YtmhofdoifgfjfaaStNums2
set_option linter.unusedVariables false
set_option maxRecDepth 100000
namespace Go.Proofs.Ytmhofdoifgfjfaa
open Go.RowKit Base

theorem str_one {w : World} {g : Nat} {s : Nm} {t : TypeId} (h : w.heap[g]? = some (.cells #[.string (str s)] t)) : Strs w (some ⟨g, 0, none⟩) 1 1 [s] := by
  refine ⟨rfl, Nat.le_refl _, by decide, g, 0, .inr rfl, fun k hk => ?_⟩
  match k, hk with
  | 0, _ =>
    show w.cell? _ = _
    simp [World.cell?, h]
theorem texts_one (s : Nm) : texts [s] = txtB s := by unfold texts txtB; simp
theorem flat_snocT (zs : List Nm) (z : Nm) : (zs ++ [z]).flatMap txtB = zs.flatMap txtB ++ txtB z := by rw [List.flatMap_append]; simp
abbrev sv (s : Nm) : Value := .string (str s)
abbrev bv1 (b : Bool) : Value := .bool b
set_option maxHeartbeats 4000000 in
theorem pk_texts_calls (W : World) (F : Nat) (v : Value) (o : Nm) (g off : Nat) (zs : List Nm) (pb : Nat) (h : PkI F v o W) (hb : Pts pb g off zs.length 134 W) (hbF : pb ≠ F) (hg : g < F)
    (hc : ∀ j (hj : j < zs.length), W.cell? ⟨g, off + j, none⟩ = some (.string (str zs[j]))) (hl : (o ++ zs.flatMap txtB).length ≤ 100000000) (hn : zs.length ≤ 1000) :
    Calls Try.prog 60 #[.pointer (some ⟨F, 0, none⟩), .slice (some ⟨pb, 0, none⟩) zs.length zs.length] W (PkPost F v o (zs.flatMap txtB) W) := by
  obtain ⟨i0, hi0, hz0, hz1, hz2⟩ := info_parts info_u8
  have HP := Lib.hid h
  have HB := Lib.hid hb
  have HBF := Lib.hid hbF
  have HG := Lib.hid hg
  have HC := Lib.hid hc
  have HLn := Lib.hid hl
  clear h hb hbF hg hc hl
  go_enter Try.func60, Try.ntmps60
  go_wp2_with fail
  go_loopw [8] (fun v8 wr => ∃ (k : Nat) (v' : Value), k ≤ zs.length ∧ v8 = .int .i64 k ∧ PkI F v' (o ++ (zs.take k).flatMap txtB) wr ∧ WUp F v v' W wr) (fun v8 _ => zs.length - (intOf v8).toNat)
  case atStart => exact ⟨0, v, Nat.zero_le _, rfl, by rw [List.take_zero, List.flatMap_nil, List.append_nil]; exact HP.out, WUp.refl _ _ _⟩
  case round =>
    obtain ⟨k, v', hk, rfl, hp, hu⟩ := hrel
    have HP2 := Lib.hid hp
    have HU := Lib.hid hu
    clear hp hu
    by_cases hlt : k < zs.length
    · have hx := fun W => ptr_idx Try.underlying161 info_pstr pb zs.length k hlt W
      have hBk := HB.out.keep (HU.out.block pb HB.out.lt HBF.out (HB.out.apart HP.out (by decide)))
      have hcp := hBk.cell hlt
      have hlow := HU.out.low HP.out.hi (Nat.le_refl F) (Nat.le_of_lt HP.out.lt)
      have KX : Hid (wr.cell? ⟨g, off + k, none⟩ = some (.string (str (zs[k]'hlt)))) := (hlow.cell (p := ⟨g, off + k, none⟩) HG.out).trans (HC.out k hlt)
      have HT := Lib.hid (List.take_succ_eq_append_getElem hlt)
      have hL2 : ((o ++ (zs.take k).flatMap txtB) ++ txtB (zs[k]'hlt)).length ≤ 100000000 := by
        refine Nat.le_trans ?_ HLn.out
        rw [List.append_assoc, ← flat_snocT, ← List.take_succ_eq_append_getElem hlt, List.length_append, List.length_append]
        have h1 : ((zs.take (k + 1)).flatMap txtB).length ≤ (zs.flatMap txtB).length := by
          conv => rhs; rw [← List.take_append_drop (k + 1) zs]
          rw [List.flatMap_append, List.length_append]
          omega
        omega
      rw [List.length_append] at hL2
      have HL2 := Lib.hid hL2
      clear hBk hlow hL2
      generalize zs[k]'hlt = z at *
      obtain ⟨o2, ho2⟩ : ∃ o2, o ++ (zs.take k).flatMap txtB = o2 := ⟨_, rfl⟩
      have HO2 := Lib.hid ho2
      rw [ho2] at HP2 HL2
      clear ho2
      obtain ⟨⟨c0, c1, c2⟩, f0, f1, f2⟩ := three HP2.out.k
      have K0 := Lib.hid c0
      have HOw := Lib.hid HP2.out.own
      have HFl := Lib.hid HP2.out.lt
      have HHi := Lib.hid HP2.out.hi
      have u3 : decide (k < zs.length) = true := decide_eq_true (by omega)
      have u1 : decide ((k : Int) < (zs.length : Int)) = true := decide_eq_true (by omega)
      have u2 : (k : Int) < (zs.length : Int) := by omega
      go_upto_region 4 with fail
      clear c0 c1 c2 f0 f1 f2 hx hcp
      refine Rt.wp_region_rkt 11 [] [Rg.Is (.pointer (some ⟨F, 0, none⟩)), Rg.Is (.pointer (some ⟨F, 0, none⟩)), Rg.Is (.pointer (some ⟨F, 0, none⟩)), Rg.Is (.pointer (some ⟨F, 0, none⟩)), Rg.Is (v'), Rg.Is (.pointer (some ⟨g, off + k, none⟩)), Rg.Is (.pointer (some ⟨g, off + k, none⟩)), Rg.Is (.string (str z)), (fun u x => ∃ b, u = .slice (some ⟨b, 0, none⟩) 1 1 ∧ wr.heap.size ≤ b ∧ x.heap[b]? = some (.cells #[.string (str z)] 9)), (fun u x => x.ownsRow wr.heap.size 5 1 u (txtB z).length ((txtB z).map bv)), (fun u x => x.ownsRow (F + 1) 5 1 u (o2 ++ txtB z).length ((o2 ++ txtB z).map bv) ∧ WUp F v' u wr x ∧ x.heap[F]? = wr.heap[F]?)] (fun _ _ => True) (fun ls x => ls 10 = false → Below wr.heap.size wr x) (fun k x y => if k = 10 then x.grownBy y (Value.ownBlock (v')) else Below x.heap.size x y) (by kernel_rfl) (by kernel_rfl) (of_decide_eq_true (by kernel_rfl)) (by kernel_rfl) (by kernel_rfl) trivial (fun _ => ⟨rfl, rfl, rfl, Nat.le_refl _, fun _ _ => rfl⟩) (fun ls ls' x e h1 h2 => h1 (by rw [e]; exact h2)) (fun _ _ _ _ _ => trivial) (fun i ls x _ h1 => by rw [show ([] : List Bool).getD i true = true from rfl] at h1; cases h1) ?_ ⟨rfl, rfl, rfl, rfl, rfl, rfl, rfl, rfl, rfl, rfl, rfl, trivial⟩ ⟨?_, ?_, ?_, ?_, ?_, ?_, ?_, ?_, ?_, ?_, ?_, trivial⟩ ?_
      · intro i k u x y hik _ h1 hK
        match i, h1, hik with
        | 0, h1, _ => exact h1
        | 1, h1, _ => exact h1
        | 2, h1, _ => exact h1
        | 3, h1, _ => exact h1
        | 4, h1, _ => exact h1
        | 5, h1, _ => exact h1
        | 6, h1, _ => exact h1
        | 7, h1, _ => exact h1
        | 8, h1, hik =>
          obtain ⟨b, h2, h3, h4⟩ := h1
          refine ⟨b, h2, h3, ?_⟩
          have hg := (Array.getElem?_eq_some_iff.1 h4).1
          by_cases hk : k = 10
          · subst hk
            rw [if_pos rfl] at hK
            exact (hK.block b hg (fun e => by have := (HOw.out.lt _ e.symm).2; omega)).trans h4
          · rw [if_neg hk] at hK
            exact (hK.block b hg).trans h4
        | 9, h1, hik =>
          by_cases hk : k = 10
          · subst hk
            rw [if_pos rfl] at hK
            exact own_grown h1 hK (fun j hj => (HOw.out.lt j hj).2)
          · rw [if_neg hk] at hK
            exact ownsRow_below h1 hK
        | 10, h1, hik =>
          rw [if_neg (fun e => hik e.symm)] at hK
          refine ⟨ownsRow_below h1.1 hK, h1.2.1.trans (WUp.of_below hK), (hK.block F (Nat.lt_of_lt_of_le HFl.out h1.2.1.size)).trans h1.2.2⟩
        | _ + 11, _, _ => trivial
      · intro _ b x ls hR hS hself hup hdn hk
        have h0 : b.eval (.tmp 0) = .pointer (some ⟨F, 0, none⟩) := Eq.mp (by kernel_rfl) (hk 0 (by decide))
        exact Rg.does_move ⟨by rw [if_neg (by decide)]; exact Below.refl _ _, h0, fun hh => hS hh⟩
      · intro _ b x ls hR hS hself hup hdn hk
        have h0 : b.eval (.tmp 0) = .pointer (some ⟨F, 0, none⟩) := Eq.mp (by kernel_rfl) (hk 0 (by decide))
        have lA : ls 10 = false := hdn [4, 3, 2] 10 _ rfl (by kernel_rfl)
        have hb := hS lA
        exact Rg.does_move ⟨by rw [if_neg (by decide)]; exact Below.refl _ _, h0, fun hh => hS hh⟩
      · intro _ b x ls hR hS hself hup hdn hk
        have h18 : b.eval (.tmp 18) = .pointer (some ⟨F, 0, none⟩) := Eq.mp (by kernel_rfl) (hk 18 (by decide))
        have lA : ls 10 = false := hdn [4, 3] 10 _ rfl (by kernel_rfl)
        have hb := hS lA
        exact Ap.does_nil _ h18 ⟨by rw [if_neg (by decide)]; exact Below.refl _ _, rfl, fun hh => hS hh⟩
      · intro _ b x ls hR hS hself hup hdn hk
        have h19 : b.eval (.tmp 19) = .pointer (some ⟨F, 0, none⟩) := Eq.mp (by kernel_rfl) (hk 19 (by decide))
        have lA : ls 10 = false := hdn [4] 10 _ rfl (by kernel_rfl)
        have hb := hS lA
        exact Rs.does_field _ _ h19 (wire_f0 F x) ⟨by rw [if_neg (by decide)]; exact Below.refl _ _, rfl, fun hh => hS hh⟩
      · intro _ b x ls hR hS hself hup hdn hk
        have h20 : b.eval (.tmp 20) = .pointer (some ⟨F, 0, none⟩) := Eq.mp (by kernel_rfl) (hk 20 (by decide))
        have lA : ls 10 = false := hdn [] 10 _ rfl (by kernel_rfl)
        have hb := hS lA
        exact Rg.does_load _ _ h20 (load_u8s (cell_below hb (Nat.le_refl _) K0.out)) ⟨by rw [if_neg (by decide)]; exact Below.refl _ _, rfl, fun hh => hS hh⟩
      · intro _ b x ls hR hS hself hup hdn hk
        have h5 : b.eval (.tmp 5) = .pointer (some ⟨g, off + k, none⟩) := Eq.mp (by kernel_rfl) (hk 5 (by decide))
        have lA : ls 10 = false := hdn [9, 8, 7, 6] 10 _ rfl (by kernel_rfl)
        have hb := hS lA
        exact Rg.does_move ⟨by rw [if_neg (by decide)]; exact Below.refl _ _, h5, fun hh => hS hh⟩
      · intro _ b x ls hR hS hself hup hdn hk
        have h22 : b.eval (.tmp 22) = .pointer (some ⟨g, off + k, none⟩) := Eq.mp (by kernel_rfl) (hk 22 (by decide))
        have lA : ls 10 = false := hdn [9, 8, 7] 10 _ rfl (by kernel_rfl)
        have hb := hS lA
        exact Ap.does_nil _ h22 ⟨by rw [if_neg (by decide)]; exact Below.refl _ _, rfl, fun hh => hS hh⟩
      · intro _ b x ls hR hS hself hup hdn hk
        have h23 : b.eval (.tmp 23) = .pointer (some ⟨g, off + k, none⟩) := Eq.mp (by kernel_rfl) (hk 23 (by decide))
        have lA : ls 10 = false := hdn [9, 8] 10 _ rfl (by kernel_rfl)
        have hb := hS lA
        exact Rg.does_load _ _ h23 (load_str (cell_below hb (Nat.le_refl _) KX.out)) ⟨by rw [if_neg (by decide)]; exact Below.refl _ _, rfl, fun hh => hS hh⟩
      · intro _ b x ls hR hS hself hup hdn hk
        have h24 : b.eval (.tmp 24) = .string (str z) := Eq.mp (by kernel_rfl) (hk 24 (by decide))
        have lA : ls 10 = false := hdn [9] 10 _ rfl (by kernel_rfl)
        have hb := hS lA
        have hal := (Below.refl x.heap.size x).alloc (Nat.le_refl _) (.cells #[.string (str z)] 9)
        exact Rg.does_build #[(0, .string (str z))] _ (by simp [h24]) (by go_simp) ⟨by rw [if_neg (by decide)]; exact hal, ⟨x.heap.size, rfl, hb.size, heap_alloc_new x _⟩, fun hh => hb.trans (hal.mono hb.size)⟩
      · intro _ b x ls hR hS hself hup hdn hk
        have h25 : (fun u x => ∃ b, u = .slice (some ⟨b, 0, none⟩) 1 1 ∧ wr.heap.size ≤ b ∧ x.heap[b]? = some (.cells #[.string (str z)] 9)) (b.eval (.tmp 25)) x := Eq.mp (by kernel_rfl) (hk 25 (by decide))
        have lA : ls 10 = false := hdn [] 10 _ rfl (by kernel_rfl)
        have hb := hS lA
        obtain ⟨b1, h2, h3, h4⟩ := h25
        refine Rg.does_func #[.slice (some ⟨b1, 0, none⟩) 1 1] Try.func71 (by kernel_rfl) (by kernel_rfl) (by simp [h2]) (var_texts_calls x _ 1 1 [z] (str_one h4) (by decide) (by rw [texts_one]; have := HL2.out; omega)) ?_
        rintro e w' ⟨u, rfl, hu, hb'⟩
        rw [texts_one] at hu
        exact ⟨_, rfl, by rw [if_neg (by decide)]; exact hb', own_base hu hb.size, fun hh => hb.trans (hb'.mono hb.size)⟩
      · intro _ b x ls hR hS hself hup hdn hk
        have h21 : b.eval (.tmp 21) = v' := Eq.mp (by kernel_rfl) (hk 21 (by decide))
        have h26 : (fun u x => x.ownsRow wr.heap.size 5 1 u (txtB z).length ((txtB z).map bv)) (b.eval (.tmp 26)) x := Eq.mp (by kernel_rfl) (hk 26 (by decide))
        have hb := hS hself
        obtain ⟨a2, c2, hu2, hbs⟩ := ownsRow_bytes h26
        have hown : x.ownsRow (F + 1) 5 1 v' o2.length (o2.map bv) := ownsRow_below HOw.out hb
        obtain ⟨v9, w', hrun, hown', hgr, hat⟩ := Ap.run_append_at (P := Try.prog) x (F + 1) 64 64 64 5 i0 _ 1 1 Try.underlying64 (append_side Try.underlying64) hi0 hz0 hz1 hz2 rfl (by omega) (by omega) v' _ _ hown (b.eval (.tmp 26)) _ _ (by rw [hu2]; exact src_bytes hbs) (by have := HL2.out; unfold maxLen; omega) (by have := HL2.out; omega) (by have := hb.size; have := HFl.out; omega)
        exact Ap.does_append v' _ v9 w' h21 rfl hrun ⟨by rw [if_pos rfl]; exact hgr, ⟨by rw [List.length_append, List.map_append]; exact hown', ⟨hgr.os.trans hb.os, hgr.tape.trans hb.tape, hgr.output.trans hb.output, Nat.le_trans hb.size hgr.size, fun k hk a b => (hgr.block k (Nat.lt_of_lt_of_le hk hb.size) (fun e => b e.symm)).trans (hb.block k hk), fun k hk => (Nat.lt_or_ge k x.heap.size).elim (fun h => .inl (hat k hk h)) (fun h => .inr (Nat.le_trans hb.size h))⟩, (hgr.block F (Nat.lt_of_lt_of_le HFl.out hb.size) (fun e => by have := HHi.out F e.symm; omega)).trans (hb.block F HFl.out)⟩, fun hh => by simp [Rs.upd] at hh⟩
      · intro vals wD ls _ hSD _ hL
        obtain ⟨g0, g1, g2, g3, g4, g5, g6, g7, g8, g9, g10, _⟩ := hL
        obtain ⟨hown, hup, hF⟩ : wD.ownsRow (F + 1) 5 1 (vals 10) (o2 ++ txtB z).length ((o2 ++ txtB z).map bv) ∧ WUp F v' (vals 10) wr wD ∧ wD.heap[F]? = wr.heap[F]? := g10
        have g0' : vals 0 = .pointer (some ⟨F, 0, none⟩) := g0
        clear g0 g1 g2 g3 g4 g5 g6 g7 g8 g9
        simp only [Rg.putAll, List.take_succ_cons, List.take_zero, List.drop_succ_cons, List.drop_zero, List.setIfInBounds_toArray, List.set_cons_succ, List.set_cons_zero, g0']
        clear g0'
        generalize vals 10 = u at *
        rw [List.length_append] at hown
        have HFD := Lib.hid (hF.trans HP2.out.k)
        obtain ⟨⟨c0, c1, c2⟩, f0, f1, f2⟩ := three HFD.out
        obtain ⟨au, cu, rfl, _, _, _, _⟩ := ownsRow_slice hown
        have HPn : Hid (PkI F (.slice au (o2.length + (txtB z).length) cu) (o ++ (zs.take (k + 1)).flatMap txtB) (wD.setCell ⟨F, 0, none⟩ (.slice au (o2.length + (txtB z).length) cu))) := by
          show PkI _ _ _ _
          rw [HT.out, flat_snocT, ← List.append_assoc, HO2.out]
          exact ⟨heap_setCell_same _ _ 0 _ _ _ HFD.out, by rw [List.length_append]; exact ownsRow_setCell_below hown (Nat.lt_succ_self F) _⟩
        have HUn : Hid (WUp F v (.slice au (o2.length + (txtB z).length) cu) W (wD.setCell ⟨F, 0, none⟩ (.slice au (o2.length + (txtB z).length) cu))) :=
          HU.out.trans ⟨hup.os, hup.tape, hup.output, by rw [size_set]; exact hup.size, fun k hk a b => (set_other wD F 0 _ k a).trans (hup.block k hk a b), hup.own⟩
        clear hown hup hF
        go_wp2_with fail
        go_roundw
        case rel => exact ⟨k + 1, _, by omega, by go_num, HPn.out, HUn.out⟩
        case measure => simp [intOf]; omega
    · obtain rfl : k = zs.length := by omega
      rw [List.take_length] at HP2
      have u3 : decide (zs.length < zs.length) = false := decide_eq_false (by omega)
      have u1 : decide ((zs.length : Int) < (zs.length : Int)) = false := decide_eq_false (by omega)
      have u2 : ¬ ((zs.length : Int) < (zs.length : Int)) := by omega
      go_wp2_with fail
      refine bodyPost_end (v := .tuple #[]) (results_none rfl _ _ _) rfl ?_
      exact ⟨rfl, v', HP2.out, HU.out⟩
set_option maxHeartbeats 4000000 in
theorem rk_texts_calls (W : World) (F q : Nat) (l : Nm) (e : Int) (g off m : Nat) (cur : List Value) (t : TypeId) (b : Nat) (h : RkI F q l e W) (hc : Cut g cur t W) (h0 : ∀ j, j < m → cur[off + j]? = some (.string (str []))) (hg : F < g)
    (hb : Pts b g off m 134 W) (hbF : F < b) (hbg : b ≠ g) (hn : m ≤ 1000) :
    Calls Try.prog 60 #[.pointer (some ⟨F, 0, none⟩), .slice (some ⟨b, 0, none⟩) m m] W (RkPost F q g off cur ((manyD txtC m l e).1.map sv) t (manyD txtC m l e).2.1 (manyD txtC m l e).2.2 W) := by
  have H := Lib.hid h
  have HC := Lib.hid hc
  have HZ := Lib.hid h0
  have HG := Lib.hid hg
  have HB := Lib.hid hb
  have HBF := Lib.hid hbF
  have HBG := Lib.hid hbg
  clear h hc h0 hg hb hbF hbg
  go_enter Try.func60, Try.ntmps60
  go_wp2_with fail
  go_loopw [8] (fun v8 wr => ∃ k : Nat, k ≤ m ∧ v8 = .int .i64 k ∧ RkI F q (manyD txtC k l e).2.1 (manyD txtC k l e).2.2 wr ∧ Cut g (splice cur off ((manyD txtC k l e).1.map sv)) t wr ∧ RUp F q g W wr) (fun v8 _ => m - (intOf v8).toNat)
  case atStart => exact ⟨0, Nat.zero_le _, rfl, H.out, by rw [show (manyD txtC 0 l e).1.map sv = [] from rfl, Sl.splice_nil]; exact HC.out, RUp.refl _ _ _ _⟩
  case round =>
    obtain ⟨k, hk, rfl, hr, hcu, hu⟩ := hrel
    have HR := Lib.hid hr
    have HCu := Lib.hid hcu
    have HU := Lib.hid hu
    clear hr hcu hu
    by_cases hlt : k < m
    · have hx := fun W => ptr_idx Try.underlying161 info_pstr b m k hlt W
      have hq := H.out.lt
      have hBk := HB.out.keep (HU.out.block b HB.out.lt (by have := HBF.out; omega) (by have := HBF.out; omega) HBG.out)
      have hcp := hBk.cell hlt
      have hlen : off + m ≤ cur.length := by
        rcases Nat.eq_zero_or_pos m with h | h
        · omega
        · have := (List.getElem?_eq_some_iff.1 (HZ.out (m - 1) (by omega))).1
          omega
      have hml : ((manyD txtC k l e).1.map sv).length = k := by rw [List.length_map, manyD_len]
      have HZ2 : Hid ((splice cur off ((manyD txtC k l e).1.map sv))[off + k]? = some (.string (str []))) := by
        show _ = _
        rw [splice_after (by rw [hml]; omega) (by rw [hml]; exact Nat.le_refl _)]
        exact HZ.out k hlt
      have HSl : Hid ((splice cur off ((manyD txtC k l e).1.map sv)).length = cur.length) := splice_len _ _ _ (by rw [hml]; omega)
      have HSp : Hid (splice (splice cur off ((manyD txtC k l e).1.map sv)) (off + k) [sv (txtC.dec (manyD txtC k l e).2.1 (manyD txtC k l e).2.2).1] = splice cur off ((manyD txtC (k + 1) l e).1.map sv)) := by
        show _ = _
        have h1 := splice_app cur off ((manyD txtC k l e).1.map sv) [sv (txtC.dec (manyD txtC k l e).2.1 (manyD txtC k l e).2.2).1] (by rw [hml]; omega)
        rw [hml] at h1
        rw [h1, manyD_add, manyD_one, List.map_append]
        rfl
      have HN2 : Hid ((manyD txtC (k + 1) l e).2 = (txtC.dec (manyD txtC k l e).2.1 (manyD txtC k l e).2.2).2) := by show _ = _; rw [manyD_add, manyD_one]
      have HOl : Hid (off + k < cur.length) := by show _ < _; omega
      clear hBk hml hlen
      generalize splice cur off ((manyD txtC k l e).1.map sv) = cu2 at *
      generalize (manyD txtC k l e).2.1 = lk at *
      generalize (manyD txtC k l e).2.2 = ek at *
      obtain ⟨⟨c0, c1, c2⟩, f0, f1, f2⟩ := three HR.out.k
      have u3 : decide (k < m) = true := decide_eq_true (by omega)
      have u1 : decide ((k : Int) < (m : Int)) = true := decide_eq_true (by omega)
      have u2 : (k : Int) < (m : Int) := by omega
      by_cases he : ek = 0
      · subst he
        obtain ⟨l', e', hr, hle⟩ := HR.out.r
        obtain ⟨rfl, rfl⟩ := hle rfl
        have HRd := Lib.hid hr
        clear hr hle
        go_wp2_with fail
        refine (wrong_calls wr F 0 c2).mono ?_
        rintro r w' ⟨rfl, rfl⟩
        rw [show decide ((0 : Int) ≠ 0) = false from rfl]
        go_wp2_with fail
        refine (rd_text_in (fun b => b < q) wr q l' 0 HRd.out).mono ?_
        rintro r w1 ⟨rfl, hr1, hg1⟩
        obtain ⟨z, hz⟩ : ∃ z, (VarPlain.word l' 0).1 = z := ⟨_, rfl⟩
        obtain ⟨l1, hl1⟩ : ∃ l1, (VarPlain.word l' 0).2.1 = l1 := ⟨_, rfl⟩
        obtain ⟨e1, he1⟩ : ∃ e1, (VarPlain.word l' 0).2.2 = e1 := ⟨_, rfl⟩
        have HD : Hid (txtC.dec l' 0 = (z, l1, e1)) := by
          show _ = _
          rw [txtC_dec0, ← hz, ← hl1, ← he1]
        rw [hz]
        rw [hl1, he1] at hr1
        clear hz hl1 he1
        have hgt := HG.out
        have hk1 := (hg1.block F HR.out.F_lt (fun e => by injection e with e; omega)).trans HR.out.k
        have hc1 : Cut g cu2 t w1 := (hg1.block g HCu.out.lt (fun e => by injection e with e; omega)).trans HCu.out
        have hbk1 : w1.heap[b]? = W.heap[b]? := (hg1.block b (Nat.lt_of_lt_of_le HB.out.lt HU.out.size) (fun e => by injection e with e; have := HBF.out; omega)).trans (HU.out.block b HB.out.lt (by have := HBF.out; omega) (by have := HBF.out; omega) HBG.out)
        have HK1 := Lib.hid hk1
        have HC1 := Lib.hid hc1
        have HR1 := Lib.hid hr1
        have HG1 := Lib.hid hg1
        have x0 : w1.cell? ⟨g, off + k, none⟩ = some (.string (str [])) := (hc1.cell (off + k)).trans HZ2.out
        have x1 := hc1.frozen (off + k)
        clear c0 c1 c2 f0 f1 f2 hk1 hc1 hr1 hg1 hgt hcp hx hbk1
        obtain ⟨⟨c0, c1, c2⟩, f0, f1, f2⟩ := three HK1.out
        go_upto_region 7 with fail
        have hk2 := (set_other w1 g (off + k) (.string (str z)) F (by have := HG.out; omega)).trans HK1.out
        have HK2 := Lib.hid hk2
        have HC2 := Lib.hid (HC1.out.set (off + k) (.string (str z)))
        have HR2 := Lib.hid (rdin_keep HR1.out (fun k2 hk2 => set_other w1 g (off + k) (.string (str z)) k2 (by have := HG.out; have := H.out.lt; omega)))
        have HU2 : Hid (RUp F q g W (w1.setCell ⟨g, off + k, none⟩ (.string (str z)))) := (HU.out.trans (RUp.of_grown HG1.out (fun j hj => .inr (.inl (by injection hj with hj; exact hj.symm))))).trans (RUp.of_grown (Ap.grown_set w1 g (off + k) _) (fun j hj => .inr (.inr (by injection hj with hj; exact hj.symm))))
        clear c0 c1 c2 f0 f1 f2 hk2 x0 x1 HK1 HC1 HR1 HG1
        generalize w1.setCell ⟨g, off + k, none⟩ (.string (str z)) = w2 at *
        obtain ⟨⟨c0, c1, c2⟩, f0, f1, f2⟩ := three HK2.out
        go_wp2_with fail
        refine (rd_err_calls w2 q l1 e1 HR2.out.toRd).mono ?_
        rintro r w' ⟨rfl, rfl⟩
        have HR3 : Hid (RkI F q (manyD txtC (k + 1) l e).2.1 (manyD txtC (k + 1) l e).2.2 (w2.setCell ⟨F, 2, none⟩ (.int .i64 e1))) := by
          show RkI _ _ _ _ _
          rw [HN2.out, HD.out]
          exact ⟨heap_setCell_same _ _ 2 _ _ _ HK2.out, ⟨l1, e1, rdin_keep HR2.out (fun k hk => set_other w2 F 2 _ k (by have := H.out.lt; omega)), fun h => ⟨rfl, h⟩⟩, H.out.lt⟩
        have HC3 : Hid (Cut g (splice cur off ((manyD txtC (k + 1) l e).1.map sv)) t (w2.setCell ⟨F, 2, none⟩ (.int .i64 e1))) := by
          show Cut _ _ _ _
          rw [← HSp.out, HD.out, splice_one _ _ _ (by rw [HSl.out]; exact HOl.out)]
          exact (set_other w2 F 2 _ g (by have := HG.out; omega)).trans HC2.out
        have HU3 := Lib.hid (HU2.out.trans (RUp.of_grown (Ap.grown_set w2 F 2 (.int .i64 e1)) (fun j hj => .inl (by injection hj with hj; exact hj.symm))))
        go_wp2_with fail
        go_roundw
        case rel => exact ⟨k + 1, by omega, by go_num, HR3.out, HC3.out, HU3.out⟩
        case measure => simp [intOf]; omega
      · have t1 : decide (ek ≠ 0) = true := decide_eq_true he
        have HD : Hid (txtC.dec lk ek = ([], lk, ek)) := by
          show (if ek ≠ 0 then (([] : Nm), lk, ek) else _) = _
          rw [if_pos he]
        clear he
        go_wp2_with fail
        refine (wrong_calls wr F ek c2).mono ?_
        rintro r w' ⟨rfl, rfl⟩
        rw [t1]
        have HR3 : Hid (RkI F q (manyD txtC (k + 1) l e).2.1 (manyD txtC (k + 1) l e).2.2 wr) := by
          show RkI _ _ _ _ _
          rw [HN2.out, HD.out]
          exact HR.out
        have HC3 : Hid (Cut g (splice cur off ((manyD txtC (k + 1) l e).1.map sv)) t wr) := by
          show Cut _ _ _ _
          rw [← HSp.out, HD.out, splice_one _ _ _ (by rw [HSl.out]; exact HOl.out)]
          have e1 : cu2.set (off + k) (.string (str [])) = cu2 := by
            obtain ⟨h1, h2⟩ := List.getElem?_eq_some_iff.1 HZ2.out
            rw [← h2]
            exact List.set_getElem_self h1
          rw [show sv [] = .string (str []) from rfl, e1]
          exact HCu.out
        clear t1 c0 c1 c2 f0 f1 f2 hcp hx
        go_wp2_with fail
        go_roundw
        case rel => exact ⟨k + 1, by omega, by go_num, HR3.out, HC3.out, HU.out⟩
        case measure => simp [intOf]; omega
    · obtain rfl : k = m := by omega
      have u3 : decide (k < k) = false := decide_eq_false (by omega)
      have u1 : decide ((k : Int) < (k : Int)) = false := decide_eq_false (by omega)
      have u2 : ¬ ((k : Int) < (k : Int)) := by omega
      go_wp2_with fail
      refine bodyPost_end (v := .tuple #[]) (results_none rfl _ _ _) rfl ?_
      exact ⟨rfl, HR.out, HCu.out, HU.out⟩
end Go.Proofs.Ytmhofdoifgfjfaa
