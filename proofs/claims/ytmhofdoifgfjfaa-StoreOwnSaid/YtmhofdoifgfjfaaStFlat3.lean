/-
  State: a function, put and read. Conditions: as each contract says.
-/
import Derived.Test.YtmhofdoifgfjfaaStFlat2
set_option linter.unusedVariables false
set_option maxRecDepth 100000
namespace Go.Proofs.Ytmhofdoifgfjfaa
open Go.RowKit Base

theorem fld_fn1 (g off : Nat) (w : World) : (Instr.fieldAt 121 (.pointer (some ⟨g, off, none⟩)) 1).run Try.prog w = .ok (.pointer (some ⟨g, off + 1, none⟩)) w := by rfl
theorem fld_fn2 (g off : Nat) (w : World) : (Instr.fieldAt 121 (.pointer (some ⟨g, off, none⟩)) 2).run Try.prog w = .ok (.pointer (some ⟨g, off + 2, none⟩)) w := by rfl
set_option maxHeartbeats 1000000 in
theorem fn_pk : PkOk 55 fnC fnV FnP := by
  intro W F v o g off a h hg ha hc hl
  have HP := Lib.hid h
  have HG := Lib.hid hg
  have HC : Hid (CellsAt W g off (txtV a.1 ++ [iv a.2.1, iv a.2.2])) := hc
  have HL : Hid ((o ++ (txtC.enc a.1 ++ (intB a.2.1 ++ intB a.2.2))).length ≤ 100000000) := hl
  have HA : Hid (I64 a.2.1 ∧ I64 a.2.2) := ha.2
  clear h hg ha hc hl
  have e1 : [a.2.1, a.2.2].flatMap intB = intB a.2.1 ++ intB a.2.2 := by simp
  go_enter Try.func55, Try.ntmps55
  go_wp2_with fail
  refine (txt1_pk W F v o g off a.1 HP.out HG.out HC.out.left (by have := HL.out; rw [List.length_append] at this ⊢; rw [List.length_append] at this; omega)).mono ?_
  rintro e w1 ⟨rfl, v1, hp, hu⟩
  have HP1 := Lib.hid hp
  have HU1 := Lib.hid hu
  have HC1 := Lib.hid ((HC.out.right rfl).up HP.out hu HG.out)
  have HL1 : Hid (((o ++ txtC.enc a.1) ++ (intB a.2.1 ++ intB a.2.2)).length ≤ 100000000) := by show _ ≤ _; rw [List.append_assoc]; exact HL.out
  have HE : Hid ((o ++ txtC.enc a.1) ++ (intB a.2.1 ++ intB a.2.2) = o ++ fnC.enc a) := by show _ = _; rw [List.append_assoc]; rfl
  clear hp hu
  generalize o ++ txtC.enc a.1 = o1 at *
  go_upto_region 1 with fail
  refine Rt.wp_region_rkt 9 [] [Rg.Is (.pointer (some ⟨F, 0, none⟩)), Rg.Is (.pointer (some ⟨g, off, none⟩)), Rg.Is (.pointer (some ⟨g, off, none⟩)), Rg.Is (.pointer (some ⟨g, off + 1, none⟩)), Rg.Is (.pointer (some ⟨g, off, none⟩)), Rg.Is (.pointer (some ⟨g, off, none⟩)), Rg.Is (.pointer (some ⟨g, off + 2, none⟩)), (fun u x => ∃ b, u = .slice (some ⟨b, 0, none⟩) 2 2 ∧ w1.heap.size ≤ b ∧ x.heap[b]? = some (.cells #[.pointer (some ⟨g, off + 1, none⟩), .pointer (some ⟨g, off + 2, none⟩)] 107)), (fun u x => u = .tuple #[] ∧ ∃ v', PkI F v' (o1 ++ (intB a.2.1 ++ intB a.2.2)) x ∧ WUp F v1 v' w1 x)] (fun _ _ => True) (fun ls x => ls 8 = false → Below w1.heap.size w1 x) (fun k x y => if k = 8 then (∃ v', WUp F v1 v' x y) else Below x.heap.size x y) (by kernel_rfl) (by kernel_rfl) (of_decide_eq_true (by kernel_rfl)) (by kernel_rfl) (by kernel_rfl) trivial (fun _ => ⟨rfl, rfl, rfl, Nat.le_refl _, fun _ _ => rfl⟩) (fun ls ls' x e h1 h2 => h1 (by rw [e]; exact h2)) (fun _ _ _ _ _ => trivial) (fun i ls x _ h1 => by rw [show ([] : List Bool).getD i true = true from rfl] at h1; cases h1) ?_ ⟨rfl, rfl, rfl, rfl, rfl, rfl, rfl, rfl, rfl, trivial⟩ ⟨?_, ?_, ?_, ?_, ?_, ?_, ?_, ?_, ?_, trivial⟩ ?_
  · intro i k u x y hik _ h1 hK
    match i, h1, hik with
    | 0, h1, _ => exact h1
    | 1, h1, _ => exact h1
    | 2, h1, _ => exact h1
    | 3, h1, _ => exact h1
    | 4, h1, _ => exact h1
    | 5, h1, _ => exact h1
    | 6, h1, _ => exact h1
    | 7, h1, hik =>
      obtain ⟨b, h2, h4, h5⟩ := h1
      have hbs := (Array.getElem?_eq_some_iff.1 h5).1
      by_cases hk : k = 8
      · subst hk
        rw [if_pos rfl] at hK
        have h9 : y.heap[b]? = x.heap[b]? := by obtain ⟨v', hK⟩ := hK; exact hK.block b hbs (by have := HP1.out.lt; omega) (fun e => by have := (HP1.out.own.lt _ e).2; omega)
        exact ⟨b, h2, h4, h9.trans h5⟩
      · rw [if_neg hk] at hK
        exact ⟨b, h2, h4, (hK.block b hbs).trans h5⟩
    | 8, h1, hik =>
      rw [if_neg (fun e => hik e.symm)] at hK
      obtain ⟨h2, v', h3, h4⟩ := h1
      exact ⟨h2, v', h3.below hK, h4.trans (WUp.of_below hK)⟩
    | _ + 9, _, _ => trivial
  · intro _ b x ls hR hS hself hup hdn hk
    have h0 : b.eval (.tmp 0) = .pointer (some ⟨F, 0, none⟩) := Eq.mp (by kernel_rfl) (hk 0 (by decide))
    have lA : ls 8 = false := hdn [] 8 _ rfl (by kernel_rfl)
    have hb := hS lA
    exact Rg.does_move ⟨by rw [if_neg (by decide)]; exact Below.refl _ _, h0, fun hh => hS hh⟩
  · intro _ b x ls hR hS hself hup hdn hk
    have h1 : b.eval (.tmp 1) = .pointer (some ⟨g, off, none⟩) := Eq.mp (by kernel_rfl) (hk 1 (by decide))
    have lA : ls 8 = false := hdn [7, 3, 2] 8 _ rfl (by kernel_rfl)
    have hb := hS lA
    exact Rg.does_move ⟨by rw [if_neg (by decide)]; exact Below.refl _ _, h1, fun hh => hS hh⟩
  · intro _ b x ls hR hS hself hup hdn hk
    have h11 : b.eval (.tmp 11) = .pointer (some ⟨g, off, none⟩) := Eq.mp (by kernel_rfl) (hk 11 (by decide))
    have lA : ls 8 = false := hdn [7, 3] 8 _ rfl (by kernel_rfl)
    have hb := hS lA
    exact Ap.does_nil _ h11 ⟨by rw [if_neg (by decide)]; exact Below.refl _ _, rfl, fun hh => hS hh⟩
  · intro _ b x ls hR hS hself hup hdn hk
    have h12 : b.eval (.tmp 12) = .pointer (some ⟨g, off, none⟩) := Eq.mp (by kernel_rfl) (hk 12 (by decide))
    have lA : ls 8 = false := hdn [7] 8 _ rfl (by kernel_rfl)
    have hb := hS lA
    exact Rs.does_field _ _ h12 (fld_fn1 g off x) ⟨by rw [if_neg (by decide)]; exact Below.refl _ _, rfl, fun hh => hS hh⟩
  · intro _ b x ls hR hS hself hup hdn hk
    have h1 : b.eval (.tmp 1) = .pointer (some ⟨g, off, none⟩) := Eq.mp (by kernel_rfl) (hk 1 (by decide))
    have lA : ls 8 = false := hdn [7, 6, 5] 8 _ rfl (by kernel_rfl)
    have hb := hS lA
    exact Rg.does_move ⟨by rw [if_neg (by decide)]; exact Below.refl _ _, h1, fun hh => hS hh⟩
  · intro _ b x ls hR hS hself hup hdn hk
    have h14 : b.eval (.tmp 14) = .pointer (some ⟨g, off, none⟩) := Eq.mp (by kernel_rfl) (hk 14 (by decide))
    have lA : ls 8 = false := hdn [7, 6] 8 _ rfl (by kernel_rfl)
    have hb := hS lA
    exact Ap.does_nil _ h14 ⟨by rw [if_neg (by decide)]; exact Below.refl _ _, rfl, fun hh => hS hh⟩
  · intro _ b x ls hR hS hself hup hdn hk
    have h15 : b.eval (.tmp 15) = .pointer (some ⟨g, off, none⟩) := Eq.mp (by kernel_rfl) (hk 15 (by decide))
    have lA : ls 8 = false := hdn [7] 8 _ rfl (by kernel_rfl)
    have hb := hS lA
    exact Rs.does_field _ _ h15 (fld_fn2 g off x) ⟨by rw [if_neg (by decide)]; exact Below.refl _ _, rfl, fun hh => hS hh⟩
  · intro _ b x ls hR hS hself hup hdn hk
    have h13 : b.eval (.tmp 13) = .pointer (some ⟨g, off + 1, none⟩) := Eq.mp (by kernel_rfl) (hk 13 (by decide))
    have h16 : b.eval (.tmp 16) = .pointer (some ⟨g, off + 2, none⟩) := Eq.mp (by kernel_rfl) (hk 16 (by decide))
    have lA : ls 8 = false := hdn [] 8 _ rfl (by kernel_rfl)
    have hb := hS lA
    have hal := (Below.refl x.heap.size x).alloc (Nat.le_refl _) (.cells #[.pointer (some ⟨g, off + 1, none⟩), .pointer (some ⟨g, off + 2, none⟩)] 107)
    exact Rg.does_build #[(0, .pointer (some ⟨g, off + 1, none⟩)), (1, .pointer (some ⟨g, off + 2, none⟩))] _ (by simp [h13, h16]) (by go_simp) ⟨by rw [if_neg (by decide)]; exact hal, ⟨x.heap.size, rfl, hb.size, heap_alloc_new x _⟩, fun hh => hb.trans (hal.mono hb.size)⟩
  · intro _ b x ls hR hS hself hup hdn hk
    have h10 : b.eval (.tmp 10) = .pointer (some ⟨F, 0, none⟩) := Eq.mp (by kernel_rfl) (hk 10 (by decide))
    have h17 : (fun u x => ∃ b, u = .slice (some ⟨b, 0, none⟩) 2 2 ∧ w1.heap.size ≤ b ∧ x.heap[b]? = some (.cells #[.pointer (some ⟨g, off + 1, none⟩), .pointer (some ⟨g, off + 2, none⟩)] 107)) (b.eval (.tmp 17)) x := Eq.mp (by kernel_rfl) (hk 17 (by decide))
    have hb := hS hself
    obtain ⟨b1, hq2, hq4, hq5⟩ := h17
    refine Rg.does_func #[.pointer (some ⟨F, 0, none⟩), .slice (some ⟨b1, 0, none⟩) 2 2] Try.func46 (by kernel_rfl) (by kernel_rfl) (by simp [h10, hq2]) (pk_numbers_calls x F v1 o1 g (off + 1) [a.2.1, a.2.2] b1 (HP1.out.below hb) ⟨⟨_, hq5, fun j hj => by match j, hj with | 0, _ => rfl | 1, _ => rfl⟩⟩ (by have := HP1.out.lt; omega) HG.out (fun j hj => by have h7 := (hb.cell (p := ⟨g, off + 1 + j, none⟩) (by have := HP1.out.lt; have := HG.out; show g < _; omega)).trans (HC1.out j hj); match j, hj with | 0, _ => exact h7 | 1, _ => exact h7) (by intro z hz; rcases List.mem_cons.1 hz with rfl | hz; exact HA.out.1; rcases List.mem_cons.1 hz with rfl | hz; exact HA.out.2; cases hz) (by rw [e1]; exact Nat.le_trans HL1.out (by decide)) (by simp)) ?_
    rintro e w' ⟨rfl, v', hp, hu⟩
    rw [e1] at hp
    exact ⟨_, rfl, by rw [if_pos rfl]; exact ⟨v', hu⟩, ⟨rfl, v', hp, (WUp.of_below hb).trans hu⟩, fun hh => by simp [Rs.upd] at hh⟩
  · intro vals wD ls _ hSD _ hL
    obtain ⟨g0, g1, g2, g3, g4, g5, g6, g7, g8, _⟩ := hL
    obtain ⟨e8, v', hp, hu⟩ := g8
    rw [HE.out] at hp
    have HP' := Lib.hid hp
    have HU := Lib.hid (HU1.out.trans hu)
    clear g0 g1 g2 g3 g4 g5 g6 g7 e8 hp hu
    simp only [Rg.putAll, List.take_succ_cons, List.take_zero, List.drop_succ_cons, List.drop_zero, List.setIfInBounds_toArray, List.set_cons_succ, List.set_cons_zero]
    go_wp2_with fail
    refine bodyPost_end (v := .tuple #[]) (results_none rfl _ _ _) rfl ?_
    exact ⟨rfl, v', HP'.out, HU.out⟩
set_option maxHeartbeats 1000000 in
theorem fn_rk : RkOk 55 fnC fnV ([], 0, 0) := by
  intro W F q l e g off cur t h hc h0 hg
  have H := Lib.hid h
  have HC := Lib.hid hc
  have HZ : Hid (∀ j (hj : j < (txtV [] ++ [iv 0, iv 0]).length), cur[off + j]? = some (txtV [] ++ [iv 0, iv 0])[j]) := h0
  have HG := Lib.hid hg
  clear h hc h0 hg
  go_enter Try.func55, Try.ntmps55
  go_wp2_with fail
  refine (txt1_rk W F q l e g off cur t H.out HC.out (zer_left HZ.out) HG.out).mono ?_
  rintro e' w1 ⟨rfl, hr, hcu, hu⟩
  have HR1 := Lib.hid hr
  have HC1 := Lib.hid hcu
  have HU1 := Lib.hid hu
  have HZ1 : Hid (∀ j (hj : j < ([iv 0, iv 0] : List Value).length), (splice cur off (txtV (txtC.dec l e).1))[off + 1 + j]? = some ([iv 0, iv 0] : List Value)[j]) := zer_right HZ.out rfl
  have hle : off + 1 ≤ cur.length := (zer_len HZ.out).elim (fun h => by cases h) id
  have HSp : Hid (splice (splice cur off (txtV (txtC.dec l e).1)) (off + 1) ((manyD numC 2 (txtC.dec l e).2.1 (txtC.dec l e).2.2).1.map iv) = splice cur off (fnV (fnC.dec l e).1)) := by
    show _ = _
    rw [show off + 1 = off + (txtV (txtC.dec l e).1).length from rfl, splice_app _ _ _ _ (by exact hle)]
    rfl
  have HD : Hid ((manyD numC 2 (txtC.dec l e).2.1 (txtC.dec l e).2.2).2 = (fnC.dec l e).2) := by rfl
  clear hr hcu hu hle
  generalize splice cur off (txtV (txtC.dec l e).1) = cu2 at *
  generalize (txtC.dec l e).2.1 = l1 at *
  generalize (txtC.dec l e).2.2 = e1 at *
  go_upto_region 1 with fail
  refine Rt.wp_region_rkt 9 [] [Rg.Is (.pointer (some ⟨F, 0, none⟩)), Rg.Is (.pointer (some ⟨g, off, none⟩)), Rg.Is (.pointer (some ⟨g, off, none⟩)), Rg.Is (.pointer (some ⟨g, off + 1, none⟩)), Rg.Is (.pointer (some ⟨g, off, none⟩)), Rg.Is (.pointer (some ⟨g, off, none⟩)), Rg.Is (.pointer (some ⟨g, off + 2, none⟩)), (fun u x => ∃ b, u = .slice (some ⟨b, 0, none⟩) 2 2 ∧ w1.heap.size ≤ b ∧ x.heap[b]? = some (.cells #[.pointer (some ⟨g, off + 1, none⟩), .pointer (some ⟨g, off + 2, none⟩)] 107)), (fun u x => u = .tuple #[] ∧ RkI F q (manyD numC 2 l1 e1).2.1 (manyD numC 2 l1 e1).2.2 x ∧ Cut g (splice cu2 (off + 1) ((manyD numC 2 l1 e1).1.map iv)) t x ∧ RUp F q g w1 x)] (fun _ _ => True) (fun ls x => ls 8 = false → Below w1.heap.size w1 x) (fun k x y => if k = 8 then (RUp F q g x y) else Below x.heap.size x y) (by kernel_rfl) (by kernel_rfl) (of_decide_eq_true (by kernel_rfl)) (by kernel_rfl) (by kernel_rfl) trivial (fun _ => ⟨rfl, rfl, rfl, Nat.le_refl _, fun _ _ => rfl⟩) (fun ls ls' x e h1 h2 => h1 (by rw [e]; exact h2)) (fun _ _ _ _ _ => trivial) (fun i ls x _ h1 => by rw [show ([] : List Bool).getD i true = true from rfl] at h1; cases h1) ?_ ⟨rfl, rfl, rfl, rfl, rfl, rfl, rfl, rfl, rfl, trivial⟩ ⟨?_, ?_, ?_, ?_, ?_, ?_, ?_, ?_, ?_, trivial⟩ ?_
  · intro i k u x y hik _ h1 hK
    match i, h1, hik with
    | 0, h1, _ => exact h1
    | 1, h1, _ => exact h1
    | 2, h1, _ => exact h1
    | 3, h1, _ => exact h1
    | 4, h1, _ => exact h1
    | 5, h1, _ => exact h1
    | 6, h1, _ => exact h1
    | 7, h1, hik =>
      obtain ⟨b, h2, h4, h5⟩ := h1
      have hbs := (Array.getElem?_eq_some_iff.1 h5).1
      by_cases hk : k = 8
      · subst hk
        rw [if_pos rfl] at hK
        have h9 : y.heap[b]? = x.heap[b]? := hK.block b hbs (by have := HR1.out.F_lt; omega) (by have := HR1.out.F_lt; have := HR1.out.lt; omega) (by have := HC1.out.lt; omega)
        exact ⟨b, h2, h4, h9.trans h5⟩
      · rw [if_neg hk] at hK
        exact ⟨b, h2, h4, (hK.block b hbs).trans h5⟩
    | 8, h1, hik =>
      rw [if_neg (fun e => hik e.symm)] at hK
      obtain ⟨h2, h3, h4, h5⟩ := h1
      exact ⟨h2, h3.below hK, (hK.block g h4.lt).trans h4, h5.trans (RUp.of_below hK)⟩
    | _ + 9, _, _ => trivial
  · intro _ b x ls hR hS hself hup hdn hk
    have h0 : b.eval (.tmp 0) = .pointer (some ⟨F, 0, none⟩) := Eq.mp (by kernel_rfl) (hk 0 (by decide))
    have lA : ls 8 = false := hdn [] 8 _ rfl (by kernel_rfl)
    have hb := hS lA
    exact Rg.does_move ⟨by rw [if_neg (by decide)]; exact Below.refl _ _, h0, fun hh => hS hh⟩
  · intro _ b x ls hR hS hself hup hdn hk
    have h1 : b.eval (.tmp 1) = .pointer (some ⟨g, off, none⟩) := Eq.mp (by kernel_rfl) (hk 1 (by decide))
    have lA : ls 8 = false := hdn [7, 3, 2] 8 _ rfl (by kernel_rfl)
    have hb := hS lA
    exact Rg.does_move ⟨by rw [if_neg (by decide)]; exact Below.refl _ _, h1, fun hh => hS hh⟩
  · intro _ b x ls hR hS hself hup hdn hk
    have h11 : b.eval (.tmp 11) = .pointer (some ⟨g, off, none⟩) := Eq.mp (by kernel_rfl) (hk 11 (by decide))
    have lA : ls 8 = false := hdn [7, 3] 8 _ rfl (by kernel_rfl)
    have hb := hS lA
    exact Ap.does_nil _ h11 ⟨by rw [if_neg (by decide)]; exact Below.refl _ _, rfl, fun hh => hS hh⟩
  · intro _ b x ls hR hS hself hup hdn hk
    have h12 : b.eval (.tmp 12) = .pointer (some ⟨g, off, none⟩) := Eq.mp (by kernel_rfl) (hk 12 (by decide))
    have lA : ls 8 = false := hdn [7] 8 _ rfl (by kernel_rfl)
    have hb := hS lA
    exact Rs.does_field _ _ h12 (fld_fn1 g off x) ⟨by rw [if_neg (by decide)]; exact Below.refl _ _, rfl, fun hh => hS hh⟩
  · intro _ b x ls hR hS hself hup hdn hk
    have h1 : b.eval (.tmp 1) = .pointer (some ⟨g, off, none⟩) := Eq.mp (by kernel_rfl) (hk 1 (by decide))
    have lA : ls 8 = false := hdn [7, 6, 5] 8 _ rfl (by kernel_rfl)
    have hb := hS lA
    exact Rg.does_move ⟨by rw [if_neg (by decide)]; exact Below.refl _ _, h1, fun hh => hS hh⟩
  · intro _ b x ls hR hS hself hup hdn hk
    have h14 : b.eval (.tmp 14) = .pointer (some ⟨g, off, none⟩) := Eq.mp (by kernel_rfl) (hk 14 (by decide))
    have lA : ls 8 = false := hdn [7, 6] 8 _ rfl (by kernel_rfl)
    have hb := hS lA
    exact Ap.does_nil _ h14 ⟨by rw [if_neg (by decide)]; exact Below.refl _ _, rfl, fun hh => hS hh⟩
  · intro _ b x ls hR hS hself hup hdn hk
    have h15 : b.eval (.tmp 15) = .pointer (some ⟨g, off, none⟩) := Eq.mp (by kernel_rfl) (hk 15 (by decide))
    have lA : ls 8 = false := hdn [7] 8 _ rfl (by kernel_rfl)
    have hb := hS lA
    exact Rs.does_field _ _ h15 (fld_fn2 g off x) ⟨by rw [if_neg (by decide)]; exact Below.refl _ _, rfl, fun hh => hS hh⟩
  · intro _ b x ls hR hS hself hup hdn hk
    have h13 : b.eval (.tmp 13) = .pointer (some ⟨g, off + 1, none⟩) := Eq.mp (by kernel_rfl) (hk 13 (by decide))
    have h16 : b.eval (.tmp 16) = .pointer (some ⟨g, off + 2, none⟩) := Eq.mp (by kernel_rfl) (hk 16 (by decide))
    have lA : ls 8 = false := hdn [] 8 _ rfl (by kernel_rfl)
    have hb := hS lA
    have hal := (Below.refl x.heap.size x).alloc (Nat.le_refl _) (.cells #[.pointer (some ⟨g, off + 1, none⟩), .pointer (some ⟨g, off + 2, none⟩)] 107)
    exact Rg.does_build #[(0, .pointer (some ⟨g, off + 1, none⟩)), (1, .pointer (some ⟨g, off + 2, none⟩))] _ (by simp [h13, h16]) (by go_simp) ⟨by rw [if_neg (by decide)]; exact hal, ⟨x.heap.size, rfl, hb.size, heap_alloc_new x _⟩, fun hh => hb.trans (hal.mono hb.size)⟩
  · intro _ b x ls hR hS hself hup hdn hk
    have h10 : b.eval (.tmp 10) = .pointer (some ⟨F, 0, none⟩) := Eq.mp (by kernel_rfl) (hk 10 (by decide))
    have h17 : (fun u x => ∃ b, u = .slice (some ⟨b, 0, none⟩) 2 2 ∧ w1.heap.size ≤ b ∧ x.heap[b]? = some (.cells #[.pointer (some ⟨g, off + 1, none⟩), .pointer (some ⟨g, off + 2, none⟩)] 107)) (b.eval (.tmp 17)) x := Eq.mp (by kernel_rfl) (hk 17 (by decide))
    have hb := hS hself
    obtain ⟨b1, hq2, hq4, hq5⟩ := h17
    refine Rg.does_func #[.pointer (some ⟨F, 0, none⟩), .slice (some ⟨b1, 0, none⟩) 2 2] Try.func46 (by kernel_rfl) (by kernel_rfl) (by simp [h10, hq2]) (rk_numbers_calls x F q l1 e1 g (off + 1) 2 cu2 t b1 (HR1.out.below hb) ((hb.block g HC1.out.lt).trans HC1.out) (fun j hj => by match j, hj with | 0, _ => exact HZ1.out 0 (by decide) | 1, _ => exact HZ1.out 1 (by decide)) HG.out ⟨⟨_, hq5, fun j hj => by match j, hj with | 0, _ => rfl | 1, _ => rfl⟩⟩ (by have := HR1.out.F_lt; omega) (by have := HC1.out.lt; omega) (by decide)) ?_
    rintro e w' ⟨rfl, hr, hcu, hu⟩
    exact ⟨_, rfl, by rw [if_pos rfl]; exact hu, ⟨rfl, hr, hcu, (RUp.of_below hb).trans hu⟩, fun hh => by simp [Rs.upd] at hh⟩
  · intro vals wD ls _ hSD _ hL
    obtain ⟨g0, g1, g2, g3, g4, g5, g6, g7, g8, _⟩ := hL
    obtain ⟨e8, hr, hcu, hu⟩ := g8
    rw [HSp.out] at hcu
    rw [HD.out] at hr
    have HR := Lib.hid hr
    have HCu := Lib.hid hcu
    have HU := Lib.hid (HU1.out.trans hu)
    clear g0 g1 g2 g3 g4 g5 g6 g7 e8 hr hcu hu
    simp only [Rg.putAll, List.take_succ_cons, List.take_zero, List.drop_succ_cons, List.drop_zero, List.setIfInBounds_toArray, List.set_cons_succ, List.set_cons_zero]
    go_wp2_with fail
    refine bodyPost_end (v := .tuple #[]) (results_none rfl _ _ _) rfl ?_
    exact ⟨rfl, HR.out, HCu.out, HU.out⟩
end Go.Proofs.Ytmhofdoifgfjfaa
