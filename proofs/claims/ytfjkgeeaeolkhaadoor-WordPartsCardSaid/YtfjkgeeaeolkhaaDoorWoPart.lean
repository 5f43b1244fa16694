/-
  Word: what belongs to a dollar; a quoted part; a part. Conditions: as each contract says.
-/
import Derived.Test.YtfjkgeeaeolkhaaDoorWoBrace
set_option linter.unusedVariables false
set_option linter.unusedSimpArgs false
set_option maxRecDepth 100000
namespace Go.Proofs.YtfjkgeeaeolkhaaDoor
open Go.RowKit Base Wo

theorem build_pt3 (w : World) (k : Int) (t : ByteArray) (q : Bool) : (Instr.build ptT #[(0, .int .i64 k), (1, .string t), (3, .bool q)]).run Tryd.prog w = .ok (.agg #[.int .i64 k, .string t, .string ⟨#[]⟩, .bool q, .slice none 0 0]) w := by go_simp
theorem build_pt2 (w : World) (k : Int) (t : ByteArray) : (Instr.build ptT #[(0, .int .i64 k), (1, .string t)]).run Tryd.prog w = .ok (.agg #[.int .i64 k, .string t, .string ⟨#[]⟩, .bool false, .slice none 0 0]) w := by go_simp
theorem build_pt1 (w : World) (k : Int) : (Instr.build ptT #[(0, .int .i64 k)]).run Tryd.prog w = .ok (.agg #[.int .i64 k, .string ⟨#[]⟩, .string ⟨#[]⟩, .bool false, .slice none 0 0]) w := by go_simp
/-- A plain part is put. -/
theorem put_plain (W : World) (b B : Nat) (v : Value) (l : List Prt) (s : Nm) (d : Nat) (h : Rd W b B v l s d) (k : Nat) (t : Nm) (q : Bool) (hw : wt l + t.length ≤ 900000) (hBW : B ≤ W.heap.size) :
    Calls Tryd.prog 16 #[.pointer (some ⟨b, 0, none⟩), .agg #[.int .i64 (k : Int), .string (str t), .string ⟨#[]⟩, .bool q, .slice none 0 0]] W (PutPost W b B v (putP l (.mk k t [] q [])) s d) :=
  put_calls W b B v l s d h (.mk k t [] q []) (.slice none 0 0) (tree_nil _ _ _) (by show wt l + (t.length + 1 + 0) ≤ _; omega) (by have := len_wt l; omega) hBW
def DollarPost (W : World) (b B : Nat) (v : Value) (l : List Prt) (s : Nm) (d : Nat) (q : Bool) (r : Ending) (W' : World) : Prop :=
  ∃ f x, dollarM (withinM f d) d q s = some x ∧ StepR W b B v l d x r W'
theorem step_panic {W W' : World} {b B : Nat} {v : Value} {l : List Prt} {d : Nat} {e : Int} (h : Turn b none W W') : StepR W b B v l d (.error e) (panEnd e) W' := ⟨h.weaken, rfl⟩
set_option maxHeartbeats 8000000 in
theorem dollar_calls {n : Nat} (ih : PartIH n) (W : World) (b B : Nat) (v : Value) (l : List Prt) (s : Nm) (d : Nat) (q : Bool) (h : Rd W b B v l (36 :: s) d) (hn : s.length < n) (hw : wt l + 2 * (36 :: s).length ≤ 100000) (hB : B ≤ W.heap.size) (hO : OpsT W) (hg : gOps < B) :
    Calls Tryd.prog 25 #[.pointer (some ⟨b, 0, none⟩), .bool q] W (DollarPost W b B v l s d q) := by
  have HIH : Hid (PartIH n) := ih
  have HO := Lib.hid hO
  have HH := Lib.hid h
  have hwl : wt l + 2 * s.length + 2 ≤ 100000 := by simp at hw; omega
  clear ih hO h hw
  go_enter Tryd.func25, Tryd.ntmps25
  go_wp2_with fail
  refine (take_yes W b B v l (36 :: s) d HH.out 1 (by simp; omega) (by simp)).mono ?_
  rintro r w1 ⟨rfl, hw1⟩
  have HR1 : Hid (Rd w1 b B v l s d) := by show Rd _ _ _ _ _ _ _; rw [hw1]; exact (HH.out.text s).1
  have HT1 : Hid (Turn b none W w1) := by show Turn _ _ _ _; rw [hw1]; exact (HH.out.text s).2
  have HB1 : Hid (B ≤ w1.heap.size) := Nat.le_trans hB HT1.out.size
  have HO1 : Hid (OpsT w1) := HO.out.turn HT1.out (Nat.lt_of_lt_of_le hg HH.out.bB) (by simp)
  clear hw1
  go_upto_region 2 with fail
  go_wp2_with fail
  refine (has_calls w1 b B v l s d HR1.out [123]).mono ?_
  rintro r w2 ⟨rfl, rfl⟩
  by_cases h1 : has [123] s = true
  · rw [h1]
    have HH1 := Lib.hid h1
    have hs1 : 1 ≤ s.length := by simpa using has_len h1
    obtain ⟨⟨c0, c1, c2⟩, f0, f1, f2⟩ := rd_cells HR1.out.box
    by_cases hd8 : d = 8
    · subst hd8
      clear h1
      go_wp2_with fail
      refine (fail_calls _ 21).mono ?_
      rintro r w3 ⟨rfl, rfl⟩
      refine ⟨rfl, 0, .error 21, ?_, step_panic HT1.out⟩
      unfold dollarM
      rw [HH1.out]
      rfl
    · have d1 : ((d : Int) == 8) = false := by rw [beq_eq_false_iff_ne]; omega
      have d2 : decide ((d : Int) = 8) = false := decide_eq_false (by omega)
      have hd : d < 8 := by have := HR1.out.dd; omega
      clear h1
      go_wp2_with fail
      clear c0 c1 c2 f0 f1 f2 d1 d2
      refine (take_yes _ b B v l s d HR1.out 1 (by omega) hs1).mono ?_
      rintro r w3 ⟨rfl, hw3⟩
      have HR3 : Hid (Rd w3 b B v l (s.drop 1) d) := by show Rd _ _ _ _ _ _ _; rw [hw3]; exact (HR1.out.text _).1
      have HT3 : Hid (Turn b none W w3) := by show Turn _ _ _ _; rw [hw3]; exact HT1.out.trans_same (HR1.out.text _).2
      have HB3 : Hid (B ≤ w3.heap.size) := Nat.le_trans hB HT3.out.size
      have HO3 : Hid (OpsT w3) := HO.out.turn HT3.out (Nat.lt_of_lt_of_le hg HH.out.bB) (by simp)
      clear hw3
      go_wp2_with fail
      refine (brace_calls HIH.out w3 b B v l (s.drop 1) d HR3.out (by rw [List.length_drop]; omega) (by rw [List.length_drop]; omega) HB3.out HO3.out hg hd).mono ?_
      rintro r w4 ⟨f, x, hx, ht, hp⟩
      have HD : Hid (∀ w, dollarM w d q s = bnd (braceM w (s.drop 1)) fun x => ret ([.mk 3 x.1.t x.1.o q x.1.w], x.2)) := fun w => by
        unfold dollarM
        rw [HH1.out, if_pos rfl, if_neg hd8]
      cases x with
      | error e =>
        obtain rfl := hp
        exact ⟨rfl, f, .error e, by rw [HD.out, hx]; rfl, step_panic (HT3.out.trans_same ht)⟩
      | ok y =>
        obtain ⟨u, rfl, hr4, htree⟩ := hp
        obtain ⟨ua, uc, rfl⟩ := tree_slice htree
        have hbs := brace_sat (within_sat f d) (s.drop 1)
        rw [hx] at hbs
        obtain ⟨hk3, hqf, hlen, _⟩ := hbs
        have hc : (cellsP y.1 (.slice ua y.1.w.length uc)).toArray = #[.int .i64 3, .string (str y.1.t), .string (str y.1.o), .bool false, .slice ua y.1.w.length uc] := by unfold cellsP; rw [hk3, hqf]; rfl
        rw [hc]
        have HX : Hid (dollarM (withinM f d) d q s = some (.ok ([.mk 3 y.1.t y.1.o q y.1.w], y.2))) := by show _ = _; rw [HD.out, hx]; rfl
        have HR4 := Lib.hid hr4
        have HT4 : Hid (Turn b none W w4) := HT3.out.trans_same ht
        have HTree := Lib.hid htree
        have HB34 : Hid (w3.heap.size ≤ w4.heap.size) := ht.size
        have hlen2 : y.1.t.length + y.2.length + 2 ≤ s.length := by rw [List.length_drop] at hlen; omega
        clear hr4 htree hx ht hk3 hqf hc hlen
        go_upto_region 8 with fail
        obtain ⟨N, hN⟩ : ∃ N, w4.heap.size = N := ⟨_, rfl⟩
        obtain ⟨w5, hw5⟩ : ∃ w5, w4.alloc (.cells #[.int .i64 3, .string (str y.1.t), .string (str y.1.o), .bool q, .slice ua y.1.w.length uc] ptT) = w5 := ⟨_, rfl⟩
        have hal : Below w4.heap.size w4 w5 := by rw [← hw5]; exact (Below.refl _ _).alloc (Nat.le_refl _) _
        have HC5 : Hid (Cut N [.int .i64 3, .string (str y.1.t), .string (str y.1.o), .bool q, .slice ua y.1.w.length uc] ptT w5) := by show Cut _ _ _ _; rw [← hw5, ← hN]; exact heap_alloc_new w4 _
        have HR5 := Lib.hid (HR4.out.below hal)
        have HT5 : Hid (Turn b none W w5) := HT4.out.trans_same (Turn.of_below hal)
        have HTr5 := Lib.hid (tree_below HTree.out hal)
        have HW5 := Lib.hid hw5
        have HN := Lib.hid hN
        have HB5 : Hid (w3.heap.size ≤ w5.heap.size) := Nat.le_trans HB34.out hal.size
        clear hal hw5 hN
        rw [HW5.out, HN.out]
        refine Rg.wp_region_rgt 4 [] [Rg.Is (.pointer (some ⟨b, 0, none⟩)), Rg.Is (.pointer (some ⟨b, 0, none⟩)), Rg.Is (.pointer (some ⟨b, 0, none⟩)), Rg.Is (.agg #[.int .i64 3, .string (str y.1.t), .string (str y.1.o), .bool q, .slice ua y.1.w.length uc])] (by kernel_rfl) (by kernel_rfl) (of_decide_eq_true (by kernel_rfl)) (by kernel_rfl) (by kernel_rfl) ⟨Rg.st_is _, Rg.st_is _, Rg.st_is _, Rg.st_is _, trivial⟩ ⟨rfl, rfl, rfl, rfl, trivial⟩ ⟨?_, ?_, ?_, ?_, trivial⟩ ?_
        · intro _ a wx hb hk
          have h0 : a.eval (.tmp 0) = .pointer (some ⟨b, 0, none⟩) := Eq.mp (by kernel_rfl) (hk 0 (by decide))
          exact Rg.does_move ⟨Below.refl _ _, h0⟩
        · intro _ a wx hb hk
          have h27 : a.eval (.tmp 27) = .pointer (some ⟨b, 0, none⟩) := Eq.mp (by kernel_rfl) (hk 27 (by decide))
          exact Ap.does_nil _ h27 ⟨Below.refl _ _, rfl⟩
        · intro _ a wx hb hk
          have h28 : a.eval (.tmp 28) = .pointer (some ⟨b, 0, none⟩) := Eq.mp (by kernel_rfl) (hk 28 (by decide))
          exact Rs.does_field _ _ h28 (fld_rd b 0 0 (by decide) wx) ⟨Below.refl _ _, rfl⟩
        · intro _ a wx hb hk
          have h4 : a.eval (.tmp 4) = .pointer (some ⟨N, 0, none⟩) := Eq.mp (by kernel_rfl) (hk 4 (by decide))
          exact Rg.does_load _ _ h4 (load_ptc (HC5.out.below hb) rfl) ⟨Below.refl _ _, rfl⟩
        intro vals wD hbD hL
        obtain ⟨g0, g1, g2, g3, _⟩ := hL
        have e2 : vals 2 = .pointer (some ⟨b, 0, none⟩) := g2
        have e3 : vals 3 = .agg #[.int .i64 3, .string (str y.1.t), .string (str y.1.o), .bool q, .slice ua y.1.w.length uc] := g3
        simp only [Rg.putAll, List.take_succ_cons, List.take_zero, List.drop_succ_cons, List.drop_zero, List.setIfInBounds_toArray, List.set_cons_succ, List.set_cons_zero, e2, e3]
        have HRD := Lib.hid (HR5.out.below hbD)
        have HTD : Hid (Turn b none W wD) := HT5.out.trans_same (Turn.of_below hbD)
        have HTrD := Lib.hid (tree_below HTr5.out hbD)
        have HBD : Hid (w3.heap.size ≤ wD.heap.size) := Nat.le_trans HB5.out hbD.size
        clear g0 g1 g2 g3 e2 e3 hbD
        go_wp2_with fail
        refine (put_calls wD b B v l y.2 d HRD.out (.mk 3 y.1.t y.1.o q y.1.w) (.slice ua y.1.w.length uc) (tree_less (fun g hg _ => ⟨Nat.le_trans HB3.out hg, fun e => by have := (HR3.out.own g e).2; omega⟩) HTrD.out) (by show wt l + (y.1.t.length + 1 + 0) ≤ _; omega) (by have := len_wt l; omega) (Nat.le_trans HB3.out HBD.out)).mono ?_
        rintro r w9 ⟨rfl, hp⟩
        have HP : Hid (PutPost wD b B v (putP l (.mk 3 y.1.t y.1.o q y.1.w)) y.2 d (.returned (.tuple #[])) w9) := ⟨rfl, hp⟩
        clear hp
        go_wp2_with fail
        refine bodyPost_end (v := .tuple #[]) (results_none rfl _ _ _) rfl ?_
        exact ⟨f, _, HX.out, step_put HTD.out HP.out⟩
  · have h1 : has [123] s = false := by simpa using h1
    rw [h1]
    have HH1 := Lib.hid h1
    clear h1
    go_wp2_with fail
    refine (has_calls w2 b B v l s d HR1.out [40, 40]).mono ?_
    rintro r w3 ⟨rfl, rfl⟩
    by_cases h2 : has [40, 40] s = true
    · rw [h2]
      have hs2 : 2 ≤ s.length := by simpa using has_len h2
      have HD : Hid (∀ w, dollarM w d q s = bnd (arithM 0 (s.drop 2)) fun x => ret ([.mk 4 x.1 [] q []], x.2)) := fun w => by
        unfold dollarM
        rw [HH1.out, if_neg (by simp), if_pos h2]
      clear h2
      go_wp2_with fail
      refine (take_yes _ b B v l s d HR1.out 2 (by omega) hs2).mono ?_
      rintro r w4 ⟨rfl, hw4⟩
      have HR4 : Hid (Rd w4 b B v l (s.drop 2) d) := by show Rd _ _ _ _ _ _ _; rw [hw4]; exact (HR1.out.text _).1
      have HT4 : Hid (Turn b none W w4) := by show Turn _ _ _ _; rw [hw4]; exact HT1.out.trans_same (HR1.out.text _).2
      obtain ⟨z, hz⟩ : ∃ z, s.drop 2 = z := ⟨_, rfl⟩
      have hzl : z.length + 2 ≤ s.length := by rw [← hz, List.length_drop]; omega
      rw [hz] at HR4 HD
      clear hw4 hz
      go_upto_region 11 with fail
      refine Rp.wp_region_rkx (fun ch x => ∃ e, arithM 0 z = some (.error e) ∧ panEnd e = Ending.panicked ch ∧ Turn b none w4 x) 7 [] [Rg.Is (.pointer (some ⟨b, 0, none⟩)), Rg.Is (.pointer (some ⟨b, 0, none⟩)), Rg.Is (.pointer (some ⟨b, 0, none⟩)), Rg.Is (.pointer (some ⟨b, 0, none⟩)), (fun u x => ∃ y, arithM 0 z = some (.ok y) ∧ u = .string (str y.1) ∧ Rd x b B v l y.2 d ∧ Turn b none w4 x), Rg.Is (.bool q), (fun u x => ∃ y, arithM 0 z = some (.ok y) ∧ u = .agg #[.int .i64 4, .string (str y.1), .string ⟨#[]⟩, .bool q, .slice none 0 0])] (fun _ _ => True) (fun ls x => ls 4 = false → Below w4.heap.size w4 x) (fun k x y => if k = 4 then Turn b none x y else Below x.heap.size x y) (by kernel_rfl) (by kernel_rfl) (of_decide_eq_true (by kernel_rfl)) (by kernel_rfl) (by kernel_rfl) trivial (fun _ => ⟨rfl, rfl, rfl, Nat.le_refl _, fun _ _ => rfl⟩) (fun ls ls' x e h1 h2 => h1 (by rw [e]; exact h2)) (fun _ _ _ _ _ => trivial) (fun i ls x _ h1 => by rw [show ([] : List Bool).getD i true = true from rfl] at h1; cases h1) ?_ ⟨rfl, rfl, rfl, rfl, rfl, rfl, rfl, trivial⟩ ⟨?_, ?_, ?_, ?_, ?_, ?_, ?_, trivial⟩ ?_ ?_
      · intro i k u x y hik _ h1 hK
        match i, h1, hik with
        | 0, h1, _ => exact h1
        | 1, h1, _ => exact h1
        | 2, h1, _ => exact h1
        | 3, h1, _ => exact h1
        | 4, h1, hik =>
          rw [if_neg (fun e => hik e.symm)] at hK
          obtain ⟨y, h2, h3, h4, h5⟩ := h1
          exact ⟨y, h2, h3, h4.below hK, h5.trans_same (Turn.of_below hK)⟩
        | 5, h1, _ => exact h1
        | 6, h1, hik =>
          exact h1
        | _ + 7, _, _ => trivial
      · intro _ b9 x ls hR hS hself hup hdn hk
        have h0 : b9.eval (.tmp 0) = .pointer (some ⟨b, 0, none⟩) := Eq.mp (by kernel_rfl) (hk 0 (by decide))
        refine Rp.doesX_of ?_
        exact Rg.does_move ⟨by rw [if_neg (by decide)]; exact Below.refl _ _, h0, fun hh => hS hh⟩
      · intro _ b9 x ls hR hS hself hup hdn hk
        have h37 : b9.eval (.tmp 37) = .pointer (some ⟨b, 0, none⟩) := Eq.mp (by kernel_rfl) (hk 37 (by decide))
        refine Rp.doesX_of ?_
        exact Ap.does_nil _ h37 ⟨by rw [if_neg (by decide)]; exact Below.refl _ _, rfl, fun hh => hS hh⟩
      · intro _ b9 x ls hR hS hself hup hdn hk
        have h38 : b9.eval (.tmp 38) = .pointer (some ⟨b, 0, none⟩) := Eq.mp (by kernel_rfl) (hk 38 (by decide))
        refine Rp.doesX_of ?_
        exact Rs.does_field _ _ h38 (fld_rd b 0 0 (by decide) x) ⟨by rw [if_neg (by decide)]; exact Below.refl _ _, rfl, fun hh => hS hh⟩
      · intro _ b9 x ls hR hS hself hup hdn hk
        have h0 : b9.eval (.tmp 0) = .pointer (some ⟨b, 0, none⟩) := Eq.mp (by kernel_rfl) (hk 0 (by decide))
        have lA : ls 4 = false := hdn [] 4 _ rfl (by kernel_rfl)
        have hb := hS lA
        refine Rp.doesX_of ?_
        exact Rg.does_move ⟨by rw [if_neg (by decide)]; exact Below.refl _ _, h0, fun hh => hS hh⟩
      · intro _ b9 x ls hR hS hself hup hdn hk
        have h40 : b9.eval (.tmp 40) = .pointer (some ⟨b, 0, none⟩) := Eq.mp (by kernel_rfl) (hk 40 (by decide))
        have hb := hS hself
        refine Rp.does_func #[.pointer (some ⟨b, 0, none⟩)] Tryd.func30 (by kernel_rfl) (by kernel_rfl) (by simp [h40]) (arith_calls x b B v l z d (HR4.out.below hb) (by omega)) ?_
        rintro e w' ⟨y, hy, ht, hp⟩
        have ht4 := (Turn.of_below hb).trans_same ht
        cases y with
        | error e =>
          obtain rfl := hp
          exact .inr ⟨_, rfl, e, hy, rfl, ht4⟩
        | ok y => exact .inl ⟨_, hp.1, by rw [if_pos rfl]; exact ht, ⟨y, hy, rfl, hp.2, ht4⟩, fun hh => by simp [Rs.upd] at hh⟩
      · intro _ b9 x ls hR hS hself hup hdn hk
        have h1 : b9.eval (.tmp 1) = .bool q := Eq.mp (by kernel_rfl) (hk 1 (by decide))
        refine Rp.doesX_of ?_
        exact Rg.does_move ⟨by rw [if_neg (by decide)]; exact Below.refl _ _, h1, fun hh => hS hh⟩
      · intro _ b9 x ls hR hS hself hup hdn hk
        have h41 : (fun u x => ∃ y, arithM 0 z = some (.ok y) ∧ u = .string (str y.1) ∧ Rd x b B v l y.2 d ∧ Turn b none w4 x) (b9.eval (.tmp 41)) x := Eq.mp (by kernel_rfl) (hk 41 (by decide))
        have h42 : b9.eval (.tmp 42) = .bool q := Eq.mp (by kernel_rfl) (hk 42 (by decide))
        refine Rp.doesX_of ?_
        obtain ⟨y, hy, hu, _, _⟩ := h41
        exact Ap.does_buildS #[(0, .int .i64 4), (1, .string (str y.1)), (3, .bool q)] _ (by simp [hu, h42, show ∀ v, b9.eval (.const v) = v from fun _ => rfl]) (build_pt3 x 4 (str y.1) q) ⟨by rw [if_neg (by decide)]; exact Below.refl _ _, ⟨y, hy, rfl⟩, fun hh => hS hh⟩
      · intro ch a' w' hdf hD
        obtain ⟨e, he, hpe, hte⟩ := hD
        exact ⟨hdf, 0, .error e, by rw [HD.out, he]; rfl, by rw [← hpe]; exact step_panic (HT4.out.trans_same hte)⟩
      intro vals wD ls _ hSD _ hL
      obtain ⟨g0, g1, g2, g3, g4, g5, g6, _⟩ := hL
      have e2 : vals 2 = .pointer (some ⟨b, 0, none⟩) := g2
      have e4 : ∃ y, arithM 0 z = some (.ok y) ∧ vals 4 = .string (str y.1) ∧ Rd wD b B v l y.2 d ∧ Turn b none w4 wD := g4
      have e6 : ∃ y, arithM 0 z = some (.ok y) ∧ vals 6 = .agg #[.int .i64 4, .string (str y.1), .string ⟨#[]⟩, .bool q, .slice none 0 0] := g6
      obtain ⟨y, hy, _, hrD, htD⟩ := e4
      obtain ⟨y', hy', e6⟩ := e6
      obtain rfl : y' = y := by rw [hy] at hy'; injection hy' with h; injection h with h; exact h.symm
      simp only [Rg.putAll, List.take_succ_cons, List.take_zero, List.drop_succ_cons, List.drop_zero, List.setIfInBounds_toArray, List.set_cons_succ, List.set_cons_zero, e2, e6]
      have HX : Hid (dollarM (withinM 0 d) d q s = some (.ok ([.mk 4 y'.1 [] q []], y'.2))) := by show _ = _; rw [HD.out, hy]; rfl
      have HRD := Lib.hid hrD
      have HTD : Hid (Turn b none W wD) := HT4.out.trans_same htD
      have hya : y'.1.length ≤ z.length := by
        have := arith_sat z 0
        rw [hy] at this
        have h9 : y'.1.length + y'.2.length + 2 ≤ z.length := this
        omega
      clear g0 g1 g2 g3 g4 g5 g6 e2 e6 hy hy' hrD htD
      go_wp2_with fail
      refine (put_plain wD b B v l y'.2 d HRD.out 4 y'.1 q (by omega) (Nat.le_trans hB HTD.out.size)).mono ?_
      rintro r w9 ⟨rfl, hp⟩
      have HP : Hid (PutPost wD b B v (putP l (.mk 4 y'.1 [] q [])) y'.2 d (.returned (.tuple #[])) w9) := ⟨rfl, hp⟩
      clear hp
      go_wp2_with fail
      refine bodyPost_end (v := .tuple #[]) (results_none rfl _ _ _) rfl ?_
      exact ⟨0, _, HX.out, step_put HTD.out HP.out⟩
    have h2 : has [40, 40] s = false := by simpa using h2
    rw [h2]
    have HH2 := Lib.hid h2
    clear h2
    go_wp2_with fail
    refine (has_calls w3 b B v l s d HR1.out [40]).mono ?_
    rintro r w4 ⟨rfl, rfl⟩
    by_cases h3 : has [40] s = true
    · rw [h3]
      have HX : Hid (dollarM (withinM 0 d) d q s = some (.error 11)) := by
        show _ = _
        unfold dollarM
        rw [HH1.out, if_neg (by simp), HH2.out, if_neg (by simp), if_pos h3]
        rfl
      clear h3
      go_wp2_with fail
      refine (fail_calls _ 11).mono ?_
      rintro r w5 ⟨rfl, rfl⟩
      exact ⟨rfl, 0, .error 11, HX.out, step_panic HT1.out⟩
    have h3 : has [40] s = false := by simpa using h3
    rw [h3]
    have HD : Hid (∀ w, dollarM w d q s = if 0 < paramLen s then ret ([.mk 3 (s.take (paramLen s)) [] q []], s.drop (paramLen s)) else ret ([.mk (if q then 2 else 1) [36] [] false []], s)) := fun w => by
      unfold dollarM
      rw [HH1.out, if_neg (by simp), HH2.out, if_neg (by simp), if_neg (by rw [h3]; simp)]
    clear h3
    go_wp2_with fail
    refine (param_calls w4 b B v l s d HR1.out (by omega)).mono ?_
    rintro r w5 ⟨rfl, rfl⟩
    have hpl := paramLen_le s
    obtain ⟨m, hm⟩ : ∃ m, paramLen s = m := ⟨_, rfl⟩
    rw [hm] at HD hpl ⊢
    have HM := Lib.hid hm
    clear hm
    by_cases hm0 : 0 < m
    · have a1 : decide ((0 : Int) < (m : Int)) = true := decide_eq_true (by omega)
      have a2 : (0 : Int) < (m : Int) := by omega
      have HX : Hid (dollarM (withinM 0 d) d q s = some (.ok ([.mk 3 (s.take m) [] q []], s.drop m))) := by show _ = _; rw [HD.out, if_pos hm0]; rfl
      go_upto_region 15 with fail
      clear a1 a2
      refine Rp.wp_region_rkx (fun _ _ => False) 9 [] [Rg.Is (.pointer (some ⟨b, 0, none⟩)), Rg.Is (.pointer (some ⟨b, 0, none⟩)), Rg.Is (.pointer (some ⟨b, 0, none⟩)), Rg.Is (.pointer (some ⟨b, 0, none⟩)), Rg.Is (.pointer (some ⟨b, 0, none⟩)), Rg.Is (.int .i64 (m : Int)), (fun u x => u = .string (str (s.take m)) ∧ Rd x b B v l (s.drop m) d ∧ Turn b none w5 x), Rg.Is (.bool q), Rg.Is (.agg #[.int .i64 3, .string (str (s.take m)), .string ⟨#[]⟩, .bool q, .slice none 0 0])] (fun _ _ => True) (fun ls x => ls 6 = false → Below w5.heap.size w5 x) (fun k x y => if k = 6 then Turn b none x y else Below x.heap.size x y) (by kernel_rfl) (by kernel_rfl) (of_decide_eq_true (by kernel_rfl)) (by kernel_rfl) (by kernel_rfl) trivial (fun _ => ⟨rfl, rfl, rfl, Nat.le_refl _, fun _ _ => rfl⟩) (fun ls ls' x e h1 h2 => h1 (by rw [e]; exact h2)) (fun _ _ _ _ _ => trivial) (fun i ls x _ h1 => by rw [show ([] : List Bool).getD i true = true from rfl] at h1; cases h1) ?_ ⟨rfl, rfl, rfl, rfl, rfl, rfl, rfl, rfl, rfl, trivial⟩ ⟨?_, ?_, ?_, ?_, ?_, ?_, ?_, ?_, ?_, trivial⟩ ?_ ?_
      · intro i k u x y hik _ h1 hK
        match i, h1, hik with
        | 0, h1, _ => exact h1
        | 1, h1, _ => exact h1
        | 2, h1, _ => exact h1
        | 3, h1, _ => exact h1
        | 4, h1, _ => exact h1
        | 5, h1, _ => exact h1
        | 6, h1, hik =>
          rw [if_neg (fun e => hik e.symm)] at hK
          exact ⟨h1.1, h1.2.1.below hK, h1.2.2.trans_same (Turn.of_below hK)⟩
        | 7, h1, _ => exact h1
        | 8, h1, _ => exact h1
        | _ + 9, _, _ => trivial
      · intro _ b9 x ls hR hS hself hup hdn hk
        have h0 : b9.eval (.tmp 0) = .pointer (some ⟨b, 0, none⟩) := Eq.mp (by kernel_rfl) (hk 0 (by decide))
        refine Rp.doesX_of ?_
        exact Rg.does_move ⟨by rw [if_neg (by decide)]; exact Below.refl _ _, h0, fun hh => hS hh⟩
      · intro _ b9 x ls hR hS hself hup hdn hk
        have h53 : b9.eval (.tmp 53) = .pointer (some ⟨b, 0, none⟩) := Eq.mp (by kernel_rfl) (hk 53 (by decide))
        refine Rp.doesX_of ?_
        exact Ap.does_nil _ h53 ⟨by rw [if_neg (by decide)]; exact Below.refl _ _, rfl, fun hh => hS hh⟩
      · intro _ b9 x ls hR hS hself hup hdn hk
        have h54 : b9.eval (.tmp 54) = .pointer (some ⟨b, 0, none⟩) := Eq.mp (by kernel_rfl) (hk 54 (by decide))
        refine Rp.doesX_of ?_
        exact Rs.does_field _ _ h54 (fld_rd b 0 0 (by decide) x) ⟨by rw [if_neg (by decide)]; exact Below.refl _ _, rfl, fun hh => hS hh⟩
      · intro _ b9 x ls hR hS hself hup hdn hk
        have h0 : b9.eval (.tmp 0) = .pointer (some ⟨b, 0, none⟩) := Eq.mp (by kernel_rfl) (hk 0 (by decide))
        have lA : ls 6 = false := hdn [] 6 _ rfl (by kernel_rfl)
        have hb := hS lA
        refine Rp.doesX_of ?_
        exact Rg.does_move ⟨by rw [if_neg (by decide)]; exact Below.refl _ _, h0, fun hh => hS hh⟩
      · intro _ b9 x ls hR hS hself hup hdn hk
        have h0 : b9.eval (.tmp 0) = .pointer (some ⟨b, 0, none⟩) := Eq.mp (by kernel_rfl) (hk 0 (by decide))
        have lA : ls 6 = false := hdn [5] 6 _ rfl (by kernel_rfl)
        have hb := hS lA
        refine Rp.doesX_of ?_
        exact Rg.does_move ⟨by rw [if_neg (by decide)]; exact Below.refl _ _, h0, fun hh => hS hh⟩
      · intro _ b9 x ls hR hS hself hup hdn hk
        have h57 : b9.eval (.tmp 57) = .pointer (some ⟨b, 0, none⟩) := Eq.mp (by kernel_rfl) (hk 57 (by decide))
        have lA : ls 6 = false := hdn [] 6 _ rfl (by kernel_rfl)
        have hb := hS lA
        refine Rp.doesX_of ?_
        refine Rg.does_func #[.pointer (some ⟨b, 0, none⟩)] Tryd.func31 (by kernel_rfl) (by kernel_rfl) (by simp [h57]) (param_calls x b B v l s d (HR1.out.below hb) (by omega)) ?_
        rintro e w' ⟨rfl, rfl⟩
        exact ⟨_, rfl, by rw [if_neg (by decide)]; exact Below.refl _ _, by rw [HM.out]; rfl, fun hh => hS hh⟩
      · intro _ b9 x ls hR hS hself hup hdn hk
        have h56 : b9.eval (.tmp 56) = .pointer (some ⟨b, 0, none⟩) := Eq.mp (by kernel_rfl) (hk 56 (by decide))
        have h58 : b9.eval (.tmp 58) = .int .i64 (m : Int) := Eq.mp (by kernel_rfl) (hk 58 (by decide))
        have hb := hS hself
        refine Rp.does_func #[.pointer (some ⟨b, 0, none⟩), .int .i64 (m : Int)] Tryd.func15 (by kernel_rfl) (by kernel_rfl) (by simp [h56, h58]) (take_yes x b B v l s d (HR1.out.below hb) m (by omega) hpl) ?_
        rintro e w' ⟨rfl, rfl⟩
        have hx := (HR1.out.below hb).text (s.drop m)
        exact .inl ⟨_, rfl, by rw [if_pos rfl]; exact hx.2, ⟨rfl, hx.1, (Turn.of_below hb).trans_same hx.2⟩, fun hh => by simp [Rs.upd] at hh⟩
      · intro _ b9 x ls hR hS hself hup hdn hk
        have h1 : b9.eval (.tmp 1) = .bool q := Eq.mp (by kernel_rfl) (hk 1 (by decide))
        refine Rp.doesX_of ?_
        exact Rg.does_move ⟨by rw [if_neg (by decide)]; exact Below.refl _ _, h1, fun hh => hS hh⟩
      · intro _ b9 x ls hR hS hself hup hdn hk
        have h59 : (fun u x => u = .string (str (s.take m)) ∧ Rd x b B v l (s.drop m) d ∧ Turn b none w5 x) (b9.eval (.tmp 59)) x := Eq.mp (by kernel_rfl) (hk 59 (by decide))
        have h60 : b9.eval (.tmp 60) = .bool q := Eq.mp (by kernel_rfl) (hk 60 (by decide))
        refine Rp.doesX_of ?_
        exact Ap.does_buildS #[(0, .int .i64 3), (1, .string (str (s.take m))), (3, .bool q)] _ (by simp [h59.1, h60, show ∀ v, b9.eval (.const v) = v from fun _ => rfl]) (build_pt3 x 3 _ q) ⟨by rw [if_neg (by decide)]; exact Below.refl _ _, rfl, fun hh => hS hh⟩
      · intro ch a' w' hdf hD
        exact hD.elim
      intro vals wD ls _ hSD _ hL
      obtain ⟨g0, g1, g2, g3, g4, g5, g6, g7, g8, _⟩ := hL
      have e2 : vals 2 = .pointer (some ⟨b, 0, none⟩) := g2
      have e6 : vals 6 = .string (str (s.take m)) ∧ Rd wD b B v l (s.drop m) d ∧ Turn b none w5 wD := g6
      have e8 : vals 8 = .agg #[.int .i64 3, .string (str (s.take m)), .string ⟨#[]⟩, .bool q, .slice none 0 0] := g8
      simp only [Rg.putAll, List.take_succ_cons, List.take_zero, List.drop_succ_cons, List.drop_zero, List.setIfInBounds_toArray, List.set_cons_succ, List.set_cons_zero, e2, e8]
      have HRD := Lib.hid e6.2.1
      have HTD : Hid (Turn b none W wD) := HT1.out.trans_same e6.2.2
      have htl : (s.take m).length ≤ s.length := by rw [List.length_take]; omega
      clear g0 g1 g2 g3 g4 g5 g6 g7 g8 e2 e6 e8
      go_wp2_with fail
      refine (put_plain wD b B v l (s.drop m) d HRD.out 3 (s.take m) q (by omega) (Nat.le_trans hB HTD.out.size)).mono ?_
      rintro r w9 ⟨rfl, hp⟩
      have HP : Hid (PutPost wD b B v (putP l (.mk 3 (s.take m) [] q [])) (s.drop m) d (.returned (.tuple #[])) w9) := ⟨rfl, hp⟩
      clear hp
      go_wp2_with fail
      refine bodyPost_end (v := .tuple #[]) (results_none rfl _ _ _) rfl ?_
      exact ⟨0, _, HX.out, step_put HTD.out HP.out⟩
    · obtain rfl : m = 0 := by omega
      have HX : Hid (dollarM (withinM 0 d) d q s = some (.ok ([.mk (if q then 2 else 1) [36] [] false []], s))) := by show _ = _; rw [HD.out, if_neg (Nat.lt_irrefl 0)]; rfl
      cases q with
      | true =>
        go_wp2_with fail
        refine (put_plain w5 b B v l s d HR1.out 2 [36] false (by simp; omega) HB1.out).mono ?_
        rintro r w9 ⟨rfl, hp⟩
        have HP : Hid (PutPost w5 b B v (putP l (.mk 2 [36] [] false [])) s d (.returned (.tuple #[])) w9) := ⟨rfl, hp⟩
        clear hp
        go_wp2_with fail
        refine bodyPost_end (v := .tuple #[]) (results_none rfl _ _ _) rfl ?_
        exact ⟨0, _, HX.out, step_put HT1.out HP.out⟩
      | false =>
        go_wp2_with fail
        refine (put_plain w5 b B v l s d HR1.out 1 [36] false (by simp; omega) HB1.out).mono ?_
        rintro r w9 ⟨rfl, hp⟩
        have HP : Hid (PutPost w5 b B v (putP l (.mk 1 [36] [] false [])) s d (.returned (.tuple #[])) w9) := ⟨rfl, hp⟩
        clear hp
        go_wp2_with fail
        refine bodyPost_end (v := .tuple #[]) (results_none rfl _ _ _) rfl ?_
        exact ⟨0, _, HX.out, step_put HT1.out HP.out⟩
end Go.Proofs.YtfjkgeeaeolkhaaDoor
