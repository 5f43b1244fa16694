/-
  Word: a part, whatever it is. Conditions: as each contract says.
-/
import Derived.Test.YtfjkgeeaeolkhaaDoorWoInner
set_option linter.unusedVariables false
set_option linter.unusedSimpArgs false
set_option maxRecDepth 100000
namespace Go.Proofs.YtfjkgeeaeolkhaaDoor
open Go.RowKit Base Wo

theorem part_cons (f deep : Nat) (c : UInt8) (r : Nm) : partM (f + 1) deep (c :: r) = if c = 92 then (match r with | [] => err 11 | d :: r' => ret ([.mk 2 [d] [] false []], r'))
    else if c = 39 then (match cutAt 39 r with | none => err 11 | some x => ret ([.mk 2 x.1 [] false []], x.2))
    else if c = 34 then quotedM (innerM (withinM f deep) deep escs) f r else if c = 36 then dollarM (withinM f deep) deep false r else if c = 96 then err 11 else ret ([.mk 1 [c] [] false []], r) := by
  conv => lhs; unfold partM
  rfl
set_option maxHeartbeats 8000000 in
theorem part_calls {n : Nat} (ih : PartIH n) (W : World) (b B : Nat) (v : Value) (l : List Prt) (s : Nm) (d : Nat) (h : Rd W b B v l s d) (hn : s.length ≤ n) (hw : wt l + 2 * s.length ≤ 100000) (hB : B ≤ W.heap.size) (hO : OpsT W) (hg : gOps < B) :
    Calls Tryd.prog 17 #[.pointer (some ⟨b, 0, none⟩)] W (PartPost W b B v l s d) := by
  have HIH : Hid (PartIH n) := ih
  have HO := Lib.hid hO
  have HH := Lib.hid h
  have HTW := Lib.hid (Turn.refl b none W)
  clear ih hO h
  go_enter Tryd.func17, Tryd.ntmps17
  cases s with
  | nil =>
    have HX : Hid (partM 1 d [] = some (.error 11)) := by show _ = _; rw [partM]; rfl
    have hwl : wt l ≤ 100000 := by simpa using hw
    go_wp2_with fail
    refine (has_calls _ b B v l _ d HH.out [92]).mono ?_
    rintro r wn ⟨rfl, hwn⟩
    obtain rfl := hwn.symm
    rw [has_nil]
    go_wp2_with fail
    refine (has_calls _ b B v l _ d HH.out [39]).mono ?_
    rintro r wn ⟨rfl, hwn⟩
    obtain rfl := hwn.symm
    rw [has_nil]
    go_wp2_with fail
    refine (has_calls _ b B v l _ d HH.out [34]).mono ?_
    rintro r wn ⟨rfl, hwn⟩
    obtain rfl := hwn.symm
    rw [has_nil]
    go_wp2_with fail
    refine (has_calls _ b B v l _ d HH.out [36]).mono ?_
    rintro r wn ⟨rfl, hwn⟩
    obtain rfl := hwn.symm
    rw [has_nil]
    go_wp2_with fail
    refine (has_calls _ b B v l _ d HH.out [96]).mono ?_
    rintro r wn ⟨rfl, hwn⟩
    obtain rfl := hwn.symm
    rw [has_nil]
    go_upto_region 0 with fail
    refine Rp.wp_region_rkx (fun ch x => panEnd 11 = Ending.panicked ch ∧ Turn b none W x) 6 [] [Rg.Is (.pointer (some ⟨b, 0, none⟩)), Rg.Is (.pointer (some ⟨b, 0, none⟩)), Rg.Is (.pointer (some ⟨b, 0, none⟩)), Rg.Is (.pointer (some ⟨b, 0, none⟩)), (fun _ _ => False), (fun _ _ => False)] (fun _ _ => True) (fun ls x => ls 4 = false → Below W.heap.size W x) (fun k x y => if k = 4 then Turn b none x y else Below x.heap.size x y) (by kernel_rfl) (by kernel_rfl) (of_decide_eq_true (by kernel_rfl)) (by kernel_rfl) (by kernel_rfl) trivial (fun _ => ⟨rfl, rfl, rfl, Nat.le_refl _, fun _ _ => rfl⟩) (fun ls ls' x e h1 h2 => h1 (by rw [e]; exact h2)) (fun _ _ _ _ _ => trivial) (fun i ls x _ h1 => by rw [show ([] : List Bool).getD i true = true from rfl] at h1; cases h1) ?_ ⟨rfl, rfl, rfl, rfl, rfl, rfl, trivial⟩ ⟨?_, ?_, ?_, ?_, ?_, ?_, trivial⟩ ?_ ?_
    · intro i k u x y hik _ h1 hK
      match i, h1, hik with
      | 0, h1, _ => exact h1
      | 1, h1, _ => exact h1
      | 2, h1, _ => exact h1
      | 3, h1, _ => exact h1
      | 4, h1, hik =>
        rw [if_neg (fun e => hik e.symm)] at hK
        exact h1
      | 5, h1, hik =>
        exact h1
      | _ + 6, _, _ => trivial
    · intro _ b9 x ls hR hS hself hup hdn hk
      have h0 : b9.eval (.tmp 0) = .pointer (some ⟨b, 0, none⟩) := Eq.mp (by kernel_rfl) (hk 0 (by decide))
      refine Rp.doesX_of ?_
      exact Rg.does_move ⟨by rw [if_neg (by decide)]; exact Below.refl _ _, h0, fun hh => hS hh⟩
    · intro _ b9 x ls hR hS hself hup hdn hk
      have h2 : b9.eval (.tmp 2) = .pointer (some ⟨b, 0, none⟩) := Eq.mp (by kernel_rfl) (hk 2 (by decide))
      refine Rp.doesX_of ?_
      exact Ap.does_nil _ h2 ⟨by rw [if_neg (by decide)]; exact Below.refl _ _, rfl, fun hh => hS hh⟩
    · intro _ b9 x ls hR hS hself hup hdn hk
      have h3 : b9.eval (.tmp 3) = .pointer (some ⟨b, 0, none⟩) := Eq.mp (by kernel_rfl) (hk 3 (by decide))
      refine Rp.doesX_of ?_
      exact Rs.does_field _ _ h3 (fld_rd b 0 0 (by decide) x) ⟨by rw [if_neg (by decide)]; exact Below.refl _ _, rfl, fun hh => hS hh⟩
    · intro _ b9 x ls hR hS hself hup hdn hk
      have h0 : b9.eval (.tmp 0) = .pointer (some ⟨b, 0, none⟩) := Eq.mp (by kernel_rfl) (hk 0 (by decide))
      have lA : ls 4 = false := hdn [] 4 _ rfl (by kernel_rfl)
      have hb := hS lA
      refine Rp.doesX_of ?_
      exact Rg.does_move ⟨by rw [if_neg (by decide)]; exact Below.refl _ _, h0, fun hh => hS hh⟩
    · intro _ b9 x ls hR hS hself hup hdn hk
      have h5 : b9.eval (.tmp 5) = .pointer (some ⟨b, 0, none⟩) := Eq.mp (by kernel_rfl) (hk 5 (by decide))
      have hb := hS hself
      refine Rp.does_func #[.pointer (some ⟨b, 0, none⟩), .int .i64 1] Tryd.func15 (by kernel_rfl) (by kernel_rfl) (by simp [h5, show ∀ v, b9.eval (.const v) = v from fun _ => rfl]) (take_no x b B v l ([]) d (HH.out.below hb) 1 (by (try simp only [List.length_cons, List.length_nil]); omega) (by simp)) ?_
      rintro e w' ⟨rfl, rfl⟩
      exact .inr ⟨_, rfl, rfl, Turn.of_below hb⟩
    · intro _ b9 x ls hR hS hself hup hdn hk
      have h6 : (fun _ _ => False) (b9.eval (.tmp 6)) x := Eq.mp (by kernel_rfl) (hk 6 (by decide))
      refine Rp.doesX_of ?_
      exact False.elim h6
    · intro ch a' w' hdf hD
      obtain ⟨hpe, hte⟩ := hD
      exact ⟨hdf, 1, .error 11, HX.out, by rw [← hpe]; exact step_panic (HTW.out.trans_same hte)⟩
    intro vals wD ls _ hSD _ hL
    obtain ⟨g0, g1, g2, g3, g4, g5, _⟩ := hL
    exact (show False from g4).elim
  | cons c s =>
    have hwl : wt l + 2 * s.length + 2 ≤ 100000 := by simp at hw; omega
    have hnl : s.length < n := by simp at hn; omega
    clear hw hn
    by_cases h92 : c = 92
    · subst h92
      go_wp2_with fail
      refine (has_calls _ b B v l _ d HH.out [92]).mono ?_
      rintro r wm ⟨rfl, hwm⟩
      obtain rfl := hwm.symm
      rw [has_yes]
      go_upto_region 2 with fail
      cases s with
      | nil =>
        have HX : Hid (partM 1 d [92] = some (.error 11)) := by show _ = _; rw [part_cons, if_pos rfl]; rfl
        refine Rp.wp_region_rkx (fun ch x => panEnd 11 = Ending.panicked ch ∧ Turn b none W x) 7 [] [Rg.Is (.pointer (some ⟨b, 0, none⟩)), Rg.Is (.pointer (some ⟨b, 0, none⟩)), Rg.Is (.pointer (some ⟨b, 0, none⟩)), Rg.Is (.pointer (some ⟨b, 0, none⟩)), (fun _ _ => False), (fun _ _ => False), (fun _ _ => False)] (fun _ _ => True) (fun ls x => ls 4 = false → Below W.heap.size W x) (fun k x y => if k = 4 then Turn b none x y else Below x.heap.size x y) (by kernel_rfl) (by kernel_rfl) (of_decide_eq_true (by kernel_rfl)) (by kernel_rfl) (by kernel_rfl) trivial (fun _ => ⟨rfl, rfl, rfl, Nat.le_refl _, fun _ _ => rfl⟩) (fun ls ls' x e h1 h2 => h1 (by rw [e]; exact h2)) (fun _ _ _ _ _ => trivial) (fun i ls x _ h1 => by rw [show ([] : List Bool).getD i true = true from rfl] at h1; cases h1) ?_ ⟨rfl, rfl, rfl, rfl, rfl, rfl, rfl, trivial⟩ ⟨?_, ?_, ?_, ?_, ?_, ?_, ?_, trivial⟩ ?_ ?_
        · intro i k u x y hik _ h1 hK
          match i, h1, hik with
          | 0, h1, _ => exact h1
          | 1, h1, _ => exact h1
          | 2, h1, _ => exact h1
          | 3, h1, _ => exact h1
          | 4, h1, hik =>
            rw [if_neg (fun e => hik e.symm)] at hK
            exact h1
          | 5, h1, hik =>
            exact h1
          | 6, h1, hik =>
            exact h1
          | _ + 7, _, _ => trivial
        · intro _ b9 x ls hR hS hself hup hdn hk
          have h0 : b9.eval (.tmp 0) = .pointer (some ⟨b, 0, none⟩) := Eq.mp (by kernel_rfl) (hk 0 (by decide))
          refine Rp.doesX_of ?_
          exact Rg.does_move ⟨by rw [if_neg (by decide)]; exact Below.refl _ _, h0, fun hh => hS hh⟩
        · intro _ b9 x ls hR hS hself hup hdn hk
          have h12 : b9.eval (.tmp 12) = .pointer (some ⟨b, 0, none⟩) := Eq.mp (by kernel_rfl) (hk 12 (by decide))
          refine Rp.doesX_of ?_
          exact Ap.does_nil _ h12 ⟨by rw [if_neg (by decide)]; exact Below.refl _ _, rfl, fun hh => hS hh⟩
        · intro _ b9 x ls hR hS hself hup hdn hk
          have h13 : b9.eval (.tmp 13) = .pointer (some ⟨b, 0, none⟩) := Eq.mp (by kernel_rfl) (hk 13 (by decide))
          refine Rp.doesX_of ?_
          exact Rs.does_field _ _ h13 (fld_rd b 0 0 (by decide) x) ⟨by rw [if_neg (by decide)]; exact Below.refl _ _, rfl, fun hh => hS hh⟩
        · intro _ b9 x ls hR hS hself hup hdn hk
          have h0 : b9.eval (.tmp 0) = .pointer (some ⟨b, 0, none⟩) := Eq.mp (by kernel_rfl) (hk 0 (by decide))
          have lA : ls 4 = false := hdn [] 4 _ rfl (by kernel_rfl)
          have hb := hS lA
          refine Rp.doesX_of ?_
          exact Rg.does_move ⟨by rw [if_neg (by decide)]; exact Below.refl _ _, h0, fun hh => hS hh⟩
        · intro _ b9 x ls hR hS hself hup hdn hk
          have h15 : b9.eval (.tmp 15) = .pointer (some ⟨b, 0, none⟩) := Eq.mp (by kernel_rfl) (hk 15 (by decide))
          have hb := hS hself
          refine Rp.does_func #[.pointer (some ⟨b, 0, none⟩), .int .i64 2] Tryd.func15 (by kernel_rfl) (by kernel_rfl) (by simp [h15, show ∀ v, b9.eval (.const v) = v from fun _ => rfl]) (take_no x b B v l ([92]) d (HH.out.below hb) 2 (by (try simp only [List.length_cons, List.length_nil]); omega) (by simp)) ?_
          rintro e w' ⟨rfl, rfl⟩
          exact .inr ⟨_, rfl, rfl, Turn.of_below hb⟩
        · intro _ b9 x ls hR hS hself hup hdn hk
          have h16 : (fun _ _ => False) (b9.eval (.tmp 16)) x := Eq.mp (by kernel_rfl) (hk 16 (by decide))
          refine Rp.doesX_of ?_
          exact False.elim h16
        · intro _ b9 x ls hR hS hself hup hdn hk
          have h17 : (fun _ _ => False) (b9.eval (.tmp 17)) x := Eq.mp (by kernel_rfl) (hk 17 (by decide))
          refine Rp.doesX_of ?_
          exact False.elim h17
        · intro ch a' w' hdf hD
          obtain ⟨hpe, hte⟩ := hD
          exact ⟨hdf, 1, .error 11, HX.out, by rw [← hpe]; exact step_panic (HTW.out.trans_same hte)⟩
        intro vals wD ls _ hSD _ hL
        obtain ⟨g0, g1, g2, g3, g4, g5, g6, _⟩ := hL
        exact (show False from g4).elim
      | cons e s =>
        have HX : Hid (partM 1 d (92 :: e :: s) = some (.ok ([.mk 2 [e] [] false []], s))) := by show _ = _; rw [part_cons, if_pos rfl]; rfl
        have hwl2 : wt l + 2 * s.length + 4 ≤ 100000 := by simp at hwl; omega
        refine Rp.wp_region_rkx (fun _ _ => False) 7 [] [Rg.Is (.pointer (some ⟨b, 0, none⟩)), Rg.Is (.pointer (some ⟨b, 0, none⟩)), Rg.Is (.pointer (some ⟨b, 0, none⟩)), Rg.Is (.pointer (some ⟨b, 0, none⟩)), (fun u x => u = .string (str ([92, e])) ∧ Rd x b B v l (s) d ∧ Turn b none W x), Rg.Is (.string (str ([e]))), Rg.Is (.agg #[.int .i64 2, .string (str ([e])), .string ⟨#[]⟩, .bool false, .slice none 0 0])] (fun _ _ => True) (fun ls x => ls 4 = false → Below W.heap.size W x) (fun k x y => if k = 4 then Turn b none x y else Below x.heap.size x y) (by kernel_rfl) (by kernel_rfl) (of_decide_eq_true (by kernel_rfl)) (by kernel_rfl) (by kernel_rfl) trivial (fun _ => ⟨rfl, rfl, rfl, Nat.le_refl _, fun _ _ => rfl⟩) (fun ls ls' x e h1 h2 => h1 (by rw [e]; exact h2)) (fun _ _ _ _ _ => trivial) (fun i ls x _ h1 => by rw [show ([] : List Bool).getD i true = true from rfl] at h1; cases h1) ?_ ⟨rfl, rfl, rfl, rfl, rfl, rfl, rfl, trivial⟩ ⟨?_, ?_, ?_, ?_, ?_, ?_, ?_, trivial⟩ ?_ ?_
        · intro i k u x y hik _ h1 hK
          match i, h1, hik with
          | 0, h1, _ => exact h1
          | 1, h1, _ => exact h1
          | 2, h1, _ => exact h1
          | 3, h1, _ => exact h1
          | 4, h1, hik =>
            rw [if_neg (fun e => hik e.symm)] at hK
            exact ⟨h1.1, h1.2.1.below hK, h1.2.2.trans_same (Turn.of_below hK)⟩
          | 5, h1, _ => exact h1
          | 6, h1, _ => exact h1
          | _ + 7, _, _ => trivial
        · intro _ b9 x ls hR hS hself hup hdn hk
          have h0 : b9.eval (.tmp 0) = .pointer (some ⟨b, 0, none⟩) := Eq.mp (by kernel_rfl) (hk 0 (by decide))
          refine Rp.doesX_of ?_
          exact Rg.does_move ⟨by rw [if_neg (by decide)]; exact Below.refl _ _, h0, fun hh => hS hh⟩
        · intro _ b9 x ls hR hS hself hup hdn hk
          have h12 : b9.eval (.tmp 12) = .pointer (some ⟨b, 0, none⟩) := Eq.mp (by kernel_rfl) (hk 12 (by decide))
          refine Rp.doesX_of ?_
          exact Ap.does_nil _ h12 ⟨by rw [if_neg (by decide)]; exact Below.refl _ _, rfl, fun hh => hS hh⟩
        · intro _ b9 x ls hR hS hself hup hdn hk
          have h13 : b9.eval (.tmp 13) = .pointer (some ⟨b, 0, none⟩) := Eq.mp (by kernel_rfl) (hk 13 (by decide))
          refine Rp.doesX_of ?_
          exact Rs.does_field _ _ h13 (fld_rd b 0 0 (by decide) x) ⟨by rw [if_neg (by decide)]; exact Below.refl _ _, rfl, fun hh => hS hh⟩
        · intro _ b9 x ls hR hS hself hup hdn hk
          have h0 : b9.eval (.tmp 0) = .pointer (some ⟨b, 0, none⟩) := Eq.mp (by kernel_rfl) (hk 0 (by decide))
          have lA : ls 4 = false := hdn [] 4 _ rfl (by kernel_rfl)
          have hb := hS lA
          refine Rp.doesX_of ?_
          exact Rg.does_move ⟨by rw [if_neg (by decide)]; exact Below.refl _ _, h0, fun hh => hS hh⟩
        · intro _ b9 x ls hR hS hself hup hdn hk
          have h15 : b9.eval (.tmp 15) = .pointer (some ⟨b, 0, none⟩) := Eq.mp (by kernel_rfl) (hk 15 (by decide))
          have hb := hS hself
          refine Rp.does_func #[.pointer (some ⟨b, 0, none⟩), .int .i64 2] Tryd.func15 (by kernel_rfl) (by kernel_rfl) (by simp [h15, show ∀ v, b9.eval (.const v) = v from fun _ => rfl]) (take_yes x b B v l (92 :: e :: s) d (HH.out.below hb) 2 (by (try simp only [List.length_cons, List.length_nil]); omega) (by simp)) ?_
          rintro e w' ⟨rfl, rfl⟩
          have hx := (HH.out.below hb).text (s)
          exact .inl ⟨_, rfl, by rw [if_pos rfl]; exact hx.2, ⟨rfl, hx.1, (Turn.of_below hb).trans_same hx.2⟩, fun hh => by simp [Rs.upd] at hh⟩
        · intro _ b9 x ls hR hS hself hup hdn hk
          have h16 : (fun u x => u = .string (str ([92, e])) ∧ Rd x b B v l (s) d ∧ Turn b none W x) (b9.eval (.tmp 16)) x := Eq.mp (by kernel_rfl) (hk 16 (by decide))
          refine Rp.doesX_of ?_
          exact Rg.does_slice (.string (str ([e]))) (by rw [h16.1]; exact Sw.run_sub_l Tryd.underlying9 ([92, e]) .i64 1 (by simp)) ⟨by rw [if_neg (by decide)]; exact Below.refl _ _, rfl, fun hh => hS hh⟩
        · intro _ b9 x ls hR hS hself hup hdn hk
          have h17 : b9.eval (.tmp 17) = .string (str ([e])) := Eq.mp (by kernel_rfl) (hk 17 (by decide))
          refine Rp.doesX_of ?_
          exact Ap.does_buildS #[(0, .int .i64 2), (1, .string (str ([e])))] _ (by simp [h17, show ∀ v, b9.eval (.const v) = v from fun _ => rfl]) (build_pt2 x 2 _) ⟨by rw [if_neg (by decide)]; exact Below.refl _ _, rfl, fun hh => hS hh⟩
        · intro ch a' w' hdf hD
          exact hD.elim
        intro vals wD ls _ hSD _ hL
        obtain ⟨g0, g1, g2, g3, g4, g5, g6, _⟩ := hL
        have e2 : vals 2 = .pointer (some ⟨b, 0, none⟩) := g2
        have e4 : vals 4 = .string (str ([92, e])) ∧ Rd wD b B v l (s) d ∧ Turn b none W wD := g4
        have e6 : vals 6 = .agg #[.int .i64 2, .string (str ([e])), .string ⟨#[]⟩, .bool false, .slice none 0 0] := g6
        simp only [Rg.putAll, List.take_succ_cons, List.take_zero, List.drop_succ_cons, List.drop_zero, List.setIfInBounds_toArray, List.set_cons_succ, List.set_cons_zero, e2, e6]
        have HRD := Lib.hid e4.2.1
        have HTD : Hid (Turn b none W wD) := HTW.out.trans_same e4.2.2
        clear g0 g1 g2 g3 g4 g5 g6 e2 e4 e6
        go_wp2_with fail
        refine (put_plain wD b B v l (s) d HRD.out 2 ([e]) false (by (try simp only [List.length_cons, List.length_nil]); omega) (Nat.le_trans hB HTD.out.size)).mono ?_
        rintro r w9 ⟨rfl, hp⟩
        have HP : Hid (PutPost wD b B v (putP l (.mk 2 ([e]) [] false [])) (s) d (.returned (.tuple #[])) w9) := ⟨rfl, hp⟩
        clear hp
        go_wp2_with fail
        refine bodyPost_end (v := .tuple #[]) (results_none rfl _ _ _) rfl ?_
        exact ⟨1, _, HX.out, step_put HTD.out HP.out⟩
    by_cases h39 : c = 39
    · subst h39
      go_wp2_with fail
      refine (has_calls _ b B v l _ d HH.out [92]).mono ?_
      rintro r wn ⟨rfl, hwn⟩
      obtain rfl := hwn.symm
      rw [has_no _ h92]
      go_wp2_with fail
      refine (has_calls _ b B v l _ d HH.out [39]).mono ?_
      rintro r wm ⟨rfl, hwm⟩
      obtain rfl := hwm.symm
      rw [has_yes]
      go_wp2_with fail
      refine (take_yes _ b B v l (39 :: s) d HH.out 1 (by simp; omega) (by simp)).mono ?_
      rintro r w2 ⟨rfl, hw2⟩
      have HR2 : Hid (Rd w2 b B v l s d) := by show Rd _ _ _ _ _ _ _; rw [hw2]; exact (HH.out.text s).1
      have HT2 : Hid (Turn b none W w2) := by show Turn _ _ _ _; rw [hw2]; exact (HH.out.text s).2
      clear hw2
      go_upto_region 5 with fail
      cases hcut : cutAt 39 s with
      | none =>
        have HX : Hid (partM 1 d (39 :: s) = some (.error 11)) := by show _ = _; rw [part_cons, if_neg (by decide), if_pos rfl, hcut]; rfl
        have HCut := Lib.hid hcut
        clear hcut
        refine Rp.wp_region_rkx (fun ch x => panEnd 11 = Ending.panicked ch ∧ Turn b none w2 x) 6 [] [Rg.Is (.pointer (some ⟨b, 0, none⟩)), Rg.Is (.pointer (some ⟨b, 0, none⟩)), Rg.Is (.pointer (some ⟨b, 0, none⟩)), Rg.Is (.pointer (some ⟨b, 0, none⟩)), (fun _ _ => False), (fun _ _ => False)] (fun _ _ => True) (fun ls x => ls 4 = false → Below w2.heap.size w2 x) (fun k x y => if k = 4 then Turn b none x y else Below x.heap.size x y) (by kernel_rfl) (by kernel_rfl) (of_decide_eq_true (by kernel_rfl)) (by kernel_rfl) (by kernel_rfl) trivial (fun _ => ⟨rfl, rfl, rfl, Nat.le_refl _, fun _ _ => rfl⟩) (fun ls ls' x e h1 h2 => h1 (by rw [e]; exact h2)) (fun _ _ _ _ _ => trivial) (fun i ls x _ h1 => by rw [show ([] : List Bool).getD i true = true from rfl] at h1; cases h1) ?_ ⟨rfl, rfl, rfl, rfl, rfl, rfl, trivial⟩ ⟨?_, ?_, ?_, ?_, ?_, ?_, trivial⟩ ?_ ?_
        · intro i k u x y hik _ h1 hK
          match i, h1, hik with
          | 0, h1, _ => exact h1
          | 1, h1, _ => exact h1
          | 2, h1, _ => exact h1
          | 3, h1, _ => exact h1
          | 4, h1, hik =>
            rw [if_neg (fun e => hik e.symm)] at hK
            exact h1
          | 5, h1, hik =>
            exact h1
          | _ + 6, _, _ => trivial
        · intro _ b9 x ls hR hS hself hup hdn hk
          have h0 : b9.eval (.tmp 0) = .pointer (some ⟨b, 0, none⟩) := Eq.mp (by kernel_rfl) (hk 0 (by decide))
          refine Rp.doesX_of ?_
          exact Rg.does_move ⟨by rw [if_neg (by decide)]; exact Below.refl _ _, h0, fun hh => hS hh⟩
        · intro _ b9 x ls hR hS hself hup hdn hk
          have h25 : b9.eval (.tmp 25) = .pointer (some ⟨b, 0, none⟩) := Eq.mp (by kernel_rfl) (hk 25 (by decide))
          refine Rp.doesX_of ?_
          exact Ap.does_nil _ h25 ⟨by rw [if_neg (by decide)]; exact Below.refl _ _, rfl, fun hh => hS hh⟩
        · intro _ b9 x ls hR hS hself hup hdn hk
          have h26 : b9.eval (.tmp 26) = .pointer (some ⟨b, 0, none⟩) := Eq.mp (by kernel_rfl) (hk 26 (by decide))
          refine Rp.doesX_of ?_
          exact Rs.does_field _ _ h26 (fld_rd b 0 0 (by decide) x) ⟨by rw [if_neg (by decide)]; exact Below.refl _ _, rfl, fun hh => hS hh⟩
        · intro _ b9 x ls hR hS hself hup hdn hk
          have h0 : b9.eval (.tmp 0) = .pointer (some ⟨b, 0, none⟩) := Eq.mp (by kernel_rfl) (hk 0 (by decide))
          have lA : ls 4 = false := hdn [] 4 _ rfl (by kernel_rfl)
          have hb := hS lA
          refine Rp.doesX_of ?_
          exact Rg.does_move ⟨by rw [if_neg (by decide)]; exact Below.refl _ _, h0, fun hh => hS hh⟩
        · intro _ b9 x ls hR hS hself hup hdn hk
          have h28 : b9.eval (.tmp 28) = .pointer (some ⟨b, 0, none⟩) := Eq.mp (by kernel_rfl) (hk 28 (by decide))
          have hb := hS hself
          refine Rp.does_func #[.pointer (some ⟨b, 0, none⟩), .string (str [39])] Tryd.func23 (by kernel_rfl) (by kernel_rfl) (by simp [h28, show ∀ v, b9.eval (.const v) = v from fun _ => rfl]; rfl) (upto_calls x b B v l s d (HR2.out.below hb) 39 (by omega)) ?_
          intro e w' hp
          unfold UptoPost at hp
          rw [HCut.out] at hp
          obtain ⟨rfl, k, rfl⟩ := hp
          exact .inr ⟨_, rfl, rfl, (Turn.of_below hb).trans_same (Turn.of_below (drewN_below _ _))⟩
        · intro _ b9 x ls hR hS hself hup hdn hk
          have h29 : (fun _ _ => False) (b9.eval (.tmp 29)) x := Eq.mp (by kernel_rfl) (hk 29 (by decide))
          refine Rp.doesX_of ?_
          exact False.elim h29
        · intro ch a' w' hdf hD
          obtain ⟨hpe, hte⟩ := hD
          exact ⟨hdf, 1, .error 11, HX.out, by rw [← hpe]; exact step_panic (HT2.out.trans_same hte)⟩
        intro vals wD ls _ hSD _ hL
        obtain ⟨g0, g1, g2, g3, g4, g5, _⟩ := hL
        exact (show False from g4).elim
      | some y =>
        have HX : Hid (partM 1 d (39 :: s) = some (.ok ([.mk 2 y.1 [] false []], y.2))) := by show _ = _; rw [part_cons, if_neg (by decide), if_pos rfl, hcut]; rfl
        have hyl := cut_len hcut
        have HCut := Lib.hid hcut
        clear hcut
        refine Rp.wp_region_rkx (fun _ _ => False) 6 [] [Rg.Is (.pointer (some ⟨b, 0, none⟩)), Rg.Is (.pointer (some ⟨b, 0, none⟩)), Rg.Is (.pointer (some ⟨b, 0, none⟩)), Rg.Is (.pointer (some ⟨b, 0, none⟩)), (fun u x => u = .string (str (y.1)) ∧ Rd x b B v l (y.2) d ∧ Turn b none w2 x), Rg.Is (.agg #[.int .i64 2, .string (str (y.1)), .string ⟨#[]⟩, .bool false, .slice none 0 0])] (fun _ _ => True) (fun ls x => ls 4 = false → Below w2.heap.size w2 x) (fun k x y => if k = 4 then Turn b none x y else Below x.heap.size x y) (by kernel_rfl) (by kernel_rfl) (of_decide_eq_true (by kernel_rfl)) (by kernel_rfl) (by kernel_rfl) trivial (fun _ => ⟨rfl, rfl, rfl, Nat.le_refl _, fun _ _ => rfl⟩) (fun ls ls' x e h1 h2 => h1 (by rw [e]; exact h2)) (fun _ _ _ _ _ => trivial) (fun i ls x _ h1 => by rw [show ([] : List Bool).getD i true = true from rfl] at h1; cases h1) ?_ ⟨rfl, rfl, rfl, rfl, rfl, rfl, trivial⟩ ⟨?_, ?_, ?_, ?_, ?_, ?_, trivial⟩ ?_ ?_
        · intro i k u x y hik _ h1 hK
          match i, h1, hik with
          | 0, h1, _ => exact h1
          | 1, h1, _ => exact h1
          | 2, h1, _ => exact h1
          | 3, h1, _ => exact h1
          | 4, h1, hik =>
            rw [if_neg (fun e => hik e.symm)] at hK
            exact ⟨h1.1, h1.2.1.below hK, h1.2.2.trans_same (Turn.of_below hK)⟩
          | 5, h1, _ => exact h1
          | _ + 6, _, _ => trivial
        · intro _ b9 x ls hR hS hself hup hdn hk
          have h0 : b9.eval (.tmp 0) = .pointer (some ⟨b, 0, none⟩) := Eq.mp (by kernel_rfl) (hk 0 (by decide))
          refine Rp.doesX_of ?_
          exact Rg.does_move ⟨by rw [if_neg (by decide)]; exact Below.refl _ _, h0, fun hh => hS hh⟩
        · intro _ b9 x ls hR hS hself hup hdn hk
          have h25 : b9.eval (.tmp 25) = .pointer (some ⟨b, 0, none⟩) := Eq.mp (by kernel_rfl) (hk 25 (by decide))
          refine Rp.doesX_of ?_
          exact Ap.does_nil _ h25 ⟨by rw [if_neg (by decide)]; exact Below.refl _ _, rfl, fun hh => hS hh⟩
        · intro _ b9 x ls hR hS hself hup hdn hk
          have h26 : b9.eval (.tmp 26) = .pointer (some ⟨b, 0, none⟩) := Eq.mp (by kernel_rfl) (hk 26 (by decide))
          refine Rp.doesX_of ?_
          exact Rs.does_field _ _ h26 (fld_rd b 0 0 (by decide) x) ⟨by rw [if_neg (by decide)]; exact Below.refl _ _, rfl, fun hh => hS hh⟩
        · intro _ b9 x ls hR hS hself hup hdn hk
          have h0 : b9.eval (.tmp 0) = .pointer (some ⟨b, 0, none⟩) := Eq.mp (by kernel_rfl) (hk 0 (by decide))
          have lA : ls 4 = false := hdn [] 4 _ rfl (by kernel_rfl)
          have hb := hS lA
          refine Rp.doesX_of ?_
          exact Rg.does_move ⟨by rw [if_neg (by decide)]; exact Below.refl _ _, h0, fun hh => hS hh⟩
        · intro _ b9 x ls hR hS hself hup hdn hk
          have h28 : b9.eval (.tmp 28) = .pointer (some ⟨b, 0, none⟩) := Eq.mp (by kernel_rfl) (hk 28 (by decide))
          have hb := hS hself
          refine Rp.does_func #[.pointer (some ⟨b, 0, none⟩), .string (str [39])] Tryd.func23 (by kernel_rfl) (by kernel_rfl) (by simp [h28, show ∀ v, b9.eval (.const v) = v from fun _ => rfl]; rfl) (upto_calls x b B v l s d (HR2.out.below hb) 39 (by omega)) ?_
          intro e w' hp
          unfold UptoPost at hp
          rw [HCut.out] at hp
          obtain ⟨rfl, k, rfl⟩ := hp
          have hx := ((HR2.out.below hb).below (drewN_below x k)).text y.2
          have ht : Turn b none x ((x.drewN k).setCell ⟨b, 1, none⟩ (.string (str y.2))) := (Turn.of_below (drewN_below x k)).trans_same hx.2
          exact .inl ⟨_, rfl, by rw [if_pos rfl]; exact ht, ⟨rfl, hx.1, (Turn.of_below hb).trans_same ht⟩, fun hh => by simp [Rs.upd] at hh⟩
        · intro _ b9 x ls hR hS hself hup hdn hk
          have h29 : (fun u x => u = .string (str (y.1)) ∧ Rd x b B v l (y.2) d ∧ Turn b none w2 x) (b9.eval (.tmp 29)) x := Eq.mp (by kernel_rfl) (hk 29 (by decide))
          refine Rp.doesX_of ?_
          exact Ap.does_buildS #[(0, .int .i64 2), (1, .string (str (y.1)))] _ (by simp [h29.1, show ∀ v, b9.eval (.const v) = v from fun _ => rfl]) (build_pt2 x 2 _) ⟨by rw [if_neg (by decide)]; exact Below.refl _ _, rfl, fun hh => hS hh⟩
        · intro ch a' w' hdf hD
          exact hD.elim
        intro vals wD ls _ hSD _ hL
        obtain ⟨g0, g1, g2, g3, g4, g5, _⟩ := hL
        have e2 : vals 2 = .pointer (some ⟨b, 0, none⟩) := g2
        have e4 : vals 4 = .string (str (y.1)) ∧ Rd wD b B v l (y.2) d ∧ Turn b none w2 wD := g4
        have e6 : vals 5 = .agg #[.int .i64 2, .string (str (y.1)), .string ⟨#[]⟩, .bool false, .slice none 0 0] := g5
        simp only [Rg.putAll, List.take_succ_cons, List.take_zero, List.drop_succ_cons, List.drop_zero, List.setIfInBounds_toArray, List.set_cons_succ, List.set_cons_zero, e2, e6]
        have HRD := Lib.hid e4.2.1
        have HTD : Hid (Turn b none W wD) := HT2.out.trans_same e4.2.2
        clear g0 g1 g2 g3 g4 g5 e2 e4 e6
        go_wp2_with fail
        refine (put_plain wD b B v l (y.2) d HRD.out 2 (y.1) false (by (try simp only [List.length_cons, List.length_nil]); omega) (Nat.le_trans hB HTD.out.size)).mono ?_
        rintro r w9 ⟨rfl, hp⟩
        have HP : Hid (PutPost wD b B v (putP l (.mk 2 (y.1) [] false [])) (y.2) d (.returned (.tuple #[])) w9) := ⟨rfl, hp⟩
        clear hp
        go_wp2_with fail
        refine bodyPost_end (v := .tuple #[]) (results_none rfl _ _ _) rfl ?_
        exact ⟨1, _, HX.out, step_put HTD.out HP.out⟩
    by_cases h34 : c = 34
    · subst h34
      go_wp2_with fail
      refine (has_calls _ b B v l _ d HH.out [92]).mono ?_
      rintro r wn ⟨rfl, hwn⟩
      obtain rfl := hwn.symm
      rw [has_no _ h92]
      go_wp2_with fail
      refine (has_calls _ b B v l _ d HH.out [39]).mono ?_
      rintro r wn ⟨rfl, hwn⟩
      obtain rfl := hwn.symm
      rw [has_no _ h39]
      go_wp2_with fail
      refine (has_calls _ b B v l _ d HH.out [34]).mono ?_
      rintro r wm ⟨rfl, hwm⟩
      obtain rfl := hwm.symm
      rw [has_yes]
      go_wp2_with fail
      refine (quoted_calls HIH.out W b B v l s d HH.out (by omega) (by simp; omega) hB HO.out hg).mono ?_
      rintro r w2 ⟨f, x, hx, hs⟩
      have hxi : partM (f + 1) d (34 :: s) = some x := by rw [part_cons, if_neg (by decide), if_neg (by decide), if_pos rfl]; exact hx
      cases x with
      | error e =>
        obtain ⟨ht, rfl⟩ := hs
        exact ⟨rfl, f + 1, _, hxi, ht, rfl⟩
      | ok y =>
        obtain ⟨ht, rfl, hv⟩ := hs
        have HF : Hid (PartPost W b B v l (34 :: s) d (.returned (.tuple #[])) w2) := ⟨f + 1, _, hxi, ht, rfl, hv⟩
        clear hx hxi ht hv
        go_wp2_with fail
        refine bodyPost_end (v := .tuple #[]) (results_none rfl _ _ _) rfl ?_
        exact HF.out
    by_cases h36 : c = 36
    · subst h36
      go_wp2_with fail
      refine (has_calls _ b B v l _ d HH.out [92]).mono ?_
      rintro r wn ⟨rfl, hwn⟩
      obtain rfl := hwn.symm
      rw [has_no _ h92]
      go_wp2_with fail
      refine (has_calls _ b B v l _ d HH.out [39]).mono ?_
      rintro r wn ⟨rfl, hwn⟩
      obtain rfl := hwn.symm
      rw [has_no _ h39]
      go_wp2_with fail
      refine (has_calls _ b B v l _ d HH.out [34]).mono ?_
      rintro r wn ⟨rfl, hwn⟩
      obtain rfl := hwn.symm
      rw [has_no _ h34]
      go_wp2_with fail
      refine (has_calls _ b B v l _ d HH.out [36]).mono ?_
      rintro r wm ⟨rfl, hwm⟩
      obtain rfl := hwm.symm
      rw [has_yes]
      go_wp2_with fail
      refine (dollar_calls HIH.out W b B v l s d false HH.out hnl (by simp; omega) hB HO.out hg).mono ?_
      rintro r w2 ⟨f, x, hx, hs⟩
      have hxi : partM (f + 1) d (36 :: s) = some x := by rw [part_cons, if_neg (by decide), if_neg (by decide), if_neg (by decide), if_pos rfl]; exact hx
      cases x with
      | error e =>
        obtain ⟨ht, rfl⟩ := hs
        exact ⟨rfl, f + 1, _, hxi, ht, rfl⟩
      | ok y =>
        obtain ⟨ht, rfl, hv⟩ := hs
        have HF : Hid (PartPost W b B v l (36 :: s) d (.returned (.tuple #[])) w2) := ⟨f + 1, _, hxi, ht, rfl, hv⟩
        clear hx hxi ht hv
        go_wp2_with fail
        refine bodyPost_end (v := .tuple #[]) (results_none rfl _ _ _) rfl ?_
        exact HF.out
    by_cases h96 : c = 96
    · subst h96
      have HX : Hid (partM 1 d (96 :: s) = some (.error 11)) := by show _ = _; rw [part_cons, if_neg (by decide), if_neg (by decide), if_neg (by decide), if_neg (by decide), if_pos rfl]; rfl
      go_wp2_with fail
      refine (has_calls _ b B v l _ d HH.out [92]).mono ?_
      rintro r wn ⟨rfl, hwn⟩
      obtain rfl := hwn.symm
      rw [has_no _ h92]
      go_wp2_with fail
      refine (has_calls _ b B v l _ d HH.out [39]).mono ?_
      rintro r wn ⟨rfl, hwn⟩
      obtain rfl := hwn.symm
      rw [has_no _ h39]
      go_wp2_with fail
      refine (has_calls _ b B v l _ d HH.out [34]).mono ?_
      rintro r wn ⟨rfl, hwn⟩
      obtain rfl := hwn.symm
      rw [has_no _ h34]
      go_wp2_with fail
      refine (has_calls _ b B v l _ d HH.out [36]).mono ?_
      rintro r wn ⟨rfl, hwn⟩
      obtain rfl := hwn.symm
      rw [has_no _ h36]
      go_wp2_with fail
      refine (has_calls _ b B v l _ d HH.out [96]).mono ?_
      rintro r wm ⟨rfl, hwm⟩
      obtain rfl := hwm.symm
      rw [has_yes]
      go_wp2_with fail
      refine (fail_calls _ 11).mono ?_
      rintro r w2 ⟨rfl, rfl⟩
      exact ⟨rfl, 1, _, HX.out, step_panic (Turn.refl _ _ _)⟩
    · have HX : Hid (partM 1 d (c :: s) = some (.ok ([.mk 1 [c] [] false []], s))) := by show _ = _; rw [part_cons, if_neg h92, if_neg h39, if_neg h34, if_neg h36, if_neg h96]; rfl
      go_wp2_with fail
      refine (has_calls _ b B v l _ d HH.out [92]).mono ?_
      rintro r wn ⟨rfl, hwn⟩
      obtain rfl := hwn.symm
      rw [has_no _ h92]
      go_wp2_with fail
      refine (has_calls _ b B v l _ d HH.out [39]).mono ?_
      rintro r wn ⟨rfl, hwn⟩
      obtain rfl := hwn.symm
      rw [has_no _ h39]
      go_wp2_with fail
      refine (has_calls _ b B v l _ d HH.out [34]).mono ?_
      rintro r wn ⟨rfl, hwn⟩
      obtain rfl := hwn.symm
      rw [has_no _ h34]
      go_wp2_with fail
      refine (has_calls _ b B v l _ d HH.out [36]).mono ?_
      rintro r wn ⟨rfl, hwn⟩
      obtain rfl := hwn.symm
      rw [has_no _ h36]
      go_wp2_with fail
      refine (has_calls _ b B v l _ d HH.out [96]).mono ?_
      rintro r wn ⟨rfl, hwn⟩
      obtain rfl := hwn.symm
      rw [has_no _ h96]
      go_upto_region 0 with fail
      refine Rp.wp_region_rkx (fun _ _ => False) 6 [] [Rg.Is (.pointer (some ⟨b, 0, none⟩)), Rg.Is (.pointer (some ⟨b, 0, none⟩)), Rg.Is (.pointer (some ⟨b, 0, none⟩)), Rg.Is (.pointer (some ⟨b, 0, none⟩)), (fun u x => u = .string (str ([c])) ∧ Rd x b B v l (s) d ∧ Turn b none W x), Rg.Is (.agg #[.int .i64 1, .string (str ([c])), .string ⟨#[]⟩, .bool false, .slice none 0 0])] (fun _ _ => True) (fun ls x => ls 4 = false → Below W.heap.size W x) (fun k x y => if k = 4 then Turn b none x y else Below x.heap.size x y) (by kernel_rfl) (by kernel_rfl) (of_decide_eq_true (by kernel_rfl)) (by kernel_rfl) (by kernel_rfl) trivial (fun _ => ⟨rfl, rfl, rfl, Nat.le_refl _, fun _ _ => rfl⟩) (fun ls ls' x e h1 h2 => h1 (by rw [e]; exact h2)) (fun _ _ _ _ _ => trivial) (fun i ls x _ h1 => by rw [show ([] : List Bool).getD i true = true from rfl] at h1; cases h1) ?_ ⟨rfl, rfl, rfl, rfl, rfl, rfl, trivial⟩ ⟨?_, ?_, ?_, ?_, ?_, ?_, trivial⟩ ?_ ?_
      · intro i k u x y hik _ h1 hK
        match i, h1, hik with
        | 0, h1, _ => exact h1
        | 1, h1, _ => exact h1
        | 2, h1, _ => exact h1
        | 3, h1, _ => exact h1
        | 4, h1, hik =>
          rw [if_neg (fun e => hik e.symm)] at hK
          exact ⟨h1.1, h1.2.1.below hK, h1.2.2.trans_same (Turn.of_below hK)⟩
        | 5, h1, _ => exact h1
        | _ + 6, _, _ => trivial
      · intro _ b9 x ls hR hS hself hup hdn hk
        have h0 : b9.eval (.tmp 0) = .pointer (some ⟨b, 0, none⟩) := Eq.mp (by kernel_rfl) (hk 0 (by decide))
        refine Rp.doesX_of ?_
        exact Rg.does_move ⟨by rw [if_neg (by decide)]; exact Below.refl _ _, h0, fun hh => hS hh⟩
      · intro _ b9 x ls hR hS hself hup hdn hk
        have h2 : b9.eval (.tmp 2) = .pointer (some ⟨b, 0, none⟩) := Eq.mp (by kernel_rfl) (hk 2 (by decide))
        refine Rp.doesX_of ?_
        exact Ap.does_nil _ h2 ⟨by rw [if_neg (by decide)]; exact Below.refl _ _, rfl, fun hh => hS hh⟩
      · intro _ b9 x ls hR hS hself hup hdn hk
        have h3 : b9.eval (.tmp 3) = .pointer (some ⟨b, 0, none⟩) := Eq.mp (by kernel_rfl) (hk 3 (by decide))
        refine Rp.doesX_of ?_
        exact Rs.does_field _ _ h3 (fld_rd b 0 0 (by decide) x) ⟨by rw [if_neg (by decide)]; exact Below.refl _ _, rfl, fun hh => hS hh⟩
      · intro _ b9 x ls hR hS hself hup hdn hk
        have h0 : b9.eval (.tmp 0) = .pointer (some ⟨b, 0, none⟩) := Eq.mp (by kernel_rfl) (hk 0 (by decide))
        have lA : ls 4 = false := hdn [] 4 _ rfl (by kernel_rfl)
        have hb := hS lA
        refine Rp.doesX_of ?_
        exact Rg.does_move ⟨by rw [if_neg (by decide)]; exact Below.refl _ _, h0, fun hh => hS hh⟩
      · intro _ b9 x ls hR hS hself hup hdn hk
        have h5 : b9.eval (.tmp 5) = .pointer (some ⟨b, 0, none⟩) := Eq.mp (by kernel_rfl) (hk 5 (by decide))
        have hb := hS hself
        refine Rp.does_func #[.pointer (some ⟨b, 0, none⟩), .int .i64 1] Tryd.func15 (by kernel_rfl) (by kernel_rfl) (by simp [h5, show ∀ v, b9.eval (.const v) = v from fun _ => rfl]) (take_yes x b B v l (c :: s) d (HH.out.below hb) 1 (by (try simp only [List.length_cons, List.length_nil]); omega) (by simp)) ?_
        rintro e w' ⟨rfl, rfl⟩
        have hx := (HH.out.below hb).text (s)
        exact .inl ⟨_, rfl, by rw [if_pos rfl]; exact hx.2, ⟨rfl, hx.1, (Turn.of_below hb).trans_same hx.2⟩, fun hh => by simp [Rs.upd] at hh⟩
      · intro _ b9 x ls hR hS hself hup hdn hk
        have h6 : (fun u x => u = .string (str ([c])) ∧ Rd x b B v l (s) d ∧ Turn b none W x) (b9.eval (.tmp 6)) x := Eq.mp (by kernel_rfl) (hk 6 (by decide))
        refine Rp.doesX_of ?_
        exact Ap.does_buildS #[(0, .int .i64 1), (1, .string (str ([c])))] _ (by simp [h6.1, show ∀ v, b9.eval (.const v) = v from fun _ => rfl]) (build_pt2 x 1 _) ⟨by rw [if_neg (by decide)]; exact Below.refl _ _, rfl, fun hh => hS hh⟩
      · intro ch a' w' hdf hD
        exact hD.elim
      intro vals wD ls _ hSD _ hL
      obtain ⟨g0, g1, g2, g3, g4, g5, _⟩ := hL
      have e2 : vals 2 = .pointer (some ⟨b, 0, none⟩) := g2
      have e4 : vals 4 = .string (str ([c])) ∧ Rd wD b B v l (s) d ∧ Turn b none W wD := g4
      have e6 : vals 5 = .agg #[.int .i64 1, .string (str ([c])), .string ⟨#[]⟩, .bool false, .slice none 0 0] := g5
      simp only [Rg.putAll, List.take_succ_cons, List.take_zero, List.drop_succ_cons, List.drop_zero, List.setIfInBounds_toArray, List.set_cons_succ, List.set_cons_zero, e2, e6]
      have HRD := Lib.hid e4.2.1
      have HTD : Hid (Turn b none W wD) := HTW.out.trans_same e4.2.2
      clear g0 g1 g2 g3 g4 g5 e2 e4 e6
      go_wp2_with fail
      refine (put_plain wD b B v l (s) d HRD.out 1 ([c]) false (by (try simp only [List.length_cons, List.length_nil]); omega) (Nat.le_trans hB HTD.out.size)).mono ?_
      rintro r w9 ⟨rfl, hp⟩
      have HP : Hid (PutPost wD b B v (putP l (.mk 1 ([c]) [] false [])) (s) d (.returned (.tuple #[])) w9) := ⟨rfl, hp⟩
      clear hp
      go_wp2_with fail
      refine bodyPost_end (v := .tuple #[]) (results_none rfl _ _ _) rfl ?_
      exact ⟨1, _, HX.out, step_put HTD.out HP.out⟩
/-- A part, whatever the text. -/
theorem part_ih : ∀ n, PartIH n
  | 0 => fun W b B v l s d h hn => absurd hn (Nat.not_lt_zero _)
  | n + 1 => fun W b B v l s d h hn hw hB hO hg => part_calls (part_ih n) W b B v l s d h (Nat.le_of_lt_succ hn) hw hB hO hg
end Go.Proofs.YtfjkgeeaeolkhaaDoor
