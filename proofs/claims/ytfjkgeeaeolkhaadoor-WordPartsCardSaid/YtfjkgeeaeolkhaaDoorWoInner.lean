/-
  Word: what is next in a quoted part; a quoted part; a part. Conditions: as each contract says.
-/
import Derived.Test.YtfjkgeeaeolkhaaDoorWoPart
set_option linter.unusedVariables false
set_option linter.unusedSimpArgs false
set_option maxRecDepth 100000
namespace Go.Proofs.YtfjkgeeaeolkhaaDoor
open Go.RowKit Base Wo

theorem has_yes (k : UInt8) (r : Nm) : has [k] (k :: r) = true := by simp [has, List.isPrefixOf]
theorem has_no {k c : UInt8} (r : Nm) (h : c ≠ k) : has [k] (c :: r) = false := by simp [has, List.isPrefixOf, Ne.symm h]
theorem has_nil (k : UInt8) : has [k] [] = false := rfl
theorem idx_contains (l : Nm) (c : UInt8) : decide (0 ≤ Lib.indexByte l c) = l.contains c := by
  have h := index_cut c l
  have hm : ∀ s : Nm, (cutAt c s).isSome = s.contains c := by
    intro s
    induction s with
    | nil => rfl
    | cons d r ih =>
      unfold cutAt
      by_cases hd : d = c
      · subst hd; simp
      · rw [if_neg hd, Option.isSome_map, ih, List.contains_cons]
        have : (c == d) = false := by rw [beq_eq_false_iff_ne]; exact fun e => hd e.symm
        rw [this, Bool.false_or]
  rw [← hm l]
  cases hc : cutAt c l with
  | none => rw [hc] at h; simp only at h; rw [h]; rfl
  | some x => rw [hc] at h; simp only at h; rw [h.1]; simp
theorem inner_cons (w : Nm → M (List Prt × Nm)) (deep : Nat) (som : Nm) (c : UInt8) (r : Nm) : innerM w deep som (c :: r) = if c = 36 then dollarM w deep true r else if c = 96 then err 11 else if c = 92 then (match r with | [] => err 11 | d :: r' => ret ([.mk 2 (if som.contains d then [d] else [92, d]) [] false []], r')) else ret ([.mk 2 [c] [] false []], r) := rfl
def InnerPost (W : World) (b B : Nat) (v : Value) (l : List Prt) (s : Nm) (d : Nat) (som : Nm) (r : Ending) (W' : World) : Prop :=
  ∃ f x, innerM (withinM f d) d som s = some x ∧ StepR W b B v l d x r W'
set_option maxHeartbeats 4000000 in
theorem inner_calls {n : Nat} (ih : PartIH n) (W : World) (b B : Nat) (v : Value) (l : List Prt) (s : Nm) (d : Nat) (som : Nm) (h : Rd W b B v l s d) (hn : s.length ≤ n) (hw : wt l + 2 * s.length ≤ 100000) (hB : B ≤ W.heap.size) (hO : OpsT W) (hg : gOps < B) :
    Calls Tryd.prog 19 #[.pointer (some ⟨b, 0, none⟩), .string (str som)] W (InnerPost W b B v l s d som) := by
  have HIH : Hid (PartIH n) := ih
  have HO := Lib.hid hO
  have HH := Lib.hid h
  have HTW := Lib.hid (Turn.refl b none W)
  clear ih hO h
  go_enter Tryd.func19, Tryd.ntmps19
  cases s with
  | nil =>
    have HX : Hid (innerM (withinM 1 d) d som [] = some (.error 11)) := rfl
    have hwl : wt l ≤ 100000 := by simpa using hw
    go_wp2_with fail
    refine (has_calls _ b B v l _ d HH.out [36]).mono ?_
    rintro r wn ⟨rfl, hwn⟩
    obtain rfl := hwn.symm
    rw [has_nil]
    go_wp2_with fail
    refine (has_calls _ b B v l _ d HH.out [96]).mono ?_
    rintro r wn ⟨rfl, hwn⟩
    obtain rfl := hwn.symm
    rw [has_nil]
    go_wp2_with fail
    refine (has_calls _ b B v l _ d HH.out [92]).mono ?_
    rintro r wn ⟨rfl, hwn⟩
    obtain rfl := hwn.symm
    rw [has_nil]
    go_upto_region 0 with fail
    refine Rp.wp_region_rkx (fun ch x => panEnd 11 = Ending.panicked ch ∧ Turn b none W x) 6 [] [Rg.Is (.pointer (some ⟨b, 0, none⟩)), Rg.Is (.pointer (some ⟨b, 0, none⟩)), Rg.Is (.pointer (some ⟨b, 0, none⟩)), Rg.Is (.pointer (some ⟨b, 0, none⟩)), (fun _ _ => False), (fun _ _ => False)] (fun _ _ => True) (fun ls x => ls 4 = false → Below W.heap.size W x) (fun k x y => if k = 4 then Turn b none x y else Below x.heap.size x y) (by kernel_rfl) (by kernel_rfl) (of_decide_eq_true (by kernel_rfl)) (by kernel_rfl) (by kernel_rfl) trivial (fun _ => ⟨rfl, rfl, rfl, Nat.le_refl _, fun _ _ => rfl⟩) (fun ls ls' x e h1 h2 => h1 (by rw [e]; exact h2)) (fun _ _ _ _ _ => trivial) (fun i ls x _ h1 => by rw [show ([] : List Bool).getD i true = true from rfl] at h1; cases h1) ?_ ⟨rfl, rfl, rfl, rfl, rfl, rfl, trivial⟩ ⟨?_, ?_, ?_, ?_, ?_, ?_, trivial⟩ ?_ ?_
    · intro i k u x y hik _ h1 hK
      match i, h1, hik with
      | 0, h1, _ => exact h1
      | 1, h1, _ => exact h1
      | 2, h1, _ => exact h1
      | 3, h1, _ => exact h1
      | 4, h1, hik =>
        rw [if_neg (fun e => hik e.symm)] at hK
        exact h1
      | 5, h1, hik =>
        exact h1
      | _ + 6, _, _ => trivial
    · intro _ b9 x ls hR hS hself hup hdn hk
      have h0 : b9.eval (.tmp 0) = .pointer (some ⟨b, 0, none⟩) := Eq.mp (by kernel_rfl) (hk 0 (by decide))
      refine Rp.doesX_of ?_
      exact Rg.does_move ⟨by rw [if_neg (by decide)]; exact Below.refl _ _, h0, fun hh => hS hh⟩
    · intro _ b9 x ls hR hS hself hup hdn hk
      have h5 : b9.eval (.tmp 5) = .pointer (some ⟨b, 0, none⟩) := Eq.mp (by kernel_rfl) (hk 5 (by decide))
      refine Rp.doesX_of ?_
      exact Ap.does_nil _ h5 ⟨by rw [if_neg (by decide)]; exact Below.refl _ _, rfl, fun hh => hS hh⟩
    · intro _ b9 x ls hR hS hself hup hdn hk
      have h6 : b9.eval (.tmp 6) = .pointer (some ⟨b, 0, none⟩) := Eq.mp (by kernel_rfl) (hk 6 (by decide))
      refine Rp.doesX_of ?_
      exact Rs.does_field _ _ h6 (fld_rd b 0 0 (by decide) x) ⟨by rw [if_neg (by decide)]; exact Below.refl _ _, rfl, fun hh => hS hh⟩
    · intro _ b9 x ls hR hS hself hup hdn hk
      have h0 : b9.eval (.tmp 0) = .pointer (some ⟨b, 0, none⟩) := Eq.mp (by kernel_rfl) (hk 0 (by decide))
      have lA : ls 4 = false := hdn [] 4 _ rfl (by kernel_rfl)
      have hb := hS lA
      refine Rp.doesX_of ?_
      exact Rg.does_move ⟨by rw [if_neg (by decide)]; exact Below.refl _ _, h0, fun hh => hS hh⟩
    · intro _ b9 x ls hR hS hself hup hdn hk
      have h8 : b9.eval (.tmp 8) = .pointer (some ⟨b, 0, none⟩) := Eq.mp (by kernel_rfl) (hk 8 (by decide))
      have hb := hS hself
      refine Rp.does_func #[.pointer (some ⟨b, 0, none⟩), .int .i64 1] Tryd.func15 (by kernel_rfl) (by kernel_rfl) (by simp [h8, show ∀ v, b9.eval (.const v) = v from fun _ => rfl]) (take_no x b B v l ([]) d (HH.out.below hb) 1 (by simp only [List.length_cons, List.length_nil]; omega) (by simp)) ?_
      rintro e w' ⟨rfl, rfl⟩
      exact .inr ⟨_, rfl, rfl, Turn.of_below hb⟩
    · intro _ b9 x ls hR hS hself hup hdn hk
      have h9 : (fun _ _ => False) (b9.eval (.tmp 9)) x := Eq.mp (by kernel_rfl) (hk 9 (by decide))
      refine Rp.doesX_of ?_
      exact False.elim h9
    · intro ch a' w' hdf hD
      obtain ⟨hpe, hte⟩ := hD
      exact ⟨hdf, 1, .error 11, HX.out, by rw [← hpe]; exact step_panic (HTW.out.trans_same hte)⟩
    intro vals wD ls _ hSD _ hL
    obtain ⟨g0, g1, g2, g3, g4, g5, _⟩ := hL
    exact (show False from g4).elim
  | cons c s =>
    have hwl : wt l + 2 * s.length + 2 ≤ 100000 := by simp at hw; omega
    have hnl : s.length < n := by simp at hn; omega
    clear hw hn
    by_cases h36 : c = 36
    · subst h36
      go_wp2_with fail
      refine (has_calls _ b B v l _ d HH.out [36]).mono ?_
      rintro r wn ⟨rfl, hwn⟩
      obtain rfl := hwn.symm
      rw [has_yes]
      go_wp2_with fail
      refine (dollar_calls HIH.out W b B v l s d true HH.out hnl (by simp; omega) hB HO.out hg).mono ?_
      rintro r w2 ⟨f, x, hx, hs⟩
      have hxi : innerM (withinM f d) d som (36 :: s) = some x := by rw [inner_cons, if_pos rfl]; exact hx
      cases x with
      | error e =>
        obtain ⟨ht, rfl⟩ := hs
        exact ⟨rfl, f, _, hxi, ht, rfl⟩
      | ok y =>
        obtain ⟨ht, rfl, hv⟩ := hs
        have HF : Hid (InnerPost W b B v l (36 :: s) d som (.returned (.tuple #[])) w2) := ⟨f, _, hxi, ht, rfl, hv⟩
        clear hx hxi ht hv
        go_wp2_with fail
        refine bodyPost_end (v := .tuple #[]) (results_none rfl _ _ _) rfl ?_
        exact HF.out
    by_cases h96 : c = 96
    · subst h96
      have HX : Hid (innerM (withinM 1 d) d som (96 :: s) = some (.error 11)) := by show _ = _; rw [inner_cons, if_neg (by decide), if_pos rfl]; rfl
      go_wp2_with fail
      refine (has_calls _ b B v l _ d HH.out [36]).mono ?_
      rintro r wn ⟨rfl, hwn⟩
      obtain rfl := hwn.symm
      rw [has_no _ h36]
      go_wp2_with fail
      refine (has_calls _ b B v l _ d HH.out [96]).mono ?_
      rintro r wm ⟨rfl, hwm⟩
      obtain rfl := hwm.symm
      rw [has_yes]
      go_wp2_with fail
      refine (fail_calls _ 11).mono ?_
      rintro r w2 ⟨rfl, rfl⟩
      exact ⟨rfl, 1, _, HX.out, step_panic (Turn.refl _ _ _)⟩
    by_cases h92 : c = 92
    · subst h92
      go_wp2_with fail
      refine (has_calls _ b B v l _ d HH.out [36]).mono ?_
      rintro r wn ⟨rfl, hwn⟩
      obtain rfl := hwn.symm
      rw [has_no _ h36]
      go_wp2_with fail
      refine (has_calls _ b B v l _ d HH.out [96]).mono ?_
      rintro r wn ⟨rfl, hwn⟩
      obtain rfl := hwn.symm
      rw [has_no _ h96]
      go_wp2_with fail
      refine (has_calls _ b B v l _ d HH.out [92]).mono ?_
      rintro r wm ⟨rfl, hwm⟩
      obtain rfl := hwm.symm
      rw [has_yes]
      go_wp2_with fail
      cases s with
      | nil =>
        have HX : Hid (innerM (withinM 1 d) d som [92] = some (.error 11)) := rfl
        refine (take_no _ b B v l [92] d HH.out 2 (by simp) (by simp)).mono ?_
        rintro r w2 ⟨rfl, rfl⟩
        exact ⟨rfl, 1, _, HX.out, step_panic (Turn.refl _ _ _)⟩
      | cons e s =>
        have HX : Hid (innerM (withinM 1 d) d som (92 :: e :: s) = some (.ok ([.mk 2 (if som.contains e then [e] else [92, e]) [] false []], s))) := rfl
        have hwl2 : wt l + 2 * s.length + 4 ≤ 100000 := by simp at hwl; omega
        refine (take_yes _ b B v l (92 :: e :: s) d HH.out 2 (by simp; omega) (by simp)).mono ?_
        rintro r w2 ⟨rfl, hw2⟩
        have HR2 : Hid (Rd w2 b B v l s d) := by show Rd _ _ _ _ _ _ _; rw [hw2]; exact (HH.out.text s).1
        have HT2 : Hid (Turn b none W w2) := by show Turn _ _ _ _; rw [hw2]; exact (HH.out.text s).2
        rw [show (92 :: e :: s).take 2 = [92, e] from rfl]
        have hx1 : (str [92, e]).extract 1 (str [92, e]).size = str [e] := Sw.str_sub _ _ _
        have e2 : (1 : Int) ≤ ((str [92, e]).size : Int) := by show (1 : Int) ≤ ((2 : Nat) : Int); decide
        clear hw2 hwl hnl h36 h96
        go_wp2_with fail
        refine (Tryd.strings_Contains_one (str som) e _).mono ?_
        rintro r w3 ⟨rfl, hw3⟩
        obtain rfl := hw3.symm
        rw [str_dl, idx_contains]
        by_cases hc : som.contains e = true
        · rw [hc] at HX ⊢
          go_wp2_with fail
          refine (put_plain w2 b B v l s d HR2.out 2 [e] false (by simp; omega) (Nat.le_trans hB HT2.out.size)).mono ?_
          rintro r w9 ⟨rfl, hp⟩
          have HP : Hid (PutPost w2 b B v (putP l (.mk 2 [e] [] false [])) s d (.returned (.tuple #[])) w9) := ⟨rfl, hp⟩
          clear hp
          go_wp2_with fail
          refine bodyPost_end (v := .tuple #[]) (results_none rfl _ _ _) rfl ?_
          exact ⟨1, _, HX.out, step_put HT2.out HP.out⟩
        · have hc : som.contains e = false := by simpa using hc
          rw [hc] at HX ⊢
          go_wp2_with fail
          refine (put_plain w2 b B v l s d HR2.out 2 [92, e] false (by simp; omega) (Nat.le_trans hB HT2.out.size)).mono ?_
          rintro r w9 ⟨rfl, hp⟩
          have HP : Hid (PutPost w2 b B v (putP l (.mk 2 [92, e] [] false [])) s d (.returned (.tuple #[])) w9) := ⟨rfl, hp⟩
          clear hp
          go_wp2_with fail
          refine bodyPost_end (v := .tuple #[]) (results_none rfl _ _ _) rfl ?_
          exact ⟨1, _, HX.out, step_put HT2.out HP.out⟩
    · have HX : Hid (innerM (withinM 1 d) d som (c :: s) = some (.ok ([.mk 2 [c] [] false []], s))) := by show _ = _; rw [inner_cons, if_neg h36, if_neg h96, if_neg h92]; rfl
      go_wp2_with fail
      refine (has_calls _ b B v l _ d HH.out [36]).mono ?_
      rintro r wn ⟨rfl, hwn⟩
      obtain rfl := hwn.symm
      rw [has_no _ h36]
      go_wp2_with fail
      refine (has_calls _ b B v l _ d HH.out [96]).mono ?_
      rintro r wn ⟨rfl, hwn⟩
      obtain rfl := hwn.symm
      rw [has_no _ h96]
      go_wp2_with fail
      refine (has_calls _ b B v l _ d HH.out [92]).mono ?_
      rintro r wn ⟨rfl, hwn⟩
      obtain rfl := hwn.symm
      rw [has_no _ h92]
      go_upto_region 0 with fail
      refine Rp.wp_region_rkx (fun _ _ => False) 6 [] [Rg.Is (.pointer (some ⟨b, 0, none⟩)), Rg.Is (.pointer (some ⟨b, 0, none⟩)), Rg.Is (.pointer (some ⟨b, 0, none⟩)), Rg.Is (.pointer (some ⟨b, 0, none⟩)), (fun u x => u = .string (str ([c])) ∧ Rd x b B v l (s) d ∧ Turn b none W x), Rg.Is (.agg #[.int .i64 2, .string (str ([c])), .string ⟨#[]⟩, .bool false, .slice none 0 0])] (fun _ _ => True) (fun ls x => ls 4 = false → Below W.heap.size W x) (fun k x y => if k = 4 then Turn b none x y else Below x.heap.size x y) (by kernel_rfl) (by kernel_rfl) (of_decide_eq_true (by kernel_rfl)) (by kernel_rfl) (by kernel_rfl) trivial (fun _ => ⟨rfl, rfl, rfl, Nat.le_refl _, fun _ _ => rfl⟩) (fun ls ls' x e h1 h2 => h1 (by rw [e]; exact h2)) (fun _ _ _ _ _ => trivial) (fun i ls x _ h1 => by rw [show ([] : List Bool).getD i true = true from rfl] at h1; cases h1) ?_ ⟨rfl, rfl, rfl, rfl, rfl, rfl, trivial⟩ ⟨?_, ?_, ?_, ?_, ?_, ?_, trivial⟩ ?_ ?_
      · intro i k u x y hik _ h1 hK
        match i, h1, hik with
        | 0, h1, _ => exact h1
        | 1, h1, _ => exact h1
        | 2, h1, _ => exact h1
        | 3, h1, _ => exact h1
        | 4, h1, hik =>
          rw [if_neg (fun e => hik e.symm)] at hK
          exact ⟨h1.1, h1.2.1.below hK, h1.2.2.trans_same (Turn.of_below hK)⟩
        | 5, h1, _ => exact h1
        | _ + 6, _, _ => trivial
      · intro _ b9 x ls hR hS hself hup hdn hk
        have h0 : b9.eval (.tmp 0) = .pointer (some ⟨b, 0, none⟩) := Eq.mp (by kernel_rfl) (hk 0 (by decide))
        refine Rp.doesX_of ?_
        exact Rg.does_move ⟨by rw [if_neg (by decide)]; exact Below.refl _ _, h0, fun hh => hS hh⟩
      · intro _ b9 x ls hR hS hself hup hdn hk
        have h5 : b9.eval (.tmp 5) = .pointer (some ⟨b, 0, none⟩) := Eq.mp (by kernel_rfl) (hk 5 (by decide))
        refine Rp.doesX_of ?_
        exact Ap.does_nil _ h5 ⟨by rw [if_neg (by decide)]; exact Below.refl _ _, rfl, fun hh => hS hh⟩
      · intro _ b9 x ls hR hS hself hup hdn hk
        have h6 : b9.eval (.tmp 6) = .pointer (some ⟨b, 0, none⟩) := Eq.mp (by kernel_rfl) (hk 6 (by decide))
        refine Rp.doesX_of ?_
        exact Rs.does_field _ _ h6 (fld_rd b 0 0 (by decide) x) ⟨by rw [if_neg (by decide)]; exact Below.refl _ _, rfl, fun hh => hS hh⟩
      · intro _ b9 x ls hR hS hself hup hdn hk
        have h0 : b9.eval (.tmp 0) = .pointer (some ⟨b, 0, none⟩) := Eq.mp (by kernel_rfl) (hk 0 (by decide))
        have lA : ls 4 = false := hdn [] 4 _ rfl (by kernel_rfl)
        have hb := hS lA
        refine Rp.doesX_of ?_
        exact Rg.does_move ⟨by rw [if_neg (by decide)]; exact Below.refl _ _, h0, fun hh => hS hh⟩
      · intro _ b9 x ls hR hS hself hup hdn hk
        have h8 : b9.eval (.tmp 8) = .pointer (some ⟨b, 0, none⟩) := Eq.mp (by kernel_rfl) (hk 8 (by decide))
        have hb := hS hself
        refine Rp.does_func #[.pointer (some ⟨b, 0, none⟩), .int .i64 1] Tryd.func15 (by kernel_rfl) (by kernel_rfl) (by simp [h8, show ∀ v, b9.eval (.const v) = v from fun _ => rfl]) (take_yes x b B v l (c :: s) d (HH.out.below hb) 1 (by simp only [List.length_cons, List.length_nil]; omega) (by simp)) ?_
        rintro e w' ⟨rfl, rfl⟩
        have hx := (HH.out.below hb).text (s)
        exact .inl ⟨_, rfl, by rw [if_pos rfl]; exact hx.2, ⟨rfl, hx.1, (Turn.of_below hb).trans_same hx.2⟩, fun hh => by simp [Rs.upd] at hh⟩
      · intro _ b9 x ls hR hS hself hup hdn hk
        have h9 : (fun u x => u = .string (str ([c])) ∧ Rd x b B v l (s) d ∧ Turn b none W x) (b9.eval (.tmp 9)) x := Eq.mp (by kernel_rfl) (hk 9 (by decide))
        refine Rp.doesX_of ?_
        exact Ap.does_buildS #[(0, .int .i64 2), (1, .string (str ([c])))] _ (by simp [h9.1, show ∀ v, b9.eval (.const v) = v from fun _ => rfl]) (build_pt2 x 2 _) ⟨by rw [if_neg (by decide)]; exact Below.refl _ _, rfl, fun hh => hS hh⟩
      · intro ch a' w' hdf hD
        exact hD.elim
      intro vals wD ls _ hSD _ hL
      obtain ⟨g0, g1, g2, g3, g4, g5, _⟩ := hL
      have e2 : vals 2 = .pointer (some ⟨b, 0, none⟩) := g2
      have e4 : vals 4 = .string (str ([c])) ∧ Rd wD b B v l (s) d ∧ Turn b none W wD := g4
      have e6 : vals 5 = .agg #[.int .i64 2, .string (str ([c])), .string ⟨#[]⟩, .bool false, .slice none 0 0] := g5
      simp only [Rg.putAll, List.take_succ_cons, List.take_zero, List.drop_succ_cons, List.drop_zero, List.setIfInBounds_toArray, List.set_cons_succ, List.set_cons_zero, e2, e6]
      have HRD := Lib.hid e4.2.1
      have HTD : Hid (Turn b none W wD) := HTW.out.trans_same e4.2.2
      clear g0 g1 g2 g3 g4 g5 e2 e4 e6
      go_wp2_with fail
      refine (put_plain wD b B v l (s) d HRD.out 2 ([c]) false (by simp only [List.length_cons, List.length_nil]; omega) (Nat.le_trans hB HTD.out.size)).mono ?_
      rintro r w9 ⟨rfl, hp⟩
      have HP : Hid (PutPost wD b B v (putP l (.mk 2 ([c]) [] false [])) (s) d (.returned (.tuple #[])) w9) := ⟨rfl, hp⟩
      clear hp
      go_wp2_with fail
      refine bodyPost_end (v := .tuple #[]) (results_none rfl _ _ _) rfl ?_
      exact ⟨1, _, HX.out, step_put HTD.out HP.out⟩
/-! ### Steps one behind the other -/
/-- What has been read so far: a reader that is as it was, but for the parts and the text. -/
structure Sofar (W wr : World) (b B : Nat) (v vi : Value) (l' : List Prt) (q : Nm) (d : Nat) : Prop where
  rd : Rd wr b B vi l' q d
  turn : Turn b v.ownBlock W wr
  own : ∀ g, vi.ownBlock = some g → g < W.heap.size → v.ownBlock = some g
theorem Sofar.of {W W' : World} {b B : Nat} {v : Value} {l : List Prt} {d : Nat} {y : Em} {r : Ending} (h : StepR W b B v l d (.ok y) r W') : ∃ v', Sofar W W' b B v v' (puts l y.1) y.2 d := by
  obtain ⟨h1, _, v', h2, h3⟩ := h
  exact ⟨v', h2, h1, h3⟩
theorem Sofar.turn2 {W wr w2 : World} {b B : Nat} {v vi : Value} {l' : List Prt} {q : Nm} {d : Nat} (h : Sofar W wr b B v vi l' q d) (ht : Turn b vi.ownBlock wr w2) : Turn b v.ownBlock W w2 :=
  h.turn.trans ht (fun g hg hlt => h.own g hg hlt)
theorem Sofar.step {W wr w2 : World} {b B : Nat} {v vi : Value} {l' : List Prt} {q : Nm} {d : Nat} {y : Em} {r : Ending} (h : Sofar W wr b B v vi l' q d) (hs : StepR wr b B vi l' d (.ok y) r w2) : ∃ v', Sofar W w2 b B v v' (puts l' y.1) y.2 d := by
  obtain ⟨h1, _, v', h2, h3⟩ := hs
  exact ⟨v', h2, h.turn2 h1, fun g hg hlt => h.own g (h3 g hg (Nat.lt_of_lt_of_le hlt h.turn.size)) hlt⟩
theorem Sofar.text {W wr : World} {b B : Nat} {v vi : Value} {l' : List Prt} {q : Nm} {d : Nat} (h : Sofar W wr b B v vi l' q d) (q' : Nm) : Sofar W (wr.setCell ⟨b, 1, none⟩ (.string (str q'))) b B v vi l' q' d :=
  ⟨(h.rd.text q').1, h.turn2 (h.rd.text q').2.weaken, h.own⟩
theorem Sofar.put {W wr w2 : World} {b B : Nat} {v vi : Value} {l' l2 : List Prt} {q : Nm} {d : Nat} {r : Ending} (h : Sofar W wr b B v vi l' q d) (hp : PutPost wr b B vi l2 q d r w2) : ∃ v', Sofar W w2 b B v v' l2 q d := by
  obtain ⟨_, v', h2, h1, h3⟩ := hp
  exact ⟨v', h2, h.turn2 h1, fun g hg hlt => h.own g (h3 g hg (Nat.lt_of_lt_of_le hlt h.turn.size)) hlt⟩
theorem Sofar.ops {W wr : World} {b B : Nat} {v vi : Value} {l l' : List Prt} {s q : Nm} {d : Nat} (h : Sofar W wr b B v vi l' q d) (h0 : Rd W b B v l s d) (hO : OpsT W) (hg : gOps < B) : OpsT wr :=
  hO.turn h.turn (Nat.lt_of_lt_of_le hg h0.bB) (fun g hg2 => Nat.lt_of_lt_of_le hg (h0.own g hg2).1)
theorem hm_inner (d : Nat) (som : Nm) : ∀ f g s, f ≤ g → Le (innerM (withinM f d) d som s) (innerM (withinM g d) d som s) := fun f g s h => le_inner (fun s => le_within d s h) d som s
theorem inner_less {f d : Nat} {som s q : Nm} {p : List Prt} (h : innerM (withinM f d) d som s = some (.ok (p, q))) : q.length < s.length ∧ wt p + 2 * q.length ≤ 2 * s.length := by
  have := inner_sat (within_sat f d) d som s
  rw [h] at this
  exact ⟨this.1, this.2.1⟩
def QuotedPost (W : World) (b B : Nat) (v : Value) (l : List Prt) (s : Nm) (d : Nat) (r : Ending) (W' : World) : Prop :=
  ∃ f x, quotedM (innerM (withinM f d) d escs) f s = some x ∧ StepR W b B v l d x r W'
def preQ (s : Nm) : List Prt := if has [34] s then [.mk 2 [] [] false []] else []
theorem wt_preQ (s : Nm) : wt (preQ s) ≤ 1 := by unfold preQ; split <;> simp [wt, Prt.t]
set_option maxHeartbeats 4000000 in
theorem quoted_calls {n : Nat} (ih : PartIH n) (W : World) (b B : Nat) (v : Value) (l : List Prt) (s : Nm) (d : Nat) (h : Rd W b B v l (34 :: s) d) (hn : s.length ≤ n) (hw : wt l + 2 * (34 :: s).length ≤ 100000) (hB : B ≤ W.heap.size) (hO : OpsT W) (hg : gOps < B) :
    Calls Tryd.prog 24 #[.pointer (some ⟨b, 0, none⟩)] W (QuotedPost W b B v l s d) := by
  have HIH : Hid (PartIH n) := ih
  have HO := Lib.hid hO
  have HH := Lib.hid h
  have hwl : wt l + 2 * s.length + 2 ≤ 100000 := by simp at hw; omega
  clear ih hO h hw
  go_enter Tryd.func24, Tryd.ntmps24
  go_wp2_with fail
  refine (take_yes _ b B v l (34 :: s) d HH.out 1 (by simp; omega) (by simp)).mono ?_
  rintro r w1 ⟨rfl, hw1⟩
  have HS1 : Hid (Sofar W w1 b B v v l s d) := by
    show Sofar _ _ _ _ _ _ _ _ _
    rw [hw1]
    exact ⟨(HH.out.text s).1, (HH.out.text s).2.weaken, fun _ h _ => h⟩
  clear hw1
  go_wp2_with fail
  refine (has_calls w1 b B v l s d HS1.out.rd [34]).mono ?_
  rintro r w2 ⟨rfl, hw2⟩
  obtain rfl := hw2.symm
  obtain ⟨hb, hhb⟩ : ∃ hb, has [34] s = hb := ⟨_, rfl⟩
  rw [hhb]
  have HHb := Lib.hid hhb
  clear hhb
  go_upto_if 5 with fail
  go_cut [] (fun wx => ∃ vi, Sofar W wx b B v vi (puts l (preQ s)) s d)
  case first =>
    cases hb with
    | false =>
      have HPr : Hid (preQ s = []) := by show _ = _; unfold preQ; rw [HHb.out]; rfl
      go_wp2_with fail
      go_meet
      exact ⟨v, by rw [HPr.out]; exact HS1.out⟩
    | true =>
      have HPr : Hid (preQ s = [.mk 2 [] [] false []]) := by show _ = _; unfold preQ; rw [HHb.out]; rfl
      go_wp2_with fail
      refine (put_plain w1 b B v l s d HS1.out.rd 2 [] false (by simp; omega) (Nat.le_trans hB HS1.out.turn.size)).mono ?_
      rintro r w9 ⟨rfl, hp⟩
      have HP : Hid (PutPost w1 b B v (putP l (.mk 2 [] [] false [])) s d (.returned (.tuple #[])) w9) := ⟨rfl, hp⟩
      clear hp
      go_wp2_with fail
      go_meet
      rw [HPr.out]
      exact HS1.out.put HP.out
  case rest =>
    obtain ⟨vi, hvi⟩ := hcut
    have HV := Lib.hid hvi
    clear hvi HS1 HHb
    go_wp2_with fail
    go_loopw [] (fun wr => ∃ (vi : Value) (ps : List Prt) (q : Nm), Sofar W wr b B v vi (puts l (preQ s ++ ps)) q d ∧ Upto (fun f => innerM (withinM f d) d escs) (has [34]) s ps q ∧ wt ps + 2 * q.length ≤ 2 * s.length) (fun wr => match wr.cell? ⟨b, 1, none⟩ with | some (.string t) => t.size | _ => 0)
    case atStart => exact ⟨vi, [], s, by rw [List.append_nil]; exact HV.out, upto_start _ _ _, by rw [wt_nil]; omega⟩
    case round =>
      obtain ⟨vj, ps, q, hs, hu, hq⟩ := hrel
      have HS := Lib.hid hs
      have HU := Lib.hid hu
      have hqn : q.length ≤ s.length := by omega
      clear hs hu
      go_wp2_with fail
      refine (has_calls wr b B vj _ q d HS.out.rd [34]).mono ?_
      rintro r w2 ⟨rfl, hw2⟩
      obtain rfl := hw2.symm
      by_cases hh : has [34] q = true
      · rw [hh]
        have HD := Lib.hid (upto_done HU.out hh)
        have hq1 : 1 ≤ q.length := by simpa using has_len hh
        clear hh
        go_wp2_with fail
        refine (take_yes _ b B vj _ q d HS.out.rd 1 (by omega) hq1).mono ?_
        rintro r w3 ⟨rfl, hw3⟩
        have HS3 : Hid (Sofar W w3 b B v vj (puts l (preQ s ++ ps)) (q.drop 1) d) := by show Sofar _ _ _ _ _ _ _ _ _; rw [hw3]; exact HS.out.text _
        clear hw3
        go_wp2_with fail
        refine bodyPost_end (v := .tuple #[]) (results_none rfl _ _ _) rfl ?_
        obtain ⟨G, hG⟩ := HD.out
        refine ⟨G, .ok (preQ s ++ ps, q.drop 1), ?_, HS3.out.turn, rfl, vj, HS3.out.rd, HS3.out.own⟩
        unfold quotedM
        rw [hG]
        rfl
      · have hh : has [34] q = false := by simpa using hh
        rw [hh]
        have HHq : Hid (has [34] q = false) := hh
        clear hh
        have HWt : Hid (wt (puts l (preQ s ++ ps)) + 2 * q.length ≤ 100000) := by have := wt_puts (preQ s ++ ps) l; rw [wt_append] at this; have := wt_preQ s; show _ ≤ _; omega
        go_wp2_with fail
        refine (inner_calls HIH.out wr b B vj _ q d escs HS.out.rd (by omega) HWt.out (Nat.le_trans hB HS.out.turn.size) (HO.out.turn HS.out.turn (Nat.lt_of_lt_of_le hg HH.out.bB) (fun g hg2 => Nat.lt_of_lt_of_le hg (HH.out.own g hg2).1)) hg).mono ?_
        rintro r w3 ⟨f, x, hx, hs⟩
        cases x with
        | error e =>
          obtain ⟨ht, rfl⟩ := hs
          obtain ⟨G, hG⟩ := upto_err (hm_inner d escs) HU.out HHq.out hx
          exact ⟨rfl, G, .error e, by unfold quotedM; rw [hG]; rfl, HS.out.turn2 ht, rfl⟩
        | ok y =>
          obtain ⟨v', hs3⟩ := HS.out.step hs
          obtain ⟨_, rfl, _⟩ := hs
          have hl := inner_less (p := y.1) (q := y.2) hx
          have HS3 : Hid (Sofar W w3 b B v v' (puts l (preQ s ++ (ps ++ y.1))) y.2 d) := by show Sofar _ _ _ _ _ _ _ _ _; rw [← List.append_assoc, puts_append]; exact hs3
          have HU3 := Lib.hid (upto_step (p := y.1) (q' := y.2) (hm_inner d escs) HU.out HHq.out hx)
          have hc3 := (rd_cells hs3.rd.box).1.2.1
          have hc2 := (rd_cells HS.out.rd.box).1.2.1
          clear hs3 hx
          go_wp2_with fail
          go_roundw
          case rel => exact ⟨v', ps ++ y.1, y.2, HS3.out, HU3.out, by rw [wt_append]; omega⟩
          case measure => rw [hc3, hc2]; exact hl.1
end Go.Proofs.YtfjkgeeaeolkhaaDoor
