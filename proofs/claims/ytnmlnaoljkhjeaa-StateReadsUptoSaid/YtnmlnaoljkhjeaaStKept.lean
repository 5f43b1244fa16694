/-
  State: the law's 'kept'. Conditions: as each contract says.
-/
import Derived.Test.YtnmlnaoljkhjeaaStRef5
set_option linter.unusedVariables false
set_option maxRecDepth 100000
namespace Go.Proofs.Ytnmlnaoljkhjeaa
open Go.RowKit Base

theorem each_flat {α : Type} {k : Nat} {V : α → List Value} (hV : ∀ a, (V a).length = k) (W : World) (zs : List α) : EachH k (flatH V) W (zs.flatMap V) zs := by
  refine ⟨?_, fun j hj => ?_⟩
  · induction zs with
    | nil => simp
    | cons x r ih => rw [List.flatMap_cons, List.length_append, hV, ih, List.length_cons, Nat.add_mul]; omega
  · show ((zs.flatMap V).drop (j * k)).take k = V zs[j]
    rw [Sl.flat_drop hV]
    have h1 := Sl.flat_take hV (zs.drop j) 1
    rw [Nat.one_mul] at h1
    have e : (zs.drop j).take 1 = [zs[j]] := by rw [List.drop_eq_getElem_cons hj]; rfl
    rw [h1, e]
    exact List.append_nil _
theorem own_rowA {α : Type} {k base : Nat} {T : TypeId} {V : α → List Value} (hV : ∀ a, (V a).length = k) {W : World} {u : Value} {zs : List α} (h : W.ownsRow base T k u zs.length (zs.flatMap V)) : RowA k (flatH V) W [u] zs :=
  row_HA flat_HA ⟨u, _, rfl, own_base h (Nat.zero_le _), each_flat hV W zs⟩
theorem results_cell1 {fn : Func} {t : Tmp} {ty : TypeId} (h : fn.results = #[.cell t ty]) (tmps : Array Value) (P : Program) (w : World) (b : Nat) (v : Value) (ht : tmps.getD t undef = .pointer (some ⟨b, 0, none⟩))
    (hl : (loadVar ty ⟨b, 0, none⟩).run P w = .ok v w) : (results fn tmps).run P w = .ok v w := by
  have ht' : tmps[t]?.getD undef = .pointer (some ⟨b, 0, none⟩) := by simpa using ht
  simp [results, h, ht', asAddr, hl]
theorem loadv_cut {w : World} {b : Nat} {ty : TypeId} {us : List Value} (hc : Cut b us ty w) (hu : (Try.prog.underlying ty).map TypeDesc.isRow = some true) (hi : (Try.prog.info? ty).map (fun i => i.size) = some us.length) : (loadVar ty ⟨b, 0, none⟩).run Try.prog w = .ok (.agg us.toArray) w := by
  obtain ⟨d, h1, h2⟩ := Option.map_eq_some_iff.1 hu
  exact run_loadVar_mid w b 0 ty us d (cut_range hc) h1 h2 hi
abbrev kpT : TypeId := 31
abbrev kZ : List Value := [.slice none 0 0, .slice none 0 0, .int .i64 0, .string ⟨#[]⟩, .slice none 0 0, .slice none 0 0, .slice none 0 0]
/-! ### What holds whatever is appended to a row -/
structure But (Z : Nat → Prop) (W W' : World) : Prop where
  os : W'.os = W.os
  tape : W'.tape = W.tape
  output : W'.output = W.output
  size : W.heap.size ≤ W'.heap.size
  block : ∀ k, k < W.heap.size → ¬ Z k → W'.heap[k]? = W.heap[k]?
theorem But.refl (Z : Nat → Prop) (W : World) : But Z W W := ⟨rfl, rfl, rfl, Nat.le_refl _, fun _ _ _ => rfl⟩
theorem But.of_grown {Z : Nat → Prop} {W W' : World} {q : Option Nat} (h : W.grownBy W' q) (hq : ∀ j, q = some j → Z j) : But Z W W' := ⟨h.os, h.tape, h.output, h.size, fun k hk hz => h.block k hk (fun e => hz (hq k e.symm))⟩
def Safe {α : Type} (Z : Nat → Prop) (A : World → List Value → α → Prop) (W : World) (vs : List Value) (a : α) : Prop := ∀ W', But Z W W' → A W' vs a
theorem Safe.out {α : Type} {Z : Nat → Prop} {A : World → List Value → α → Prop} {W : World} {vs : List Value} {a : α} (h : Safe Z A W vs a) : A W vs a := h W (But.refl Z W)
theorem Safe.mono {α : Type} {Z Z' : Nat → Prop} {A : World → List Value → α → Prop} {W : World} {vs : List Value} {a : α} (h : Safe Z A W vs a) (hz : ∀ j, Z' j → Z j) : Safe Z' A W vs a := fun W2 hg => h W2 ⟨hg.os, hg.tape, hg.output, hg.size, fun k hk e => hg.block k hk (fun e2 => e (hz k e2))⟩
theorem Safe.below {α : Type} {Z : Nat → Prop} {A : World → List Value → α → Prop} {W W' : World} {vs : List Value} {a : α} (h : Safe Z A W vs a) (hb : Below W.heap.size W W') : Safe Z A W' vs a := fun W2 hg =>
  h W2 ⟨hg.os.trans hb.os, hg.tape.trans hb.tape, hg.output.trans hb.output, Nat.le_trans hb.size hg.size, fun k hk e => (hg.block k (Nat.lt_of_lt_of_le hk hb.size) e).trans (hb.block k hk)⟩
theorem Safe.grow {α : Type} {Z Z' : Nat → Prop} {q : Option Nat} {A : World → List Value → α → Prop} {W W' : World} {vs : List Value} {a : α} (h : Safe Z A W vs a) (hg : W.grownBy W' q) (hq : ∀ j, q = some j → Z j) (hz : ∀ j, Z' j → j < W.heap.size → Z j) : Safe Z' A W' vs a := fun W2 hg2 =>
  h W2 ⟨hg2.os.trans hg.os, hg2.tape.trans hg.tape, hg2.output.trans hg.output, Nat.le_trans hg.size hg2.size, fun k hk e => (hg2.block k (Nat.lt_of_lt_of_le hk hg.size) (fun e2 => e (hz k e2 hk))).trans (hg.block k hk (fun e2 => e (hq k e2.symm)))⟩
theorem own_but {Z : Nat → Prop} {w w' : World} {base : Nat} {e : TypeId} {k : Nat} {v : Value} {n : Nat} {xs : List Value} (h : w.ownsRow base e k v n xs) (hg : But Z w w') (hq : ∀ j, v.ownBlock = some j → ¬ Z j) : w'.ownsRow base e k v n xs := by
  refine ⟨h.1, ?_⟩
  rcases h.2 with h2 | ⟨g, cap, cur, rfl, h2, h3, h4⟩
  · exact .inl h2
  · exact .inr ⟨g, cap, cur, rfl, h2, (hg.block g (Array.getElem?_eq_some_iff.1 h3).1 (hq g rfl)).trans h3, h4⟩
theorem below_but {Z : Nat → Prop} {B : Nat} {a w w' : World} (h : Below B a w) (hg : But Z w w') (hB : B ≤ w.heap.size) (hz : ∀ j, Z j → B ≤ j) : Below B a w' :=
  h.trans ⟨hg.os, hg.tape, hg.output, hg.size, fun k hk => hg.block k (by omega) (fun e => by have := hz k e; omega)⟩
set_option maxHeartbeats 4000000 in
theorem kept_calls (W0 W : World) (Z : Nat → Prop) (vs : List Value) (kd : KeepD) (h : keepA W0 vs kd) (hb0 : Below W0.heap.size W0 W) (hq : ∀ j, Z j → W0.heap.size ≤ j ∧ j < W.heap.size) (hl : (keepC.enc kd).length ≤ 100000000) :
    Calls Try.prog 27 #[.agg vs.toArray] W fun r w' => ∃ us : List Value, r = .returned (.agg us.toArray) ∧ us.length = 7 ∧ Safe Z keepA w' us kd ∧ Below W.heap.size W w' := by
  obtain ⟨us, p4, p5, p6, k4, k5, k6, hvs, hul, hA, f4, f5, f6⟩ := keepA_inv h
  obtain ⟨p0, p1, k0, k1, rfl, f0, f1⟩ := envA_inv hA
  have e0 := f0.below (by decide) hb0
  have e1 := f1.below (by decide) hb0
  have e4 := f4.below (by decide) hb0
  have e5 := f5.below (by decide) hb0
  have e6 := f6.below (by decide) hb0
  have HRs := Lib.hid f1
  have HB00 := Lib.hid hb0
  have HQq := Lib.hid hq
  have hkn := Nat.le_trans (keep_ge kd) hl
  unfold keepN at hkn
  have HN0 : Hid (kd.1.1.length ≤ 100000000) := by show _ ≤ _; omega
  have HN4 : Hid (kd.2.1.length ≤ 100000000) := by show _ ≤ _; omega
  have HN5 : Hid (kd.2.2.1.length ≤ 100000000) := by show _ ≤ _; omega
  have HN6 : Hid (kd.2.2.2.length ≤ 100000000) := by show _ ≤ _; omega
  obtain ⟨w1, hw1, hc, hc2, hb1⟩ : ∃ w1, (W.alloc (.cells vs.toArray kpT)).alloc (.cells #[.slice none 0 0, .slice none 0 0, .int .i64 0, .string ⟨#[]⟩, .slice none 0 0, .slice none 0 0, .slice none 0 0] rKT) = w1 ∧ Cut W.heap.size vs kpT w1 ∧ Cut (W.heap.size + 1) kZ rKT w1 ∧ Below W.heap.size W w1 := by
    refine ⟨_, rfl, ?_, ?_, ?_⟩
    · exact (Below.heap_alloc _ _ _ (by rw [World.size_alloc]; omega)).trans (heap_alloc_new W _)
    · have := heap_alloc_new (W.alloc (.cells vs.toArray kpT)) (.cells #[.slice none 0 0, .slice none 0 0, .int .i64 0, .string ⟨#[]⟩, .slice none 0 0, .slice none 0 0, .slice none 0 0] rKT)
      rw [World.size_alloc] at this
      exact this
    · have h1 := (Below.refl W.heap.size W).alloc (Nat.le_refl _) (.cells vs.toArray kpT)
      exact h1.alloc h1.size _
  have HV : Hid (vs = [.slice p0 kd.1.1.length k0, .slice p1 kd.1.2.1.length k1, .int .i64 kd.1.2.2.1, .string (str kd.1.2.2.2), .slice p4 kd.2.1.length k4, .slice p5 kd.2.2.1.length k5, .slice p6 kd.2.2.2.length k6]) := hvs
  rw [hvs] at hc
  have HW := Lib.hid hw1
  have HC := Lib.hid hc
  have HC2 := Lib.hid hc2
  have HB1 := Lib.hid hb1
  have HE0 := Lib.hid (e0.below (by decide) hb1)
  have HE1 := Lib.hid (e1.below (by decide) hb1)
  have HE4 := Lib.hid (e4.below (by decide) hb1)
  have HE5 := Lib.hid (e5.below (by decide) hb1)
  have HE6 := Lib.hid (e6.below (by decide) hb1)
  clear h hl hw1 hc hc2 hb1 e0 e1 e4 e5 e6 f0 f1 f4 f5 f6 hb0 hq hA hkn hvs hul
  go_enter Try.func27, Try.ntmps27
  go_upto_region 1 with fail
  rw [HW.out]
  obtain ⟨eb, heb⟩ : ∃ eb, W.heap.size = eb := ⟨_, rfl⟩
  rw [heb] at HC HC2 ⊢
  have HEb := Lib.hid heb
  clear heb
  go_wp2_with fail
  go_loopw [3, 4] (fun va vi wr => ∃ (k : Nat) (u : Value), k ≤ (kd.1.1).length ∧ vi = .int .i64 k ∧ va = u ∧ wr.ownsRow w1.heap.size 133 2 u k (((kd.1.1).take k).flatMap varV) ∧ Below w1.heap.size w1 wr) (fun _ vi _ => (kd.1.1).length - (intOf vi).toNat)
  case atStart => exact ⟨0, _, Nat.zero_le _, rfl, rfl, World.ownsRow_nil _ _ _ _, Below.refl _ _⟩
  case round =>
    obtain ⟨k, u, hk, rfl, hu, hown, hb⟩ := hrel
    rw [hu]
    clear hu
    have HB := Lib.hid hb
    have HO := Lib.hid hown
    clear hb hown
    have hcs : wr.cell? ⟨eb, 0, none⟩ = some (.slice p0 (kd.1.1).length k0) := (HB.out.cell (p := ⟨eb, 0, none⟩) (HC.out).lt).trans (((HC.out).cell 0).trans rfl)
    by_cases hlt : k < (kd.1.1).length
    · obtain ⟨bq, o, hpe, hbl, hcu⟩ := (HE0.out).at (by decide) hlt
      subst hpe
      have HKs := Lib.hid hcs
      have HX := Lib.hid (fun W => row_idx Try.underlying22 2 (by kernel_rfl) bq o (kd.1.1).length k0 k hlt W)
      have HF0 : Hid (wr.cell? ⟨bq, o + k * 2, none⟩ = some (.string (str ((kd.1.1)[k].1)))) := (HB.out.cell (p := ⟨bq, o + k * 2, none⟩) hbl).trans (hcu 0 (show 0 < 2 by decide))
      have HF1 : Hid (wr.cell? ⟨bq, o + k * 2 + 1, none⟩ = some (.string (str ((kd.1.1)[k].2)))) := (HB.out.cell (p := ⟨bq, o + k * 2 + 1, none⟩) hbl).trans (hcu 1 (show 1 < 2 by decide))
      have HT : Hid (((kd.1.1).take (k + 1)).flatMap varV = ((kd.1.1).take k).flatMap varV ++ varV (kd.1.1)[k]) := by show _ = _; rw [List.take_succ_eq_append_getElem hlt, List.flatMap_append]; simp
      clear hcu hcs
      generalize (kd.1.1)[k] = s at *
      obtain ⟨xs, hxs⟩ : ∃ x, ((kd.1.1).take k).flatMap varV = x := ⟨_, rfl⟩
      have HXs := Lib.hid hxs
      rw [hxs] at HO
      clear hxs
      have hk9 : k ≤ 100000000 := by have := HN0.out; omega
      have u1 : decide ((k : Int) < ((kd.1.1).length : Int)) = true := decide_eq_true (by omega)
      have u2 : (k : Int) < ((kd.1.1).length : Int) := by omega
      have u3 : decide (k < (kd.1.1).length) = true := decide_eq_true hlt
      have hcs := HKs.out
      go_upto_region 5 with fail
      clear u1 u2 u3 hcs
      have HLB : Hid (w1.heap.size ≤ wr.heap.size) := HB.out.size
      obtain ⟨i0, hi0, hz0', hz1, hz2⟩ : ∃ i, Try.prog.info? 133 = some i ∧ i.zero = some (.agg #[.string ⟨#[]⟩, .string ⟨#[]⟩]) ∧ i.size = 2 ∧ i.bytes = 32 := info_parts (by kernel_rfl)
      refine Rt.wp_region_rkt 18 [] [Rg.Is (u), Rg.Is (.pointer (some ⟨eb, 0, none⟩)), Rg.Is (.pointer (some ⟨eb, 0, none⟩)), Rg.Is (.slice (some ⟨bq, o, none⟩) (kd.1.1).length k0), Rg.Is (.int .i64 (k : Int)), Rg.Is (.pointer (some ⟨bq, o + k * 2, none⟩)), Rg.Is (.pointer (some ⟨bq, o + k * 2, none⟩)), Rg.Is (.string (str (s.1))), Rg.Is (.pointer (some ⟨eb, 0, none⟩)), Rg.Is (.pointer (some ⟨eb, 0, none⟩)), Rg.Is (.slice (some ⟨bq, o, none⟩) (kd.1.1).length k0), Rg.Is (.int .i64 (k : Int)), Rg.Is (.pointer (some ⟨bq, o + k * 2, none⟩)), Rg.Is (.pointer (some ⟨bq, o + k * 2 + 1, none⟩)), Rg.Is (.string (str (s.2))), Rg.Is (.agg #[.string (str (s.1)), .string (str (s.2))]), (fun u' x => ∃ b1, u' = .slice (some ⟨b1, 0, none⟩) 1 1 ∧ wr.heap.size ≤ b1 ∧ x.heap[b1]? = some (.cells #[.string (str (s.1)), .string (str (s.2))] 133)), (fun u' x => Apd wr u w1.heap.size 133 2 k xs [.string (str (s.1)), .string (str (s.2))] u' x)] (fun _ _ => True) (fun ls x => ls 17 = false → Below wr.heap.size wr x) (fun k x y => if k = 17 then x.grownBy y (Value.ownBlock (u)) else Below x.heap.size x y) (by kernel_rfl) (by kernel_rfl) (of_decide_eq_true (by kernel_rfl)) (by kernel_rfl) (by kernel_rfl) trivial (fun _ => ⟨rfl, rfl, rfl, Nat.le_refl _, fun _ _ => rfl⟩) (fun ls ls' x e h1 h2 => h1 (by rw [e]; exact h2)) (fun _ _ _ _ _ => trivial) (fun i ls x _ h1 => by rw [show ([] : List Bool).getD i true = true from rfl] at h1; cases h1) ?_ ⟨rfl, rfl, rfl, rfl, rfl, rfl, rfl, rfl, rfl, rfl, rfl, rfl, rfl, rfl, rfl, rfl, rfl, rfl, trivial⟩ ⟨?_, ?_, ?_, ?_, ?_, ?_, ?_, ?_, ?_, ?_, ?_, ?_, ?_, ?_, ?_, ?_, ?_, ?_, trivial⟩ ?_
      · intro i k u x y hik _ h1 hK
        match i, h1, hik with
        | 0, h1, _ => exact h1
        | 1, h1, _ => exact h1
        | 2, h1, _ => exact h1
        | 3, h1, _ => exact h1
        | 4, h1, _ => exact h1
        | 5, h1, _ => exact h1
        | 6, h1, _ => exact h1
        | 7, h1, _ => exact h1
        | 8, h1, _ => exact h1
        | 9, h1, _ => exact h1
        | 10, h1, _ => exact h1
        | 11, h1, _ => exact h1
        | 12, h1, _ => exact h1
        | 13, h1, _ => exact h1
        | 14, h1, _ => exact h1
        | 15, h1, _ => exact h1
        | 16, h1, hik =>
          obtain ⟨b1, h2, h3, h4⟩ := h1
          refine ⟨b1, h2, h3, ?_⟩
          have hg1 := (Array.getElem?_eq_some_iff.1 h4).1
          by_cases hk6 : k = 17
          · subst hk6
            rw [if_pos rfl] at hK
            exact (hK.block b1 hg1 (fun e => by have := (HO.out.lt _ e.symm).2; omega)).trans h4
          · rw [if_neg hk6] at hK
            exact (hK.block b1 hg1).trans h4
        | 17, h1, hik =>
          rw [if_neg (fun e => hik e.symm)] at hK
          exact h1.below hK
        | _ + 18, _, _ => trivial
      · intro _ b x ls hR hS hself hup hdn hk
        have h3 : b.eval (.tmp 3) = u := Eq.mp (by kernel_rfl) (hk 3 (by decide))
        have lA : ls 17 = false := hdn [] 17 _ rfl (by kernel_rfl)
        have hb := hS lA
        exact Rg.does_move ⟨by rw [if_neg (by decide)]; exact Below.refl _ _, h3, fun hh => hS hh⟩
      · intro _ b x ls hR hS hself hup hdn hk
        have h1 : b.eval (.tmp 1) = .pointer (some ⟨eb, 0, none⟩) := Eq.mp (by kernel_rfl) (hk 1 (by decide))
        have lA : ls 17 = false := hdn [16, 15, 7, 6, 5, 3, 2] 17 _ rfl (by kernel_rfl)
        have hb := hS lA
        exact Rs.does_field _ _ h1 (show (Instr.fieldAt 31 (.pointer (some ⟨eb, 0, none⟩)) 0).run Try.prog x = .ok (.pointer (some ⟨eb, 0, none⟩)) x from rfl) ⟨by rw [if_neg (by decide)]; exact Below.refl _ _, rfl, fun hh => hS hh⟩
      · intro _ b x ls hR hS hself hup hdn hk
        have h21 : b.eval (.tmp 21) = .pointer (some ⟨eb, 0, none⟩) := Eq.mp (by kernel_rfl) (hk 21 (by decide))
        have lA : ls 17 = false := hdn [16, 15, 7, 6, 5, 3] 17 _ rfl (by kernel_rfl)
        have hb := hS lA
        exact Rs.does_field _ _ h21 (show (Instr.fieldAt 25 (.pointer (some ⟨eb, 0, none⟩)) 0).run Try.prog x = .ok (.pointer (some ⟨eb, 0, none⟩)) x from rfl) ⟨by rw [if_neg (by decide)]; exact Below.refl _ _, rfl, fun hh => hS hh⟩
      · intro _ b x ls hR hS hself hup hdn hk
        have h22 : b.eval (.tmp 22) = .pointer (some ⟨eb, 0, none⟩) := Eq.mp (by kernel_rfl) (hk 22 (by decide))
        have lA : ls 17 = false := hdn [16, 15, 7, 6, 5] 17 _ rfl (by kernel_rfl)
        have hb := hS lA
        exact Rg.does_load _ _ h22 (Ap.load_plainP (by simp [isAgg]) (cell_below hb (Nat.le_refl _) HKs.out)) ⟨by rw [if_neg (by decide)]; exact Below.refl _ _, rfl, fun hh => hS hh⟩
      · intro _ b x ls hR hS hself hup hdn hk
        have h4 : b.eval (.tmp 4) = .int .i64 (k : Int) := Eq.mp (by kernel_rfl) (hk 4 (by decide))
        have lA : ls 17 = false := hdn [16, 15, 7, 6, 5] 17 _ rfl (by kernel_rfl)
        have hb := hS lA
        exact Rg.does_move ⟨by rw [if_neg (by decide)]; exact Below.refl _ _, h4, fun hh => hS hh⟩
      · intro _ b x ls hR hS hself hup hdn hk
        have h23 : b.eval (.tmp 23) = .slice (some ⟨bq, o, none⟩) (kd.1.1).length k0 := Eq.mp (by kernel_rfl) (hk 23 (by decide))
        have h24 : b.eval (.tmp 24) = .int .i64 (k : Int) := Eq.mp (by kernel_rfl) (hk 24 (by decide))
        have lA : ls 17 = false := hdn [16, 15, 7, 6] 17 _ rfl (by kernel_rfl)
        have hb := hS lA
        exact Rg.does_index _ _ _ h23 h24 (HX.out x) ⟨by rw [if_neg (by decide)]; exact Below.refl _ _, rfl, fun hh => hS hh⟩
      · intro _ b x ls hR hS hself hup hdn hk
        have h25 : b.eval (.tmp 25) = .pointer (some ⟨bq, o + k * 2, none⟩) := Eq.mp (by kernel_rfl) (hk 25 (by decide))
        have lA : ls 17 = false := hdn [16, 15, 7] 17 _ rfl (by kernel_rfl)
        have hb := hS lA
        exact Rs.does_field _ _ h25 (show (Instr.fieldAt 132 (.pointer (some ⟨bq, o + k * 2, none⟩)) 0).run Try.prog x = .ok (.pointer (some ⟨bq, o + k * 2, none⟩)) x from rfl) ⟨by rw [if_neg (by decide)]; exact Below.refl _ _, rfl, fun hh => hS hh⟩
      · intro _ b x ls hR hS hself hup hdn hk
        have h26 : b.eval (.tmp 26) = .pointer (some ⟨bq, o + k * 2, none⟩) := Eq.mp (by kernel_rfl) (hk 26 (by decide))
        have lA : ls 17 = false := hdn [16, 15] 17 _ rfl (by kernel_rfl)
        have hb := hS lA
        exact Rg.does_load _ _ h26 (Ap.load_plainP (by simp [isAgg]) (cell_below hb (Nat.le_refl _) HF0.out)) ⟨by rw [if_neg (by decide)]; exact Below.refl _ _, rfl, fun hh => hS hh⟩
      · intro _ b x ls hR hS hself hup hdn hk
        have h1 : b.eval (.tmp 1) = .pointer (some ⟨eb, 0, none⟩) := Eq.mp (by kernel_rfl) (hk 1 (by decide))
        have lA : ls 17 = false := hdn [16, 15, 14, 13, 12, 10, 9] 17 _ rfl (by kernel_rfl)
        have hb := hS lA
        exact Rs.does_field _ _ h1 (show (Instr.fieldAt 31 (.pointer (some ⟨eb, 0, none⟩)) 0).run Try.prog x = .ok (.pointer (some ⟨eb, 0, none⟩)) x from rfl) ⟨by rw [if_neg (by decide)]; exact Below.refl _ _, rfl, fun hh => hS hh⟩
      · intro _ b x ls hR hS hself hup hdn hk
        have h28 : b.eval (.tmp 28) = .pointer (some ⟨eb, 0, none⟩) := Eq.mp (by kernel_rfl) (hk 28 (by decide))
        have lA : ls 17 = false := hdn [16, 15, 14, 13, 12, 10] 17 _ rfl (by kernel_rfl)
        have hb := hS lA
        exact Rs.does_field _ _ h28 (show (Instr.fieldAt 25 (.pointer (some ⟨eb, 0, none⟩)) 0).run Try.prog x = .ok (.pointer (some ⟨eb, 0, none⟩)) x from rfl) ⟨by rw [if_neg (by decide)]; exact Below.refl _ _, rfl, fun hh => hS hh⟩
      · intro _ b x ls hR hS hself hup hdn hk
        have h29 : b.eval (.tmp 29) = .pointer (some ⟨eb, 0, none⟩) := Eq.mp (by kernel_rfl) (hk 29 (by decide))
        have lA : ls 17 = false := hdn [16, 15, 14, 13, 12] 17 _ rfl (by kernel_rfl)
        have hb := hS lA
        exact Rg.does_load _ _ h29 (Ap.load_plainP (by simp [isAgg]) (cell_below hb (Nat.le_refl _) HKs.out)) ⟨by rw [if_neg (by decide)]; exact Below.refl _ _, rfl, fun hh => hS hh⟩
      · intro _ b x ls hR hS hself hup hdn hk
        have h4 : b.eval (.tmp 4) = .int .i64 (k : Int) := Eq.mp (by kernel_rfl) (hk 4 (by decide))
        have lA : ls 17 = false := hdn [16, 15, 14, 13, 12] 17 _ rfl (by kernel_rfl)
        have hb := hS lA
        exact Rg.does_move ⟨by rw [if_neg (by decide)]; exact Below.refl _ _, h4, fun hh => hS hh⟩
      · intro _ b x ls hR hS hself hup hdn hk
        have h30 : b.eval (.tmp 30) = .slice (some ⟨bq, o, none⟩) (kd.1.1).length k0 := Eq.mp (by kernel_rfl) (hk 30 (by decide))
        have h31 : b.eval (.tmp 31) = .int .i64 (k : Int) := Eq.mp (by kernel_rfl) (hk 31 (by decide))
        have lA : ls 17 = false := hdn [16, 15, 14, 13] 17 _ rfl (by kernel_rfl)
        have hb := hS lA
        exact Rg.does_index _ _ _ h30 h31 (HX.out x) ⟨by rw [if_neg (by decide)]; exact Below.refl _ _, rfl, fun hh => hS hh⟩
      · intro _ b x ls hR hS hself hup hdn hk
        have h32 : b.eval (.tmp 32) = .pointer (some ⟨bq, o + k * 2, none⟩) := Eq.mp (by kernel_rfl) (hk 32 (by decide))
        have lA : ls 17 = false := hdn [16, 15, 14] 17 _ rfl (by kernel_rfl)
        have hb := hS lA
        exact Rs.does_field _ _ h32 (show (Instr.fieldAt 132 (.pointer (some ⟨bq, o + k * 2, none⟩)) 1).run Try.prog x = .ok (.pointer (some ⟨bq, o + k * 2 + 1, none⟩)) x from rfl) ⟨by rw [if_neg (by decide)]; exact Below.refl _ _, rfl, fun hh => hS hh⟩
      · intro _ b x ls hR hS hself hup hdn hk
        have h33 : b.eval (.tmp 33) = .pointer (some ⟨bq, o + k * 2 + 1, none⟩) := Eq.mp (by kernel_rfl) (hk 33 (by decide))
        have lA : ls 17 = false := hdn [16, 15] 17 _ rfl (by kernel_rfl)
        have hb := hS lA
        exact Rg.does_load _ _ h33 (Ap.load_plainP (by simp [isAgg]) (cell_below hb (Nat.le_refl _) HF1.out)) ⟨by rw [if_neg (by decide)]; exact Below.refl _ _, rfl, fun hh => hS hh⟩
      · intro _ b x ls hR hS hself hup hdn hk
        have h27 : b.eval (.tmp 27) = .string (str (s.1)) := Eq.mp (by kernel_rfl) (hk 27 (by decide))
        have h34 : b.eval (.tmp 34) = .string (str (s.2)) := Eq.mp (by kernel_rfl) (hk 34 (by decide))
        have lA : ls 17 = false := hdn [16] 17 _ rfl (by kernel_rfl)
        have hb := hS lA
        exact Ap.does_buildS #[(0, .string (str (s.1))), (1, .string (str (s.2)))] (.agg #[.string (str (s.1)), .string (str (s.2))]) (by simp [h27, h34]) (by go_simp) ⟨by rw [if_neg (by decide)]; exact Below.refl _ _, rfl, fun hh => hS hh⟩
      · intro _ b x ls hR hS hself hup hdn hk
        have h35 : b.eval (.tmp 35) = .agg #[.string (str (s.1)), .string (str (s.2))] := Eq.mp (by kernel_rfl) (hk 35 (by decide))
        have lA : ls 17 = false := hdn [] 17 _ rfl (by kernel_rfl)
        have hb := hS lA
        have hal := (Below.refl x.heap.size x).alloc (Nat.le_refl _) (.cells #[.string (str (s.1)), .string (str (s.2))] 133)
        exact Rg.does_build #[(0, .agg #[.string (str (s.1)), .string (str (s.2))])] _ (by simp [h35]) (by go_simp) ⟨by rw [if_neg (by decide)]; exact hal, ⟨x.heap.size, rfl, hb.size, heap_alloc_new x _⟩, fun hh => hb.trans (hal.mono hb.size)⟩
      · intro _ b x ls hR hS hself hup hdn hk
        have h20 : b.eval (.tmp 20) = u := Eq.mp (by kernel_rfl) (hk 20 (by decide))
        have h36 : (fun u' x => ∃ b1, u' = .slice (some ⟨b1, 0, none⟩) 1 1 ∧ wr.heap.size ≤ b1 ∧ x.heap[b1]? = some (.cells #[.string (str (s.1)), .string (str (s.2))] 133)) (b.eval (.tmp 36)) x := Eq.mp (by kernel_rfl) (hk 36 (by decide))
        have hb := hS hself
        obtain ⟨b1, h2, h3, h4⟩ := h36
        have hown : World.ownsRow x w1.heap.size 133 2 u k xs := ownsRow_below HO.out hb
        obtain ⟨v', w', hrun, hown', hgr, hat⟩ := Ap.run_append_at (P := Try.prog) x w1.heap.size 48 48 48 133 i0 _ 2 32 Try.underlying48 (append_side Try.underlying48) hi0 hz0' hz1 hz2 rfl (by decide) (by decide) u k xs hown (.slice (some ⟨b1, 0, none⟩) 1 1) 1 [.string (str (s.1)), .string (str (s.2))] (src_cells (b := b1) (off := 0) rfl (by simp [Value.oneCell']) (.inr rfl) (fun j u1 hu1 => by simp only [World.cell?, h4, Nat.zero_add]; simpa using hu1)) (by unfold maxLen; omega) (by omega) (Nat.le_trans HLB.out hb.size)
        exact Ap.does_append u _ v' w' h20 h2 hrun ⟨by rw [if_pos rfl]; exact hgr, ⟨hown', x, hb, hgr, hat⟩, fun hh => by simp [Rs.upd] at hh⟩
      · intro vals wD ls _ hSD _ hL
        obtain ⟨g0, g1, g2, g3, g4, g5, g6, g7, g8, g9, g10, g11, g12, g13, g14, g15, g16, g17, _⟩ := hL
        have hap : Apd wr u w1.heap.size 133 2 k xs [.string (str (s.1)), .string (str (s.2))] (vals 17) wD := g17
        simp only [Rg.putAll, List.take_succ_cons, List.take_zero, List.drop_succ_cons, List.drop_zero, List.setIfInBounds_toArray, List.set_cons_succ, List.set_cons_zero]
        clear g0 g1 g2 g3 g4 g5 g6 g7 g8 g9 g10 g11 g12 g13 g14 g15 g16 g17
        generalize vals 17 = u2 at *
        obtain ⟨ho2, wa, hba, hga, hat⟩ := hap
        have HB2 : Hid (Below w1.heap.size w1 wD) := (HB.out.trans (hba.mono HB.out.size)).grown hga (Nat.le_trans HB.out.size hba.size) (fun j hj => (HO.out.lt j hj).1)
        have HO2 : Hid (wD.ownsRow w1.heap.size 133 2 u2 (k + 1) (((kd.1.1).take (k + 1)).flatMap varV)) := by show World.ownsRow _ _ _ _ _ _ _; rw [HT.out, HXs.out]; exact ho2
        clear ho2 hba hga hat
        go_wp2_with fail
        go_roundw
        case rel => exact ⟨k + 1, _, by omega, by go_num, rfl, HO2.out, HB2.out⟩
        case measure => simp [intOf]; omega
    · obtain rfl : k = (kd.1.1).length := by omega
      have u1 : decide (((kd.1.1).length : Int) < ((kd.1.1).length : Int)) = false := decide_eq_false (by omega)
      have u2 : ¬ (((kd.1.1).length : Int) < ((kd.1.1).length : Int)) := by omega
      have u3 : decide ((kd.1.1).length < (kd.1.1).length) = false := decide_eq_false (by omega)
      have HO3 : Hid (wr.ownsRow w1.heap.size 133 2 u kd.1.1.length (kd.1.1.flatMap varV)) := by have h9 := HO.out; rwa [List.take_length] at h9
      generalize u = r3 at *
      have HLb3 : Hid (eb + 1 < w1.heap.size) := HC2.out.lt
      have HBt3 : Hid (Below W.heap.size W wr) := HB1.out.trans (HB.out.mono HB1.out.size)
      have HCw3 : Hid (Cut eb [.slice p0 kd.1.1.length k0, .slice p1 kd.1.2.1.length k1, .int .i64 kd.1.2.2.1, .string (str kd.1.2.2.2), .slice p4 kd.2.1.length k4, .slice p5 kd.2.2.1.length k5, .slice p6 kd.2.2.2.length k6] kpT wr) := cut_below HC.out HB.out
      have HCz3 : Hid (Cut (eb + 1) kZ rKT wr) := cut_below HC2.out HB.out
      have HE1 := Lib.hid (HE1.out.below (by decide) HB.out)
      have HE4 := Lib.hid (HE4.out.below (by decide) HB.out)
      have HE5 := Lib.hid (HE5.out.below (by decide) HB.out)
      have HE6 := Lib.hid (HE6.out.below (by decide) HB.out)
      generalize wr = wA at *
      clear HB HO hk
      go_wp2_with fail
      clear u1 u2 u3 hcs
      go_loopw [5, 6] (fun va vi wr => ∃ (k : Nat) (u : Value), k ≤ (kd.2.1).length ∧ vi = .int .i64 k ∧ va = u ∧ wr.ownsRow wA.heap.size 123 3 u k (((kd.2.1).take k).flatMap fnV) ∧ Below wA.heap.size wA wr) (fun _ vi _ => (kd.2.1).length - (intOf vi).toNat)
      case atStart => exact ⟨0, _, Nat.zero_le _, rfl, rfl, World.ownsRow_nil _ _ _ _, Below.refl _ _⟩
      case round =>
        obtain ⟨k, u, hk, rfl, hu, hown, hb⟩ := hrel
        rw [hu]
        clear hu
        have HB := Lib.hid hb
        have HO := Lib.hid hown
        clear hb hown
        have hcs : wr.cell? ⟨eb, 4, none⟩ = some (.slice p4 (kd.2.1).length k4) := (HB.out.cell (p := ⟨eb, 4, none⟩) (HCw3.out).lt).trans (((HCw3.out).cell 4).trans rfl)
        by_cases hlt : k < (kd.2.1).length
        · obtain ⟨bq, o, hpe, hbl, hcu⟩ := (HE4.out).at (by decide) hlt
          subst hpe
          have HKs := Lib.hid hcs
          have HX := Lib.hid (fun W => row_idx Try.underlying26 3 (by kernel_rfl) bq o (kd.2.1).length k4 k hlt W)
          have HF0 : Hid (wr.cell? ⟨bq, o + k * 3, none⟩ = some (.string (str ((kd.2.1)[k].1)))) := (HB.out.cell (p := ⟨bq, o + k * 3, none⟩) hbl).trans (hcu 0 (show 0 < 3 by decide))
          have HF1 : Hid (wr.cell? ⟨bq, o + k * 3 + 1, none⟩ = some (.int .i64 ((kd.2.1)[k].2.1))) := (HB.out.cell (p := ⟨bq, o + k * 3 + 1, none⟩) hbl).trans (hcu 1 (show 1 < 3 by decide))
          have HF2 : Hid (wr.cell? ⟨bq, o + k * 3 + 2, none⟩ = some (.int .i64 ((kd.2.1)[k].2.2))) := (HB.out.cell (p := ⟨bq, o + k * 3 + 2, none⟩) hbl).trans (hcu 2 (show 2 < 3 by decide))
          have HT : Hid (((kd.2.1).take (k + 1)).flatMap fnV = ((kd.2.1).take k).flatMap fnV ++ fnV (kd.2.1)[k]) := by show _ = _; rw [List.take_succ_eq_append_getElem hlt, List.flatMap_append]; simp
          clear hcu hcs
          generalize (kd.2.1)[k] = s at *
          obtain ⟨xs, hxs⟩ : ∃ x, ((kd.2.1).take k).flatMap fnV = x := ⟨_, rfl⟩
          have HXs := Lib.hid hxs
          rw [hxs] at HO
          clear hxs
          have hk9 : k ≤ 100000000 := by have := HN4.out; omega
          have u1 : decide ((k : Int) < ((kd.2.1).length : Int)) = true := decide_eq_true (by omega)
          have u2 : (k : Int) < ((kd.2.1).length : Int) := by omega
          have u3 : decide (k < (kd.2.1).length) = true := decide_eq_true hlt
          have hcs := HKs.out
          go_upto_region 10 with fail
          clear u1 u2 u3 hcs
          have HLB : Hid (wA.heap.size ≤ wr.heap.size) := HB.out.size
          obtain ⟨i0, hi0, hz0', hz1, hz2⟩ : ∃ i, Try.prog.info? 123 = some i ∧ i.zero = some (.agg #[.string ⟨#[]⟩, .int .i64 0, .int .i64 0]) ∧ i.size = 3 ∧ i.bytes = 32 := info_parts (by kernel_rfl)
          refine Rt.wp_region_rkt 22 [] [Rg.Is (u), Rg.Is (.pointer (some ⟨eb, 4, none⟩)), Rg.Is (.slice (some ⟨bq, o, none⟩) (kd.2.1).length k4), Rg.Is (.int .i64 (k : Int)), Rg.Is (.pointer (some ⟨bq, o + k * 3, none⟩)), Rg.Is (.pointer (some ⟨bq, o + k * 3, none⟩)), Rg.Is (.string (str (s.1))), Rg.Is (.pointer (some ⟨eb, 4, none⟩)), Rg.Is (.slice (some ⟨bq, o, none⟩) (kd.2.1).length k4), Rg.Is (.int .i64 (k : Int)), Rg.Is (.pointer (some ⟨bq, o + k * 3, none⟩)), Rg.Is (.pointer (some ⟨bq, o + k * 3 + 1, none⟩)), Rg.Is (.int .i64 (s.2.1)), Rg.Is (.pointer (some ⟨eb, 4, none⟩)), Rg.Is (.slice (some ⟨bq, o, none⟩) (kd.2.1).length k4), Rg.Is (.int .i64 (k : Int)), Rg.Is (.pointer (some ⟨bq, o + k * 3, none⟩)), Rg.Is (.pointer (some ⟨bq, o + k * 3 + 2, none⟩)), Rg.Is (.int .i64 (s.2.2)), Rg.Is (.agg #[.string (str (s.1)), .int .i64 (s.2.1), .int .i64 (s.2.2)]), (fun u' x => ∃ b1, u' = .slice (some ⟨b1, 0, none⟩) 1 1 ∧ wr.heap.size ≤ b1 ∧ x.heap[b1]? = some (.cells #[.string (str (s.1)), .int .i64 (s.2.1), .int .i64 (s.2.2)] 123)), (fun u' x => Apd wr u wA.heap.size 123 3 k xs [.string (str (s.1)), .int .i64 (s.2.1), .int .i64 (s.2.2)] u' x)] (fun _ _ => True) (fun ls x => ls 21 = false → Below wr.heap.size wr x) (fun k x y => if k = 21 then x.grownBy y (Value.ownBlock (u)) else Below x.heap.size x y) (by kernel_rfl) (by kernel_rfl) (of_decide_eq_true (by kernel_rfl)) (by kernel_rfl) (by kernel_rfl) trivial (fun _ => ⟨rfl, rfl, rfl, Nat.le_refl _, fun _ _ => rfl⟩) (fun ls ls' x e h1 h2 => h1 (by rw [e]; exact h2)) (fun _ _ _ _ _ => trivial) (fun i ls x _ h1 => by rw [show ([] : List Bool).getD i true = true from rfl] at h1; cases h1) ?_ ⟨rfl, rfl, rfl, rfl, rfl, rfl, rfl, rfl, rfl, rfl, rfl, rfl, rfl, rfl, rfl, rfl, rfl, rfl, rfl, rfl, rfl, rfl, trivial⟩ ⟨?_, ?_, ?_, ?_, ?_, ?_, ?_, ?_, ?_, ?_, ?_, ?_, ?_, ?_, ?_, ?_, ?_, ?_, ?_, ?_, ?_, ?_, trivial⟩ ?_
          · intro i k u x y hik _ h1 hK
            match i, h1, hik with
            | 0, h1, _ => exact h1
            | 1, h1, _ => exact h1
            | 2, h1, _ => exact h1
            | 3, h1, _ => exact h1
            | 4, h1, _ => exact h1
            | 5, h1, _ => exact h1
            | 6, h1, _ => exact h1
            | 7, h1, _ => exact h1
            | 8, h1, _ => exact h1
            | 9, h1, _ => exact h1
            | 10, h1, _ => exact h1
            | 11, h1, _ => exact h1
            | 12, h1, _ => exact h1
            | 13, h1, _ => exact h1
            | 14, h1, _ => exact h1
            | 15, h1, _ => exact h1
            | 16, h1, _ => exact h1
            | 17, h1, _ => exact h1
            | 18, h1, _ => exact h1
            | 19, h1, _ => exact h1
            | 20, h1, hik =>
              obtain ⟨b1, h2, h3, h4⟩ := h1
              refine ⟨b1, h2, h3, ?_⟩
              have hg1 := (Array.getElem?_eq_some_iff.1 h4).1
              by_cases hk6 : k = 21
              · subst hk6
                rw [if_pos rfl] at hK
                exact (hK.block b1 hg1 (fun e => by have := (HO.out.lt _ e.symm).2; omega)).trans h4
              · rw [if_neg hk6] at hK
                exact (hK.block b1 hg1).trans h4
            | 21, h1, hik =>
              rw [if_neg (fun e => hik e.symm)] at hK
              exact h1.below hK
            | _ + 22, _, _ => trivial
          · intro _ b x ls hR hS hself hup hdn hk
            have h5 : b.eval (.tmp 5) = u := Eq.mp (by kernel_rfl) (hk 5 (by decide))
            have lA : ls 21 = false := hdn [] 21 _ rfl (by kernel_rfl)
            have hb := hS lA
            exact Rg.does_move ⟨by rw [if_neg (by decide)]; exact Below.refl _ _, h5, fun hh => hS hh⟩
          · intro _ b x ls hR hS hself hup hdn hk
            have h1 : b.eval (.tmp 1) = .pointer (some ⟨eb, 0, none⟩) := Eq.mp (by kernel_rfl) (hk 1 (by decide))
            have lA : ls 21 = false := hdn [20, 19, 6, 5, 4, 2] 21 _ rfl (by kernel_rfl)
            have hb := hS lA
            exact Rs.does_field _ _ h1 (show (Instr.fieldAt 31 (.pointer (some ⟨eb, 0, none⟩)) 1).run Try.prog x = .ok (.pointer (some ⟨eb, 4, none⟩)) x from rfl) ⟨by rw [if_neg (by decide)]; exact Below.refl _ _, rfl, fun hh => hS hh⟩
          · intro _ b x ls hR hS hself hup hdn hk
            have h46 : b.eval (.tmp 46) = .pointer (some ⟨eb, 4, none⟩) := Eq.mp (by kernel_rfl) (hk 46 (by decide))
            have lA : ls 21 = false := hdn [20, 19, 6, 5, 4] 21 _ rfl (by kernel_rfl)
            have hb := hS lA
            exact Rg.does_load _ _ h46 (Ap.load_plainP (by simp [isAgg]) (cell_below hb (Nat.le_refl _) HKs.out)) ⟨by rw [if_neg (by decide)]; exact Below.refl _ _, rfl, fun hh => hS hh⟩
          · intro _ b x ls hR hS hself hup hdn hk
            have h6 : b.eval (.tmp 6) = .int .i64 (k : Int) := Eq.mp (by kernel_rfl) (hk 6 (by decide))
            have lA : ls 21 = false := hdn [20, 19, 6, 5, 4] 21 _ rfl (by kernel_rfl)
            have hb := hS lA
            exact Rg.does_move ⟨by rw [if_neg (by decide)]; exact Below.refl _ _, h6, fun hh => hS hh⟩
          · intro _ b x ls hR hS hself hup hdn hk
            have h47 : b.eval (.tmp 47) = .slice (some ⟨bq, o, none⟩) (kd.2.1).length k4 := Eq.mp (by kernel_rfl) (hk 47 (by decide))
            have h48 : b.eval (.tmp 48) = .int .i64 (k : Int) := Eq.mp (by kernel_rfl) (hk 48 (by decide))
            have lA : ls 21 = false := hdn [20, 19, 6, 5] 21 _ rfl (by kernel_rfl)
            have hb := hS lA
            exact Rg.does_index _ _ _ h47 h48 (HX.out x) ⟨by rw [if_neg (by decide)]; exact Below.refl _ _, rfl, fun hh => hS hh⟩
          · intro _ b x ls hR hS hself hup hdn hk
            have h49 : b.eval (.tmp 49) = .pointer (some ⟨bq, o + k * 3, none⟩) := Eq.mp (by kernel_rfl) (hk 49 (by decide))
            have lA : ls 21 = false := hdn [20, 19, 6] 21 _ rfl (by kernel_rfl)
            have hb := hS lA
            exact Rs.does_field _ _ h49 (show (Instr.fieldAt 134 (.pointer (some ⟨bq, o + k * 3, none⟩)) 0).run Try.prog x = .ok (.pointer (some ⟨bq, o + k * 3, none⟩)) x from rfl) ⟨by rw [if_neg (by decide)]; exact Below.refl _ _, rfl, fun hh => hS hh⟩
          · intro _ b x ls hR hS hself hup hdn hk
            have h50 : b.eval (.tmp 50) = .pointer (some ⟨bq, o + k * 3, none⟩) := Eq.mp (by kernel_rfl) (hk 50 (by decide))
            have lA : ls 21 = false := hdn [20, 19] 21 _ rfl (by kernel_rfl)
            have hb := hS lA
            exact Rg.does_load _ _ h50 (Ap.load_plainP (by simp [isAgg]) (cell_below hb (Nat.le_refl _) HF0.out)) ⟨by rw [if_neg (by decide)]; exact Below.refl _ _, rfl, fun hh => hS hh⟩
          · intro _ b x ls hR hS hself hup hdn hk
            have h1 : b.eval (.tmp 1) = .pointer (some ⟨eb, 0, none⟩) := Eq.mp (by kernel_rfl) (hk 1 (by decide))
            have lA : ls 21 = false := hdn [20, 19, 12, 11, 10, 8] 21 _ rfl (by kernel_rfl)
            have hb := hS lA
            exact Rs.does_field _ _ h1 (show (Instr.fieldAt 31 (.pointer (some ⟨eb, 0, none⟩)) 1).run Try.prog x = .ok (.pointer (some ⟨eb, 4, none⟩)) x from rfl) ⟨by rw [if_neg (by decide)]; exact Below.refl _ _, rfl, fun hh => hS hh⟩
          · intro _ b x ls hR hS hself hup hdn hk
            have h52 : b.eval (.tmp 52) = .pointer (some ⟨eb, 4, none⟩) := Eq.mp (by kernel_rfl) (hk 52 (by decide))
            have lA : ls 21 = false := hdn [20, 19, 12, 11, 10] 21 _ rfl (by kernel_rfl)
            have hb := hS lA
            exact Rg.does_load _ _ h52 (Ap.load_plainP (by simp [isAgg]) (cell_below hb (Nat.le_refl _) HKs.out)) ⟨by rw [if_neg (by decide)]; exact Below.refl _ _, rfl, fun hh => hS hh⟩
          · intro _ b x ls hR hS hself hup hdn hk
            have h6 : b.eval (.tmp 6) = .int .i64 (k : Int) := Eq.mp (by kernel_rfl) (hk 6 (by decide))
            have lA : ls 21 = false := hdn [20, 19, 12, 11, 10] 21 _ rfl (by kernel_rfl)
            have hb := hS lA
            exact Rg.does_move ⟨by rw [if_neg (by decide)]; exact Below.refl _ _, h6, fun hh => hS hh⟩
          · intro _ b x ls hR hS hself hup hdn hk
            have h53 : b.eval (.tmp 53) = .slice (some ⟨bq, o, none⟩) (kd.2.1).length k4 := Eq.mp (by kernel_rfl) (hk 53 (by decide))
            have h54 : b.eval (.tmp 54) = .int .i64 (k : Int) := Eq.mp (by kernel_rfl) (hk 54 (by decide))
            have lA : ls 21 = false := hdn [20, 19, 12, 11] 21 _ rfl (by kernel_rfl)
            have hb := hS lA
            exact Rg.does_index _ _ _ h53 h54 (HX.out x) ⟨by rw [if_neg (by decide)]; exact Below.refl _ _, rfl, fun hh => hS hh⟩
          · intro _ b x ls hR hS hself hup hdn hk
            have h55 : b.eval (.tmp 55) = .pointer (some ⟨bq, o + k * 3, none⟩) := Eq.mp (by kernel_rfl) (hk 55 (by decide))
            have lA : ls 21 = false := hdn [20, 19, 12] 21 _ rfl (by kernel_rfl)
            have hb := hS lA
            exact Rs.does_field _ _ h55 (show (Instr.fieldAt 134 (.pointer (some ⟨bq, o + k * 3, none⟩)) 1).run Try.prog x = .ok (.pointer (some ⟨bq, o + k * 3 + 1, none⟩)) x from rfl) ⟨by rw [if_neg (by decide)]; exact Below.refl _ _, rfl, fun hh => hS hh⟩
          · intro _ b x ls hR hS hself hup hdn hk
            have h56 : b.eval (.tmp 56) = .pointer (some ⟨bq, o + k * 3 + 1, none⟩) := Eq.mp (by kernel_rfl) (hk 56 (by decide))
            have lA : ls 21 = false := hdn [20, 19] 21 _ rfl (by kernel_rfl)
            have hb := hS lA
            exact Rg.does_load _ _ h56 (Ap.load_plainP (by simp [isAgg]) (cell_below hb (Nat.le_refl _) HF1.out)) ⟨by rw [if_neg (by decide)]; exact Below.refl _ _, rfl, fun hh => hS hh⟩
          · intro _ b x ls hR hS hself hup hdn hk
            have h1 : b.eval (.tmp 1) = .pointer (some ⟨eb, 0, none⟩) := Eq.mp (by kernel_rfl) (hk 1 (by decide))
            have lA : ls 21 = false := hdn [20, 19, 18, 17, 16, 14] 21 _ rfl (by kernel_rfl)
            have hb := hS lA
            exact Rs.does_field _ _ h1 (show (Instr.fieldAt 31 (.pointer (some ⟨eb, 0, none⟩)) 1).run Try.prog x = .ok (.pointer (some ⟨eb, 4, none⟩)) x from rfl) ⟨by rw [if_neg (by decide)]; exact Below.refl _ _, rfl, fun hh => hS hh⟩
          · intro _ b x ls hR hS hself hup hdn hk
            have h58 : b.eval (.tmp 58) = .pointer (some ⟨eb, 4, none⟩) := Eq.mp (by kernel_rfl) (hk 58 (by decide))
            have lA : ls 21 = false := hdn [20, 19, 18, 17, 16] 21 _ rfl (by kernel_rfl)
            have hb := hS lA
            exact Rg.does_load _ _ h58 (Ap.load_plainP (by simp [isAgg]) (cell_below hb (Nat.le_refl _) HKs.out)) ⟨by rw [if_neg (by decide)]; exact Below.refl _ _, rfl, fun hh => hS hh⟩
          · intro _ b x ls hR hS hself hup hdn hk
            have h6 : b.eval (.tmp 6) = .int .i64 (k : Int) := Eq.mp (by kernel_rfl) (hk 6 (by decide))
            have lA : ls 21 = false := hdn [20, 19, 18, 17, 16] 21 _ rfl (by kernel_rfl)
            have hb := hS lA
            exact Rg.does_move ⟨by rw [if_neg (by decide)]; exact Below.refl _ _, h6, fun hh => hS hh⟩
          · intro _ b x ls hR hS hself hup hdn hk
            have h59 : b.eval (.tmp 59) = .slice (some ⟨bq, o, none⟩) (kd.2.1).length k4 := Eq.mp (by kernel_rfl) (hk 59 (by decide))
            have h60 : b.eval (.tmp 60) = .int .i64 (k : Int) := Eq.mp (by kernel_rfl) (hk 60 (by decide))
            have lA : ls 21 = false := hdn [20, 19, 18, 17] 21 _ rfl (by kernel_rfl)
            have hb := hS lA
            exact Rg.does_index _ _ _ h59 h60 (HX.out x) ⟨by rw [if_neg (by decide)]; exact Below.refl _ _, rfl, fun hh => hS hh⟩
          · intro _ b x ls hR hS hself hup hdn hk
            have h61 : b.eval (.tmp 61) = .pointer (some ⟨bq, o + k * 3, none⟩) := Eq.mp (by kernel_rfl) (hk 61 (by decide))
            have lA : ls 21 = false := hdn [20, 19, 18] 21 _ rfl (by kernel_rfl)
            have hb := hS lA
            exact Rs.does_field _ _ h61 (show (Instr.fieldAt 134 (.pointer (some ⟨bq, o + k * 3, none⟩)) 2).run Try.prog x = .ok (.pointer (some ⟨bq, o + k * 3 + 2, none⟩)) x from rfl) ⟨by rw [if_neg (by decide)]; exact Below.refl _ _, rfl, fun hh => hS hh⟩
          · intro _ b x ls hR hS hself hup hdn hk
            have h62 : b.eval (.tmp 62) = .pointer (some ⟨bq, o + k * 3 + 2, none⟩) := Eq.mp (by kernel_rfl) (hk 62 (by decide))
            have lA : ls 21 = false := hdn [20, 19] 21 _ rfl (by kernel_rfl)
            have hb := hS lA
            exact Rg.does_load _ _ h62 (Ap.load_plainP (by simp [isAgg]) (cell_below hb (Nat.le_refl _) HF2.out)) ⟨by rw [if_neg (by decide)]; exact Below.refl _ _, rfl, fun hh => hS hh⟩
          · intro _ b x ls hR hS hself hup hdn hk
            have h51 : b.eval (.tmp 51) = .string (str (s.1)) := Eq.mp (by kernel_rfl) (hk 51 (by decide))
            have h57 : b.eval (.tmp 57) = .int .i64 (s.2.1) := Eq.mp (by kernel_rfl) (hk 57 (by decide))
            have h63 : b.eval (.tmp 63) = .int .i64 (s.2.2) := Eq.mp (by kernel_rfl) (hk 63 (by decide))
            have lA : ls 21 = false := hdn [20] 21 _ rfl (by kernel_rfl)
            have hb := hS lA
            exact Ap.does_buildS #[(0, .string (str (s.1))), (1, .int .i64 (s.2.1)), (2, .int .i64 (s.2.2))] (.agg #[.string (str (s.1)), .int .i64 (s.2.1), .int .i64 (s.2.2)]) (by simp [h51, h57, h63]) (by go_simp) ⟨by rw [if_neg (by decide)]; exact Below.refl _ _, rfl, fun hh => hS hh⟩
          · intro _ b x ls hR hS hself hup hdn hk
            have h64 : b.eval (.tmp 64) = .agg #[.string (str (s.1)), .int .i64 (s.2.1), .int .i64 (s.2.2)] := Eq.mp (by kernel_rfl) (hk 64 (by decide))
            have lA : ls 21 = false := hdn [] 21 _ rfl (by kernel_rfl)
            have hb := hS lA
            have hal := (Below.refl x.heap.size x).alloc (Nat.le_refl _) (.cells #[.string (str (s.1)), .int .i64 (s.2.1), .int .i64 (s.2.2)] 123)
            exact Rg.does_build #[(0, .agg #[.string (str (s.1)), .int .i64 (s.2.1), .int .i64 (s.2.2)])] _ (by simp [h64]) (by go_simp) ⟨by rw [if_neg (by decide)]; exact hal, ⟨x.heap.size, rfl, hb.size, heap_alloc_new x _⟩, fun hh => hb.trans (hal.mono hb.size)⟩
          · intro _ b x ls hR hS hself hup hdn hk
            have h45 : b.eval (.tmp 45) = u := Eq.mp (by kernel_rfl) (hk 45 (by decide))
            have h65 : (fun u' x => ∃ b1, u' = .slice (some ⟨b1, 0, none⟩) 1 1 ∧ wr.heap.size ≤ b1 ∧ x.heap[b1]? = some (.cells #[.string (str (s.1)), .int .i64 (s.2.1), .int .i64 (s.2.2)] 123)) (b.eval (.tmp 65)) x := Eq.mp (by kernel_rfl) (hk 65 (by decide))
            have hb := hS hself
            obtain ⟨b1, h2, h3, h4⟩ := h65
            have hown : World.ownsRow x wA.heap.size 123 3 u k xs := ownsRow_below HO.out hb
            obtain ⟨v', w', hrun, hown', hgr, hat⟩ := Ap.run_append_at (P := Try.prog) x wA.heap.size 51 51 51 123 i0 _ 3 32 Try.underlying51 (append_side Try.underlying51) hi0 hz0' hz1 hz2 rfl (by decide) (by decide) u k xs hown (.slice (some ⟨b1, 0, none⟩) 1 1) 1 [.string (str (s.1)), .int .i64 (s.2.1), .int .i64 (s.2.2)] (src_cells (b := b1) (off := 0) rfl (by simp [Value.oneCell']) (.inr rfl) (fun j u1 hu1 => by simp only [World.cell?, h4, Nat.zero_add]; simpa using hu1)) (by unfold maxLen; omega) (by omega) (Nat.le_trans HLB.out hb.size)
            exact Ap.does_append u _ v' w' h45 h2 hrun ⟨by rw [if_pos rfl]; exact hgr, ⟨hown', x, hb, hgr, hat⟩, fun hh => by simp [Rs.upd] at hh⟩
          · intro vals wD ls _ hSD _ hL
            obtain ⟨g0, g1, g2, g3, g4, g5, g6, g7, g8, g9, g10, g11, g12, g13, g14, g15, g16, g17, g18, g19, g20, g21, _⟩ := hL
            have hap : Apd wr u wA.heap.size 123 3 k xs [.string (str (s.1)), .int .i64 (s.2.1), .int .i64 (s.2.2)] (vals 21) wD := g21
            simp only [Rg.putAll, List.take_succ_cons, List.take_zero, List.drop_succ_cons, List.drop_zero, List.setIfInBounds_toArray, List.set_cons_succ, List.set_cons_zero]
            clear g0 g1 g2 g3 g4 g5 g6 g7 g8 g9 g10 g11 g12 g13 g14 g15 g16 g17 g18 g19 g20 g21
            generalize vals 21 = u2 at *
            obtain ⟨ho2, wa, hba, hga, hat⟩ := hap
            have HB2 : Hid (Below wA.heap.size wA wD) := (HB.out.trans (hba.mono HB.out.size)).grown hga (Nat.le_trans HB.out.size hba.size) (fun j hj => (HO.out.lt j hj).1)
            have HO2 : Hid (wD.ownsRow wA.heap.size 123 3 u2 (k + 1) (((kd.2.1).take (k + 1)).flatMap fnV)) := by show World.ownsRow _ _ _ _ _ _ _; rw [HT.out, HXs.out]; exact ho2
            clear ho2 hba hga hat
            go_wp2_with fail
            go_roundw
            case rel => exact ⟨k + 1, _, by omega, by go_num, rfl, HO2.out, HB2.out⟩
            case measure => simp [intOf]; omega
        · obtain rfl : k = (kd.2.1).length := by omega
          have u1 : decide (((kd.2.1).length : Int) < ((kd.2.1).length : Int)) = false := decide_eq_false (by omega)
          have u2 : ¬ (((kd.2.1).length : Int) < ((kd.2.1).length : Int)) := by omega
          have u3 : decide ((kd.2.1).length < (kd.2.1).length) = false := decide_eq_false (by omega)
          have HO5 : Hid (wr.ownsRow wA.heap.size 123 3 u kd.2.1.length (kd.2.1.flatMap fnV)) := by have h9 := HO.out; rwa [List.take_length] at h9
          generalize u = r5 at *
          have HO3 := Lib.hid (ownsRow_below HO3.out HB.out)
          have HLb5 : Hid (eb + 1 < wA.heap.size) := HCz3.out.lt
          have HBt5 : Hid (Below W.heap.size W wr) := HBt3.out.trans (HB.out.mono HBt3.out.size)
          have HCw5 : Hid (Cut eb [.slice p0 kd.1.1.length k0, .slice p1 kd.1.2.1.length k1, .int .i64 kd.1.2.2.1, .string (str kd.1.2.2.2), .slice p4 kd.2.1.length k4, .slice p5 kd.2.2.1.length k5, .slice p6 kd.2.2.2.length k6] kpT wr) := cut_below HCw3.out HB.out
          have HCz5 : Hid (Cut (eb + 1) kZ rKT wr) := cut_below HCz3.out HB.out
          have HE1 := Lib.hid (HE1.out.below (by decide) HB.out)
          have HE4 := Lib.hid (HE4.out.below (by decide) HB.out)
          have HE5 := Lib.hid (HE5.out.below (by decide) HB.out)
          have HE6 := Lib.hid (HE6.out.below (by decide) HB.out)
          generalize wr = wB at *
          clear HB HO hk
          go_wp2_with fail
          clear u1 u2 u3 hcs
          go_loopw [7, 8] (fun va vi wr => ∃ (k : Nat) (u : Value), k ≤ (kd.2.2.1).length ∧ vi = .int .i64 k ∧ va = u ∧ wr.ownsRow wB.heap.size 125 2 u k (((kd.2.2.1).take k).flatMap trapV) ∧ Below wB.heap.size wB wr) (fun _ vi _ => (kd.2.2.1).length - (intOf vi).toNat)
          case atStart => exact ⟨0, _, Nat.zero_le _, rfl, rfl, World.ownsRow_nil _ _ _ _, Below.refl _ _⟩
          case round =>
            obtain ⟨k, u, hk, rfl, hu, hown, hb⟩ := hrel
            rw [hu]
            clear hu
            have HB := Lib.hid hb
            have HO := Lib.hid hown
            clear hb hown
            have hcs : wr.cell? ⟨eb, 5, none⟩ = some (.slice p5 (kd.2.2.1).length k5) := (HB.out.cell (p := ⟨eb, 5, none⟩) (HCw5.out).lt).trans (((HCw5.out).cell 5).trans rfl)
            by_cases hlt : k < (kd.2.2.1).length
            · obtain ⟨bq, o, hpe, hbl, hcu⟩ := (HE5.out).at (by decide) hlt
              subst hpe
              have HKs := Lib.hid hcs
              have HX := Lib.hid (fun W => row_idx Try.underlying27 2 (by kernel_rfl) bq o (kd.2.2.1).length k5 k hlt W)
              have HF0 : Hid (wr.cell? ⟨bq, o + k * 2, none⟩ = some (.int .i64 ((kd.2.2.1)[k].1))) := (HB.out.cell (p := ⟨bq, o + k * 2, none⟩) hbl).trans (hcu 0 (show 0 < 2 by decide))
              have HF1 : Hid (wr.cell? ⟨bq, o + k * 2 + 1, none⟩ = some (.string (str ((kd.2.2.1)[k].2)))) := (HB.out.cell (p := ⟨bq, o + k * 2 + 1, none⟩) hbl).trans (hcu 1 (show 1 < 2 by decide))
              have HT : Hid (((kd.2.2.1).take (k + 1)).flatMap trapV = ((kd.2.2.1).take k).flatMap trapV ++ trapV (kd.2.2.1)[k]) := by show _ = _; rw [List.take_succ_eq_append_getElem hlt, List.flatMap_append]; simp
              clear hcu hcs
              generalize (kd.2.2.1)[k] = s at *
              obtain ⟨xs, hxs⟩ : ∃ x, ((kd.2.2.1).take k).flatMap trapV = x := ⟨_, rfl⟩
              have HXs := Lib.hid hxs
              rw [hxs] at HO
              clear hxs
              have hk9 : k ≤ 100000000 := by have := HN5.out; omega
              have u1 : decide ((k : Int) < ((kd.2.2.1).length : Int)) = true := decide_eq_true (by omega)
              have u2 : (k : Int) < ((kd.2.2.1).length : Int) := by omega
              have u3 : decide (k < (kd.2.2.1).length) = true := decide_eq_true hlt
              have hcs := HKs.out
              go_upto_region 15 with fail
              clear u1 u2 u3 hcs
              have HLB : Hid (wB.heap.size ≤ wr.heap.size) := HB.out.size
              obtain ⟨i0, hi0, hz0', hz1, hz2⟩ : ∃ i, Try.prog.info? 125 = some i ∧ i.zero = some (.agg #[.int .i64 0, .string ⟨#[]⟩]) ∧ i.size = 2 ∧ i.bytes = 24 := info_parts (by kernel_rfl)
              refine Rt.wp_region_rkt 16 [] [Rg.Is (u), Rg.Is (.pointer (some ⟨eb, 5, none⟩)), Rg.Is (.slice (some ⟨bq, o, none⟩) (kd.2.2.1).length k5), Rg.Is (.int .i64 (k : Int)), Rg.Is (.pointer (some ⟨bq, o + k * 2, none⟩)), Rg.Is (.pointer (some ⟨bq, o + k * 2, none⟩)), Rg.Is (.int .i64 (s.1)), Rg.Is (.pointer (some ⟨eb, 5, none⟩)), Rg.Is (.slice (some ⟨bq, o, none⟩) (kd.2.2.1).length k5), Rg.Is (.int .i64 (k : Int)), Rg.Is (.pointer (some ⟨bq, o + k * 2, none⟩)), Rg.Is (.pointer (some ⟨bq, o + k * 2 + 1, none⟩)), Rg.Is (.string (str (s.2))), Rg.Is (.agg #[.int .i64 (s.1), .string (str (s.2))]), (fun u' x => ∃ b1, u' = .slice (some ⟨b1, 0, none⟩) 1 1 ∧ wr.heap.size ≤ b1 ∧ x.heap[b1]? = some (.cells #[.int .i64 (s.1), .string (str (s.2))] 125)), (fun u' x => Apd wr u wB.heap.size 125 2 k xs [.int .i64 (s.1), .string (str (s.2))] u' x)] (fun _ _ => True) (fun ls x => ls 15 = false → Below wr.heap.size wr x) (fun k x y => if k = 15 then x.grownBy y (Value.ownBlock (u)) else Below x.heap.size x y) (by kernel_rfl) (by kernel_rfl) (of_decide_eq_true (by kernel_rfl)) (by kernel_rfl) (by kernel_rfl) trivial (fun _ => ⟨rfl, rfl, rfl, Nat.le_refl _, fun _ _ => rfl⟩) (fun ls ls' x e h1 h2 => h1 (by rw [e]; exact h2)) (fun _ _ _ _ _ => trivial) (fun i ls x _ h1 => by rw [show ([] : List Bool).getD i true = true from rfl] at h1; cases h1) ?_ ⟨rfl, rfl, rfl, rfl, rfl, rfl, rfl, rfl, rfl, rfl, rfl, rfl, rfl, rfl, rfl, rfl, trivial⟩ ⟨?_, ?_, ?_, ?_, ?_, ?_, ?_, ?_, ?_, ?_, ?_, ?_, ?_, ?_, ?_, ?_, trivial⟩ ?_
              · intro i k u x y hik _ h1 hK
                match i, h1, hik with
                | 0, h1, _ => exact h1
                | 1, h1, _ => exact h1
                | 2, h1, _ => exact h1
                | 3, h1, _ => exact h1
                | 4, h1, _ => exact h1
                | 5, h1, _ => exact h1
                | 6, h1, _ => exact h1
                | 7, h1, _ => exact h1
                | 8, h1, _ => exact h1
                | 9, h1, _ => exact h1
                | 10, h1, _ => exact h1
                | 11, h1, _ => exact h1
                | 12, h1, _ => exact h1
                | 13, h1, _ => exact h1
                | 14, h1, hik =>
                  obtain ⟨b1, h2, h3, h4⟩ := h1
                  refine ⟨b1, h2, h3, ?_⟩
                  have hg1 := (Array.getElem?_eq_some_iff.1 h4).1
                  by_cases hk6 : k = 15
                  · subst hk6
                    rw [if_pos rfl] at hK
                    exact (hK.block b1 hg1 (fun e => by have := (HO.out.lt _ e.symm).2; omega)).trans h4
                  · rw [if_neg hk6] at hK
                    exact (hK.block b1 hg1).trans h4
                | 15, h1, hik =>
                  rw [if_neg (fun e => hik e.symm)] at hK
                  exact h1.below hK
                | _ + 16, _, _ => trivial
              · intro _ b x ls hR hS hself hup hdn hk
                have h7 : b.eval (.tmp 7) = u := Eq.mp (by kernel_rfl) (hk 7 (by decide))
                have lA : ls 15 = false := hdn [] 15 _ rfl (by kernel_rfl)
                have hb := hS lA
                exact Rg.does_move ⟨by rw [if_neg (by decide)]; exact Below.refl _ _, h7, fun hh => hS hh⟩
              · intro _ b x ls hR hS hself hup hdn hk
                have h1 : b.eval (.tmp 1) = .pointer (some ⟨eb, 0, none⟩) := Eq.mp (by kernel_rfl) (hk 1 (by decide))
                have lA : ls 15 = false := hdn [14, 13, 6, 5, 4, 2] 15 _ rfl (by kernel_rfl)
                have hb := hS lA
                exact Rs.does_field _ _ h1 (show (Instr.fieldAt 31 (.pointer (some ⟨eb, 0, none⟩)) 2).run Try.prog x = .ok (.pointer (some ⟨eb, 5, none⟩)) x from rfl) ⟨by rw [if_neg (by decide)]; exact Below.refl _ _, rfl, fun hh => hS hh⟩
              · intro _ b x ls hR hS hself hup hdn hk
                have h75 : b.eval (.tmp 75) = .pointer (some ⟨eb, 5, none⟩) := Eq.mp (by kernel_rfl) (hk 75 (by decide))
                have lA : ls 15 = false := hdn [14, 13, 6, 5, 4] 15 _ rfl (by kernel_rfl)
                have hb := hS lA
                exact Rg.does_load _ _ h75 (Ap.load_plainP (by simp [isAgg]) (cell_below hb (Nat.le_refl _) HKs.out)) ⟨by rw [if_neg (by decide)]; exact Below.refl _ _, rfl, fun hh => hS hh⟩
              · intro _ b x ls hR hS hself hup hdn hk
                have h8 : b.eval (.tmp 8) = .int .i64 (k : Int) := Eq.mp (by kernel_rfl) (hk 8 (by decide))
                have lA : ls 15 = false := hdn [14, 13, 6, 5, 4] 15 _ rfl (by kernel_rfl)
                have hb := hS lA
                exact Rg.does_move ⟨by rw [if_neg (by decide)]; exact Below.refl _ _, h8, fun hh => hS hh⟩
              · intro _ b x ls hR hS hself hup hdn hk
                have h76 : b.eval (.tmp 76) = .slice (some ⟨bq, o, none⟩) (kd.2.2.1).length k5 := Eq.mp (by kernel_rfl) (hk 76 (by decide))
                have h77 : b.eval (.tmp 77) = .int .i64 (k : Int) := Eq.mp (by kernel_rfl) (hk 77 (by decide))
                have lA : ls 15 = false := hdn [14, 13, 6, 5] 15 _ rfl (by kernel_rfl)
                have hb := hS lA
                exact Rg.does_index _ _ _ h76 h77 (HX.out x) ⟨by rw [if_neg (by decide)]; exact Below.refl _ _, rfl, fun hh => hS hh⟩
              · intro _ b x ls hR hS hself hup hdn hk
                have h78 : b.eval (.tmp 78) = .pointer (some ⟨bq, o + k * 2, none⟩) := Eq.mp (by kernel_rfl) (hk 78 (by decide))
                have lA : ls 15 = false := hdn [14, 13, 6] 15 _ rfl (by kernel_rfl)
                have hb := hS lA
                exact Rs.does_field _ _ h78 (show (Instr.fieldAt 135 (.pointer (some ⟨bq, o + k * 2, none⟩)) 0).run Try.prog x = .ok (.pointer (some ⟨bq, o + k * 2, none⟩)) x from rfl) ⟨by rw [if_neg (by decide)]; exact Below.refl _ _, rfl, fun hh => hS hh⟩
              · intro _ b x ls hR hS hself hup hdn hk
                have h79 : b.eval (.tmp 79) = .pointer (some ⟨bq, o + k * 2, none⟩) := Eq.mp (by kernel_rfl) (hk 79 (by decide))
                have lA : ls 15 = false := hdn [14, 13] 15 _ rfl (by kernel_rfl)
                have hb := hS lA
                exact Rg.does_load _ _ h79 (Ap.load_plainP (by simp [isAgg]) (cell_below hb (Nat.le_refl _) HF0.out)) ⟨by rw [if_neg (by decide)]; exact Below.refl _ _, rfl, fun hh => hS hh⟩
              · intro _ b x ls hR hS hself hup hdn hk
                have h1 : b.eval (.tmp 1) = .pointer (some ⟨eb, 0, none⟩) := Eq.mp (by kernel_rfl) (hk 1 (by decide))
                have lA : ls 15 = false := hdn [14, 13, 12, 11, 10, 8] 15 _ rfl (by kernel_rfl)
                have hb := hS lA
                exact Rs.does_field _ _ h1 (show (Instr.fieldAt 31 (.pointer (some ⟨eb, 0, none⟩)) 2).run Try.prog x = .ok (.pointer (some ⟨eb, 5, none⟩)) x from rfl) ⟨by rw [if_neg (by decide)]; exact Below.refl _ _, rfl, fun hh => hS hh⟩
              · intro _ b x ls hR hS hself hup hdn hk
                have h81 : b.eval (.tmp 81) = .pointer (some ⟨eb, 5, none⟩) := Eq.mp (by kernel_rfl) (hk 81 (by decide))
                have lA : ls 15 = false := hdn [14, 13, 12, 11, 10] 15 _ rfl (by kernel_rfl)
                have hb := hS lA
                exact Rg.does_load _ _ h81 (Ap.load_plainP (by simp [isAgg]) (cell_below hb (Nat.le_refl _) HKs.out)) ⟨by rw [if_neg (by decide)]; exact Below.refl _ _, rfl, fun hh => hS hh⟩
              · intro _ b x ls hR hS hself hup hdn hk
                have h8 : b.eval (.tmp 8) = .int .i64 (k : Int) := Eq.mp (by kernel_rfl) (hk 8 (by decide))
                have lA : ls 15 = false := hdn [14, 13, 12, 11, 10] 15 _ rfl (by kernel_rfl)
                have hb := hS lA
                exact Rg.does_move ⟨by rw [if_neg (by decide)]; exact Below.refl _ _, h8, fun hh => hS hh⟩
              · intro _ b x ls hR hS hself hup hdn hk
                have h82 : b.eval (.tmp 82) = .slice (some ⟨bq, o, none⟩) (kd.2.2.1).length k5 := Eq.mp (by kernel_rfl) (hk 82 (by decide))
                have h83 : b.eval (.tmp 83) = .int .i64 (k : Int) := Eq.mp (by kernel_rfl) (hk 83 (by decide))
                have lA : ls 15 = false := hdn [14, 13, 12, 11] 15 _ rfl (by kernel_rfl)
                have hb := hS lA
                exact Rg.does_index _ _ _ h82 h83 (HX.out x) ⟨by rw [if_neg (by decide)]; exact Below.refl _ _, rfl, fun hh => hS hh⟩
              · intro _ b x ls hR hS hself hup hdn hk
                have h84 : b.eval (.tmp 84) = .pointer (some ⟨bq, o + k * 2, none⟩) := Eq.mp (by kernel_rfl) (hk 84 (by decide))
                have lA : ls 15 = false := hdn [14, 13, 12] 15 _ rfl (by kernel_rfl)
                have hb := hS lA
                exact Rs.does_field _ _ h84 (show (Instr.fieldAt 135 (.pointer (some ⟨bq, o + k * 2, none⟩)) 1).run Try.prog x = .ok (.pointer (some ⟨bq, o + k * 2 + 1, none⟩)) x from rfl) ⟨by rw [if_neg (by decide)]; exact Below.refl _ _, rfl, fun hh => hS hh⟩
              · intro _ b x ls hR hS hself hup hdn hk
                have h85 : b.eval (.tmp 85) = .pointer (some ⟨bq, o + k * 2 + 1, none⟩) := Eq.mp (by kernel_rfl) (hk 85 (by decide))
                have lA : ls 15 = false := hdn [14, 13] 15 _ rfl (by kernel_rfl)
                have hb := hS lA
                exact Rg.does_load _ _ h85 (Ap.load_plainP (by simp [isAgg]) (cell_below hb (Nat.le_refl _) HF1.out)) ⟨by rw [if_neg (by decide)]; exact Below.refl _ _, rfl, fun hh => hS hh⟩
              · intro _ b x ls hR hS hself hup hdn hk
                have h80 : b.eval (.tmp 80) = .int .i64 (s.1) := Eq.mp (by kernel_rfl) (hk 80 (by decide))
                have h86 : b.eval (.tmp 86) = .string (str (s.2)) := Eq.mp (by kernel_rfl) (hk 86 (by decide))
                have lA : ls 15 = false := hdn [14] 15 _ rfl (by kernel_rfl)
                have hb := hS lA
                exact Ap.does_buildS #[(0, .int .i64 (s.1)), (1, .string (str (s.2)))] (.agg #[.int .i64 (s.1), .string (str (s.2))]) (by simp [h80, h86]) (by go_simp) ⟨by rw [if_neg (by decide)]; exact Below.refl _ _, rfl, fun hh => hS hh⟩
              · intro _ b x ls hR hS hself hup hdn hk
                have h87 : b.eval (.tmp 87) = .agg #[.int .i64 (s.1), .string (str (s.2))] := Eq.mp (by kernel_rfl) (hk 87 (by decide))
                have lA : ls 15 = false := hdn [] 15 _ rfl (by kernel_rfl)
                have hb := hS lA
                have hal := (Below.refl x.heap.size x).alloc (Nat.le_refl _) (.cells #[.int .i64 (s.1), .string (str (s.2))] 125)
                exact Rg.does_build #[(0, .agg #[.int .i64 (s.1), .string (str (s.2))])] _ (by simp [h87]) (by go_simp) ⟨by rw [if_neg (by decide)]; exact hal, ⟨x.heap.size, rfl, hb.size, heap_alloc_new x _⟩, fun hh => hb.trans (hal.mono hb.size)⟩
              · intro _ b x ls hR hS hself hup hdn hk
                have h74 : b.eval (.tmp 74) = u := Eq.mp (by kernel_rfl) (hk 74 (by decide))
                have h88 : (fun u' x => ∃ b1, u' = .slice (some ⟨b1, 0, none⟩) 1 1 ∧ wr.heap.size ≤ b1 ∧ x.heap[b1]? = some (.cells #[.int .i64 (s.1), .string (str (s.2))] 125)) (b.eval (.tmp 88)) x := Eq.mp (by kernel_rfl) (hk 88 (by decide))
                have hb := hS hself
                obtain ⟨b1, h2, h3, h4⟩ := h88
                have hown : World.ownsRow x wB.heap.size 125 2 u k xs := ownsRow_below HO.out hb
                obtain ⟨v', w', hrun, hown', hgr, hat⟩ := Ap.run_append_at (P := Try.prog) x wB.heap.size 52 52 52 125 i0 _ 2 24 Try.underlying52 (append_side Try.underlying52) hi0 hz0' hz1 hz2 rfl (by decide) (by decide) u k xs hown (.slice (some ⟨b1, 0, none⟩) 1 1) 1 [.int .i64 (s.1), .string (str (s.2))] (src_cells (b := b1) (off := 0) rfl (by simp [Value.oneCell']) (.inr rfl) (fun j u1 hu1 => by simp only [World.cell?, h4, Nat.zero_add]; simpa using hu1)) (by unfold maxLen; omega) (by omega) (Nat.le_trans HLB.out hb.size)
                exact Ap.does_append u _ v' w' h74 h2 hrun ⟨by rw [if_pos rfl]; exact hgr, ⟨hown', x, hb, hgr, hat⟩, fun hh => by simp [Rs.upd] at hh⟩
              · intro vals wD ls _ hSD _ hL
                obtain ⟨g0, g1, g2, g3, g4, g5, g6, g7, g8, g9, g10, g11, g12, g13, g14, g15, _⟩ := hL
                have hap : Apd wr u wB.heap.size 125 2 k xs [.int .i64 (s.1), .string (str (s.2))] (vals 15) wD := g15
                simp only [Rg.putAll, List.take_succ_cons, List.take_zero, List.drop_succ_cons, List.drop_zero, List.setIfInBounds_toArray, List.set_cons_succ, List.set_cons_zero]
                clear g0 g1 g2 g3 g4 g5 g6 g7 g8 g9 g10 g11 g12 g13 g14 g15
                generalize vals 15 = u2 at *
                obtain ⟨ho2, wa, hba, hga, hat⟩ := hap
                have HB2 : Hid (Below wB.heap.size wB wD) := (HB.out.trans (hba.mono HB.out.size)).grown hga (Nat.le_trans HB.out.size hba.size) (fun j hj => (HO.out.lt j hj).1)
                have HO2 : Hid (wD.ownsRow wB.heap.size 125 2 u2 (k + 1) (((kd.2.2.1).take (k + 1)).flatMap trapV)) := by show World.ownsRow _ _ _ _ _ _ _; rw [HT.out, HXs.out]; exact ho2
                clear ho2 hba hga hat
                go_wp2_with fail
                go_roundw
                case rel => exact ⟨k + 1, _, by omega, by go_num, rfl, HO2.out, HB2.out⟩
                case measure => simp [intOf]; omega
            · obtain rfl : k = (kd.2.2.1).length := by omega
              have u1 : decide (((kd.2.2.1).length : Int) < ((kd.2.2.1).length : Int)) = false := decide_eq_false (by omega)
              have u2 : ¬ (((kd.2.2.1).length : Int) < ((kd.2.2.1).length : Int)) := by omega
              have u3 : decide ((kd.2.2.1).length < (kd.2.2.1).length) = false := decide_eq_false (by omega)
              have HO7 : Hid (wr.ownsRow wB.heap.size 125 2 u kd.2.2.1.length (kd.2.2.1.flatMap trapV)) := by have h9 := HO.out; rwa [List.take_length] at h9
              generalize u = r7 at *
              have HO3 := Lib.hid (ownsRow_below HO3.out HB.out)
              have HO5 := Lib.hid (ownsRow_below HO5.out HB.out)
              have HLb7 : Hid (eb + 1 < wB.heap.size) := HCz5.out.lt
              have HBt7 : Hid (Below W.heap.size W wr) := HBt5.out.trans (HB.out.mono HBt5.out.size)
              have HCw7 : Hid (Cut eb [.slice p0 kd.1.1.length k0, .slice p1 kd.1.2.1.length k1, .int .i64 kd.1.2.2.1, .string (str kd.1.2.2.2), .slice p4 kd.2.1.length k4, .slice p5 kd.2.2.1.length k5, .slice p6 kd.2.2.2.length k6] kpT wr) := cut_below HCw5.out HB.out
              have HCz7 : Hid (Cut (eb + 1) kZ rKT wr) := cut_below HCz5.out HB.out
              have HE1 := Lib.hid (HE1.out.below (by decide) HB.out)
              have HE4 := Lib.hid (HE4.out.below (by decide) HB.out)
              have HE5 := Lib.hid (HE5.out.below (by decide) HB.out)
              have HE6 := Lib.hid (HE6.out.below (by decide) HB.out)
              generalize wr = wC at *
              clear HB HO hk
              go_wp2_with fail
              clear u1 u2 u3 hcs
              go_loopw [9, 10] (fun va vi wr => ∃ (k : Nat) (u : Value), k ≤ (kd.2.2.2).length ∧ vi = .int .i64 k ∧ va = u ∧ wr.ownsRow wC.heap.size 127 2 u k (((kd.2.2.2).take k).flatMap prV) ∧ Below wC.heap.size wC wr) (fun _ vi _ => (kd.2.2.2).length - (intOf vi).toNat)
              case atStart => exact ⟨0, _, Nat.zero_le _, rfl, rfl, World.ownsRow_nil _ _ _ _, Below.refl _ _⟩
              case round =>
                obtain ⟨k, u, hk, rfl, hu, hown, hb⟩ := hrel
                rw [hu]
                clear hu
                have HB := Lib.hid hb
                have HO := Lib.hid hown
                clear hb hown
                have hcs : wr.cell? ⟨eb, 6, none⟩ = some (.slice p6 (kd.2.2.2).length k6) := (HB.out.cell (p := ⟨eb, 6, none⟩) (HCw7.out).lt).trans (((HCw7.out).cell 6).trans rfl)
                by_cases hlt : k < (kd.2.2.2).length
                · obtain ⟨bq, o, hpe, hbl, hcu⟩ := (HE6.out).at (by decide) hlt
                  subst hpe
                  have HKs := Lib.hid hcs
                  have HX := Lib.hid (fun W => row_idx Try.underlying29 2 (by kernel_rfl) bq o (kd.2.2.2).length k6 k hlt W)
                  have HF0 : Hid (wr.cell? ⟨bq, o + k * 2, none⟩ = some (.int .i64 ((kd.2.2.2)[k].1))) := (HB.out.cell (p := ⟨bq, o + k * 2, none⟩) hbl).trans (hcu 0 (show 0 < 2 by decide))
                  have HF1 : Hid (wr.cell? ⟨bq, o + k * 2 + 1, none⟩ = some (.int .i64 ((kd.2.2.2)[k].2))) := (HB.out.cell (p := ⟨bq, o + k * 2 + 1, none⟩) hbl).trans (hcu 1 (show 1 < 2 by decide))
                  have HT : Hid (((kd.2.2.2).take (k + 1)).flatMap prV = ((kd.2.2.2).take k).flatMap prV ++ prV (kd.2.2.2)[k]) := by show _ = _; rw [List.take_succ_eq_append_getElem hlt, List.flatMap_append]; simp
                  clear hcu hcs
                  generalize (kd.2.2.2)[k] = s at *
                  obtain ⟨xs, hxs⟩ : ∃ x, ((kd.2.2.2).take k).flatMap prV = x := ⟨_, rfl⟩
                  have HXs := Lib.hid hxs
                  rw [hxs] at HO
                  clear hxs
                  have hk9 : k ≤ 100000000 := by have := HN6.out; omega
                  have u1 : decide ((k : Int) < ((kd.2.2.2).length : Int)) = true := decide_eq_true (by omega)
                  have u2 : (k : Int) < ((kd.2.2.2).length : Int) := by omega
                  have u3 : decide (k < (kd.2.2.2).length) = true := decide_eq_true hlt
                  have hcs := HKs.out
                  go_upto_region 20 with fail
                  clear u1 u2 u3 hcs
                  have HLB : Hid (wC.heap.size ≤ wr.heap.size) := HB.out.size
                  obtain ⟨i0, hi0, hz0', hz1, hz2⟩ : ∃ i, Try.prog.info? 127 = some i ∧ i.zero = some (.agg #[.int .i64 0, .int .i64 0]) ∧ i.size = 2 ∧ i.bytes = 16 := info_parts (by kernel_rfl)
                  refine Rt.wp_region_rkt 16 [] [Rg.Is (u), Rg.Is (.pointer (some ⟨eb, 6, none⟩)), Rg.Is (.slice (some ⟨bq, o, none⟩) (kd.2.2.2).length k6), Rg.Is (.int .i64 (k : Int)), Rg.Is (.pointer (some ⟨bq, o + k * 2, none⟩)), Rg.Is (.pointer (some ⟨bq, o + k * 2, none⟩)), Rg.Is (.int .i64 (s.1)), Rg.Is (.pointer (some ⟨eb, 6, none⟩)), Rg.Is (.slice (some ⟨bq, o, none⟩) (kd.2.2.2).length k6), Rg.Is (.int .i64 (k : Int)), Rg.Is (.pointer (some ⟨bq, o + k * 2, none⟩)), Rg.Is (.pointer (some ⟨bq, o + k * 2 + 1, none⟩)), Rg.Is (.int .i64 (s.2)), Rg.Is (.agg #[.int .i64 (s.1), .int .i64 (s.2)]), (fun u' x => ∃ b1, u' = .slice (some ⟨b1, 0, none⟩) 1 1 ∧ wr.heap.size ≤ b1 ∧ x.heap[b1]? = some (.cells #[.int .i64 (s.1), .int .i64 (s.2)] 127)), (fun u' x => Apd wr u wC.heap.size 127 2 k xs [.int .i64 (s.1), .int .i64 (s.2)] u' x)] (fun _ _ => True) (fun ls x => ls 15 = false → Below wr.heap.size wr x) (fun k x y => if k = 15 then x.grownBy y (Value.ownBlock (u)) else Below x.heap.size x y) (by kernel_rfl) (by kernel_rfl) (of_decide_eq_true (by kernel_rfl)) (by kernel_rfl) (by kernel_rfl) trivial (fun _ => ⟨rfl, rfl, rfl, Nat.le_refl _, fun _ _ => rfl⟩) (fun ls ls' x e h1 h2 => h1 (by rw [e]; exact h2)) (fun _ _ _ _ _ => trivial) (fun i ls x _ h1 => by rw [show ([] : List Bool).getD i true = true from rfl] at h1; cases h1) ?_ ⟨rfl, rfl, rfl, rfl, rfl, rfl, rfl, rfl, rfl, rfl, rfl, rfl, rfl, rfl, rfl, rfl, trivial⟩ ⟨?_, ?_, ?_, ?_, ?_, ?_, ?_, ?_, ?_, ?_, ?_, ?_, ?_, ?_, ?_, ?_, trivial⟩ ?_
                  · intro i k u x y hik _ h1 hK
                    match i, h1, hik with
                    | 0, h1, _ => exact h1
                    | 1, h1, _ => exact h1
                    | 2, h1, _ => exact h1
                    | 3, h1, _ => exact h1
                    | 4, h1, _ => exact h1
                    | 5, h1, _ => exact h1
                    | 6, h1, _ => exact h1
                    | 7, h1, _ => exact h1
                    | 8, h1, _ => exact h1
                    | 9, h1, _ => exact h1
                    | 10, h1, _ => exact h1
                    | 11, h1, _ => exact h1
                    | 12, h1, _ => exact h1
                    | 13, h1, _ => exact h1
                    | 14, h1, hik =>
                      obtain ⟨b1, h2, h3, h4⟩ := h1
                      refine ⟨b1, h2, h3, ?_⟩
                      have hg1 := (Array.getElem?_eq_some_iff.1 h4).1
                      by_cases hk6 : k = 15
                      · subst hk6
                        rw [if_pos rfl] at hK
                        exact (hK.block b1 hg1 (fun e => by have := (HO.out.lt _ e.symm).2; omega)).trans h4
                      · rw [if_neg hk6] at hK
                        exact (hK.block b1 hg1).trans h4
                    | 15, h1, hik =>
                      rw [if_neg (fun e => hik e.symm)] at hK
                      exact h1.below hK
                    | _ + 16, _, _ => trivial
                  · intro _ b x ls hR hS hself hup hdn hk
                    have h9 : b.eval (.tmp 9) = u := Eq.mp (by kernel_rfl) (hk 9 (by decide))
                    have lA : ls 15 = false := hdn [] 15 _ rfl (by kernel_rfl)
                    have hb := hS lA
                    exact Rg.does_move ⟨by rw [if_neg (by decide)]; exact Below.refl _ _, h9, fun hh => hS hh⟩
                  · intro _ b x ls hR hS hself hup hdn hk
                    have h1 : b.eval (.tmp 1) = .pointer (some ⟨eb, 0, none⟩) := Eq.mp (by kernel_rfl) (hk 1 (by decide))
                    have lA : ls 15 = false := hdn [14, 13, 6, 5, 4, 2] 15 _ rfl (by kernel_rfl)
                    have hb := hS lA
                    exact Rs.does_field _ _ h1 (show (Instr.fieldAt 31 (.pointer (some ⟨eb, 0, none⟩)) 3).run Try.prog x = .ok (.pointer (some ⟨eb, 6, none⟩)) x from rfl) ⟨by rw [if_neg (by decide)]; exact Below.refl _ _, rfl, fun hh => hS hh⟩
                  · intro _ b x ls hR hS hself hup hdn hk
                    have h98 : b.eval (.tmp 98) = .pointer (some ⟨eb, 6, none⟩) := Eq.mp (by kernel_rfl) (hk 98 (by decide))
                    have lA : ls 15 = false := hdn [14, 13, 6, 5, 4] 15 _ rfl (by kernel_rfl)
                    have hb := hS lA
                    exact Rg.does_load _ _ h98 (Ap.load_plainP (by simp [isAgg]) (cell_below hb (Nat.le_refl _) HKs.out)) ⟨by rw [if_neg (by decide)]; exact Below.refl _ _, rfl, fun hh => hS hh⟩
                  · intro _ b x ls hR hS hself hup hdn hk
                    have h10 : b.eval (.tmp 10) = .int .i64 (k : Int) := Eq.mp (by kernel_rfl) (hk 10 (by decide))
                    have lA : ls 15 = false := hdn [14, 13, 6, 5, 4] 15 _ rfl (by kernel_rfl)
                    have hb := hS lA
                    exact Rg.does_move ⟨by rw [if_neg (by decide)]; exact Below.refl _ _, h10, fun hh => hS hh⟩
                  · intro _ b x ls hR hS hself hup hdn hk
                    have h99 : b.eval (.tmp 99) = .slice (some ⟨bq, o, none⟩) (kd.2.2.2).length k6 := Eq.mp (by kernel_rfl) (hk 99 (by decide))
                    have h100 : b.eval (.tmp 100) = .int .i64 (k : Int) := Eq.mp (by kernel_rfl) (hk 100 (by decide))
                    have lA : ls 15 = false := hdn [14, 13, 6, 5] 15 _ rfl (by kernel_rfl)
                    have hb := hS lA
                    exact Rg.does_index _ _ _ h99 h100 (HX.out x) ⟨by rw [if_neg (by decide)]; exact Below.refl _ _, rfl, fun hh => hS hh⟩
                  · intro _ b x ls hR hS hself hup hdn hk
                    have h101 : b.eval (.tmp 101) = .pointer (some ⟨bq, o + k * 2, none⟩) := Eq.mp (by kernel_rfl) (hk 101 (by decide))
                    have lA : ls 15 = false := hdn [14, 13, 6] 15 _ rfl (by kernel_rfl)
                    have hb := hS lA
                    exact Rs.does_field _ _ h101 (show (Instr.fieldAt 136 (.pointer (some ⟨bq, o + k * 2, none⟩)) 0).run Try.prog x = .ok (.pointer (some ⟨bq, o + k * 2, none⟩)) x from rfl) ⟨by rw [if_neg (by decide)]; exact Below.refl _ _, rfl, fun hh => hS hh⟩
                  · intro _ b x ls hR hS hself hup hdn hk
                    have h102 : b.eval (.tmp 102) = .pointer (some ⟨bq, o + k * 2, none⟩) := Eq.mp (by kernel_rfl) (hk 102 (by decide))
                    have lA : ls 15 = false := hdn [14, 13] 15 _ rfl (by kernel_rfl)
                    have hb := hS lA
                    exact Rg.does_load _ _ h102 (Ap.load_plainP (by simp [isAgg]) (cell_below hb (Nat.le_refl _) HF0.out)) ⟨by rw [if_neg (by decide)]; exact Below.refl _ _, rfl, fun hh => hS hh⟩
                  · intro _ b x ls hR hS hself hup hdn hk
                    have h1 : b.eval (.tmp 1) = .pointer (some ⟨eb, 0, none⟩) := Eq.mp (by kernel_rfl) (hk 1 (by decide))
                    have lA : ls 15 = false := hdn [14, 13, 12, 11, 10, 8] 15 _ rfl (by kernel_rfl)
                    have hb := hS lA
                    exact Rs.does_field _ _ h1 (show (Instr.fieldAt 31 (.pointer (some ⟨eb, 0, none⟩)) 3).run Try.prog x = .ok (.pointer (some ⟨eb, 6, none⟩)) x from rfl) ⟨by rw [if_neg (by decide)]; exact Below.refl _ _, rfl, fun hh => hS hh⟩
                  · intro _ b x ls hR hS hself hup hdn hk
                    have h104 : b.eval (.tmp 104) = .pointer (some ⟨eb, 6, none⟩) := Eq.mp (by kernel_rfl) (hk 104 (by decide))
                    have lA : ls 15 = false := hdn [14, 13, 12, 11, 10] 15 _ rfl (by kernel_rfl)
                    have hb := hS lA
                    exact Rg.does_load _ _ h104 (Ap.load_plainP (by simp [isAgg]) (cell_below hb (Nat.le_refl _) HKs.out)) ⟨by rw [if_neg (by decide)]; exact Below.refl _ _, rfl, fun hh => hS hh⟩
                  · intro _ b x ls hR hS hself hup hdn hk
                    have h10 : b.eval (.tmp 10) = .int .i64 (k : Int) := Eq.mp (by kernel_rfl) (hk 10 (by decide))
                    have lA : ls 15 = false := hdn [14, 13, 12, 11, 10] 15 _ rfl (by kernel_rfl)
                    have hb := hS lA
                    exact Rg.does_move ⟨by rw [if_neg (by decide)]; exact Below.refl _ _, h10, fun hh => hS hh⟩
                  · intro _ b x ls hR hS hself hup hdn hk
                    have h105 : b.eval (.tmp 105) = .slice (some ⟨bq, o, none⟩) (kd.2.2.2).length k6 := Eq.mp (by kernel_rfl) (hk 105 (by decide))
                    have h106 : b.eval (.tmp 106) = .int .i64 (k : Int) := Eq.mp (by kernel_rfl) (hk 106 (by decide))
                    have lA : ls 15 = false := hdn [14, 13, 12, 11] 15 _ rfl (by kernel_rfl)
                    have hb := hS lA
                    exact Rg.does_index _ _ _ h105 h106 (HX.out x) ⟨by rw [if_neg (by decide)]; exact Below.refl _ _, rfl, fun hh => hS hh⟩
                  · intro _ b x ls hR hS hself hup hdn hk
                    have h107 : b.eval (.tmp 107) = .pointer (some ⟨bq, o + k * 2, none⟩) := Eq.mp (by kernel_rfl) (hk 107 (by decide))
                    have lA : ls 15 = false := hdn [14, 13, 12] 15 _ rfl (by kernel_rfl)
                    have hb := hS lA
                    exact Rs.does_field _ _ h107 (show (Instr.fieldAt 136 (.pointer (some ⟨bq, o + k * 2, none⟩)) 1).run Try.prog x = .ok (.pointer (some ⟨bq, o + k * 2 + 1, none⟩)) x from rfl) ⟨by rw [if_neg (by decide)]; exact Below.refl _ _, rfl, fun hh => hS hh⟩
                  · intro _ b x ls hR hS hself hup hdn hk
                    have h108 : b.eval (.tmp 108) = .pointer (some ⟨bq, o + k * 2 + 1, none⟩) := Eq.mp (by kernel_rfl) (hk 108 (by decide))
                    have lA : ls 15 = false := hdn [14, 13] 15 _ rfl (by kernel_rfl)
                    have hb := hS lA
                    exact Rg.does_load _ _ h108 (Ap.load_plainP (by simp [isAgg]) (cell_below hb (Nat.le_refl _) HF1.out)) ⟨by rw [if_neg (by decide)]; exact Below.refl _ _, rfl, fun hh => hS hh⟩
                  · intro _ b x ls hR hS hself hup hdn hk
                    have h103 : b.eval (.tmp 103) = .int .i64 (s.1) := Eq.mp (by kernel_rfl) (hk 103 (by decide))
                    have h109 : b.eval (.tmp 109) = .int .i64 (s.2) := Eq.mp (by kernel_rfl) (hk 109 (by decide))
                    have lA : ls 15 = false := hdn [14] 15 _ rfl (by kernel_rfl)
                    have hb := hS lA
                    exact Ap.does_buildS #[(0, .int .i64 (s.1)), (1, .int .i64 (s.2))] (.agg #[.int .i64 (s.1), .int .i64 (s.2)]) (by simp [h103, h109]) (by go_simp) ⟨by rw [if_neg (by decide)]; exact Below.refl _ _, rfl, fun hh => hS hh⟩
                  · intro _ b x ls hR hS hself hup hdn hk
                    have h110 : b.eval (.tmp 110) = .agg #[.int .i64 (s.1), .int .i64 (s.2)] := Eq.mp (by kernel_rfl) (hk 110 (by decide))
                    have lA : ls 15 = false := hdn [] 15 _ rfl (by kernel_rfl)
                    have hb := hS lA
                    have hal := (Below.refl x.heap.size x).alloc (Nat.le_refl _) (.cells #[.int .i64 (s.1), .int .i64 (s.2)] 127)
                    exact Rg.does_build #[(0, .agg #[.int .i64 (s.1), .int .i64 (s.2)])] _ (by simp [h110]) (by go_simp) ⟨by rw [if_neg (by decide)]; exact hal, ⟨x.heap.size, rfl, hb.size, heap_alloc_new x _⟩, fun hh => hb.trans (hal.mono hb.size)⟩
                  · intro _ b x ls hR hS hself hup hdn hk
                    have h97 : b.eval (.tmp 97) = u := Eq.mp (by kernel_rfl) (hk 97 (by decide))
                    have h111 : (fun u' x => ∃ b1, u' = .slice (some ⟨b1, 0, none⟩) 1 1 ∧ wr.heap.size ≤ b1 ∧ x.heap[b1]? = some (.cells #[.int .i64 (s.1), .int .i64 (s.2)] 127)) (b.eval (.tmp 111)) x := Eq.mp (by kernel_rfl) (hk 111 (by decide))
                    have hb := hS hself
                    obtain ⟨b1, h2, h3, h4⟩ := h111
                    have hown : World.ownsRow x wC.heap.size 127 2 u k xs := ownsRow_below HO.out hb
                    obtain ⟨v', w', hrun, hown', hgr, hat⟩ := Ap.run_append_at (P := Try.prog) x wC.heap.size 53 53 53 127 i0 _ 2 16 Try.underlying53 (append_side Try.underlying53) hi0 hz0' hz1 hz2 rfl (by decide) (by decide) u k xs hown (.slice (some ⟨b1, 0, none⟩) 1 1) 1 [.int .i64 (s.1), .int .i64 (s.2)] (src_cells (b := b1) (off := 0) rfl (by simp [Value.oneCell']) (.inr rfl) (fun j u1 hu1 => by simp only [World.cell?, h4, Nat.zero_add]; simpa using hu1)) (by unfold maxLen; omega) (by omega) (Nat.le_trans HLB.out hb.size)
                    exact Ap.does_append u _ v' w' h97 h2 hrun ⟨by rw [if_pos rfl]; exact hgr, ⟨hown', x, hb, hgr, hat⟩, fun hh => by simp [Rs.upd] at hh⟩
                  · intro vals wD ls _ hSD _ hL
                    obtain ⟨g0, g1, g2, g3, g4, g5, g6, g7, g8, g9, g10, g11, g12, g13, g14, g15, _⟩ := hL
                    have hap : Apd wr u wC.heap.size 127 2 k xs [.int .i64 (s.1), .int .i64 (s.2)] (vals 15) wD := g15
                    simp only [Rg.putAll, List.take_succ_cons, List.take_zero, List.drop_succ_cons, List.drop_zero, List.setIfInBounds_toArray, List.set_cons_succ, List.set_cons_zero]
                    clear g0 g1 g2 g3 g4 g5 g6 g7 g8 g9 g10 g11 g12 g13 g14 g15
                    generalize vals 15 = u2 at *
                    obtain ⟨ho2, wa, hba, hga, hat⟩ := hap
                    have HB2 : Hid (Below wC.heap.size wC wD) := (HB.out.trans (hba.mono HB.out.size)).grown hga (Nat.le_trans HB.out.size hba.size) (fun j hj => (HO.out.lt j hj).1)
                    have HO2 : Hid (wD.ownsRow wC.heap.size 127 2 u2 (k + 1) (((kd.2.2.2).take (k + 1)).flatMap prV)) := by show World.ownsRow _ _ _ _ _ _ _; rw [HT.out, HXs.out]; exact ho2
                    clear ho2 hba hga hat
                    go_wp2_with fail
                    go_roundw
                    case rel => exact ⟨k + 1, _, by omega, by go_num, rfl, HO2.out, HB2.out⟩
                    case measure => simp [intOf]; omega
                · obtain rfl : k = (kd.2.2.2).length := by omega
                  have u1 : decide (((kd.2.2.2).length : Int) < ((kd.2.2.2).length : Int)) = false := decide_eq_false (by omega)
                  have u2 : ¬ (((kd.2.2.2).length : Int) < ((kd.2.2.2).length : Int)) := by omega
                  have u3 : decide ((kd.2.2.2).length < (kd.2.2.2).length) = false := decide_eq_false (by omega)
                  have HO9 : Hid (wr.ownsRow wC.heap.size 127 2 u kd.2.2.2.length (kd.2.2.2.flatMap prV)) := by have h9 := HO.out; rwa [List.take_length] at h9
                  generalize u = r9 at *
                  have HO3 := Lib.hid (ownsRow_below HO3.out HB.out)
                  have HO5 := Lib.hid (ownsRow_below HO5.out HB.out)
                  have HO7 := Lib.hid (ownsRow_below HO7.out HB.out)
                  have HLb9 : Hid (eb + 1 < wC.heap.size) := HCz7.out.lt
                  have HBt9 : Hid (Below W.heap.size W wr) := HBt7.out.trans (HB.out.mono HBt7.out.size)
                  have HCw9 : Hid (Cut eb [.slice p0 kd.1.1.length k0, .slice p1 kd.1.2.1.length k1, .int .i64 kd.1.2.2.1, .string (str kd.1.2.2.2), .slice p4 kd.2.1.length k4, .slice p5 kd.2.2.1.length k5, .slice p6 kd.2.2.2.length k6] kpT wr) := cut_below HCw7.out HB.out
                  have HCz9 : Hid (Cut (eb + 1) kZ rKT wr) := cut_below HCz7.out HB.out
                  have HE1 := Lib.hid (HE1.out.below (by decide) HB.out)
                  have HE4 := Lib.hid (HE4.out.below (by decide) HB.out)
                  have HE5 := Lib.hid (HE5.out.below (by decide) HB.out)
                  have HE6 := Lib.hid (HE6.out.below (by decide) HB.out)
                  generalize wr = wD at *
                  clear HB HO hk
                  obtain ⟨a3, c3, rfl, _, _, _, _⟩ := ownsRow_slice HO3.out
                  obtain ⟨a5, c5, rfl, _, _, _, _⟩ := ownsRow_slice HO5.out
                  obtain ⟨a7, c7, rfl, _, _, _, _⟩ := ownsRow_slice HO7.out
                  obtain ⟨a9, c9, rfl, _, _, _, _⟩ := ownsRow_slice HO9.out
                  have x1 : wD.cell? ⟨eb, 1, none⟩ = some (.slice p1 kd.1.2.1.length k1) := HCw9.out.cell 1
                  have x2 : wD.cell? ⟨eb, 2, none⟩ = some (.int .i64 kd.1.2.2.1) := HCw9.out.cell 2
                  have x3 : wD.cell? ⟨eb, 3, none⟩ = some (.string (str kd.1.2.2.2)) := HCw9.out.cell 3
                  obtain ⟨tE, wF, hwE, htE, hcE, hbE⟩ : ∃ tE wF, wD.alloc (.cells #[.slice a3 kd.1.1.length c3, .slice p1 kd.1.2.1.length k1, .int .i64 kd.1.2.2.1, .string (str kd.1.2.2.2)] rET) = wF ∧ wD.heap.size = tE ∧ Cut tE [.slice a3 kd.1.1.length c3, .slice p1 kd.1.2.1.length k1, .int .i64 kd.1.2.2.1, .string (str kd.1.2.2.2)] rET wF ∧ Below wD.heap.size wD wF := ⟨_, _, rfl, rfl, heap_alloc_new wD _, (Below.refl wD.heap.size wD).alloc (Nat.le_refl _) _⟩
                  have HWE := Lib.hid hwE
                  have HTE := Lib.hid htE
                  have HcF := Lib.hid hcE
                  have HbF := Lib.hid hbE
                  clear hwE htE hcE hbE
                  go_upto_region 22 with fail
                  clear u1 u2 u3 hcs x1 x2 x3
                  rw [HWE.out, HTE.out]
                  have HcK : Hid (Cut (eb + 1) kZ rKT wF) := cut_below HCz9.out HbF.out
                  obtain ⟨dd, hdu, hdr⟩ := Option.map_eq_some_iff.1 und_rE
                  have HDu := Lib.hid hdu
                  have HDr := Lib.hid hdr
                  clear hdu hdr
                  go_wp2_with (first | (refine wpList_load_g (by kernel_rfl) rET (.tmp 11) rfl tE 0 rfl [.slice a3 kd.1.1.length c3, .slice p1 kd.1.2.1.length k1, .int .i64 kd.1.2.2.1, .string (str kd.1.2.2.2)] dd (cut_range HcF.out) HDu.out HDr.out info_rE ?_) | (refine wpList_store_mid (by kernel_rfl) rKT (.tmp 2) (.tmp 128) rfl (eb + 1) 0 #[.slice a3 kd.1.1.length c3, .slice p1 kd.1.2.1.length k1, .int .i64 kd.1.2.2.1, .string (str kd.1.2.2.2), .slice a5 kd.2.1.length c5, .slice a7 kd.2.2.1.length c7, .slice a9 kd.2.2.2.length c9] rfl rfl (show wF.there (eb + 1) 0 7 from there_cut HcK.out 7 (Nat.le_refl 7)) info_rK (List.all_toArray.trans (by rfl)) ?_; (obtain ⟨wL, hwL⟩ : ∃ x, wF.setCells (eb + 1) 0 [.slice a3 kd.1.1.length c3, .slice p1 kd.1.2.1.length k1, .int .i64 kd.1.2.2.1, .string (str kd.1.2.2.2), .slice a5 kd.2.1.length c5, .slice a7 kd.2.2.1.length c7, .slice a9 kd.2.2.2.length c9] = x := ⟨_, rfl⟩); have HWL := Lib.hid hwL; (refine (congrArg (wpList _ _ _ _ _) hwL).mpr ?_); clear hwL))
                  have HgK := Lib.hid (Sl.setCells_grown (eb + 1) [.slice a3 kd.1.1.length c3, .slice p1 kd.1.2.1.length k1, .int .i64 kd.1.2.2.1, .string (str kd.1.2.2.2), .slice a5 kd.2.1.length c5, .slice a7 kd.2.2.1.length c7, .slice a9 kd.2.2.2.length c9] 0 wF)
                  have HcL : Hid (Cut (eb + 1) [.slice a3 kd.1.1.length c3, .slice p1 kd.1.2.1.length k1, .int .i64 kd.1.2.2.1, .string (str kd.1.2.2.2), .slice a5 kd.2.1.length c5, .slice a7 kd.2.2.1.length c7, .slice a9 kd.2.2.2.length c9] rKT (wF.setCells (eb + 1) 0 [.slice a3 kd.1.1.length c3, .slice p1 kd.1.2.1.length k1, .int .i64 kd.1.2.2.1, .string (str kd.1.2.2.2), .slice a5 kd.2.1.length c5, .slice a7 kd.2.2.1.length c7, .slice a9 kd.2.2.2.length c9])) := set_cut HcK.out rfl
                  rw [HWL.out] at HgK HcL
                  have HbL : Hid (Below W.heap.size W wL) := (HBt9.out.trans (HbF.out.mono HBt9.out.size)).grown HgK.out (Nat.le_trans HBt9.out.size HbF.out.size) (fun j hj => by have := Option.some.inj hj; have := HEb.out; omega)
                  have HQ3 := Lib.hid (own_other (ownsRow_below HO3.out HbF.out) HgK.out (fun j hj e => by have h1 := Option.some.inj hj; have h2 := (HO3.out.lt _ e).1; have := HLb3.out; omega))
                  have HQ5 := Lib.hid (own_other (ownsRow_below HO5.out HbF.out) HgK.out (fun j hj e => by have h1 := Option.some.inj hj; have h2 := (HO5.out.lt _ e).1; have := HLb5.out; omega))
                  have HQ7 := Lib.hid (own_other (ownsRow_below HO7.out HbF.out) HgK.out (fun j hj e => by have h1 := Option.some.inj hj; have h2 := (HO7.out.lt _ e).1; have := HLb7.out; omega))
                  have HQ9 := Lib.hid (own_other (ownsRow_below HO9.out HbF.out) HgK.out (fun j hj e => by have h1 := Option.some.inj hj; have h2 := (HO9.out.lt _ e).1; have := HLb9.out; omega))
                  refine bodyPost_ret (results_cell1 rfl _ _ _ (eb + 1) (.agg [.slice a3 kd.1.1.length c3, .slice p1 kd.1.2.1.length k1, .int .i64 kd.1.2.2.1, .string (str kd.1.2.2.2), .slice a5 kd.2.1.length c5, .slice a7 kd.2.2.1.length c7, .slice a9 kd.2.2.2.length c9].toArray) rfl (loadv_cut HcL.out und_rK info_rK)) rfl ?_
                  refine ⟨_, rfl, rfl, fun w9 hg9 => ?_, HbL.out⟩
                  have hqB : ∀ j, Z j → j < W.heap.size := fun j hj => (HQq.out j hj).2
                  have hbA : Below W.heap.size W w1 := HB1.out
                  have hR3 := own_rowA (k := 2) (V := varV) (fun _ => rfl) (own_but HQ3.out hg9 (fun j e hj => by have h1 := hqB j hj; have h2 := (HQ3.out.lt _ e).1; have h3 := HB1.out.size; omega))
                  have hR5 := own_rowA (k := 3) (V := fnV) (fun _ => rfl) (own_but HQ5.out hg9 (fun j e hj => by have h1 := hqB j hj; have h2 := (HQ5.out.lt _ e).1; have h3 := HBt3.out.size; omega))
                  have hR7 := own_rowA (k := 2) (V := trapV) (fun _ => rfl) (own_but HQ7.out hg9 (fun j e hj => by have h1 := hqB j hj; have h2 := (HQ7.out.lt _ e).1; have h3 := HBt5.out.size; omega))
                  have hR9 := own_rowA (k := 2) (V := prV) (fun _ => rfl) (own_but HQ9.out hg9 (fun j e hj => by have h1 := hqB j hj; have h2 := (HQ9.out.lt _ e).1; have h3 := HBt7.out.size; omega))
                  have hb9 : Below W0.heap.size W0 w9 := below_but (HB00.out.trans (HbL.out.mono HB00.out.size)) hg9 (Nat.le_trans HB00.out.size HbL.out.size) (fun j hj => (HQq.out j hj).1)
                  have hR1 : strsA w9 [.slice p1 kd.1.2.1.length k1] kd.1.2.1 := by
                    obtain ⟨g1, g2, g3⟩ := HRs.out.below (by decide) hb9
                    exact ⟨p1, k1, rfl, g1, g2, g3⟩
                  exact ⟨[.slice a3 kd.1.1.length c3, .slice p1 kd.1.2.1.length k1, .int .i64 kd.1.2.2.1, .string (str kd.1.2.2.2)], _, rfl, rfl, ⟨[.slice a3 kd.1.1.length c3], _, rfl, rfl, hR3, [.slice p1 kd.1.2.1.length k1], _, rfl, rfl, hR1, [.int .i64 kd.1.2.2.1], _, rfl, rfl, rfl, rfl⟩, [.slice a5 kd.2.1.length c5], _, rfl, rfl, hR5, [.slice a7 kd.2.2.1.length c7], _, rfl, rfl, hR7, hR9⟩
end Go.Proofs.Ytnmlnaoljkhjeaa
