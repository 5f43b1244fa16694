/-
  Syntax: SyntaxLeft answers true. Conditions: what must lie there lies there; the row of truths reads as a list.
-/
import Derived.Test.YtknncfoaegmphaaGreatDoorSyLeft
set_option linter.unusedVariables false
set_option linter.unusedSimpArgs false
set_option maxRecDepth 100000
namespace Go.Proofs.YtknncfoaegmphaaGreatDoor.Sx
open Go.RowKit Base Lx Sy

def bAt (w : World) (b o : Nat) (x : Bool) : Prop := w.cell? ⟨b, o, none⟩ = some (.bool x)
theorem info_bl : (Tryz.prog.info? 4).map (fun i => (i.zero, i.size, i.bytes)) = some (some (.bool false), 1, 1) := by kernel_rfl
theorem bools_at {w : World} {a : Option Addr} {n cap : Nat} {l : List Bool} (h : RowOf bAt 1 w a n cap l) : ∃ b off, (∀ k (hk : k < l.length), w.cell? ⟨b, off + k, none⟩ = some (.bool l[k])) ∧
    ∀ (k : Nat) (w' : World), k < l.length → (Instr.indexAt 40 (.slice a n cap) (.int .i64 (k : Int))).run Tryz.prog w' = .ok (.pointer (some ⟨b, off + k, none⟩)) w' := by
  obtain ⟨i0, hi0, hz0, hz1, hz2⟩ := info_parts info_bl
  have hn : n = l.length := h.1
  subst hn
  obtain ⟨b, off, h1, h2⟩ := h.at (P := Tryz.prog)
  exact ⟨b, off, fun k hk => by simpa [bAt] using h1 k hk, fun k w' hk => by simpa using h2 40 4 i0 Tryz.underlying40 hi0 hz1 .i64 k w' hk⟩
theorem load_tr {w : World} {b : Nat} {v : Value} (h : w.cell? ⟨b, 0, none⟩ = some v) : (Instr.loadAt trT (.pointer (some ⟨b, 0, none⟩))).run Tryz.prog w = .ok (.agg #[v]) w := by go_simp
theorem load_is {w : World} {ad : Addr} {v : Value} (h : w.cell? ad = some v) : (Instr.loadAt 29 (.pointer (some ad))).run Tryz.prog w = .ok v w := Ap.load_plainP (by simp [isAgg]) h
abbrev lt6 : List Nd := [{ k := 1, ws := [[97]], ln := 1 }, { k := 1, ws := [[98]], ln := 1 }, { k := 2, fl := true, ks := [0, 1], ln := 1 }, { k := 1, ws := [[99]], ln := 1 }, { k := 3, ks := [2, 3], ln := 1 }, { k := 5, ks := [4], ln := 1 }]
theorem lt_6 : parseM [33, 32, 97, 32, 124, 32, 98, 32, 38, 38, 32, 99] = .ok lt6 := by rfl
def piecesTo (l : List Bool) (i : Nat) : Nm := 97 :: 48 :: restT (l.take i)
theorem pieces_succ {l : List Bool} {i : Nat} (h : i < l.length) : piecesTo l (i + 1) = piecesTo l i ++ piece l[i] := by
  unfold piecesTo restT
  rw [List.take_succ_eq_append_getElem h, List.flatMap_append]
  simp
theorem pieces_len (l : List Bool) (i : Nat) : (piecesTo l i).length ≤ 2 + 6 * i := by
  unfold piecesTo
  have h : ∀ m : List Bool, (restT m).length ≤ 6 * m.length := fun m => by
    induction m with
    | nil => simp [restT]
    | cons b r ih =>
      rw [rest_cons, List.length_append, List.length_cons]
      have : (piece b).length ≤ 6 := by cases b <;> decide
      omega
  have h1 := h (l.take i)
  have h2 : (l.take i).length ≤ i := by simp; omega
  simp only [List.length_cons]
  omega
theorem pieces_all (l : List Bool) : piecesTo l l.length = leftS l := by unfold piecesTo leftS; rw [List.take_length]
def vN : Value → Nat
  | .int _ z => z.toNat
  | _ => 0
set_option maxHeartbeats 8000000 in
theorem left_calls (W : World) (a0 : Option Addr) (n c0 : Nat) (xs : List Bool) (h : RowOf bAt 1 W a0 n c0 xs) (hO : Gl W) : Calls Tryz.prog 7 #[.slice a0 n c0] W fun r W' => r = .returned (.bool true) ∧ Below W.heap.size W W' := by
  have HO := Lib.hid hO
  have hn : xs.length = n := h.1.symm
  obtain ⟨bb, oo, hbc, hbi⟩ := bools_at h
  have HBc := Lib.hid hbc
  have HBi : Hid (∀ (k : Nat) (w' : World), k < n → (Instr.indexAt 40 (.slice a0 n c0) (.int .i64 (k : Int))).run Tryz.prog w' = .ok (.pointer (some ⟨bb, oo + k, none⟩)) w') := fun k w' hk => hbi k w' (by rw [hn]; exact hk)
  have HNx := Lib.hid hn
  clear hO h hbc hbi hn
  go_enter Tryz.func7, Tryz.ntmps7
  go_wp2_with fail
  refine (awake_calls W HO.out).mono ?_
  rintro r w1 ⟨rfl, hb1⟩
  have HB1 := Lib.hid hb1
  have HO1 := Lib.hid (HO.out.below hb1)
  clear hb1
  by_cases hlong : 30 < n
  · have u1 : decide ((30 : Int) < (n : Int)) = true := decide_eq_true (by omega)
    have u2 : (30 : Int) < (n : Int) := by omega
    go_wp2_with fail
    go_ret
    exact ⟨rfl, HB1.out⟩
  have u1 : decide ((30 : Int) < (n : Int)) = false := decide_eq_false (by omega)
  have u2 : ¬ ((30 : Int) < (n : Int)) := by omega
  have hn30 : n ≤ 30 := by omega
  go_upto_region 8 with fail
  clear u1 u2 hlong
  go_loopw [4, 5] (fun v4 v5 wr => ∃ i : Nat, i ≤ n ∧ v5 = .int .i64 (i : Int) ∧ v4 = .string (str (piecesTo xs i)) ∧ wr = w1) (fun _ v5 _ => n - vN v5)
  case atStart => exact ⟨0, Nat.zero_le _, rfl, rfl, rfl⟩
  case round =>
    obtain ⟨i, hi, rfl, rfl, hwr⟩ := hrel
    have hwr2 := hwr.symm
    subst hwr2
    clear hwr
    by_cases hlt : i < n
    case pos =>
      have a3 : decide (i < n) = true := decide_eq_true (by omega)
      have a1 : decide ((i : Int) < (n : Int)) = true := decide_eq_true (by omega)
      have a2 : (i : Int) < (n : Int) := by omega
      have hix : i < xs.length := by rw [HNx.out]; exact hlt
      have hl := pieces_len xs i
      have s1 : (str (piecesTo xs i)).size + 5 ≤ 9223372036854775807 := by rw [str_size]; omega
      have s2 : (str (piecesTo xs i)).size + 6 ≤ 9223372036854775807 := by rw [str_size]; omega
      have j1 : ∀ w, (Instr.indexAt 40 (.slice a0 n c0) (.int .i64 (i : Int))).run Tryz.prog w = .ok (.pointer (some ⟨bb, oo + i, none⟩)) w := fun w => HBi.out i w hlt
      have g1 : w1.cell? ⟨bb, oo + i, none⟩ = some (.bool xs[i]) := cell_below HB1.out (Nat.le_refl _) (HBc.out i hix)
      have hps := pieces_succ hix
      obtain ⟨y, hy⟩ : ∃ y, xs[i] = y := ⟨_, rfl⟩
      rw [hy] at g1 hps
      clear hy
      cases y with
      | true =>
        have e1 : str (piecesTo xs i) ++ ⟨#[32, 38, 38, 32, 98]⟩ = str (piecesTo xs (i + 1)) := by rw [hps]; exact str_append _ _
        clear hps hix
        go_wp2_with fail
        go_roundw
        case rel => exact ⟨i + 1, by omega, by go_num, rfl, trivial⟩
        case measure => simp [vN]; omega
      | false =>
        have e1 : str (piecesTo xs i) ++ ⟨#[32, 124, 124, 10, 32, 98]⟩ = str (piecesTo xs (i + 1)) := by rw [hps]; exact str_append _ _
        clear hps hix
        go_wp2_with fail
        go_roundw
        case rel => exact ⟨i + 1, by omega, by go_num, rfl, trivial⟩
        case measure => simp [vN]; omega
    case neg =>
      obtain rfl : i = n := by omega
      have a3 : decide (i < i) = false := decide_eq_false (by omega)
      have a1 : decide ((i : Int) < (i : Int)) = false := decide_eq_false (by omega)
      have a2 : ¬ ((i : Int) < (i : Int)) := by omega
      have hS : piecesTo xs i = leftS xs := by rw [← HNx.out]; exact pieces_all xs
      have hSl : (leftS xs).length ≤ 4096 := by rw [← hS]; have := pieces_len xs i; omega
      rw [hS]
      clear hS hlt hi
      go_wp2_with fail
      refine (parse_calls w1 (leftS xs) hSl HO1.out.sig HO1.out.glb).mono ?_
      rintro r w2 ⟨hb2, hr⟩
      obtain ⟨K, g0, hX⟩ := left_parse xs
      rw [hX] at hr
      obtain ⟨v, rfl, hrow⟩ := hr
      obtain ⟨sa, sc, hv, b1, off, hcs, hix⟩ := nodes_at hrow
      have hlen : (leftR K g0 xs).length = 2 * i + 2 := by rw [leftR_len, HNx.out]
      obtain ⟨L, hL⟩ : ∃ L, (leftR K g0 xs).length = L := ⟨_, rfl⟩
      rw [hL] at hv hix hlen
      subst hv
      have HLe := Lib.hid hlen
      have HIx := Lib.hid hix
      clear hix hL hlen a1 a2
      go_upto_region 14 with fail
      obtain ⟨T, hT⟩ : ∃ T, w2.heap.size = T := ⟨_, rfl⟩
      obtain ⟨w3, hw3⟩ : ∃ w3, w2.alloc (.cells #[.slice sa L sc] trT) = w3 := ⟨_, rfl⟩
      have hx3 : w3.heap[T]? = some (.cells #[.slice sa L sc] trT) := by rw [← hw3, ← hT]; exact heap_alloc_new _ _
      have hb23 : Below w2.heap.size w2 w3 := by rw [← hw3]; exact (Below.refl _ _).alloc (Nat.le_refl _) _
      have hb3 : Below w1.heap.size w1 w3 := by rw [← hw3]; exact hb2.alloc hb2.size _
      have HB3 := Lib.hid (HB1.out.trans (hb3.mono HB1.out.size))
      have HX3 := Lib.hid hx3
      have HBw : Hid (Below w1.heap.size w1 w3) := hb3
      have HCs3 : Hid (∀ (k : Nat) (m : Nd), (leftR K g0 xs)[k]? = some m → ∃ uw ur uk, NdAt w3 (fun g => w1.heap.size ≤ g) b1 (off + k * 8) m uw ur uk) := fun k m hk => by
        obtain ⟨uw, ur, uk, h⟩ := hcs k m hk
        exact ⟨uw, ur, uk, h.below hb23⟩
      obtain ⟨m3, n3⟩ := cell_of hx3
      rw [hw3, hT]
      have e4 : ((L : Int) == 2 * (i : Int) + 2) = true := by rw [beq_iff_eq]; have := HLe.out; omega
      have e5 : ((L : Int) != 2 * (i : Int) + 2) = false := by simp; have := HLe.out; omega
      clear hw3 hT hx3 hb3 hb2 hb23 hcs hrow hX
      obtain ⟨uw, ur, uk, hnd⟩ := HCs3.out (2 * i + 1) _ (by have := leftR_last K g0 xs; rw [HNx.out] at this; exact this)
      obtain ⟨ak, ck, hvk, b2, o2, hck, hik⟩ := ints_at (hh := [2 * i]) hnd.rows.k
      subst hvk
      have HKc : Hid (w3.cell? ⟨b1, off + (2 * i + 1) * 8 + 6, none⟩ = some (.slice ak 1 ck)) := hnd.cells 6 _ rfl
      have HK0 : Hid (w3.cell? ⟨b2, o2, none⟩ = some (.int .i64 ((2 * i : Nat) : Int))) := hck 0 _ rfl
      have HKi : Hid (∀ w, (Instr.indexAt 29 (.slice ak 1 ck) (.int .i64 0)).run Tryz.prog w = .ok (.pointer (some ⟨b2, o2, none⟩)) w) := fun w => hik 0 w (by simp)
      have HRi : Hid (∀ w, (Instr.indexAt 23 (.slice sa L sc) (.int .i64 ((L : Int) - 1))).run Tryz.prog w = .ok (.pointer (some ⟨b1, off + (2 * i + 1) * 8, none⟩)) w) := fun w => by
        rw [show (L : Int) - 1 = ((2 * i + 1 : Nat) : Int) by have := HLe.out; omega]
        exact HIx.out _ w (by have := HLe.out; omega)
      have HTl : Hid (T < w3.heap.size) := (Array.getElem?_eq_some_iff.1 HX3.out).1
      have HL9 : Hid (L ≤ 1000) := by have := HLe.out; show _ ≤ _; omega
      clear hnd hck hik
      go_upto_region 16 with fail
      refine Rg.wp_region_rgt 7 [] [Rg.Is (.pointer (some ⟨T, 0, none⟩)), Rg.Is (.slice sa L sc), Rg.Is (.agg #[.slice sa L sc]), Rg.Is (.int .i64 ((L : Int) - 1)), Rg.Is (.pointer (some ⟨b1, off + (2 * i + 1) * 8, none⟩)), Rg.Is (.pointer (some ⟨b1, off + (2 * i + 1) * 8 + 6, none⟩)), Rg.Is (.slice ak 1 ck)] (by kernel_rfl) (by kernel_rfl) (of_decide_eq_true (by kernel_rfl)) (by kernel_rfl) (by kernel_rfl) ⟨Rg.st_is _, Rg.st_is _, Rg.st_is _, Rg.st_is _, Rg.st_is _, Rg.st_is _, Rg.st_is _, trivial⟩ ⟨rfl, rfl, rfl, rfl, rfl, rfl, rfl, trivial⟩ ⟨?_, ?_, ?_, ?_, ?_, ?_, ?_, trivial⟩ ?_
      · intro _ a wx hb hk
        have h6 : a.eval (.tmp 6) = .pointer (some ⟨T, 0, none⟩) := Eq.mp (by kernel_rfl) (hk 6 (by decide))
        exact Rs.does_field _ _ h6 (fld_tree T 0 wx) ⟨Below.refl _ _, rfl⟩
      · intro _ a wx hb hk
        have h56 : a.eval (.tmp 56) = .pointer (some ⟨T, 0, none⟩) := Eq.mp (by kernel_rfl) (hk 56 (by decide))
        exact Rg.does_load _ _ h56 (load_nds (cell_of ((hb.block T HTl.out).trans HX3.out)).1) ⟨Below.refl _ _, rfl⟩
      · intro _ a wx hb hk
        have h6 : a.eval (.tmp 6) = .pointer (some ⟨T, 0, none⟩) := Eq.mp (by kernel_rfl) (hk 6 (by decide))
        exact Rg.does_load _ _ h6 (load_tr (cell_of ((hb.block T HTl.out).trans HX3.out)).1) ⟨Below.refl _ _, rfl⟩
      · intro _ a wx hb hk
        have h58 : a.eval (.tmp 58) = .agg #[.slice sa L sc] := Eq.mp (by kernel_rfl) (hk 58 (by decide))
        refine Rg.does_func #[.agg #[.slice sa L sc]] Tryz.func11 (by kernel_rfl) (by kernel_rfl) (by simp [h58]) (root_calls wx sa L sc (by have := HL9.out; omega)) ?_
        rintro e w' ⟨rfl, hb'⟩
        exact ⟨_, rfl, hb', rfl⟩
      · intro _ a wx hb hk
        have h57 : a.eval (.tmp 57) = .slice sa L sc := Eq.mp (by kernel_rfl) (hk 57 (by decide))
        have h59 : a.eval (.tmp 59) = .int .i64 ((L : Int) - 1) := Eq.mp (by kernel_rfl) (hk 59 (by decide))
        exact Rg.does_index _ _ _ h57 h59 (HRi.out wx) ⟨Below.refl _ _, rfl⟩
      · intro _ a wx hb hk
        have h60 : a.eval (.tmp 60) = .pointer (some ⟨b1, off + (2 * i + 1) * 8, none⟩) := Eq.mp (by kernel_rfl) (hk 60 (by decide))
        exact Rs.does_field _ _ h60 (by go_simp) ⟨Below.refl _ _, rfl⟩
      · intro _ a wx hb hk
        have h61 : a.eval (.tmp 61) = .pointer (some ⟨b1, off + (2 * i + 1) * 8 + 6, none⟩) := Eq.mp (by kernel_rfl) (hk 61 (by decide))
        exact Rg.does_load _ _ h61 (load_is (cell_below hb (Nat.le_refl _) HKc.out)) ⟨Below.refl _ _, rfl⟩
      intro vals wD hbD hL
      obtain ⟨g0, g1, g2, g3, g4, g5, g6, _⟩ := hL
      have e6 : vals 6 = .slice ak 1 ck := g6
      simp only [Rg.putAll, List.take_succ_cons, List.take_zero, List.drop_succ_cons, List.drop_zero, List.setIfInBounds_toArray, List.set_cons_succ, List.set_cons_zero, e6]
      have HBd : Hid (Below w3.heap.size w3 wD) := hbD
      have hk0 : wD.cell? ⟨b2, o2, none⟩ = some (.int .i64 ((2 * i : Nat) : Int)) := cell_below hbD (Nat.le_refl _) HK0.out
      have hki := HKi.out
      clear g0 g1 g2 g3 g4 g5 g6 e6 hbD m3 n3 e4 e5
      go_upto_region 21 with fail
      clear hk0 hki
      go_loopw [10, 11] (fun v10 v11 wr => ∃ m : Nat, m ≤ i ∧ v10 = .int .i64 ((2 * m : Nat) : Int) ∧ v11 = .int .i64 ((m : Int) - 1) ∧ Below w3.heap.size w3 wr) (fun v10 _ _ => vN v10)
      case atStart => exact ⟨i, Nat.le_refl _, rfl, rfl, HBd.out⟩
      case round =>
        obtain ⟨m, hm, rfl, rfl, hbr⟩ := hrel
        have HBr := Lib.hid hbr
        obtain ⟨m3, n3⟩ := cell_of ((hbr.block T HTl.out).trans HX3.out)
        by_cases h0 : m = 0
        case neg =>
          obtain ⟨p, rfl⟩ : ∃ p, m = p + 1 := ⟨m - 1, by omega⟩
          have ep : ((p + 1 : Nat) : Int) - 1 = (p : Int) := by omega
          rw [ep]
          have hpx : p < xs.length := by rw [HNx.out]; omega
          have hpi : p < i := by omega
          obtain ⟨uw, ur, uk, hnd⟩ := HCs3.out (2 * (p + 1)) _ (leftR_op K g0 xs p hpx)
          have hnr := hnd.below hbr
          obtain ⟨aw, cw, hvw, _⟩ := ownsRow_slice hnr.rows.w
          obtain ⟨ar, cr, hvr, _⟩ := ownsRow_slice hnr.rows.r
          obtain ⟨aq, cq, hvq, b3, o3, hcq, hiq⟩ := ints_at (hh := [2 * p, 2 * p + 1]) hnr.rows.k
          subst hvw hvr hvq
          obtain ⟨ln, hnb⟩ := leftR_b K g0 xs p hpx
          obtain ⟨uw2, ur2, uk2, hnd2⟩ := HCs3.out (2 * p + 1) _ hnb
          have hnr2 := hnd2.below hbr
          have HNq := Lib.hid hnr2
          have HNp := Lib.hid hnr
          obtain ⟨aw2, cw2, hvw2, b4, o4, hcw2, hiw2⟩ := words_at (l := [[98]]) hnr2.rows.w
          subst hvw2
          obtain ⟨y, hy⟩ : ∃ y, xs[p] = y := ⟨_, rfl⟩
          have gb : wr.cell? ⟨bb, oo + p, none⟩ = some (.bool y) := by rw [← hy]; exact cell_below (HB3.out.trans (hbr.mono HB3.out.size)) (Nat.le_refl _) (HBc.out p hpx)
          rw [hy] at hnr
          have j0 : ∀ w, (Instr.indexAt 40 (.slice a0 i c0) (.int .i64 (p : Int))).run Tryz.prog w = .ok (.pointer (some ⟨bb, oo + p, none⟩)) w := fun w => HBi.out p w hpi
          have j1 : ∀ w, (Instr.indexAt 23 (.slice sa L sc) (.int .i64 (2 * ((p : Int) + 1)))).run Tryz.prog w = .ok (.pointer (some ⟨b1, off + 2 * (p + 1) * 8, none⟩)) w := fun w => by
            rw [show 2 * ((p : Int) + 1) = ((2 * (p + 1) : Nat) : Int) by omega]
            exact HIx.out _ w (by have := HLe.out; omega)
          have j2 : ∀ w, (Instr.indexAt 23 (.slice sa L sc) (.int .i64 (2 * (p : Int) + 1))).run Tryz.prog w = .ok (.pointer (some ⟨b1, off + (2 * p + 1) * 8, none⟩)) w := fun w => by
            rw [show 2 * (p : Int) + 1 = ((2 * p + 1 : Nat) : Int) by omega]
            exact HIx.out _ w (by have := HLe.out; omega)
          obtain ⟨kk, hkk⟩ : ∃ kk : Nat, (if y = true then 3 else 4) = kk := ⟨_, rfl⟩
          have x0 : wr.cell? ⟨b1, off + 2 * (p + 1) * 8, none⟩ = some (.int .i64 (kk : Int)) := by rw [← hkk]; exact hnr.cells 0 _ rfl
          have x1 : wr.cell? ⟨b1, off + 2 * (p + 1) * 8 + 1, none⟩ = some (.string ⟨#[]⟩) := hnr.cells 1 _ rfl
          have x2 : wr.cell? ⟨b1, off + 2 * (p + 1) * 8 + 2, none⟩ = some (.bool false) := hnr.cells 2 _ rfl
          have x3 : wr.cell? ⟨b1, off + 2 * (p + 1) * 8 + 3, none⟩ = some (.slice aw 0 cw) := hnr.cells 3 _ rfl
          have x4 : wr.cell? ⟨b1, off + 2 * (p + 1) * 8 + 4, none⟩ = some (.int .i64 0) := hnr.cells 4 _ rfl
          have x5 : wr.cell? ⟨b1, off + 2 * (p + 1) * 8 + 5, none⟩ = some (.slice ar 0 cr) := hnr.cells 5 _ rfl
          have x6 : wr.cell? ⟨b1, off + 2 * (p + 1) * 8 + 6, none⟩ = some (.slice aq 2 cq) := hnr.cells 6 _ rfl
          have x7 : wr.cell? ⟨b1, off + 2 * (p + 1) * 8 + 7, none⟩ = some (.int .i64 (g0 : Int)) := hnr.cells 7 _ rfl
          have qp1 : decide ((0 : Int) ≤ (p : Int)) = true := decide_eq_true (by omega)
          have qp2 : (0 : Int) ≤ (p : Int) := by omega
          clear ep hcq hiq hnd hnr hnd2 hnr2 hcw2 hiw2 hnb hbr hy
          go_upto_region 24 with fail
          obtain ⟨M, hM⟩ : ∃ M, wr.heap.size = M := ⟨_, rfl⟩
          obtain ⟨wn, hwn⟩ : ∃ wn, wr.alloc (.cells #[.int .i64 (kk : Int), .string ⟨#[]⟩, .bool false, .slice aw 0 cw, .int .i64 0, .slice ar 0 cr, .slice aq 2 cq, .int .i64 (g0 : Int)] ndT) = wn := ⟨_, rfl⟩
          have hxn : wn.heap[M]? = some (.cells #[.int .i64 (kk : Int), .string ⟨#[]⟩, .bool false, .slice aw 0 cw, .int .i64 0, .slice ar 0 cr, .slice aq 2 cq, .int .i64 (g0 : Int)] ndT) := by rw [← hwn, ← hM]; exact heap_alloc_new _ _
          have hbn : Below wr.heap.size wr wn := by rw [← hwn]; exact (Below.refl _ _).alloc (Nat.le_refl _) _
          have HBn : Hid (Below w3.heap.size w3 wn) := HBr.out.trans (hbn.mono HBr.out.size)
          have hn1 := HNp.out.below hbn
          have hn2 := HNq.out.below hbn
          obtain ⟨⟨y0, y1, y2, y3, y4, y5, y6, y7⟩, z0, z1, z2, z3, z4, z5, z6, z7⟩ := nd_cells hxn
          have gb2 : wn.cell? ⟨bb, oo + p, none⟩ = some (.bool y) := cell_below hbn (Nat.le_refl _) gb
          have hTn : wn.heap[T]? = some (.cells #[.slice sa L sc] trT) := (HBn.out.block T HTl.out).trans HX3.out
          rw [hwn, hM]
          clear x0 x1 x2 x3 x4 x5 x6 x7 m3 n3 gb hwn hM hbn
          obtain ⟨m3, n3⟩ := cell_of hTn
          obtain ⟨aq9, cq9, hv9, b3, o3, hcq, hiq⟩ := ints_at (hh := [2 * p, 2 * p + 1]) hn1.rows.k
          obtain ⟨ha9, _, hc9⟩ := Value.slice.inj hv9
          subst ha9 hc9
          obtain ⟨aw9, cw9, hv8, b4, o4, hcw, hiw⟩ := words_at (l := [[98]]) hn2.rows.w
          obtain ⟨ha8, _, hc8⟩ := Value.slice.inj hv8
          subst ha8 hc8
          have r0 : wn.cell? ⟨b3, o3, none⟩ = some (.int .i64 (2 * (p : Int))) := by have := hcq 0 _ rfl; simpa using this
          have r1 : wn.cell? ⟨b3, o3 + 1, none⟩ = some (.int .i64 (2 * (p : Int) + 1)) := by have := hcq 1 _ rfl; simpa using this
          have r2 : ∀ w, (Instr.indexAt 29 (.slice aq 2 cq) (.int .i64 0)).run Tryz.prog w = .ok (.pointer (some ⟨b3, o3, none⟩)) w := fun w => hiq 0 w (by simp)
          have r3 : ∀ w, (Instr.indexAt 29 (.slice aq 2 cq) (.int .i64 1)).run Tryz.prog w = .ok (.pointer (some ⟨b3, o3 + 1, none⟩)) w := fun w => hiq 1 w (by simp)
          have r4 : wn.cell? ⟨b1, off + (2 * p + 1) * 8 + 3, none⟩ = some (.slice aw2 1 cw2) := hn2.cells 3 _ rfl
          have r5 : wn.cell? ⟨b4, o4, none⟩ = some (.string (str [98])) := hcw 0 _ rfl
          have r6 : ∀ w, (Instr.indexAt 30 (.slice aw2 1 cw2) (.int .i64 0)).run Tryz.prog w = .ok (.pointer (some ⟨b4, o4, none⟩)) w := fun w => hiw 0 w (by simp)
          have t98 : ((str [98]).toList == [98]) = true := by rw [str_tl2]; rfl
          clear hcq hiq hcw hiw hv9 hv8
          cases y with
          | true =>
            have hk3 : kk = 3 := hkk.symm
            subst hk3
            go_upto_region 27 with fail
            go_quiet (fail)
            go_wp2_with fail
            go_roundw
            case rel => exact ⟨p, by omega, by go_num, rfl, HBn.out.trans ((drewN_below _ _).mono HBn.out.size)⟩
            case measure => simp [vN]; omega
          | false =>
            have hk4 : kk = 4 := hkk.symm
            subst hk4
            go_upto_region 27 with fail
            go_quiet (fail)
            go_wp2_with fail
            go_roundw
            case rel => exact ⟨p, by omega, by go_num, rfl, HBn.out.trans ((drewN_below _ _).mono HBn.out.size)⟩
            case measure => simp [vN]; omega
        case pos =>
          subst h0
          obtain ⟨uw, ur, uk, hnd⟩ := HCs3.out 0 _ (leftR_first K g0 xs)
          have HN0 := Lib.hid (hnd.below hbr)
          have HX3r : Hid (wr.heap[T]? = some (.cells #[.slice sa L sc] trT)) := (hbr.block T HTl.out).trans HX3.out
          have HOr : Hid (Gl wr) := (HO1.out.below HBw.out).below hbr
          have HBe : Hid (Below W.heap.size W wr) := HB3.out.trans (hbr.mono HB3.out.size)
          clear hnd hbr
          go_wp2_with fail
          refine (parse_calls wr [33, 32, 97, 32, 124, 32, 98, 32, 38, 38, 32, 99] (by decide) HOr.out.sig HOr.out.glb).mono ?_
          rintro r w8 ⟨hb8, hr⟩
          rw [lt_6] at hr
          obtain ⟨v8, rfl, hrow8⟩ := hr
          obtain ⟨sb, sd, hv8, b8, o8, hcs8, hix8⟩ := nodes_at hrow8
          rw [show lt6.length = 6 from rfl] at hv8 hix8
          subst hv8
          obtain ⟨uw2, ur2, uk2, hq2⟩ := hcs8 2 _ rfl
          obtain ⟨uw4, ur4, uk4, hq4⟩ := hcs8 4 _ rfl
          go_upto_region 31 with fail
          obtain ⟨T8, hT8⟩ : ∃ T8, w8.heap.size = T8 := ⟨_, rfl⟩
          obtain ⟨w9, hw9⟩ : ∃ w9, w8.alloc (.cells #[.slice sb 6 sd] trT) = w9 := ⟨_, rfl⟩
          have hx9 : w9.heap[T8]? = some (.cells #[.slice sb 6 sd] trT) := by rw [← hw9, ← hT8]; exact heap_alloc_new _ _
          have hb89 : Below w8.heap.size w8 w9 := by rw [← hw9]; exact (Below.refl _ _).alloc (Nat.le_refl _) _
          have hb9 : Below wr.heap.size wr w9 := by rw [← hw9]; exact hb8.alloc hb8.size _
          have HF := Lib.hid (HBe.out.trans (hb9.mono HBe.out.size))
          have k2 := hq2.below hb89
          have k4 := hq4.below hb89
          have k0 := HN0.out.below hb9
          obtain ⟨m9, _⟩ := cell_of hx9
          obtain ⟨m4, _⟩ := cell_of ((hb9.block T (Array.getElem?_eq_some_iff.1 HX3r.out).1).trans HX3r.out)
          obtain ⟨aw, cw, hvw, b5, o5, hcw, hiw⟩ := words_at (l := [[97, 48]]) k0.rows.w
          subst hvw
          obtain ⟨ak2, ck2, hvk2, _, _, _, _⟩ := ints_at (hh := [0, 1]) k2.rows.k
          subst hvk2
          have p0 : w9.cell? ⟨b1, off + 3, none⟩ = some (.slice aw 1 cw) := by have := k0.cells 3 _ rfl; simpa using this
          have p1 : w9.cell? ⟨b5, o5, none⟩ = some (.string (str [97, 48])) := hcw 0 _ rfl
          have p2 : ∀ w, (Instr.indexAt 30 (.slice aw 1 cw) (.int .i64 0)).run Tryz.prog w = .ok (.pointer (some ⟨b5, o5, none⟩)) w := fun w => hiw 0 w (by simp)
          have p3 : ∀ w, (Instr.indexAt 23 (.slice sa L sc) (.int .i64 0)).run Tryz.prog w = .ok (.pointer (some ⟨b1, off, none⟩)) w := fun w => by have := HIx.out 0 w (by have := HLe.out; omega); simpa using this
          have p4 : w9.cell? ⟨b8, o8 + 16, none⟩ = some (.int .i64 2) := k2.cells 0 _ rfl
          have p5 : w9.cell? ⟨b8, o8 + 16 + 2, none⟩ = some (.bool true) := k2.cells 2 _ rfl
          have p6 : w9.cell? ⟨b8, o8 + 16 + 6, none⟩ = some (.slice ak2 2 ck2) := k2.cells 6 _ rfl
          have p7 : w9.cell? ⟨b8, o8 + 32, none⟩ = some (.int .i64 3) := k4.cells 0 _ rfl
          have p8 : ∀ w, (Instr.indexAt 23 (.slice sb 6 sd) (.int .i64 2)).run Tryz.prog w = .ok (.pointer (some ⟨b8, o8 + 16, none⟩)) w := fun w => hix8 2 w (by decide)
          have p9 : ∀ w, (Instr.indexAt 23 (.slice sb 6 sd) (.int .i64 4)).run Tryz.prog w = .ok (.pointer (some ⟨b8, o8 + 32, none⟩)) w := fun w => hix8 4 w (by decide)
          have t98 : ((str [97, 48]).toList == [97, 48]) = true := by rw [str_tl2]; rfl
          rw [hw9, hT8]
          clear hw9 hT8 hx9 hb89 hb9 hb8 hq2 hq4 k0 k2 k4 hcw hiw hcs8 hix8 hrow8 m3 n3
          go_wp2_with fail
          go_ret
          exact ⟨rfl, HF.out⟩
end Go.Proofs.YtknncfoaegmphaaGreatDoor.Sx
