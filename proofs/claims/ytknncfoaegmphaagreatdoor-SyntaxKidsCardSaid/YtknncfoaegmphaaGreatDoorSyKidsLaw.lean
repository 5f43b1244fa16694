/-
  Syntax: SyntaxKids answers true. Conditions: what must lie there lies there.
-/
import Derived.Test.YtknncfoaegmphaaGreatDoorSyGood
set_option linter.unusedVariables false
set_option linter.unusedSimpArgs false
set_option maxRecDepth 100000
namespace Go.Proofs.YtknncfoaegmphaaGreatDoor.Sx
open Go.RowKit Base Lx Sy

def vOf : Value → Nat
  | .int _ z => z.toNat
  | _ => 0
theorem load_tr {w : World} {b : Nat} {v : Value} (h : w.cell? ⟨b, 0, none⟩ = some v) : (Instr.loadAt trT (.pointer (some ⟨b, 0, none⟩))).run Tryz.prog w = .ok (.agg #[v]) w := by go_simp
theorem par_err0 (W : World) (B : Nat) (P : Nat → Prop) : RowN W B P (.slice none 0 0) [] := ⟨[], rfl, World.ownsRow_nil _ _ _ _, fun x hx => absurd hx List.not_mem_nil⟩
set_option maxHeartbeats 8000000 in
theorem kids_calls (W : World) (s : Nm) (hO : Gl W) : Calls Tryz.prog 3 #[.string (str s)] W fun r W' => r = .returned (.bool true) ∧ Below W.heap.size W W' := by
  have HO := Lib.hid hO
  clear hO
  obtain ⟨i0, hi0, hz0, hz1, hz2⟩ := info_parts info_in
  have e1 : (str s).size = s.length := rfl
  go_enter Tryz.func3, Tryz.ntmps3
  go_wp2_with fail
  refine (awake_calls W HO.out).mono ?_
  rintro r w1 ⟨rfl, hb1⟩
  have HB1 := Lib.hid hb1
  have HO1 := Lib.hid (HO.out.below hb1)
  clear hb1
  by_cases hlong : 2000 < s.length
  · have a1 : decide ((2000 : Int) < ((str s).size : Int)) = true := decide_eq_true (by omega)
    have a2 : (2000 : Int) < ((str s).size : Int) := by omega
    go_wp2_with fail
    go_ret
    exact ⟨rfl, HB1.out⟩
  have a1 : decide ((2000 : Int) < ((str s).size : Int)) = false := decide_eq_false (by omega)
  have a2 : ¬ ((2000 : Int) < ((str s).size : Int)) := by omega
  have hs : s.length ≤ 2000 := by omega
  go_wp2_with fail
  refine (parse_calls w1 s (by omega) HO1.out.sig HO1.out.glb).mono ?_
  rintro r w2 ⟨hb2, hr⟩
  have hcase : (∃ y : Int × Nat, y.1 ≠ 0 ∧ r = .returned (.tuple #[.agg #[.slice none 0 0], .int .i64 y.1, .int .i64 (y.2 : Int)])) ∨ (∃ (l : List Nd) (v : Value) (g : Int), Good l ∧ l.length ≤ 50000 ∧ r = .returned (.tuple #[.agg #[v], .int .i64 0, .int .i64 g]) ∧ RowN w2 w1.heap.size (fun g => w1.heap.size ≤ g) v l) := by
    cases hX : parseM s with
    | error y =>
      rw [hX] at hr
      have hr : r = .returned (.tuple #[.agg #[.slice none 0 0], .int .i64 y.1, .int .i64 (y.2 : Int)]) := hr
      by_cases h0 : y.1 = 0
      · rw [h0] at hr
        exact .inr ⟨[], _, _, good_nil, Nat.zero_le _, hr, par_err0 _ _ _⟩
      · exact .inl ⟨y, h0, hr⟩
    | ok l =>
      rw [hX] at hr
      obtain ⟨v, h1, h2⟩ := hr
      exact .inr ⟨l, v, 0, good_parse (by omega) hX, parse_len (by omega) hX, h1, h2⟩
  clear a1 a2 e1 hlong hr
  rcases hcase with ⟨y, hne, rfl⟩ | ⟨l, v, gl, hgood, hlen, rfl, hrow⟩
  · have e1 : (y.1 == 0) = false := by rw [beq_eq_false_iff_ne]; exact hne
    have e2 : (y.1 != 0) = true := by rw [bne_iff_ne]; exact hne
    have e3 : decide (y.1 = 0) = false := decide_eq_false hne
    go_upto_region 7 with fail
    obtain ⟨T, hT⟩ : ∃ T, w2.heap.size = T := ⟨_, rfl⟩
    obtain ⟨w3, hw3⟩ : ∃ w3, w2.alloc (.cells #[.slice none 0 0] trT) = w3 := ⟨_, rfl⟩
    have hx3 : w3.heap[T]? = some (.cells #[.slice none 0 0] trT) := by rw [← hw3, ← hT]; exact heap_alloc_new _ _
    have hb3 : Below w1.heap.size w1 w3 := by rw [← hw3]; exact hb2.alloc hb2.size _
    have HF := Lib.hid (HB1.out.trans (hb3.mono HB1.out.size))
    obtain ⟨m1, _⟩ := cell_of hx3
    rw [hw3, hT]
    clear hw3 hT hx3 hb3 hb2
    go_wp2_with fail
    go_ret
    exact ⟨rfl, HF.out⟩
  have HG := Lib.hid hgood
  obtain ⟨sa, sc, hv, b1, off, hcs, hix⟩ := nodes_at hrow
  obtain ⟨L, hL⟩ : ∃ L, l.length = L := ⟨_, rfl⟩
  rw [hL] at hv hix hlen
  subst hv
  have HIx := Lib.hid hix
  have HCs := Lib.hid hcs
  have HL := Lib.hid hL
  clear hix hcs hL hgood hrow
  go_upto_region 7 with fail
  obtain ⟨T, hT⟩ : ∃ T, w2.heap.size = T := ⟨_, rfl⟩
  obtain ⟨w3, hw3⟩ : ∃ w3, w2.alloc (.cells #[.slice sa L sc] trT) = w3 := ⟨_, rfl⟩
  have hx3 : w3.heap[T]? = some (.cells #[.slice sa L sc] trT) := by rw [← hw3, ← hT]; exact heap_alloc_new _ _
  have hb23 : Below w2.heap.size w2 w3 := by rw [← hw3]; exact (Below.refl _ _).alloc (Nat.le_refl _) _
  have hb3 : Below w1.heap.size w1 w3 := by rw [← hw3]; exact hb2.alloc hb2.size _
  have HB3 := Lib.hid (HB1.out.trans (hb3.mono HB1.out.size))
  have HX3 := Lib.hid hx3
  have HCs3 : Hid (∀ (k : Nat) (n : Nd), l[k]? = some n → ∃ uw ur uk, NdAt w3 (fun g => w1.heap.size ≤ g) b1 (off + k * 8) n uw ur uk) := fun k n hk => by
    obtain ⟨uw, ur, uk, h⟩ := HCs.out k n hk
    exact ⟨uw, ur, uk, h.below hb23⟩
  obtain ⟨m3, n3⟩ := cell_of hx3
  rw [hw3, hT]
  clear hw3 hT hx3 hb3 hb2 hb23 HCs
  obtain ⟨H, hH⟩ : ∃ H, w3.heap.size = H := ⟨_, rfl⟩
  obtain ⟨w4, hw4⟩ : ∃ w4, w3.alloc (.cells (madeCells #[.int .i64 0] L) inT) = w4 := ⟨_, rfl⟩
  have hmk : ∀ u : World, (Instr.makeSlice 29 (.int .i64 (L : Int)) (.int .i64 (L : Int))).run Tryz.prog u = .ok (.slice (some ⟨u.heap.size, 0, none⟩) L L) (u.alloc (.cells (madeCells #[.int .i64 0] L) inT)) := fun u => by
    have := run_makeSlice (P := Tryz.prog) u 29 inT i0 (.int .i64 0) Tryz.underlying29 hi0 hz0 .i64 .i64 (L : Int) (L : Int) (by omega) (Int.le_refl _) (by rw [hz1]; omega) (by rw [hz2]; omega) (by omega)
    simpa [hz1, Value.cells] using this
  have hhad : HadAt w4 H [] L := ⟨by rw [← made_had, ← hw4, ← hH]; exact heap_alloc_new _ _⟩
  have hb34 : Below H w3 w4 := by rw [← hw4, ← hH]; exact (Below.refl _ _).alloc (Nat.le_refl _) _
  have HHad := Lib.hid hhad
  have HB34 := Lib.hid hb34
  have HTH : Hid (T < H) := by show _ < _; rw [← hH]; exact (Array.getElem?_eq_some_iff.1 HX3.out).1
  have HHs := Lib.hid hH
  have HLl := Lib.hid hlen
  clear hhad hb34 hlen
  go_upto_region 11 with fail
  have HB34b : Hid (Below w3.heap.size w3 w4) := by show Below _ _ _; rw [hH]; exact HB34.out
  clear m3 n3 hw4 hmk hH
  go_loopw [8] (fun v8 wr => ∃ i : Nat, i ≤ L ∧ v8 = .int .i64 (i : Int) ∧ Below w3.heap.size w3 wr ∧ HadAt wr H (kidsTo l i) L) (fun v8 _ => L - vOf v8)
  case atStart => exact ⟨0, Nat.zero_le _, rfl, HB34b.out, HHad.out⟩
  case round =>
    obtain ⟨i, hi, rfl, hbr, hhr⟩ := hrel
    have HBr := Lib.hid hbr
    have HHr := Lib.hid hhr
    have HI := Lib.hid hi
    have hLl : L ≤ 50000 := HLl.out
    obtain ⟨m3, n3⟩ := cell_of ((hbr.block T (Array.getElem?_eq_some_iff.1 HX3.out).1).trans HX3.out)
    have HX3r : Hid (wr.heap[T]? = some (.cells #[.slice sa L sc] trT)) := (hbr.block T (Array.getElem?_eq_some_iff.1 HX3.out).1).trans HX3.out
    by_cases hlt : i < L
    case pos =>
      have a3 : decide (i < L) = true := decide_eq_true (by omega)
      have a1 : decide ((i : Int) < (L : Int)) = true := decide_eq_true (by omega)
      have a2 : (i : Int) < (L : Int) := by omega
      obtain ⟨n, hn⟩ : ∃ n, l[i]? = some n := ⟨_, List.getElem?_eq_getElem (by rw [HL.out]; exact hlt)⟩
      obtain ⟨uw, ur, uk, hnd⟩ := HCs3.out i n hn
      have hnr := hnd.below hbr
      obtain ⟨aw, cw, hvw, _⟩ := ownsRow_slice hnr.rows.w
      obtain ⟨ar, cr, hvr, _⟩ := ownsRow_slice hnr.rows.r
      obtain ⟨ak, ck, hvk, b2, o2, hck, hik⟩ := ints_at (hh := n.ks) hnd.rows.k
      have hkm : n.ks.length ≤ 9223372036854775807 := by
        obtain ⟨_, _, _, h3, h4, _⟩ := ownsRow_slice hnr.rows.k
        have : maxLen = 9223372036854775807 := rfl
        omega
      obtain ⟨Lk, hLk⟩ : ∃ Lk, n.ks.length = Lk := ⟨_, rfl⟩
      rw [hLk] at hvk hik hkm
      subst hvw hvr hvk
      have HLk := Lib.hid hLk
      have HN := Lib.hid hn
      have HIk := Lib.hid hik
      have x0 : wr.cell? ⟨b1, off + i * 8, none⟩ = some (.int .i64 (n.k : Int)) := hnr.cells 0 _ rfl
      have x1 : wr.cell? ⟨b1, off + i * 8 + 1, none⟩ = some (.string (str n.t)) := hnr.cells 1 _ rfl
      have x2 : wr.cell? ⟨b1, off + i * 8 + 2, none⟩ = some (.bool n.fl) := hnr.cells 2 _ rfl
      have x3 : wr.cell? ⟨b1, off + i * 8 + 3, none⟩ = some (.slice aw n.ws.length cw) := hnr.cells 3 _ rfl
      have x4 : wr.cell? ⟨b1, off + i * 8 + 4, none⟩ = some (.int .i64 (n.st : Int)) := hnr.cells 4 _ rfl
      have x5 : wr.cell? ⟨b1, off + i * 8 + 5, none⟩ = some (.slice ar n.rs.length cr) := hnr.cells 5 _ rfl
      have x6 : wr.cell? ⟨b1, off + i * 8 + 6, none⟩ = some (.slice ak Lk ck) := hnr.cells 6 _ rfl
      have x7 : wr.cell? ⟨b1, off + i * 8 + 7, none⟩ = some (.int .i64 (n.ln : Int)) := hnr.cells 7 _ rfl
      have HCk3 : Hid (∀ (k x : Nat), n.ks[k]? = some x → ∀ w, Below w3.heap.size w3 w → w.cell? ⟨b2, o2 + k, none⟩ = some (.int .i64 (x : Int))) := fun k x hx w hb => cell_below hb (Nat.le_refl _) (hck k x hx)
      have j1 : ∀ w, (Instr.indexAt 23 (.slice sa L sc) (.int .i64 (i : Int))).run Tryz.prog w = .ok (.pointer (some ⟨b1, off + i * 8, none⟩)) w := fun w => HIx.out i w hlt
      go_upto_region 14 with fail
      obtain ⟨M, hM⟩ : ∃ M, wr.heap.size = M := ⟨_, rfl⟩
      obtain ⟨wn, hwn⟩ : ∃ wn, wr.alloc (.cells #[.int .i64 (n.k : Int), .string (str n.t), .bool n.fl, .slice aw n.ws.length cw, .int .i64 (n.st : Int), .slice ar n.rs.length cr, .slice ak Lk ck, .int .i64 (n.ln : Int)] ndT) = wn := ⟨_, rfl⟩
      have hxn : wn.heap[M]? = some (.cells #[.int .i64 (n.k : Int), .string (str n.t), .bool n.fl, .slice aw n.ws.length cw, .int .i64 (n.st : Int), .slice ar n.rs.length cr, .slice ak Lk ck, .int .i64 (n.ln : Int)] ndT) := by rw [← hwn, ← hM]; exact heap_alloc_new _ _
      have hbn : Below wr.heap.size wr wn := by rw [← hwn]; exact (Below.refl _ _).alloc (Nat.le_refl _) _
      have HBn : Hid (Below w3.heap.size w3 wn) := HBr.out.trans (hbn.mono HBr.out.size)
      have HHn := Lib.hid (HHr.out.below hbn)
      have HXn := Lib.hid hxn
      have HHM : Hid (H < M) := by show _ < _; rw [← hM]; exact (Array.getElem?_eq_some_iff.1 HHr.out.box).1
      have HMn := Lib.hid hM
      obtain ⟨⟨y0, y1, y2, y3, y4, y5, y6, y7⟩, z0, z1, z2, z3, z4, z5, z6, z7⟩ := nd_cells hxn
      rw [hwn, hM]
      clear x0 x1 x2 x3 x4 x5 x6 x7 m3 n3 a1 a2 hwn hxn hbn hM hck hik hnd hnr hn hLk hbr hhr hi
      go_upto_region 16 with fail
      clear y0 y1 y2 y3 y4 y5 y6 y7 z0 z1 z2 z3 z4 z5 z6 z7
      go_loopw [11] (fun v11 wq => ∃ j : Nat, j ≤ Lk ∧ v11 = .int .i64 (j : Int) ∧ Below w3.heap.size w3 wq ∧ HadAt wq H (kidsTo l i ++ n.ks.take j) L ∧ wq.heap[M]? = some (.cells #[.int .i64 (n.k : Int), .string (str n.t), .bool n.fl, .slice aw n.ws.length cw, .int .i64 (n.st : Int), .slice ar n.rs.length cr, .slice ak Lk ck, .int .i64 (n.ln : Int)] ndT)) (fun v11 _ => Lk - vOf v11)
      case atStart => exact ⟨0, Nat.zero_le _, rfl, HBn.out, by rw [List.take_zero, List.append_nil]; exact HHn.out, HXn.out⟩
      case round =>
        obtain ⟨j, hj, rfl, hbq, hhq, hxq⟩ := hrel
        have HBq := Lib.hid hbq
        have HHq := Lib.hid hhq
        have HXq := Lib.hid hxq
        obtain ⟨⟨y0, y1, y2, y3, y4, y5, y6, y7⟩, z0, z1, z2, z3, z4, z5, z6, z7⟩ := nd_cells hxq
        obtain ⟨m3, n3⟩ := cell_of ((hbq.block T (Array.getElem?_eq_some_iff.1 HX3.out).1).trans HX3.out)
        by_cases hjl : j < Lk
        case pos =>
          have yb3 : decide (j < Lk) = true := decide_eq_true (by omega)
          have yb1 : decide ((j : Int) < (Lk : Int)) = true := decide_eq_true (by omega)
          have yb2 : (j : Int) < (Lk : Int) := by omega
          have hil : i < l.length := by rw [HL.out]; exact hlt
          have hne : l[i] = n := by have := HN.out; rw [List.getElem?_eq_getElem hil] at this; exact Option.some.inj this
          have hjk : j < n.ks.length := by rw [HLk.out]; exact hjl
          obtain ⟨x, hx⟩ : ∃ x, n.ks[j]? = some x := ⟨_, List.getElem?_eq_getElem hjk⟩
          have hxm : x ∈ n.ks := List.mem_of_getElem? hx
          have hxi : x < i := HG.out.kids i hil x (by rw [hne]; exact hxm)
          have hxL : x < L := by omega
          have hg2 := HCk3.out j x hx wr hbq
          have hi2 : ∀ w, (Instr.indexAt 29 (.slice ak Lk ck) (.int .i64 (j : Int))).run Tryz.prog w = .ok (.pointer (some ⟨b2, o2 + j, none⟩)) w := fun w => HIk.out j w hjl
          obtain ⟨cn, hcn⟩ : ∃ cn, (kidsTo l i ++ n.ks.take j).count x = cn := ⟨_, rfl⟩
          have hc1 : cn ≤ 1 := by rw [← hcn, ← hne]; exact kidsTo_count HG.out hil j x (by rw [HL.out]; exact hxL)
          obtain ⟨hq1, hq2⟩ := hhq.get hxL
          rw [hcn] at hq1
          obtain ⟨hh2, hg3⟩ := hhq.set x
          rw [hcn] at hh2 hg3
          obtain ⟨wz, hwz⟩ : ∃ wz, wr.setCell ⟨H, x, none⟩ (.int .i64 ((cn : Int) + 1)) = wz := ⟨_, rfl⟩
          rw [hwz] at hh2 hg3
          have HHz : Hid (HadAt wz H (kidsTo l i ++ n.ks.take (j + 1)) L) := by
            show HadAt _ _ _ _
            have e : n.ks.take (j + 1) = n.ks.take j ++ [x] := by
              rw [List.take_succ_eq_append_getElem hjk]
              congr 2
              rw [List.getElem?_eq_getElem hjk] at hx
              exact Option.some.inj hx
            rw [e, ← List.append_assoc]
            exact hh2
          have HBz : Hid (Below w3.heap.size w3 wz) := by
            show Below _ _ _
            have hH := HHs.out
            exact ⟨hg3.os.trans hbq.os, hg3.tape.trans hbq.tape, hg3.output.trans hbq.output, Nat.le_trans hbq.size hg3.size, fun k hk => (hg3.block k (Nat.lt_of_lt_of_le hk hbq.size) (fun e => by have := Option.some.inj e; omega)).trans (hbq.block k hk)⟩
          have HXz : Hid (wz.heap[M]? = some (.cells #[.int .i64 (n.k : Int), .string (str n.t), .bool n.fl, .slice aw n.ws.length cw, .int .i64 (n.st : Int), .slice ar n.rs.length cr, .slice ak Lk ck, .int .i64 (n.ln : Int)] ndT)) := (hg3.block M (Array.getElem?_eq_some_iff.1 hxq).1 (fun e => by have := Option.some.inj e; have := HHM.out; omega)).trans hxq
          have d1 : decide ((x : Int) < (0 : Int)) = false := decide_eq_false (by omega)
          have d2 : ¬ ((x : Int) < (0 : Int)) := by omega
          have f3 : decide (i ≤ x) = false := decide_eq_false (by omega)
          have f1 : decide ((i : Int) ≤ (x : Int)) = false := decide_eq_false (by omega)
          have f2 : ¬ ((i : Int) ≤ (x : Int)) := by omega
          clear hh2 hg3 hx hxm hcn hbq hhq hxq hne hjk
          go_wp2_with fail
          go_roundw
          case rel => exact ⟨j + 1, by omega, by go_num, HBz.out, HHz.out, HXz.out⟩
          case measure => simp [vOf]; omega
        case neg =>
          obtain rfl : j = Lk := by omega
          have yb3 : decide (j < j) = false := decide_eq_false (by omega)
          have yb1 : decide ((j : Int) < (j : Int)) = false := decide_eq_false (by omega)
          have yb2 : ¬ ((j : Int) < (j : Int)) := by omega
          have hil : i < l.length := by rw [HL.out]; exact hlt
          have hne : l[i] = n := by have := HN.out; rw [List.getElem?_eq_getElem hil] at this; exact Option.some.inj this
          have HHe : Hid (HadAt wr H (kidsTo l (i + 1)) L) := by
            show HadAt _ _ _ _
            rw [kidsTo_succ hil, hne]
            have := hhq
            rwa [List.take_of_length_le (by rw [HLk.out]; exact Nat.le_refl _)] at this
          have hfit : Fits n := by rw [← hne]; exact HG.out.fits _ (List.getElem_mem hil)
          have hsm := HG.out.small n (by rw [← hne]; exact List.getElem_mem hil)
          have hks := HLk.out
          clear hbq hhq hxq hne hil
          rcases hfit with ⟨hk, hk0, hws, hst⟩ | ⟨hk, hl1 | ⟨hl1, hfl⟩⟩ | ⟨hk | hk | hk, hl1⟩ | ⟨hk, hl1 | hl1⟩ | ⟨hk | hk | hk | hk | hk, hl1⟩ | hk | hk
          · have hsm2 := hsm hk
            rw [hk0] at hks
            have y0' : wr.cell? ⟨M, 0, none⟩ = some (.int .i64 1) := by rw [y0, hk]; rfl
            have hj0 : j = 0 := hks.symm
            subst hj0
            have pw1 : decide ((0 : Int) < ((n.ws.length : Int) + (n.rs.length : Int))) = true := decide_eq_true (by omega)
            have pw2 : (0 : Int) < ((n.ws.length : Int) + (n.rs.length : Int)) := by omega
            have ps3 : decide (n.st ≤ n.ws.length) = true := decide_eq_true (by omega)
            have ps1 : decide ((n.st : Int) ≤ (n.ws.length : Int)) = true := decide_eq_true (by omega)
            have ps2 : (n.st : Int) ≤ (n.ws.length : Int) := by omega
            clear y0 hk hk0
            go_wp2_with fail
            go_roundw
            case rel => exact ⟨i + 1, by omega, by go_num, HBq.out, HHe.out⟩
            case measure => simp [vOf]; omega
          · have y0' : wr.cell? ⟨M, 0, none⟩ = some (.int .i64 2) := by rw [y0, hk]; rfl
            have pw1 : decide ((1 : Int) < (j : Int)) = true := decide_eq_true (by omega)
            have pw2 : (1 : Int) < (j : Int) := by omega
            clear y0 hk
            go_wp2_with fail
            go_roundw
            case rel => exact ⟨i + 1, by omega, by go_num, HBq.out, HHe.out⟩
            case measure => simp [vOf]; omega
          · have y0' : wr.cell? ⟨M, 0, none⟩ = some (.int .i64 2) := by rw [y0, hk]; rfl
            have hj0 : j = 1 := by omega
            subst hj0
            rw [hfl] at y2
            clear y0 hk
            go_wp2_with fail
            go_roundw
            case rel => exact ⟨i + 1, by omega, by go_num, HBq.out, HHe.out⟩
            case measure => simp [vOf]; omega
          · have y0' : wr.cell? ⟨M, 0, none⟩ = some (.int .i64 3) := by rw [y0, hk]; rfl
            have hj0 : j = 2 := by omega
            subst hj0
            clear y0 hk
            go_wp2_with fail
            go_roundw
            case rel => exact ⟨i + 1, by omega, by go_num, HBq.out, HHe.out⟩
            case measure => simp [vOf]; omega
          · have y0' : wr.cell? ⟨M, 0, none⟩ = some (.int .i64 4) := by rw [y0, hk]; rfl
            have hj0 : j = 2 := by omega
            subst hj0
            clear y0 hk
            go_wp2_with fail
            go_roundw
            case rel => exact ⟨i + 1, by omega, by go_num, HBq.out, HHe.out⟩
            case measure => simp [vOf]; omega
          · have y0' : wr.cell? ⟨M, 0, none⟩ = some (.int .i64 7) := by rw [y0, hk]; rfl
            have hj0 : j = 2 := by omega
            subst hj0
            clear y0 hk
            go_wp2_with fail
            go_roundw
            case rel => exact ⟨i + 1, by omega, by go_num, HBq.out, HHe.out⟩
            case measure => simp [vOf]; omega
          · have y0' : wr.cell? ⟨M, 0, none⟩ = some (.int .i64 6) := by rw [y0, hk]; rfl
            have hj0 : j = 2 := by omega
            subst hj0
            clear y0 hk
            go_wp2_with fail
            go_roundw
            case rel => exact ⟨i + 1, by omega, by go_num, HBq.out, HHe.out⟩
            case measure => simp [vOf]; omega
          · have y0' : wr.cell? ⟨M, 0, none⟩ = some (.int .i64 6) := by rw [y0, hk]; rfl
            have hj0 : j = 3 := by omega
            subst hj0
            clear y0 hk
            go_wp2_with fail
            go_roundw
            case rel => exact ⟨i + 1, by omega, by go_num, HBq.out, HHe.out⟩
            case measure => simp [vOf]; omega
          · have y0' : wr.cell? ⟨M, 0, none⟩ = some (.int .i64 8) := by rw [y0, hk]; rfl
            have hj0 : j = 1 := by omega
            subst hj0
            clear y0 hk
            go_wp2_with fail
            go_roundw
            case rel => exact ⟨i + 1, by omega, by go_num, HBq.out, HHe.out⟩
            case measure => simp [vOf]; omega
          · have y0' : wr.cell? ⟨M, 0, none⟩ = some (.int .i64 10) := by rw [y0, hk]; rfl
            have hj0 : j = 1 := by omega
            subst hj0
            clear y0 hk
            go_wp2_with fail
            go_roundw
            case rel => exact ⟨i + 1, by omega, by go_num, HBq.out, HHe.out⟩
            case measure => simp [vOf]; omega
          · have y0' : wr.cell? ⟨M, 0, none⟩ = some (.int .i64 11) := by rw [y0, hk]; rfl
            have hj0 : j = 1 := by omega
            subst hj0
            clear y0 hk
            go_wp2_with fail
            go_roundw
            case rel => exact ⟨i + 1, by omega, by go_num, HBq.out, HHe.out⟩
            case measure => simp [vOf]; omega
          · have y0' : wr.cell? ⟨M, 0, none⟩ = some (.int .i64 12) := by rw [y0, hk]; rfl
            have hj0 : j = 1 := by omega
            subst hj0
            clear y0 hk
            go_wp2_with fail
            go_roundw
            case rel => exact ⟨i + 1, by omega, by go_num, HBq.out, HHe.out⟩
            case measure => simp [vOf]; omega
          · have y0' : wr.cell? ⟨M, 0, none⟩ = some (.int .i64 13) := by rw [y0, hk]; rfl
            have hj0 : j = 1 := by omega
            subst hj0
            clear y0 hk
            go_wp2_with fail
            go_roundw
            case rel => exact ⟨i + 1, by omega, by go_num, HBq.out, HHe.out⟩
            case measure => simp [vOf]; omega
          · have y0' : wr.cell? ⟨M, 0, none⟩ = some (.int .i64 5) := by rw [y0, hk]; rfl
            clear y0 hk
            go_wp2_with fail
            go_roundw
            case rel => exact ⟨i + 1, by omega, by go_num, HBq.out, HHe.out⟩
            case measure => simp [vOf]; omega
          · have y0' : wr.cell? ⟨M, 0, none⟩ = some (.int .i64 9) := by rw [y0, hk]; rfl
            clear y0 hk
            go_wp2_with fail
            go_roundw
            case rel => exact ⟨i + 1, by omega, by go_num, HBq.out, HHe.out⟩
            case measure => simp [vOf]; omega
    case neg =>
      obtain rfl : i = L := by omega
      have a3 : decide (i < i) = false := decide_eq_false (by omega)
      have a1 : decide ((i : Int) < (i : Int)) = false := decide_eq_false (by omega)
      have a2 : ¬ ((i : Int) < (i : Int)) := by omega
      go_upto_region 45 with fail
      clear a1 a2 m3 n3
      go_loopw [13] (fun v13 wx => ∃ q : Nat, q ≤ i ∧ v13 = .int .i64 (q : Int) ∧ wx = wr) (fun v13 _ => i - vOf v13)
      case atStart => exact ⟨0, Nat.zero_le _, rfl, rfl⟩
      case round =>
        obtain ⟨q, hq, rfl, hwr⟩ := hrel
        have hwr2 := hwr.symm
        subst hwr2
        clear hwr
        obtain ⟨m3, n3⟩ := cell_of HX3r.out
        by_cases hql : q < i
        case pos =>
          have qa3 : decide (q < i) = true := decide_eq_true (by omega)
          have qa1 : decide ((q : Int) < (i : Int)) = true := decide_eq_true (by omega)
          have qa2 : (q : Int) < (i : Int) := by omega
          have hqn : q < l.length := by rw [HL.out]; exact hql
          obtain ⟨uw, ur, uk, hnd⟩ := HCs3.out q l[q] (List.getElem?_eq_getElem hqn)
          have j1 : ∀ w, (Instr.indexAt 23 (.slice sa i sc) (.int .i64 (q : Int))).run Tryz.prog w = .ok (.pointer (some ⟨b1, off + q * 8, none⟩)) w := fun w => HIx.out q w hql
          have g0 := (hnd.below HBr.out).cells 0 _ rfl
          obtain ⟨hh1, hh2⟩ := HHr.out.get hql
          have hcnt := HG.out.one q hqn
          have hall : kidsTo l i = l.flatMap (·.ks) := by rw [← HL.out]; exact kidsTo_all l
          rw [hall] at hh1
          by_cases hlast : q + 1 = i
          · rw [if_pos (by rw [HL.out]; exact hlast)] at hcnt
            rw [hcnt] at hh1
            have hk5 := HG.out.last q hqn (by rw [HL.out]; exact hlast)
            have g1 : wr.cell? ⟨b1, off + q * 8, none⟩ = some (.int .i64 5) := by rw [show off + q * 8 = off + q * 8 + 0 from rfl, g0, hk5]; rfl
            have hh3 : wr.cell? ⟨H, q, none⟩ = some (.int .i64 0) := hh1
            have t1 : ((q : Int) == (i : Int) - 1) = true := by rw [beq_iff_eq]; omega
            have t2 : (q : Int) = (i : Int) - 1 := by omega
            have t3 : decide ((q : Int) = (i : Int) - 1) = true := decide_eq_true t2
            clear g0 hh1 hcnt hnd hk5 t2
            go_wp2_with fail
            go_roundw
            case rel => exact ⟨q + 1, by omega, by go_num, trivial⟩
            case measure => simp [vOf]; omega
          · rw [if_neg (by rw [HL.out]; exact hlast)] at hcnt
            rw [hcnt] at hh1
            have hh3 : wr.cell? ⟨H, q, none⟩ = some (.int .i64 1) := hh1
            have t1 : ((q : Int) == (i : Int) - 1) = false := by rw [beq_eq_false_iff_ne]; omega
            have t3 : decide ((q : Int) = (i : Int) - 1) = false := decide_eq_false (by omega)
            clear g0 hh1 hcnt hnd
            go_wp2_with fail
            go_roundw
            case rel => exact ⟨q + 1, by omega, by go_num, trivial⟩
            case measure => simp [vOf]; omega
        case neg =>
          obtain rfl : q = i := by omega
          have qa3 : decide (q < q) = false := decide_eq_false (by omega)
          have qa1 : decide ((q : Int) < (q : Int)) = false := decide_eq_false (by omega)
          have qa2 : ¬ ((q : Int) < (q : Int)) := by omega
          clear hql
          have HTl : Hid (T < wr.heap.size) := (Array.getElem?_eq_some_iff.1 HX3r.out).1
          have hLq : q ≤ 50000 := HLl.out
          have HBend : Hid (Below W.heap.size W wr) := HB3.out.trans (HBr.out.mono HB3.out.size)
          clear qa1 qa2 m3 n3
          go_upto_region 50 with fail
          refine Rg.wp_region_rgt 7 [] [Rg.Is (.agg #[.slice sa q sc]), Rg.Is (.int .i64 ((q : Int) - 1)), Rg.Is (.pointer (some ⟨T, 0, none⟩)), Rg.Is (.slice sa q sc), Rg.Is (.int .i64 (q : Int)), Rg.Is (.int .i64 ((q : Int) - 1)), Rg.Is (.bool true)] (by kernel_rfl) (by kernel_rfl) (of_decide_eq_true (by kernel_rfl)) (by kernel_rfl) (by kernel_rfl) ⟨Rg.st_is _, Rg.st_is _, Rg.st_is _, Rg.st_is _, Rg.st_is _, Rg.st_is _, Rg.st_is _, trivial⟩ ⟨rfl, rfl, rfl, rfl, rfl, rfl, rfl, trivial⟩ ⟨?_, ?_, ?_, ?_, ?_, ?_, ?_, trivial⟩ ?_
          · intro _ a wx hb hk
            have h4 : a.eval (.tmp 4) = .pointer (some ⟨T, 0, none⟩) := Eq.mp (by kernel_rfl) (hk 4 (by decide))
            exact Rg.does_load _ _ h4 (load_tr (cell_of ((hb.block T HTl.out).trans HX3r.out)).1) ⟨Below.refl _ _, rfl⟩
          · intro _ a wx hb hk
            have h184 : a.eval (.tmp 184) = .agg #[.slice sa q sc] := Eq.mp (by kernel_rfl) (hk 184 (by decide))
            refine Rg.does_func #[.agg #[.slice sa q sc]] Tryz.func11 (by kernel_rfl) (by kernel_rfl) (by simp [h184]) (root_calls wx sa q sc (by omega)) ?_
            rintro e w' ⟨rfl, hb'⟩
            exact ⟨_, rfl, hb', rfl⟩
          · intro _ a wx hb hk
            have h4 : a.eval (.tmp 4) = .pointer (some ⟨T, 0, none⟩) := Eq.mp (by kernel_rfl) (hk 4 (by decide))
            exact Rs.does_field _ _ h4 (fld_tree T 0 wx) ⟨Below.refl _ _, rfl⟩
          · intro _ a wx hb hk
            have h186 : a.eval (.tmp 186) = .pointer (some ⟨T, 0, none⟩) := Eq.mp (by kernel_rfl) (hk 186 (by decide))
            exact Rg.does_load _ _ h186 (load_nds (cell_of ((hb.block T HTl.out).trans HX3r.out)).1) ⟨Below.refl _ _, rfl⟩
          · intro _ a wx hb hk
            have h187 : a.eval (.tmp 187) = .slice sa q sc := Eq.mp (by kernel_rfl) (hk 187 (by decide))
            exact Rg.does_len _ _ _ Tryz.underlying23 h187 ⟨Below.refl _ _, rfl⟩
          · intro _ a wx hb hk
            have h188 : a.eval (.tmp 188) = .int .i64 (q : Int) := Eq.mp (by kernel_rfl) (hk 188 (by decide))
            exact Rg.does_bin _ _ _ _ h188 rfl (Sw.run_minus (by omega) (by omega)) ⟨Below.refl _ _, rfl⟩
          · intro _ a wx hb hk
            have h185 : a.eval (.tmp 185) = .int .i64 ((q : Int) - 1) := Eq.mp (by kernel_rfl) (hk 185 (by decide))
            have h189 : a.eval (.tmp 189) = .int .i64 ((q : Int) - 1) := Eq.mp (by kernel_rfl) (hk 189 (by decide))
            exact Rg.does_bin _ _ _ _ h185 h189 (Sw.run_eq_int true (decide_eq_true rfl)) ⟨Below.refl _ _, rfl⟩
          intro vals wD hbD hL
          obtain ⟨g0, g1, g2, g3, g4, g5, g6, _⟩ := hL
          have e6 : vals 6 = .bool true := g6
          simp only [Rg.putAll, List.take_succ_cons, List.take_zero, List.drop_succ_cons, List.drop_zero, List.setIfInBounds_toArray, List.set_cons_succ, List.set_cons_zero, e6]
          have HF := Lib.hid (HBend.out.trans (hbD.mono HBend.out.size))
          clear g0 g1 g2 g3 g4 g5 g6 e6 hbD
          go_wp2_with fail
          go_ret
          exact ⟨rfl, HF.out⟩
end Go.Proofs.YtknncfoaegmphaaGreatDoor.Sx
