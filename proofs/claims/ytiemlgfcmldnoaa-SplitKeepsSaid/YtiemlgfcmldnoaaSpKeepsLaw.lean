/-
  SplitKeeps: no plain byte is lost, and none comes to be; without separators what is between two borders is one field: the walk.
-/
import Derived.Test.YtiemlgfcmldnoaaSpStrs
import Derived.Test.YtiemlgfcmldnoaaSpJoinsLaw
set_option linter.unusedVariables false
set_option maxRecDepth 100000
namespace Go.Proofs.Ytiemlgfcmldnoaa
open Go.RowKit Base

/-- Is a byte a separator, by the first so many of them? -/
def sepQ (ifs : List UInt8) (x : UInt8 × UInt8) (q : Nat) : Bool := decide (x.2 = 115) && decide (x.1 ∈ ifs.take q)
theorem sepQ_zero (ifs : List UInt8) (x : UInt8 × UInt8) : sepQ ifs x 0 = false := by simp [sepQ]
theorem sepQ_succ (ifs : List UInt8) (x : UInt8 × UInt8) (q : Nat) (h : q < ifs.length) : sepQ ifs x (q + 1) = (sepQ ifs x q || (decide (x.2 = 115) && decide (ifs[q] = x.1))) := by
  unfold sepQ
  rw [List.take_succ_eq_append_getElem h]
  generalize ifs.take q = T
  generalize ifs[q] = y
  by_cases h1 : x.2 = 115
  · by_cases h2 : x.1 ∈ T
    · simp [h1, h2]
    · by_cases h3 : y = x.1
      · simp [h1, h2, h3]
      · have h4 : ¬ x.1 = y := fun e => h3 e.symm
        simp [h1, h2, h3, h4]
  · simp [h1]
/-- What a round of the first loop does. -/
def wantS (ifs : List UInt8) (r : SRow) : List UInt8 := textS (r.filter (plainX ifs))
theorem wantS_snoc (ifs : List UInt8) (r : SRow) (x : UInt8 × UInt8) : wantS ifs (r ++ [x]) = wantS ifs r ++ (if plainX ifs x = true then [x.1] else []) := by
  unfold wantS textS
  rw [List.filter_append, List.map_append, List.filter_cons]
  by_cases h : plainX ifs x = true
  · rw [if_pos h, if_pos h]; rfl
  · rw [if_neg h, if_neg h]; rfl
theorem wantS_len (ifs : List UInt8) (r : SRow) : (wantS ifs r).length ≤ r.length := by
  unfold wantS textS; rw [List.length_map]; exact List.length_filter_le ..
theorem parts_le (r : SRow) : (partsS r).1 ≤ r.length := by
  refine snoc_ind (P := fun r => (partsS r).1 ≤ r.length) (Nat.le_refl _) ?_ r
  intro r x ih
  rw [parts_snoc, List.length_append, List.length_singleton]
  unfold partS
  split
  · show (partsS r).1 ≤ _; omega
  · show (if (partsS r).2 = true then (partsS r).1 else (partsS r).1 + 1) ≤ _; split <;> omega
theorem plain_byte {ifs : List UInt8} {x y : UInt8} (h98 : ¬ y = 98) (h101 : ¬ y = 101) (h : false = (decide (y = 115) && decide (x ∈ ifs))) : plainX ifs (x, y) = true := by
  unfold plainX
  rw [show decide ((x, y).2 ≠ 98) = true from decide_eq_true h98, show decide ((x, y).2 ≠ 101) = true from decide_eq_true h101]
  by_cases h5 : y = 115
  · by_cases h6 : x ∈ ifs
    · rw [decide_eq_true h5, decide_eq_true h6] at h; cases h
    · simp [h6]
  · simp [h5]
theorem plain_sep {ifs : List UInt8} {x y : UInt8} (h : true = (decide (y = 115) && decide (x ∈ ifs))) : ¬ plainX ifs (x, y) = true := by
  have h1 : y = 115 ∧ x ∈ ifs := by simpa using h.symm
  unfold plainX
  simp [h1.1, h1.2]
/-- The fields' bytes, one behind the other. -/
def gotS (L : List SRow) : List UInt8 := textS L.flatten
theorem gotS_take (L : List SRow) (k : Nat) (h : k < L.length) : gotS (L.take (k + 1)) = gotS (L.take k) ++ textS L[k] := by
  unfold gotS
  rw [List.take_succ_eq_append_getElem h, List.flatten_append, textS_append]
  simp
theorem gotS_all (ifs : List UInt8) (r : SRow) : gotS (splitB ifs r) = wantS ifs r := by
  unfold gotS wantS
  rw [split_keeps]
theorem gotS_len (L : List SRow) (k : Nat) : (gotS (L.take k)).length ≤ (gotS L).length := by
  unfold gotS textS
  rw [List.length_map, List.length_map]
  conv => rhs; rw [← List.take_append_drop k L]
  rw [List.flatten_append, List.length_append]
  omega
theorem sp_split_calls' (W : World) (t m ifs : List UInt8) (r : SRow) (hr : r = t.zip m) (hl : r.length ≤ 100000) :
    Calls Try.prog 9 #[.agg #[.string (str t), .string (str m)], .string (str ifs)] W (SplitPost W (splitB ifs r)) := by
  subst hr
  exact sp_split_callsZ W t m ifs hl
set_option maxHeartbeats 16000000 in
theorem split_keeps_law (w : World) (t m ifs : ByteArray) : Calls Try.prog 5 #[.agg #[.string t, .string m], .string ifs] w fun e w' => e = .returned (.bool true) ∧ Below w.heap.size w w' := by
  obtain ⟨t, rfl⟩ : ∃ l, t = str l := ⟨t.data.toList, (str_of t).symm⟩
  obtain ⟨m, rfl⟩ : ∃ l, m = str l := ⟨m.data.toList, (str_of m).symm⟩
  obtain ⟨ifs, rfl⟩ : ∃ l, ifs = str l := ⟨ifs.data.toList, (str_of ifs).symm⟩
  have e1 : (str t).size = t.length := rfl
  have e2 : (str m).size = m.length := rfl
  have e3 : (str ifs).size = ifs.length := rfl
  have HA := Lib.hid (heap_alloc_new w (.cells #[.string (str t), .string (str m)] 23))
  have HB := Lib.hid ((Below.refl w.heap.size w).alloc (Nat.le_refl _) (.cells #[.string (str t), .string (str m)] 23))
  go_enter Try.func5, Try.ntmps5
  go_wp2_with fail
  generalize w.alloc (.cells #[.string (str t), .string (str m)] 23) = w1 at *
  refine (awake_calls w1).mono ?_
  rintro e w2 ⟨rfl, hb2⟩
  have HA2 := Lib.hid ((hb2.block _ (Array.getElem?_eq_some_iff.1 HA.out).1).trans HA.out)
  have HB2 := Lib.hid (HB.out.trans (hb2.mono HB.out.size))
  clear hb2 HA HB
  obtain ⟨c0, c1, y0, y1⟩ := row_facts HA2.out
  obtain ⟨r, hr⟩ : ∃ r, r = t.zip m := ⟨_, rfl⟩
  have hrl : r.length = min t.length m.length := by rw [hr, List.length_zip]
  have hmin : (min (t.length : Int) (m.length : Int)) = (r.length : Int) := by omega
  have Hr := Lib.hid hr
  have Hrl := Lib.hid hrl
  clear hr hrl
  by_cases h1 : 200 < r.length
  · have a1 : decide ((200 : Int) < (r.length : Int)) = true := decide_eq_true (by omega)
    have a2 : (200 : Int) < (r.length : Int) := by omega
    go_wp2_with fail
    go_ret
    exact ⟨rfl, HB2.out⟩
  have a1 : decide ((200 : Int) < (r.length : Int)) = false := decide_eq_false (by omega)
  have a2 : ¬ ((200 : Int) < (r.length : Int)) := by omega
  by_cases h3 : 30 < ifs.length
  · have d1 : decide ((30 : Int) < ((str ifs).size : Int)) = true := decide_eq_true (by omega)
    have d2 : (30 : Int) < ((str ifs).size : Int) := by omega
    go_wp2_with fail
    go_ret
    exact ⟨rfl, HB2.out⟩
  have d1 : decide ((30 : Int) < ((str ifs).size : Int)) = false := decide_eq_false (by omega)
  have d2 : ¬ ((30 : Int) < ((str ifs).size : Int)) := by omega
  go_wp2_with fail
  clear c0 c1 y0 y1 hmin
  go_loopw [7, 8, 9, 10] (fun v7 v8 v9 v10 wr => ∃ k : Nat, k ≤ r.length ∧ v10 = .int .i64 k ∧ v7 = .string (str (wantS ifs (r.take k))) ∧ v8 = .int .i64 ((partsS (r.take k)).1 : Nat) ∧ v9 = .bool (partsS (r.take k)).2 ∧ Below w2.heap.size w2 wr) (fun _ _ _ v10 _ => r.length - (intOf v10).toNat)
  case atStart => exact ⟨0, Nat.zero_le _, rfl, rfl, rfl, rfl, Below.refl _ _⟩
  case round =>
    obtain ⟨k, hk, rfl, rfl, rfl, rfl, hb⟩ := hrel
    have HBr := Lib.hid hb
    clear hb
    have C0 := Lib.hid (cell_below HBr.out (Nat.le_refl _) (row_facts HA2.out).1)
    have C1 := Lib.hid (cell_below HBr.out (Nat.le_refl _) (row_facts HA2.out).2.1)
    have hwl := wantS_len ifs (r.take k)
    have hpl := parts_le (r.take k)
    have htl : (r.take k).length ≤ k := List.length_take_le _ _
    by_cases hlt : k < r.length
    · have hkt : k < t.length := by have := hlt; rw [Hr.out, List.length_zip] at this; omega
      have hkm : k < m.length := by have := hlt; rw [Hr.out, List.length_zip] at this; omega
      have hrk : r[k] = (t[k], m[k]) := by have := Hr.out; subst this; rw [List.getElem_zip]
      have hw1 := wantS_snoc ifs (r.take k) r[k]
      have hp1 := parts_snoc (r.take k) r[k]
      rw [← List.take_succ_eq_append_getElem hlt, hrk] at hw1 hp1
      have hsub : (t.take (k + 1)).drop k = [t[k]] := by rw [List.take_succ_eq_append_getElem hkt, List.drop_append_of_le_length (by rw [List.length_take]; omega), List.drop_of_length_le (by rw [List.length_take]; omega)]; rfl
      have hsl := fun W => Sw.run_sub_lh (P := Try.prog) (w := W) Try.underlying9 t .i64 .i64 k (k + 1) (by omega) (by omega)
      rw [hsub] at hsl
      rw [Int.natCast_add] at hsl
      have HSl : Hid (∀ W, Sem.run Try.prog (Instr.sliceAt 9 (.string (str t)) (some (.int .i64 (k : Int))) (some (.int .i64 ((k : Int) + 1))) none) W = .ok (.string (str [t[k]])) W) := hsl
      have HIt := Lib.hid fun W => Sw.run_at (P := Try.prog) (w := W) Try.underlying9 t .i64 k hkt
      have HIm := Lib.hid fun W => Sw.run_at (P := Try.prog) (w := W) Try.underlying9 m .i64 k hkm
      generalize t[k]'hkt = x at *
      generalize m[k]'hkm = y at *
      have HW := Lib.hid hw1
      have HP := Lib.hid hp1
      have HWL : Hid ((wantS ifs (r.take k)).length ≤ 200) := by show _ ≤ 200; omega
      have HPL : Hid ((partsS (r.take k)).1 ≤ 200) := by show _ ≤ 200; omega
      clear hw1 hp1 hsub hsl hrk hwl hpl htl
      generalize wantS ifs (r.take k) = want at *
      generalize partsS (r.take k) = pp at *
      obtain ⟨P, bg⟩ := pp
      have hP : P ≤ 200 := HPL.out
      simp only []
      have u3 : decide (k < r.length) = true := decide_eq_true (by omega)
      have u1 : decide ((k : Int) < (r.length : Int)) = true := decide_eq_true (by omega)
      have u2 : (k : Int) < (r.length : Int) := by omega
      go_wp2_with fail
      go_loopw [11, 12] (fun v11 v12 wq => ∃ q : Nat, q ≤ ifs.length ∧ v12 = .int .i64 q ∧ v11 = .bool (sepQ ifs (x, y) q) ∧ Below w2.heap.size w2 wq) (fun _ v12 _ => ifs.length - (intOf v12).toNat)
      case atStart => exact ⟨0, Nat.zero_le _, rfl, by rw [sepQ_zero], HBr.out⟩
      case round =>
        clear HBr C0 C1
        obtain ⟨q, hq, rfl, rfl, hb⟩ := hrel
        have HBr := Lib.hid hb
        clear hb
        have C0 := Lib.hid (cell_below HBr.out (Nat.le_refl _) (row_facts HA2.out).1)
        have C1 := Lib.hid (cell_below HBr.out (Nat.le_refl _) (row_facts HA2.out).2.1)
        by_cases hql : q < ifs.length
        · have HIf := Lib.hid fun W => Sw.run_at (P := Try.prog) (w := W) Try.underlying9 ifs .i64 q hql
          have HQ := Lib.hid (sepQ_succ ifs (x, y) q hql)
          generalize ifs[q]'hql = c at *
          have z3 : decide (q < (str ifs).size) = true := decide_eq_true (by omega)
          have z1 : decide ((q : Int) < ((str ifs).size : Int)) = true := decide_eq_true (by omega)
          have z2 : (q : Int) < ((str ifs).size : Int) := by omega
          generalize sepQ ifs (x, y) q = sv at *
          go_wp2_with fail
          cases sv
          · by_cases h115 : y = 115
            · by_cases hcx : c = x
              · have HV : Hid (sepQ ifs (x, y) (q + 1) = true) := by show _ = _; rw [HQ.out]; simp [h115, hcx]
                have HY : Hid (decide ((y.toNat : Int) = 115) = true) := by subst h115; rfl
                have HC : Hid (decide ((c.toNat : Int) = (x.toNat : Int)) = true) := decide_eq_true (u8_eq.2 hcx)
                clear h115 hcx
                refine Rg.wp_region_rgl [] [Rg.Is (.bool false), Rg.Is (.bool false), Rg.Is (.pointer (some ⟨w.heap.size, 1, none⟩)), Rg.Is (.string (str m)), Rg.Is (.int .i64 (k : Int)), Rg.Is (.int .u8 (y.toNat : Int)), Rg.Is (.bool true), Rg.Is (.bool true), Rg.Is (.string (str ifs)), Rg.Is (.int .i64 (q : Int)), Rg.Is (.int .u8 (c.toNat : Int)), Rg.Is (.pointer (some ⟨w.heap.size, 0, none⟩)), Rg.Is (.string (str t)), Rg.Is (.int .i64 (k : Int)), Rg.Is (.int .u8 (x.toNat : Int)), Rg.Is (.bool true), Rg.Is (.bool true), Rg.Is (.bool true), Rg.Is (.bool true)] (by kernel_rfl) (by kernel_rfl) (by kernel_rfl) ⟨Rg.st_is _, Rg.st_is _, Rg.st_is _, Rg.st_is _, Rg.st_is _, Rg.st_is _, Rg.st_is _, Rg.st_is _, Rg.st_is _, Rg.st_is _, Rg.st_is _, Rg.st_is _, Rg.st_is _, Rg.st_is _, Rg.st_is _, Rg.st_is _, Rg.st_is _, Rg.st_is _, Rg.st_is _, trivial⟩ ⟨rfl, rfl, ⟨rfl, fun _ _ h => h⟩, ⟨rfl, fun _ _ h => h⟩, ⟨rfl, fun _ _ h => h⟩, ⟨rfl, fun _ _ h => h⟩, ⟨rfl, fun _ _ h => h⟩, ⟨rfl, fun _ _ h => h⟩, ⟨rfl, fun _ _ h => h⟩, ⟨rfl, fun _ _ h => h⟩, ⟨rfl, fun _ _ h => h⟩, ⟨rfl, fun _ _ h => h⟩, ⟨rfl, fun _ _ h => h⟩, ⟨rfl, fun _ _ h => h⟩, ⟨rfl, fun _ _ h => h⟩, ⟨rfl, fun _ _ h => h⟩, ⟨rfl, fun _ _ h => h⟩, rfl, rfl, trivial⟩ ⟨?_, ?_, ?_, ?_, ?_, ?_, ?_, ?_, ?_, ?_, ?_, ?_, ?_, ?_, ?_, ?_, ?_, ?_, ?_, trivial⟩ ?_
                · intro _ a wx hb hk
                  have h11 : a.eval (.tmp 11) = .bool false := Eq.mp (by kernel_rfl) (hk 11 (by decide))
                  exact Rg.does_move ⟨Below.refl _ _, h11⟩
                · intro _ a wx hb hk
                  have h44 : a.eval (.tmp 44) = .bool false := Eq.mp (by kernel_rfl) (hk 44 (by decide))
                  exact Rg.does_move ⟨Below.refl _ _, h44⟩
                · intro _ a wx hb hk
                  have h2 : a.eval (.tmp 2) = .pointer (some ⟨w.heap.size, 0, none⟩) := Eq.mp (by kernel_rfl) (hk 2 (by decide))
                  exact Rs.does_field _ _ h2 (row_f1 _ _ wx) ⟨Below.refl _ _, rfl⟩
                · intro _ a wx hb hk
                  have h46 : a.eval (.tmp 46) = .pointer (some ⟨w.heap.size, 1, none⟩) := Eq.mp (by kernel_rfl) (hk 46 (by decide))
                  exact Rg.does_load _ _ h46 (load_sp_str (cell_below hb (Nat.le_refl _) C1.out)) ⟨Below.refl _ _, rfl⟩
                · intro _ a wx hb hk
                  have h10 : a.eval (.tmp 10) = .int .i64 (k : Int) := Eq.mp (by kernel_rfl) (hk 10 (by decide))
                  exact Rg.does_move ⟨Below.refl _ _, h10⟩
                · intro _ a wx hb hk
                  have h47 : a.eval (.tmp 47) = .string (str m) := Eq.mp (by kernel_rfl) (hk 47 (by decide))
                  have h48 : a.eval (.tmp 48) = .int .i64 (k : Int) := Eq.mp (by kernel_rfl) (hk 48 (by decide))
                  exact Sw.does_idx _ _ _ h47 h48 (HIm.out wx) ⟨Below.refl _ _, rfl⟩
                · intro _ a wx hb hk
                  have h49 : a.eval (.tmp 49) = .int .u8 (y.toNat : Int) := Eq.mp (by kernel_rfl) (hk 49 (by decide))
                  exact Rg.does_bin _ _ _ _ h49 rfl (Sw.run_eq_int true HY.out) ⟨Below.refl _ _, rfl⟩
                · intro _ a wx hb hk
                  have h50 : a.eval (.tmp 50) = .bool true := Eq.mp (by kernel_rfl) (hk 50 (by decide))
                  exact Rg.does_move ⟨Below.refl _ _, h50⟩
                · intro _ a wx hb hk
                  have h1 : a.eval (.tmp 1) = .string (str ifs) := Eq.mp (by kernel_rfl) (hk 1 (by decide))
                  exact Rg.does_move ⟨Below.refl _ _, h1⟩
                · intro _ a wx hb hk
                  have h12 : a.eval (.tmp 12) = .int .i64 (q : Int) := Eq.mp (by kernel_rfl) (hk 12 (by decide))
                  exact Rg.does_move ⟨Below.refl _ _, h12⟩
                · intro _ a wx hb hk
                  have h52 : a.eval (.tmp 52) = .string (str ifs) := Eq.mp (by kernel_rfl) (hk 52 (by decide))
                  have h53 : a.eval (.tmp 53) = .int .i64 (q : Int) := Eq.mp (by kernel_rfl) (hk 53 (by decide))
                  exact Sw.does_idx _ _ _ h52 h53 (HIf.out wx) ⟨Below.refl _ _, rfl⟩
                · intro _ a wx hb hk
                  have h2 : a.eval (.tmp 2) = .pointer (some ⟨w.heap.size, 0, none⟩) := Eq.mp (by kernel_rfl) (hk 2 (by decide))
                  exact Rs.does_field _ _ h2 (row_f0 _ _ wx) ⟨Below.refl _ _, rfl⟩
                · intro _ a wx hb hk
                  have h55 : a.eval (.tmp 55) = .pointer (some ⟨w.heap.size, 0, none⟩) := Eq.mp (by kernel_rfl) (hk 55 (by decide))
                  exact Rg.does_load _ _ h55 (load_sp_str (cell_below hb (Nat.le_refl _) C0.out)) ⟨Below.refl _ _, rfl⟩
                · intro _ a wx hb hk
                  have h10 : a.eval (.tmp 10) = .int .i64 (k : Int) := Eq.mp (by kernel_rfl) (hk 10 (by decide))
                  exact Rg.does_move ⟨Below.refl _ _, h10⟩
                · intro _ a wx hb hk
                  have h56 : a.eval (.tmp 56) = .string (str t) := Eq.mp (by kernel_rfl) (hk 56 (by decide))
                  have h57 : a.eval (.tmp 57) = .int .i64 (k : Int) := Eq.mp (by kernel_rfl) (hk 57 (by decide))
                  exact Sw.does_idx _ _ _ h56 h57 (HIt.out wx) ⟨Below.refl _ _, rfl⟩
                · intro _ a wx hb hk
                  have h54 : a.eval (.tmp 54) = .int .u8 (c.toNat : Int) := Eq.mp (by kernel_rfl) (hk 54 (by decide))
                  have h58 : a.eval (.tmp 58) = .int .u8 (x.toNat : Int) := Eq.mp (by kernel_rfl) (hk 58 (by decide))
                  exact Rg.does_bin _ _ _ _ h54 h58 (Sw.run_eq_int true HC.out) ⟨Below.refl _ _, rfl⟩
                · intro _ a wx hb hk
                  have h51 : a.eval (.tmp 51) = .bool true := Eq.mp (by kernel_rfl) (hk 51 (by decide))
                  have h59 : a.eval (.tmp 59) = .bool true := Eq.mp (by kernel_rfl) (hk 59 (by decide))
                  exact Rg.does_pick true h51 ⟨Below.refl _ _, h59⟩
                · intro _ a wx hb hk
                  have h45 : a.eval (.tmp 45) = .bool false := Eq.mp (by kernel_rfl) (hk 45 (by decide))
                  have h60 : a.eval (.tmp 60) = .bool true := Eq.mp (by kernel_rfl) (hk 60 (by decide))
                  exact Rg.does_pick false h45 ⟨Below.refl _ _, h60⟩
                · intro _ a wx hb hk
                  have h61 : a.eval (.tmp 61) = .bool true := Eq.mp (by kernel_rfl) (hk 61 (by decide))
                  exact Rg.does_assign ⟨Below.refl _ _, h61⟩
                intro vals wD hbD hL
                obtain ⟨g0, g1, g2, g3, g4, g5, g6, g7, g8, g9, g10, g11, g12, g13, g14, g15, g16, g17, g18, _⟩ := hL
                have g18' : vals 18 = .bool true := g18
                have HBD := Lib.hid hbD
                clear g0 g1 g2 g3 g4 g5 g6 g7 g8 g9 g10 g11 g12 g13 g14 g15 g16 g17 g18 hbD
                simp only [Rg.putAll, List.setIfInBounds_toArray, List.set_cons_succ, List.set_cons_zero, g18']
                clear g18'
                go_wp2_with fail
                go_roundw
                case rel => exact ⟨q + 1, by omega, by go_num, by rw [HV.out], HBr.out.trans (HBD.out.mono HBr.out.size)⟩
                case measure => simp [intOf]; omega
              · have HV : Hid (sepQ ifs (x, y) (q + 1) = false) := by show _ = _; rw [HQ.out]; simp [hcx]
                have HY : Hid (decide ((y.toNat : Int) = 115) = true) := by subst h115; rfl
                have HC : Hid (decide ((c.toNat : Int) = (x.toNat : Int)) = false) := decide_eq_false (fun h => hcx (u8_eq.1 h))
                clear h115 hcx
                refine Rg.wp_region_rgl [] [Rg.Is (.bool false), Rg.Is (.bool false), Rg.Is (.pointer (some ⟨w.heap.size, 1, none⟩)), Rg.Is (.string (str m)), Rg.Is (.int .i64 (k : Int)), Rg.Is (.int .u8 (y.toNat : Int)), Rg.Is (.bool true), Rg.Is (.bool true), Rg.Is (.string (str ifs)), Rg.Is (.int .i64 (q : Int)), Rg.Is (.int .u8 (c.toNat : Int)), Rg.Is (.pointer (some ⟨w.heap.size, 0, none⟩)), Rg.Is (.string (str t)), Rg.Is (.int .i64 (k : Int)), Rg.Is (.int .u8 (x.toNat : Int)), Rg.Is (.bool false), Rg.Is (.bool false), Rg.Is (.bool false), Rg.Is (.bool false)] (by kernel_rfl) (by kernel_rfl) (by kernel_rfl) ⟨Rg.st_is _, Rg.st_is _, Rg.st_is _, Rg.st_is _, Rg.st_is _, Rg.st_is _, Rg.st_is _, Rg.st_is _, Rg.st_is _, Rg.st_is _, Rg.st_is _, Rg.st_is _, Rg.st_is _, Rg.st_is _, Rg.st_is _, Rg.st_is _, Rg.st_is _, Rg.st_is _, Rg.st_is _, trivial⟩ ⟨rfl, rfl, ⟨rfl, fun _ _ h => h⟩, ⟨rfl, fun _ _ h => h⟩, ⟨rfl, fun _ _ h => h⟩, ⟨rfl, fun _ _ h => h⟩, ⟨rfl, fun _ _ h => h⟩, ⟨rfl, fun _ _ h => h⟩, ⟨rfl, fun _ _ h => h⟩, ⟨rfl, fun _ _ h => h⟩, ⟨rfl, fun _ _ h => h⟩, ⟨rfl, fun _ _ h => h⟩, ⟨rfl, fun _ _ h => h⟩, ⟨rfl, fun _ _ h => h⟩, ⟨rfl, fun _ _ h => h⟩, ⟨rfl, fun _ _ h => h⟩, ⟨rfl, fun _ _ h => h⟩, rfl, rfl, trivial⟩ ⟨?_, ?_, ?_, ?_, ?_, ?_, ?_, ?_, ?_, ?_, ?_, ?_, ?_, ?_, ?_, ?_, ?_, ?_, ?_, trivial⟩ ?_
                · intro _ a wx hb hk
                  have h11 : a.eval (.tmp 11) = .bool false := Eq.mp (by kernel_rfl) (hk 11 (by decide))
                  exact Rg.does_move ⟨Below.refl _ _, h11⟩
                · intro _ a wx hb hk
                  have h44 : a.eval (.tmp 44) = .bool false := Eq.mp (by kernel_rfl) (hk 44 (by decide))
                  exact Rg.does_move ⟨Below.refl _ _, h44⟩
                · intro _ a wx hb hk
                  have h2 : a.eval (.tmp 2) = .pointer (some ⟨w.heap.size, 0, none⟩) := Eq.mp (by kernel_rfl) (hk 2 (by decide))
                  exact Rs.does_field _ _ h2 (row_f1 _ _ wx) ⟨Below.refl _ _, rfl⟩
                · intro _ a wx hb hk
                  have h46 : a.eval (.tmp 46) = .pointer (some ⟨w.heap.size, 1, none⟩) := Eq.mp (by kernel_rfl) (hk 46 (by decide))
                  exact Rg.does_load _ _ h46 (load_sp_str (cell_below hb (Nat.le_refl _) C1.out)) ⟨Below.refl _ _, rfl⟩
                · intro _ a wx hb hk
                  have h10 : a.eval (.tmp 10) = .int .i64 (k : Int) := Eq.mp (by kernel_rfl) (hk 10 (by decide))
                  exact Rg.does_move ⟨Below.refl _ _, h10⟩
                · intro _ a wx hb hk
                  have h47 : a.eval (.tmp 47) = .string (str m) := Eq.mp (by kernel_rfl) (hk 47 (by decide))
                  have h48 : a.eval (.tmp 48) = .int .i64 (k : Int) := Eq.mp (by kernel_rfl) (hk 48 (by decide))
                  exact Sw.does_idx _ _ _ h47 h48 (HIm.out wx) ⟨Below.refl _ _, rfl⟩
                · intro _ a wx hb hk
                  have h49 : a.eval (.tmp 49) = .int .u8 (y.toNat : Int) := Eq.mp (by kernel_rfl) (hk 49 (by decide))
                  exact Rg.does_bin _ _ _ _ h49 rfl (Sw.run_eq_int true HY.out) ⟨Below.refl _ _, rfl⟩
                · intro _ a wx hb hk
                  have h50 : a.eval (.tmp 50) = .bool true := Eq.mp (by kernel_rfl) (hk 50 (by decide))
                  exact Rg.does_move ⟨Below.refl _ _, h50⟩
                · intro _ a wx hb hk
                  have h1 : a.eval (.tmp 1) = .string (str ifs) := Eq.mp (by kernel_rfl) (hk 1 (by decide))
                  exact Rg.does_move ⟨Below.refl _ _, h1⟩
                · intro _ a wx hb hk
                  have h12 : a.eval (.tmp 12) = .int .i64 (q : Int) := Eq.mp (by kernel_rfl) (hk 12 (by decide))
                  exact Rg.does_move ⟨Below.refl _ _, h12⟩
                · intro _ a wx hb hk
                  have h52 : a.eval (.tmp 52) = .string (str ifs) := Eq.mp (by kernel_rfl) (hk 52 (by decide))
                  have h53 : a.eval (.tmp 53) = .int .i64 (q : Int) := Eq.mp (by kernel_rfl) (hk 53 (by decide))
                  exact Sw.does_idx _ _ _ h52 h53 (HIf.out wx) ⟨Below.refl _ _, rfl⟩
                · intro _ a wx hb hk
                  have h2 : a.eval (.tmp 2) = .pointer (some ⟨w.heap.size, 0, none⟩) := Eq.mp (by kernel_rfl) (hk 2 (by decide))
                  exact Rs.does_field _ _ h2 (row_f0 _ _ wx) ⟨Below.refl _ _, rfl⟩
                · intro _ a wx hb hk
                  have h55 : a.eval (.tmp 55) = .pointer (some ⟨w.heap.size, 0, none⟩) := Eq.mp (by kernel_rfl) (hk 55 (by decide))
                  exact Rg.does_load _ _ h55 (load_sp_str (cell_below hb (Nat.le_refl _) C0.out)) ⟨Below.refl _ _, rfl⟩
                · intro _ a wx hb hk
                  have h10 : a.eval (.tmp 10) = .int .i64 (k : Int) := Eq.mp (by kernel_rfl) (hk 10 (by decide))
                  exact Rg.does_move ⟨Below.refl _ _, h10⟩
                · intro _ a wx hb hk
                  have h56 : a.eval (.tmp 56) = .string (str t) := Eq.mp (by kernel_rfl) (hk 56 (by decide))
                  have h57 : a.eval (.tmp 57) = .int .i64 (k : Int) := Eq.mp (by kernel_rfl) (hk 57 (by decide))
                  exact Sw.does_idx _ _ _ h56 h57 (HIt.out wx) ⟨Below.refl _ _, rfl⟩
                · intro _ a wx hb hk
                  have h54 : a.eval (.tmp 54) = .int .u8 (c.toNat : Int) := Eq.mp (by kernel_rfl) (hk 54 (by decide))
                  have h58 : a.eval (.tmp 58) = .int .u8 (x.toNat : Int) := Eq.mp (by kernel_rfl) (hk 58 (by decide))
                  exact Rg.does_bin _ _ _ _ h54 h58 (Sw.run_eq_int false HC.out) ⟨Below.refl _ _, rfl⟩
                · intro _ a wx hb hk
                  have h51 : a.eval (.tmp 51) = .bool true := Eq.mp (by kernel_rfl) (hk 51 (by decide))
                  have h59 : a.eval (.tmp 59) = .bool false := Eq.mp (by kernel_rfl) (hk 59 (by decide))
                  exact Rg.does_pick true h51 ⟨Below.refl _ _, h59⟩
                · intro _ a wx hb hk
                  have h45 : a.eval (.tmp 45) = .bool false := Eq.mp (by kernel_rfl) (hk 45 (by decide))
                  have h60 : a.eval (.tmp 60) = .bool false := Eq.mp (by kernel_rfl) (hk 60 (by decide))
                  exact Rg.does_pick false h45 ⟨Below.refl _ _, h60⟩
                · intro _ a wx hb hk
                  have h61 : a.eval (.tmp 61) = .bool false := Eq.mp (by kernel_rfl) (hk 61 (by decide))
                  exact Rg.does_assign ⟨Below.refl _ _, h61⟩
                intro vals wD hbD hL
                obtain ⟨g0, g1, g2, g3, g4, g5, g6, g7, g8, g9, g10, g11, g12, g13, g14, g15, g16, g17, g18, _⟩ := hL
                have g18' : vals 18 = .bool false := g18
                have HBD := Lib.hid hbD
                clear g0 g1 g2 g3 g4 g5 g6 g7 g8 g9 g10 g11 g12 g13 g14 g15 g16 g17 g18 hbD
                simp only [Rg.putAll, List.setIfInBounds_toArray, List.set_cons_succ, List.set_cons_zero, g18']
                clear g18'
                go_wp2_with fail
                go_roundw
                case rel => exact ⟨q + 1, by omega, by go_num, by rw [HV.out], HBr.out.trans (HBD.out.mono HBr.out.size)⟩
                case measure => simp [intOf]; omega
            · have HV : Hid (sepQ ifs (x, y) (q + 1) = false) := by show _ = _; rw [HQ.out]; simp [h115]
              have HY : Hid (decide ((y.toNat : Int) = 115) = false) := decide_eq_false (fun h => h115 (u8_eq (b := 115).1 h))
              clear h115
              refine Rg.wp_region_rgl [true, true, true, true, true, true, true, true, false, false, false, false, false, false, false, false, true, true, true] [Rg.Is (.bool false), Rg.Is (.bool false), Rg.Is (.pointer (some ⟨w.heap.size, 1, none⟩)), Rg.Is (.string (str m)), Rg.Is (.int .i64 (k : Int)), Rg.Is (.int .u8 (y.toNat : Int)), Rg.Is (.bool false), Rg.Is (.bool false), (fun _ _ => True), (fun _ _ => True), (fun _ _ => True), (fun _ _ => True), (fun _ _ => True), (fun _ _ => True), (fun _ _ => True), (fun _ _ => True), Rg.Is (.bool false), Rg.Is (.bool false), Rg.Is (.bool false)] (by kernel_rfl) (by kernel_rfl) (by kernel_rfl) ⟨Rg.st_is _, Rg.st_is _, Rg.st_is _, Rg.st_is _, Rg.st_is _, Rg.st_is _, Rg.st_is _, Rg.st_is _, fun _ _ _ h _ => h, fun _ _ _ h _ => h, fun _ _ _ h _ => h, fun _ _ _ h _ => h, fun _ _ _ h _ => h, fun _ _ _ h _ => h, fun _ _ _ h _ => h, fun _ _ _ h _ => h, Rg.st_is _, Rg.st_is _, Rg.st_is _, trivial⟩ ⟨rfl, rfl, ⟨rfl, fun _ _ h => h⟩, ⟨rfl, fun _ _ h => h⟩, ⟨rfl, fun _ _ h => h⟩, ⟨rfl, fun _ _ h => h⟩, ⟨rfl, fun _ _ h => h⟩, ⟨rfl, fun _ _ h => h⟩, Or.inr fun _ _ h => h, Or.inr fun _ _ h => h, Or.inr fun _ _ h => h, Or.inr fun _ _ h => h, Or.inr fun _ _ h => h, Or.inr fun _ _ h => h, Or.inr fun _ _ h => h, Or.inr fun _ _ h => h, ⟨rfl, fun _ _ h => h⟩, rfl, rfl, trivial⟩ ⟨?_, ?_, ?_, ?_, ?_, ?_, ?_, ?_, ?_, ?_, ?_, ?_, ?_, ?_, ?_, ?_, ?_, ?_, ?_, trivial⟩ ?_
              · intro _ a wx hb hk
                have h11 : a.eval (.tmp 11) = .bool false := Eq.mp (by kernel_rfl) (hk 11 (by decide))
                exact Rg.does_move ⟨Below.refl _ _, h11⟩
              · intro _ a wx hb hk
                have h44 : a.eval (.tmp 44) = .bool false := Eq.mp (by kernel_rfl) (hk 44 (by decide))
                exact Rg.does_move ⟨Below.refl _ _, h44⟩
              · intro _ a wx hb hk
                have h2 : a.eval (.tmp 2) = .pointer (some ⟨w.heap.size, 0, none⟩) := Eq.mp (by kernel_rfl) (hk 2 (by decide))
                exact Rs.does_field _ _ h2 (row_f1 _ _ wx) ⟨Below.refl _ _, rfl⟩
              · intro _ a wx hb hk
                have h46 : a.eval (.tmp 46) = .pointer (some ⟨w.heap.size, 1, none⟩) := Eq.mp (by kernel_rfl) (hk 46 (by decide))
                exact Rg.does_load _ _ h46 (load_sp_str (cell_below hb (Nat.le_refl _) C1.out)) ⟨Below.refl _ _, rfl⟩
              · intro _ a wx hb hk
                have h10 : a.eval (.tmp 10) = .int .i64 (k : Int) := Eq.mp (by kernel_rfl) (hk 10 (by decide))
                exact Rg.does_move ⟨Below.refl _ _, h10⟩
              · intro _ a wx hb hk
                have h47 : a.eval (.tmp 47) = .string (str m) := Eq.mp (by kernel_rfl) (hk 47 (by decide))
                have h48 : a.eval (.tmp 48) = .int .i64 (k : Int) := Eq.mp (by kernel_rfl) (hk 48 (by decide))
                exact Sw.does_idx _ _ _ h47 h48 (HIm.out wx) ⟨Below.refl _ _, rfl⟩
              · intro _ a wx hb hk
                have h49 : a.eval (.tmp 49) = .int .u8 (y.toNat : Int) := Eq.mp (by kernel_rfl) (hk 49 (by decide))
                exact Rg.does_bin _ _ _ _ h49 rfl (Sw.run_eq_int false HY.out) ⟨Below.refl _ _, rfl⟩
              · intro _ a wx hb hk
                have h50 : a.eval (.tmp 50) = .bool false := Eq.mp (by kernel_rfl) (hk 50 (by decide))
                exact Rg.does_move ⟨Below.refl _ _, h50⟩
              · intro h; exact absurd h (by decide)
              · intro h; exact absurd h (by decide)
              · intro h; exact absurd h (by decide)
              · intro h; exact absurd h (by decide)
              · intro h; exact absurd h (by decide)
              · intro h; exact absurd h (by decide)
              · intro h; exact absurd h (by decide)
              · intro h; exact absurd h (by decide)
              · intro _ a wx hb hk
                have h51 : a.eval (.tmp 51) = .bool false := Eq.mp (by kernel_rfl) (hk 51 (by decide))
                have h59 : a.eval (.tmp 59) = undef := Eq.mp (by kernel_rfl) (hk 59 (by decide))
                exact Rg.does_pick false h51 ⟨Below.refl _ _, rfl⟩
              · intro _ a wx hb hk
                have h45 : a.eval (.tmp 45) = .bool false := Eq.mp (by kernel_rfl) (hk 45 (by decide))
                have h60 : a.eval (.tmp 60) = .bool false := Eq.mp (by kernel_rfl) (hk 60 (by decide))
                exact Rg.does_pick false h45 ⟨Below.refl _ _, h60⟩
              · intro _ a wx hb hk
                have h61 : a.eval (.tmp 61) = .bool false := Eq.mp (by kernel_rfl) (hk 61 (by decide))
                exact Rg.does_assign ⟨Below.refl _ _, h61⟩
              intro vals wD hbD hL
              obtain ⟨g0, g1, g2, g3, g4, g5, g6, g7, g8, g9, g10, g11, g12, g13, g14, g15, g16, g17, g18, _⟩ := hL
              have g18' : vals 18 = .bool false := g18
              have HBD := Lib.hid hbD
              clear g0 g1 g2 g3 g4 g5 g6 g7 g8 g9 g10 g11 g12 g13 g14 g15 g16 g17 g18 hbD
              simp only [Rg.putAll, List.setIfInBounds_toArray, List.set_cons_succ, List.set_cons_zero, g18']
              clear g18'
              go_wp2_with fail
              go_roundw
              case rel => exact ⟨q + 1, by omega, by go_num, by rw [HV.out], HBr.out.trans (HBD.out.mono HBr.out.size)⟩
              case measure => simp [intOf]; omega
          · have HV : Hid (sepQ ifs (x, y) (q + 1) = true) := by show _ = _; rw [HQ.out]; simp
            refine Rg.wp_region_rgl [true, true, false, false, false, false, false, false, false, false, false, false, false, false, false, false, false, true, true] [Rg.Is (.bool true), Rg.Is (.bool true), (fun _ _ => True), (fun _ _ => True), (fun _ _ => True), (fun _ _ => True), (fun _ _ => True), (fun _ _ => True), (fun _ _ => True), (fun _ _ => True), (fun _ _ => True), (fun _ _ => True), (fun _ _ => True), (fun _ _ => True), (fun _ _ => True), (fun _ _ => True), (fun _ _ => True), Rg.Is (.bool true), Rg.Is (.bool true)] (by kernel_rfl) (by kernel_rfl) (by kernel_rfl) ⟨Rg.st_is _, Rg.st_is _, fun _ _ _ h _ => h, fun _ _ _ h _ => h, fun _ _ _ h _ => h, fun _ _ _ h _ => h, fun _ _ _ h _ => h, fun _ _ _ h _ => h, fun _ _ _ h _ => h, fun _ _ _ h _ => h, fun _ _ _ h _ => h, fun _ _ _ h _ => h, fun _ _ _ h _ => h, fun _ _ _ h _ => h, fun _ _ _ h _ => h, fun _ _ _ h _ => h, fun _ _ _ h _ => h, Rg.st_is _, Rg.st_is _, trivial⟩ ⟨rfl, rfl, Or.inr fun _ _ h => h, Or.inr fun _ _ h => h, Or.inr fun _ _ h => h, Or.inr fun _ _ h => h, Or.inr fun _ _ h => h, Or.inr fun _ _ h => h, Or.inl rfl, Or.inl rfl, Or.inl rfl, Or.inl rfl, Or.inl rfl, Or.inl rfl, Or.inl rfl, Or.inl rfl, Or.inr fun _ _ h => h, rfl, rfl, trivial⟩ ⟨?_, ?_, ?_, ?_, ?_, ?_, ?_, ?_, ?_, ?_, ?_, ?_, ?_, ?_, ?_, ?_, ?_, ?_, ?_, trivial⟩ ?_
            · intro _ a wx hb hk
              have h11 : a.eval (.tmp 11) = .bool true := Eq.mp (by kernel_rfl) (hk 11 (by decide))
              exact Rg.does_move ⟨Below.refl _ _, h11⟩
            · intro _ a wx hb hk
              have h44 : a.eval (.tmp 44) = .bool true := Eq.mp (by kernel_rfl) (hk 44 (by decide))
              exact Rg.does_move ⟨Below.refl _ _, h44⟩
            · intro h; exact absurd h (by decide)
            · intro h; exact absurd h (by decide)
            · intro h; exact absurd h (by decide)
            · intro h; exact absurd h (by decide)
            · intro h; exact absurd h (by decide)
            · intro h; exact absurd h (by decide)
            · intro h; exact absurd h (by decide)
            · intro h; exact absurd h (by decide)
            · intro h; exact absurd h (by decide)
            · intro h; exact absurd h (by decide)
            · intro h; exact absurd h (by decide)
            · intro h; exact absurd h (by decide)
            · intro h; exact absurd h (by decide)
            · intro h; exact absurd h (by decide)
            · intro h; exact absurd h (by decide)
            · intro _ a wx hb hk
              have h45 : a.eval (.tmp 45) = .bool true := Eq.mp (by kernel_rfl) (hk 45 (by decide))
              have h60 : a.eval (.tmp 60) = undef := Eq.mp (by kernel_rfl) (hk 60 (by decide))
              exact Rg.does_pick true h45 ⟨Below.refl _ _, rfl⟩
            · intro _ a wx hb hk
              have h61 : a.eval (.tmp 61) = .bool true := Eq.mp (by kernel_rfl) (hk 61 (by decide))
              exact Rg.does_assign ⟨Below.refl _ _, h61⟩
            intro vals wD hbD hL
            obtain ⟨g0, g1, g2, g3, g4, g5, g6, g7, g8, g9, g10, g11, g12, g13, g14, g15, g16, g17, g18, _⟩ := hL
            have g18' : vals 18 = .bool true := g18
            have HBD := Lib.hid hbD
            clear g0 g1 g2 g3 g4 g5 g6 g7 g8 g9 g10 g11 g12 g13 g14 g15 g16 g17 g18 hbD
            simp only [Rg.putAll, List.setIfInBounds_toArray, List.set_cons_succ, List.set_cons_zero, g18']
            clear g18'
            go_wp2_with fail
            go_roundw
            case rel => exact ⟨q + 1, by omega, by go_num, by rw [HV.out], HBr.out.trans (HBD.out.mono HBr.out.size)⟩
            case measure => simp [intOf]; omega
        · obtain rfl : q = ifs.length := by omega
          have z3 : decide (ifs.length < (str ifs).size) = false := decide_eq_false (by omega)
          have z1 : decide ((ifs.length : Int) < ((str ifs).size : Int)) = false := decide_eq_false (by omega)
          have z2 : ¬ ((ifs.length : Int) < ((str ifs).size : Int)) := by omega
          have HSv : Hid (sepQ ifs (x, y) ifs.length = (decide (y = 115) && decide (x ∈ ifs))) := by show sepQ _ _ _ = _; unfold sepQ; rw [List.take_length]
          generalize sepQ ifs (x, y) ifs.length = sv at *
          have c0 := C0.out
          have c1 := C1.out
          have hit := HIt.out
          have him := HIm.out
          have hsl := HSl.out
          by_cases h98 : y = 98
          · have d1 : decide ((y.toNat : Int) = 98) = true := by subst h98; rfl
            have d2 : (y.toNat : Int) = 98 := by subst h98; rfl
            have HW2 : Hid (wantS ifs (r.take (k + 1)) = want) := by show _ = _; rw [HW.out, if_neg (by unfold plainX; simp [h98]), List.append_nil]
            have HP2 : Hid (partsS (r.take (k + 1)) = (P, false)) := by show _ = _; rw [HP.out]; unfold partS; rw [if_pos h98]
            clear h98
            go_wp2_with fail
            go_roundw
            case rel => exact ⟨k + 1, by omega, by go_num, by rw [HW2.out], by rw [HP2.out], by rw [HP2.out], HBr.out⟩
            case measure => simp [intOf]; omega
          · have d1 : decide ((y.toNat : Int) = 98) = false := decide_eq_false (fun h => h98 (u8_eq (b := 98).1 h))
            have d2 : ¬ (y.toNat : Int) = 98 := fun h => h98 (u8_eq (b := 98).1 h)
            have d3 : ((y.toNat : Int) == 98) = false := by simpa using d2
            have HP2 : Hid (partsS (r.take (k + 1)) = (if bg = true then P else P + 1, true)) := by show _ = _; rw [HP.out]; unfold partS; rw [if_neg h98]
            cases bg
            · cases sv
              · by_cases h101 : y = 101
                · have d4 : decide ((y.toNat : Int) = 101) = true := by subst h101; rfl
                  have d5 : (y.toNat : Int) = 101 := by subst h101; rfl
                  have HW2 : Hid (wantS ifs (r.take (k + 1)) = want) := by show _ = _; rw [HW.out, if_neg (by unfold plainX; simp [h101]), List.append_nil]
                  clear h101 h98
                  go_wp2_with fail
                  go_roundw
                  case rel => exact ⟨k + 1, by omega, by go_num, by rw [HW2.out], by rw [HP2.out]; go_num, by rw [HP2.out], HBr.out⟩
                  case measure => simp [intOf]; omega
                · have d4 : decide ((y.toNat : Int) = 101) = false := decide_eq_false (fun h => h101 (u8_eq (b := 101).1 h))
                  have d5 : ¬ (y.toNat : Int) = 101 := fun h => h101 (u8_eq (b := 101).1 h)
                  have d6 : ((y.toNat : Int) == 101) = false := by simpa using d5
                  have d7 : ((y.toNat : Int) != 101) = true := by simpa using d5
                  have HW2 : Hid (wantS ifs (r.take (k + 1)) = want ++ [x]) := by show _ = _; rw [HW.out, if_pos (plain_byte h98 h101 HSv.out)]
                  have hov : ¬ 9223372036854775807 < (str want).size + (str [x]).size := by rw [str_size, str_size]; have := HWL.out; simp; omega
                  clear h101 h98
                  go_wp2_with fail
                  go_roundw
                  case rel => exact ⟨k + 1, by omega, by go_num, by rw [str_append, HW2.out], by rw [HP2.out]; go_num, by rw [HP2.out], HBr.out⟩
                  case measure => simp [intOf]; omega
              · have HW2 : Hid (wantS ifs (r.take (k + 1)) = want) := by show _ = _; rw [HW.out, if_neg (plain_sep HSv.out), List.append_nil]
                clear h98
                go_wp2_with fail
                go_roundw
                case rel => exact ⟨k + 1, by omega, by go_num, by rw [HW2.out], by rw [HP2.out]; go_num, by rw [HP2.out], HBr.out⟩
                case measure => simp [intOf]; omega
            · cases sv
              · by_cases h101 : y = 101
                · have d4 : decide ((y.toNat : Int) = 101) = true := by subst h101; rfl
                  have d5 : (y.toNat : Int) = 101 := by subst h101; rfl
                  have HW2 : Hid (wantS ifs (r.take (k + 1)) = want) := by show _ = _; rw [HW.out, if_neg (by unfold plainX; simp [h101]), List.append_nil]
                  clear h101 h98
                  go_wp2_with fail
                  go_roundw
                  case rel => exact ⟨k + 1, by omega, by go_num, by rw [HW2.out], by rw [HP2.out]; rfl, by rw [HP2.out], HBr.out⟩
                  case measure => simp [intOf]; omega
                · have d4 : decide ((y.toNat : Int) = 101) = false := decide_eq_false (fun h => h101 (u8_eq (b := 101).1 h))
                  have d5 : ¬ (y.toNat : Int) = 101 := fun h => h101 (u8_eq (b := 101).1 h)
                  have d6 : ((y.toNat : Int) == 101) = false := by simpa using d5
                  have d7 : ((y.toNat : Int) != 101) = true := by simpa using d5
                  have HW2 : Hid (wantS ifs (r.take (k + 1)) = want ++ [x]) := by show _ = _; rw [HW.out, if_pos (plain_byte h98 h101 HSv.out)]
                  have hov : ¬ 9223372036854775807 < (str want).size + (str [x]).size := by rw [str_size, str_size]; have := HWL.out; simp; omega
                  clear h101 h98
                  go_wp2_with fail
                  go_roundw
                  case rel => exact ⟨k + 1, by omega, by go_num, by rw [str_append, HW2.out], by rw [HP2.out]; rfl, by rw [HP2.out], HBr.out⟩
                  case measure => simp [intOf]; omega
              · have HW2 : Hid (wantS ifs (r.take (k + 1)) = want) := by show _ = _; rw [HW.out, if_neg (plain_sep HSv.out), List.append_nil]
                clear h98
                go_wp2_with fail
                go_roundw
                case rel => exact ⟨k + 1, by omega, by go_num, by rw [HW2.out], by rw [HP2.out]; rfl, by rw [HP2.out], HBr.out⟩
                case measure => simp [intOf]; omega
    · obtain rfl : k = r.length := by omega
      have u3 : decide (r.length < r.length) = false := decide_eq_false (by omega)
      have u1 : decide ((r.length : Int) < (r.length : Int)) = false := decide_eq_false (by omega)
      have u2 : ¬ ((r.length : Int) < (r.length : Int)) := by omega
      rw [List.take_length] at *
      have HG := Lib.hid (gotS_all ifs r)
      have HN : Hid (ifs = [] → (splitB ifs r).length = (partsS r).1) := by show _ → _; intro e; subst e; exact split_nil_len r
      have HSp := Lib.hid fun W => sp_split_calls' W t m ifs r Hr.out (by omega)
      have hgl := gotS_len (splitB ifs r)
      rw [gotS_all] at hgl
      have HGL := Lib.hid hgl
      clear hgl htl
      generalize splitB ifs r = L at *
      generalize wantS ifs r = want at *
      generalize (partsS r).1 = P at *
      have c0 := C0.out
      have c1 := C1.out
      have HWL := Lib.hid hwl
      clear hwl
      go_wp2_with fail
      refine (HSp.out wr).mono ?_
      rintro e w3 ⟨v, rfl, hown, hb3⟩
      obtain ⟨a1, k1, rfl, hrow⟩ := Ap.own_cells (f := rowCells) (by decide) rowCells_len hown
      have HB3 := Lib.hid (HB2.out.trans ((HBr.out.mono HB2.out.size).trans (hb3.mono (Nat.le_trans HB2.out.size HBr.out.size))))
      have hL : L.length ≤ 9223372036854775807 := by have h1 := hrow.2.1; have h2 := hrow.2.2.1; unfold maxLen at h2; omega
      obtain ⟨b1, o1, hcs, hix1⟩ := rows_at hrow
      have HCs := Lib.hid hcs
      have HI1 := Lib.hid hix1
      clear hown hb3 hrow hcs hix1 c0 c1 C0 C1 HSp HBr
      go_wp2_with fail
      go_loopw [14, 15] (fun v14 v15 wr => ∃ k : Nat, k ≤ L.length ∧ v15 = .int .i64 k ∧ v14 = .string (str (gotS (L.take k))) ∧ Below w3.heap.size w3 wr) (fun _ v15 _ => L.length - (intOf v15).toNat)
      case atStart => exact ⟨0, Nat.zero_le _, rfl, rfl, Below.refl _ _⟩
      case round =>
        obtain ⟨k, hk, rfl, rfl, hb⟩ := hrel
        have HBr := Lib.hid hb
        clear hb
        by_cases hlt : k < L.length
        · have hX := fun W => HI1.out .i64 k W hlt
          have A0 := cell_below HBr.out (Nat.le_refl _) (HCs.out k hlt).1
          have A1 := Lib.hid (cell_below HBr.out (Nat.le_refl _) (HCs.out k hlt).2)
          have hl1 := HGL.out k
          have hl2 := HGL.out (k + 1)
          rw [gotS_take L k hlt, List.length_append] at hl2
          have HT := Lib.hid (gotS_take L k hlt)
          have htm : (str (maskS L[k])).size = (str (textS L[k])).size := by rw [str_size, str_size]; unfold textS maskS; rw [List.length_map, List.length_map]
          generalize L[k]'hlt = x at *
          generalize o1 + k * 2 = q1 at *
          generalize gotS (L.take k) = got at *
          have hov : ¬ 9223372036854775807 < (str got).size + (str (textS x)).size := by rw [str_size, str_size]; have := HWL.out; omega
          have HTM := Lib.hid htm
          clear hl1 hl2 htm
          have u3 : decide (k < L.length) = true := decide_eq_true (by omega)
          have u1 : decide ((k : Int) < (L.length : Int)) = true := decide_eq_true (by omega)
          have u2 : (k : Int) < (L.length : Int) := by omega
          go_wp2_with fail
          have HX := Lib.hid hX
          clear hX
          have HA0 := Lib.hid A0
          clear A0
          refine Rg.wp_region_rgl [] [Rg.Is (.slice a1 L.length k1), Rg.Is (.int .i64 (k : Int)), Rg.Is (.pointer (some ⟨b1, q1, none⟩)), Rg.Is (.pointer (some ⟨b1, q1, none⟩)), Rg.Is (.string (str (textS x))), Rg.Is (.int .i64 ((str (textS x)).size : Int)), Rg.Is (.slice a1 L.length k1), Rg.Is (.int .i64 (k : Int)), Rg.Is (.pointer (some ⟨b1, q1, none⟩)), Rg.Is (.pointer (some ⟨b1, q1 + 1, none⟩)), Rg.Is (.string (str (maskS x))), Rg.Is (.int .i64 ((str (maskS x)).size : Int)), Rg.Is (.bool false)] (by kernel_rfl) (by kernel_rfl) (by kernel_rfl) ⟨Rg.st_is _, Rg.st_is _, Rg.st_is _, Rg.st_is _, Rg.st_is _, Rg.st_is _, Rg.st_is _, Rg.st_is _, Rg.st_is _, Rg.st_is _, Rg.st_is _, Rg.st_is _, Rg.st_is _, trivial⟩ ⟨rfl, rfl, rfl, rfl, rfl, rfl, rfl, rfl, rfl, rfl, rfl, rfl, rfl, trivial⟩ ⟨?_, ?_, ?_, ?_, ?_, ?_, ?_, ?_, ?_, ?_, ?_, ?_, ?_, trivial⟩ ?_
          · intro _ a wx hb hk
            have h13 : a.eval (.tmp 13) = .slice a1 L.length k1 := Eq.mp (by kernel_rfl) (hk 13 (by decide))
            exact Rg.does_move ⟨Below.refl _ _, h13⟩
          · intro _ a wx hb hk
            have h15 : a.eval (.tmp 15) = .int .i64 (k : Int) := Eq.mp (by kernel_rfl) (hk 15 (by decide))
            exact Rg.does_move ⟨Below.refl _ _, h15⟩
          · intro _ a wx hb hk
            have h104 : a.eval (.tmp 104) = .slice a1 L.length k1 := Eq.mp (by kernel_rfl) (hk 104 (by decide))
            have h105 : a.eval (.tmp 105) = .int .i64 (k : Int) := Eq.mp (by kernel_rfl) (hk 105 (by decide))
            exact Rg.does_index _ _ _ h104 h105 (HX.out wx) ⟨Below.refl _ _, rfl⟩
          · intro _ a wx hb hk
            have h106 : a.eval (.tmp 106) = .pointer (some ⟨b1, q1, none⟩) := Eq.mp (by kernel_rfl) (hk 106 (by decide))
            exact Rs.does_field _ _ h106 (row_f0 _ _ wx) ⟨Below.refl _ _, rfl⟩
          · intro _ a wx hb hk
            have h107 : a.eval (.tmp 107) = .pointer (some ⟨b1, q1, none⟩) := Eq.mp (by kernel_rfl) (hk 107 (by decide))
            exact Rg.does_load _ _ h107 (load_sp_str (cell_below hb (Nat.le_refl _) HA0.out)) ⟨Below.refl _ _, rfl⟩
          · intro _ a wx hb hk
            have h108 : a.eval (.tmp 108) = .string (str (textS x)) := Eq.mp (by kernel_rfl) (hk 108 (by decide))
            exact Rs.does_len_string (str (textS x)) Try.underlying9 h108 ⟨Below.refl _ _, rfl⟩
          · intro _ a wx hb hk
            have h13 : a.eval (.tmp 13) = .slice a1 L.length k1 := Eq.mp (by kernel_rfl) (hk 13 (by decide))
            exact Rg.does_move ⟨Below.refl _ _, h13⟩
          · intro _ a wx hb hk
            have h15 : a.eval (.tmp 15) = .int .i64 (k : Int) := Eq.mp (by kernel_rfl) (hk 15 (by decide))
            exact Rg.does_move ⟨Below.refl _ _, h15⟩
          · intro _ a wx hb hk
            have h110 : a.eval (.tmp 110) = .slice a1 L.length k1 := Eq.mp (by kernel_rfl) (hk 110 (by decide))
            have h111 : a.eval (.tmp 111) = .int .i64 (k : Int) := Eq.mp (by kernel_rfl) (hk 111 (by decide))
            exact Rg.does_index _ _ _ h110 h111 (HX.out wx) ⟨Below.refl _ _, rfl⟩
          · intro _ a wx hb hk
            have h112 : a.eval (.tmp 112) = .pointer (some ⟨b1, q1, none⟩) := Eq.mp (by kernel_rfl) (hk 112 (by decide))
            exact Rs.does_field _ _ h112 (row_f1 _ _ wx) ⟨Below.refl _ _, rfl⟩
          · intro _ a wx hb hk
            have h113 : a.eval (.tmp 113) = .pointer (some ⟨b1, q1 + 1, none⟩) := Eq.mp (by kernel_rfl) (hk 113 (by decide))
            exact Rg.does_load _ _ h113 (load_sp_str (cell_below hb (Nat.le_refl _) A1.out)) ⟨Below.refl _ _, rfl⟩
          · intro _ a wx hb hk
            have h114 : a.eval (.tmp 114) = .string (str (maskS x)) := Eq.mp (by kernel_rfl) (hk 114 (by decide))
            exact Rs.does_len_string (str (maskS x)) Try.underlying9 h114 ⟨Below.refl _ _, rfl⟩
          · intro _ a wx hb hk
            have h109 : a.eval (.tmp 109) = .int .i64 ((str (textS x)).size : Int) := Eq.mp (by kernel_rfl) (hk 109 (by decide))
            have h115 : a.eval (.tmp 115) = .int .i64 ((str (maskS x)).size : Int) := Eq.mp (by kernel_rfl) (hk 115 (by decide))
            exact Rg.does_bin _ _ _ _ h109 h115 (Sw.run_ne_int true (decide_eq_true (by rw [HTM.out]))) ⟨Below.refl _ _, rfl⟩
          intro vals wD hbD hL
          obtain ⟨g0, g1, g2, g3, g4, g5, g6, g7, g8, g9, g10, g11, g12, _⟩ := hL
          have g12' : vals 12 = .bool false := g12
          have HBD := Lib.hid hbD
          clear g0 g1 g2 g3 g4 g5 g6 g7 g8 g9 g10 g11 g12 hbD
          simp only [Rg.putAll, List.setIfInBounds_toArray, List.set_cons_succ, List.set_cons_zero, g12']
          clear g12'
          go_wp2_with fail
          go_roundw
          case rel => exact ⟨k + 1, by omega, by go_num, by rw [str_append, HT.out], HBr.out.trans (HBD.out.mono HBr.out.size)⟩
          case measure => simp [intOf]; omega
        · obtain rfl : k = L.length := by omega
          have u3 : decide (L.length < L.length) = false := decide_eq_false (by omega)
          have u1 : decide ((L.length : Int) < (L.length : Int)) = false := decide_eq_false (by omega)
          have u2 : ¬ ((L.length : Int) < (L.length : Int)) := by omega
          rw [List.take_length, HG.out]
          have hst : (str want).toList = want := str_toList want
          have hsi : (str ifs).toList = ifs := str_toList ifs
          by_cases hif : ifs = []
          · subst hif
            have hN := HN.out rfl
            rw [← hN]
            have t4 : (str []).toList.isEmpty = true := by rw [str_toList]; rfl
            have t5 : (!(str []).toList.isEmpty) = false := by rw [str_toList]; rfl
            have HN := Lib.hid hN
            clear hN
            go_wp2_with fail
            go_ret
            exact ⟨rfl, HB3.out.trans (HBr.out.mono HB3.out.size)⟩
          · have t4 : (str ifs).toList.isEmpty = false := by rw [str_toList]; simpa using hif
            have t5 : ifs.isEmpty = false := by simpa using hif
            have t6 : (ifs == []) = false := by simpa using hif
            have t7 : (!(str ifs).toList.isEmpty) = true := by rw [t4]; rfl
            have Hif := Lib.hid hif
            clear hif
            go_wp2_with fail
            go_ret
            exact ⟨rfl, HB3.out.trans (HBr.out.mono HB3.out.size)⟩
end Go.Proofs.Ytiemlgfcmldnoaa
