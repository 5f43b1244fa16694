/-
  A row's cells, handed one by one. Conditions: the texts are short.
-/
import Derived.Test.YtiemlgfcmldnoaaSpWalks2
import Derived.Test.YtiemlgfcmldnoaaItLaw
import Derived.Test.YtiemlgfcmldnoaaRegionW
import Derived.Shelf.Abstract
import Derived.OwnWalkIn
import Derived.TacticsInMore
import Derived.LoopNIn
import Derived.LoopIn
set_option linter.unusedVariables false
set_option maxRecDepth 100000
namespace Go.Proofs.Ytiemlgfcmldnoaa
open Go.RowKit Base

theorem sp_cells_calls (w : World) (x y : ByteArray) : Calls Try.prog 18 #[.agg #[.string x, .string y]] w fun e w' => e = .returned (.func (.func 26) #[] #[.pointer (some ⟨w.heap.size, 0, none⟩)]) ∧ w' = w.alloc (.cells #[.string x, .string y] 23) := by
  go_enter Try.func18, Try.ntmps18
  go_wp2_with fail
  go_ret
  exact ⟨rfl, rfl⟩
theorem build_pair (w : World) (a b : Int) : (Instr.build 48 #[(0, .int .u8 a), (1, .int .u8 b)]).run Try.prog w = .ok (.agg #[.int .u8 a, .int .u8 b]) w := by
  refine run_build w _ _ _ ?_
  kernel_rfl
def pairAt (r : SRow) (k : Nat) : Value := pairV (r.getD k (0, 0))
set_option maxHeartbeats 2000000 in
theorem sp_cells_seq (w : World) (t m : List UInt8) (hz : (t.zip m).length ≤ 1000000) (q : Nat) (hqc : w.heap[q]? = some (.cells #[.string (str t), .string (str m)] 23)) :
    SeqIt Try.prog 26 #[.pointer (some ⟨q, 0, none⟩)] q (t.zip m).length (pairAt (t.zip m)) w := by
  intro l J W hW hJ hY h0
  have HqW : Hid (W.heap[q]? = some (.cells #[.string (str t), .string (str m)] 23)) := (hW.block q (Array.getElem?_eq_some_iff.1 hqc).1).trans hqc
  have HJ := Lib.hid hJ
  have HY := Lib.hid hY
  have H0 := Lib.hid h0
  have hzl : (t.zip m).length = min t.length m.length := List.length_zip
  obtain ⟨a1, a2⟩ : (str t).size ≤ t.length ∧ t.length ≤ (str t).size := ⟨Nat.le_refl _, Nat.le_refl _⟩
  obtain ⟨b1, b2⟩ : (str m).size ≤ m.length ∧ m.length ≤ (str m).size := ⟨Nat.le_refl _, Nat.le_refl _⟩
  have c0 : W.cell? ⟨q, 0, none⟩ = some (.string (str t)) := by have := HqW.out; simp [World.cell?, this]
  have c1 : W.cell? ⟨q, 1, none⟩ = some (.string (str m)) := by have := HqW.out; simp [World.cell?, this]
  clear hqc hW hJ hY h0
  refine (callsIn_wide (n := 2)).1 ?_
  refine callsIn_of_wp Try.func26 rfl trivial ?_ rfl
  simp only [Try.ntmps26, List.size_toArray, List.length_cons, List.length_nil, Nat.reduceAdd, Nat.reduceSub, Array.replicate_succ, Array.replicate_zero, List.push_toArray, List.append_toArray, List.nil_append, List.cons_append]
  obtain ⟨N, hN⟩ : ∃ N, N = (t.zip m).length := ⟨_, rfl⟩
  have HN := Lib.hid hN
  rw [← hN] at hzl HY hz
  rw [← hN]
  clear hN
  have hcase : ((str m).size < (str t).size ∧ (str m).size = N) ∨ (¬ (str m).size < (str t).size ∧ (str t).size = N) := by
    by_cases h : m.length < t.length
    · exact .inl ⟨h, by rw [hzl]; show m.length = _; omega⟩
    · exact .inr ⟨h, by rw [hzl]; show t.length = _; omega⟩
  have hNt : N ≤ t.length := by omega
  have hNm : N ≤ m.length := by omega
  have hzl2 := Lib.hid hzl
  clear hzl a1 a2 b1 b2
  have Hpair : Hid (∀ k, (hk : k < N) → ∃ (h1 : k < t.length) (h2 : k < m.length), pairAt (t.zip m) k = .agg #[.int .u8 ((t[k]).toNat : Int), .int .u8 ((m[k]).toNat : Int)]) := by
    intro k hk
    refine ⟨by omega, by omega, ?_⟩
    have h3 : k < (t.zip m).length := by rw [← HN.out]; exact hk
    unfold pairAt pairV
    rw [List.getD_eq_getElem?_getD, List.getElem?_eq_getElem h3, Option.getD_some, List.getElem_zip]
  rcases hcase with ⟨e1, e2⟩ | ⟨e1, e2⟩
  all_goals
    gi_wp2
    gi_loopw [11] (fun v11 wr => ∃ k : Nat, k ≤ N ∧ v11 = .int .i64 k ∧ wr.heap[q]? = some (.cells #[.string (str t), .string (str m)] 23) ∧ J k wr) (fun v11 _ => N - (intOf v11).toNat)
    case atStart => exact ⟨0, Nat.zero_le _, rfl, HqW.out, H0.out⟩
    case round =>
      obtain ⟨k, hk, rfl, hqk, hJk⟩ := hrel
      by_cases hlt : k < N
      · obtain ⟨ht1, hm1, hp⟩ := Hpair.out k hlt
        have HYk := Lib.hid fun W1 h => HY.out k W1 h hlt
        rw [hp] at HYk
        have Hqk := Lib.hid hqk
        have HJk := Lib.hid hJk
        have u3 : decide (k < N) = true := decide_eq_true (by omega)
        have u1 : decide ((k : Int) < (N : Int)) = true := decide_eq_true (by omega)
        have u2 : (k : Int) < (N : Int) := by omega
        have K0 : Hid (wr.cell? ⟨q, 0, none⟩ = some (.string (str t))) := by show _ = _; have := Hqk.out; simp [World.cell?, this]
        have K1 : Hid (wr.cell? ⟨q, 1, none⟩ = some (.string (str m))) := by show _ = _; have := Hqk.out; simp [World.cell?, this]
        clear hqk hJk hp
        gi_wp2
        refine Rg.WwpIn_region_rgt 10 [] [Rg.Is (.func (.yield l) #[] #[]), Rg.Is (.pointer (some ⟨q, 0, none⟩)), Rg.Is (.string (str t)), Rg.Is (.int .i64 (k : Int)), Rg.Is (.int .u8 ((t[k]).toNat : Int)), Rg.Is (.pointer (some ⟨q, 1, none⟩)), Rg.Is (.string (str m)), Rg.Is (.int .i64 (k : Int)), Rg.Is (.int .u8 ((m[k]).toNat : Int)), Rg.Is (.agg #[.int .u8 ((t[k]).toNat : Int), .int .u8 ((m[k]).toNat : Int)])] (by kernel_rfl) (by kernel_rfl) (by kernel_rfl) (of_decide_eq_true (by kernel_rfl)) (by kernel_rfl) (by kernel_rfl) ⟨Rg.st_is _, Rg.st_is _, Rg.st_is _, Rg.st_is _, Rg.st_is _, Rg.st_is _, Rg.st_is _, Rg.st_is _, Rg.st_is _, Rg.st_is _, trivial⟩ ⟨rfl, rfl, rfl, rfl, rfl, rfl, rfl, rfl, rfl, rfl, trivial⟩ ⟨?_, ?_, ?_, ?_, ?_, ?_, ?_, ?_, ?_, ?_, trivial⟩ ?_
        · intro _ a wx hb hk
          have h0 : a.eval (.tmp 0) = .func (.yield l) #[] #[] := Eq.mp (by kernel_rfl) (hk 0 (by decide))
          exact Rg.does_move ⟨Below.refl _ _, h0⟩
        · intro _ a wx hb hk
          have h1 : a.eval (.tmp 1) = .pointer (some ⟨q, 0, none⟩) := Eq.mp (by kernel_rfl) (hk 1 (by decide))
          exact Rs.does_field _ _ h1 (row_f0 q 0 wx) ⟨Below.refl _ _, rfl⟩
        · intro _ a wx hb hk
          have h15 : a.eval (.tmp 15) = .pointer (some ⟨q, 0, none⟩) := Eq.mp (by kernel_rfl) (hk 15 (by decide))
          exact Rg.does_load _ _ h15 (load_sp_str (cell_below hb (Nat.le_refl _) K0.out)) ⟨Below.refl _ _, rfl⟩
        · intro _ a wx hb hk
          have h3 : a.eval (.tmp 3) = .int .i64 (k : Int) := Eq.mp (by kernel_rfl) (hk 3 (by decide))
          exact Rg.does_move ⟨Below.refl _ _, h3⟩
        · intro _ a wx hb hk
          have h16 : a.eval (.tmp 16) = .string (str t) := Eq.mp (by kernel_rfl) (hk 16 (by decide))
          have h17 : a.eval (.tmp 17) = .int .i64 (k : Int) := Eq.mp (by kernel_rfl) (hk 17 (by decide))
          exact Sw.does_idx _ _ _ h16 h17 (Sw.run_at Try.underlying9 t .i64 k ht1) ⟨Below.refl _ _, rfl⟩
        · intro _ a wx hb hk
          have h1 : a.eval (.tmp 1) = .pointer (some ⟨q, 0, none⟩) := Eq.mp (by kernel_rfl) (hk 1 (by decide))
          exact Rs.does_field _ _ h1 (row_f1 q 0 wx) ⟨Below.refl _ _, rfl⟩
        · intro _ a wx hb hk
          have h19 : a.eval (.tmp 19) = .pointer (some ⟨q, 1, none⟩) := Eq.mp (by kernel_rfl) (hk 19 (by decide))
          exact Rg.does_load _ _ h19 (load_sp_str (cell_below hb (Nat.le_refl _) K1.out)) ⟨Below.refl _ _, rfl⟩
        · intro _ a wx hb hk
          have h3 : a.eval (.tmp 3) = .int .i64 (k : Int) := Eq.mp (by kernel_rfl) (hk 3 (by decide))
          exact Rg.does_move ⟨Below.refl _ _, h3⟩
        · intro _ a wx hb hk
          have h20 : a.eval (.tmp 20) = .string (str m) := Eq.mp (by kernel_rfl) (hk 20 (by decide))
          have h21 : a.eval (.tmp 21) = .int .i64 (k : Int) := Eq.mp (by kernel_rfl) (hk 21 (by decide))
          exact Sw.does_idx _ _ _ h20 h21 (Sw.run_at Try.underlying9 m .i64 k hm1) ⟨Below.refl _ _, rfl⟩
        · intro _ a wx hb hk
          have h18 : a.eval (.tmp 18) = .int .u8 ((t[k]).toNat : Int) := Eq.mp (by kernel_rfl) (hk 18 (by decide))
          have h22 : a.eval (.tmp 22) = .int .u8 ((m[k]).toNat : Int) := Eq.mp (by kernel_rfl) (hk 22 (by decide))
          exact Ap.does_buildS #[(0, .int .u8 ((t[k]).toNat : Int)), (1, .int .u8 ((m[k]).toNat : Int))] _ (by simp [h18, h22]) (build_pair wx _ _) ⟨Below.refl _ _, rfl⟩
        intro vals wD hbD hL
        obtain ⟨g0, g1, g2, g3, g4, g5, g6, g7, g8, g9, _⟩ := hL
        have g0' : vals 0 = .func (.yield l) #[] #[] := g0
        have g9' : vals 9 = .agg #[.int .u8 ((t[k]).toNat : Int), .int .u8 ((m[k]).toNat : Int)] := g9
        have hJD := HJ.out k _ _ HJk.out hbD
        have HqD := Lib.hid ((hbD.block q (Array.getElem?_eq_some_iff.1 Hqk.out).1).trans Hqk.out)
        clear g0 g1 g2 g3 g4 g5 g6 g7 g8 g9 hbD
        simp only [Rg.putAll, List.take_succ_cons, List.take_zero, List.drop_succ_cons, List.drop_zero, List.setIfInBounds_toArray, List.set_cons_succ, List.set_cons_zero, g0', g9']
        clear g0' g9'
        obtain ⟨fn, tmps, assign, body, hy, hR⟩ := HYk.out wD hJD
        clear hJD
        gi_wp2
        refine hR.mono ?_
        clear hR
        rintro r w3 ⟨rfl, hJ3, hq3⟩
        have HJ3 := Lib.hid hJ3
        have HQ3 := Lib.hid (hq3.trans HqD.out)
        clear hJ3 hq3 hy
        gi_wp2
        go_roundw
        case rel => exact ⟨k + 1, by omega, by go_num, HQ3.out, HJ3.out⟩
        case measure => simp [intOf]; omega
      · obtain rfl : k = N := by omega
        have u3 : decide (k < k) = false := decide_eq_false (by omega)
        have u1 : decide ((k : Int) < (k : Int)) = false := decide_eq_false (by omega)
        have u2 : ¬ ((k : Int) < (k : Int)) := by omega
        have HJk := Lib.hid hJk
        clear hJk hqk
        gi_wp2
        go_end0
        exact ⟨⟨_, rfl⟩, HJk.out⟩
end Go.Proofs.Ytiemlgfcmldnoaa
