/-
  State: the reference: numbers, truths, texts, rows of texts and of numbers. Conditions: as each contract says.
-/
import Derived.Test.YtnmlnaoljkhjeaaStCutsLaw
import Derived.Test.YtnmlnaoljkhjeaaGReg
set_option linter.unusedVariables false
set_option maxRecDepth 100000
namespace Go.Proofs.Ytnmlnaoljkhjeaa
open Go.RowKit Base

theorem txt_len_in (x : Nm) : x.length ≤ (txtC.enc x).length := by
  show x.length ≤ (VarPlain.num x.length ++ x).length
  rw [List.length_append]
  omega
theorem ref_n_calls (w : World) (x : Int) (h : I64 x) : Calls Try.prog 21 #[.int .i64 x] w fun e w' => e = .returned (.string (str (intB x))) ∧ Below w.heap.size w w' := by
  have HN := Lib.hid (var_ref_num_calls w (VarPlain.zig x) (zig_lt h))
  have HZ := Lib.hid (var_ref_zig_calls w x h.1 h.2)
  go_enter Try.func21, Try.ntmps21
  go_wp2_with fail
  refine HZ.out.mono ?_
  rintro e w' ⟨rfl, rfl⟩
  go_wp2_with fail
  refine HN.out.mono ?_
  rintro e w1 ⟨rfl, hb⟩
  have HB := Lib.hid hb
  clear hb
  go_wp2_with fail
  go_ret
  exact ⟨rfl, HB.out⟩
theorem ref_is_calls (w : World) (x : Bool) : Calls Try.prog 26 #[.bool x] w fun e w' => e = .returned (.string (str (bitC.enc x))) ∧ Below w.heap.size w w' := by
  cases x with
  | true =>
    have HN := Lib.hid (ref_n_calls w 1 ⟨by decide, by decide⟩)
    go_enter Try.func26, Try.ntmps26
    go_wp2_with fail
    refine HN.out.mono ?_
    rintro e w1 ⟨rfl, hb⟩
    have HB := Lib.hid hb
    clear hb
    go_wp2_with fail
    go_ret
    exact ⟨rfl, HB.out⟩
  | false =>
    have HN := Lib.hid (ref_n_calls w 0 ⟨by decide, by decide⟩)
    go_enter Try.func26, Try.ntmps26
    go_wp2_with fail
    refine HN.out.mono ?_
    rintro e w1 ⟨rfl, hb⟩
    have HB := Lib.hid hb
    clear hb
    go_wp2_with fail
    go_ret
    exact ⟨rfl, HB.out⟩
theorem ref_txt_calls (w : World) (s : Nm) (hs : s.length ≤ 100000000) :
    Calls Try.prog 43 #[.string (str s)] w fun e w' => e = .returned (.string (str (txtB s))) ∧ Below w.heap.size w w' := by
  have hm64 : Lt64 s.length := by unfold Lt64; omega
  have Hnum := Lib.hid (var_ref_num_calls w s.length hm64)
  have hnl : (str (VarPlain.num s.length)).size ≤ 10 := num_len s.length hm64
  have hsl : (str s).size ≤ 1000000000 := by show s.length ≤ _; omega
  have hse : (str s).size = s.length := rfl
  have Hf : Hid (str (VarPlain.num s.length) ++ str s = str (txtB s)) := str_append _ _
  have Hse := Lib.hid hse
  rw [← Hse.out] at Hnum
  clear hse
  have Hnn : Hid (str (VarPlain.num (str s).size) = str (VarPlain.num s.length)) := rfl
  rw [← Hnn.out] at hnl Hf
  go_enter Try.func43, Try.ntmps43
  go_wp2_with fail
  refine Hnum.out.mono ?_
  rintro e w1 ⟨rfl, hb1⟩
  have Hb1 := Lib.hid hb1; clear hb1
  go_wp2_with fail
  go_ret
  exact ⟨by rw [← Hf.out]; rfl, Hb1.out⟩
theorem RowE.below {α : Type} {k : Nat} (hk : 0 < k) {V : α → List Value} {W W' : World} {p : Option Addr} {cap : Nat} {zs : List α} (h : RowE k (flatH V) W p cap zs) (hb : Below W.heap.size W W') : RowE k (flatH V) W' p cap zs := by
  obtain ⟨h1, h2, he⟩ := h
  refine ⟨h1, h2, he.imp id ?_⟩
  rintro ⟨b, o, rfl, hel⟩
  refine ⟨b, o, rfl, fun j hj => ?_⟩
  obtain ⟨us, hl, hcu, hfu, hA⟩ := hel j hj
  have hbl : b < W.heap.size := World.block_lt_of_cell? W _ (hcu 0 (by omega))
  exact ⟨us, hl, hcu.below hb hbl, fun i hi => (hb.frozen (p := ⟨b, o + j * k + i, none⟩) hbl).trans (hfu i hi), hA⟩
/-- Where an element's cells lie. -/
theorem RowE.at {α : Type} {k : Nat} (hk : 0 < k) {V : α → List Value} {W : World} {p : Option Addr} {cap : Nat} {zs : List α} (h : RowE k (flatH V) W p cap zs) {j : Nat} (hj : j < zs.length) :
    ∃ b o, p = some ⟨b, o, none⟩ ∧ b < W.heap.size ∧ CellsAt W b (o + j * k) (V zs[j]) := by
  obtain ⟨b, o, rfl, hel⟩ := h.2.2.resolve_left (fun e => by rw [e] at hj; exact absurd hj (Nat.not_lt_zero _))
  obtain ⟨us, hl, hcu, _, hA⟩ := hel j hj
  have hA' : us = V zs[j] := hA
  subst hA'
  exact ⟨b, o, rfl, World.block_lt_of_cell? W _ (hcu 0 (by omega)), hcu⟩
theorem encs_take_succ {α : Type} (c : Cd α) {l : List α} {k : Nat} (hk : k < l.length) : encs c (l.take (k + 1)) = encs c (l.take k) ++ c.enc l[k] := by
  rw [List.take_succ_eq_append_getElem hk, encs_snoc]
set_option maxHeartbeats 1000000 in
theorem ref_row18_calls (W : World) (p : Option Addr) (cap : Nat) (l : List Nm) (h : RowE 1 (flatH txtV) W p cap l) (hl : ((rowC txtC).enc l).length ≤ 100000000) :
    Calls Try.prog 20 #[.slice p l.length cap] W fun e w' => e = .returned (.string (str ((rowC txtC).enc l))) ∧ Below W.heap.size W w' := by
  have hn : l.length ≤ 100000000 := by have := row_ge txtC_pos l; omega
  have HE := Lib.hid h
  have HL : Hid ((intB (l.length : Int) ++ encs txtC l).length ≤ 100000000) := hl
  have HN := Lib.hid (ref_n_calls W (l.length : Int) ⟨by omega, by omega⟩)
  clear h hl
  go_enter Try.func20, Try.ntmps20
  go_wp2_with fail
  refine HN.out.mono ?_
  rintro e w1 ⟨rfl, hb1⟩
  have HB1 := Lib.hid hb1
  clear hb1 HN
  go_wp2_with fail
  go_loopw [3, 4] (fun v3 v4 wr => ∃ k : Nat, k ≤ l.length ∧ v4 = .int .i64 k ∧ v3 = .string (str (intB (l.length : Int) ++ encs txtC (l.take k))) ∧ Below W.heap.size W wr) (fun _ v4 _ => l.length - (intOf v4).toNat)
  case atStart => exact ⟨0, Nat.zero_le _, rfl, by rw [List.take_zero, show encs txtC [] = [] from rfl, List.append_nil], HB1.out⟩
  case round =>
    obtain ⟨k, hk, rfl, rfl, hb⟩ := hrel
    have HB := Lib.hid hb
    clear hb
    by_cases hlt : k < l.length
    · obtain ⟨b, o, rfl, hbl, hcu⟩ := HE.out.at (by decide) hlt
      have hx := fun W => row_idx Try.underlying23 1 info_el_string b o l.length cap k hlt W
      have c0 : wr.cell? ⟨b, o + k, none⟩ = some (.string (str l[k])) := by
        have h1 := (HB.out.cell (p := ⟨b, o + k * 1 + 0, none⟩) hbl).trans (hcu 0 Nat.zero_lt_one)
        rw [Nat.mul_one, Nat.add_zero] at h1
        exact h1
      have HT := Lib.hid (encs_take_succ txtC hlt)
      have hle := encs_take txtC l (k + 1)
      rw [HT.out] at hle
      have hL := HL.out
      rw [List.length_append] at hL hle
      have hti := txt_len_in l[k]
      have HTx := Lib.hid (ref_txt_calls wr l[k] (by omega))
      have HTl : Hid ((txtB l[k]).length + (encs txtC (l.take k)).length ≤ (encs txtC l).length) := by
        show (txtC.enc l[k]).length + _ ≤ _
        omega
      clear hcu hti hle
      generalize l[k] = s at *
      have u1 : decide ((k : Int) < (l.length : Int)) = true := decide_eq_true (by omega)
      have u2 : (k : Int) < (l.length : Int) := by omega
      have u3 : decide (k < l.length) = true := decide_eq_true hlt
      have hsz1 : (str (intB (l.length : Int) ++ encs txtC (l.take k))).size + (str (txtB s)).size ≤ 100000000 := by
        rw [str_size, str_size, List.length_append]
        have := HTl.out
        omega
      go_wp2_with fail
      refine HTx.out.mono ?_
      rintro e w2 ⟨rfl, hb2⟩
      have HB2 := Lib.hid (HB.out.trans (hb2.mono HB.out.size))
      clear hb2 HTx c0 hx
      go_wp2_with fail
      go_roundw
      case rel => exact ⟨k + 1, by omega, by go_num, by rw [HT.out, ← List.append_assoc, ← str_append]; rfl, HB2.out⟩
      case measure => simp [intOf]; omega
    · obtain rfl : k = l.length := by omega
      rw [List.take_length]
      have u1 : decide ((l.length : Int) < (l.length : Int)) = false := decide_eq_false (by omega)
      have u2 : ¬ ((l.length : Int) < (l.length : Int)) := by omega
      have u3 : decide (l.length < l.length) = false := decide_eq_false (by omega)
      go_wp2_with fail
      go_ret
      exact ⟨rfl, HB.out⟩
set_option maxHeartbeats 1000000 in
theorem ref_ints_calls (W : World) (p : Option Addr) (cap : Nat) (l : List Int) (h : RowE 1 (flatH numV) W p cap l) (hq : ∀ z ∈ l, I64 z) (hl : (encs numC l).length ≤ 100000000) :
    Calls Try.prog 25 #[.slice p l.length cap] W fun e w' => e = .returned (.string (str (encs numC l))) ∧ Below W.heap.size W w' := by
  have hn : l.length ≤ 100000000 := by have := encs_ge numC (fun _ => 0) (fun a => numC_pos a) l; omega
  have HE := Lib.hid h
  have HL := Lib.hid hl
  have HQ := Lib.hid hq
  clear h hl hq
  go_enter Try.func25, Try.ntmps25
  go_wp2_with fail
  go_loopw [3, 4] (fun v3 v4 wr => ∃ k : Nat, k ≤ l.length ∧ v4 = .int .i64 k ∧ v3 = .string (str (encs numC (l.take k))) ∧ Below W.heap.size W wr) (fun _ v4 _ => l.length - (intOf v4).toNat)
  case atStart => exact ⟨0, Nat.zero_le _, rfl, rfl, Below.refl _ _⟩
  case round =>
    obtain ⟨k, hk, rfl, rfl, hb⟩ := hrel
    have HB := Lib.hid hb
    clear hb
    by_cases hlt : k < l.length
    · obtain ⟨b, o, rfl, hbl, hcu⟩ := HE.out.at (by decide) hlt
      have hx := fun W => row_idx Try.underlying37 1 info_el_int b o l.length cap k hlt W
      have c0 : wr.cell? ⟨b, o + k, none⟩ = some (.int .i64 l[k]) := by
        have h1 := (HB.out.cell (p := ⟨b, o + k * 1 + 0, none⟩) hbl).trans (hcu 0 Nat.zero_lt_one)
        rw [Nat.mul_one, Nat.add_zero] at h1
        exact h1
      have HT := Lib.hid (encs_take_succ numC hlt)
      have hle := encs_take numC l (k + 1)
      rw [HT.out] at hle
      have hL := HL.out
      rw [List.length_append] at hle
      have HTx := Lib.hid (ref_n_calls wr l[k] (HQ.out _ (List.getElem_mem hlt)))
      have HTl : Hid ((encs numC (l.take k)).length + (intB l[k]).length ≤ (encs numC l).length) := hle
      clear hcu hle
      generalize l[k] = s at *
      have u1 : decide ((k : Int) < (l.length : Int)) = true := decide_eq_true (by omega)
      have u2 : (k : Int) < (l.length : Int) := by omega
      have u3 : decide (k < l.length) = true := decide_eq_true hlt
      have hsz1 : (str (encs numC (l.take k))).size + (str (intB s)).size ≤ 100000000 := by
        rw [str_size, str_size]
        have := HTl.out
        omega
      go_wp2_with fail
      refine HTx.out.mono ?_
      rintro e w2 ⟨rfl, hb2⟩
      have HB2 := Lib.hid (HB.out.trans (hb2.mono HB.out.size))
      clear hb2 HTx c0 hx
      go_wp2_with fail
      go_roundw
      case rel => exact ⟨k + 1, by omega, by go_num, by rw [HT.out, ← str_append]; rfl, HB2.out⟩
      case measure => simp [intOf]; omega
    · obtain rfl : k = l.length := by omega
      rw [List.take_length]
      have u1 : decide ((l.length : Int) < (l.length : Int)) = false := decide_eq_false (by omega)
      have u2 : ¬ ((l.length : Int) < (l.length : Int)) := by omega
      have u3 : decide (l.length < l.length) = false := decide_eq_false (by omega)
      go_wp2_with fail
      go_ret
      exact ⟨rfl, HB.out⟩
end Go.Proofs.Ytnmlnaoljkhjeaa
