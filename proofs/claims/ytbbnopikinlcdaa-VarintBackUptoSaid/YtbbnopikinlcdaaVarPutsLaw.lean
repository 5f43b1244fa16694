/-
  The walk of the statement VarintPuts: the bytes of any numbers, and what any bytes begin with, are the document's: true; nothing that was there turns. Conditions: the arguments can be read.
-/
import Derived.Test.YtbbnopikinlcdaaVarAwake
set_option linter.unusedVariables false
namespace Go.Proofs.Ytbbnopikinlcdaa
open Go.RowKit Base

theorem u64s_of_row {w : World} {a : Option Addr} {len cap : Nat} {zs : List Int} (h : IsRow .u64 w a len cap zs) :
    U64s w a len cap ((zs.take len).map Int.toNat) ∧ ∀ x ∈ (zs.take len).map Int.toNat, Lt64 x := by
  obtain ⟨h0, hw⟩ := ints_of_row h
  have hb : ∀ n ∈ zs.take len, 0 ≤ n ∧ n ≤ 18446744073709551615 := fun n hn => by
    have := wf_bounds (hw n hn)
    simpa [IntKind.min, IntKind.max, IntKind.signed, IntKind.bits] using this
  generalize zs.take len = l at *
  obtain ⟨h1, h2, h3, b, off, h4, h5⟩ := h0
  refine ⟨⟨by simpa using h1, h2, h3, b, off, h4, fun k hk => ?_⟩, fun x hx => ?_⟩
  · have hk' : k < l.length := by simpa using hk
    have := h5 k hk'
    have hwz := hb l[k] (List.getElem_mem hk')
    unfold u64At
    unfold intAt at this
    rw [this]
    simp
    omega
  · obtain ⟨n, hn, rfl⟩ := List.mem_map.1 hx
    have := hb n hn
    unfold Lt64
    omega

set_option maxHeartbeats 1000000 in
set_option maxRecDepth 100000 in
theorem var_puts_law (w : World) (a0 : Option Addr) (n0 c0 : Nat) (lx : List Nat) (h0 : U64s w a0 n0 c0 lx) (hl : ∀ x ∈ lx, Lt64 x) (a1 : Option Addr) (n1 c1 : Nat) (lb : List UInt8) (h1 : Bytes w a1 n1 c1 lb) :
    Calls Try.prog 7 #[.slice a0 n0 c0, .slice a1 n1 c1] w fun e w' => e = .returned (.bool true) ∧ Below w.heap.size w w' := by
  have hc0 := h0.2.2.1
  have hn0 := h0.2.1
  have hc1 := h1.2.2.1
  have hn1 := h1.2.1
  unfold maxLen at hc0 hc1
  by_cases hbig : 60 < n0
  · have hb' : decide ((60 : Int) < (n0 : Int)) = true := by simp; omega
    go_enter Try.func7, Try.ntmps7
    go_wp2_with fail
    refine (var_awake_calls _).mono ?_
    rintro e w1 ⟨rfl, hb1⟩
    go_wp2_with fail
    go_ret
    exact ⟨rfl, hb1⟩
  have hb0 : decide ((60 : Int) < (n0 : Int)) = false := by simp; omega
  by_cases hbig2 : 300 < n1
  · have hb' : decide ((300 : Int) < (n1 : Int)) = true := by simp; omega
    go_enter Try.func7, Try.ntmps7
    go_wp2_with fail
    refine (var_awake_calls _).mono ?_
    rintro e w1 ⟨rfl, hb1⟩
    go_wp2_with fail
    go_ret
    exact ⟨rfl, hb1⟩
  have hb2 : decide ((300 : Int) < (n1 : Int)) = false := by simp; omega
  have Hn0 := Lib.hid h0.1
  have Hn1 := Lib.hid h1.1
  have H0 := Lib.hid h0; clear h0
  have H1 := Lib.hid h1; clear h1
  have HL := Lib.hid hl; clear hl
  generalize hB : w.heap.size = B
  have HB := Lib.hid hB; clear hB
  have HBel : Hid (∀ wx, Below B w wx → Below w.heap.size w wx) := fun wx hx => by rw [HB.out]; exact hx
  go_enter Try.func7, Try.ntmps7
  go_wp2_with fail
  refine (var_awake_calls _).mono ?_
  rintro e w1 ⟨rfl, hb1⟩
  rw [HB.out] at hb1
  have hs1 : B ≤ w1.heap.size := by have := hb1.size; rw [HB.out] at this; exact this
  go_wp2_with fail
  go_loopw [6, 7] (fun s i wr => ∃ k : Nat, k ≤ n0 ∧ i = .int .i64 k ∧ s = .string (str (VarPlain.nums (lx.take k))) ∧ Below B w wr ∧ B ≤ wr.heap.size) (fun _ i _ => n0 - (intOf i).toNat)
  case atStart => exact ⟨0, Nat.zero_le _, rfl, rfl, hb1, hs1⟩
  case round =>
    obtain ⟨k, hk, rfl, rfl, hbel, hBs⟩ := hrel
    clear hb1 hs1
    by_cases hlt : k < n0
    · have hkl : k < lx.length := by rw [← Hn0.out]; exact hlt
      obtain ⟨b, off, hrow, hidx⟩ := at_u64s H0.out
      have hc : wr.cell? ⟨b, off + k, none⟩ = some (.int .u64 (lx[k] : Int)) := cell_below (HBel.out _ hbel) (Nat.le_refl _) (hrow k hkl)
      have hix := hidx .i64 k wr hlt
      have hx64 := HL.out lx[k] (List.getElem_mem hkl)
      have hsz := nums_len (lx.take k) fun x hx => HL.out x (List.mem_of_mem_take hx)
      have hsz2 : (lx.take k).length ≤ k := List.length_take_le _ _
      have Hsn : Hid (VarPlain.nums (lx.take (k + 1)) = VarPlain.nums (lx.take k) ++ VarPlain.num lx[k]) := by
        show _ = _
        rw [List.take_succ_eq_append_getElem hkl, nums_snoc]
      have hss : (str (VarPlain.nums (lx.take k))).size ≤ 600 := by rw [str_size]; omega
      clear hrow hidx hsz hsz2
      generalize lx[k]'hkl = x at *
      generalize VarPlain.nums (lx.take k) = pre at *
      have hnl := num_len x hx64
      have hss2 : (str (VarPlain.num x)).size ≤ 10 := hnl
      have Hnum := Lib.hid (var_ref_num_calls wr x hx64)
      clear hnl hx64
      go_wp2_with fail
      refine Hnum.out.mono ?_
      rintro e w2 ⟨rfl, hb2'⟩
      have hb3 := hbel.trans (hb2'.mono hBs)
      have hs3 : B ≤ w2.heap.size := Nat.le_trans hBs hb2'.size
      clear hb2' hbel hBs hc hix
      go_wp2_with fail
      go_roundw
      case rel => exact ⟨k + 1, by omega, by go_num, by rw [str_append, Hsn.out], hb3, hs3⟩
      case measure => simp [intOf]; omega
    · obtain rfl : k = n0 := by omega
      have ht : lx.take k = lx := List.take_of_length_le (by rw [← Hn0.out]; exact Nat.le_refl _)
      rw [ht]
      clear ht
      have hB1 := H1.out.below stable_byteAt (HBel.out _ hbel)
      have Htake := Lib.hid (var_take_calls wr a1 n1 c1 lb hB1)
      have hstr := str_bytes hB1
      have hrt := var_ref_take_calls wr (str lb) (by rw [str_size, ← Hn1.out]; unfold maxLen; omega)
      rw [str_data] at hrt
      have Hrt := Lib.hid hrt; clear hrt hB1
      generalize VarPlain.take lb = t at *
      obtain ⟨x, m, f⟩ := t
      have Hput := Lib.hid (var_put_calls wr a0 k c0 lx (H0.out.below stable_u64At (HBel.out _ hbel)) HL.out (by omega))
      go_wp2_with fail
      refine Htake.out.mono ?_
      rintro e w2 ⟨rfl, rfl⟩
      unfold takeV
      go_wp2_with fail
      refine Hrt.out.mono ?_
      rintro e w2 ⟨rfl, rfl⟩
      unfold takeV
      go_wp2_with fail
      refine Hput.out.mono ?_
      rintro e w3 ⟨v, rfl, hown, hb3⟩
      obtain ⟨av, cv, rfl, hrow⟩ := ownsRow_bytes hown
      have hs2 := str_bytes hrow
      have hbf := hbel.trans (hb3.mono hBs)
      clear hown hrow hb3
      go_wp2_with fail
      go_ret
      exact ⟨rfl, hbf⟩

end Go.Proofs.Ytbbnopikinlcdaa
