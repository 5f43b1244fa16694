/-
  A flag, on or off. Conditions: as each law says.
-/
import Derived.Test.YtchmpkgjjkfjcaaDoorEnWalks5
set_option linter.unusedVariables false
set_option maxRecDepth 100000
namespace Go.Proofs.YtchmpkgjjkfjcaaDoor
open Go.RowKit Base

def flagsL : Nm := [101, 102, 117, 120]
def flOn (fl : Nm) (c : UInt8) (on : Bool) (f : UInt8) : Bool := (decide (f = c) && on) || (!decide (f = c) && hasFl fl f)
def flagTo (fl : Nm) (c : UInt8) (on : Bool) (k : Nat) : Nm := (flagsL.take k).filter (flOn fl c on)
def flagB (fl : Nm) (c : UInt8) (on : Bool) : Nm := flagsL.filter (flOn fl c on)
theorem flagTo_succ (fl : Nm) (c : UInt8) (on : Bool) (k : Nat) (f : UInt8) (hf : flagsL[k]? = some f) : flagTo fl c on (k + 1) = flagTo fl c on k ++ (if flOn fl c on f = true then [f] else []) := by
  unfold flagTo
  have h : flagsL.take (k + 1) = flagsL.take k ++ [f] := by rw [List.take_add_one, hf]; rfl
  rw [h, List.filter_append]
  congr 1
  rw [List.filter_cons, List.filter_nil]
theorem flagTo_len (fl : Nm) (c : UInt8) (on : Bool) (k : Nat) : (flagTo fl c on k).length ≤ 4 := by
  unfold flagTo
  refine Nat.le_trans (List.length_filter_le ..) ?_
  rw [List.length_take]
  show min k 4 ≤ 4
  omega
theorem flagTo_all (fl : Nm) (c : UInt8) (on : Bool) : flagTo fl c on 4 = flagB fl c on := rfl
abbrev flagObj : Obj := .cells #[.int .u8 101, .int .u8 102, .int .u8 117, .int .u8 120] 5 (4, 5)
theorem flag_cell {x : World} {b k : Nat} {f : UInt8} (h : x.heap[b]? = some flagObj) (hf : flagsL[k]? = some f) : x.cell? ⟨b, k, none⟩ = some (.int .u8 (f.toNat : Int)) := by
  simp only [World.cell?, h]
  match k, hf with
  | 0, hf => cases hf; rfl
  | 1, hf => cases hf; rfl
  | 2, hf => cases hf; rfl
  | 3, hf => cases hf; rfl
/-- What lies where, while the flags are gone through. -/
structure FlI (w : World) (v g : Value) (st : Int) (fl : Nm) (A : World) : Prop where
  k0 : A.heap[w.heap.size]? = some (.cells #[v, g, .int .i64 st, .string (str fl)] 28)
  k1 : A.heap[w.heap.size + 1]? = some (.cells #[.slice none 0 0, .slice none 0 0, .int .i64 0, .string ⟨#[]⟩] 28)
  k2 : A.heap[w.heap.size + 2]? = some flagObj
  low : Below w.heap.size w A
  size : w.heap.size + 3 ≤ A.heap.size
theorem FlI.below {w : World} {v g : Value} {st : Int} {fl : Nm} {A A' : World} (h : FlI w v g st fl A) (hb : Below A.heap.size A A') : FlI w v g st fl A' :=
  have hs := h.size
  ⟨(hb.block _ (by omega)).trans h.k0, (hb.block _ (by omega)).trans h.k1, (hb.block _ (by omega)).trans h.k2, h.low.trans (hb.mono h.low.size), Nat.le_trans h.size hb.size⟩
set_option maxHeartbeats 4000000 in
theorem en_flag_calls (w : World) (a : Option Addr) (n q : Nat) (st : Int) (fl : Nm) (ga : Option Addr) (gn gc : Nat) (c : UInt8) (on : Bool) :
    Calls Tryd.prog 14 #[.agg #[.slice a n q, .slice ga gn gc, .int .i64 st, .string (str fl)], .int .u8 (c.toNat : Int), .bool on] w fun e w' => e = .returned (.agg #[.slice a n q, .slice ga gn gc, .int .i64 st, .string (str (flagB fl c on))]) ∧ Below w.heap.size w w' := by
  go_enter Tryd.func14, Tryd.ntmps14
  go_upto_region 2 with fail
  obtain ⟨hb0, hb1, hbB, hbs⟩ := two_boxes w (.cells #[.slice a n q, .slice ga gn gc, .int .i64 st, .string (str fl)] 28) (.cells #[.slice none 0 0, .slice none 0 0, .int .i64 0, .string ⟨#[]⟩] 28)
  generalize (w.alloc (.cells #[.slice a n q, .slice ga gn gc, .int .i64 st, .string (str fl)] 28)).alloc (.cells #[.slice none 0 0, .slice none 0 0, .int .i64 0, .string ⟨#[]⟩] 28) = w1 at *
  have hcv := conv_const w1 #[.int .u8 101, .int .u8 102, .int .u8 117, .int .u8 120] 4 4
  have hal := (Below.refl w1.heap.size w1).alloc (Nat.le_refl _) flagObj
  have HI : Hid (FlI w (.slice a n q) (.slice ga gn gc) st fl (w1.alloc flagObj)) := ⟨(hal.block _ (by omega)).trans hb0, (hal.block _ (by omega)).trans hb1, by rw [← hbs]; exact heap_alloc_new w1 flagObj, hbB.trans (hal.mono hbB.size), by rw [World.size_alloc]; omega⟩
  have HBs := Lib.hid hbs
  clear hb0 hb1 hbB hal
  rw [hbs] at hcv
  go_wp2_with fail
  go_loopw [7, 9, 13] (fun v7 _ v13 wr => ∃ k : Nat, k ≤ 4 ∧ v13 = .int .i64 k ∧ v7 = .string (str (flagTo fl c on k)) ∧ FlI w (.slice a n q) (.slice ga gn gc) st fl wr) (fun _ _ v13 _ => 4 - (intOf v13).toNat)
  case atStart => exact ⟨0, by decide, rfl, rfl, HI.out⟩
  case round =>
    obtain ⟨k, hk, rfl, rfl, hI⟩ := hrel
    have HI2 := Lib.hid hI
    by_cases hlt : k < 4
    · obtain ⟨f, hf⟩ : ∃ f, flagsL[k]? = some f := ⟨_, List.getElem?_eq_getElem (l := flagsL) hlt⟩
      have hcell := flag_cell hI.k2 hf
      obtain ⟨⟨c0, c1, c2, c3⟩, f0, f1, f2, f3⟩ := env4 hI.k0
      have HT := Lib.hid (flagTo_succ fl c on k f hf)
      have hx : (flagTo fl c on k).length ≤ 4 := flagTo_len fl c on k
      have d0 : decide ((k : Int) < 4) = true := decide_eq_true (by omega)
      have d0' : (k : Int) < 4 := by omega
      clear hI hf
      generalize flagTo fl c on k = X at *
      have hno : ¬ 9223372036854775807 < (str X).size + (str [f]).size := by rw [str_size, str_size]; simp; omega
      have HNo := Lib.hid hno
      clear hx hno
      by_cases e : f = c
      · subst e
        cases on with
        | true =>
          have HT2 : Hid (flagTo fl f true (k + 1) = X ++ [f]) := by show _ = _; rw [HT.out]; congr 1; rw [if_pos (by simp [flOn])]
          have hcv2 := str_bytes (bytes_one wr (f.toNat : Int) f rfl 5)
          have hno := HNo.out
          have HI3 := Lib.hid (HI2.out.below ((Below.refl wr.heap.size wr).alloc (Nat.le_refl _) (.cells #[.int .u8 (f.toNat : Int)] 5)))
          go_wp2_with fail
          go_roundw
          case rel => exact ⟨k + 1, by omega, by go_num, by rw [HT2.out, str_append], HI3.out⟩
          case measure => simp [intOf]; omega
        | false =>
          have HT2 : Hid (flagTo fl f false (k + 1) = X) := by show _ = _; rw [HT.out, if_neg (by simp [flOn]), List.append_nil]
          go_wp2_with fail
          go_roundw
          case rel => exact ⟨k + 1, by omega, by go_num, by rw [HT2.out], HI2.out⟩
          case measure => simp [intOf]; omega
      · have hne : ¬ (f.toNat : Int) = (c.toNat : Int) := fun h => e (UInt8.toNat_inj.1 (by omega))
        have d1 : decide ((f.toNat : Int) = (c.toNat : Int)) = false := decide_eq_false hne
        have d2 : ((f.toNat : Int) == (c.toNat : Int)) = false := by simpa using hne
        have HE : Hid (flOn fl c on f = hasFl fl f) := by show _ = _; simp [flOn, e]
        go_upto_region 5 with fail
        go_upto_region 6 with fail
        refine (en_has_calls _ _ _ _ _ _ _ _ _ _ _ _ rfl rfl).mono ?_
        rintro e w2 ⟨rfl, hb2⟩
        have d3 : ((f.toNat : Int) != (c.toNat : Int)) = true := by simpa using hne
        have HI3 := Lib.hid (HI2.out.below hb2)
        have hcv2 := str_bytes (bytes_one w2 (f.toNat : Int) f rfl 5)
        have HI4 := Lib.hid (HI3.out.below ((Below.refl w2.heap.size w2).alloc (Nat.le_refl _) (.cells #[.int .u8 (f.toNat : Int)] 5)))
        clear hb2 HI2 c0 c1 c2 c3 f0 f1 f2 f3 hcell
        by_cases hh : hasFl fl f = true
        · have HT2 : Hid (flagTo fl c on (k + 1) = X ++ [f]) := by show _ = _; rw [HT.out, HE.out, if_pos hh]
          have hno := HNo.out
          rw [hh]
          clear HI3 hh
          go_wp2_with fail
          go_roundw
          case rel => exact ⟨k + 1, by omega, by go_num, by rw [HT2.out, str_append], HI4.out⟩
          case measure => simp [intOf]; omega
        · have hh2 : hasFl fl f = false := by simpa using hh
          have HT2 : Hid (flagTo fl c on (k + 1) = X) := by show _ = _; rw [HT.out, HE.out, if_neg hh, List.append_nil]
          rw [hh2]
          clear HI4 hh hh2
          go_wp2_with fail
          go_roundw
          case rel => exact ⟨k + 1, by omega, by go_num, by rw [HT2.out], HI3.out⟩
          case measure => simp [intOf]; omega
    · obtain rfl : k = 4 := by omega
      obtain ⟨⟨c0, c1, c2, c3⟩, f0, f1, f2, f3⟩ := env4 hI.k0
      have HX : Hid (flagTo fl c on 4 = flagB fl c on) := flagTo_all fl c on
      clear hI
      generalize flagTo fl c on 4 = X at *
      have u1 : decide ((4 : Int) < 4) = false := decide_eq_false (by omega)
      have u2 : ¬ ((4 : Int) < 4) := by omega
      go_upto_region 9 with fail
      have k0 : (wr.setCell ⟨w.heap.size, 3, none⟩ (.string (str X))).heap[w.heap.size]? = some (.cells #[.slice a n q, .slice ga gn gc, .int .i64 st, .string (str X)] 28) := heap_setCell_same _ _ 3 _ _ _ HI2.out.k0
      have k1 := (set_other wr w.heap.size 3 (.string (str X)) (w.heap.size + 1) (by omega)).trans HI2.out.k1
      have HB3 := Lib.hid (HI2.out.low.setCell (p := ⟨w.heap.size, 3, none⟩) (Nat.le_refl _) (.string (str X)))
      clear c0 c1 c2 c3 f0 f1 f2 f3 HI2
      generalize wr.setCell ⟨w.heap.size, 3, none⟩ (.string (str X)) = w3 at *
      obtain ⟨⟨c0, c1, c2, c3⟩, f0, f1, f2, f3⟩ := env4 k0
      obtain ⟨⟨d0, d1, d2, d3⟩, e0, e1, e2, e3⟩ := env4 k1
      have HK1 := Lib.hid k1
      clear k0 k1
      go_wp2_with fail
      obtain ⟨⟨y0, y1, y2, y3⟩, _⟩ := env4 (env4_set HK1.out (.slice a n q) (.slice ga gn gc) (.int .i64 st) (.string (str X)))
      refine bodyPost_ret (v := .agg #[.slice a n q, .slice ga gn gc, .int .i64 st, .string (str X)]) (by simp [results, Tryd.results14, go_sem, y0, y1, y2, y3]) rfl ?_
      rw [HX.out]
      exact ⟨rfl, (((HB3.out.setCell (Nat.le_succ _) _).setCell (Nat.le_succ _) _).setCell (Nat.le_succ _) _).setCell (Nat.le_succ _) _⟩
end Go.Proofs.YtchmpkgjjkfjcaaDoor
