/-
  A variable is got; what separates fields. Conditions: the row rises, and is not too long.
-/
import Derived.Test.YtchmpkgjjkfjcaaDoorEnWalks3
set_option linter.unusedVariables false
set_option maxRecDepth 100000
namespace Go.Proofs.YtchmpkgjjkfjcaaDoor
open Go.RowKit Base

set_option maxHeartbeats 2000000 in
theorem en_get_name_calls (w : World) (a : Option Addr) (n c : Nat) (l : List Vr) (st : Int) (fl s : Nm) (ga : Option Addr) (gn gc : Nat) (h : Vrs w a n c l) (hr : Rises l) (hl : l.length ≤ 1000000) (hs : s.length ≤ 9223372036854775807) (hn : nameB s = true) :
    Calls Tryd.prog 9 #[.agg #[.slice a n c, .slice ga gn gc, .int .i64 st, .string (str fl)], .string (str s)] w fun e w' => e = .returned (.tuple #[.string (str ((getB l s).getD [])), .bool (hasB l s)]) ∧ Below w.heap.size w w' := by
  obtain rfl := h.1
  have HN := Lib.hid fun W => name_calls W s hs
  have HNm := Lib.hid hn
  have HF := Lib.hid fun W (hv : Vrs W a l.length c l) => en_find_calls W a l.length c l (.slice ga gn gc) st fl s ga gn gc hv hr hl
  have H := Lib.hid h
  have HR := Lib.hid hr
  have HP := Lib.hid (parts_low hr s)
  clear h hr hl hn hs
  generalize hlow : lowB l s = i at *
  clear hlow
  have hbB := (Below.refl w.heap.size w).alloc (Nat.le_refl _) (.cells #[.slice a l.length c, .slice ga gn gc, .int .i64 st, .string (str fl)] 28)
  have hb0 := heap_alloc_new w (.cells #[.slice a l.length c, .slice ga gn gc, .int .i64 st, .string (str fl)] 28)
  have hbs : (w.alloc (.cells #[.slice a l.length c, .slice ga gn gc, .int .i64 st, .string (str fl)] 28)).heap.size = w.heap.size + 1 := World.size_alloc ..
  have HB := Lib.hid hbB
  have HB0 := Lib.hid hb0
  have HBs := Lib.hid hbs
  clear hbB hb0 hbs
  go_enter Tryd.func9, Tryd.ntmps9
  go_wp2_with fail
  generalize w.alloc (.cells #[.slice a l.length c, .slice ga gn gc, .int .i64 st, .string (str fl)] 28) = w1 at *
  obtain ⟨⟨c0, c1, c2, c3⟩, f0, f1, f2, f3⟩ := env4 HB0.out
  refine (HN.out w1).mono ?_
  rintro e w2 ⟨rfl, rfl⟩
  rw [HNm.out]
  go_wp2_with fail
  refine (HF.out w1 (H.out.below (Ap.stable_cellsAt vrC) HB.out)).mono ?_
  rintro e w2 ⟨rfl, hb2⟩
  have k0 := (hb2.block w.heap.size (by have := HBs.out; omega)).trans HB0.out
  have hB2 := HB.out.trans (hb2.mono HB.out.size)
  clear c0 c1 c2 c3 f0 f1 f2 f3 hb2 HF HB HB0 HBs HN HNm
  obtain ⟨⟨c0, c1, c2, c3⟩, f0, f1, f2, f3⟩ := env4 k0
  obtain ⟨b, off, hcs, hix⟩ := vrs_at (H.out.below (Ap.stable_cellsAt vrC) hB2)
  have HB2 := Lib.hid hB2
  clear k0 hB2
  by_cases hh : hasB l s = true
  · obtain ⟨hi, he⟩ := (has_at HR.out HP.out).1 hh
    have HG := Lib.hid (get_at HR.out hi he)
    have hx := fun W => hix 25 Tryd.underlying25 .i64 i W hi
    obtain ⟨e0, e1⟩ := hcs i hi
    have HH := Lib.hid hh
    rw [hh]
    clear he hh hcs hix
    generalize l[i]'hi = p at *
    generalize off + i * 2 = q at *
    go_wp2_with fail
    go_ret2
    rw [HG.out, HH.out]
    exact ⟨rfl, HB2.out⟩
  · have hh2 : hasB l s = false := by simpa using hh
    have HG := Lib.hid (get_none hh2)
    have HH := Lib.hid hh2
    rw [hh2]
    clear hh hh2 hcs hix
    go_wp2_with fail
    go_ret2
    rw [HG.out, HH.out]
    exact ⟨rfl, HB2.out⟩
def ifsN : Nm := [73, 70, 83]
def ifsB (l : List Vr) : Nm := (getB l ifsN).getD [32, 9, 10]
theorem ifs_name : nameB ifsN = true := by decide
set_option maxHeartbeats 2000000 in
theorem en_ifs_calls (w : World) (a : Option Addr) (n c : Nat) (l : List Vr) (st : Int) (fl : Nm) (ga : Option Addr) (gn gc : Nat) (h : Vrs w a n c l) (hr : Rises l) (hl : l.length ≤ 1000000) :
    Calls Tryd.prog 19 #[.agg #[.slice a n c, .slice ga gn gc, .int .i64 st, .string (str fl)]] w fun e w' => e = .returned (.string (str (ifsB l))) ∧ Below w.heap.size w w' := by
  have HG := Lib.hid fun W (hv : Vrs W a n c l) => en_get_name_calls W a n c l st fl ifsN ga gn gc hv hr hl (by decide) ifs_name
  have H := Lib.hid h
  have hbB := (Below.refl w.heap.size w).alloc (Nat.le_refl _) (.cells #[.slice a n c, .slice ga gn gc, .int .i64 st, .string (str fl)] 28)
  have HB := Lib.hid hbB
  clear h hr hl hbB
  go_enter Tryd.func19, Tryd.ntmps19
  go_wp2_with fail
  refine (HG.out _ (H.out.below (Ap.stable_cellsAt vrC) HB.out)).mono ?_
  rintro e w2 ⟨rfl, hb2⟩
  have HB2 := Lib.hid (HB.out.trans (hb2.mono HB.out.size))
  clear hb2 HB
  by_cases hh : hasB l ifsN = true
  · have HE : Hid ((getB l ifsN).getD [] = ifsB l) := by
      show _ = _
      rw [← get_isSome] at hh
      obtain ⟨v, hv⟩ := Option.isSome_iff_exists.1 hh
      unfold ifsB
      rw [hv]; rfl
    rw [hh]
    clear hh
    go_wp2_with fail
    go_ret
    rw [HE.out]
    exact ⟨rfl, HB2.out⟩
  · have hh2 : hasB l ifsN = false := by simpa using hh
    have HE : Hid ([32, 9, 10] = ifsB l) := by
      show _ = _
      unfold ifsB
      rw [get_none hh2]; rfl
    rw [hh2]
    clear hh hh2
    go_wp2_with fail
    go_ret
    rw [← HE.out]
    exact ⟨rfl, HB2.out⟩
end Go.Proofs.YtchmpkgjjkfjcaaDoor
