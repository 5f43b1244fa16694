/-
  Tables: got, without, with, the first one. Conditions: the row rises, and is not too long.
-/
import Derived.Test.YtghjmhhchhgppaaDoorFdWalks1
set_option linter.unusedVariables false
set_option maxRecDepth 100000
namespace Go.Proofs.YtghjmhhchhgppaaDoor
open Go.RowKit Base

set_option maxHeartbeats 1000000 in
theorem fd_find_calls (w : World) (a : Option Addr) (n c : Nat) (l : List Pr) (fd : Int) (h : Prs w a n c l) (hr : Rises l) (hl : l.length ≤ 1000000) :
    Calls Tryd.prog 17 #[.slice a n c, .int .i64 fd] w fun e w' => e = .returned (.tuple #[.int .i64 (lowB l fd : Int), .bool (hasB l fd)]) ∧ Below w.heap.size w w' := by
  have HC := Lib.hid (fd_search_calls w a n c l fd h hr hl)
  clear h hr hl
  go_enter Tryd.func17, Tryd.ntmps17
  go_wp2_with fail
  refine HC.out.mono ?_
  rintro e w2 ⟨rfl, hb2⟩
  have HB2 := Lib.hid hb2
  clear hb2
  go_wp2_with fail
  go_ret2
  exact ⟨rfl, HB2.out⟩
set_option maxHeartbeats 1000000 in
theorem fd_get_calls (w : World) (a : Option Addr) (n c : Nat) (l : List Pr) (fd : Int) (h : Prs w a n c l) (hr : Rises l) (hl : l.length ≤ 1000000) :
    Calls Tryd.prog 14 #[.slice a n c, .int .i64 fd] w fun e w' => e = .returned (.tuple #[.int .i64 ((getB l fd).getD 0), .bool (hasB l fd)]) ∧ Below w.heap.size w w' := by
  have HC := Lib.hid (fd_find_calls w a n c l fd h hr hl)
  obtain rfl := h.1
  have H := Lib.hid h
  have HR := Lib.hid hr
  have HP := Lib.hid (parts_low hr fd)
  clear h hr hl
  generalize hlow : lowB l fd = i at *
  clear hlow
  by_cases hh : hasB l fd = true
  · obtain ⟨hi, he⟩ := (has_at HR.out HP.out).1 hh
    have HG := Lib.hid (get_at HR.out hi he)
    rw [hh] at HC ⊢
    clear he hh
    go_enter Tryd.func14, Tryd.ntmps14
    go_wp2_with fail
    refine HC.out.mono ?_
    rintro e w2 ⟨rfl, hb2⟩
    obtain ⟨b, off, hcs, hix⟩ := prs_at (H.out.below (Ap.stable_cellsAt prC) hb2)
    have HB2 := Lib.hid hb2
    have hx := fun W => hix 26 Tryd.underlying26 .i64 i W hi
    obtain ⟨c0, c1⟩ := hcs i hi
    clear hb2 hcs hix
    generalize l[i]'hi = p at *
    generalize off + i * 2 = q at *
    go_wp2_with fail
    go_ret2
    rw [HG.out]
    exact ⟨rfl, HB2.out⟩
  · have hh2 : hasB l fd = false := by simpa using hh
    have HG := Lib.hid (get_none hh2)
    rw [hh2] at HC ⊢
    clear hh hh2
    go_enter Tryd.func14, Tryd.ntmps14
    go_wp2_with fail
    refine HC.out.mono ?_
    rintro e w2 ⟨rfl, hb2⟩
    have HB2 := Lib.hid hb2
    clear hb2
    go_wp2_with fail
    go_ret2
    rw [HG.out]
    exact ⟨rfl, HB2.out⟩
theorem own_base {w : World} {b1 b2 : Nat} {e : TypeId} {k : Nat} {v : Value} {n : Nat} {xs : List Value} (h : w.ownsRow b2 e k v n xs) (hb : b1 ≤ b2) : w.ownsRow b1 e k v n xs := by
  refine ⟨h.1, ?_⟩
  rcases h.2 with h2 | ⟨g, cap, cur, h1, h2, h3⟩
  · exact .inl h2
  · exact .inr ⟨g, cap, cur, h1, by omega, h3⟩
def TabPost (w : World) (l : List Pr) (e : Ending) (w' : World) : Prop := ∃ v, e = .returned v ∧ OwnP w' w.heap.size v l ∧ Below w.heap.size w w'
set_option maxHeartbeats 1000000 in
theorem fd_without_calls (w : World) (a : Option Addr) (n c : Nat) (l : List Pr) (fd : Int) (h : Prs w a n c l) (hr : Rises l) (hl : l.length ≤ 1000000) :
    Calls Tryd.prog 9 #[.slice a n c, .int .i64 fd] w (TabPost w (withoutB l fd)) := by
  have HC := Lib.hid (fd_find_calls w a n c l fd h hr hl)
  obtain rfl := h.1
  have H := Lib.hid h
  have HR := Lib.hid hr
  have HP := Lib.hid (parts_low hr fd)
  have HL := Lib.hid hl
  clear h hr hl
  generalize hlow : lowB l fd = i at *
  clear hlow
  go_enter Tryd.func9, Tryd.ntmps9
  go_wp2_with fail
  refine HC.out.mono ?_
  rintro e w2 ⟨rfl, hb2⟩
  have HCl := Lib.hid (fd_clone_calls w2 a l.length c l (H.out.below (Ap.stable_cellsAt prC) hb2) HL.out)
  have HB2 := Lib.hid hb2
  clear hb2
  go_wp2_with fail
  refine HCl.out.mono ?_
  rintro e w3 ⟨v, rfl, hown, hb3⟩
  have HB3 := Lib.hid (HB2.out.trans (hb3.mono HB2.out.size))
  have hsz : w.heap.size ≤ w2.heap.size := HB2.out.size
  have HO : Hid (OwnP w3 w.heap.size v l) := by
    show World.ownsRow _ _ _ _ _ _ _
    exact own_base hown hsz
  clear hb3 hown hsz HCl HC
  by_cases hh : hasB l fd = true
  · obtain ⟨hi, he⟩ := (has_at HR.out HP.out).1 hh
    have HE := Lib.hid (erase_eq HR.out hi he)
    have HD := Lib.hid (fd_delete_calls w3 w.heap.size v l i HO.out hi HL.out)
    have hl1 := HL.out
    rw [hh]
    clear he hh
    go_wp2_with fail
    refine HD.out.mono ?_
    rintro e w4 ⟨v4, rfl, hown4, hg4⟩
    have HB4 := Lib.hid (HB3.out.grown hg4 HB3.out.size (fun j hj => (HO.out.lt j hj).1))
    have HO4 := Lib.hid hown4
    clear hown4 hg4 HD
    go_wp2_with fail
    go_ret
    exact ⟨v4, rfl, by rw [← HE.out]; exact HO4.out, HB4.out⟩
  · have hh2 : hasB l fd = false := by simpa using hh
    have HE := Lib.hid (without_none hh2)
    rw [hh2]
    clear hh hh2
    go_wp2_with fail
    go_ret
    exact ⟨v, rfl, by rw [HE.out]; exact HO.out, HB3.out⟩
theorem prs_of_own {w : World} {base : Nat} {v : Value} {l : List Pr} (h : OwnP w base v l) : ∃ a c, v = .slice a l.length c ∧ Prs w a l.length c l := Ap.own_cells (by decide) prC_len h
set_option maxHeartbeats 1000000 in
theorem fd_with_calls (w : World) (a : Option Addr) (n c : Nat) (l : List Pr) (fd k : Int) (h : Prs w a n c l) (hr : Rises l) (hl : l.length ≤ 900000) :
    Calls Tryd.prog 11 #[.slice a n c, .int .i64 fd, .int .i64 k] w (TabPost w (withB fd k l)) := by
  have HC := Lib.hid (fd_without_calls w a n c l fd h hr (by omega))
  have hr2 := rises_without fd hr
  have hl2 : (withoutB l fd).length ≤ 900000 := Nat.le_trans (without_len fd l) hl
  have HF := Lib.hid fun W a c (hp : Prs W a (withoutB l fd).length c (withoutB l fd)) => fd_find_calls W a _ c (withoutB l fd) fd hp hr2 (by omega)
  have HP := Lib.hid (parts_low hr2 fd)
  have HE := Lib.hid (insert_eq fd k hr HP.out)
  have hi := (parts_low hr2 fd).1
  clear h hr hl hr2
  generalize withoutB l fd = m at *
  generalize hlow : lowB m fd = i at *
  generalize hasB m fd = is at *
  clear hlow HP
  go_enter Tryd.func11, Tryd.ntmps11
  go_wp2_with fail
  refine HC.out.mono ?_
  rintro e w2 ⟨v, rfl, hown, hb2⟩
  obtain ⟨a1, c1, rfl, hrow⟩ := prs_of_own hown
  have HB2 := Lib.hid hb2
  have HO := Lib.hid hown
  have HFi := Lib.hid (HF.out w2 a1 c1 hrow)
  clear hb2 hown hrow HC HF
  go_wp2_with fail
  refine HFi.out.mono ?_
  rintro e w3 ⟨rfl, hb3⟩
  have HB3 := Lib.hid (HB2.out.trans (hb3.mono HB2.out.size))
  have HO3 := Lib.hid (show w3.ownsRow w.heap.size 44 2 (.slice a1 m.length c1) m.length (m.flatMap prC) from ownsRow_below HO.out hb3)
  clear hb3 HFi HO
  have HB4 := Lib.hid (HB3.out.alloc HB3.out.size (.cells (prC (fd, k)).toArray 44))
  have HO4 := Lib.hid (HO3.out.alloc (.cells (prC (fd, k)).toArray 44))
  have HX := Lib.hid (heap_alloc_new w3 (.cells (prC (fd, k)).toArray 44))
  have hsz4 : w.heap.size ≤ (w3.alloc (.cells (prC (fd, k)).toArray 44)).heap.size := HB4.out.size
  have HIn := Lib.hid (fd_insert_calls (w3.alloc (.cells (prC (fd, k)).toArray 44)) w.heap.size (.slice a1 m.length c1) m i (fd, k) w3.heap.size HO4.out hi (by omega) hsz4
    (fun e => by have := (HO3.out.lt _ e).2; omega) HX.out)
  have HZ := Lib.hid hsz4
  unfold prC at HIn HB4
  clear hsz4 hl2
  go_wp2_with fail
  refine HIn.out.mono ?_
  rintro e w5 ⟨v5, rfl, hown5, hg5⟩
  have HB5 := Lib.hid (HB4.out.grown hg5 HZ.out (fun j hj => (HO4.out.lt j hj).1))
  have HO5 := Lib.hid hown5
  clear hown5 hg5 HIn
  go_wp2_with fail
  go_ret
  exact ⟨v5, rfl, by rw [← HE.out]; exact HO5.out, HB5.out⟩
set_option maxHeartbeats 1000000 in
theorem fd_first_calls (w : World) : Calls Tryd.prog 6 #[] w (TabPost w firstB) := by
  obtain ⟨i0, hi0, hz0, hz1, hz2⟩ := info_parts info_pair
  go_enter Tryd.func6, Tryd.ntmps6
  go_wp2_with fail
  go_loopw [1, 3] (fun v1 v3 wr => ∃ k : Nat, k ≤ 3 ∧ v3 = .int .i64 k ∧ OwnP wr w.heap.size v1 (firstB.take k) ∧ Below w.heap.size w wr) (fun _ v3 _ => 3 - (intOf v3).toNat)
  case atStart => exact ⟨0, by decide, rfl, World.ownsRow_nil _ _ _ _, Below.refl _ _⟩
  case round =>
    obtain ⟨k, hk, rfl, hown, hb⟩ := hrel
    have hft : ∀ k, k < 3 → firstB.take (k + 1) = firstB.take k ++ [((k : Int), (k : Int))] := by intro k hk; match k, hk with | 0, _ => rfl | 1, _ => rfl | 2, _ => rfl
    have hfl : (firstB.take k).length = k := by rw [List.length_take]; show min k 3 = k; omega
    by_cases hlt : k < 3
    · have HA := Lib.hid (hb.alloc hb.size (.cells (prC ((k : Int), (k : Int))).toArray 44))
      have hoA := hown.alloc (.cells (prC ((k : Int), (k : Int))).toArray 44)
      rw [hfl] at hoA
      have HOA := Lib.hid hoA
      have HS := Lib.hid (Ap.src_cellsAt (P := Tryd.prog) prC_len prC_one (heap_alloc_new wr (.cells (prC ((k : Int), (k : Int))).toArray 44)) 1)
      have HT := Lib.hid (hft k hlt)
      have hfl2 : (firstB.take (k + 1)).length = k + 1 := by rw [List.length_take]; show min (k + 1) 3 = k + 1; omega
      have HFl := Lib.hid hfl2
      have d1 : decide ((k : Int) < 3) = true := decide_eq_true (by omega)
      have d2 : (k : Int) < 3 := by omega
      clear hown hb hft hfl hoA hfl2
      generalize firstB.take k = m at *
      unfold prC at HA HOA HS
      go_wp2_with (at_builtin; refine wpList_append_src rfl (.tmp 6) (.tmp 10) 26 26 rfl w.heap.size 44 i0 (.agg #[.int .i64 0, .int .i64 0]) 2 16 Tryd.underlying26 append_tab hi0 hz0 hz1 hz2 rfl (by decide) (by decide) _ k _ rfl HOA.out _ 1 _ rfl HS.out ?_ ?_ ?_ ?_)
      case _ => unfold maxLen; omega
      case _ => omega
      case _ => have := HA.out.size; rw [World.size_alloc] at this; exact this
      intro v' w' h1 h2 _
      have HB' := Lib.hid (HA.out.grown h2 HA.out.size (fun j hj => (HOA.out.lt j hj).1))
      have H1 : Hid (OwnP w' w.heap.size v' (firstB.take (k + 1))) := by
        show World.ownsRow _ _ _ _ _ _ _
        rw [HFl.out, HT.out, List.flatMap_append]
        exact h1
      clear h1 h2
      go_wp2_with fail
      go_roundw
      case rel => exact ⟨k + 1, by omega, by go_num, H1.out, HB'.out⟩
      case measure => simp [intOf]; omega
    · obtain rfl : k = 3 := by omega
      have HO := Lib.hid (show OwnP wr w.heap.size _ firstB from hown)
      have HB := Lib.hid hb
      clear hown hb hft hfl
      go_wp2_with fail
      go_ret
      exact ⟨_, rfl, HO.out, HB.out⟩
end Go.Proofs.YtghjmhhchhgppaaDoor
