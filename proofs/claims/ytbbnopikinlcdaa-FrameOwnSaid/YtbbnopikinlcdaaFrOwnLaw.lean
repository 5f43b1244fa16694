/-
  The walk of the statement FrameOwn: rows that are told can be written over: true; nothing that was there turns. Conditions: the argument can be read.
-/
import Derived.Test.YtbbnopikinlcdaaFrWords
import Derived.Test.YtbbnopikinlcdaaRegion
import Derived.Test.YtbbnopikinlcdaaRegionS
set_option linter.unusedVariables false
namespace Go.Proofs.Ytbbnopikinlcdaa
open Go.RowKit Base

theorem idx_rowF {g n c : Nat} (k : Nat) (hk : k < n) : ∀ (kd : IntKind) (w' : World), (Instr.indexAt 70 (.slice (some ⟨g, 0, none⟩) n c) (.int kd (k : Int))).run Try.prog w' = .ok (.pointer (some ⟨g, k, none⟩)) w' := by
  obtain ⟨i, hi', _, hs, _⟩ := info_parts info_bytes
  intro kd w'
  rw [run_indexAt_slice w' 70 _ n c kd k (by simp [Program.elem, Try.underlying70]), if_pos ⟨by omega, by omega⟩]
  simp [Program.elem, Try.underlying70, sizeOf, typeInfo, hi', hs, Result.andThen, Addr.add_lit]
theorem idx_byteF {g n c : Nat} (k : Nat) (hk : k < n) : ∀ (kd : IntKind) (w' : World), (Instr.indexAt 22 (.slice (some ⟨g, 0, none⟩) n c) (.int kd (k : Int))).run Try.prog w' = .ok (.pointer (some ⟨g, k, none⟩)) w' := by
  obtain ⟨i, hi', _, hs, _⟩ := info_parts info_u8
  intro kd w'
  rw [run_indexAt_slice w' 22 _ n c kd k (by simp [Program.elem, Try.underlying22]), if_pos ⟨by omega, by omega⟩]
  simp [Program.elem, Try.underlying22, sizeOf, typeInfo, hi', hs, Result.andThen, Addr.add_lit]
/-- A row that is not empty: its block. -/
theorem own_addr {w : World} {base k c : Nat} {e : TypeId} {a : Option Addr} {xs : List Value} (h : w.ownsRow base e 1 (.slice a k c) k xs) (hk : 0 < k) : ∃ g, a = some ⟨g, 0, none⟩ ∧ base ≤ g := by
  rcases h.2 with ⟨_, h⟩ | ⟨g, cp, cur, he, hb, _⟩
  · omega
  · simp only [Value.slice.injEq] at he
    exact ⟨g, he.1, hb⟩
theorem add_one_u8 (c : UInt8) : ((c.toNat : Int) + 1) % 256 = (((c + 1).toNat : Nat) : Int) := by
  have h : (c + 1).toNat = (c.toNat + 1) % 256 := by simp [UInt8.toNat_add]
  rw [h]
  omega

set_option maxHeartbeats 4000000 in
set_option maxRecDepth 100000 in
theorem fr_own_law (w : World) (a0 : Option Addr) (n cap : Nat) (ls : List (List UInt8)) (h0 : ByteRows w a0 n cap ls) :
    Calls Try.prog 15 #[.slice a0 n cap] w fun e w' => e = .returned (.bool true) ∧ Below w.heap.size w w' := by
  obtain ⟨i0, hi, hz0, hz1, hz2⟩ := info_parts info_u8
  have hc0 := h0.2.2.1
  have hn0 := h0.2.1
  unfold maxLen at hc0
  have Hn := Lib.hid h0.1
  have H0 := Lib.hid h0; clear h0
  have Haw := Lib.hid (fr_awake_calls w)
  cases hfew : fewF ls with
  | false =>
    have Hfew := Lib.hid hfew; clear hfew
    go_enter Try.func15, Try.ntmps15
    go_wp2_with fail
    refine Haw.out.mono ?_
    rintro e w1 ⟨rfl, hb1⟩
    go_wp2_with fail
    refine (fr_few_calls w1 a0 n cap ls (H0.out.below stable_bytesCell hb1)).mono ?_
    rintro e w2 ⟨rfl, rfl⟩
    rw [Hfew.out]
    go_wp2_with fail
    go_ret
    exact ⟨rfl, hb1⟩
  | true =>
    obtain ⟨hF1, hF2⟩ := (fewF_iff ls).1 hfew
    have Hfew := Lib.hid hfew; clear hfew
    have hL := framesB_len hF1
    have HLs : Hid (∀ l ∈ ls, l.length ≤ 65536) := fun l hl => by have := hF1 l hl; omega
    have HF1 := Lib.hid hF1
    have hn20 : n ≤ 20 := by rw [Hn.out]; exact hF2
    have hL2 : (framesB ls).length ≤ 12280 := by omega
    clear hF1 hL hF2
    go_enter Try.func15, Try.ntmps15
    go_wp2_with fail
    refine Haw.out.mono ?_
    rintro e w1 ⟨rfl, hb1⟩
    go_wp2_with fail
    refine (fr_few_calls w1 a0 n cap ls (H0.out.below stable_bytesCell hb1)).mono ?_
    rintro e w2 ⟨rfl, rfl⟩
    rw [Hfew.out]
    have HB1 := Lib.hid hb1
    clear hb1 Hfew Haw
    go_wp2_with fail
    refine (frame_put_calls w1 a0 n cap ls (H0.out.below stable_bytesCell HB1.out) HLs.out (by omega)).mono ?_
    rintro e w2 ⟨vb, rfl, hown2, hb2⟩
    obtain ⟨ab, cb, rfl, hrow2⟩ := ownsRow_bytes hown2
    have hcb := hrow2.2.2.1
    have hnb := hrow2.2.1
    unfold maxLen at hcb
    have HB2 : Hid (Below w.heap.size w w2) := HB1.out.trans (hb2.mono HB1.out.size)
    have HE : Hid (EndsF (framesB ls) n ∧ stF (framesB ls) n = (ls, (framesB ls).length) ∧ endE3 (framesB ls) n = 0) := by
      have h := endsF_frames ls HLs.out [] (by rw [takeF_nil]; decide)
      rw [List.append_nil, ← Hn.out] at h
      refine ⟨h.1, h.2, ?_⟩
      unfold endE3
      rw [h.2, if_pos rfl]
    generalize framesB ls = bs at *
    have hst := str_bytes hrow2
    obtain ⟨L, hLL⟩ : ∃ L, bs.length = L := ⟨_, rfl⟩
    rw [hLL] at hL2 hnb hst HE hrow2 ⊢
    clear hLL hown2 hb2 HB1
    have Hbb := Lib.hid hrow2
    have Hsc := Lib.hid (frame_scan_at w2 ab L cb bs hrow2 (by omega) n HE.out.1)
    rw [HE.out.2.1, HE.out.2.2] at Hsc
    simp only [] at Hsc
    clear hrow2 HE
    go_wp2_with fail
    refine Hsc.out.mono ?_
    rintro e w3 ⟨al, cl, vs, rfl, hrow, hvs, hb3⟩
    have Hrow := Lib.hid hrow
    have Hvs := Lib.hid hvs
    have HB3 := Lib.hid hb3
    obtain ⟨gl, hgl⟩ : ∃ gl, 0 < n → al = some ⟨gl, 0, none⟩ ∧ w2.heap.size ≤ gl := by
      by_cases h : 0 < n
      · obtain ⟨g, hg⟩ := own_addr hrow h; exact ⟨g, fun _ => hg⟩
      · exact ⟨0, fun h' => absurd h' h⟩
    have Hgl := Lib.hid hgl
    have hcl : n ≤ cl ∧ cl ≤ maxLen := by
      obtain ⟨a', c', he, h3, h4, _⟩ := ownsRow_slice hrow
      simp only [Value.slice.injEq, true_and] at he
      rw [he.2]; exact ⟨h3, h4⟩
    unfold maxLen at hcl
    clear hrow hvs hb3 hgl Hsc hst
    go_wp2_with fail
    go_loopw [10] (fun i wr => ∃ (j : Nat) (vr : List Value), j ≤ n ∧ i = .int .i64 j ∧ wr.ownsRow w2.heap.size 22 1 (.slice al n cl) n vr ∧ OwnRows wr w2.heap.size (vr.drop j) (ls.drop j) ∧ Below w2.heap.size w2 wr) (fun i _ => n - (intOf i).toNat)
    case atStart => exact ⟨0, vs, Nat.zero_le _, rfl, Hrow.out, Hvs.out, HB3.out⟩
    case round =>
      obtain ⟨j, vr, hj, rfl, hrow, hvs, hbel⟩ := hrel
      have Hbel := Lib.hid hbel
      have HBr : Hid (Below w.heap.size w wr) := HB2.out.trans (hbel.mono HB2.out.size)
      clear hbel Hrow Hvs HB3
      by_cases hlt : j < n
      · have hjl : j < ls.length := by rw [← Hn.out]; exact hlt
        have Hal := Lib.hid (Hgl.out (by omega)).1
        have hglN := (Hgl.out (by omega)).2
        have hvl : vr.length = n := by have := hrow.1; omega
        have hjv : j < vr.length := by omega
        have e0 : (vr.drop j)[0]? = some vr[j] := by rw [List.getElem?_drop]; simp
        have e1 : (ls.drop j)[0]? = some ls[j] := by rw [List.getElem?_drop]; simp
        have hown := hvs.2.1 0 _ _ e0 e1
        have HDis : Hid (∀ (i : Nat) (u : Value), (vr.drop (j + 1))[i]? = some u → u.ownBlock = none ∨ u.ownBlock ≠ (vr[j]).ownBlock ∨ (vr[j]).ownBlock = none) := by
          intro i u hu
          have hu2 : (vr.drop j)[i + 1]? = some u := by
            rw [List.getElem?_drop] at hu ⊢
            rw [show j + (i + 1) = j + 1 + i from by omega]; exact hu
          rcases hvs.2.2 0 (i + 1) _ u (by omega) e0 hu2 with h | h
          · exact .inr (.inr h)
          · exact .inr (.inl fun e => h e.symm)
        have hvs2 : OwnRows wr w2.heap.size (vr.drop (j + 1)) (ls.drop (j + 1)) := by
          refine ⟨by simp [hvl, Hn.out], fun i u l hu hl => hvs.2.1 (i + 1) u l ?_ ?_, fun i k u x hik hu hx => hvs.2.2 (i + 1) (k + 1) u x (by omega) ?_ ?_⟩
          · rw [List.getElem?_drop] at hu ⊢; rw [show j + (i + 1) = j + 1 + i from by omega]; exact hu
          · rw [List.getElem?_drop] at hl ⊢; rw [show j + (i + 1) = j + 1 + i from by omega]; exact hl
          · rw [List.getElem?_drop] at hu ⊢; rw [show j + (i + 1) = j + 1 + i from by omega]; exact hu
          · rw [List.getElem?_drop] at hx ⊢; rw [show j + (k + 1) = j + 1 + k from by omega]; exact hx
        have hrowA : wr.ownsRow w2.heap.size 22 1 (.slice (some ⟨gl, 0, none⟩) n cl) n vr := by rw [← Hal.out]; exact hrow
        have hcA : wr.cell? ⟨gl, j, none⟩ = some vr[j] := by rw [hrowA.cellAt j (by omega), List.getElem?_eq_getElem hjv]
        have HI1 : Hid (∀ wx, (Instr.indexAt 70 (.slice al n cl) (.int .i64 (j : Int))).run Try.prog wx = .ok (.pointer (some ⟨gl, j, none⟩)) wx) := fun wx => by rw [Hal.out]; exact idx_rowF j hlt .i64 wx
        obtain ⟨b3, o3, hrow3, hidx3⟩ := at_rows (H0.out.below stable_bytesCell HBr.out)
        obtain ⟨a3, c3, hc3, hy3⟩ := hrow3 j hjl
        have HI3 : Hid (∀ wx, (Instr.indexAt 70 (.slice a0 n cap) (.int .i64 (j : Int))).run Try.prog wx = .ok (.pointer (some ⟨b3, o3 + j, none⟩)) wx) := fun wx => hidx3 .i64 j wx hlt
        have HC3 := Lib.hid hc3; have HY3 := Lib.hid hy3
        have hsl := HF1.out _ (List.getElem_mem hjl)
        clear hrow3 hidx3 hc3 hy3 hvs e0 e1 hrow
        generalize ls[j]'hjl = s at *
        have Hvj : Hid (vr[j]? = some (vr[j]'hjv)) := List.getElem?_eq_getElem hjv
        generalize vr[j]'hjv = v at *
        obtain ⟨av, cv, rfl, hcv1, hcv2, _, _⟩ := ownsRow_slice hown
        obtain ⟨_, _, hveq, hy1⟩ := ownsRow_bytes hown
        cases hveq
        unfold maxLen at hcv2
        have HC1 := Lib.hid hcA; have HY1 := Lib.hid hy1; have Hown := Lib.hid hown; have Hvs2 := Lib.hid hvs2; have HrowA := Lib.hid hrowA
        clear hcA hy1 hown hvs2 hrowA hjv
        go_wp2_with fail
        refine Rg.wp_region_rgl [] [Rg.Is (.slice al n cl), Rg.Is (.int .i64 (j : Int)), Rg.Is (.pointer (some ⟨gl, j, none⟩)), Rg.Is (.slice av s.length cv), Rg.Is (.string (str s)), Rg.Is (.slice a0 n cap), Rg.Is (.int .i64 (j : Int)), Rg.Is (.pointer (some ⟨b3, o3 + j, none⟩)), Rg.Is (.slice a3 s.length c3), Rg.Is (.string (str s)), Rg.Is (.bool false)] (by kernel_rfl) (by kernel_rfl) (by kernel_rfl) ⟨Rg.st_is _, Rg.st_is _, Rg.st_is _, Rg.st_is _, Rg.st_is _, Rg.st_is _, Rg.st_is _, Rg.st_is _, Rg.st_is _, Rg.st_is _, Rg.st_is _, trivial⟩ ⟨rfl, rfl, rfl, rfl, rfl, rfl, rfl, rfl, rfl, rfl, rfl, trivial⟩ ⟨?_, ?_, ?_, ?_, ?_, ?_, ?_, ?_, ?_, ?_, ?_, trivial⟩ ?_
        · intro _ a wx hb hk
          have h7 : a.eval (.tmp 7) = .slice al n cl := Eq.mp (by kernel_rfl) (hk 7 (by decide))
          exact Rg.does_move ⟨Below.refl _ _, h7⟩
        · intro _ a wx hb hk
          have h10 : a.eval (.tmp 10) = .int .i64 (j : Int) := Eq.mp (by kernel_rfl) (hk 10 (by decide))
          exact Rg.does_move ⟨Below.refl _ _, h10⟩
        · intro _ a wx hb hk
          have h50 : a.eval (.tmp 50) = .slice al n cl := Eq.mp (by kernel_rfl) (hk 50 (by decide))
          have h51 : a.eval (.tmp 51) = .int .i64 (j : Int) := Eq.mp (by kernel_rfl) (hk 51 (by decide))
          exact Rg.does_index _ _ _ h50 h51 (HI1.out wx) ⟨Below.refl _ _, rfl⟩
        · intro _ a wx hb hk
          have h52 : a.eval (.tmp 52) = .pointer (some ⟨gl, j, none⟩) := Eq.mp (by kernel_rfl) (hk 52 (by decide))
          exact Rg.does_load _ _ h52 (load_row (cell_below hb (Nat.le_refl _) HC1.out)) ⟨Below.refl _ _, rfl⟩
        · intro _ a wx hb hk
          have h53 : a.eval (.tmp 53) = .slice av s.length cv := Eq.mp (by kernel_rfl) (hk 53 (by decide))
          exact Rg.does_convert _ _ h53 (str_bytes (HY1.out.below stable_byteAt hb)) ⟨Below.refl _ _, rfl⟩
        · intro _ a wx hb hk
          have h0 : a.eval (.tmp 0) = .slice a0 n cap := Eq.mp (by kernel_rfl) (hk 0 (by decide))
          exact Rg.does_move ⟨Below.refl _ _, h0⟩
        · intro _ a wx hb hk
          have h10 : a.eval (.tmp 10) = .int .i64 (j : Int) := Eq.mp (by kernel_rfl) (hk 10 (by decide))
          exact Rg.does_move ⟨Below.refl _ _, h10⟩
        · intro _ a wx hb hk
          have h55 : a.eval (.tmp 55) = .slice a0 n cap := Eq.mp (by kernel_rfl) (hk 55 (by decide))
          have h56 : a.eval (.tmp 56) = .int .i64 (j : Int) := Eq.mp (by kernel_rfl) (hk 56 (by decide))
          exact Rg.does_index _ _ _ h55 h56 (HI3.out wx) ⟨Below.refl _ _, rfl⟩
        · intro _ a wx hb hk
          have h57 : a.eval (.tmp 57) = .pointer (some ⟨b3, o3 + j, none⟩) := Eq.mp (by kernel_rfl) (hk 57 (by decide))
          exact Rg.does_load _ _ h57 (load_row (cell_below hb (Nat.le_refl _) HC3.out)) ⟨Below.refl _ _, rfl⟩
        · intro _ a wx hb hk
          have h58 : a.eval (.tmp 58) = .slice a3 s.length c3 := Eq.mp (by kernel_rfl) (hk 58 (by decide))
          exact Rg.does_convert _ _ h58 (str_bytes (HY3.out.below stable_byteAt hb)) ⟨Below.refl _ _, rfl⟩
        · intro _ a wx hb hk
          have h54 : a.eval (.tmp 54) = .string (str s) := Eq.mp (by kernel_rfl) (hk 54 (by decide))
          have h59 : a.eval (.tmp 59) = .string (str s) := Eq.mp (by kernel_rfl) (hk 59 (by decide))
          exact Rs.does_neq0_string _ h54 h59 ⟨Below.refl _ _, rfl⟩
        intro vals wD hbD hL
        obtain ⟨g0, g1, g2, g3, g4, g5, g6, g7, g8, g9, g10, _⟩ := hL
        have hbl : Below w2.heap.size w2 wD := Hbel.out.trans (hbD.mono Hbel.out.size)
        have HownD := Lib.hid (ownsRow_below Hown.out hbD)
        have HrowD := Lib.hid (ownsRow_below HrowA.out hbD)
        have HvsD := Lib.hid (Hvs2.out.below hbD)
        have g10' : vals 10 = .bool false := g10
        clear g0 g1 g2 g3 g4 g5 g6 g7 g8 g9 g10 hbD HI3 HC3 HY3 HC1 HY1 Hown HrowA Hvs2 HBr Hbel
        simp only [Rg.putAll, List.setIfInBounds_toArray, List.set_cons_succ, List.set_cons_zero, g10']
        clear g10'
        have HblD := Lib.hid hbl; clear hbl
        have hi1 := HI1.out
        have hsl' : s.length ≤ 600 := hsl
        go_wp2_with fail
        go_loopw [11] (fun i wx => ∃ (k : Nat) (xs : List UInt8), k ≤ s.length ∧ i = .int .i64 k ∧ wx.ownsRow w2.heap.size 5 1 (.slice av s.length cv) s.length (xs.map bv) ∧ wx.ownsRow w2.heap.size 22 1 (.slice (some ⟨gl, 0, none⟩) n cl) n vr ∧ OwnRows wx w2.heap.size (vr.drop (j + 1)) (ls.drop (j + 1)) ∧ Below w2.heap.size w2 wx) (fun i _ => s.length - (intOf i).toNat)
        case atStart => exact ⟨0, s, Nat.zero_le _, rfl, HownD.out, HrowD.out, HvsD.out, HblD.out⟩
        case round =>
          obtain ⟨k, xs, hk, rfl, hown, hrowA, hvsA, hbl⟩ := hrel
          clear HownD HrowD HvsD HblD
          have hcA : wr.cell? ⟨gl, j, none⟩ = some (.slice av s.length cv) := by rw [hrowA.cellAt j (by omega)]; exact Hvj.out
          have hxl : xs.length = s.length := by have := hown.1; simpa using this
          by_cases hks : k < s.length
          · obtain ⟨g, hg, hgN⟩ := own_addr hown (by omega)
            have hownA : wr.ownsRow w2.heap.size 5 1 (.slice (some ⟨g, 0, none⟩) s.length cv) s.length (xs.map bv) := by rw [← hg]; exact hown
            have hkx : k < xs.length := by omega
            have hcell : wr.cell? ⟨g, k, none⟩ = some (.int .u8 ((xs[k]'hkx).toNat : Int)) := by
              rw [hownA.cellAt k (by omega), List.getElem?_eq_getElem (by simpa using hkx), List.getElem_map]; rfl
            have hfro := hownA.frozenAt k
            have hst := (hownA.stored k (bv (xs[k]'hkx + 1))).1
            rw [← List.map_set] at hst
            have hgs := grown_setF wr g k (bv (xs[k]'hkx + 1))
            have hrowS := hrowA.kept hgs (rows_apart hrowA hownA (by decide))
            have hvsS : OwnRows (wr.setCell ⟨g, k, none⟩ (bv (xs[k]'hkx + 1))) w2.heap.size (vr.drop (j + 1)) (ls.drop (j + 1)) := hvsA.kept hgs fun i u hu => by
              rcases HDis.out i u hu with h | h | h
              · exact .inl h
              · rw [hg] at h; exact .inr h
              · rw [hg] at h; simp [Value.ownBlock] at h
            have hblS : Below w2.heap.size w2 (wr.setCell ⟨g, k, none⟩ (bv (xs[k]'hkx + 1))) := hbl.setCell (p := ⟨g, k, none⟩) hgN _
            have hidx : ∀ (kd : IntKind) (w' : World), (Instr.indexAt 22 (.slice av s.length cv) (.int kd (k : Int))).run Try.prog w' = .ok (.pointer (some ⟨g, k, none⟩)) w' := fun kd w' => by rw [hg]; exact idx_byteF k hks kd w'
            have hadd := add_one_u8 (xs[k]'hkx)
            rw [← hg] at hst
            clear hg
            have Hst := Lib.hid hst; have HrowS := Lib.hid hrowS; have HvsS := Lib.hid hvsS; have HblS := Lib.hid hblS
            clear hst hrowS hvsS hblS hgs hownA hown hrowA hvsA hbl
            have Hxs : Hid ((xs.set k (xs[k]'hkx + 1)).length = s.length) := by show _ = _; rw [List.length_set]; exact hxl
            generalize xs.set k (xs[k]'hkx + 1) = xs' at *
            generalize xs[k]'hkx + 1 = c1 at *
            generalize xs[k]'hkx = c at *
            unfold bv at Hst HrowS HvsS HblS
            go_wp2_with fail
            go_roundw
            case rel => exact ⟨k + 1, xs', by omega, by go_num, Hst.out, HrowS.out, HvsS.out, HblS.out⟩
            case measure => simp [intOf]; omega
          · obtain rfl : k = s.length := by omega
            have Hown := Lib.hid hown; have HrowA := Lib.hid hrowA; have HvsA := Lib.hid hvsA; have Hbl := Lib.hid hbl
            clear hown hrowA hvsA hbl hxl
            go_wp2_with (at_builtin; refine wpList_append_src rfl (.tmp 84) (.tmp 85) 22 22 rfl w2.heap.size 5 i0 (.int .u8 0) 1 1 Try.underlying22 (append_side Try.underlying22) hi hz0 hz1 hz2 rfl (by decide) (by decide) _ s.length _ rfl (Hown.out.alloc _) _ 1 _ rfl (src_new wr [.int .u8 7] 5 1 1 rfl (by intro u hu; simp at hu; subst hu; rfl) 1) ?_ ?_ ?_ ?_)
            case _ => unfold maxLen; omega
            case _ => omega
            case _ => have := Hbl.out.size; simp; omega
            intro v' w6 hown6 hg6 _
            have hg6 : wr.grownBy w6 (Value.ownBlock (.slice av s.length cv)) := grownBy_trans (World.grownBy_alloc _ _ _) hg6
            have hrow6 := HrowA.out.kept hg6 (rows_apart HrowA.out Hown.out (by decide))
            have hvs6 : OwnRows w6 w2.heap.size (vr.drop (j + 1)) (ls.drop (j + 1)) := HvsA.out.kept hg6 fun i u hu => by
              rcases HDis.out i u hu with h | h | h
              · exact .inl h
              · exact .inr h
              · rw [h]; cases u.ownBlock <;> simp
            have hbl6 : Below w2.heap.size w2 w6 := Hbl.out.grown hg6 Hbl.out.size (fun q hq => (Hown.out.lt q hq).1)
            obtain ⟨a6, c6, rfl, _, _, _, _⟩ := ownsRow_slice hown6
            have hc6 : w6.cell? ⟨gl, j, none⟩ = some (.slice av s.length cv) := by rw [hrow6.cellAt j (by omega)]; exact Hvj.out
            have hf6 := hrow6.frozenAt j
            have hst := (hrow6.stored j (.slice a6 (s.length + 1) c6)).1
            have hgs := grown_setF w6 gl j (.slice a6 (s.length + 1) c6)
            have hvsS : OwnRows (w6.setCell ⟨gl, j, none⟩ (.slice a6 (s.length + 1) c6)) w2.heap.size ((vr.set j (.slice a6 (s.length + 1) c6)).drop (j + 1)) (ls.drop (j + 1)) := by
              rw [List.drop_set, if_pos (by omega)]
              refine hvs6.kept hgs fun i u hu => ?_
              obtain ⟨l', _, ho⟩ := hvs6.row hu
              exact rows_apart ho hrow6 (by decide)
            have hblS : Below w2.heap.size w2 (w6.setCell ⟨gl, j, none⟩ (.slice a6 (s.length + 1) c6)) := hbl6.setCell (p := ⟨gl, j, none⟩) hglN _
            rw [← Hal.out] at hst
            have Hst := Lib.hid hst; have HvsS := Lib.hid hvsS; have HblS := Lib.hid hblS
            clear hst hvsS hblS hgs hrow6 hvs6 hbl6 hown6 hg6 hcA Hown HrowA HvsA Hbl
            go_wp2_with fail
            go_roundw
            case rel => exact ⟨j + 1, _, by omega, by go_num, Hst.out, HvsS.out, HblS.out⟩
            case measure => simp [intOf]; omega
      · obtain rfl : j = n := by omega
        have hst := str_bytes (Hbb.out.below stable_byteAt Hbel.out)
        clear hrow hvs Hgl hlt hj
        go_wp2_with fail
        go_ret
        exact ⟨rfl, HBr.out⟩

end Go.Proofs.Ytbbnopikinlcdaa
