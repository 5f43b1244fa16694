/-
  The walk of the statement VarintBack: numbers and texts that are put are read as they were; cut anywhere ahead of the end something is short: true; nothing that was there turns. Conditions: the arguments can be read; the texts' bytes are not more than twenty millions.
-/
import Derived.Test.YtbbnopikinlcdaaVarAwake
import Derived.Test.YtbbnopikinlcdaaVarPlain2
import Derived.Test.YtbbnopikinlcdaaRegionS
set_option linter.unusedVariables false
namespace Go.Proofs.Ytbbnopikinlcdaa
open Go.RowKit Base Rs

theorem load_u64 {w : World} {ad : Addr} {v : Value} (h : w.cell? ad = some v) : (Instr.loadAt 39 (.pointer (some ad))).run Try.prog w = .ok v w := by
  have hagg : (isAgg 39).run Try.prog w = .ok false w := by simp [isAgg, run_underlying Try.underlying39]
  simp [Instr.loadAt, Instr.sureAddr, loadVar, hagg, Result.andThen, load]
  show Sem.run _ (Sem.load Mode.plain ad Sem.pure) w = _
  simp only [Sem.run, h]
theorem load_st {w : World} {ad : Addr} {v : Value} (h : w.cell? ad = some v) : (Instr.loadAt 9 (.pointer (some ad))).run Try.prog w = .ok v w := by
  have hagg : (isAgg 9).run Try.prog w = .ok false w := by simp [isAgg, run_underlying Try.underlying9]
  simp [Instr.loadAt, Instr.sureAddr, loadVar, hagg, Result.andThen, load]
  show Sem.run _ (Sem.load Mode.plain ad Sem.pure) w = _
  simp only [Sem.run, h]
/-- What the reader holds, ahead of what is read, and behind. -/
def BackS (q : Nat) (full rest : List UInt8) (ls : Nat → Bool) (w : World) : Prop := if ls 1 = true then Rd w q rest 0 else Rd w q full 0
theorem backS_dep (q : Nat) (full rest : List UInt8) : ∀ (ls ls' : Nat → Bool) (w : World), (∀ j ∈ [1], ls j = ls' j) → BackS q full rest ls w → BackS q full rest ls' w := by
  intro ls ls' w h hs
  unfold BackS at hs ⊢
  rw [← h 1 (by simp)]
  exact hs
theorem backS_below {q : Nat} {full rest : List UInt8} {ls : Nat → Bool} {w w' : World} (hs : BackS q full rest ls w) (hb : Below w.heap.size w w') : BackS q full rest ls w' := by
  unfold BackS at hs ⊢
  split
  · rename_i h; rw [if_pos h] at hs; exact hs.below hb
  · rename_i h; rw [if_neg h] at hs; exact hs.below hb
theorem nums_drop (l : List Nat) (k : Nat) (h : k < l.length) : VarPlain.nums (l.drop k) = VarPlain.num l[k] ++ VarPlain.nums (l.drop (k + 1)) := by
  rw [List.drop_eq_getElem_cons h]; rfl
theorem texts_drop (l : List (List UInt8)) (k : Nat) (h : k < l.length) : texts (l.drop k) = VarPlain.num l[k].length ++ l[k] ++ texts (l.drop (k + 1)) := by
  rw [List.drop_eq_getElem_cons h]; rfl
theorem texts_part (l : List (List UInt8)) (s : List UInt8) (h : s ∈ l) : s.length ≤ (texts l).length := by
  induction l with
  | nil => cases h
  | cons t r ih =>
    simp only [texts, List.flatMap_cons, List.length_append] at ih ⊢
    rcases List.mem_cons.1 h with rfl | h
    · omega
    · have := ih h; omega

set_option maxHeartbeats 1000000 in
set_option maxRecDepth 100000 in
theorem var_back_law (w : World) (a0 : Option Addr) (n0 c0 : Nat) (lx : List Nat) (h0 : U64s w a0 n0 c0 lx) (hl : ∀ x ∈ lx, Lt64 x) (a1 : Option Addr) (n1 c1 : Nat) (tl : List (List UInt8)) (h1 : Strs w a1 n1 c1 tl) (cu : Nat) (hcu : cu ≤ 65535) (hT : (texts tl).length ≤ 20000000) :
    Calls Try.prog 9 #[.slice a0 n0 c0, .slice a1 n1 c1, .int .u16 (cu : Int)] w fun e w' => e = .returned (.bool true) ∧ Below w.heap.size w w' := by
  obtain ⟨i0, hi, hz0, hz1, hz2⟩ := info_parts info_u8
  have hc0 := h0.2.2.1
  have hn0 := h0.2.1
  have hc1 := h1.2.2.1
  have hn1 := h1.2.1
  unfold maxLen at hc0 hc1
  by_cases hbig : 30 < n0
  · have hb' : decide ((30 : Int) < (n0 : Int)) = true := by simp; omega
    go_enter Try.func9, Try.ntmps9
    go_wp2_with fail
    refine (var_awake_calls _).mono ?_
    rintro e w1 ⟨rfl, hb1⟩
    go_wp2_with fail
    go_ret
    exact ⟨rfl, hb1⟩
  have hb0 : decide ((30 : Int) < (n0 : Int)) = false := by simp; omega
  by_cases hbig2 : 20 < n1
  · have hb' : decide ((20 : Int) < (n1 : Int)) = true := by simp; omega
    go_enter Try.func9, Try.ntmps9
    go_wp2_with fail
    refine (var_awake_calls _).mono ?_
    rintro e w1 ⟨rfl, hb1⟩
    go_wp2_with fail
    go_ret
    exact ⟨rfl, hb1⟩
  have hb2 : decide ((20 : Int) < (n1 : Int)) = false := by simp; omega
  have Hn0 := Lib.hid h0.1
  have Hn1 := Lib.hid h1.1
  have H0 := Lib.hid h0; clear h0
  have H1 := Lib.hid h1; clear h1
  have HL := Lib.hid hl; clear hl
  have HTX : Hid (∀ s ∈ tl, Lt64 s.length) := fun s hs => by have := texts_part tl s hs; unfold Lt64; omega
  generalize hB : w.heap.size = B
  have HB := Lib.hid hB; clear hB
  have HBel : Hid (∀ wx, Below B w wx → Below w.heap.size w wx) := fun wx hx => by rw [HB.out]; exact hx
  have hnl : (VarPlain.nums lx).length ≤ 300 := by have := nums_len lx HL.out; have := Hn0.out; omega
  go_enter Try.func9, Try.ntmps9
  go_wp2_with fail
  refine (var_awake_calls _).mono ?_
  rintro e w1 ⟨rfl, hb1⟩
  rw [HB.out] at hb1
  have hs1 : B ≤ w1.heap.size := by have := hb1.size; rw [HB.out] at this; exact this
  go_wp2_with fail
  refine (var_put_calls w1 a0 n0 c0 lx (H0.out.below stable_u64At (HBel.out _ hb1)) HL.out (by omega)).mono ?_
  rintro e w2 ⟨v2, rfl, hown2, hb2'⟩
  obtain ⟨a2, c2, rfl, _, _, _, _⟩ := ownsRow_slice hown2
  have hb2w := hb1.trans (hb2'.mono hs1)
  have hs2 : B ≤ w2.heap.size := Nat.le_trans hs1 hb2'.size
  have hown2' := ownsRow_mono hown2 hs1
  clear hown2 hb1 hs1 hb2'
  go_wp2_with fail
  refine (var_texts_calls w2 a1 n1 c1 tl (H1.out.below stable_strAt (HBel.out _ hb2w)) (by omega) (by omega)).mono ?_
  rintro e w3 ⟨v3, rfl, hown3, hb3⟩
  obtain ⟨a3, c3, rfl, hrow3⟩ := ownsRow_bytes hown3
  have hb3w := hb2w.trans (hb3.mono hs2)
  have hs3 : B ≤ w3.heap.size := Nat.le_trans hs2 hb3.size
  have hown2'' := ownsRow_below hown2' hb3
  clear hown3 hown2' hb2w hs2 hb3
  go_wp2_with (at_builtin; refine wpList_append_src rfl (.tmp 28) (.tmp 30) 22 22 rfl B 5 i0 (.int .u8 0) 1 1 Try.underlying22 (append_side Try.underlying22) hi hz0 hz1 hz2 rfl (by decide) (by decide) _ (VarPlain.nums lx).length _ rfl hown2'' _ (texts tl).length _ rfl (src_bytes hrow3) ?_ ?_ ?_ ?_)
  case _ => unfold maxLen; omega
  case _ => omega
  case _ => omega
  intro v4 w4 hown4 hg4 _
  have hb4 : Below B w w4 := hb3w.grown hg4 (by omega) (fun j hj => (hown2''.lt j hj).1)
  have hs4 : B ≤ w4.heap.size := Nat.le_trans hs3 hg4.size
  obtain ⟨NB, hNB⟩ : ∃ NB, (VarPlain.nums lx).length + (texts tl).length = NB := ⟨_, rfl⟩
  have hNBb : NB ≤ 20000300 := by omega
  rw [hNB] at hown4
  have hown4' : w4.ownsRow B 5 1 v4 NB ((VarPlain.nums lx ++ texts tl).map bv) := by rw [List.map_append]; exact hown4
  have HNB := Lib.hid hNB; clear hNB
  obtain ⟨a4, c4, rfl, hrow4⟩ := ownsRow_bytes hown4'
  obtain ⟨a4', c4', he4, _, _, ha4, _⟩ := ownsRow_slice hown4'
  have ha4b : ∀ ad, a4 = some ad → ad.block < w4.heap.size := by
    simp at he4
    obtain ⟨rfl, rfl⟩ := he4
    exact fun ad had => (ha4 ad had).2.2.2
  have hc4 := hrow4.2.2.1
  have hn4 := hrow4.2.1
  unfold maxLen at hc4
  clear hown4 hown4' hown2'' hg4 hb3w hs3 hrow3 he4 ha4
  by_cases hbig4 : 4000 < NB
  · have hb' : decide ((4000 : Int) < (NB : Int)) = true := by simp; omega
    go_wp2_with fail
    go_ret
    exact ⟨rfl, hb4⟩
  have hb' : decide ((4000 : Int) < (NB : Int)) = false := by simp; omega
  go_wp2_with fail
  refine (open_calls w4 a4 NB c4 _ hrow4 (by omega)).mono ?_
  rintro e w5 ⟨q, rfl, hq1, hqlt, hrd, hb5⟩
  have hb5w := hb4.trans (hb5.mono hs4)
  have hs5 : B ≤ w5.heap.size := Nat.le_trans hs4 hb5.size
  have hqB : B ≤ q := Nat.le_trans hs4 hq1
  have hrow5 := hrow4.below stable_byteAt hb5
  have HOff : Hid (Off q a4) := fun ad had => by have := ha4b ad had; omega
  have ha5b : ∀ ad, a4 = some ad → ad.block < w5.heap.size := fun ad had => by have := ha4b ad had; have := hb5.size; omega
  have Hrd5 : Hid (Rd w5 q (VarPlain.nums (lx.drop 0) ++ texts tl) 0) := hrd
  clear hrd hb4 hs4 hb5 ha4b ha5b hrow4 hq1
  go_wp2_with fail
  go_loopw [10] (fun i wr => ∃ k : Nat, k ≤ n0 ∧ i = .int .i64 k ∧ Rd wr q (VarPlain.nums (lx.drop k) ++ texts tl) 0 ∧ Bytes wr a4 NB c4 (VarPlain.nums lx ++ texts tl) ∧ Below B w wr ∧ B ≤ wr.heap.size) (fun i _ => n0 - (intOf i).toNat)
  case atStart => exact ⟨0, Nat.zero_le _, rfl, Hrd5.out, hrow5, hb5w, hs5⟩
  case round =>
    obtain ⟨k, hk, rfl, hrd, hbb, hbel, hBs⟩ := hrel
    clear hrow5 hb5w hs5 Hrd5
    by_cases hlt : k < n0
    · have hkl : k < lx.length := by rw [← Hn0.out]; exact hlt
      obtain ⟨b, off, hrow, hidx⟩ := at_u64s H0.out
      have HI : Hid (∀ wx, _) := fun wx => hidx .i64 k wx hlt
      have HC : Hid (∀ wx, wr.grownBy wx (some q) → wx.cell? ⟨b, off + k, none⟩ = some (.int .u64 (lx[k] : Int))) := fun wx hx => cell_below (HBel.out _ (hbel.grown hx hBs (fun j hj => by simp at hj; omega))) (Nat.le_refl _) (hrow k hkl)
      have hx64 := HL.out lx[k] (List.getElem_mem hkl)
      have hnd := nums_drop lx k hkl
      have HB8 : Hid (Bytes wr a4 NB c4 (VarPlain.nums lx ++ texts tl) ∧ Off q a4) := ⟨hbb, HOff.out⟩
      clear hrow hidx hbb
      generalize lx[k]'hkl = x at *
      rw [hnd, List.append_assoc] at hrd
      have HN : Hid (VarPlain.next (VarPlain.num x ++ (VarPlain.nums (lx.drop (k + 1)) ++ texts tl)) 0 = (x, VarPlain.nums (lx.drop (k + 1)) ++ texts tl, 0)) := next_num x hx64 _
      clear hnd
      generalize hRest : VarPlain.nums (lx.drop (k + 1)) ++ texts tl = rest at *
      have HRest := Lib.hid hRest; clear hRest
      generalize VarPlain.num x ++ rest = full at *
      have HS0 : Hid (BackS q full rest (fun _ => false) wr) := by show BackS q full rest (fun _ => false) wr; unfold BackS; rw [if_neg (by simp)]; exact hrd
      clear hrd
      go_wp2_with fail
      refine Rs.wp_region_rgs [] [Rg.Is (.pointer (some ⟨q, 0, none⟩)), Rg.Is (.int .u64 (x : Int)), Rg.Is (.slice a0 n0 c0), Rg.Is (.int .i64 (k : Int)), Rg.Is (.pointer (some ⟨b, off + k, none⟩)), Rg.Is (.int .u64 (x : Int)), Rg.Is (.bool false)] (fun u v => u.grownBy v (some q)) (BackS q full rest) [1] (by kernel_rfl) (by kernel_rfl) (by kernel_rfl) (by kernel_rfl) (fun u => World.grownBy.refl _ _) (fun u v x h1 h2 => grownBy_trans h1 h2) (fun u v _ h => grownBy_of h _) (HS0.out) (backS_dep q full rest) (fun k u v _ h1 h2 => backS_below h1 h2) ⟨Rs.st_is _, Rs.st_is _, Rs.st_is _, Rs.st_is _, Rs.st_is _, Rs.st_is _, Rs.st_is _, trivial⟩ ⟨rfl, rfl, rfl, rfl, rfl, rfl, rfl, trivial⟩ ⟨?_, ?_, ?_, ?_, ?_, ?_, ?_, trivial⟩ ?_
      · intro _ a wx lz hR hS hself hup hdn hk
        have h9 : a.eval (.tmp 9) = .pointer (some ⟨q, 0, none⟩) := Eq.mp (by kernel_rfl) (hk 9 (by decide))
        have l1 : lz 1 = false := hdn [] 1 _ rfl (by kernel_rfl)
        refine Rs.owes_quiet (by decide) ?_
        exact Rg.does_move ⟨Below.refl _ _, h9⟩
      · intro _ a wx lz hR hS hself hup hdn hk
        have h43 : a.eval (.tmp 43) = .pointer (some ⟨q, 0, none⟩) := Eq.mp (by kernel_rfl) (hk 43 (by decide))
        refine Rs.owes_write (by decide) ?_
        have hS' : Rd wx q full 0 := by have := hS; unfold BackS at this; rw [if_neg (by rw [hself]; simp)] at this; exact this
        refine Rg.does_func #[.pointer (some ⟨q, 0, none⟩)] Try.func33 (by kernel_rfl) (by kernel_rfl) (by simp [h43]) (rd_num_calls wx q _ _ hS') ?_
        rintro e w' ⟨rfl, hrd', hg'⟩
        rw [HN.out] at hrd'
        refine ⟨_, rfl, hg', by show _ = _; rw [HN.out], ?_⟩
        unfold BackS
        rw [if_pos (by simp [Rs.upd])]
        exact hrd'
      · intro _ a wx lz hR hS hself hup hdn hk
        have h0 : a.eval (.tmp 0) = .slice a0 n0 c0 := Eq.mp (by kernel_rfl) (hk 0 (by decide))
        refine Rs.owes_quiet (by decide) ?_
        exact Rg.does_move ⟨Below.refl _ _, h0⟩
      · intro _ a wx lz hR hS hself hup hdn hk
        have h10 : a.eval (.tmp 10) = .int .i64 (k : Int) := Eq.mp (by kernel_rfl) (hk 10 (by decide))
        refine Rs.owes_quiet (by decide) ?_
        exact Rg.does_move ⟨Below.refl _ _, h10⟩
      · intro _ a wx lz hR hS hself hup hdn hk
        have h45 : a.eval (.tmp 45) = .slice a0 n0 c0 := Eq.mp (by kernel_rfl) (hk 45 (by decide))
        have h46 : a.eval (.tmp 46) = .int .i64 (k : Int) := Eq.mp (by kernel_rfl) (hk 46 (by decide))
        refine Rs.owes_quiet (by decide) ?_
        exact Rg.does_index _ _ _ h45 h46 (HI.out wx) ⟨Below.refl _ _, rfl⟩
      · intro _ a wx lz hR hS hself hup hdn hk
        have h47 : a.eval (.tmp 47) = .pointer (some ⟨b, off + k, none⟩) := Eq.mp (by kernel_rfl) (hk 47 (by decide))
        refine Rs.owes_quiet (by decide) ?_
        exact Rg.does_load _ _ h47 (load_u64 (HC.out wx hR)) ⟨Below.refl _ _, rfl⟩
      · intro _ a wx lz hR hS hself hup hdn hk
        have h44 : a.eval (.tmp 44) = .int .u64 (x : Int) := Eq.mp (by kernel_rfl) (hk 44 (by decide))
        have h48 : a.eval (.tmp 48) = .int .u64 (x : Int) := Eq.mp (by kernel_rfl) (hk 48 (by decide))
        have l1 : lz 1 = true := hup [] 1 (by kernel_rfl)
        refine Rs.owes_quiet (by decide) ?_
        exact Rg.does_bin .u64 _ _ _ h44 h48 Rs.run_neq0 ⟨Below.refl _ _, rfl⟩
      intro vals wD lsD hRD hSD hlsD hL
      obtain ⟨g0, g1, g2, g3, g4, g5, g6, _⟩ := hL
      have hrdD : Rd wD q rest 0 := by have := hSD; unfold BackS at this; rw [if_pos (hlsD 1 (by decide))] at this; exact this
      have hbbD := bytes_off HB8.out.1 HB8.out.2 hRD
      have hbelD : Below B w wD := hbel.grown hRD hBs (fun j hj => by simp at hj; omega)
      have hBsD : B ≤ wD.heap.size := Nat.le_trans hBs hRD.size
      have hres : vals 6 = .bool false := g6
      clear g0 g1 g2 g3 g4 g5 g6 hRD hSD hlsD hbel hBs
      simp only [Rg.putAll, List.setIfInBounds_toArray, List.set_cons_succ, List.set_cons_zero]
      go_wp2_with fail
      go_roundw
      case rel => exact ⟨k + 1, by omega, by go_num, by rw [HRest.out]; exact hrdD, hbbD, hbelD, hBsD⟩
      case measure => simp [intOf]; omega
    · obtain rfl : n0 = k := by omega
      have ht : lx.drop n0 = [] := List.drop_eq_nil_of_le (by rw [← Hn0.out]; exact Nat.le_refl _)
      have Hrd6 : Hid (Rd wr q (texts (tl.drop 0)) 0) := by
        rw [ht] at hrd
        exact hrd
      clear ht hrd
      go_wp2_with fail
      go_loopw [11] (fun i wr => ∃ k : Nat, k ≤ n1 ∧ i = .int .i64 k ∧ Rd wr q (texts (tl.drop k)) 0 ∧ Bytes wr a4 NB c4 (VarPlain.nums lx ++ texts tl) ∧ Below B w wr ∧ B ≤ wr.heap.size) (fun i _ => n1 - (intOf i).toNat)
      case atStart => exact ⟨0, Nat.zero_le _, rfl, Hrd6.out, hbb, hbel, hBs⟩
      case round =>
        clear Hrd6 hbb hbel hBs
        obtain ⟨k, hk, rfl, hrd, hbb, hbel, hBs⟩ := hrel
        by_cases hlt : k < n1
        · have hkl : k < tl.length := by rw [← Hn1.out]; exact hlt
          obtain ⟨b, off, hrow, hidx⟩ := at_strs H1.out
          have HI : Hid (∀ wx, _) := fun wx => hidx .i64 k wx hlt
          have HC : Hid (∀ wx, wr.grownBy wx (some q) → wx.cell? ⟨b, off + k, none⟩ = some (.string (str tl[k]))) := fun wx hx => cell_below (HBel.out _ (hbel.grown hx hBs (fun j hj => by simp at hj; omega))) (Nat.le_refl _) (hrow k hkl)
          have hx64 := HTX.out tl[k] (List.getElem_mem hkl)
          have hnd := texts_drop tl k hkl
          have HB8 : Hid (Bytes wr a4 NB c4 (VarPlain.nums lx ++ texts tl) ∧ Off q a4) := ⟨hbb, HOff.out⟩
          clear hrow hidx hbb
          generalize tl[k]'hkl = x at *
          rw [hnd] at hrd
          have HN : Hid (VarPlain.word (VarPlain.num x.length ++ x ++ texts (tl.drop (k + 1))) 0 = (x, texts (tl.drop (k + 1)), 0)) := word_text x hx64 _
          clear hnd
          generalize hRest : texts (tl.drop (k + 1)) = rest at *
          have HRest := Lib.hid hRest; clear hRest
          generalize VarPlain.num x.length ++ x ++ rest = full at *
          have HS0 : Hid (BackS q full rest (fun _ => false) wr) := by show BackS q full rest (fun _ => false) wr; unfold BackS; rw [if_neg (by simp)]; exact hrd
          clear hrd
          go_wp2_with fail
          refine Rs.wp_region_rgs [] [Rg.Is (.pointer (some ⟨q, 0, none⟩)), Rg.Is (.string (str x)), Rg.Is (.slice a1 n1 c1), Rg.Is (.int .i64 (k : Int)), Rg.Is (.pointer (some ⟨b, off + k, none⟩)), Rg.Is (.string (str x)), Rg.Is (.bool false)] (fun u v => u.grownBy v (some q)) (BackS q full rest) [1] (by kernel_rfl) (by kernel_rfl) (by kernel_rfl) (by kernel_rfl) (fun u => World.grownBy.refl _ _) (fun u v x h1 h2 => grownBy_trans h1 h2) (fun u v _ h => grownBy_of h _) (HS0.out) (backS_dep q full rest) (fun k u v _ h1 h2 => backS_below h1 h2) ⟨Rs.st_is _, Rs.st_is _, Rs.st_is _, Rs.st_is _, Rs.st_is _, Rs.st_is _, Rs.st_is _, trivial⟩ ⟨rfl, rfl, rfl, rfl, rfl, rfl, rfl, trivial⟩ ⟨?_, ?_, ?_, ?_, ?_, ?_, ?_, trivial⟩ ?_
          · intro _ a wx lz hR hS hself hup hdn hk
            have h9 : a.eval (.tmp 9) = .pointer (some ⟨q, 0, none⟩) := Eq.mp (by kernel_rfl) (hk 9 (by decide))
            have l1 : lz 1 = false := hdn [] 1 _ rfl (by kernel_rfl)
            refine Rs.owes_quiet (by decide) ?_
            exact Rg.does_move ⟨Below.refl _ _, h9⟩
          · intro _ a wx lz hR hS hself hup hdn hk
            have h56 : a.eval (.tmp 56) = .pointer (some ⟨q, 0, none⟩) := Eq.mp (by kernel_rfl) (hk 56 (by decide))
            refine Rs.owes_write (by decide) ?_
            have hS' : Rd wx q full 0 := by have := hS; unfold BackS at this; rw [if_neg (by rw [hself]; simp)] at this; exact this
            refine Rg.does_func #[.pointer (some ⟨q, 0, none⟩)] Try.func34 (by kernel_rfl) (by kernel_rfl) (by simp [h56]) (rd_text_calls wx q _ _ hS') ?_
            rintro e w' ⟨rfl, hrd', hg'⟩
            rw [HN.out] at hrd'
            refine ⟨_, rfl, hg', by show _ = _; rw [HN.out], ?_⟩
            unfold BackS
            rw [if_pos (by simp [Rs.upd])]
            exact hrd'
          · intro _ a wx lz hR hS hself hup hdn hk
            have h1 : a.eval (.tmp 1) = .slice a1 n1 c1 := Eq.mp (by kernel_rfl) (hk 1 (by decide))
            refine Rs.owes_quiet (by decide) ?_
            exact Rg.does_move ⟨Below.refl _ _, h1⟩
          · intro _ a wx lz hR hS hself hup hdn hk
            have h11 : a.eval (.tmp 11) = .int .i64 (k : Int) := Eq.mp (by kernel_rfl) (hk 11 (by decide))
            refine Rs.owes_quiet (by decide) ?_
            exact Rg.does_move ⟨Below.refl _ _, h11⟩
          · intro _ a wx lz hR hS hself hup hdn hk
            have h58 : a.eval (.tmp 58) = .slice a1 n1 c1 := Eq.mp (by kernel_rfl) (hk 58 (by decide))
            have h59 : a.eval (.tmp 59) = .int .i64 (k : Int) := Eq.mp (by kernel_rfl) (hk 59 (by decide))
            refine Rs.owes_quiet (by decide) ?_
            exact Rg.does_index _ _ _ h58 h59 (HI.out wx) ⟨Below.refl _ _, rfl⟩
          · intro _ a wx lz hR hS hself hup hdn hk
            have h60 : a.eval (.tmp 60) = .pointer (some ⟨b, off + k, none⟩) := Eq.mp (by kernel_rfl) (hk 60 (by decide))
            refine Rs.owes_quiet (by decide) ?_
            exact Rg.does_load _ _ h60 (load_st (HC.out wx hR)) ⟨Below.refl _ _, rfl⟩
          · intro _ a wx lz hR hS hself hup hdn hk
            have h57 : a.eval (.tmp 57) = .string (str x) := Eq.mp (by kernel_rfl) (hk 57 (by decide))
            have h61 : a.eval (.tmp 61) = .string (str x) := Eq.mp (by kernel_rfl) (hk 61 (by decide))
            have l1 : lz 1 = true := hup [] 1 (by kernel_rfl)
            refine Rs.owes_quiet (by decide) ?_
            exact Rs.does_neq0_string _ h57 h61 ⟨Below.refl _ _, rfl⟩
          intro vals wD lsD hRD hSD hlsD hL
          obtain ⟨g0, g1, g2, g3, g4, g5, g6, _⟩ := hL
          have hrdD : Rd wD q rest 0 := by have := hSD; unfold BackS at this; rw [if_pos (hlsD 1 (by decide))] at this; exact this
          have hbbD := bytes_off HB8.out.1 HB8.out.2 hRD
          have hbelD : Below B w wD := hbel.grown hRD hBs (fun j hj => by simp at hj; omega)
          have hBsD : B ≤ wD.heap.size := Nat.le_trans hBs hRD.size
          have hres : vals 6 = .bool false := g6
          clear g0 g1 g2 g3 g4 g5 g6 hRD hSD hlsD hbel hBs
          simp only [Rg.putAll, List.setIfInBounds_toArray, List.set_cons_succ, List.set_cons_zero]
          go_wp2_with fail
          go_roundw
          case rel => exact ⟨k + 1, by omega, by go_num, by rw [HRest.out]; exact hrdD, hbbD, hbelD, hBsD⟩
          case measure => simp [intOf]; omega
        · obtain rfl : n1 = k := by omega
          have ht : tl.drop n1 = [] := List.drop_eq_nil_of_le (by rw [← Hn1.out]; exact Nat.le_refl _)
          have Hrd7 : Hid (Rd wr q [] 0) := by
            rw [ht] at hrd
            exact hrd
          have He : Hid (endE [] 0 = 0) := rfl
          clear ht hrd
          go_wp2_with fail
          refine (rd_end_calls _ q _ _ Hrd7.out).mono ?_
          rintro r w6 ⟨rfl, rfl⟩
          rw [He.out]
          by_cases hNB0 : NB = 0
          · have hz0 : ((NB : Int) == 0) = true := by rw [beq_iff_eq]; omega
            clear hNB0
            go_wp2_with fail
            go_ret
            exact ⟨rfl, hbel⟩
          have hNBp : 0 < NB := by omega
          have hz0 : ((NB : Int) == 0) = false := by rw [beq_eq_false_iff_ne]; omega
          clear hNB0
          obtain ⟨m, hm, hmlt⟩ : ∃ m : Nat, (cu : Int) % (NB : Int) = (m : Int) ∧ m < NB := by
            have h1 := Int.emod_nonneg (cu : Int) (show (NB : Int) ≠ 0 by omega)
            have h2 := Int.emod_lt_of_pos (cu : Int) (show 0 < (NB : Int) by omega)
            exact ⟨((cu : Int) % (NB : Int)).toNat, by omega, by omega⟩
          obtain ⟨a6, hB6, hS6⟩ := sub_bytes hbb 0 m (Nat.zero_le _) (Nat.le_of_lt hmlt)
          rw [List.drop_zero] at hB6
          have hsl := fun wx => (hS6 wx).2.1 rfl .i64
          simp only [Nat.sub_zero] at hsl hB6
          clear hS6
          have Hopen := Lib.hid (open_calls wr a6 m c4 _ hB6 (by omega))
          have Hcut0 : Hid (Cutt (VarPlain.nums (lx.drop 0) ++ texts tl) ((VarPlain.nums lx ++ texts tl).take m) 0) := .inr ⟨rfl, m, by rw [List.drop_zero, List.length_append, HNB.out]; exact hmlt, rfl⟩
          clear hB6 Hrd7
          go_wp2_with fail
          refine Hopen.out.mono ?_
          rintro r w7 ⟨q2, rfl, hq2, hq2lt, hrd, hb7⟩
          have hb7w := hbel.trans (hb7.mono hBs)
          have hs7 : B ≤ w7.heap.size := Nat.le_trans hBs hb7.size
          have hq2B : B ≤ q2 := Nat.le_trans hBs hq2
          have Hrd7 := Lib.hid hrd
          clear hrd hb7 hbel hBs hbb hq2 hsl hm Hopen
          go_wp2_with fail
          go_loopw [13] (fun i wr => ∃ (k : Nat) (l : List UInt8) (e : Int), k ≤ n0 ∧ i = .int .i64 k ∧ Rd wr q2 l e ∧ Cutt (VarPlain.nums (lx.drop k) ++ texts tl) l e ∧ Below B w wr ∧ B ≤ wr.heap.size) (fun i _ => n0 - (intOf i).toNat)
          case atStart => exact ⟨0, _, _, Nat.zero_le _, rfl, Hrd7.out, Hcut0.out, hb7w, hs7⟩
          case round =>
            clear Hrd7 Hcut0 hb7w hs7
            obtain ⟨k, l, e, hk, rfl, hrd, hcut, hbel, hBs⟩ := hrel
            by_cases hlt : k < n0
            · have hkl : k < lx.length := by rw [← Hn0.out]; exact hlt
              have hx64 := HL.out lx[k] (List.getElem_mem hkl)
              have hnd := nums_drop lx k hkl
              rw [hnd, List.append_assoc] at hcut
              have Hcut := Lib.hid (cutt_num hx64 hcut)
              clear hcut hnd hx64
              have Hpr := Lib.hid (rd_num_calls wr q2 l e hrd)
              clear hrd
              go_wp2_with fail
              refine Hpr.out.mono ?_
              rintro r w8 ⟨rfl, hrd8, hg8⟩
              have hb8 : Below B w w8 := hbel.grown hg8 hBs (fun j hj => by simp at hj; omega)
              have hs8 : B ≤ w8.heap.size := Nat.le_trans hBs hg8.size
              clear hbel hBs hg8
              go_wp2_with fail
              go_roundw
              case rel => exact ⟨k + 1, _, _, by omega, by go_num, hrd8, Hcut.out, hb8, hs8⟩
              case measure => simp [intOf]; omega
            · obtain rfl : n0 = k := by omega
              have ht : lx.drop n0 = [] := List.drop_eq_nil_of_le (by rw [← Hn0.out]; exact Nat.le_refl _)
              have Hcut1 : Hid (Cutt (texts (tl.drop 0)) l e) := by
                rw [ht] at hcut
                exact hcut
              have Hrd8 := Lib.hid hrd
              clear ht hrd hcut
              go_wp2_with fail
              go_loopw [14] (fun i wr => ∃ (k : Nat) (l : List UInt8) (e : Int), k ≤ n1 ∧ i = .int .i64 k ∧ Rd wr q2 l e ∧ Cutt (texts (tl.drop k)) l e ∧ Below B w wr ∧ B ≤ wr.heap.size) (fun i _ => n1 - (intOf i).toNat)
              case atStart => exact ⟨0, _, _, Nat.zero_le _, rfl, Hrd8.out, Hcut1.out, hbel, hBs⟩
              case round =>
                clear Hrd8 Hcut1 hbel hBs l e
                obtain ⟨k, l, e, hk, rfl, hrd, hcut, hbel, hBs⟩ := hrel
                by_cases hlt : k < n1
                · have hkl : k < tl.length := by rw [← Hn1.out]; exact hlt
                  have hx64 := HTX.out tl[k] (List.getElem_mem hkl)
                  have hnd := texts_drop tl k hkl
                  rw [hnd] at hcut
                  have Hcut := Lib.hid (cutt_text hx64 hcut)
                  clear hcut hnd hx64
                  have Hpr := Lib.hid (rd_text_calls wr q2 l e hrd)
                  clear hrd
                  go_wp2_with fail
                  refine Hpr.out.mono ?_
                  rintro r w8 ⟨rfl, hrd8, hg8⟩
                  have hb8 : Below B w w8 := hbel.grown hg8 hBs (fun j hj => by simp at hj; omega)
                  have hs8 : B ≤ w8.heap.size := Nat.le_trans hBs hg8.size
                  clear hbel hBs hg8
                  go_wp2_with fail
                  go_roundw
                  case rel => exact ⟨k + 1, _, _, by omega, by go_num, hrd8, Hcut.out, hb8, hs8⟩
                  case measure => simp [intOf]; omega
                · obtain rfl : n1 = k := by omega
                  have ht : tl.drop n1 = [] := List.drop_eq_nil_of_le (by rw [← Hn1.out]; exact Nat.le_refl _)
                  rw [ht] at hcut
                  have He10 := Lib.hid (cutt_nil hcut)
                  have Hrd9 := Lib.hid hrd
                  clear ht hrd hcut
                  go_wp2_with fail
                  refine (rd_err_calls _ q2 _ _ Hrd9.out).mono ?_
                  rintro r w9 ⟨rfl, rfl⟩
                  rw [He10.out]
                  go_wp2_with fail
                  go_ret
                  exact ⟨rfl, hbel⟩

end Go.Proofs.Ytbbnopikinlcdaa
