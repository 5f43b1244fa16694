/-
  The walk of the statement VarintRows: texts are as their lengths and their bytes; a text longer than what is left is short: true; nothing that was there turns. Conditions: the arguments can be read.
-/
import Derived.Test.YtbbnopikinlcdaaVarAwake
import Derived.Test.YtbbnopikinlcdaaVarPlain2
import Derived.Test.YtbbnopikinlcdaaRegionS
set_option linter.unusedVariables false
namespace Go.Proofs.Ytbbnopikinlcdaa
open Go.RowKit Base Rs

theorem texts_len (l : List (List UInt8)) (h : ∀ s ∈ l, s.length ≤ 300) : (texts l).length ≤ 310 * l.length := by
  induction l with
  | nil => simp [texts]
  | cons s r ih =>
    have h1 := num_len s.length (by have := h s (by simp); unfold Lt64; omega)
    have h2 := ih fun y hy => h y (by simp [hy])
    have h3 := h s (by simp)
    simp only [texts, List.flatMap_cons, List.length_append, List.length_cons] at h2 ⊢
    omega
/-- What the reader holds, ahead of the text that is read, and behind. -/
def RowsS (q N : Nat) (l : List (List UInt8)) (ls : Nat → Bool) (w : World) : Prop := if ls 8 = true then Rd w q (texts l) 10 else Rd w q (VarPlain.num N ++ texts l) 0
theorem rowsS_dep (q N : Nat) (l : List (List UInt8)) : ∀ (ls ls' : Nat → Bool) (w : World), (∀ j ∈ [8], ls j = ls' j) → RowsS q N l ls w → RowsS q N l ls' w := by
  intro ls ls' w h hs
  unfold RowsS at hs ⊢
  rw [← h 8 (by simp)]
  exact hs
theorem rowsS_below {q N : Nat} {l : List (List UInt8)} {ls : Nat → Bool} {w w' : World} (hs : RowsS q N l ls w) (hb : Below w.heap.size w w') : RowsS q N l ls w' := by
  unfold RowsS at hs ⊢
  split
  · rename_i h; rw [if_pos h] at hs; exact hs.below hb
  · rename_i h; rw [if_neg h] at hs; exact hs.below hb
theorem word_short (N : Nat) (hN : Lt64 N) (l : List UInt8) (h : l.length < N) : VarPlain.word (VarPlain.num N ++ l) 0 = ([], l, 10) := by
  unfold VarPlain.word
  rw [next_num N hN]
  simp only []
  rw [if_neg (by simp), if_pos h]

set_option maxHeartbeats 1000000 in
set_option maxRecDepth 100000 in
theorem var_rows_law (w : World) (a0 : Option Addr) (n cap : Nat) (ls : List (List UInt8)) (h0 : Strs w a0 n cap ls) (mo : Nat) (hmo : mo ≤ 65535) :
    Calls Try.prog 11 #[.slice a0 n cap, .int .u16 (mo : Int)] w fun e w' => e = .returned (.bool true) ∧ Below w.heap.size w w' := by
  obtain ⟨i0, hi, hz0, hz1, hz2⟩ := info_parts info_u8
  have hc0 := h0.2.2.1
  have hn0 := h0.2.1
  unfold maxLen at hc0
  by_cases hbig : 20 < n
  · have hb' : decide ((20 : Int) < (n : Int)) = true := by simp; omega
    go_enter Try.func11, Try.ntmps11
    go_wp2_with fail
    refine (var_awake_calls _).mono ?_
    rintro e w1 ⟨rfl, hb1⟩
    go_wp2_with fail
    go_ret
    exact ⟨rfl, hb1⟩
  have hb0 : decide ((20 : Int) < (n : Int)) = false := by simp; omega
  have Hn := Lib.hid h0.1
  obtain ⟨b, off, hrow, hidx⟩ := at_strs h0
  have Hidx := Lib.hid hidx; clear hidx
  have hcl : ∀ wx, Below w.heap.size w wx → ∀ k (hk : k < ls.length), wx.cell? ⟨b, off + k, none⟩ = some (.string (str ls[k])) := fun wx hx k hk => cell_below hx (Nat.le_refl _) (hrow k hk)
  have H0 := Lib.hid h0; clear h0
  generalize hB : w.heap.size = B at *
  have HB := Lib.hid hB; clear hB
  have Hrow := Lib.hid hcl; clear hcl hrow
  have HBel : Hid (∀ wx, Below B w wx → Below w.heap.size w wx) := fun wx hx => by rw [HB.out]; exact hx
  go_enter Try.func11, Try.ntmps11
  go_wp2_with fail
  refine (var_awake_calls _).mono ?_
  rintro e w1 ⟨rfl, hb1⟩
  rw [HB.out] at hb1
  have hs1 : B ≤ w1.heap.size := by have := hb1.size; rw [HB.out] at this; exact this
  go_wp2_with fail
  go_loopw [6, 7] (fun v i wr => ∃ k : Nat, k ≤ n ∧ i = .int .i64 k ∧ wr.ownsRow B 5 1 v (texts (ls.take k)).length ((texts (ls.take k)).map bv) ∧ Below B w wr ∧ B ≤ wr.heap.size ∧ ∀ s ∈ ls.take k, s.length ≤ 300) (fun _ i _ => n - (intOf i).toNat)
  case atStart => exact ⟨0, Nat.zero_le _, rfl, World.ownsRow_nil _ _ _ _, hb1, hs1, by simp⟩
  case round =>
    obtain ⟨k, hk, rfl, hown, hbel, hBs, hall⟩ := hrel
    clear hb1 hs1
    have HA := Lib.hid hall; clear hall
    by_cases hlt : k < n
    · have hkl : k < ls.length := by rw [← Hn.out]; exact hlt
      have hc := Hrow.out wr hbel k hkl
      have hix := Hidx.out .i64 k wr hlt
      have hsn : texts (ls.take (k + 1)) = texts (ls.take k) ++ VarPlain.num ls[k].length ++ ls[k] := by
        rw [List.take_succ_eq_append_getElem hkl, texts_snoc]
      have Hall2 : Hid (ls[k].length ≤ 300 → ∀ s ∈ ls.take (k + 1), s.length ≤ 300) := by
        intro h s hs
        rw [List.take_succ_eq_append_getElem hkl] at hs
        rcases List.mem_append.1 hs with hs | hs
        · exact HA.out s hs
        · rw [List.mem_singleton.1 hs]; exact h
      have hpl := texts_len (ls.take k) HA.out
      have hll : (ls.take k).length ≤ k := List.length_take_le _ _
      have Hsn := Lib.hid hsn; clear hsn
      have Hck : Hid (∀ wx, Below B w wx → wx.cell? ⟨b, off + k, none⟩ = some (.string (str ls[k]))) := fun wx hx => Hrow.out wx hx k hkl
      generalize ls[k]'hkl = s at *
      generalize texts (ls.take k) = pre at *
      have hpl2 : pre.length ≤ 10000 := by omega
      clear hpl hll
      have hssz : (str s).size = s.length := rfl
      by_cases hbs : 300 < s.length
      · have hbs' : decide ((300 : Int) < ((str s).size : Int)) = true := by rw [hssz]; simp; omega
        have hbs2 : decide ((300 : Int) < (s.length : Int)) = true := by simp; omega
        go_wp2_with fail
        go_ret
        exact ⟨rfl, hbel⟩
      have hsl : s.length ≤ 300 := by omega
      have hbs' : decide ((300 : Int) < ((str s).size : Int)) = false := by rw [hssz]; simp; omega
      have hbs2 : decide ((300 : Int) < (s.length : Int)) = false := by simp; omega
      have Hall3 := Lib.hid (Hall2.out hsl)
      have hm64 : Lt64 s.length := by unfold Lt64; omega
      obtain ⟨av, cv, rfl, _, _, _, _⟩ := ownsRow_slice hown
      have Hput := Lib.hid (var_put_calls (wr.alloc (.cells #[.int .u64 ((s.length : Nat) : Int)] 39)) (some ⟨wr.heap.size, 0, none⟩) 1 1 [s.length] (u64_one wr s.length 39) (by intro x hx; simp at hx; subst hx; exact hm64) (by decide))
      go_wp2_with fail
      refine Hput.out.mono ?_
      rintro e w1 ⟨v1, rfl, hown1, hb1⟩
      obtain ⟨a1, c1, rfl, hrow1⟩ := ownsRow_bytes hown1
      have hbA := hbel.alloc hBs (.cells #[.int .u64 ((s.length : Nat) : Int)] 39)
      have hownA := ownsRow_below (hown.alloc (.cells #[.int .u64 ((s.length : Nat) : Int)] 39)) hb1
      have hsA : B ≤ (wr.alloc (.cells #[.int .u64 ((s.length : Nat) : Int)] 39)).heap.size := by simp; omega
      have hb1' := hbA.trans (hb1.mono hsA)
      have hs1 : B ≤ w1.heap.size := Nat.le_trans hsA hb1.size
      rw [nums_one] at hrow1
      simp only [nums_one]
      have hnl := num_len s.length hm64
      generalize VarPlain.num s.length = nb at *
      clear hbA hsA hb1 hown1 hown hbel hBs hc hix Hput
      go_wp2_with (at_builtin; refine wpList_append_src rfl (.tmp 28) (.tmp 36) 22 22 rfl B 5 i0 (.int .u8 0) 1 1 Try.underlying22 (append_side Try.underlying22) hi hz0 hz1 hz2 rfl (by decide) (by decide) _ pre.length _ rfl hownA _ nb.length _ rfl (src_bytes hrow1) ?_ ?_ ?_ ?_)
      case _ => unfold maxLen; omega
      case _ => omega
      case _ => omega
      intro v2 w2 hown2 hg2 _
      have hb2 : Below B w w2 := hb1'.grown hg2 (by omega) (fun j hj => (hownA.lt j hj).1)
      have hs2 : B ≤ w2.heap.size := Nat.le_trans hs1 hg2.size
      clear hg2 hownA hb1' hs1 hrow1
      obtain ⟨av2, cv2, rfl, _, _, _, _⟩ := ownsRow_slice hown2
      have Hsrc := Lib.hid (src_string (P := Try.prog) (w := w2) (str s))
      have hc := Hck.out w2 hb2
      have hix := Hidx.out .i64 k w2 hlt
      go_wp2_with (at_builtin; refine wpList_append_src rfl (.tmp 38) (.tmp 42) 22 9 rfl B 5 i0 (.int .u8 0) 1 1 Try.underlying22 append_side_str hi hz0 hz1 hz2 rfl (by decide) (by decide) _ (pre.length + nb.length) _ rfl hown2 _ (str s).size _ rfl Hsrc.out ?_ ?_ ?_ ?_)
      case _ => unfold maxLen; omega
      case _ => omega
      case _ => omega
      intro v3 w3 hown3 hg3 _
      have hb3 : Below B w w3 := hb2.grown hg3 (by omega) (fun j hj => (hown2.lt j hj).1)
      have hs3 : B ≤ w3.heap.size := Nat.le_trans hs2 hg3.size
      have hown4 : w3.ownsRow B 5 1 v3 (texts (ls.take (k + 1))).length ((texts (ls.take (k + 1))).map bv) := by
        rw [Hsn.out]
        have e : (pre ++ nb ++ s).length = pre.length + nb.length + s.length := by simp [Nat.add_assoc]
        rw [e, List.map_append, List.map_append]
        simpa [hssz, str_data] using hown3
      clear hown3 hg3 hown2 hb2 hs2 Hsrc
      go_wp2_with fail
      go_roundw
      case rel => exact ⟨k + 1, by omega, by go_num, hown4, hb3, hs3, Hall3.out⟩
      case measure => simp [intOf]; omega
    · obtain rfl : k = n := by omega
      have ht : ls.take k = ls := List.take_of_length_le (by rw [← Hn.out]; exact Nat.le_refl _)
      rw [ht] at hown HA
      clear ht
      have hTl := texts_len ls HA.out
      have HTr : Hid (Strs wr a0 k cap ls) := H0.out.below stable_strAt (HBel.out _ hbel)
      obtain ⟨L, hL⟩ : ∃ L, (texts ls).length = L := ⟨_, rfl⟩
      rw [hL] at hown hTl
      have HL := Lib.hid hL; clear hL
      have hLs : L ≤ 6200 := by have := Hn.out; omega
      have HT : Hid ((texts ls).length ≤ 6200) := by rw [HL.out]; exact hLs
      clear hTl
      obtain ⟨aw, cw, rfl, _, hcw, hawb, _⟩ := ownsRow_slice hown
      unfold maxLen at hcw
      have hput := var_put_calls (wr.alloc (.cells #[.int .u64 ((mo + L + 1 : Nat) : Int)] 39)) (some ⟨wr.heap.size, 0, none⟩) 1 1 [mo + L + 1] (u64_one wr (mo + L + 1) 39) (by intro x hx; simp at hx; subst hx; unfold Lt64; omega) (by decide)
      have hbA := hbel.alloc hBs (.cells #[.int .u64 ((mo + L + 1 : Nat) : Int)] 39)
      have hownA := hown.alloc (.cells #[.int .u64 ((mo + L + 1 : Nat) : Int)] 39)
      have hsA : B ≤ (wr.alloc (.cells #[.int .u64 ((mo + L + 1 : Nat) : Int)] 39)).heap.size := by simp; omega
      rw [nums_one] at hput
      have hnl := num_len (mo + L + 1) (by unfold Lt64; omega)
      obtain ⟨N, hN⟩ : ∃ N, mo + L + 1 = N := ⟨_, rfl⟩
      have hcast : ((mo + L + 1 : Nat) : Int) = (mo : Int) + (L : Int) + 1 := by omega
      rw [hcast] at hput hbA hownA hsA
      rw [hN] at hput hnl
      have HN := Lib.hid hN; clear hN hcast
      have Hput := Lib.hid hput; clear hput
      have hnb : Lt64 N := by have := HN.out; unfold Lt64; omega
      have HWD : Hid (VarPlain.word (VarPlain.num N ++ texts ls) 0 = ([], texts ls, 10)) := word_short N hnb (texts ls) (by rw [HL.out, ← HN.out]; omega)
      clear hown hbel hBs
      go_wp2_with fail
      refine Hput.out.mono ?_
      rintro e w2 ⟨v2, rfl, hown2, hb2⟩
      have hownW := ownsRow_below hownA hb2
      have Hgrow : Hid (wr.heap.size ≤ w2.heap.size) := by have := hb2.size; simp at this; show _ ≤ _; omega
      have hb2' := hbA.trans (hb2.mono hsA)
      have hs2 : B ≤ w2.heap.size := Nat.le_trans hsA hb2.size
      have hown2' := ownsRow_mono hown2 hsA
      have hrowW : Bytes w2 aw L cw (texts ls) := by
        obtain ⟨a', c', he, hr⟩ := ownsRow_bytes hownW
        simp at he
        obtain ⟨rfl, rfl⟩ := he
        exact hr
      obtain ⟨a2, c2, rfl, _, _, _, _⟩ := ownsRow_slice hown2'
      clear hbA hownA hsA hb2 Hput
      go_wp2_with (at_builtin; refine wpList_append_src rfl (.tmp 53) (.tmp 54) 22 22 rfl B 5 i0 (.int .u8 0) 1 1 Try.underlying22 (append_side Try.underlying22) hi hz0 hz1 hz2 rfl (by decide) (by decide) _ (VarPlain.num N).length _ rfl hown2' _ L _ rfl (src_bytes hrowW) ?_ ?_ ?_ ?_)
      case _ => unfold maxLen; omega
      case _ => omega
      case _ => omega
      intro v3 w3 hown3 hg3 _
      have hb3 : Below B w w3 := hb2'.grown hg3 (by omega) (fun j hj => (hown2'.lt j hj).1)
      have hs3 : B ≤ w3.heap.size := Nat.le_trans hs2 hg3.size
      have hrowW3 : Bytes w3 aw L cw (texts ls) := bytes_grown (K := wr.heap.size) hrowW (fun ad had => (hawb ad had).2.2.2) (fun j hj => by have := (hown2.lt j hj).1; simp at this; omega) hg3
      have hawq : ∀ ad, aw = some ad → ad.block < w3.heap.size := fun ad had => by
        have h1 := (hawb ad had).2.2.2
        have h2 := hg3.size
        have h3 := Hgrow.out
        omega
      obtain ⟨a3, c3, rfl, hrow3⟩ : ∃ a c, v3 = .slice a ((VarPlain.num N).length + L) c ∧ Bytes w3 a ((VarPlain.num N).length + L) c (VarPlain.num N ++ texts ls) := by
        refine ownsRow_bytes (l := VarPlain.num N ++ texts ls) (e := 5) (base := B) ?_
        rw [List.map_append]; exact hown3
      have Hopen := Lib.hid (open_calls w3 a3 _ c3 _ hrow3 (by omega))
      clear hown3 hown2 hown2' hg3 hb2' hs2 hrow3 hrowW hownW
      go_wp2_with fail
      refine Hopen.out.mono ?_
      rintro e w4 ⟨q, rfl, hq1, hqlt, hrd, hb4⟩
      have hb4' := hb3.trans (hb4.mono hs3)
      have hqB : B ≤ q := Nat.le_trans hs3 hq1
      have hs4 : B ≤ w4.heap.size := Nat.le_trans hs3 hb4.size
      have HW : Hid (Bytes w4 aw L cw (texts ls) ∧ Off q aw) := ⟨hrowW3.below stable_byteAt hb4, fun ad had => by have := hawq ad had; omega⟩
      have HRD0 : Hid (RowsS q N ls (fun _ => false) w4) := by show RowsS q N ls (fun _ => false) w4; unfold RowsS; rw [if_neg (by simp)]; exact hrd
      have HR : Hid (∀ wx, w4.grownBy wx (some q) → Below w.heap.size w wx) := fun wx hx => HBel.out _ (hb4'.grown hx hs4 (fun j hj => by simp at hj; omega))
      clear hrd hb4 hb4' hrowW3 hawq hawb hb3 Hopen
      go_wp2_with fail
      refine Rs.wp_region_rgs [] [Rg.Is (.slice a0 k cap), (fun v w => ∃ a c, v = .slice a (texts ls).length c ∧ Bytes w a (texts ls).length c (texts ls) ∧ Off q a), Rg.Is (.string (str (texts ls))), Rg.Is (.slice aw L cw), Rg.Is (.string (str (texts ls))), Rg.Is (.bool true), Rg.Is (.bool true), Rg.Is (.pointer (some ⟨q, 0, none⟩)), Rg.Is (.string ⟨#[]⟩), Rg.Is (.bool true), Rg.Is (.bool true), Rg.Is (.bool true), Rg.Is (.pointer (some ⟨q, 0, none⟩)), Rg.Is (.int .i64 10), Rg.Is (.bool true), Rg.Is (.bool true), Rg.Is (.bool true), Rg.Is (.pointer (some ⟨q, 0, none⟩)), Rg.Is (.int .i64 (L : Int)), Rg.Is (.slice aw L cw), Rg.Is (.int .i64 (L : Int)), Rg.Is (.bool true), Rg.Is (.bool true), Rg.Is (.bool true)] (fun u v => u.grownBy v (some q)) (RowsS q N ls) [8] (by kernel_rfl) (by kernel_rfl) (by kernel_rfl) (by kernel_rfl) (fun u => World.grownBy.refl _ _) (fun u v x h1 h2 => grownBy_trans h1 h2) (fun u v _ h => grownBy_of h _) (HRD0.out) (rowsS_dep q N ls) (fun k u v _ h1 h2 => rowsS_below h1 h2) ⟨Rs.st_is _, fun v w w' h hb => by obtain ⟨a, c, hv, hr, ho⟩ := h; exact ⟨a, c, hv, bytes_off hr ho hb, ho⟩, Rs.st_is _, Rs.st_is _, Rs.st_is _, Rs.st_is _, Rs.st_is _, Rs.st_is _, Rs.st_is _, Rs.st_is _, Rs.st_is _, Rs.st_is _, Rs.st_is _, Rs.st_is _, Rs.st_is _, Rs.st_is _, Rs.st_is _, Rs.st_is _, Rs.st_is _, Rs.st_is _, Rs.st_is _, Rs.st_is _, Rs.st_is _, Rs.st_is _, trivial⟩ ⟨rfl, rfl, rfl, rfl, rfl, rfl, rfl, ⟨rfl, fun _ _ h => h⟩, ⟨rfl, fun _ _ h => h⟩, ⟨rfl, fun _ _ h => h⟩, rfl, rfl, ⟨rfl, fun _ _ h => h⟩, ⟨rfl, fun _ _ h => h⟩, ⟨rfl, fun _ _ h => h⟩, rfl, rfl, ⟨rfl, fun _ _ h => h⟩, ⟨rfl, fun _ _ h => h⟩, ⟨rfl, fun _ _ h => h⟩, ⟨rfl, fun _ _ h => h⟩, ⟨rfl, fun _ _ h => h⟩, rfl, rfl, trivial⟩ ⟨?_, ?_, ?_, ?_, ?_, ?_, ?_, ?_, ?_, ?_, ?_, ?_, ?_, ?_, ?_, ?_, ?_, ?_, ?_, ?_, ?_, ?_, ?_, ?_, trivial⟩ ?_
      · intro _ a wx lz hR hS hself hup hdn hk
        have h0 : a.eval (.tmp 0) = .slice a0 k cap := Eq.mp (by kernel_rfl) (hk 0 (by decide))
        have l8 : lz 8 = false := hdn [6, 1] 8 _ rfl (by kernel_rfl)
        refine Rs.owes_quiet (by decide) ?_
        exact Rg.does_move ⟨Below.refl _ _, h0⟩
      · intro _ a wx lz hR hS hself hup hdn hk
        have h58 : a.eval (.tmp 58) = .slice a0 k cap := Eq.mp (by kernel_rfl) (hk 58 (by decide))
        have l8 : lz 8 = false := hdn [6] 8 _ rfl (by kernel_rfl)
        refine Rs.owes_quiet (by decide) ?_
        refine Rg.does_func #[.slice a0 k cap] Try.func31 (by kernel_rfl) (by kernel_rfl) (by simp [h58]) (var_texts_calls wx a0 k cap ls (H0.out.below stable_strAt (HR.out wx hR)) (by omega) (by have := HT.out; omega)) ?_
        rintro e w' ⟨v, rfl, ho, hb'⟩
        obtain ⟨a2, c2, hv2, hr2, ho2⟩ := ownsRow_bytes_off ho (Nat.lt_of_lt_of_le hqlt hR.size)
        exact ⟨_, rfl, hb', a2, c2, hv2, hr2, ho2⟩
      · intro _ a wx lz hR hS hself hup hdn hk
        have h59 : (fun v w => ∃ a c, v = .slice a (texts ls).length c ∧ Bytes w a (texts ls).length c (texts ls) ∧ Off q a) (a.eval (.tmp 59)) wx := Eq.mp (by kernel_rfl) (hk 59 (by decide))
        have l8 : lz 8 = false := hdn [6, 5] 8 _ rfl (by kernel_rfl)
        refine Rs.owes_quiet (by decide) ?_
        obtain ⟨a', c', hv, hr, ho⟩ := h59
        exact Rg.does_convert _ _ hv (str_bytes hr) ⟨Below.refl _ _, rfl⟩
      · intro _ a wx lz hR hS hself hup hdn hk
        have h6 : a.eval (.tmp 6) = .slice aw L cw := Eq.mp (by kernel_rfl) (hk 6 (by decide))
        have l8 : lz 8 = false := hdn [6, 5, 4] 8 _ rfl (by kernel_rfl)
        refine Rs.owes_quiet (by decide) ?_
        exact Rg.does_move ⟨Below.refl _ _, h6⟩
      · intro _ a wx lz hR hS hself hup hdn hk
        have h61 : a.eval (.tmp 61) = .slice aw L cw := Eq.mp (by kernel_rfl) (hk 61 (by decide))
        have l8 : lz 8 = false := hdn [6, 5] 8 _ rfl (by kernel_rfl)
        refine Rs.owes_quiet (by decide) ?_
        exact Rg.does_convert _ _ h61 (str_bytes (bytes_off HW.out.1 HW.out.2 hR)) ⟨Below.refl _ _, rfl⟩
      · intro _ a wx lz hR hS hself hup hdn hk
        have h60 : a.eval (.tmp 60) = .string (str (texts ls)) := Eq.mp (by kernel_rfl) (hk 60 (by decide))
        have h62 : a.eval (.tmp 62) = .string (str (texts ls)) := Eq.mp (by kernel_rfl) (hk 62 (by decide))
        have l8 : lz 8 = false := hdn [6] 8 _ rfl (by kernel_rfl)
        refine Rs.owes_quiet (by decide) ?_
        exact Rg.does_same_string _ h60 h62 ⟨Below.refl _ _, rfl⟩
      · intro _ a wx lz hR hS hself hup hdn hk
        have h63 : a.eval (.tmp 63) = .bool true := Eq.mp (by kernel_rfl) (hk 63 (by decide))
        have l8 : lz 8 = false := hdn [] 8 _ rfl (by kernel_rfl)
        refine Rs.owes_quiet (by decide) ?_
        exact Rg.does_move ⟨Below.refl _ _, h63⟩
      · intro _ a wx lz hR hS hself hup hdn hk
        have h9 : a.eval (.tmp 9) = .pointer (some ⟨q, 0, none⟩) := Eq.mp (by kernel_rfl) (hk 9 (by decide))
        have l8 : lz 8 = false := hdn [] 8 _ rfl (by kernel_rfl)
        refine Rs.owes_quiet (by decide) ?_
        exact Rg.does_move ⟨Below.refl _ _, h9⟩
      · intro _ a wx lz hR hS hself hup hdn hk
        have h65 : a.eval (.tmp 65) = .pointer (some ⟨q, 0, none⟩) := Eq.mp (by kernel_rfl) (hk 65 (by decide))
        refine Rs.owes_write (by decide) ?_
        have hS' : Rd wx q (VarPlain.num N ++ texts ls) 0 := by have := hS; unfold RowsS at this; rw [if_neg (by rw [hself]; simp)] at this; exact this
        refine Rg.does_func #[.pointer (some ⟨q, 0, none⟩)] Try.func34 (by kernel_rfl) (by kernel_rfl) (by simp [h65]) (rd_text_calls wx q _ _ hS') ?_
        rintro e w' ⟨rfl, hrd', hg'⟩
        rw [HWD.out] at hrd'
        refine ⟨_, rfl, hg', by show _ = _; rw [HWD.out]; rfl, ?_⟩
        unfold RowsS
        rw [if_pos (by simp [Rs.upd])]
        exact hrd'
      · intro _ a wx lz hR hS hself hup hdn hk
        have h66 : a.eval (.tmp 66) = .string ⟨#[]⟩ := Eq.mp (by kernel_rfl) (hk 66 (by decide))
        have l8 : lz 8 = true := hup [] 8 (by kernel_rfl)
        refine Rs.owes_quiet (by decide) ?_
        exact Rg.does_same_string _ h66 rfl ⟨Below.refl _ _, rfl⟩
      · intro _ a wx lz hR hS hself hup hdn hk
        have h64 : a.eval (.tmp 64) = .bool true := Eq.mp (by kernel_rfl) (hk 64 (by decide))
        have h67 : a.eval (.tmp 67) = .bool true := Eq.mp (by kernel_rfl) (hk 67 (by decide))
        have l8 : lz 8 = true := hup [9] 8 (by kernel_rfl)
        refine Rs.owes_quiet (by decide) ?_
        exact Rg.does_pick true h64 ⟨Below.refl _ _, h67⟩
      · intro _ a wx lz hR hS hself hup hdn hk
        have h68 : a.eval (.tmp 68) = .bool true := Eq.mp (by kernel_rfl) (hk 68 (by decide))
        have l8 : lz 8 = true := hup [] 8 (by kernel_rfl)
        refine Rs.owes_quiet (by decide) ?_
        exact Rg.does_move ⟨Below.refl _ _, h68⟩
      · intro _ a wx lz hR hS hself hup hdn hk
        have h9 : a.eval (.tmp 9) = .pointer (some ⟨q, 0, none⟩) := Eq.mp (by kernel_rfl) (hk 9 (by decide))
        have l8 : lz 8 = true := hup [11] 8 (by kernel_rfl)
        refine Rs.owes_quiet (by decide) ?_
        exact Rg.does_move ⟨Below.refl _ _, h9⟩
      · intro _ a wx lz hR hS hself hup hdn hk
        have h70 : a.eval (.tmp 70) = .pointer (some ⟨q, 0, none⟩) := Eq.mp (by kernel_rfl) (hk 70 (by decide))
        have l8 : lz 8 = true := hup [11] 8 (by kernel_rfl)
        refine Rs.owes_quiet (by decide) ?_
        have hS' : Rd wx q (texts ls) 10 := by have := hS; unfold RowsS at this; rw [if_pos l8] at this; exact this
        refine Rg.does_func #[.pointer (some ⟨q, 0, none⟩)] Try.func36 (by kernel_rfl) (by kernel_rfl) (by simp [h70]) (rd_err_calls wx q _ _ hS') ?_
        rintro e w' ⟨rfl, rfl⟩
        exact ⟨_, rfl, Below.refl _ _, rfl⟩
      · intro _ a wx lz hR hS hself hup hdn hk
        have h71 : a.eval (.tmp 71) = .int .i64 10 := Eq.mp (by kernel_rfl) (hk 71 (by decide))
        have l8 : lz 8 = true := hup [11] 8 (by kernel_rfl)
        refine Rs.owes_quiet (by decide) ?_
        exact Rg.does_same_int .i64 _ h71 rfl ⟨Below.refl _ _, rfl⟩
      · intro _ a wx lz hR hS hself hup hdn hk
        have h69 : a.eval (.tmp 69) = .bool true := Eq.mp (by kernel_rfl) (hk 69 (by decide))
        have h72 : a.eval (.tmp 72) = .bool true := Eq.mp (by kernel_rfl) (hk 72 (by decide))
        have l8 : lz 8 = true := hup [11] 8 (by kernel_rfl)
        refine Rs.owes_quiet (by decide) ?_
        exact Rg.does_pick true h69 ⟨Below.refl _ _, h72⟩
      · intro _ a wx lz hR hS hself hup hdn hk
        have h73 : a.eval (.tmp 73) = .bool true := Eq.mp (by kernel_rfl) (hk 73 (by decide))
        have l8 : lz 8 = true := hup [15, 11] 8 (by kernel_rfl)
        refine Rs.owes_quiet (by decide) ?_
        exact Rg.does_move ⟨Below.refl _ _, h73⟩
      · intro _ a wx lz hR hS hself hup hdn hk
        have h9 : a.eval (.tmp 9) = .pointer (some ⟨q, 0, none⟩) := Eq.mp (by kernel_rfl) (hk 9 (by decide))
        have l8 : lz 8 = true := hup [16, 15, 11] 8 (by kernel_rfl)
        refine Rs.owes_quiet (by decide) ?_
        exact Rg.does_move ⟨Below.refl _ _, h9⟩
      · intro _ a wx lz hR hS hself hup hdn hk
        have h75 : a.eval (.tmp 75) = .pointer (some ⟨q, 0, none⟩) := Eq.mp (by kernel_rfl) (hk 75 (by decide))
        have l8 : lz 8 = true := hup [16, 15, 11] 8 (by kernel_rfl)
        refine Rs.owes_quiet (by decide) ?_
        have hS' : Rd wx q (texts ls) 10 := by have := hS; unfold RowsS at this; rw [if_pos l8] at this; exact this
        refine Rg.does_func #[.pointer (some ⟨q, 0, none⟩)] Try.func37 (by kernel_rfl) (by kernel_rfl) (by simp [h75]) (rd_left_calls wx q _ _ hS') ?_
        rintro e w' ⟨rfl, rfl⟩
        exact ⟨_, rfl, Below.refl _ _, by show _ = _; rw [← HL.out]⟩
      · intro _ a wx lz hR hS hself hup hdn hk
        have h6 : a.eval (.tmp 6) = .slice aw L cw := Eq.mp (by kernel_rfl) (hk 6 (by decide))
        have l8 : lz 8 = true := hup [16, 15, 11] 8 (by kernel_rfl)
        refine Rs.owes_quiet (by decide) ?_
        exact Rg.does_move ⟨Below.refl _ _, h6⟩
      · intro _ a wx lz hR hS hself hup hdn hk
        have h77 : a.eval (.tmp 77) = .slice aw L cw := Eq.mp (by kernel_rfl) (hk 77 (by decide))
        have l8 : lz 8 = true := hup [16, 15, 11] 8 (by kernel_rfl)
        refine Rs.owes_quiet (by decide) ?_
        exact Rg.does_len _ _ _ Try.underlying22 h77 ⟨Below.refl _ _, rfl⟩
      · intro _ a wx lz hR hS hself hup hdn hk
        have h76 : a.eval (.tmp 76) = .int .i64 (L : Int) := Eq.mp (by kernel_rfl) (hk 76 (by decide))
        have h78 : a.eval (.tmp 78) = .int .i64 (L : Int) := Eq.mp (by kernel_rfl) (hk 78 (by decide))
        have l8 : lz 8 = true := hup [16, 15, 11] 8 (by kernel_rfl)
        refine Rs.owes_quiet (by decide) ?_
        exact Rg.does_same_int .i64 _ h76 h78 ⟨Below.refl _ _, rfl⟩
      · intro _ a wx lz hR hS hself hup hdn hk
        have h74 : a.eval (.tmp 74) = .bool true := Eq.mp (by kernel_rfl) (hk 74 (by decide))
        have h79 : a.eval (.tmp 79) = .bool true := Eq.mp (by kernel_rfl) (hk 79 (by decide))
        have l8 : lz 8 = true := hup [16, 15, 11] 8 (by kernel_rfl)
        refine Rs.owes_quiet (by decide) ?_
        exact Rg.does_pick true h74 ⟨Below.refl _ _, h79⟩
      · intro _ a wx lz hR hS hself hup hdn hk
        have h80 : a.eval (.tmp 80) = .bool true := Eq.mp (by kernel_rfl) (hk 80 (by decide))
        have l8 : lz 8 = true := hup [] 8 (by kernel_rfl)
        refine Rs.owes_quiet (by decide) ?_
        exact Rg.does_assign ⟨Below.refl _ _, h80⟩
      intro vals wD lsD hRD hSD hlsD hL
      obtain ⟨g0, g1, g2, g3, g4, g5, g6, g7, g8, g9, g10, g11, g12, g13, g14, g15, g16, g17, g18, g19, g20, g21, g22, g23, _⟩ := hL
      have hres : vals 23 = .bool true := g23
      clear g0 g1 g2 g3 g4 g5 g6 g7 g8 g9 g10 g11 g12 g13 g14 g15 g16 g17 g18 g19 g20 g21 g22 g23
      have hfin := HR.out wD hRD
      simp only [Rg.putAll, List.setIfInBounds_toArray, List.set_cons_succ, List.set_cons_zero]
      go_wp2_with fail
      go_ret
      exact ⟨by rw [← hres]; rfl, by rw [← HB.out]; exact hfin⟩

end Go.Proofs.Ytbbnopikinlcdaa
