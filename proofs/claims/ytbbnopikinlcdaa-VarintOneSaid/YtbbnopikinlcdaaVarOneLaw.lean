/-
  The walk of the statement VarintOne: bytes that are taken are those that their number is put as, and no others: true; nothing that was there turns. Conditions: the arguments can be read.
-/
import Derived.Test.YtbbnopikinlcdaaVarAwake
import Derived.Test.YtbbnopikinlcdaaVarPlain2
import Derived.Test.YtbbnopikinlcdaaRegionS
set_option linter.unusedVariables false
namespace Go.Proofs.Ytbbnopikinlcdaa
open Go.RowKit Base

theorem own_nil1 (w : World) (B : Nat) (e : TypeId) : w.ownsRow B e 1 (.slice none 0 0) 0 (([] : List UInt8).map bv) := World.ownsRow_nil _ _ _ _

set_option maxHeartbeats 1000000 in
set_option maxRecDepth 100000 in
theorem var_one_law (w : World) (a0 : Option Addr) (n0 c0 : Nat) (lb : List UInt8) (h0 : Bytes w a0 n0 c0 lb) (a1 : Option Addr) (n1 c1 : Nat) (lm : List UInt8) (h1 : Bytes w a1 n1 c1 lm) :
    Calls Try.prog 10 #[.slice a0 n0 c0, .slice a1 n1 c1] w fun e w' => e = .returned (.bool true) ∧ Below w.heap.size w w' := by
  obtain ⟨i0, hi, hz0, hz1, hz2⟩ := info_parts info_u8
  have hc0 := h0.2.2.1
  have hn0 := h0.2.1
  have hc1 := h1.2.2.1
  have hn1 := h1.2.1
  unfold maxLen at hc0 hc1
  by_cases hbig : 100 < n0
  · have hb' : decide ((100 : Int) < (n0 : Int)) = true := by simp; omega
    go_enter Try.func10, Try.ntmps10
    go_wp2_with fail
    refine (var_awake_calls _).mono ?_
    rintro e w1 ⟨rfl, hb1⟩
    go_wp2_with fail
    go_ret
    exact ⟨rfl, hb1⟩
  have hb0 : decide ((100 : Int) < (n0 : Int)) = false := by simp; omega
  by_cases hbig2 : 100 < n1
  · have hb' : decide ((100 : Int) < (n1 : Int)) = true := by simp; omega
    go_enter Try.func10, Try.ntmps10
    go_wp2_with fail
    refine (var_awake_calls _).mono ?_
    rintro e w1 ⟨rfl, hb1⟩
    go_wp2_with fail
    go_ret
    exact ⟨rfl, hb1⟩
  have hb2 : decide ((100 : Int) < (n1 : Int)) = false := by simp; omega
  have hl0 : n0 = lb.length := h0.1
  have hbad := @take_bad lb
  have hok := @take_ok lb
  have hlt := VarPlain.take_lt lb
  have hle := VarPlain.take_le lb
  have htake := fun w' (h : Bytes w' a0 n0 c0 lb) => var_take_calls w' a0 n0 c0 lb h
  generalize VarPlain.take lb = t at *
  obtain ⟨x, m, f⟩ := t
  have Htake := Lib.hid htake; clear htake
  have HBAD := Lib.hid hbad; clear hbad
  have HOK := Lib.hid hok; clear hok
  have Hl0 := Lib.hid hl0; clear hl0
  have H0 := Lib.hid h0; clear h0
  have H1 := Lib.hid h1; clear h1
  have hx64 : Lt64 x := hlt
  have hm0 : m ≤ lb.length := hle
  clear hlt hle
  by_cases hf : f = 0
  · subst hf
    obtain ⟨hnum, hm1, hm10⟩ := HOK.out rfl
    simp only [] at hnum hm1 hm10
    have HP : Hid ((lb.take m).drop 0 = VarPlain.num x) := by show _ = _; rw [List.drop_zero, hnum]
    have HL : Hid ((VarPlain.num x).length = m) := by show _ = _; rw [hnum, List.length_take]; omega
    have HT : Hid (VarPlain.take (VarPlain.num x ++ lm) = (x, m, 0)) := by show _ = _; rw [take_num x hx64 lm, HL.out]
    clear hnum
    have hmn : m ≤ n0 := by rw [Hl0.out]; exact hm0
    clear hm0
    generalize hB : w.heap.size = B
    have HB := Lib.hid hB; clear hB
    have HBel : Hid (∀ wx, Below B w wx → Below w.heap.size w wx) := fun wx hx => by rw [HB.out]; exact hx
    go_enter Try.func10, Try.ntmps10
    go_wp2_with fail
    refine (var_awake_calls _).mono ?_
    rintro e w1 ⟨rfl, hb1⟩
    rw [HB.out] at hb1
    have hs1 : B ≤ w1.heap.size := by have := hb1.size; rw [HB.out] at this; exact this
    obtain ⟨a3, hB3w, hS3⟩ := sub_bytes H0.out 0 m (Nat.zero_le _) hmn
    rw [HP.out] at hB3w
    have HB3w := Lib.hid hB3w; clear hB3w
    have hB3 := HB3w.out.below stable_byteAt (HBel.out _ hb1)
    have hsl : ∀ wx, _ := fun wx => (hS3 wx).2.1 rfl .i64
    have HS3 := Lib.hid hS3; clear hS3
    simp only [Nat.sub_zero] at hsl
    go_wp2_with fail
    refine (Htake.out _ (H0.out.below stable_byteAt (HBel.out _ hb1))).mono ?_
    rintro e w2 ⟨rfl, rfl⟩
    unfold takeV
    go_wp2_with (at_builtin; refine wpList_append_src rfl (.tmp 38) (.tmp 41) 22 22 rfl B 5 i0 (.int .u8 0) 1 1 Try.underlying22 (append_side Try.underlying22) hi hz0 hz1 hz2 rfl (by decide) (by decide) _ 0 _ rfl (own_nil1 w1 _ _) _ m _ rfl (src_bytes hB3) ?_ ?_ ?_ ?_)
    case _ => unfold maxLen; omega
    case _ => omega
    case _ => omega
    intro v2 w2 hown2 hg2 _
    have hb2' : Below B w w2 := hb1.grown hg2 (by omega) (fun j hj => by simp [Value.ownBlock] at hj)
    have hs2 : B ≤ w2.heap.size := Nat.le_trans hs1 hg2.size
    clear hg2 hb1 hs1 hB3 hsl
    obtain ⟨av2, cv2, rfl, _, _, _, _⟩ := ownsRow_slice hown2
    go_wp2_with (at_builtin; refine wpList_append_src rfl (.tmp 43) (.tmp 44) 22 22 rfl B 5 i0 (.int .u8 0) 1 1 Try.underlying22 (append_side Try.underlying22) hi hz0 hz1 hz2 rfl (by decide) (by decide) _ _ _ rfl hown2 _ n1 _ rfl (src_bytes (H1.out.below stable_byteAt (HBel.out _ hb2'))) ?_ ?_ ?_ ?_)
    case _ => unfold maxLen; omega
    case _ => omega
    case _ => omega
    intro v3 w3 hown3 hg3 _
    have hb3 : Below B w w3 := hb2'.grown hg3 (by omega) (fun j hj => (hown2.lt j hj).1)
    have hs3 : B ≤ w3.heap.size := Nat.le_trans hs2 hg3.size
    have HB3 := Lib.hid (HB3w.out.below stable_byteAt (HBel.out _ hb3))
    obtain ⟨av3, cv3, rfl, hrow3⟩ : ∃ a c, v3 = .slice a (m + n1) c ∧ Bytes w3 a (m + n1) c (VarPlain.num x ++ lm) := by
      refine ownsRow_bytes (l := VarPlain.num x ++ lm) (e := 5) (base := B) ?_
      rw [List.map_append]; simpa using hown3
    have Htk := Lib.hid (var_take_calls w3 av3 _ cv3 _ hrow3)
    rw [HT.out] at Htk
    clear hown3 hown2 hg3 hb2' hs2 hrow3
    go_wp2_with fail
    refine Htk.out.mono ?_
    rintro e w4 ⟨rfl, rfl⟩
    unfold takeV
    go_wp2_with fail
    refine Rg.wp_region_rgl [] [Rg.Is (.int .i64 (m : Int)), Rg.Is (.bool true), Rg.Is (.bool true), Rg.Is (.int .i64 (m : Int)), Rg.Is (.bool true), Rg.Is (.bool true), Rg.Is (.bool true), Rg.Is (.int .u64 (x : Int)), (fun v w => ∃ a c, v = .slice a 1 c ∧ U64s w a 1 c [x]), (fun v w => ∃ a c, v = .slice a (VarPlain.num x).length c ∧ Bytes w a (VarPlain.num x).length c (VarPlain.num x)), Rg.Is (.string (str (VarPlain.num x))), Rg.Is (.slice a0 n0 c0), Rg.Is (.int .i64 (m : Int)), Rg.Is (.slice a3 (m - 0) (c0 - 0)), Rg.Is (.string (str (VarPlain.num x))), Rg.Is (.bool true), Rg.Is (.bool true), Rg.Is (.bool true), Rg.Is (.int .u64 (x : Int)), Rg.Is (.int .u64 (x : Int)), Rg.Is (.bool true), Rg.Is (.bool true), Rg.Is (.bool true), Rg.Is (.int .i64 (m : Int)), Rg.Is (.int .i64 (m : Int)), Rg.Is (.bool true), Rg.Is (.bool true), Rg.Is (.bool true), Rg.Is (.int .i64 0), Rg.Is (.bool true), Rg.Is (.bool true), Rg.Is (.bool true)] (by kernel_rfl) (by kernel_rfl) (by kernel_rfl) ⟨Rg.st_is _, Rg.st_is _, Rg.st_is _, Rg.st_is _, Rg.st_is _, Rg.st_is _, Rg.st_is _, Rg.st_is _, fun v w w' h hb => by obtain ⟨a, c, hv, hr⟩ := h; exact ⟨a, c, hv, hr.below stable_u64At hb⟩, fun v w w' h hb => by obtain ⟨a, c, hv, hr⟩ := h; exact ⟨a, c, hv, hr.below stable_byteAt hb⟩, Rg.st_is _, Rg.st_is _, Rg.st_is _, Rg.st_is _, Rg.st_is _, Rg.st_is _, Rg.st_is _, Rg.st_is _, Rg.st_is _, Rg.st_is _, Rg.st_is _, Rg.st_is _, Rg.st_is _, Rg.st_is _, Rg.st_is _, Rg.st_is _, Rg.st_is _, Rg.st_is _, Rg.st_is _, Rg.st_is _, Rg.st_is _, Rg.st_is _, trivial⟩ ⟨rfl, rfl, rfl, ⟨rfl, fun _ _ h => h⟩, ⟨rfl, fun _ _ h => h⟩, rfl, rfl, ⟨rfl, fun _ _ h => h⟩, ⟨rfl, fun _ _ h => h⟩, ⟨rfl, fun _ _ h => h⟩, ⟨rfl, fun _ _ h => h⟩, ⟨rfl, fun _ _ h => h⟩, ⟨rfl, fun _ _ h => h⟩, ⟨rfl, fun _ _ h => h⟩, ⟨rfl, fun _ _ h => h⟩, ⟨rfl, fun _ _ h => h⟩, rfl, rfl, ⟨rfl, fun _ _ h => h⟩, ⟨rfl, fun _ _ h => h⟩, ⟨rfl, fun _ _ h => h⟩, rfl, rfl, ⟨rfl, fun _ _ h => h⟩, ⟨rfl, fun _ _ h => h⟩, ⟨rfl, fun _ _ h => h⟩, rfl, rfl, ⟨rfl, fun _ _ h => h⟩, ⟨rfl, fun _ _ h => h⟩, rfl, rfl, trivial⟩ ⟨?_, ?_, ?_, ?_, ?_, ?_, ?_, ?_, ?_, ?_, ?_, ?_, ?_, ?_, ?_, ?_, ?_, ?_, ?_, ?_, ?_, ?_, ?_, ?_, ?_, ?_, ?_, ?_, ?_, ?_, ?_, ?_, trivial⟩ ?_
    · intro _ a wx hb hk
      have h7 : a.eval (.tmp 7) = .int .i64 (m : Int) := Eq.mp (by kernel_rfl) (hk 7 (by decide))
      exact Rg.does_move ⟨Below.refl _ _, h7⟩
    · intro _ a wx hb hk
      have h52 : a.eval (.tmp 52) = .int .i64 (m : Int) := Eq.mp (by kernel_rfl) (hk 52 (by decide))
      exact Rg.does_bin .i64 _ _ _ h52 rfl (Rs.run_geq (by omega)) ⟨Below.refl _ _, rfl⟩
    · intro _ a wx hb hk
      have h53 : a.eval (.tmp 53) = .bool true := Eq.mp (by kernel_rfl) (hk 53 (by decide))
      exact Rg.does_move ⟨Below.refl _ _, h53⟩
    · intro _ a wx hb hk
      have h7 : a.eval (.tmp 7) = .int .i64 (m : Int) := Eq.mp (by kernel_rfl) (hk 7 (by decide))
      exact Rg.does_move ⟨Below.refl _ _, h7⟩
    · intro _ a wx hb hk
      have h55 : a.eval (.tmp 55) = .int .i64 (m : Int) := Eq.mp (by kernel_rfl) (hk 55 (by decide))
      exact Rg.does_bin .i64 _ _ _ h55 rfl (Rs.run_leq (by omega)) ⟨Below.refl _ _, rfl⟩
    · intro _ a wx hb hk
      have h54 : a.eval (.tmp 54) = .bool true := Eq.mp (by kernel_rfl) (hk 54 (by decide))
      have h56 : a.eval (.tmp 56) = .bool true := Eq.mp (by kernel_rfl) (hk 56 (by decide))
      exact Rg.does_pick true h54 ⟨Below.refl _ _, h56⟩
    · intro _ a wx hb hk
      have h57 : a.eval (.tmp 57) = .bool true := Eq.mp (by kernel_rfl) (hk 57 (by decide))
      exact Rg.does_move ⟨Below.refl _ _, h57⟩
    · intro _ a wx hb hk
      have h6 : a.eval (.tmp 6) = .int .u64 (x : Int) := Eq.mp (by kernel_rfl) (hk 6 (by decide))
      exact Rg.does_move ⟨Below.refl _ _, h6⟩
    · intro _ a wx hb hk
      have h59 : a.eval (.tmp 59) = .int .u64 (x : Int) := Eq.mp (by kernel_rfl) (hk 59 (by decide))
      refine Rg.does_build (w' := wx.alloc (.cells #[.int .u64 (x : Int)] 39)) #[(0, .int .u64 (x : Int))] (.slice (some ⟨wx.heap.size, 0, none⟩) 1 1) (by simp [h59]) (by simp [go_sem]) ⟨(Below.refl _ _).alloc (Nat.le_refl _) _, _, _, rfl, ?_⟩
      exact u64_one wx x _
    · intro _ a wx hb hk
      have h60 : (fun v w => ∃ a c, v = .slice a 1 c ∧ U64s w a 1 c [x]) (a.eval (.tmp 60)) wx := Eq.mp (by kernel_rfl) (hk 60 (by decide))
      obtain ⟨a', c', hv, hr⟩ := h60
      refine Rg.does_func #[.slice a' 1 c'] Try.func27 (by kernel_rfl) (by kernel_rfl) (by simp [hv]) (var_put_calls wx a' 1 c' [x] hr (by intro y hy; simp at hy; subst hy; exact hx64) (by decide)) ?_
      rintro e w' ⟨v, rfl, ho, hb'⟩
      obtain ⟨a2, c2, hv2, hr2⟩ := ownsRow_bytes ho
      rw [nums_one] at hv2 hr2
      exact ⟨_, rfl, hb', a2, c2, hv2, hr2⟩
    · intro _ a wx hb hk
      have h61 : (fun v w => ∃ a c, v = .slice a (VarPlain.num x).length c ∧ Bytes w a (VarPlain.num x).length c (VarPlain.num x)) (a.eval (.tmp 61)) wx := Eq.mp (by kernel_rfl) (hk 61 (by decide))
      obtain ⟨a', c', hv, hr⟩ := h61
      exact Rg.does_convert _ _ hv (str_bytes hr) ⟨Below.refl _ _, rfl⟩
    · intro _ a wx hb hk
      have h0 : a.eval (.tmp 0) = .slice a0 n0 c0 := Eq.mp (by kernel_rfl) (hk 0 (by decide))
      exact Rg.does_move ⟨Below.refl _ _, h0⟩
    · intro _ a wx hb hk
      have h7 : a.eval (.tmp 7) = .int .i64 (m : Int) := Eq.mp (by kernel_rfl) (hk 7 (by decide))
      exact Rg.does_move ⟨Below.refl _ _, h7⟩
    · intro _ a wx hb hk
      have h63 : a.eval (.tmp 63) = .slice a0 n0 c0 := Eq.mp (by kernel_rfl) (hk 63 (by decide))
      have h64 : a.eval (.tmp 64) = .int .i64 (m : Int) := Eq.mp (by kernel_rfl) (hk 64 (by decide))
      exact Rg.does_sub _ Try.underlying22 (by rw [h63]; simp only [Option.map, h64]; exact (HS3.out wx).2.1 (by trivial) .i64) ⟨Below.refl _ _, rfl⟩
    · intro _ a wx hb hk
      have h65 : a.eval (.tmp 65) = .slice a3 (m - 0) (c0 - 0) := Eq.mp (by kernel_rfl) (hk 65 (by decide))
      exact Rg.does_convert _ _ h65 (str_bytes (HB3.out.below stable_byteAt hb)) ⟨Below.refl _ _, rfl⟩
    · intro _ a wx hb hk
      have h62 : a.eval (.tmp 62) = .string (str (VarPlain.num x)) := Eq.mp (by kernel_rfl) (hk 62 (by decide))
      have h66 : a.eval (.tmp 66) = .string (str (VarPlain.num x)) := Eq.mp (by kernel_rfl) (hk 66 (by decide))
      exact Rg.does_same_string _ h62 h66 ⟨Below.refl _ _, rfl⟩
    · intro _ a wx hb hk
      have h58 : a.eval (.tmp 58) = .bool true := Eq.mp (by kernel_rfl) (hk 58 (by decide))
      have h67 : a.eval (.tmp 67) = .bool true := Eq.mp (by kernel_rfl) (hk 67 (by decide))
      exact Rg.does_pick true h58 ⟨Below.refl _ _, h67⟩
    · intro _ a wx hb hk
      have h68 : a.eval (.tmp 68) = .bool true := Eq.mp (by kernel_rfl) (hk 68 (by decide))
      exact Rg.does_move ⟨Below.refl _ _, h68⟩
    · intro _ a wx hb hk
      have h6 : a.eval (.tmp 6) = .int .u64 (x : Int) := Eq.mp (by kernel_rfl) (hk 6 (by decide))
      exact Rg.does_move ⟨Below.refl _ _, h6⟩
    · intro _ a wx hb hk
      have h10 : a.eval (.tmp 10) = .int .u64 (x : Int) := Eq.mp (by kernel_rfl) (hk 10 (by decide))
      exact Rg.does_move ⟨Below.refl _ _, h10⟩
    · intro _ a wx hb hk
      have h70 : a.eval (.tmp 70) = .int .u64 (x : Int) := Eq.mp (by kernel_rfl) (hk 70 (by decide))
      have h71 : a.eval (.tmp 71) = .int .u64 (x : Int) := Eq.mp (by kernel_rfl) (hk 71 (by decide))
      exact Rg.does_same_int .u64 _ h70 h71 ⟨Below.refl _ _, rfl⟩
    · intro _ a wx hb hk
      have h69 : a.eval (.tmp 69) = .bool true := Eq.mp (by kernel_rfl) (hk 69 (by decide))
      have h72 : a.eval (.tmp 72) = .bool true := Eq.mp (by kernel_rfl) (hk 72 (by decide))
      exact Rg.does_pick true h69 ⟨Below.refl _ _, h72⟩
    · intro _ a wx hb hk
      have h73 : a.eval (.tmp 73) = .bool true := Eq.mp (by kernel_rfl) (hk 73 (by decide))
      exact Rg.does_move ⟨Below.refl _ _, h73⟩
    · intro _ a wx hb hk
      have h7 : a.eval (.tmp 7) = .int .i64 (m : Int) := Eq.mp (by kernel_rfl) (hk 7 (by decide))
      exact Rg.does_move ⟨Below.refl _ _, h7⟩
    · intro _ a wx hb hk
      have h11 : a.eval (.tmp 11) = .int .i64 (m : Int) := Eq.mp (by kernel_rfl) (hk 11 (by decide))
      exact Rg.does_move ⟨Below.refl _ _, h11⟩
    · intro _ a wx hb hk
      have h75 : a.eval (.tmp 75) = .int .i64 (m : Int) := Eq.mp (by kernel_rfl) (hk 75 (by decide))
      have h76 : a.eval (.tmp 76) = .int .i64 (m : Int) := Eq.mp (by kernel_rfl) (hk 76 (by decide))
      exact Rg.does_same_int .i64 _ h75 h76 ⟨Below.refl _ _, rfl⟩
    · intro _ a wx hb hk
      have h74 : a.eval (.tmp 74) = .bool true := Eq.mp (by kernel_rfl) (hk 74 (by decide))
      have h77 : a.eval (.tmp 77) = .bool true := Eq.mp (by kernel_rfl) (hk 77 (by decide))
      exact Rg.does_pick true h74 ⟨Below.refl _ _, h77⟩
    · intro _ a wx hb hk
      have h78 : a.eval (.tmp 78) = .bool true := Eq.mp (by kernel_rfl) (hk 78 (by decide))
      exact Rg.does_move ⟨Below.refl _ _, h78⟩
    · intro _ a wx hb hk
      have h12 : a.eval (.tmp 12) = .int .i64 0 := Eq.mp (by kernel_rfl) (hk 12 (by decide))
      exact Rg.does_move ⟨Below.refl _ _, h12⟩
    · intro _ a wx hb hk
      have h80 : a.eval (.tmp 80) = .int .i64 0 := Eq.mp (by kernel_rfl) (hk 80 (by decide))
      exact Rg.does_same_int .i64 _ h80 rfl ⟨Below.refl _ _, rfl⟩
    · intro _ a wx hb hk
      have h79 : a.eval (.tmp 79) = .bool true := Eq.mp (by kernel_rfl) (hk 79 (by decide))
      have h81 : a.eval (.tmp 81) = .bool true := Eq.mp (by kernel_rfl) (hk 81 (by decide))
      exact Rg.does_pick true h79 ⟨Below.refl _ _, h81⟩
    · intro _ a wx hb hk
      have h82 : a.eval (.tmp 82) = .bool true := Eq.mp (by kernel_rfl) (hk 82 (by decide))
      exact Rg.does_assign ⟨Below.refl _ _, h82⟩
    intro vals wD hbD hL
    obtain ⟨g0, g1, g2, g3, g4, g5, g6, g7, g8, g9, g10, g11, g12, g13, g14, g15, g16, g17, g18, g19, g20, g21, g22, g23, g24, g25, g26, g27, g28, g29, g30, g31, _⟩ := hL
    have hfin : Below w.heap.size w wD := HBel.out _ (hb3.trans (hbD.mono hs3))
    have hres : vals 31 = .bool true := g31
    clear g0 g1 g2 g3 g4 g5 g6 g7 g8 g9 g10 g11 g12 g13 g14 g15 g16 g17 g18 g19 g20 g21 g22 g23 g24 g25 g26 g27 g28 g29 g30 g31 hbD hb3 hs3
    simp only [Rg.putAll, List.setIfInBounds_toArray, List.set_cons_succ, List.set_cons_zero]
    go_wp2_with fail
    go_ret
    exact ⟨by rw [← hres]; rfl, by rw [← HB.out]; exact hfin⟩
  · obtain ⟨rfl, rfl⟩ := HBAD.out hf
    have hne : (f != 0) = true := by rw [bne_iff_ne]; exact hf
    clear hf
    go_enter Try.func10, Try.ntmps10
    go_wp2_with fail
    refine (var_awake_calls _).mono ?_
    rintro e w1 ⟨rfl, hb1⟩
    go_wp2_with fail
    refine (Htake.out _ (H0.out.below stable_byteAt hb1)).mono ?_
    rintro e w2 ⟨rfl, rfl⟩
    unfold takeV
    go_wp2_with fail
    go_ret
    exact ⟨rfl, hb1⟩

end Go.Proofs.Ytbbnopikinlcdaa
