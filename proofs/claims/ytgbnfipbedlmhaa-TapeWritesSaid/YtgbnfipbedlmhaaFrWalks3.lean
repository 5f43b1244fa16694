/-
  frame.Take: the row that bytes begin with. Conditions: the bytes can be read; they are not too many.
-/
import Derived.Test.YtgbnfipbedlmhaaFrWalks2
import Derived.Test.YtgbnfipbedlmhaaVarTexts
import Derived.Test.YtgbnfipbedlmhaaVarTake
import Derived.Test.YtgbnfipbedlmhaaRegion
import Derived.Test.YtgbnfipbedlmhaaRegionS
import Derived.Deep.Cut
set_option linter.unusedVariables false
namespace Go.Proofs.Ytgbnfipbedlmhaa
open Go.RowKit Base

theorem does_notF {P : Program} {a : Act} {w : World} {post : Value → World → Prop} {dst : Option Tmp} {x : Operand} {t : TypeId} {ty : TypeId} {pos : String} {after : Array Edge} {guard : Option (Nat × Bool)} (b : Bool)
    (hx : a.eval x = .bool b) (hp : post (.bool (!b)) w) : Rg.does P { dst, op := .unOp .not t x, type := ty, pos, after, guard } a w post := by
  refine Rg.does_value (v := .bool (!b)) ?_ hp
  simp [execOp, hx, Op.unary]

set_option maxHeartbeats 2000000 in
set_option maxRecDepth 100000 in
theorem frame_take_calls (w : World) (a0 : Option Addr) (n cap : Nat) (l : List UInt8) (h : Bytes w a0 n cap l) (hs : n ≤ 100000000) :
    Calls Try.prog 48 #[.slice a0 n cap] w fun r w' => ∃ v, r = .returned (.tuple #[v, .int .i64 ((takeF l).2.1 : Int), .int .i64 (takeF l).2.2]) ∧ w'.ownsRow w.heap.size 5 1 v (takeF l).1.length ((takeF l).1.map bv) ∧ Below w.heap.size w w' := by
  obtain rfl : n = l.length := h.1
  have hcap := h.2.2.1
  have hnc := h.2.1
  unfold maxLen at hcap
  have HT := Lib.hid (var_take_calls w a0 l.length cap l h)
  have H0 := Lib.hid h; clear h
  have hxl := VarPlain.take_lt l
  have hkl := VarPlain.take_le l
  have HK : Hid ((VarPlain.take l).2.2 = 0 → VarPlain.num (VarPlain.take l).1 = l.take (VarPlain.take l).2.1) := fun h => (take_ok h).1
  have HF : Hid (takeF l = if (VarPlain.take l).2.2 ≠ 0 then ([], 0, (VarPlain.take l).2.2)
      else if 65536 < (VarPlain.take l).1 then ([], 0, 13)
      else if l.length - (VarPlain.take l).2.1 < (VarPlain.take l).1 + 4 then ([], 0, 10)
      else if oneF ((l.drop (VarPlain.take l).2.1).take (VarPlain.take l).1) ≠ l.take ((VarPlain.take l).2.1 + (VarPlain.take l).1 + 4) then ([], 0, 12)
      else ((l.drop (VarPlain.take l).2.1).take (VarPlain.take l).1, (VarPlain.take l).2.1 + (VarPlain.take l).1 + 4, 0)) := rfl
  unfold takeV at HT
  generalize VarPlain.take l = t at *
  obtain ⟨x, k, e⟩ := t
  simp only [] at HT hxl hkl HK HF
  by_cases he : e = 0
  case neg =>
    have HV : Hid (takeF l = ([], 0, e)) := by show _ = _; rw [HF.out, if_pos he]
    have t1 : (e == 0) = false := by rw [beq_eq_false_iff_ne]; exact he
    have t2 : (e != 0) = true := by rw [bne_iff_ne]; exact he
    clear he HF HK
    go_enter Try.func48, Try.ntmps48
    go_wp2_with fail
    refine HT.out.mono ?_
    rintro r w' ⟨rfl, rfl⟩
    go_wp2_with fail
    refine bodyPost_ret (v := .tuple #[.slice none 0 0, .int .i64 0, .int .i64 e]) (by simp [results, Try.results48, go_sem]) rfl ?_
    exact ⟨_, by rw [HV.out]; rfl, by rw [HV.out]; exact World.ownsRow_nil _ _ _ _, Below.refl _ _⟩
  subst he
  by_cases hbig : 65536 < x
  · have HV : Hid (takeF l = ([], 0, 13)) := by show _ = _; rw [HF.out, if_neg (by simp), if_pos hbig]
    have t1 : decide ((65536 : Int) < (x : Int)) = true := by simp; omega
    have t2 : (65536 : Int) < (x : Int) := by omega
    clear HF HK hbig
    go_enter Try.func48, Try.ntmps48
    go_wp2_with fail
    refine HT.out.mono ?_
    rintro r w' ⟨rfl, rfl⟩
    go_wp2_with fail
    refine bodyPost_ret (v := .tuple #[.slice none 0 0, .int .i64 0, .int .i64 13]) (by simp [results, Try.results48, go_sem]) rfl ?_
    exact ⟨_, by rw [HV.out]; rfl, by rw [HV.out]; exact World.ownsRow_nil _ _ _ _, Below.refl _ _⟩
  have HF : Hid (takeF l = if l.length - k < x + 4 then ([], 0, 10) else if oneF ((l.drop k).take x) ≠ l.take (k + x + 4) then ([], 0, 12) else ((l.drop k).take x, k + x + 4, 0)) := by
    show _ = _
    rw [HF.out, if_neg (by simp), if_neg hbig]
  have t1 : decide ((65536 : Int) < (x : Int)) = false := by simp; omega
  have t2 : ¬ (65536 : Int) < (x : Int) := by omega
  have hx6 : x ≤ 65536 := by omega
  clear hbig
  by_cases hsh : l.length - k < x + 4
  · have HV : Hid (takeF l = ([], 0, 10)) := by show _ = _; rw [HF.out, if_pos hsh]
    have d1 : decide ((l.length : Int) - (k : Int) < (x : Int) + 4) = true := by simp; omega
    have d2 : (l.length : Int) - (k : Int) < (x : Int) + 4 := by omega
    clear HF HK hsh
    go_enter Try.func48, Try.ntmps48
    go_wp2_with fail
    refine HT.out.mono ?_
    rintro r w' ⟨rfl, rfl⟩
    go_wp2_with fail
    refine bodyPost_ret (v := .tuple #[.slice none 0 0, .int .i64 0, .int .i64 10]) (by simp [results, Try.results48, go_sem]) rfl ?_
    exact ⟨_, by rw [HV.out]; rfl, by rw [HV.out]; exact World.ownsRow_nil _ _ _ _, Below.refl _ _⟩
  have HF : Hid (takeF l = if oneF ((l.drop k).take x) ≠ l.take (k + x + 4) then ([], 0, 12) else ((l.drop k).take x, k + x + 4, 0)) := by
    show _ = _
    rw [HF.out, if_neg hsh]
  have d1 : decide ((l.length : Int) - (k : Int) < (x : Int) + 4) = false := by simp; omega
  have d2 : ¬ (l.length : Int) - (k : Int) < (x : Int) + 4 := by omega
  have hall : k + x + 4 ≤ l.length := by omega
  clear hsh
  obtain ⟨a1, hB1, hS1⟩ := sub_bytes H0.out k (k + x) (by omega) (by omega)
  have hs1 : ∀ w', (Instr.slice 28 (.slice a0 l.length cap) (some (.int .i64 (k : Int))) (some (.int .i64 ((k : Int) + (x : Int)))) none).run Try.prog w' = .ok (.slice a1 x (cap - k)) w' := by
    intro w'
    have := (hS1 w').1 .i64 .i64
    rw [show ((k + x : Nat) : Int) = (k : Int) + (x : Int) from by simp, show k + x - k = x from by omega] at this
    exact this
  rw [show k + x - k = x from by omega] at hB1
  have hrw : (l.take (k + x)).drop k = (l.drop k).take x := by rw [List.drop_take, show k + x - k = x from by omega]
  rw [hrw] at hB1
  obtain ⟨a2, hB2, hS2⟩ := sub_bytes H0.out 0 (k + x + 4) (by omega) hall
  have HS2 : Hid (∀ w', (Instr.slice 28 (.slice a0 l.length cap) none (some (.int .i64 ((k : Int) + (x : Int) + 4))) none).run Try.prog w' = .ok (.slice a2 (k + x + 4) cap) w') := by
    intro w'
    have := (hS2 w').2.1 rfl .i64
    rw [show ((k + x + 4 : Nat) : Int) = (k : Int) + (x : Int) + 4 from by simp] at this
    exact this
  rw [List.drop_zero] at hB2
  have HB1 := Lib.hid hB1
  have HB2 : Hid (Bytes w a2 (k + x + 4) cap (l.take (k + x + 4))) := hB2
  clear hB1 hS1 hB2 hS2 hrw
  have hrl : ((l.drop k).take x).length = x := by rw [List.length_take, List.length_drop]; omega
  have HRL := Lib.hid hrl; clear hrl
  generalize (l.drop k).take x = row at *
  generalize l.take (k + x + 4) = fr at *
  go_enter Try.func48, Try.ntmps48
  go_wp2_with fail
  refine HT.out.mono ?_
  rintro r w' ⟨rfl, rfl⟩
  go_wp2_with fail
  refine Rg.wp_region_rgl [] [Rg.Is (.slice a1 x (cap - k)), (fun v w => ∃ a c, v = .slice a (oneF row).length c ∧ Bytes w a (oneF row).length c (oneF row)), Rg.Is (.slice a0 l.length cap), Rg.Is (.int .i64 ((k : Int) + (x : Int) + 4)), Rg.Is (.slice a2 (k + x + 4) cap), Rg.Is (.bool (decide (oneF row = fr))), Rg.Is (.bool (!(decide (oneF row = fr))))] (by kernel_rfl) (by kernel_rfl) (by kernel_rfl) ⟨Rg.st_is _, fun v w w' h hb => by obtain ⟨a, c, hv, hr⟩ := h; exact ⟨a, c, hv, hr.below stable_byteAt hb⟩, Rg.st_is _, Rg.st_is _, Rg.st_is _, Rg.st_is _, Rg.st_is _, trivial⟩ ⟨rfl, rfl, rfl, rfl, rfl, rfl, rfl, trivial⟩ ⟨?_, ?_, ?_, ?_, ?_, ?_, ?_, trivial⟩ ?_
  · intro _ a wx hb hk
    have h8 : a.eval (.tmp 8) = .slice a1 x (cap - k) := Eq.mp (by kernel_rfl) (hk 8 (by decide))
    exact Rg.does_move ⟨Below.refl _ _, h8⟩
  · intro _ a wx hb hk
    have h44 : a.eval (.tmp 44) = .slice a1 x (cap - k) := Eq.mp (by kernel_rfl) (hk 44 (by decide))
    refine Rg.does_func #[.slice a1 x (cap - k)] Try.func30 (by kernel_rfl) (by kernel_rfl) (by simp [h44]) (frame_one_calls wx a1 x (cap - k) row (HB1.out.below stable_byteAt hb) (by omega)) ?_
    rintro e' w' ⟨v, rfl, hown, hb'⟩
    obtain ⟨a', c', rfl, hr⟩ := ownsRow_bytes hown
    exact ⟨_, rfl, hb', _, _, rfl, hr⟩
  · intro _ a wx hb hk
    have h0 : a.eval (.tmp 0) = .slice a0 l.length cap := Eq.mp (by kernel_rfl) (hk 0 (by decide))
    exact Rg.does_move ⟨Below.refl _ _, h0⟩
  · intro _ a wx hb hk
    have h9 : a.eval (.tmp 9) = .int .i64 ((k : Int) + (x : Int) + 4) := Eq.mp (by kernel_rfl) (hk 9 (by decide))
    exact Rg.does_move ⟨Below.refl _ _, h9⟩
  · intro _ a wx hb hk
    have h46 : a.eval (.tmp 46) = .slice a0 l.length cap := Eq.mp (by kernel_rfl) (hk 46 (by decide))
    have h47 : a.eval (.tmp 47) = .int .i64 ((k : Int) + (x : Int) + 4) := Eq.mp (by kernel_rfl) (hk 47 (by decide))
    exact Rg.does_sub _ Try.underlying28 (by rw [h46]; simp only [Option.map, h47]; exact HS2.out wx) ⟨Below.refl _ _, rfl⟩
  · intro _ a wx hb hk
    have h45 : (fun v w => ∃ a c, v = .slice a (oneF row).length c ∧ Bytes w a (oneF row).length c (oneF row)) (a.eval (.tmp 45)) wx := Eq.mp (by kernel_rfl) (hk 45 (by decide))
    have h48 : a.eval (.tmp 48) = .slice a2 (k + x + 4) cap := Eq.mp (by kernel_rfl) (hk 48 (by decide))
    obtain ⟨a', c', hv, hr⟩ := h45
    refine Rg.does_func #[.slice a' (oneF row).length c', .slice a2 (k + x + 4) cap] Try.func66 (by kernel_rfl) (by kernel_rfl) (by simp [hv, h48]) (equal_bytes_calls wx a' a2 _ _ c' cap _ _ hr (HB2.out.below stable_byteAt hb)) ?_
    rintro e' w' ⟨rfl, hb'⟩
    exact ⟨_, rfl, hb', rfl⟩
  · intro _ a wx hb hk
    have h49 : a.eval (.tmp 49) = .bool (decide (oneF row = fr)) := Eq.mp (by kernel_rfl) (hk 49 (by decide))
    exact does_notF _ h49 ⟨Below.refl _ _, rfl⟩
  intro vals wD hbD hL
  obtain ⟨g0, g1, g2, g3, g4, g5, g6, _⟩ := hL
  have g6' : vals 6 = .bool (!(decide (oneF row = fr))) := g6
  have HBD := Lib.hid hbD
  have HBr := Lib.hid (HB1.out.below stable_byteAt hbD)
  clear g0 g1 g2 g3 g4 g5 g6 hbD HB1 HB2 HS2 hs1
  simp only [Rg.putAll, List.setIfInBounds_toArray, List.set_cons_succ, List.set_cons_zero, g6']
  clear g6'
  by_cases heq : oneF row = fr
  · have HV : Hid (takeF l = (row, k + x + 4, 0)) := by show _ = _; rw [HF.out, if_neg (by simpa using heq)]
    have e1 : (!(decide (oneF row = fr))) = false := by simp [heq]
    rw [e1]
    clear e1 heq HF
    go_wp2_with fail
    refine (clone_calls _ a1 x (cap - k) row HBr.out (by omega)).mono ?_
    rintro r w2 ⟨v, rfl, hown, hb2⟩
    obtain ⟨av, cv, rfl, _, _, _, _⟩ := ownsRow_slice hown
    go_wp2_with fail
    refine bodyPost_ret (v := .tuple #[.slice av x cv, .int .i64 ((k : Int) + (x : Int) + 4), .int .i64 0]) (by simp [results, Try.results48, go_sem]) rfl ?_
    refine ⟨.slice av x cv, by rw [HV.out]; simp, ?_, HBD.out.trans (hb2.mono HBD.out.size)⟩
    rw [HV.out]
    show World.ownsRow _ _ _ _ _ row.length _
    rw [HRL.out]
    exact ownsRow_mono hown HBD.out.size
  · have HV : Hid (takeF l = ([], 0, 12)) := by show _ = _; rw [HF.out, if_pos heq]
    have e1 : (!(decide (oneF row = fr))) = true := by simp [heq]
    rw [e1]
    clear e1 heq HF
    go_wp2_with fail
    refine bodyPost_ret (v := .tuple #[.slice none 0 0, .int .i64 0, .int .i64 12]) (by simp [results, Try.results48, go_sem]) rfl ?_
    exact ⟨_, by rw [HV.out]; rfl, by rw [HV.out]; exact World.ownsRow_nil _ _ _ _, HBD.out⟩

end Go.Proofs.Ytgbnfipbedlmhaa
