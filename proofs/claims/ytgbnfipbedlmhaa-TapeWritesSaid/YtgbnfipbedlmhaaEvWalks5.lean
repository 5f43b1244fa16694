/-
  What package event reads of bytes, its parts: small, list, end. Each computes what the plain mathematics says. Conditions: the reader is there; as each contract says.
-/
import Derived.Test.YtgbnfipbedlmhaaEvWalks4
import Derived.Test.YtgbnfipbedlmhaaVarReader3
set_option linter.unusedVariables false
set_option maxRecDepth 100000
namespace Go.Proofs.Ytgbnfipbedlmhaa
open Go.RowKit Base

def smallN (x most : Nat) : Nat := if most < x then most + 1 else x

set_option maxHeartbeats 400000 in
set_option maxRecDepth 100000 in
theorem ev_small_calls (w : World) (x : Nat) (hx : Lt64 x) (most : Nat) (hm : most ≤ 100000) :
    Calls Try.prog 51 #[.int .u64 (x : Int), .int .i64 (most : Int)] w fun e w' => e = .returned (.int .i64 (smallN x most : Int)) ∧ w = w' := by
  have HS : Hid (smallN x most = if most < x then most + 1 else x) := rfl
  unfold Lt64 at hx
  by_cases h : most < x
  · have t1 : (most : Int) < (x : Int) := by omega
    have HV : Hid ((smallN x most : Int) = (most : Int) + 1) := by show _ = _; rw [HS.out, if_pos h]; omega
    clear h
    go_enter Try.func51, Try.ntmps51
    go_wp2_with fail
    go_ret
    exact ⟨by rw [HV.out]; rfl, rfl⟩
  · have t1 : ¬ (most : Int) < (x : Int) := by omega
    have HV : Hid ((smallN x most : Int) = (x : Int)) := by show _ = _; rw [HS.out, if_neg h]
    have hxs : x ≤ 100000 := by omega
    clear h hx
    go_enter Try.func51, Try.ntmps51
    go_wp2_with fail
    go_ret
    exact ⟨by rw [HV.out]; rfl, rfl⟩

def sv (s : List UInt8) : Value := .string (str s)
theorem ownsRow_strs {w : World} {base : Nat} {e : TypeId} {v : Value} {n : Nat} {l : List (List UInt8)} (h : w.ownsRow base e 1 v n (l.map sv)) : ∃ a cap, v = .slice a n cap ∧ Strs w a n cap l :=
  ownsRow_row h (fun _ _ _ hx => hx)
theorem ownsRow_kept {w w' : World} {base : Nat} {e : TypeId} {size : Nat} {v : Value} {n : Nat} {xs : List Value} {q : Nat} (h : w.ownsRow base e size v n xs) (hg : w.grownBy w' (some q)) (hq : q < base) : w'.ownsRow base e size v n xs :=
  h.kept (row := some q) hg (by
    cases hv : v.ownBlock with
    | none => simp
    | some j => have := (h.lt j hv).1; simp; omega)
theorem grown_below {w a b : World} {q : Nat} (h : w.grownBy a (some q)) (hb : Below w.heap.size a b) : w.grownBy b (some q) :=
  ⟨hb.os.trans h.os, hb.tape.trans h.tape, hb.output.trans h.output, Nat.le_trans h.size hb.size, fun k hk hne => (hb.block k hk).trans (h.block k hk hne)⟩
theorem info_string : (Try.prog.info? 9).map (fun i => (i.zero, i.size, i.bytes)) = some (some (.string ⟨#[]⟩), 1, 16) := by kernel_rfl
theorem next_lt64 (l : List UInt8) (e : Int) : Lt64 (VarPlain.next l e).1 := by
  unfold VarPlain.next
  split
  · simp [Lt64]
  · exact VarPlain.take_lt l

set_option maxHeartbeats 1000000 in
set_option maxRecDepth 100000 in
theorem ev_list_calls (w : World) (q : Nat) (l : List UInt8) (e : Int) (h : Rd w q l e) :
    Calls Try.prog 55 #[.pointer (some ⟨q, 0, none⟩)] w fun r w' => ∃ v, r = .returned (.tuple #[v, .bool (readRow l e).1.1]) ∧ w'.ownsRow w.heap.size 9 1 v (readRow l e).1.2.length ((readRow l e).1.2.map sv) ∧
      Rd w' q (readRow l e).2.1 (readRow l e).2.2 ∧ w.grownBy w' (some q) := by
  obtain ⟨i0, hi, hz0, hz1, hz2⟩ := info_parts info_string
  have HX := Lib.hid (next_lt64 l e)
  have hqB : q < w.heap.size := by obtain ⟨a, n, c, h1, _⟩ := h; exact (Array.getElem?_eq_some_iff.1 h1).1
  have Hnum := Lib.hid (rd_num_in _ w q l e h.toIn)
  have HR : Hid (readRow l e = if 4096 < (VarPlain.next l e).1 then ((false, []), (VarPlain.next l e).2) else ((true, (words (VarPlain.next l e).2.1 (VarPlain.next l e).2.2 (VarPlain.next l e).1).1), (words (VarPlain.next l e).2.1 (VarPlain.next l e).2.2 (VarPlain.next l e).1).2)) := rfl
  clear h
  generalize hB : w.heap.size = B at *
  have HB := Lib.hid hB; clear hB
  generalize VarPlain.next l e = t at *
  obtain ⟨x, l1, e1⟩ := t
  simp only [] at HX Hnum HR
  have Hsm := Lib.hid fun w => ev_small_calls w x HX.out 4096 (by decide)
  by_cases hbig : 4096 < x
  · have HV : Hid (readRow l e = ((false, []), l1, e1)) := by show _ = _; rw [HR.out, if_pos hbig]
    have hs1 : smallN x 4096 = 4097 := by unfold smallN; rw [if_pos hbig]
    rw [hs1] at Hsm
    clear hs1 HR hbig
    go_enter Try.func55, Try.ntmps55
    go_wp2_with fail
    refine Hnum.out.mono ?_
    rintro r w1 ⟨rfl, hrd1, hg1⟩
    have Hrd1 := Lib.hid hrd1; clear hrd1
    have Hg1 := Lib.hid hg1; clear hg1
    go_wp2_with fail
    refine (Hsm.out _).mono ?_
    rintro r w2 ⟨rfl, rfl⟩
    go_wp2_with fail
    go_ret2
    exact ⟨_, by rw [HV.out]; rfl, by rw [HV.out]; exact World.ownsRow_nil _ _ _ _, by rw [HV.out]; exact Hrd1.out.toRd, Hg1.out⟩
  · have HV : Hid (readRow l e = ((true, (words l1 e1 x).1), (words l1 e1 x).2)) := by show _ = _; rw [HR.out, if_neg hbig]
    have hs1 : smallN x 4096 = x := by unfold smallN; rw [if_neg hbig]
    rw [hs1] at Hsm
    have hx4 : x ≤ 4096 := by omega
    have hx5 : ¬ (4096 : Int) < (x : Int) := by omega
    clear hs1 HR hbig
    obtain ⟨wd, hwd⟩ : ∃ wd, wd = words l1 e1 := ⟨_, rfl⟩
    rw [← hwd] at HV
    have W0 : Hid (wd 0 = ([], l1, e1)) := by show _ = _; rw [hwd]; rfl
    have WS : Hid (∀ k, wd (k + 1) = ((wd k).1 ++ [(VarPlain.word (wd k).2.1 (wd k).2.2).1], (VarPlain.word (wd k).2.1 (wd k).2.2).2)) := fun k => by rw [hwd]; rfl
    have WL : Hid (∀ k, (wd k).1.length = k) := fun k => by rw [hwd]; exact words_len l1 e1 k
    clear hwd
    go_enter Try.func55, Try.ntmps55
    go_wp2_with fail
    refine Hnum.out.mono ?_
    rintro r w1 ⟨rfl, hrd1, hg1⟩
    have Hrd1 := Lib.hid hrd1; clear hrd1
    have hs1 : B ≤ w1.heap.size := by have := hg1.size; have := HB.out; omega
    have Hg1 := Lib.hid hg1; clear hg1
    go_wp2_with fail
    refine (Hsm.out _).mono ?_
    rintro r w2 ⟨rfl, rfl⟩
    go_wp2_with fail
    go_loopw [5, 12] (fun v i wr => ∃ k : Nat, k ≤ x ∧ i = .int .i64 k ∧ wr.ownsRow B 9 1 v k ((wd k).1.map sv) ∧ RdIn (fun b => b < B) wr q (wd k).2.1 (wd k).2.2 ∧ w.grownBy wr (some q) ∧ B ≤ wr.heap.size) (fun _ i _ => x - (intOf i).toNat)
    case atStart => exact ⟨0, Nat.zero_le _, rfl, by rw [W0.out]; exact World.ownsRow_nil _ _ _ _, by rw [W0.out]; exact Hrd1.out, Hg1.out, hs1⟩
    case round =>
      clear Hrd1 Hg1 hs1
      obtain ⟨k, hk, rfl, hown, hrd, hg, hBs⟩ := hrel
      by_cases hlt : k < x
      · have Htx := Lib.hid (rd_text_in _ wr q _ _ hrd)
        have Hws := Lib.hid (WS.out k)
        have Hwl := Lib.hid (WL.out k)
        have Hg := Lib.hid hg
        obtain ⟨ao, co, rfl, _, _, _, _⟩ := ownsRow_slice hown
        have Hown := Lib.hid hown
        clear hrd hg hown
        generalize VarPlain.word (wd k).2.1 (wd k).2.2 = t at *
        obtain ⟨s, l2, e2⟩ := t
        simp only [] at Htx Hws
        go_wp2_with fail
        refine Htx.out.mono ?_
        rintro r w2 ⟨rfl, hrd2, hg2⟩
        have hown2 := ownsRow_kept Hown.out hg2 hqB
        have Hg2 := Lib.hid (grownBy_trans Hg.out hg2)
        have hs2 : B ≤ w2.heap.size := Nat.le_trans hBs hg2.size
        have Hrd2 := Lib.hid hrd2
        clear hrd2 hg2 hBs Hown Hg
        go_wp2_with (at_builtin; refine wpList_append_src rfl (.tmp 14) (.tmp 17) 32 32 rfl B 9 i0 (.string ⟨#[]⟩) 1 16 Try.underlying32 (append_side Try.underlying32) hi hz0 hz1 hz2 rfl (by decide) (by decide) _ k _ rfl (hown2.alloc _) _ 1 _ rfl (src_new _ [_] 9 1 1 rfl (by intro u hu; simp at hu; subst hu; rfl) 1) ?_ ?_ ?_ ?_)
        case _ => unfold maxLen; omega
        case _ => omega
        case _ => simp; omega
        intro v' w3 hown3 hg3 _
        have hb3 : Below B w2 w3 := ((Below.refl _ _).alloc hs2 _).grown hg3 (by simp; omega) (fun j hj => (hown2.lt j hj).1)
        have hs3 : B ≤ w3.heap.size := by have := hg3.size; simp at this; omega
        have hown4 : w3.ownsRow B 9 1 v' (k + 1) ((wd (k + 1)).1.map sv) := by
          rw [Hws.out]
          simp only []
          rw [List.map_append]
          exact hown3
        have hrd4 : RdIn (fun b => b < B) w3 q (wd (k + 1)).2.1 (wd (k + 1)).2.2 := by
          rw [Hws.out]
          exact Hrd2.out.stays hb3 hqB
        have hg4 : w.grownBy w3 (some q) := grown_below Hg2.out (by rw [HB.out]; exact hb3)
        clear hown3 hg3 hown2 Hg2 Hrd2 hb3
        go_wp2_with fail
        go_roundw
        case rel => exact ⟨k + 1, by omega, by go_num, hown4, hrd4, hg4, hs3⟩
        case measure => simp [intOf]; omega
      · obtain rfl : x = k := by omega
        go_wp2_with fail
        go_ret2
        exact ⟨_, by rw [HV.out]; rfl, by rw [HV.out]; simp only []; rw [WL.out]; exact hown, by rw [HV.out]; exact hrd.toRd, hg⟩

end Go.Proofs.Ytgbnfipbedlmhaa
