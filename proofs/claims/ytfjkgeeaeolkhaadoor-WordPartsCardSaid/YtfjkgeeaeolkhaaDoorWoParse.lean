/-
  Word: Parse. Conditions: as each contract says.
-/
import Derived.Test.YtfjkgeeaeolkhaaDoorWoCatch
set_option linter.unusedVariables false
set_option linter.unusedSimpArgs false
set_option maxRecDepth 100000
namespace Go.Proofs.YtfjkgeeaeolkhaaDoor
open Go.RowKit Base Wo

def preT (s : Nm) : List Prt := if isTilde s then [.mk 5 [] [] false []] else []
def restT (s : Nm) : Nm := if isTilde s then s.drop 1 else s
theorem restT_le (s : Nm) : (restT s).length ≤ s.length := by
  unfold restT
  split
  · rw [List.length_drop]; omega
  · exact Nat.le_refl _
theorem tilde_1 {s : Nm} (h : isTilde s = true) : 1 ≤ s.length := by
  cases s with
  | nil => simp [isTilde, has, List.isPrefixOf] at h
  | cons c r => simp
theorem parseE_of {G : Nat} {s : Nm} {x : Except Int Em} (h : loopM (partM G 0) (·.isEmpty) G (restT s) = some x) : parseE G s = some (addE (preT s) x) := by
  unfold parseE
  unfold restT at h
  unfold preT
  by_cases ht : isTilde s = true
  · rw [if_pos ht] at h
    rw [if_pos ht, if_pos ht, h]
    cases x <;> rfl
  · rw [if_neg ht] at h
    rw [if_neg ht, if_neg ht, h, addE_nil]
def ParseFn (W : World) (b B : Nat) (v : Value) (s : Nm) (r : Ending) (W' : World) : Prop := ∃ f x, parseE f s = some x ∧ StepR W b B v [] 0 x r W'
theorem build_pt5 (w : World) : (Instr.build ptT #[(0, .int .i64 5)]).run Tryd.prog w = .ok (.agg #[.int .i64 5, .string ⟨#[]⟩, .string ⟨#[]⟩, .bool false, .slice none 0 0]) w := by go_simp
set_option maxHeartbeats 4000000 in
theorem parse_fn_calls (W : World) (b B rb : Nat) (v : Value) (s : Nm) (h : Rd W b B v [] s 0) (hs : s.length ≤ 30000) (hr : W.cell? ⟨rb, 0, none⟩ = some (.string (str s))) (hB : B ≤ W.heap.size) (hO : OpsT W) (hg : gOps < B) :
    Calls Tryd.prog 13 #[.pointer (some ⟨b, 0, none⟩), .pointer (some ⟨rb, 0, none⟩)] W (ParseFn W b B v s) := by
  have HO := Lib.hid hO
  have HH := Lib.hid h
  have HS0 : Hid (Sofar W W b B v v [] s 0) := ⟨h, Turn.refl _ _ _, fun _ h _ => h⟩
  clear hO h
  obtain ⟨ti, hti⟩ : ∃ ti, isTilde s = ti := ⟨_, rfl⟩
  have HTi := Lib.hid hti
  clear hti
  go_enter Tryd.func13, Tryd.ntmps13
  go_upto_region 0 with fail
  go_cut [8] (fun s8 wx => s8 = .bool ti ∧ wx = W)
  case first =>
    by_cases h1 : s = [126]
    · obtain rfl : ti = true := by rw [← HTi.out, h1]; rfl
      have t1 : ((str s).toList == [126]) = true := by rw [str_toList, h1]; rfl
      have t2 : str s = ⟨#[126]⟩ := by rw [h1]; rfl
      have t3 : (str s == (⟨#[126]⟩ : ByteArray)) = true := by rw [t2]; rfl
      clear t2 h1
      go_wp2_with fail
      go_meet
      exact ⟨rfl, rfl⟩
    · have t1 : ((str s).toList == [126]) = false := by rw [str_toList, beq_eq_false_iff_ne]; exact h1
      have HTh : Hid (has [126, 47] s = ti) := by
        show _ = _
        rw [← HTi.out]
        unfold isTilde
        rw [beq_eq_false_iff_ne.2 h1, Bool.false_or]
      clear h1
      go_wp2_with fail
      refine (has_calls _ b B v [] s 0 HH.out [126, 47]).mono ?_
      rintro r w2 ⟨rfl, hw2⟩
      obtain rfl := hw2.symm
      rw [HTh.out]
      go_wp2_with fail
      go_meet
      exact ⟨rfl, rfl⟩
  case rest =>
    obtain ⟨rfl, hw⟩ := hcut
    have hw2 := hw.symm
    subst hw2
    clear hw
    go_upto_if 8 with fail
    go_cut [] (fun wx => ∃ vi, Sofar W wx b B v vi (puts [] (preT s)) (restT s) 0)
    case first =>
      cases ti with
      | false =>
        have HPr : Hid (preT s = [] ∧ restT s = s) := by show _ ∧ _; unfold preT restT; rw [HTi.out]; exact ⟨rfl, rfl⟩
        go_wp2_with fail
        go_meet
        exact ⟨v, by rw [HPr.out.1, HPr.out.2]; exact HS0.out⟩
      | true =>
        have HPr : Hid (preT s = [.mk 5 [] [] false []] ∧ restT s = s.drop 1) := by show _ ∧ _; unfold preT restT; rw [HTi.out]; exact ⟨rfl, rfl⟩
        have h1 := tilde_1 HTi.out
        go_wp2_with fail
        refine (take_yes _ b B v [] s 0 HH.out 1 (by omega) h1).mono ?_
        rintro r w3 ⟨rfl, hw3⟩
        have HS3 : Hid (Sofar W w3 b B v v [] (s.drop 1) 0) := by show Sofar _ _ _ _ _ _ _ _ _; rw [hw3]; exact HS0.out.text _
        clear hw3
        go_wp2_with fail
        refine (put_plain w3 b B v [] (s.drop 1) 0 HS3.out.rd 5 [] false (by rw [wt_nil]; simp) (Nat.le_trans hB HS3.out.turn.size)).mono ?_
        rintro r w9 ⟨rfl, hp⟩
        have HP : Hid (PutPost w3 b B v (putP [] (.mk 5 [] [] false [])) (s.drop 1) 0 (.returned (.tuple #[])) w9) := ⟨rfl, hp⟩
        clear hp
        go_wp2_with fail
        go_meet
        rw [HPr.out.1, HPr.out.2]
        exact HS3.out.put HP.out
    case rest =>
      obtain ⟨vi, hvi⟩ := hcut
      have HV := Lib.hid hvi
      clear hvi HS0 HTi
      have HRl := Lib.hid (restT_le s)
      go_wp2_with fail
      go_loopw [] (fun wr => ∃ (vi : Value) (ps : List Prt) (q : Nm), Sofar W wr b B v vi (puts [] (preT s ++ ps)) q 0 ∧ Upto (fun f => partM f 0) (·.isEmpty) (restT s) ps q ∧ wt ps + 2 * q.length ≤ 2 * (restT s).length) (fun wr => match wr.cell? ⟨b, 1, none⟩ with | some (.string t) => t.size | _ => 0)
      case atStart => exact ⟨vi, [], restT s, by rw [List.append_nil]; exact HV.out, upto_start _ _ _, by rw [wt_nil]; omega⟩
      case round =>
        obtain ⟨vj, ps, q, hsf, hu, hq⟩ := hrel
        have HS := Lib.hid hsf
        have HU := Lib.hid hu
        have hqn : q.length ≤ s.length := by have := HRl.out; omega
        obtain ⟨⟨c0, c1, c2⟩, f0, f1, f2⟩ := rd_cells hsf.rd.box
        clear hsf hu
        by_cases h0 : q = []
        · subst h0
          have t4 : (str []).toList.isEmpty = true := by rw [str_toList]; rfl
          have t5 : (!(str []).toList.isEmpty) = false := by rw [str_toList]; rfl
          have HD := Lib.hid (upto_done HU.out rfl)
          go_wp2_with fail
          refine bodyPost_end (v := .tuple #[]) (results_none rfl _ _ _) rfl ?_
          obtain ⟨G, hG⟩ := HD.out
          exact ⟨G, .ok (preT s ++ ps, []), parseE_of hG, HS.out.turn, rfl, vj, HS.out.rd, HS.out.own⟩
        · have t4 : (str q).toList.isEmpty = false := by rw [str_toList]; simpa using h0
          have t5 : (!(str q).toList.isEmpty) = true := by rw [t4]; rfl
          have HHq : Hid (q.isEmpty = false) := by show _ = _; simpa using h0
          have HWt : Hid (wt (puts [] (preT s ++ ps)) + 2 * q.length ≤ 100000) := by
            have := wt_puts (preT s ++ ps) []
            rw [wt_append, wt_nil] at this
            have h9 : wt (preT s) ≤ 1 := by unfold preT; split <;> simp [wt, Prt.t]
            have := HRl.out
            show _ ≤ _
            omega
          clear h0
          go_wp2_with fail
          clear c0 c1 c2 f0 f1 f2 t4 t5
          refine (part_ih (q.length + 1) wr b B vj _ q 0 HS.out.rd (Nat.lt_succ_self _) HWt.out (Nat.le_trans hB HS.out.turn.size) (HO.out.turn HS.out.turn (Nat.lt_of_lt_of_le hg HH.out.bB) (fun g hg2 => Nat.lt_of_lt_of_le hg (HH.out.own g hg2).1)) hg).mono ?_
          rintro r w3 ⟨f, x, hx, hs⟩
          cases x with
          | error e =>
            obtain ⟨ht, rfl⟩ := hs
            obtain ⟨G, hG⟩ := upto_err (hm_part 0) HU.out HHq.out hx
            exact ⟨rfl, G, .error e, parseE_of hG, HS.out.turn2 ht, rfl⟩
          | ok y =>
            obtain ⟨v', hs3⟩ := HS.out.step hs
            obtain ⟨_, rfl, _⟩ := hs
            have hl := part_less (p := y.1) (q := y.2) hx
            have HS3 : Hid (Sofar W w3 b B v v' (puts [] (preT s ++ (ps ++ y.1))) y.2 0) := by show Sofar _ _ _ _ _ _ _ _ _; rw [← List.append_assoc, puts_append]; exact hs3
            have HU3 := Lib.hid (upto_step (p := y.1) (q' := y.2) (hm_part 0) HU.out HHq.out hx)
            have hc3 := (rd_cells hs3.rd.box).1.2.1
            have hc2 := (rd_cells HS.out.rd.box).1.2.1
            clear hs3 hx
            go_wp2_with fail
            go_roundw
            case rel => exact ⟨v', ps ++ y.1, y.2, HS3.out, HU3.out, by rw [wt_append]; omega⟩
            case measure => rw [hc3, hc2]; exact hl.1
end Go.Proofs.YtfjkgeeaeolkhaaDoor
