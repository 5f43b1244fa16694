/-
  FdsPlay: which number stands for which file, step by step: the walk.
-/
import Derived.Test.YtghjmhhchhgppaaDoorFdAwake
set_option linter.unusedVariables false
set_option maxRecDepth 100000
namespace Go.Proofs.YtghjmhhchhgppaaDoor
open Go.RowKit Base

abbrev Act3 := Int × Int × Bool
def actC (x : Act3) : List Value := [.int .i64 x.1, .int .i64 x.2.1, .bool x.2.2]
theorem actC_len (x : Act3) : (actC x).length = 3 := rfl
abbrev Acts := RowOf (Ap.cellsAt actC) 3
def intC (x : Int) : List Value := [.int .i64 x]
abbrev Ints := RowOf (Ap.cellsAt intC) 1
theorem info_act : (Tryd.prog.info? 32).map (fun i => (i.zero, i.size, i.bytes)) = some (some (.agg #[.int .i64 0, .int .i64 0, .bool false]), 3, 24) := by kernel_rfl
theorem info_intA : (Tryd.prog.info? 3).map (fun i => (i.zero, i.size, i.bytes)) = some (some (.int .i64 0), 1, 8) := by kernel_rfl
theorem acts_at {w : World} {a : Option Addr} {n cap : Nat} {L : List Act3} (h : Acts w a n cap L) : ∃ b off, (∀ W, Below w.heap.size w W → ∀ k (hk : k < L.length), W.cell? ⟨b, off + k * 3, none⟩ = some (.int .i64 L[k].1) ∧ W.cell? ⟨b, off + k * 3 + 1, none⟩ = some (.int .i64 L[k].2.1) ∧ W.cell? ⟨b, off + k * 3 + 2, none⟩ = some (.bool L[k].2.2)) ∧
    ∀ (kd : IntKind) (k : Nat) (w' : World), k < n → (Instr.indexAt 22 (.slice a n cap) (.int kd (k : Int))).run Tryd.prog w' = .ok (.pointer (some ⟨b, off + k * 3, none⟩)) w' := by
  obtain ⟨i0, hi, _, hi2, _⟩ := info_parts info_act
  obtain ⟨b, off, h1, h2⟩ := h.at (P := Tryd.prog)
  exact ⟨b, off, fun W hb k hk => ⟨cell_below hb (Nat.le_refl _) (h1 k hk 0 _ rfl), cell_below hb (Nat.le_refl _) (h1 k hk 1 _ rfl), cell_below hb (Nat.le_refl _) (h1 k hk 2 _ rfl)⟩, fun kd k w' hk => h2 22 32 i0 Tryd.underlying22 hi hi2 kd k w' hk⟩
theorem ints_at {w : World} {a : Option Addr} {n cap : Nat} {L : List Int} (h : Ints w a n cap L) : ∃ b off, (∀ W, Below w.heap.size w W → ∀ k (hk : k < L.length), W.cell? ⟨b, off + k, none⟩ = some (.int .i64 L[k])) ∧
    ∀ (kd : IntKind) (k : Nat) (w' : World), k < n → (Instr.indexAt 23 (.slice a n cap) (.int kd (k : Int))).run Tryd.prog w' = .ok (.pointer (some ⟨b, off + k, none⟩)) w' := by
  obtain ⟨i0, hi, _, hi2, _⟩ := info_parts info_intA
  obtain ⟨b, off, h1, h2⟩ := h.at (P := Tryd.prog)
  refine ⟨b, off, fun W hb k hk => cell_below hb (Nat.le_refl _) (by have := h1 k hk 0 _ rfl; simpa using this), fun kd k w' hk => ?_⟩
  have := h2 23 3 i0 Tryd.underlying23 hi hi2 kd k w' hk
  simpa using this
def actS (L : List Pr) (x : Act3) : List Pr := if x.2.2 = true then withoutB L x.1 else withB x.1 x.2.1 L
def playB (l : List Act3) : List Pr := l.foldl actS firstB
theorem play_take (l : List Act3) (k : Nat) (h : k < l.length) : playB (l.take (k + 1)) = actS (playB (l.take k)) l[k] := by
  unfold playB
  rw [List.take_succ_eq_append_getElem h, List.foldl_append]
  rfl
def FineA (l : List Act3) : Prop := ∀ x ∈ l, I64n x.1 ∧ I64n x.2.1
theorem act_fine {L : List Pr} {x : Act3} (h1 : Rises L) (h2 : Smalls L) (hx : I64n x.1 ∧ I64n x.2.1) : Rises (actS L x) ∧ Smalls (actS L x) ∧ (actS L x).length ≤ L.length + 1 := by
  unfold actS
  split
  · exact ⟨rises_without _ h1, smalls_without _ h2, Nat.le_succ_of_le (without_len _ _)⟩
  · exact ⟨rises_with _ _ h1, smalls_with hx.1 hx.2 h2, with_len _ _ _⟩
theorem play_fine (l : List Act3) (h : FineA l) (k : Nat) (hk : k ≤ l.length) : Rises (playB (l.take k)) ∧ Smalls (playB (l.take k)) ∧ (playB (l.take k)).length ≤ 3 + k := by
  induction k with
  | zero => exact ⟨rises_first, smalls_first, Nat.le_refl _⟩
  | succ k ih =>
    obtain ⟨h1, h2, h3⟩ := ih (by omega)
    rw [play_take l k (by omega)]
    obtain ⟨g1, g2, g3⟩ := act_fine h1 h2 (h _ (List.getElem_mem (show k < l.length by omega)))
    exact ⟨g1, g2, by omega⟩
theorem act_f0 (b o : Nat) (w : World) : (Instr.fieldAt 32 (.pointer (some ⟨b, o, none⟩)) 0).run Tryd.prog w = .ok (.pointer (some ⟨b, o, none⟩)) w := by rfl
theorem act_f1 (b o : Nat) (w : World) : (Instr.fieldAt 32 (.pointer (some ⟨b, o, none⟩)) 1).run Tryd.prog w = .ok (.pointer (some ⟨b, o + 1, none⟩)) w := by rfl
theorem TabIn.mono {w w1 w2 : World} {l : List Pr} {a : Option Addr} {c : Nat} (h : Prs w1 a l.length c l) (hb : Below w1.heap.size w1 w2) : Prs w2 a l.length c l := h.below (Ap.stable_cellsAt prC) hb
theorem fd_with_calls' (w : World) (a : Option Addr) (n c : Nat) (l : List Pr) (fd k : Int) (L2 : List Pr) (he : withB fd k l = L2) (h : Prs w a n c l) (hr : Rises l) (hl : l.length ≤ 900000) :
    Calls Tryd.prog 11 #[.slice a n c, .int .i64 fd, .int .i64 k] w (TabPost w L2) := he ▸ fd_with_calls w a n c l fd k h hr hl
theorem ref_with_calls' (w : World) (a : Option Addr) (n c : Nat) (l : List Pr) (fd k : Int) (L2 : List Pr) (he : withB fd k l = L2) (h : Prs w a n c l) (hl : n ≤ 1000000) :
    Calls Tryd.prog 12 #[.slice a n c, .int .i64 fd, .int .i64 k] w (RefPost w L2) := he ▸ ref_with_calls w a n c l fd k h hl
set_option maxHeartbeats 16000000 in
theorem fds_play (w : World) (a0 : Option Addr) (n0 c0 : Nat) (l : List Act3) (h0 : Acts w a0 n0 c0 l) (hf : FineA l) (a1 : Option Addr) (n1 c1 : Nat) (ask : List Int) (h1 : Ints w a1 n1 c1 ask) (ht : Tb w) :
    Calls Tryd.prog 3 #[.slice a0 n0 c0, .slice a1 n1 c1] w fun e w' => e = .returned (.bool true) ∧ Below w.heap.size w w' := by
  obtain rfl := h0.1
  obtain rfl := h1.1
  have hn0 := h0.2.1
  have hc0 := h0.2.2.1
  have hn1 := h1.2.1
  have hc1 := h1.2.2.1
  unfold maxLen at hc0 hc1
  obtain ⟨b0, o0, hcs0, hix0⟩ := acts_at h0
  obtain ⟨b1, o1, hcs1, hix1⟩ := ints_at h1
  have HC0 := Lib.hid hcs0
  have HI0 := Lib.hid hix0
  have HC1 := Lib.hid hcs1
  have HI1 := Lib.hid hix1
  have HF := Lib.hid hf
  have HT := Lib.hid ht
  clear h0 h1 hcs0 hix0 hcs1 hix1 hf ht
  go_enter Tryd.func3, Tryd.ntmps3
  go_wp2_with fail
  refine (awake_calls w HT.out).mono ?_
  rintro e w1 ⟨rfl, hb1⟩
  have HB1 := Lib.hid hb1
  clear hb1
  by_cases hb0 : 60 < l.length
  · have a1 : decide ((60 : Int) < (l.length : Int)) = true := decide_eq_true (by omega)
    have a2 : (60 : Int) < (l.length : Int) := by omega
    go_wp2_with fail
    go_ret
    exact ⟨rfl, HB1.out⟩
  have a1 : decide ((60 : Int) < (l.length : Int)) = false := decide_eq_false (by omega)
  have a2 : ¬ ((60 : Int) < (l.length : Int)) := by omega
  by_cases hb1 : 20 < ask.length
  · have d1 : decide ((20 : Int) < (ask.length : Int)) = true := decide_eq_true (by omega)
    have d2 : (20 : Int) < (ask.length : Int) := by omega
    go_wp2_with fail
    go_ret
    exact ⟨rfl, HB1.out⟩
  have d1 : decide ((20 : Int) < (ask.length : Int)) = false := decide_eq_false (by omega)
  have d2 : ¬ ((20 : Int) < (ask.length : Int)) := by omega
  go_wp2_with fail
  refine (fd_first_calls w1).mono ?_
  rintro e w2 hp
  obtain ⟨at1, ct1, rfl, hr1, hb2⟩ := tabIn hp
  have HB2 := Lib.hid (HB1.out.trans (hb2.mono HB1.out.size))
  have HP1 := Lib.hid hr1
  clear hp hb2 hr1
  rw [show firstB.length = 3 from rfl] at HP1 ⊢
  go_wp2_with fail
  refine (ref_first_calls w2).mono ?_
  rintro e w3 hp
  obtain ⟨aw1, cw1, rfl, hr2, hb3⟩ := refIn hp
  have HB3 := Lib.hid (HB2.out.trans (hb3.mono HB2.out.size))
  have HP1' := Lib.hid (HP1.out.below (Ap.stable_cellsAt prC) hb3)
  have HQ1 := Lib.hid hr2
  clear hp hb3 hr2 HP1
  rw [show firstB.length = 3 from rfl] at HQ1 ⊢
  go_wp2_with fail
  go_loopw [6, 7, 8] (fun v6 v7 v8 wr => ∃ (k : Nat) (at' aw' : Option Addr) (ct cw : Nat), k ≤ l.length ∧ v8 = .int .i64 k ∧ v6 = .slice at' (playB (l.take k)).length ct ∧ v7 = .slice aw' (playB (l.take k)).length cw ∧ Prs wr at' (playB (l.take k)).length ct (playB (l.take k)) ∧ Prs wr aw' (playB (l.take k)).length cw (playB (l.take k)) ∧ Below w.heap.size w wr) (fun _ _ v8 _ => l.length - (intOf v8).toNat)
  case atStart => exact ⟨0, at1, aw1, ct1, cw1, Nat.zero_le _, rfl, rfl, rfl, HP1'.out, HQ1.out, HB3.out⟩
  case round =>
    clear HP1' HQ1 HB3 HB2 HB1
    obtain ⟨k, ta, wa, ct, cw, hk, rfl, rfl, rfl, hP, hQ, hb⟩ := hrel
    obtain ⟨hr, hs, hl⟩ := play_fine l HF.out k hk
    by_cases hlt : k < l.length
    · have HPl := Lib.hid (play_take l k hlt)
      have HFx := Lib.hid (HF.out l[k] (List.getElem_mem hlt))
      have HI := Lib.hid fun W => HI0.out .i64 k W hlt
      have HC := Lib.hid fun W h => HC0.out W h k hlt
      generalize l[k]'hlt = x at *
      generalize o0 + k * 3 = q at *
      generalize playB (l.take k) = L at *
      have HP := Lib.hid hP
      have HQ := Lib.hid hQ
      have HB := Lib.hid hb
      have HR := Lib.hid hr
      have HS := Lib.hid hs
      have hL : L.length ≤ 63 := by omega
      have HL := Lib.hid hl
      obtain ⟨fd, kk, nt⟩ := x
      have HSho := Lib.hid (ref_show_calls wr wa _ cw L hQ hs (by omega))
      clear hP hQ hb hr hs hl
      have u3 : decide (k < l.length) = true := decide_eq_true (by omega)
      have u1 : decide ((k : Int) < (l.length : Int)) = true := decide_eq_true (by omega)
      have u2 : (k : Int) < (l.length : Int) := by omega
      go_wp2_with fail
      refine HSho.out.mono ?_
      rintro e w4 ⟨rfl, hb4⟩
      have HB4 := Lib.hid (HB.out.trans (hb4.mono HB.out.size))
      have HP4 := Lib.hid (HP.out.below (Ap.stable_cellsAt prC) hb4)
      have HQ4 := Lib.hid (HQ.out.below (Ap.stable_cellsAt prC) hb4)
      obtain ⟨x0, x1, x2⟩ := HC.out w4 HB4.out
      have hix := HI.out
      clear hb4 HB HP HQ HSho
      cases nt
      · -- put
        have HWe : Hid (withB fd kk L = withB fd kk L) := rfl
        have HW := HWe
        have HWr := HWe
        have HL2 : Hid (withB fd kk L = playB (l.take (k + 1))) := by show _ = _; rw [HPl.out]; rfl
        have HR2 := Lib.hid (rises_with fd kk HR.out)
        have HS2 := Lib.hid (smalls_with HFx.out.1 HFx.out.2 HS.out)
        have hL2 : (withB fd kk L).length ≤ 64 := by have := with_len fd kk L; omega
        clear HFx HPl
        obtain ⟨L2, hL2e⟩ : ∃ L2, withB fd kk L = L2 := ⟨_, rfl⟩
        rw [hL2e] at HL2 HR2 HS2 hL2
        clear HWe HW HWr
        have HWe := Lib.hid hL2e
        have HW := HWe
        have HWr := HWe
        clear hL2e
        go_wp2_with fail
        have X0 := Lib.hid x0
        have X1 := Lib.hid x1
        clear x0 x1 x2 hix
        refine Rg.wp_region_rgl [] [Rg.Is (.slice ta L.length ct), Rg.Is (.slice a0 l.length c0), Rg.Is (.int .i64 (k : Int)), Rg.Is (.pointer (some ⟨b0, q, none⟩)), Rg.Is (.pointer (some ⟨b0, q, none⟩)), Rg.Is (.int .i64 fd), Rg.Is (.slice a0 l.length c0), Rg.Is (.int .i64 (k : Int)), Rg.Is (.pointer (some ⟨b0, q, none⟩)), Rg.Is (.pointer (some ⟨b0, q + 1, none⟩)), Rg.Is (.int .i64 kk), (fun v x => ∃ a c, v = .slice a L2.length c ∧ Prs x a L2.length c L2), (fun v x => ∃ a c, v = .slice a L2.length c ∧ Prs x a L2.length c L2)] (by kernel_rfl) (by kernel_rfl) (by kernel_rfl) ⟨Rg.st_is _, Rg.st_is _, Rg.st_is _, Rg.st_is _, Rg.st_is _, Rg.st_is _, Rg.st_is _, Rg.st_is _, Rg.st_is _, Rg.st_is _, Rg.st_is _, fun v w w' h hb => h.elim fun a h => h.elim fun c h => ⟨a, c, h.1, h.2.below (Ap.stable_cellsAt prC) hb⟩, fun v w w' h hb => h.elim fun a h => h.elim fun c h => ⟨a, c, h.1, h.2.below (Ap.stable_cellsAt prC) hb⟩, trivial⟩ ⟨rfl, rfl, rfl, rfl, rfl, rfl, rfl, rfl, rfl, rfl, rfl, rfl, rfl, trivial⟩ ⟨?_, ?_, ?_, ?_, ?_, ?_, ?_, ?_, ?_, ?_, ?_, ?_, ?_, trivial⟩ ?_
        · intro _ a wx hb hk
          have h6 : a.eval (.tmp 6) = .slice ta L.length ct := Eq.mp (by kernel_rfl) (hk 6 (by decide))
          exact Rg.does_move ⟨Below.refl _ _, h6⟩
        · intro _ a wx hb hk
          have h0 : a.eval (.tmp 0) = .slice a0 l.length c0 := Eq.mp (by kernel_rfl) (hk 0 (by decide))
          exact Rg.does_move ⟨Below.refl _ _, h0⟩
        · intro _ a wx hb hk
          have h8 : a.eval (.tmp 8) = .int .i64 (k : Int) := Eq.mp (by kernel_rfl) (hk 8 (by decide))
          exact Rg.does_move ⟨Below.refl _ _, h8⟩
        · intro _ a wx hb hk
          have h58 : a.eval (.tmp 58) = .slice a0 l.length c0 := Eq.mp (by kernel_rfl) (hk 58 (by decide))
          have h59 : a.eval (.tmp 59) = .int .i64 (k : Int) := Eq.mp (by kernel_rfl) (hk 59 (by decide))
          exact Rg.does_index _ _ _ h58 h59 (HI.out wx) ⟨Below.refl _ _, rfl⟩
        · intro _ a wx hb hk
          have h60 : a.eval (.tmp 60) = .pointer (some ⟨b0, q, none⟩) := Eq.mp (by kernel_rfl) (hk 60 (by decide))
          exact Rs.does_field _ _ h60 (act_f0 _ _ wx) ⟨Below.refl _ _, rfl⟩
        · intro _ a wx hb hk
          have h61 : a.eval (.tmp 61) = .pointer (some ⟨b0, q, none⟩) := Eq.mp (by kernel_rfl) (hk 61 (by decide))
          exact Rg.does_load _ _ h61 (load_intP (cell_below hb (Nat.le_refl _) X0.out)) ⟨Below.refl _ _, rfl⟩
        · intro _ a wx hb hk
          have h0 : a.eval (.tmp 0) = .slice a0 l.length c0 := Eq.mp (by kernel_rfl) (hk 0 (by decide))
          exact Rg.does_move ⟨Below.refl _ _, h0⟩
        · intro _ a wx hb hk
          have h8 : a.eval (.tmp 8) = .int .i64 (k : Int) := Eq.mp (by kernel_rfl) (hk 8 (by decide))
          exact Rg.does_move ⟨Below.refl _ _, h8⟩
        · intro _ a wx hb hk
          have h63 : a.eval (.tmp 63) = .slice a0 l.length c0 := Eq.mp (by kernel_rfl) (hk 63 (by decide))
          have h64 : a.eval (.tmp 64) = .int .i64 (k : Int) := Eq.mp (by kernel_rfl) (hk 64 (by decide))
          exact Rg.does_index _ _ _ h63 h64 (HI.out wx) ⟨Below.refl _ _, rfl⟩
        · intro _ a wx hb hk
          have h65 : a.eval (.tmp 65) = .pointer (some ⟨b0, q, none⟩) := Eq.mp (by kernel_rfl) (hk 65 (by decide))
          exact Rs.does_field _ _ h65 (act_f1 _ _ wx) ⟨Below.refl _ _, rfl⟩
        · intro _ a wx hb hk
          have h66 : a.eval (.tmp 66) = .pointer (some ⟨b0, q + 1, none⟩) := Eq.mp (by kernel_rfl) (hk 66 (by decide))
          exact Rg.does_load _ _ h66 (load_i64P (cell_below hb (Nat.le_refl _) X1.out)) ⟨Below.refl _ _, rfl⟩
        · intro _ a wx hb hk
          have h57 : a.eval (.tmp 57) = .slice ta L.length ct := Eq.mp (by kernel_rfl) (hk 57 (by decide))
          have h62 : a.eval (.tmp 62) = .int .i64 fd := Eq.mp (by kernel_rfl) (hk 62 (by decide))
          have h67 : a.eval (.tmp 67) = .int .i64 kk := Eq.mp (by kernel_rfl) (hk 67 (by decide))
          refine Rg.does_func #[.slice ta L.length ct, .int .i64 fd, .int .i64 kk] Tryd.func11 (by kernel_rfl) (by kernel_rfl) (by simp [h57, h62, h67]) (fd_with_calls' wx ta _ ct L fd kk L2 HWe.out (HP4.out.below (Ap.stable_cellsAt prC) hb) HR.out (by omega)) ?_
          rintro e w' hp
          obtain ⟨a5, c5, rfl, hr5, hb5⟩ := tabIn hp
          exact ⟨_, rfl, hb5, a5, c5, rfl, hr5⟩
        · intro _ a wx hb hk
          have h68 : (fun v x => ∃ a c, v = .slice a L2.length c ∧ Prs x a L2.length c L2) (a.eval (.tmp 68)) wx := Eq.mp (by kernel_rfl) (hk 68 (by decide))
          exact Rg.does_assign ⟨Below.refl _ _, h68⟩
        intro vals wD hbD hL
        obtain ⟨g0, g1, g2, g3, g4, g5, g6, g7, g8, g9, g10, g11, g12, _⟩ := hL
        obtain ⟨ta2, ct2, g12', hP5⟩ : ∃ a c, vals 12 = .slice a L2.length c ∧ Prs wD a L2.length c L2 := g12
        have HB5 := Lib.hid (HB4.out.trans (hbD.mono HB4.out.size))
        have HP5 := Lib.hid hP5
        have HPo := Lib.hid (HP4.out.below (Ap.stable_cellsAt prC) hbD)
        have HQ5 := Lib.hid (HQ4.out.below (Ap.stable_cellsAt prC) hbD)
        obtain ⟨x0, x1, x2⟩ := HC.out wD HB5.out
        clear g0 g1 g2 g3 g4 g5 g6 g7 g8 g9 g10 g11 hbD hP5 HP4 HQ4 HB4 X0 X1
        simp only [Rg.putAll, List.setIfInBounds_toArray, List.set_cons_succ, List.set_cons_zero, g12']
        clear g12'
        go_wp2_with fail
        have X0 := Lib.hid x0
        have X1 := Lib.hid x1
        clear x0 x1 x2
        refine Rg.wp_region_rgl [] [Rg.Is (.slice wa L.length cw), Rg.Is (.slice a0 l.length c0), Rg.Is (.int .i64 (k : Int)), Rg.Is (.pointer (some ⟨b0, q, none⟩)), Rg.Is (.pointer (some ⟨b0, q, none⟩)), Rg.Is (.int .i64 fd), Rg.Is (.slice a0 l.length c0), Rg.Is (.int .i64 (k : Int)), Rg.Is (.pointer (some ⟨b0, q, none⟩)), Rg.Is (.pointer (some ⟨b0, q + 1, none⟩)), Rg.Is (.int .i64 kk), (fun v x => ∃ a c, v = .slice a L2.length c ∧ Prs x a L2.length c L2), (fun v x => ∃ a c, v = .slice a L2.length c ∧ Prs x a L2.length c L2)] (by kernel_rfl) (by kernel_rfl) (by kernel_rfl) ⟨Rg.st_is _, Rg.st_is _, Rg.st_is _, Rg.st_is _, Rg.st_is _, Rg.st_is _, Rg.st_is _, Rg.st_is _, Rg.st_is _, Rg.st_is _, Rg.st_is _, fun v w w' h hb => h.elim fun a h => h.elim fun c h => ⟨a, c, h.1, h.2.below (Ap.stable_cellsAt prC) hb⟩, fun v w w' h hb => h.elim fun a h => h.elim fun c h => ⟨a, c, h.1, h.2.below (Ap.stable_cellsAt prC) hb⟩, trivial⟩ ⟨rfl, rfl, rfl, rfl, rfl, rfl, rfl, rfl, rfl, rfl, rfl, rfl, rfl, trivial⟩ ⟨?_, ?_, ?_, ?_, ?_, ?_, ?_, ?_, ?_, ?_, ?_, ?_, ?_, trivial⟩ ?_
        · intro _ a wx hb hk
          have h7 : a.eval (.tmp 7) = .slice wa L.length cw := Eq.mp (by kernel_rfl) (hk 7 (by decide))
          exact Rg.does_move ⟨Below.refl _ _, h7⟩
        · intro _ a wx hb hk
          have h0 : a.eval (.tmp 0) = .slice a0 l.length c0 := Eq.mp (by kernel_rfl) (hk 0 (by decide))
          exact Rg.does_move ⟨Below.refl _ _, h0⟩
        · intro _ a wx hb hk
          have h8 : a.eval (.tmp 8) = .int .i64 (k : Int) := Eq.mp (by kernel_rfl) (hk 8 (by decide))
          exact Rg.does_move ⟨Below.refl _ _, h8⟩
        · intro _ a wx hb hk
          have h70 : a.eval (.tmp 70) = .slice a0 l.length c0 := Eq.mp (by kernel_rfl) (hk 70 (by decide))
          have h71 : a.eval (.tmp 71) = .int .i64 (k : Int) := Eq.mp (by kernel_rfl) (hk 71 (by decide))
          exact Rg.does_index _ _ _ h70 h71 (HI.out wx) ⟨Below.refl _ _, rfl⟩
        · intro _ a wx hb hk
          have h72 : a.eval (.tmp 72) = .pointer (some ⟨b0, q, none⟩) := Eq.mp (by kernel_rfl) (hk 72 (by decide))
          exact Rs.does_field _ _ h72 (act_f0 _ _ wx) ⟨Below.refl _ _, rfl⟩
        · intro _ a wx hb hk
          have h73 : a.eval (.tmp 73) = .pointer (some ⟨b0, q, none⟩) := Eq.mp (by kernel_rfl) (hk 73 (by decide))
          exact Rg.does_load _ _ h73 (load_intP (cell_below hb (Nat.le_refl _) X0.out)) ⟨Below.refl _ _, rfl⟩
        · intro _ a wx hb hk
          have h0 : a.eval (.tmp 0) = .slice a0 l.length c0 := Eq.mp (by kernel_rfl) (hk 0 (by decide))
          exact Rg.does_move ⟨Below.refl _ _, h0⟩
        · intro _ a wx hb hk
          have h8 : a.eval (.tmp 8) = .int .i64 (k : Int) := Eq.mp (by kernel_rfl) (hk 8 (by decide))
          exact Rg.does_move ⟨Below.refl _ _, h8⟩
        · intro _ a wx hb hk
          have h75 : a.eval (.tmp 75) = .slice a0 l.length c0 := Eq.mp (by kernel_rfl) (hk 75 (by decide))
          have h76 : a.eval (.tmp 76) = .int .i64 (k : Int) := Eq.mp (by kernel_rfl) (hk 76 (by decide))
          exact Rg.does_index _ _ _ h75 h76 (HI.out wx) ⟨Below.refl _ _, rfl⟩
        · intro _ a wx hb hk
          have h77 : a.eval (.tmp 77) = .pointer (some ⟨b0, q, none⟩) := Eq.mp (by kernel_rfl) (hk 77 (by decide))
          exact Rs.does_field _ _ h77 (act_f1 _ _ wx) ⟨Below.refl _ _, rfl⟩
        · intro _ a wx hb hk
          have h78 : a.eval (.tmp 78) = .pointer (some ⟨b0, q + 1, none⟩) := Eq.mp (by kernel_rfl) (hk 78 (by decide))
          exact Rg.does_load _ _ h78 (load_i64P (cell_below hb (Nat.le_refl _) X1.out)) ⟨Below.refl _ _, rfl⟩
        · intro _ a wx hb hk
          have h69 : a.eval (.tmp 69) = .slice wa L.length cw := Eq.mp (by kernel_rfl) (hk 69 (by decide))
          have h74 : a.eval (.tmp 74) = .int .i64 fd := Eq.mp (by kernel_rfl) (hk 74 (by decide))
          have h79 : a.eval (.tmp 79) = .int .i64 kk := Eq.mp (by kernel_rfl) (hk 79 (by decide))
          refine Rg.does_func #[.slice wa L.length cw, .int .i64 fd, .int .i64 kk] Tryd.func12 (by kernel_rfl) (by kernel_rfl) (by simp [h69, h74, h79]) (ref_with_calls' wx wa _ cw L fd kk L2 HWe.out (HQ5.out.below (Ap.stable_cellsAt prC) hb) (by omega)) ?_
          rintro e w' hp
          obtain ⟨a5, c5, rfl, hr5, hb5⟩ := refIn hp
          exact ⟨_, rfl, hb5, a5, c5, rfl, hr5⟩
        · intro _ a wx hb hk
          have h80 : (fun v x => ∃ a c, v = .slice a L2.length c ∧ Prs x a L2.length c L2) (a.eval (.tmp 80)) wx := Eq.mp (by kernel_rfl) (hk 80 (by decide))
          exact Rg.does_assign ⟨Below.refl _ _, h80⟩
        intro vals_1 wE hbD hL
        obtain ⟨g0, g1, g2, g3, g4, g5, g6, g7, g8, g9, g10, g11, g12, _⟩ := hL
        obtain ⟨wa2, cw2, g12', hQ6⟩ : ∃ a c, vals_1 12 = .slice a L2.length c ∧ Prs wE a L2.length c L2 := g12
        have HB6 := Lib.hid (HB5.out.trans (hbD.mono HB5.out.size))
        have HP6 := Lib.hid (HP5.out.below (Ap.stable_cellsAt prC) hbD)
        have HPo6 := Lib.hid (HPo.out.below (Ap.stable_cellsAt prC) hbD)
        have HQ6 := Lib.hid hQ6
        clear g0 g1 g2 g3 g4 g5 g6 g7 g8 g9 g10 g11 hbD hQ6 HP5 HPo HQ5 HB5 X0 X1
        simp only [Rg.putAll, List.setIfInBounds_toArray, List.set_cons_succ, List.set_cons_zero, g12']
        clear g12' HW HWr HC HI
        have HShP := Lib.hid (fd_show_calls wE ta2 _ ct2 L2 HP6.out HS2.out (HT.out.below HB6.out) (by omega))
        go_wp2_with fail
        refine HShP.out.mono ?_
        rintro e w7 ⟨rfl, hb7⟩
        have HB7 := Lib.hid (HB6.out.trans (hb7.mono HB6.out.size))
        have HP7 := Lib.hid (HP6.out.below (Ap.stable_cellsAt prC) hb7)
        have HPo7 := Lib.hid (HPo6.out.below (Ap.stable_cellsAt prC) hb7)
        have HQ7 := Lib.hid (HQ6.out.below (Ap.stable_cellsAt prC) hb7)
        have HShQ := Lib.hid (ref_show_calls w7 wa2 _ cw2 L2 HQ7.out HS2.out (by omega))
        clear hb7 HB6 HP6 HPo6 HQ6 HShP
        go_wp2_with fail
        refine HShQ.out.mono ?_
        rintro e w8 ⟨rfl, hb8⟩
        have HB8 := Lib.hid (HB7.out.trans (hb8.mono HB7.out.size))
        have HP8 := Lib.hid (HP7.out.below (Ap.stable_cellsAt prC) hb8)
        have HPo8 := Lib.hid (HPo7.out.below (Ap.stable_cellsAt prC) hb8)
        have HQ8 := Lib.hid (HQ7.out.below (Ap.stable_cellsAt prC) hb8)
        have HShO := Lib.hid (fd_show_calls w8 ta _ ct L HPo8.out HS.out (HT.out.below HB8.out) (by omega))
        clear hb8 HB7 HP7 HPo7 HQ7 HShQ
        generalize showB L2 = s2 at *
        generalize showB L = s1 at *
        go_wp2_with fail
        refine HShO.out.mono ?_
        rintro e w9 ⟨rfl, hb9⟩
        have HB9 := Lib.hid (HB8.out.trans (hb9.mono HB8.out.size))
        have HP9 := Lib.hid (HP8.out.below (Ap.stable_cellsAt prC) hb9)
        have HQ9 := Lib.hid (HQ8.out.below (Ap.stable_cellsAt prC) hb9)
        clear hb9 HB8 HP8 HPo8 HQ8 HShO
        go_wp2_with fail
        go_loopw [11] (fun v11 wq => ∃ j : Nat, j ≤ ask.length ∧ v11 = .int .i64 j ∧ Below w9.heap.size w9 wq) (fun v11 _ => ask.length - (intOf v11).toNat)
        case atStart => exact ⟨0, Nat.zero_le _, rfl, Below.refl _ _⟩
        case round =>
          obtain ⟨j, hj, rfl, hbq⟩ := hrel
          have HBq := Lib.hid (HB9.out.trans (hbq.mono HB9.out.size))
          have HPq := Lib.hid (HP9.out.below (Ap.stable_cellsAt prC) hbq)
          have HQq := Lib.hid (HQ9.out.below (Ap.stable_cellsAt prC) hbq)
          have Hbq := Lib.hid hbq
          clear hbq
          by_cases hjl : j < ask.length
          · have y0 := HC1.out _ HBq.out j hjl
            have hiy := fun W => HI1.out .i64 j W hjl
            have HC1' := Lib.hid fun W h => HC1.out W h j hjl
            generalize ask[j]'hjl = y at *
            generalize o1 + j = q2 at *
            have HG1 := Lib.hid (fd_get_calls _ ta2 _ ct2 L2 y HPq.out HR2.out (by omega))
            have z3 : decide (j < ask.length) = true := decide_eq_true (by omega)
            have z1 : decide ((j : Int) < (ask.length : Int)) = true := decide_eq_true (by omega)
            have z2 : (j : Int) < (ask.length : Int) := by omega
            go_wp2_with fail
            refine HG1.out.mono ?_
            rintro e w10 ⟨rfl, hb10⟩
            have HBr := Lib.hid (HBq.out.trans (hb10.mono HBq.out.size))
            have HQr := Lib.hid (HQq.out.below (Ap.stable_cellsAt prC) hb10)
            have Hbr := Lib.hid (Hbq.out.trans (hb10.mono Hbq.out.size))
            have HG2 := Lib.hid (ref_get_calls w10 wa2 _ cw2 L2 y HQr.out (by omega))
            clear hb10 HG1 y0
            have y0 := HC1'.out w10 HBr.out
            go_wp2_with fail
            refine HG2.out.mono ?_
            rintro e w11 ⟨rfl, rfl⟩
            clear HG2
            generalize (getB L2 y).getD 0 = gz at *
            generalize hasB L2 y = gb at *
            have hbb : (gb != gb) = false := by cases gb <;> rfl
            go_wp2_with fail
            go_roundw
            case rel => exact ⟨j + 1, by omega, by go_num, Hbr.out⟩
            case measure => simp [intOf]; omega
          · obtain rfl : j = ask.length := by omega
            have z3 : decide (ask.length < ask.length) = false := decide_eq_false (by omega)
            have z1 : decide ((ask.length : Int) < (ask.length : Int)) = false := decide_eq_false (by omega)
            have z2 : ¬ ((ask.length : Int) < (ask.length : Int)) := by omega
            go_wp2_with fail
            go_roundw
            case rel => exact ⟨k + 1, ta2, wa2, ct2, cw2, by omega, by go_num, by rw [HL2.out], by rw [HL2.out], HL2.out ▸ HPq.out, HL2.out ▸ HQq.out, HBq.out⟩
            case measure => simp [intOf]; omega
      · -- away
        have HW := Lib.hid (fd_without_calls w4 ta _ ct L fd HP4.out HR.out (by omega))
        have HWr := Lib.hid fun W (h : Prs W wa L.length cw L) => ref_without_calls W wa _ cw L fd h (by omega)
        have HL2 : Hid (withoutB L fd = playB (l.take (k + 1))) := by show _ = _; rw [HPl.out]; rfl
        have HR2 := Lib.hid (rises_without fd HR.out)
        have HS2 := Lib.hid (smalls_without fd HS.out)
        have hL2 : (withoutB L fd).length ≤ 64 := by have := without_len fd L; omega
        clear HFx HPl
        generalize withoutB L fd = L2 at *
        go_wp2_with fail
        refine HW.out.mono ?_
        rintro e w5 hp
        obtain ⟨ta2, ct2, rfl, hP5, hb5⟩ := tabIn hp
        have HB5 := Lib.hid (HB4.out.trans (hb5.mono HB4.out.size))
        have HP5 := Lib.hid hP5
        have HPo := Lib.hid (HP4.out.below (Ap.stable_cellsAt prC) hb5)
        have HQ5 := Lib.hid (HWr.out w5 (HQ4.out.below (Ap.stable_cellsAt prC) hb5))
        clear x0 x1 x2 hp hP5 hb5
        obtain ⟨x0, x1, x2⟩ := HC.out w5 HB5.out
        go_wp2_with fail
        refine HQ5.out.mono ?_
        rintro e wE hp
        obtain ⟨wa2, cw2, rfl, hQ6, hbD⟩ := refIn hp
        have HB6 := Lib.hid (HB5.out.trans (hbD.mono HB5.out.size))
        have HP6 := Lib.hid (HP5.out.below (Ap.stable_cellsAt prC) hbD)
        have HPo6 := Lib.hid (HPo.out.below (Ap.stable_cellsAt prC) hbD)
        have HQ6 := Lib.hid hQ6
        clear hbD hQ6 HP5 HPo HQ5 HB5 x0 x1 x2 hp HW HWr HC HI HP4 HQ4 HB4 hix
        have HShP := Lib.hid (fd_show_calls wE ta2 _ ct2 L2 HP6.out HS2.out (HT.out.below HB6.out) (by omega))
        go_wp2_with fail
        refine HShP.out.mono ?_
        rintro e w7 ⟨rfl, hb7⟩
        have HB7 := Lib.hid (HB6.out.trans (hb7.mono HB6.out.size))
        have HP7 := Lib.hid (HP6.out.below (Ap.stable_cellsAt prC) hb7)
        have HPo7 := Lib.hid (HPo6.out.below (Ap.stable_cellsAt prC) hb7)
        have HQ7 := Lib.hid (HQ6.out.below (Ap.stable_cellsAt prC) hb7)
        have HShQ := Lib.hid (ref_show_calls w7 wa2 _ cw2 L2 HQ7.out HS2.out (by omega))
        clear hb7 HB6 HP6 HPo6 HQ6 HShP
        go_wp2_with fail
        refine HShQ.out.mono ?_
        rintro e w8 ⟨rfl, hb8⟩
        have HB8 := Lib.hid (HB7.out.trans (hb8.mono HB7.out.size))
        have HP8 := Lib.hid (HP7.out.below (Ap.stable_cellsAt prC) hb8)
        have HPo8 := Lib.hid (HPo7.out.below (Ap.stable_cellsAt prC) hb8)
        have HQ8 := Lib.hid (HQ7.out.below (Ap.stable_cellsAt prC) hb8)
        have HShO := Lib.hid (fd_show_calls w8 ta _ ct L HPo8.out HS.out (HT.out.below HB8.out) (by omega))
        clear hb8 HB7 HP7 HPo7 HQ7 HShQ
        generalize showB L2 = s2 at *
        generalize showB L = s1 at *
        go_wp2_with fail
        refine HShO.out.mono ?_
        rintro e w9 ⟨rfl, hb9⟩
        have HB9 := Lib.hid (HB8.out.trans (hb9.mono HB8.out.size))
        have HP9 := Lib.hid (HP8.out.below (Ap.stable_cellsAt prC) hb9)
        have HQ9 := Lib.hid (HQ8.out.below (Ap.stable_cellsAt prC) hb9)
        clear hb9 HB8 HP8 HPo8 HQ8 HShO
        go_wp2_with fail
        go_loopw [11] (fun v11 wq => ∃ j : Nat, j ≤ ask.length ∧ v11 = .int .i64 j ∧ Below w9.heap.size w9 wq) (fun v11 _ => ask.length - (intOf v11).toNat)
        case atStart => exact ⟨0, Nat.zero_le _, rfl, Below.refl _ _⟩
        case round =>
          obtain ⟨j, hj, rfl, hbq⟩ := hrel
          have HBq := Lib.hid (HB9.out.trans (hbq.mono HB9.out.size))
          have HPq := Lib.hid (HP9.out.below (Ap.stable_cellsAt prC) hbq)
          have HQq := Lib.hid (HQ9.out.below (Ap.stable_cellsAt prC) hbq)
          have Hbq := Lib.hid hbq
          clear hbq
          by_cases hjl : j < ask.length
          · have y0 := HC1.out _ HBq.out j hjl
            have hiy := fun W => HI1.out .i64 j W hjl
            have HC1' := Lib.hid fun W h => HC1.out W h j hjl
            generalize ask[j]'hjl = y at *
            generalize o1 + j = q2 at *
            have HG1 := Lib.hid (fd_get_calls _ ta2 _ ct2 L2 y HPq.out HR2.out (by omega))
            have z3 : decide (j < ask.length) = true := decide_eq_true (by omega)
            have z1 : decide ((j : Int) < (ask.length : Int)) = true := decide_eq_true (by omega)
            have z2 : (j : Int) < (ask.length : Int) := by omega
            go_wp2_with fail
            refine HG1.out.mono ?_
            rintro e w10 ⟨rfl, hb10⟩
            have HBr := Lib.hid (HBq.out.trans (hb10.mono HBq.out.size))
            have HQr := Lib.hid (HQq.out.below (Ap.stable_cellsAt prC) hb10)
            have Hbr := Lib.hid (Hbq.out.trans (hb10.mono Hbq.out.size))
            have HG2 := Lib.hid (ref_get_calls w10 wa2 _ cw2 L2 y HQr.out (by omega))
            clear hb10 HG1 y0
            have y0 := HC1'.out w10 HBr.out
            go_wp2_with fail
            refine HG2.out.mono ?_
            rintro e w11 ⟨rfl, rfl⟩
            clear HG2
            generalize (getB L2 y).getD 0 = gz at *
            generalize hasB L2 y = gb at *
            have hbb : (gb != gb) = false := by cases gb <;> rfl
            go_wp2_with fail
            go_roundw
            case rel => exact ⟨j + 1, by omega, by go_num, Hbr.out⟩
            case measure => simp [intOf]; omega
          · obtain rfl : j = ask.length := by omega
            have z3 : decide (ask.length < ask.length) = false := decide_eq_false (by omega)
            have z1 : decide ((ask.length : Int) < (ask.length : Int)) = false := decide_eq_false (by omega)
            have z2 : ¬ ((ask.length : Int) < (ask.length : Int)) := by omega
            go_wp2_with fail
            go_roundw
            case rel => exact ⟨k + 1, ta2, wa2, ct2, cw2, by omega, by go_num, by rw [HL2.out], by rw [HL2.out], HL2.out ▸ HPq.out, HL2.out ▸ HQq.out, HBq.out⟩
            case measure => simp [intOf]; omega
    · obtain rfl : k = l.length := by omega
      have HB := Lib.hid hb
      clear hP hQ hb hr hs hl
      have u3 : decide (l.length < l.length) = false := decide_eq_false (by omega)
      have u1 : decide ((l.length : Int) < (l.length : Int)) = false := decide_eq_false (by omega)
      have u2 : ¬ ((l.length : Int) < (l.length : Int)) := by omega
      go_wp2_with fail
      go_ret
      exact ⟨rfl, HB.out⟩
end Go.Proofs.YtghjmhhchhgppaaDoor
