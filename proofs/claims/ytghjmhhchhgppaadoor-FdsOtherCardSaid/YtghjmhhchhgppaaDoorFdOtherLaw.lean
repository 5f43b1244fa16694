/-
  FdsOther: what is put is got, all other numbers stand for what they did: the walk.
-/
import Derived.Test.YtghjmhhchhgppaaDoorFdPlayLaw
set_option linter.unusedVariables false
set_option maxRecDepth 100000
namespace Go.Proofs.YtghjmhhchhgppaaDoor
open Go.RowKit Base

theorem getB_cons (p : Pr) (r : List Pr) (fd : Int) : getB (p :: r) fd = if p.1 = fd then some p.2 else getB r fd := by
  unfold getB
  by_cases h : p.1 = fd
  · rw [List.find?_cons_of_pos (by simpa using h), if_pos h]; rfl
  · rw [List.find?_cons_of_neg (by simpa using h), if_neg h]
theorem get_without_other (l : List Pr) {fd o : Int} (h : o ≠ fd) : getB (withoutB l fd) o = getB l o := by
  induction l with
  | nil => rfl
  | cons p r ih =>
    unfold withoutB
    by_cases hp : p.1 = fd
    · rw [List.filter_cons_of_neg (by simpa using hp), getB_cons, if_neg (by omega)]
      exact ih
    · rw [List.filter_cons_of_pos (by simpa using hp), getB_cons, getB_cons]
      split
      · rfl
      · exact ih
theorem get_with_same (fd k : Int) (l : List Pr) : getB (withB fd k l) fd = some k := by
  induction l with
  | nil => unfold withB; rw [getB_cons, if_pos rfl]
  | cons p r ih =>
    unfold withB
    split
    · rw [getB_cons, if_pos rfl]
    · rw [getB_cons, if_neg (by omega), ih]
theorem get_with_other {fd o : Int} (k : Int) (l : List Pr) (h : o ≠ fd) : getB (withB fd k l) o = getB l o := by
  induction l with
  | nil => unfold withB; rw [getB_cons, if_neg (fun e => h e.symm)]
  | cons p r ih =>
    unfold withB
    split
    · rw [getB_cons, if_neg (fun e => h e.symm), get_without_other _ h]
    · rw [getB_cons, getB_cons, ih]
theorem without_cons (p : Pr) (r : List Pr) (fd : Int) : withoutB (p :: r) fd = if p.1 = fd then withoutB r fd else p :: withoutB r fd := by
  unfold withoutB
  by_cases h : p.1 = fd
  · rw [List.filter_cons_of_neg (by simpa using h), if_pos h]
  · rw [List.filter_cons_of_pos (by simpa using h), if_neg h]
theorem without_twice (l : List Pr) (fd : Int) : withoutB (withoutB l fd) fd = withoutB l fd := without_none (has_without l fd)
theorem without_with (fd k : Int) (l : List Pr) : withoutB (withB fd k l) fd = withoutB l fd := by
  induction l with
  | nil => unfold withB; rw [without_cons, if_pos rfl]
  | cons p r ih =>
    unfold withB
    split
    · rw [without_cons, if_pos rfl, without_twice]
    · rw [without_cons, without_cons, ih]
theorem withB_ge {fd : Int} (k : Int) {p : Pr} (r : List Pr) (h : fd ≤ p.1) : withB fd k (p :: r) = (fd, k) :: withoutB (p :: r) fd := if_pos h
theorem withB_lt {fd : Int} (k : Int) {p : Pr} (r : List Pr) (h : ¬ fd ≤ p.1) : withB fd k (p :: r) = p :: withB fd k r := if_neg h
theorem with_with (fd k : Int) (l : List Pr) : withB fd k (withB fd k l) = withB fd k l := by
  induction l with
  | nil =>
    show withB fd k [(fd, k)] = _
    rw [withB_ge (fd := fd) (p := (fd, k)) k [] (Int.le_refl _), without_cons, if_pos rfl]
    rfl
  | cons p r ih =>
    by_cases h : fd ≤ p.1
    · rw [withB_ge k r h, withB_ge (fd := fd) (p := (fd, k)) k _ (Int.le_refl _), without_cons, if_pos rfl, without_twice]
    · rw [withB_lt k r h, withB_lt k _ h, ih]
theorem fd_without_calls' (w : World) (a : Option Addr) (n c : Nat) (l : List Pr) (fd : Int) (L2 : List Pr) (he : withoutB l fd = L2) (h : Prs w a n c l) (hr : Rises l) (hl : l.length ≤ 1000000) :
    Calls Tryd.prog 9 #[.slice a n c, .int .i64 fd] w (TabPost w L2) := he ▸ fd_without_calls w a n c l fd h hr hl
def putB (l : List Act3) : List Pr := l.foldl (fun L x => withB x.1 x.2.1 L) firstB
theorem put_take (l : List Act3) (k : Nat) (h : k < l.length) : putB (l.take (k + 1)) = withB l[k].1 l[k].2.1 (putB (l.take k)) := by
  unfold putB
  rw [List.take_succ_eq_append_getElem h, List.foldl_append]
  rfl
theorem put_fine (l : List Act3) (h : FineA l) (k : Nat) (hk : k ≤ l.length) : Rises (putB (l.take k)) ∧ Smalls (putB (l.take k)) ∧ (putB (l.take k)).length ≤ 3 + k := by
  induction k with
  | zero => exact ⟨rises_first, smalls_first, Nat.le_refl _⟩
  | succ k ih =>
    obtain ⟨h1, h2, h3⟩ := ih (by omega)
    rw [put_take l k (by omega)]
    have hx := h _ (List.getElem_mem (show k < l.length by omega))
    exact ⟨rises_with _ _ h1, smalls_with hx.1 hx.2 h2, by have := with_len l[k].1 l[k].2.1 (putB (l.take k)); omega⟩
set_option maxHeartbeats 16000000 in
theorem fds_other (w : World) (a0 : Option Addr) (n0 c0 : Nat) (l : List Act3) (h0 : Acts w a0 n0 c0 l) (hf : FineA l) (fd kk other : Int) (hfd : I64n fd) (hkk : I64n kk) (ht : Tb w) :
    Calls Tryd.prog 4 #[.slice a0 n0 c0, .int .i64 fd, .int .i64 kk, .int .i64 other] w fun e w' => e = .returned (.bool true) ∧ Below w.heap.size w w' := by
  obtain rfl := h0.1
  have hn0 := h0.2.1
  have hc0 := h0.2.2.1
  unfold maxLen at hc0
  obtain ⟨b0, o0, hcs0, hix0⟩ := acts_at h0
  have HC0 := Lib.hid hcs0
  have HI0 := Lib.hid hix0
  have HF := Lib.hid hf
  have HT := Lib.hid ht
  have HFd := Lib.hid hfd
  have HKk := Lib.hid hkk
  clear h0 hcs0 hix0 hf ht hfd hkk
  go_enter Tryd.func4, Tryd.ntmps4
  go_wp2_with fail
  refine (awake_calls w HT.out).mono ?_
  rintro e w1 ⟨rfl, hb1⟩
  have HB1 := Lib.hid hb1
  clear hb1
  by_cases hb0 : 60 < l.length
  · have a1 : decide ((60 : Int) < (l.length : Int)) = true := decide_eq_true (by omega)
    have a2 : (60 : Int) < (l.length : Int) := by omega
    go_wp2_with fail
    go_ret
    exact ⟨rfl, HB1.out⟩
  have a1 : decide ((60 : Int) < (l.length : Int)) = false := decide_eq_false (by omega)
  have a2 : ¬ ((60 : Int) < (l.length : Int)) := by omega
  go_wp2_with fail
  refine (fd_first_calls w1).mono ?_
  rintro e w2 hp
  obtain ⟨at1, ct1, rfl, hr1, hb2⟩ := tabIn hp
  have HB2 := Lib.hid (HB1.out.trans (hb2.mono HB1.out.size))
  have HP1 := Lib.hid hr1
  clear hp hb2 hr1
  rw [show firstB.length = 3 from rfl] at HP1 ⊢
  go_wp2_with fail
  go_loopw [10, 11] (fun v10 v11 wr => ∃ (k : Nat) (at' : Option Addr) (ct : Nat), k ≤ l.length ∧ v11 = .int .i64 k ∧ v10 = .slice at' (putB (l.take k)).length ct ∧ Prs wr at' (putB (l.take k)).length ct (putB (l.take k)) ∧ Below w.heap.size w wr) (fun _ v11 _ => l.length - (intOf v11).toNat)
  case atStart => exact ⟨0, at1, ct1, Nat.zero_le _, rfl, rfl, HP1.out, HB2.out⟩
  case round =>
    clear HP1 HB2 HB1
    obtain ⟨k, ta, ct, hk, rfl, rfl, hP, hb⟩ := hrel
    obtain ⟨hr, hs, hl⟩ := put_fine l HF.out k hk
    by_cases hlt : k < l.length
    · have HPl := Lib.hid (put_take l k hlt)
      have HI := Lib.hid fun W => HI0.out .i64 k W hlt
      have HC := Lib.hid fun W h => HC0.out W h k hlt
      generalize l[k]'hlt = x at *
      generalize o0 + k * 3 = q at *
      generalize putB (l.take k) = L at *
      have HP := Lib.hid hP
      have HB := Lib.hid hb
      have HR := Lib.hid hr
      have hL : L.length ≤ 63 := by omega
      obtain ⟨f1, k1, nt⟩ := x
      have X0 := Lib.hid (HC.out wr HB.out).1
      have X1 := Lib.hid (HC.out wr HB.out).2.1
      clear hP hb hr hs hl
      obtain ⟨L2, hL2e⟩ : ∃ L2, withB f1 k1 L = L2 := ⟨_, rfl⟩
      have HWe := Lib.hid hL2e
      have HL2 : Hid (L2 = putB (l.take (k + 1))) := by show _ = _; rw [HPl.out, ← hL2e]
      clear hL2e
      have u3 : decide (k < l.length) = true := decide_eq_true (by omega)
      have u1 : decide ((k : Int) < (l.length : Int)) = true := decide_eq_true (by omega)
      have u2 : (k : Int) < (l.length : Int) := by omega
      go_wp2_with fail
      refine Rg.wp_region_rgl [] [Rg.Is (.slice ta L.length ct), Rg.Is (.slice a0 l.length c0), Rg.Is (.int .i64 (k : Int)), Rg.Is (.pointer (some ⟨b0, q, none⟩)), Rg.Is (.pointer (some ⟨b0, q, none⟩)), Rg.Is (.int .i64 f1), Rg.Is (.slice a0 l.length c0), Rg.Is (.int .i64 (k : Int)), Rg.Is (.pointer (some ⟨b0, q, none⟩)), Rg.Is (.pointer (some ⟨b0, q + 1, none⟩)), Rg.Is (.int .i64 k1), (fun v x => ∃ a c, v = .slice a L2.length c ∧ Prs x a L2.length c L2), (fun v x => ∃ a c, v = .slice a L2.length c ∧ Prs x a L2.length c L2)] (by kernel_rfl) (by kernel_rfl) (by kernel_rfl) ⟨Rg.st_is _, Rg.st_is _, Rg.st_is _, Rg.st_is _, Rg.st_is _, Rg.st_is _, Rg.st_is _, Rg.st_is _, Rg.st_is _, Rg.st_is _, Rg.st_is _, fun v w w' h hb => h.elim fun a h => h.elim fun c h => ⟨a, c, h.1, h.2.below (Ap.stable_cellsAt prC) hb⟩, fun v w w' h hb => h.elim fun a h => h.elim fun c h => ⟨a, c, h.1, h.2.below (Ap.stable_cellsAt prC) hb⟩, trivial⟩ ⟨rfl, rfl, rfl, rfl, rfl, rfl, rfl, rfl, rfl, rfl, rfl, rfl, rfl, trivial⟩ ⟨?_, ?_, ?_, ?_, ?_, ?_, ?_, ?_, ?_, ?_, ?_, ?_, ?_, trivial⟩ ?_
      · intro _ a wx hb hk
        have h10 : a.eval (.tmp 10) = .slice ta L.length ct := Eq.mp (by kernel_rfl) (hk 10 (by decide))
        exact Rg.does_move ⟨Below.refl _ _, h10⟩
      · intro _ a wx hb hk
        have h0 : a.eval (.tmp 0) = .slice a0 l.length c0 := Eq.mp (by kernel_rfl) (hk 0 (by decide))
        exact Rg.does_move ⟨Below.refl _ _, h0⟩
      · intro _ a wx hb hk
        have h11 : a.eval (.tmp 11) = .int .i64 (k : Int) := Eq.mp (by kernel_rfl) (hk 11 (by decide))
        exact Rg.does_move ⟨Below.refl _ _, h11⟩
      · intro _ a wx hb hk
        have h36 : a.eval (.tmp 36) = .slice a0 l.length c0 := Eq.mp (by kernel_rfl) (hk 36 (by decide))
        have h37 : a.eval (.tmp 37) = .int .i64 (k : Int) := Eq.mp (by kernel_rfl) (hk 37 (by decide))
        exact Rg.does_index _ _ _ h36 h37 (HI.out wx) ⟨Below.refl _ _, rfl⟩
      · intro _ a wx hb hk
        have h38 : a.eval (.tmp 38) = .pointer (some ⟨b0, q, none⟩) := Eq.mp (by kernel_rfl) (hk 38 (by decide))
        exact Rs.does_field _ _ h38 (act_f0 _ _ wx) ⟨Below.refl _ _, rfl⟩
      · intro _ a wx hb hk
        have h39 : a.eval (.tmp 39) = .pointer (some ⟨b0, q, none⟩) := Eq.mp (by kernel_rfl) (hk 39 (by decide))
        exact Rg.does_load _ _ h39 (load_intP (cell_below hb (Nat.le_refl _) X0.out)) ⟨Below.refl _ _, rfl⟩
      · intro _ a wx hb hk
        have h0 : a.eval (.tmp 0) = .slice a0 l.length c0 := Eq.mp (by kernel_rfl) (hk 0 (by decide))
        exact Rg.does_move ⟨Below.refl _ _, h0⟩
      · intro _ a wx hb hk
        have h11 : a.eval (.tmp 11) = .int .i64 (k : Int) := Eq.mp (by kernel_rfl) (hk 11 (by decide))
        exact Rg.does_move ⟨Below.refl _ _, h11⟩
      · intro _ a wx hb hk
        have h41 : a.eval (.tmp 41) = .slice a0 l.length c0 := Eq.mp (by kernel_rfl) (hk 41 (by decide))
        have h42 : a.eval (.tmp 42) = .int .i64 (k : Int) := Eq.mp (by kernel_rfl) (hk 42 (by decide))
        exact Rg.does_index _ _ _ h41 h42 (HI.out wx) ⟨Below.refl _ _, rfl⟩
      · intro _ a wx hb hk
        have h43 : a.eval (.tmp 43) = .pointer (some ⟨b0, q, none⟩) := Eq.mp (by kernel_rfl) (hk 43 (by decide))
        exact Rs.does_field _ _ h43 (act_f1 _ _ wx) ⟨Below.refl _ _, rfl⟩
      · intro _ a wx hb hk
        have h44 : a.eval (.tmp 44) = .pointer (some ⟨b0, q + 1, none⟩) := Eq.mp (by kernel_rfl) (hk 44 (by decide))
        exact Rg.does_load _ _ h44 (load_i64P (cell_below hb (Nat.le_refl _) X1.out)) ⟨Below.refl _ _, rfl⟩
      · intro _ a wx hb hk
        have h35 : a.eval (.tmp 35) = .slice ta L.length ct := Eq.mp (by kernel_rfl) (hk 35 (by decide))
        have h40 : a.eval (.tmp 40) = .int .i64 f1 := Eq.mp (by kernel_rfl) (hk 40 (by decide))
        have h45 : a.eval (.tmp 45) = .int .i64 k1 := Eq.mp (by kernel_rfl) (hk 45 (by decide))
        refine Rg.does_func #[.slice ta L.length ct, .int .i64 f1, .int .i64 k1] Tryd.func11 (by kernel_rfl) (by kernel_rfl) (by simp [h35, h40, h45]) (fd_with_calls' wx ta _ ct L f1 k1 L2 HWe.out (HP.out.below (Ap.stable_cellsAt prC) hb) HR.out (by omega)) ?_
        rintro e w' hp
        obtain ⟨a5, c5, rfl, hr5, hb5⟩ := tabIn hp
        exact ⟨_, rfl, hb5, a5, c5, rfl, hr5⟩
      · intro _ a wx hb hk
        have h46 : (fun v x => ∃ a c, v = .slice a L2.length c ∧ Prs x a L2.length c L2) (a.eval (.tmp 46)) wx := Eq.mp (by kernel_rfl) (hk 46 (by decide))
        exact Rg.does_assign ⟨Below.refl _ _, h46⟩
      intro vals wD hbD hL
      obtain ⟨g0, g1, g2, g3, g4, g5, g6, g7, g8, g9, g10, g11, g12, _⟩ := hL
      obtain ⟨ta2, ct2, g12', hP5⟩ : ∃ a c, vals 12 = .slice a L2.length c ∧ Prs wD a L2.length c L2 := g12
      have HB5 := Lib.hid (HB.out.trans (hbD.mono HB.out.size))
      have HP5 := Lib.hid hP5
      clear g0 g1 g2 g3 g4 g5 g6 g7 g8 g9 g10 g11 hbD hP5
      simp only [Rg.putAll, List.setIfInBounds_toArray, List.set_cons_succ, List.set_cons_zero, g12']
      clear g12'
      go_wp2_with fail
      go_roundw
      case rel => exact ⟨k + 1, ta2, ct2, by omega, by go_num, by rw [HL2.out], HL2.out ▸ HP5.out, HB5.out⟩
      case measure => simp [intOf]; omega
    · obtain rfl : k = l.length := by omega
      generalize putB (l.take l.length) = L at *
      have HP := Lib.hid hP
      have HB := Lib.hid hb
      have HR := Lib.hid hr
      have HS := Lib.hid hs
      have hL : L.length ≤ 63 := by omega
      clear hP hb hr hs hl
      have u3 : decide (l.length < l.length) = false := decide_eq_false (by omega)
      have u1 : decide ((l.length : Int) < (l.length : Int)) = false := decide_eq_false (by omega)
      have u2 : ¬ ((l.length : Int) < (l.length : Int)) := by omega
      have HGs := Lib.hid (get_with_same fd kk L)
      have HGo := Lib.hid fun (h : other ≠ fd) => get_with_other kk L h
      have HRA := Lib.hid (rises_with fd kk HR.out)
      have HSA := Lib.hid (smalls_with HFd.out HKk.out HS.out)
      have HWW := Lib.hid (without_with fd kk L)
      have HW2 := Lib.hid (with_with fd kk L)
      have hLA : (withB fd kk L).length ≤ 64 := by have := with_len fd kk L; omega
      obtain ⟨M, hM⟩ : ∃ M, withB fd kk L = M := ⟨_, rfl⟩
      rw [hM] at HGs HGo HRA HSA HWW HW2 hLA
      have HM := Lib.hid hM
      clear hM
      have hLB : (withoutB L fd).length ≤ 63 := by have := without_len fd L; omega
      have HRB := Lib.hid (rises_without fd HR.out)
      have HSB := Lib.hid (smalls_without fd HS.out)
      have HHB := Lib.hid (has_without L fd)
      obtain ⟨D, hD⟩ : ∃ D, withoutB L fd = D := ⟨_, rfl⟩
      rw [hD] at HWW hLB HRB HSB HHB
      have HDe := Lib.hid hD
      clear hD
      have HHA : Hid (hasB M fd = true) := by show _ = _; rw [← get_isSome, HGs.out]; rfl
      go_wp2_with fail
      refine (fd_with_calls' wr ta _ ct L fd kk M HM.out HP.out HR.out (by omega)).mono ?_
      rintro e w4 hp
      obtain ⟨aa, ca, rfl, hA, hb4⟩ := tabIn hp
      have HB4 := Lib.hid (HB.out.trans (hb4.mono HB.out.size))
      have HP4 := Lib.hid (HP.out.below (Ap.stable_cellsAt prC) hb4)
      have HA4 := Lib.hid hA
      clear hp hA hb4 HP HB
      go_wp2_with fail
      refine (fd_without_calls' w4 aa _ ca M fd D HWW.out HA4.out HRA.out (by omega)).mono ?_
      rintro e w5 hp
      obtain ⟨ab, cb, rfl, hB, hb5⟩ := tabIn hp
      have HB5 := Lib.hid (HB4.out.trans (hb5.mono HB4.out.size))
      have HP5 := Lib.hid (HP4.out.below (Ap.stable_cellsAt prC) hb5)
      have HA5 := Lib.hid (HA4.out.below (Ap.stable_cellsAt prC) hb5)
      have HD5 := Lib.hid hB
      clear hp hB hb5 HP4 HB4 HA4
      have HG1 := Lib.hid (fd_get_calls w5 aa _ ca M fd HA5.out HRA.out (by omega))
      rw [HGs.out, HHA.out, Option.getD_some] at HG1
      go_wp2_with fail
      refine HG1.out.mono ?_
      rintro e w6 ⟨rfl, hb6⟩
      have HB6 := Lib.hid (HB5.out.trans (hb6.mono HB5.out.size))
      have HP6 := Lib.hid (HP5.out.below (Ap.stable_cellsAt prC) hb6)
      have HA6 := Lib.hid (HA5.out.below (Ap.stable_cellsAt prC) hb6)
      have HD6 := Lib.hid (HD5.out.below (Ap.stable_cellsAt prC) hb6)
      clear hb6 HP5 HB5 HA5 HD5 HG1
      go_wp2_with fail
      refine (fd_get_calls w6 aa _ ca M other HA6.out HRA.out (by omega)).mono ?_
      rintro e w7 ⟨rfl, hb7⟩
      have HB7 := Lib.hid (HB6.out.trans (hb7.mono HB6.out.size))
      have HP7 := Lib.hid (HP6.out.below (Ap.stable_cellsAt prC) hb7)
      have HA7 := Lib.hid (HA6.out.below (Ap.stable_cellsAt prC) hb7)
      have HD7 := Lib.hid (HD6.out.below (Ap.stable_cellsAt prC) hb7)
      clear hb7 HP6 HB6 HA6 HD6
      go_wp2_with fail
      refine (fd_get_calls w7 ta _ ct L other HP7.out HR.out (by omega)).mono ?_
      rintro e w8 ⟨rfl, hb8⟩
      have HB8 := Lib.hid (HB7.out.trans (hb8.mono HB7.out.size))
      have HP8 := Lib.hid (HP7.out.below (Ap.stable_cellsAt prC) hb8)
      have HA8 := Lib.hid (HA7.out.below (Ap.stable_cellsAt prC) hb8)
      have HD8 := Lib.hid (HD7.out.below (Ap.stable_cellsAt prC) hb8)
      clear hb8 HP7 HB7 HA7 HD7
      have HG4 := Lib.hid (fd_get_calls w8 ab _ cb D fd HD8.out HRB.out (by omega))
      rw [HHB.out] at HG4
      generalize (getB D fd).getD 0 = zz at HG4
      go_wp2_with fail
      refine HG4.out.mono ?_
      rintro e w9 ⟨rfl, hb9⟩
      have HB9 := Lib.hid (HB8.out.trans (hb9.mono HB8.out.size))
      have HP9 := Lib.hid (HP8.out.below (Ap.stable_cellsAt prC) hb9)
      have HA9 := Lib.hid (HA8.out.below (Ap.stable_cellsAt prC) hb9)
      have HD9 := Lib.hid (HD8.out.below (Ap.stable_cellsAt prC) hb9)
      clear hb9 HP8 HB8 HA8 HD8 HG4
      by_cases ho : other = fd
      · have d1 : decide (other = fd) = true := decide_eq_true ho
        have d2 : (other != fd) = false := by simpa using ho
        have d3 : (other == fd) = true := by simpa using ho
        clear ho
        generalize (getB M other).getD 0 = gy at *
        generalize hasB M other = hy at *
        generalize (getB L other).getD 0 = gz at *
        generalize hasB L other = hz at *
        go_wp2_with fail
        refine (fd_show_calls w9 ab _ cb D HD9.out HSB.out (HT.out.below HB9.out) (by omega)).mono ?_
        rintro e w10 ⟨rfl, hb10⟩
        have HB10 := Lib.hid (HB9.out.trans (hb10.mono HB9.out.size))
        have HP10 := Lib.hid (HP9.out.below (Ap.stable_cellsAt prC) hb10)
        have HA10 := Lib.hid (HA9.out.below (Ap.stable_cellsAt prC) hb10)
        clear hb10 HB9 HP9 HA9 HD9
        go_wp2_with fail
        refine (fd_without_calls' w10 ta _ ct L fd D HDe.out HP10.out HR.out (by omega)).mono ?_
        rintro e w11 hp
        obtain ⟨ad, cd, rfl, hD2, hb11⟩ := tabIn hp
        have HB11 := Lib.hid (HB10.out.trans (hb11.mono HB10.out.size))
        have HA11 := Lib.hid (HA10.out.below (Ap.stable_cellsAt prC) hb11)
        have HD11 := Lib.hid hD2
        clear hp hD2 hb11 HB10 HP10 HA10
        go_wp2_with fail
        refine (fd_show_calls w11 ad _ cd D HD11.out HSB.out (HT.out.below HB11.out) (by omega)).mono ?_
        rintro e w12 ⟨rfl, hb12⟩
        have HB12 := Lib.hid (HB11.out.trans (hb12.mono HB11.out.size))
        have HA12 := Lib.hid (HA11.out.below (Ap.stable_cellsAt prC) hb12)
        clear hb12 HB11 HA11 HD11
        generalize showB D = sd at *
        go_wp2_with fail
        refine (fd_with_calls' w12 aa _ ca M fd kk M HW2.out HA12.out HRA.out (by omega)).mono ?_
        rintro e w13 hp
        obtain ⟨ae, ce, rfl, hE, hb13⟩ := tabIn hp
        have HB13 := Lib.hid (HB12.out.trans (hb13.mono HB12.out.size))
        have HA13 := Lib.hid (HA12.out.below (Ap.stable_cellsAt prC) hb13)
        have HE13 := Lib.hid hE
        clear hp hE hb13 HB12 HA12
        go_wp2_with fail
        refine (fd_show_calls w13 ae _ ce M HE13.out HSA.out (HT.out.below HB13.out) (by omega)).mono ?_
        rintro e w14 ⟨rfl, hb14⟩
        have HB14 := Lib.hid (HB13.out.trans (hb14.mono HB13.out.size))
        have HA14 := Lib.hid (HA13.out.below (Ap.stable_cellsAt prC) hb14)
        clear hb14 HB13 HA13 HE13
        go_wp2_with fail
        refine (fd_show_calls w14 aa _ ca M HA14.out HSA.out (HT.out.below HB14.out) (by omega)).mono ?_
        rintro e w15 ⟨rfl, hb15⟩
        have HB15 := Lib.hid (HB14.out.trans (hb15.mono HB14.out.size))
        clear hb15 HB14 HA14
        generalize showB M = sm at *
        go_wp2_with fail
        go_ret
        exact ⟨rfl, HB15.out⟩
      · have d1 : decide (other = fd) = false := decide_eq_false ho
        have d2 : (other != fd) = true := by simpa using ho
        have d3 : (other == fd) = false := by simpa using ho
        have hyz : hasB M other = hasB L other := by rw [← get_isSome, ← get_isSome, HGo.out ho]
        rw [HGo.out ho, hyz]
        clear ho hyz
        generalize (getB L other).getD 0 = gz at *
        generalize hasB L other = hz at *
        have hbb : (hz != hz) = false := by cases hz <;> rfl
        go_wp2_with fail
        refine (fd_show_calls w9 ab _ cb D HD9.out HSB.out (HT.out.below HB9.out) (by omega)).mono ?_
        rintro e w10 ⟨rfl, hb10⟩
        have HB10 := Lib.hid (HB9.out.trans (hb10.mono HB9.out.size))
        have HP10 := Lib.hid (HP9.out.below (Ap.stable_cellsAt prC) hb10)
        have HA10 := Lib.hid (HA9.out.below (Ap.stable_cellsAt prC) hb10)
        clear hb10 HB9 HP9 HA9 HD9
        go_wp2_with fail
        refine (fd_without_calls' w10 ta _ ct L fd D HDe.out HP10.out HR.out (by omega)).mono ?_
        rintro e w11 hp
        obtain ⟨ad, cd, rfl, hD2, hb11⟩ := tabIn hp
        have HB11 := Lib.hid (HB10.out.trans (hb11.mono HB10.out.size))
        have HA11 := Lib.hid (HA10.out.below (Ap.stable_cellsAt prC) hb11)
        have HD11 := Lib.hid hD2
        clear hp hD2 hb11 HB10 HP10 HA10
        go_wp2_with fail
        refine (fd_show_calls w11 ad _ cd D HD11.out HSB.out (HT.out.below HB11.out) (by omega)).mono ?_
        rintro e w12 ⟨rfl, hb12⟩
        have HB12 := Lib.hid (HB11.out.trans (hb12.mono HB11.out.size))
        have HA12 := Lib.hid (HA11.out.below (Ap.stable_cellsAt prC) hb12)
        clear hb12 HB11 HA11 HD11
        generalize showB D = sd at *
        go_wp2_with fail
        refine (fd_with_calls' w12 aa _ ca M fd kk M HW2.out HA12.out HRA.out (by omega)).mono ?_
        rintro e w13 hp
        obtain ⟨ae, ce, rfl, hE, hb13⟩ := tabIn hp
        have HB13 := Lib.hid (HB12.out.trans (hb13.mono HB12.out.size))
        have HA13 := Lib.hid (HA12.out.below (Ap.stable_cellsAt prC) hb13)
        have HE13 := Lib.hid hE
        clear hp hE hb13 HB12 HA12
        go_wp2_with fail
        refine (fd_show_calls w13 ae _ ce M HE13.out HSA.out (HT.out.below HB13.out) (by omega)).mono ?_
        rintro e w14 ⟨rfl, hb14⟩
        have HB14 := Lib.hid (HB13.out.trans (hb14.mono HB13.out.size))
        have HA14 := Lib.hid (HA13.out.below (Ap.stable_cellsAt prC) hb14)
        clear hb14 HB13 HA13 HE13
        go_wp2_with fail
        refine (fd_show_calls w14 aa _ ca M HA14.out HSA.out (HT.out.below HB14.out) (by omega)).mono ?_
        rintro e w15 ⟨rfl, hb15⟩
        have HB15 := Lib.hid (HB14.out.trans (hb15.mono HB14.out.size))
        clear hb15 HB14 HA14
        generalize showB M = sm at *
        go_wp2_with fail
        go_ret
        exact ⟨rfl, HB15.out⟩
end Go.Proofs.YtghjmhhchhgppaaDoor
