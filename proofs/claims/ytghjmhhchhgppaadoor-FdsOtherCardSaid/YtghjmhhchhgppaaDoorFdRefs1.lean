/-
  The document's tables: got, without, with, the first one. Conditions: the rows are not too long.
-/
import Derived.Test.YtghjmhhchhgppaaDoorFdShow2
set_option linter.unusedVariables false
set_option maxRecDepth 100000
namespace Go.Proofs.YtghjmhhchhgppaaDoor
open Go.RowKit Base

theorem info_refp : (Tryd.prog.info? 45).map (fun i => (i.zero, i.size, i.bytes)) = some (some (.agg #[.int .i64 0, .int .i64 0]), 2, 16) := by kernel_rfl
abbrev OwnR (w : World) (base : Nat) (v : Value) (l : List Pr) : Prop := w.ownsRow base 45 2 v l.length (l.flatMap prC)
theorem append_refp : ∃ d, Tryd.prog.underlying 28 = some d ∧ ∀ k, d ≠ .int k := append_side Tryd.underlying28
theorem refp_at {w : World} {a : Option Addr} {n cap : Nat} {L : List Pr} (h : Prs w a n cap L) : ∃ b off, (∀ k (hk : k < L.length), w.cell? ⟨b, off + k * 2, none⟩ = some (.int .i64 L[k].1) ∧ w.cell? ⟨b, off + k * 2 + 1, none⟩ = some (.int .i64 L[k].2)) ∧
    ∀ (kd : IntKind) (k : Nat) (w' : World), k < n → (Instr.indexAt 28 (.slice a n cap) (.int kd (k : Int))).run Tryd.prog w' = .ok (.pointer (some ⟨b, off + k * 2, none⟩)) w' := by
  obtain ⟨i0, hi, _, hi2, _⟩ := info_parts info_refp
  obtain ⟨b, off, h1, h2⟩ := h.at (P := Tryd.prog)
  exact ⟨b, off, fun k hk => ⟨h1 k hk 0 _ rfl, h1 k hk 1 _ rfl⟩, fun kd k w' hk => h2 28 45 i0 Tryd.underlying28 hi hi2 kd k w' hk⟩
theorem refp_of_own {w : World} {base : Nat} {v : Value} {l : List Pr} (h : OwnR w base v l) : ∃ a c, v = .slice a l.length c ∧ Prs w a l.length c l := Ap.own_cells (by decide) prC_len h
def RefPost (w : World) (l : List Pr) (e : Ending) (w' : World) : Prop := ∃ v, e = .returned v ∧ OwnR w' w.heap.size v l ∧ Below w.heap.size w w'
theorem getB_snoc (l : List Pr) (fd : Int) (p : Pr) (h : getB l fd = none) : getB (l ++ [p]) fd = if p.1 = fd then some p.2 else none := by
  unfold getB at h ⊢
  rw [List.find?_append]
  have h1 : l.find? (fun p => decide (p.1 = fd)) = none := by simpa using h
  rw [h1, Option.none_or]
  by_cases hp : p.1 = fd
  · rw [List.find?_cons_of_pos (by simpa using hp), if_pos hp]; rfl
  · rw [List.find?_cons_of_neg (by simpa using hp), if_neg hp]; rfl
theorem getB_pre {l : List Pr} {fd : Int} {k : Nat} (h1 : getB (l.take k) fd = none) (hk : k < l.length) (he : l[k].1 = fd) : getB l fd = some l[k].2 := by
  have h2 : l = l.take k ++ l[k] :: l.drop (k + 1) := by rw [List.getElem_cons_drop hk, List.take_append_drop]
  unfold getB at h1 ⊢
  conv => lhs; rw [h2]
  rw [List.find?_append]
  have h3 : (l.take k).find? (fun p => decide (p.1 = fd)) = none := by simpa using h1
  rw [h3, Option.none_or, List.find?_cons_of_pos (by simpa using he)]
  rfl
set_option maxHeartbeats 1000000 in
theorem ref_get_calls (w : World) (a : Option Addr) (n c : Nat) (l : List Pr) (fd : Int) (h : Prs w a n c l) (hl : n ≤ 1000000) :
    Calls Tryd.prog 15 #[.slice a n c, .int .i64 fd] w fun e w' => e = .returned (.tuple #[.int .i64 ((getB l fd).getD 0), .bool (hasB l fd)]) ∧ w = w' := by
  obtain rfl := h.1
  obtain ⟨b, off, hcs, hix⟩ := refp_at h
  have HCs := Lib.hid hcs
  have HIx := Lib.hid hix
  clear h hcs hix
  go_enter Tryd.func15, Tryd.ntmps15
  go_wp2_with fail
  go_loopw [6] (fun v6 wr => ∃ k : Nat, k ≤ l.length ∧ v6 = .int .i64 k ∧ getB (l.take k) fd = none ∧ w = wr) (fun v6 _ => l.length - (intOf v6).toNat)
  case atStart => exact ⟨0, Nat.zero_le _, rfl, rfl, rfl⟩
  case round =>
    obtain ⟨k, hk, rfl, hg, rfl⟩ := hrel
    have HG := Lib.hid hg
    clear hg
    by_cases hlt : k < l.length
    · have hx := fun W => HIx.out .i64 k W hlt
      obtain ⟨c0, c1⟩ := HCs.out k hlt
      have HT := Lib.hid (List.take_succ_eq_append_getElem hlt)
      have HP := Lib.hid (getB_pre HG.out hlt)
      generalize l[k]'hlt = p at *
      generalize off + k * 2 = q at *
      have u3 : decide (k < l.length) = true := decide_eq_true (by omega)
      have u1 : decide ((k : Int) < (l.length : Int)) = true := decide_eq_true (by omega)
      have u2 : (k : Int) < (l.length : Int) := by omega
      by_cases he : p.1 = fd
      · have HF := Lib.hid (HP.out he)
        have HH : Hid (hasB l fd = true) := by show _ = _; rw [← get_isSome, HF.out]; rfl
        have d1 : decide (p.1 = fd) = true := decide_eq_true he
        have d2 : (p.1 == fd) = true := by simpa using he
        clear he
        go_wp2_with fail
        go_ret2
        rw [HF.out, HH.out]
        exact ⟨rfl, rfl⟩
      · have d1 : decide (p.1 = fd) = false := decide_eq_false he
        have d2 : (p.1 == fd) = false := by simpa using he
        have HF : Hid (getB (l.take (k + 1)) fd = none) := by show _ = _; rw [HT.out, getB_snoc _ _ _ HG.out, if_neg he]
        clear he
        go_wp2_with fail
        go_roundw
        case rel => exact ⟨k + 1, by omega, by go_num, HF.out, trivial⟩
        case measure => simp [intOf]; omega
    · obtain rfl : k = l.length := by omega
      rw [List.take_length] at HG
      have HH : Hid (hasB l fd = false) := by show _ = _; rw [← get_isSome, HG.out]; rfl
      have u3 : decide (l.length < l.length) = false := decide_eq_false (by omega)
      have u1 : decide ((l.length : Int) < (l.length : Int)) = false := decide_eq_false (by omega)
      have u2 : ¬ ((l.length : Int) < (l.length : Int)) := by omega
      go_wp2_with fail
      go_ret2
      rw [HG.out, HH.out]
      exact ⟨rfl, rfl⟩
set_option maxHeartbeats 2000000 in
theorem ref_without_calls (w : World) (a : Option Addr) (n c : Nat) (l : List Pr) (fd : Int) (h : Prs w a n c l) (hl : n ≤ 1000000) :
    Calls Tryd.prog 10 #[.slice a n c, .int .i64 fd] w (RefPost w (withoutB l fd)) := by
  obtain ⟨i0, hi0, hz0, hz1, hz2⟩ := info_parts info_refp
  obtain rfl := h.1
  have H := Lib.hid h
  clear h
  go_enter Tryd.func10, Tryd.ntmps10
  go_wp2_with fail
  go_loopw [5, 6] (fun v5 v6 wr => ∃ (k : Nat) (v : Value), v = v5 ∧ k ≤ l.length ∧ v6 = .int .i64 k ∧ OwnR wr w.heap.size v (withoutB (l.take k) fd) ∧ Below w.heap.size w wr) (fun _ v6 _ => l.length - (intOf v6).toNat)
  case atStart => exact ⟨0, _, rfl, Nat.zero_le _, rfl, World.ownsRow_nil _ _ _ _, Below.refl _ _⟩
  case round =>
    obtain ⟨k, v, rfl, hk, rfl, hown, hb⟩ := hrel
    by_cases hlt : k < l.length
    · obtain ⟨b, off, hcs, hix⟩ := refp_at (H.out.below (Ap.stable_cellsAt prC) hb)
      have hx := fun W => hix .i64 k W hlt
      obtain ⟨c0, c1⟩ := hcs k hlt
      have hT : withoutB (l.take (k + 1)) fd = withoutB (l.take k) fd ++ withoutB [l[k]] fd := by unfold withoutB; rw [List.take_succ_eq_append_getElem hlt, List.filter_append]
      have hml : (withoutB (l.take k) fd).length ≤ k := Nat.le_trans (without_len fd _) (List.length_take_le _ _)
      generalize l[k]'hlt = p at *
      generalize off + k * 2 = q at *
      have HT := Lib.hid hT
      have HO := Lib.hid (show wr.ownsRow w.heap.size 45 2 v (withoutB (l.take k) fd).length ((withoutB (l.take k) fd).flatMap prC) from hown)
      have HB := Lib.hid hb
      have HM := Lib.hid hml
      clear hcs hix hT hown hb hml
      generalize withoutB (l.take k) fd = m at *
      have u3 : decide (k < l.length) = true := decide_eq_true (by omega)
      have u1 : decide ((k : Int) < (l.length : Int)) = true := decide_eq_true (by omega)
      have u2 : (k : Int) < (l.length : Int) := by omega
      by_cases he : p.1 = fd
      · have d1 : decide (p.1 = fd) = true := decide_eq_true he
        have d2 : (p.1 != fd) = false := by simpa using he
        have d3 : (p.1 == fd) = true := by simpa using he
        have HF : Hid (withoutB (l.take (k + 1)) fd = m) := by show _ = _; rw [HT.out]; unfold withoutB; rw [List.filter_cons_of_neg (by simpa using he)]; simp
        clear he
        go_wp2_with fail
        go_roundw
        case rel => exact ⟨k + 1, v, rfl, by omega, by go_num, by rw [HF.out]; exact HO.out, HB.out⟩
        case measure => simp [intOf]; omega
      · have d1 : decide (p.1 = fd) = false := decide_eq_false he
        have d2 : (p.1 != fd) = true := by simpa using he
        have d3 : (p.1 == fd) = false := by simpa using he
        have HF : Hid (withoutB (l.take (k + 1)) fd = m ++ [p]) := by show _ = _; rw [HT.out]; unfold withoutB; rw [List.filter_cons_of_pos (by simpa using he)]; simp
        have HA := Lib.hid (HB.out.alloc HB.out.size (.cells (prC p).toArray 45))
        have HOA := Lib.hid (HO.out.alloc (.cells (prC p).toArray 45))
        have HS := Lib.hid (Ap.src_cellsAt (P := Tryd.prog) prC_len prC_one (heap_alloc_new wr (.cells (prC p).toArray 45)) 1)
        unfold prC at HA HOA HS
        have hml := HM.out
        clear he
        go_wp2_with (at_builtin; refine wpList_append_src rfl (.tmp 20) (.tmp 25) 28 28 rfl w.heap.size 45 i0 (.agg #[.int .i64 0, .int .i64 0]) 2 16 Tryd.underlying28 append_refp hi0 hz0 hz1 hz2 rfl (by decide) (by decide) _ m.length _ rfl HOA.out _ 1 _ rfl HS.out ?_ ?_ ?_ ?_)
        case _ => unfold maxLen; omega
        case _ => omega
        case _ => first | exact HA.out.size | (have := HA.out.size; rw [World.size_alloc] at this; exact this)
        intro v' w' h1 h2 _
        have HB' := Lib.hid (HA.out.grown h2 HA.out.size (fun j hj => (HOA.out.lt j hj).1))
        have H1 : Hid (OwnR w' w.heap.size v' (withoutB (l.take (k + 1)) fd)) := by
          show World.ownsRow _ _ _ _ _ _ _
          rw [HF.out, List.flatMap_append, List.length_append]
          exact h1
        clear h1 h2
        go_wp2_with fail
        go_roundw
        case rel => exact ⟨k + 1, v', rfl, by omega, by go_num, H1.out, HB'.out⟩
        case measure => simp [intOf]; omega
    · obtain rfl : k = l.length := by omega
      rw [List.take_length] at hown
      have HO := Lib.hid hown
      have HB := Lib.hid hb
      clear hown hb
      have u3 : decide (l.length < l.length) = false := decide_eq_false (by omega)
      have u1 : decide ((l.length : Int) < (l.length : Int)) = false := decide_eq_false (by omega)
      have u2 : ¬ ((l.length : Int) < (l.length : Int)) := by omega
      go_wp2_with fail
      go_ret
      exact ⟨v, rfl, HO.out, HB.out⟩
end Go.Proofs.YtghjmhhchhgppaaDoor
