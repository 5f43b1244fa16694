/-
  State: numbers, put and read. Conditions: as each contract says.
-/
import Derived.Test.YtmhofdoifgfjfaaStMem
import Derived.Deep.CutBlock
import Derived.Deep.DeepCutAuto
set_option linter.unusedVariables false
set_option maxRecDepth 100000
namespace Go.Proofs.Ytmhofdoifgfjfaa
open Go.RowKit Base

theorem wire_f0 (F : Nat) (w : World) : (Instr.fieldAt 78 (.pointer (some ⟨F, 0, none⟩)) 0).run Try.prog w = .ok (.pointer (some ⟨F, 0, none⟩)) w := by rfl
theorem wire_f1 (F : Nat) (w : World) : (Instr.fieldAt 78 (.pointer (some ⟨F, 0, none⟩)) 1).run Try.prog w = .ok (.pointer (some ⟨F, 1, none⟩)) w := by rfl
theorem wire_f2 (F : Nat) (w : World) : (Instr.fieldAt 78 (.pointer (some ⟨F, 0, none⟩)) 2).run Try.prog w = .ok (.pointer (some ⟨F, 2, none⟩)) w := by rfl
theorem load_u8s {w : World} {ad : Addr} {v : Value} (h : w.cell? ad = some v) : (Instr.loadAt 64 (.pointer (some ad))).run Try.prog w = .ok v w := Ap.load_plainP (by simp [isAgg]) h
theorem load_int {w : World} {ad : Addr} {v : Value} (h : w.cell? ad = some v) : (Instr.loadAt 3 (.pointer (some ad))).run Try.prog w = .ok v w := Ap.load_plainP (by simp [isAgg]) h
theorem load_int64 {w : World} {ad : Addr} {v : Value} (h : w.cell? ad = some v) : (Instr.loadAt 2 (.pointer (some ad))).run Try.prog w = .ok v w := Ap.load_plainP (by simp [isAgg]) h
theorem load_errno {w : World} {ad : Addr} {v : Value} (h : w.cell? ad = some v) : (Instr.loadAt 42 (.pointer (some ad))).run Try.prog w = .ok v w := Ap.load_plainP (by simp [isAgg]) h
theorem load_str {w : World} {ad : Addr} {v : Value} (h : w.cell? ad = some v) : (Instr.loadAt 9 (.pointer (some ad))).run Try.prog w = .ok v w := Ap.load_plainP (by simp [isAgg]) h
theorem wrong_calls (w : World) (F : Nat) (e : Int) (hc : w.cell? ⟨F, 2, none⟩ = some (.int .i64 e)) : Calls Try.prog 34 #[.pointer (some ⟨F, 0, none⟩)] w fun r w' => r = .returned (.bool (decide (e ≠ 0))) ∧ w = w' := by
  by_cases he : e = 0
  · subst he
    go_enter Try.func34, Try.ntmps34
    go_wp2_with fail
    go_ret
    exact ⟨rfl, rfl⟩
  · have t1 : (e != 0) = true := by simpa using he
    have t2 : decide (e = 0) = false := decide_eq_false he
    have HE : Hid (decide (e ≠ 0) = true) := decide_eq_true he
    clear he
    go_enter Try.func34, Try.ntmps34
    go_wp2_with fail
    go_ret
    rw [HE.out]
    exact ⟨rfl, rfl⟩
theorem must_yes_calls (w : World) (F : Nat) (d : Int) : Calls Try.prog 32 #[.pointer (some ⟨F, 0, none⟩), .bool true, .int .i64 d] w fun r w' => r = .returned (.tuple #[]) ∧ w = w' := by
  go_enter Try.func32, Try.ntmps32
  go_wp2_with fail
  refine bodyPost_end (v := .tuple #[]) (results_none rfl _ _ _) rfl ?_
  exact ⟨rfl, rfl⟩
theorem must_calls (w : World) (F q : Nat) (l : Nm) (e : Int) (is : Bool) (d : Int) (h : RkI F q l e w) : Calls Try.prog 32 #[.pointer (some ⟨F, 0, none⟩), .bool is, .int .i64 d] w fun r w' => r = .returned (.tuple #[]) ∧ RkI F q l (mustE is e d) w' ∧ (∀ g, RUp F q g w w') ∧ ∀ k, k ≠ F → w'.heap[k]? = w.heap[k]? := by
  cases is with
  | true =>
    refine (must_yes_calls w F d).mono ?_
    rintro r w' ⟨rfl, rfl⟩
    rw [mustE_yes]
    exact ⟨rfl, h, fun g => RUp.refl _ _ _ _, fun _ _ => rfl⟩
  | false =>
    obtain ⟨⟨c0, c1, c2⟩, f0, f1, f2⟩ := three h.k
    have H := Lib.hid h
    clear h
    by_cases he : e = 0
    · subst he
      have hk2 : (w.setCell ⟨F, 2, none⟩ (.int .i64 d)).heap[F]? = some (.cells #[.slice none 0 0, .pointer (some ⟨q, 0, none⟩), .int .i64 d] wireT) := heap_setCell_same _ _ 2 _ _ _ H.out.k
      have HK2 := Lib.hid hk2
      clear hk2
      go_enter Try.func32, Try.ntmps32
      go_wp2_with fail
      refine (wrong_calls w F 0 c2).mono ?_
      rintro e w' ⟨rfl, rfl⟩
      rw [show decide ((0 : Int) ≠ 0) = false from rfl]
      go_wp2_with fail
      refine bodyPost_end (v := .tuple #[]) (results_none rfl _ _ _) rfl ?_
      rw [mustE_no]
      refine ⟨rfl, ?_, fun g => ?_, fun k hk => set_other w F 2 _ k hk⟩
      · obtain ⟨l', e', h1, h2⟩ := H.out.r
        have hlt := H.out.lt
        refine ⟨HK2.out, ⟨l', e', rdin_keep h1 (fun k hk => set_other w F 2 _ k (by omega)), fun h => ?_⟩, hlt⟩
        subst h
        exact h2 rfl
      · exact RUp.of_grown (Ap.grown_set w F 2 _) (fun j hj => .inl (by cases hj; rfl))
    · have HE := Lib.hid he
      have HM : Hid (mustE false e d = e) := mustE_stop he
      have HD : Hid (decide (e ≠ 0) = true) := decide_eq_true he
      clear he
      go_enter Try.func32, Try.ntmps32
      go_wp2_with fail
      refine (wrong_calls w F e c2).mono ?_
      rintro r w' ⟨rfl, rfl⟩
      rw [HD.out]
      go_wp2_with fail
      refine bodyPost_end (v := .tuple #[]) (results_none rfl _ _ _) rfl ?_
      rw [HM.out]
      exact ⟨rfl, H.out, fun g => RUp.refl _ _ _ _, fun _ _ => rfl⟩
theorem rd_int_in (S : Nat → Prop) (w : World) (q : Nat) (l : Nm) (e : Int) (h : RdIn S w q l e) :
    Calls Try.prog 67 #[.pointer (some ⟨q, 0, none⟩)] w fun r w' => r = .returned (.int .i64 (VarPlain.zag (VarPlain.next l e).1)) ∧ RdIn S w' q (VarPlain.next l e).2.1 (VarPlain.next l e).2.2 ∧ w.grownBy w' (some q) := by
  have hx : (VarPlain.next l e).1 < 18446744073709551616 := by
    unfold VarPlain.next
    split
    · simp
    · exact VarPlain.take_lt l
  have Hx := Lib.hid hx; clear hx
  have H := Lib.hid (rd_num_in S w q l e h); clear h
  go_enter Try.func67, Try.ntmps67
  go_wp2_with fail
  refine H.out.mono ?_
  rintro r w' ⟨rfl, hr, hg⟩
  have Hr := Lib.hid hr; clear hr
  have Hg := Lib.hid hg; clear hg
  go_wp2_with fail
  refine (var_zag_calls w' ((VarPlain.next l e).1 : Int) (by omega) (by have := Hx.out; omega)).mono ?_
  rintro r w'' ⟨rfl, rfl⟩
  rw [Int.toNat_natCast]
  go_wp2_with fail
  go_ret
  exact ⟨rfl, Hr.out, Hg.out⟩
theorem u64_lit {w : World} {g : Nat} {x : Nat} {t : TypeId} (h : w.heap[g]? = some (.cells #[.int .u64 (x : Int)] t)) : U64s w (some ⟨g, 0, none⟩) 1 1 [x] := by
  refine ⟨rfl, Nat.le_refl _, by decide, g, 0, .inr rfl, fun k hk => ?_⟩
  match k, hk with
  | 0, _ =>
    show w.cell? _ = _
    simp [World.cell?, h]
theorem wrong_of {F q : Nat} {l : Nm} {e : Int} {W : World} (h : RkI F q l e W) : W.cell? ⟨F, 2, none⟩ = some (.int .i64 e) := (three h.k).1.2.2
set_option maxHeartbeats 4000000 in
theorem pk_int_calls (W : World) (F : Nat) (v : Value) (o : Nm) (g off : Nat) (z : Int) (h : PkI F v o W) (hc : W.cell? ⟨g, off, none⟩ = some (.int .i64 z)) (hz : I64 z) (hl : (o ++ intB z).length ≤ 1000000000000) :
    Calls Try.prog 45 #[.pointer (some ⟨F, 0, none⟩), .pointer (some ⟨g, off, none⟩)] W (PkPost F v o (intB z) W) := by
  obtain ⟨i0, hi0, hz0, hz1, hz2⟩ := info_parts info_u8
  obtain ⟨⟨c0, c1, c2⟩, f0, f1, f2⟩ := three h.k
  rw [List.length_append] at hl
  have HP := Lib.hid h
  have HOw := Lib.hid h.own
  have HFl := Lib.hid h.lt
  have HHi := Lib.hid h.hi
  have K0 := Lib.hid c0
  have KX := Lib.hid hc
  have HZ := Lib.hid hz
  have HLn := Lib.hid hl
  clear h hz hl
  go_enter Try.func45, Try.ntmps45
  go_upto_region 1 with fail
  clear c0 c1 c2 f0 f1 f2 hc
  refine Rt.wp_region_rkt 12 [] [Rg.Is (.pointer (some ⟨F, 0, none⟩)), Rg.Is (.pointer (some ⟨F, 0, none⟩)), Rg.Is (.pointer (some ⟨F, 0, none⟩)), Rg.Is (.pointer (some ⟨F, 0, none⟩)), Rg.Is (v), Rg.Is (.pointer (some ⟨g, off, none⟩)), Rg.Is (.pointer (some ⟨g, off, none⟩)), Rg.Is (.int .i64 z), Rg.Is (.int .u64 (VarPlain.zig z : Int)), (fun u x => ∃ b, u = .slice (some ⟨b, 0, none⟩) 1 1 ∧ W.heap.size ≤ b ∧ x.heap[b]? = some (.cells #[.int .u64 (VarPlain.zig z : Int)] 147)), (fun u x => x.ownsRow W.heap.size 5 1 u (intB z).length ((intB z).map bv)), (fun u x => x.ownsRow (F + 1) 5 1 u (o ++ intB z).length ((o ++ intB z).map bv) ∧ WUp F v u W x ∧ x.heap[F]? = W.heap[F]?)] (fun _ _ => True) (fun ls x => ls 11 = false → Below W.heap.size W x) (fun k x y => if k = 11 then x.grownBy y (Value.ownBlock (v)) else Below x.heap.size x y) (by kernel_rfl) (by kernel_rfl) (of_decide_eq_true (by kernel_rfl)) (by kernel_rfl) (by kernel_rfl) trivial (fun _ => ⟨rfl, rfl, rfl, Nat.le_refl _, fun _ _ => rfl⟩) (fun ls ls' x e h1 h2 => h1 (by rw [e]; exact h2)) (fun _ _ _ _ _ => trivial) (fun i ls x _ h1 => by rw [show ([] : List Bool).getD i true = true from rfl] at h1; cases h1) ?_ ⟨rfl, rfl, rfl, rfl, rfl, rfl, rfl, rfl, rfl, rfl, rfl, rfl, trivial⟩ ⟨?_, ?_, ?_, ?_, ?_, ?_, ?_, ?_, ?_, ?_, ?_, ?_, trivial⟩ ?_
  · intro i k u x y hik _ h1 hK
    match i, h1, hik with
    | 0, h1, _ => exact h1
    | 1, h1, _ => exact h1
    | 2, h1, _ => exact h1
    | 3, h1, _ => exact h1
    | 4, h1, _ => exact h1
    | 5, h1, _ => exact h1
    | 6, h1, _ => exact h1
    | 7, h1, _ => exact h1
    | 8, h1, _ => exact h1
    | 9, h1, hik =>
      obtain ⟨b, h2, h3, h4⟩ := h1
      refine ⟨b, h2, h3, ?_⟩
      have hg := (Array.getElem?_eq_some_iff.1 h4).1
      by_cases hk : k = 11
      · subst hk
        rw [if_pos rfl] at hK
        exact (hK.block b hg (fun e => by have := (HOw.out.lt _ e.symm).2; omega)).trans h4
      · rw [if_neg hk] at hK
        exact (hK.block b hg).trans h4
    | 10, h1, hik =>
      by_cases hk : k = 11
      · subst hk
        rw [if_pos rfl] at hK
        exact own_grown h1 hK (fun j hj => (HOw.out.lt j hj).2)
      · rw [if_neg hk] at hK
        exact ownsRow_below h1 hK
    | 11, h1, hik =>
      rw [if_neg (fun e => hik e.symm)] at hK
      refine ⟨ownsRow_below h1.1 hK, h1.2.1.trans (WUp.of_below hK), (hK.block F (Nat.lt_of_lt_of_le HFl.out h1.2.1.size)).trans h1.2.2⟩
    | _ + 12, _, _ => trivial
  · intro _ b x ls hR hS hself hup hdn hk
    have h0 : b.eval (.tmp 0) = .pointer (some ⟨F, 0, none⟩) := Eq.mp (by kernel_rfl) (hk 0 (by decide))
    exact Rg.does_move ⟨by rw [if_neg (by decide)]; exact Below.refl _ _, h0, fun hh => hS hh⟩
  · intro _ b x ls hR hS hself hup hdn hk
    have h0 : b.eval (.tmp 0) = .pointer (some ⟨F, 0, none⟩) := Eq.mp (by kernel_rfl) (hk 0 (by decide))
    have lA : ls 11 = false := hdn [4, 3, 2] 11 _ rfl (by kernel_rfl)
    have hb := hS lA
    exact Rg.does_move ⟨by rw [if_neg (by decide)]; exact Below.refl _ _, h0, fun hh => hS hh⟩
  · intro _ b x ls hR hS hself hup hdn hk
    have h10 : b.eval (.tmp 10) = .pointer (some ⟨F, 0, none⟩) := Eq.mp (by kernel_rfl) (hk 10 (by decide))
    have lA : ls 11 = false := hdn [4, 3] 11 _ rfl (by kernel_rfl)
    have hb := hS lA
    exact Ap.does_nil _ h10 ⟨by rw [if_neg (by decide)]; exact Below.refl _ _, rfl, fun hh => hS hh⟩
  · intro _ b x ls hR hS hself hup hdn hk
    have h11 : b.eval (.tmp 11) = .pointer (some ⟨F, 0, none⟩) := Eq.mp (by kernel_rfl) (hk 11 (by decide))
    have lA : ls 11 = false := hdn [4] 11 _ rfl (by kernel_rfl)
    have hb := hS lA
    exact Rs.does_field _ _ h11 (wire_f0 F x) ⟨by rw [if_neg (by decide)]; exact Below.refl _ _, rfl, fun hh => hS hh⟩
  · intro _ b x ls hR hS hself hup hdn hk
    have h12 : b.eval (.tmp 12) = .pointer (some ⟨F, 0, none⟩) := Eq.mp (by kernel_rfl) (hk 12 (by decide))
    have lA : ls 11 = false := hdn [] 11 _ rfl (by kernel_rfl)
    have hb := hS lA
    exact Rg.does_load _ _ h12 (load_u8s (cell_below hb (Nat.le_refl _) K0.out)) ⟨by rw [if_neg (by decide)]; exact Below.refl _ _, rfl, fun hh => hS hh⟩
  · intro _ b x ls hR hS hself hup hdn hk
    have h1 : b.eval (.tmp 1) = .pointer (some ⟨g, off, none⟩) := Eq.mp (by kernel_rfl) (hk 1 (by decide))
    have lA : ls 11 = false := hdn [10, 8, 7, 6] 11 _ rfl (by kernel_rfl)
    have hb := hS lA
    exact Rg.does_move ⟨by rw [if_neg (by decide)]; exact Below.refl _ _, h1, fun hh => hS hh⟩
  · intro _ b x ls hR hS hself hup hdn hk
    have h14 : b.eval (.tmp 14) = .pointer (some ⟨g, off, none⟩) := Eq.mp (by kernel_rfl) (hk 14 (by decide))
    have lA : ls 11 = false := hdn [10, 8, 7] 11 _ rfl (by kernel_rfl)
    have hb := hS lA
    exact Ap.does_nil _ h14 ⟨by rw [if_neg (by decide)]; exact Below.refl _ _, rfl, fun hh => hS hh⟩
  · intro _ b x ls hR hS hself hup hdn hk
    have h15 : b.eval (.tmp 15) = .pointer (some ⟨g, off, none⟩) := Eq.mp (by kernel_rfl) (hk 15 (by decide))
    have lA : ls 11 = false := hdn [10, 8] 11 _ rfl (by kernel_rfl)
    have hb := hS lA
    exact Rg.does_load _ _ h15 (load_int (cell_below hb (Nat.le_refl _) KX.out)) ⟨by rw [if_neg (by decide)]; exact Below.refl _ _, rfl, fun hh => hS hh⟩
  · intro _ b x ls hR hS hself hup hdn hk
    have h16 : b.eval (.tmp 16) = .int .i64 z := Eq.mp (by kernel_rfl) (hk 16 (by decide))
    have lA : ls 11 = false := hdn [10] 11 _ rfl (by kernel_rfl)
    have hb := hS lA
    refine Rg.does_func #[.int .i64 z] Try.func66 (by kernel_rfl) (by kernel_rfl) (by simp [h16]) (var_zig_calls x z HZ.out.1 HZ.out.2) ?_
    rintro e w' ⟨rfl, rfl⟩
    exact ⟨_, rfl, by rw [if_neg (by decide)]; exact Below.refl _ _, rfl, fun hh => hb⟩
  · intro _ b x ls hR hS hself hup hdn hk
    have h17 : b.eval (.tmp 17) = .int .u64 (VarPlain.zig z : Int) := Eq.mp (by kernel_rfl) (hk 17 (by decide))
    have lA : ls 11 = false := hdn [10] 11 _ rfl (by kernel_rfl)
    have hb := hS lA
    have hal := (Below.refl x.heap.size x).alloc (Nat.le_refl _) (.cells #[.int .u64 (VarPlain.zig z : Int)] 147)
    exact Rg.does_build #[(0, .int .u64 (VarPlain.zig z : Int))] _ (by simp [h17]) (by go_simp) ⟨by rw [if_neg (by decide)]; exact hal, ⟨x.heap.size, rfl, hb.size, heap_alloc_new x _⟩, fun hh => hb.trans (hal.mono hb.size)⟩
  · intro _ b x ls hR hS hself hup hdn hk
    have h18 : (fun u x => ∃ b, u = .slice (some ⟨b, 0, none⟩) 1 1 ∧ W.heap.size ≤ b ∧ x.heap[b]? = some (.cells #[.int .u64 (VarPlain.zig z : Int)] 147)) (b.eval (.tmp 18)) x := Eq.mp (by kernel_rfl) (hk 18 (by decide))
    have lA : ls 11 = false := hdn [] 11 _ rfl (by kernel_rfl)
    have hb := hS lA
    obtain ⟨b1, h2, h3, h4⟩ := h18
    refine Rg.does_func #[.slice (some ⟨b1, 0, none⟩) 1 1] Try.func65 (by kernel_rfl) (by kernel_rfl) (by simp [h2]) (var_put_calls x _ 1 1 [VarPlain.zig z] (u64_lit h4) (fun y hy => by simp at hy; rw [hy]; exact zig_lt HZ.out) (by decide)) ?_
    rintro e w' ⟨u, rfl, hu, hb'⟩
    rw [nums_one] at hu
    exact ⟨_, rfl, by rw [if_neg (by decide)]; exact hb', own_base hu hb.size, fun hh => hb.trans (hb'.mono hb.size)⟩
  · intro _ b x ls hR hS hself hup hdn hk
    have h13 : b.eval (.tmp 13) = v := Eq.mp (by kernel_rfl) (hk 13 (by decide))
    have h19 : (fun u x => x.ownsRow W.heap.size 5 1 u (intB z).length ((intB z).map bv)) (b.eval (.tmp 19)) x := Eq.mp (by kernel_rfl) (hk 19 (by decide))
    have hb := hS hself
    obtain ⟨a2, c2, hu2, hbs⟩ := ownsRow_bytes h19
    have hown : x.ownsRow (F + 1) 5 1 v o.length (o.map bv) := ownsRow_below HOw.out hb
    obtain ⟨v', w', hrun, hown', hgr, hat⟩ := Ap.run_append_at (P := Try.prog) x (F + 1) 64 64 64 5 i0 _ 1 1 Try.underlying64 (append_side Try.underlying64) hi0 hz0 hz1 hz2 rfl (by omega) (by omega) v _ _ hown (b.eval (.tmp 19)) _ _ (by rw [hu2]; exact src_bytes hbs) (by have := HLn.out; unfold maxLen; omega) (by have := HLn.out; omega) (by have := hb.size; have := HFl.out; omega)
    exact Ap.does_append v _ v' w' h13 rfl hrun ⟨by rw [if_pos rfl]; exact hgr, ⟨by rw [List.length_append, List.map_append]; exact hown', ⟨hgr.os.trans hb.os, hgr.tape.trans hb.tape, hgr.output.trans hb.output, Nat.le_trans hb.size hgr.size, fun k hk a b => (hgr.block k (Nat.lt_of_lt_of_le hk hb.size) (fun e => b e.symm)).trans (hb.block k hk), fun k hk => (Nat.lt_or_ge k x.heap.size).elim (fun h => .inl (hat k hk h)) (fun h => .inr (Nat.le_trans hb.size h))⟩, (hgr.block F (Nat.lt_of_lt_of_le HFl.out hb.size) (fun e => by have := HHi.out F e.symm; omega)).trans (hb.block F HFl.out)⟩, fun hh => by simp [Rs.upd] at hh⟩
  · intro vals wD ls _ hSD _ hL
    obtain ⟨g0, g1, g2, g3, g4, g5, g6, g7, g8, g9, g10, g11, _⟩ := hL
    obtain ⟨hown, hup, hF⟩ : wD.ownsRow (F + 1) 5 1 (vals 11) (o ++ intB z).length ((o ++ intB z).map bv) ∧ WUp F v (vals 11) W wD ∧ wD.heap[F]? = W.heap[F]? := g11
    have g0' : vals 0 = .pointer (some ⟨F, 0, none⟩) := g0
    clear g0 g1 g2 g3 g4 g5 g6 g7 g8 g9 g10
    simp only [Rg.putAll, List.take_succ_cons, List.take_zero, List.drop_succ_cons, List.drop_zero, List.setIfInBounds_toArray, List.set_cons_succ, List.set_cons_zero, g0']
    clear g0'
    generalize vals 11 = u at *
    rw [List.length_append] at hown
    have HFD := Lib.hid (hF.trans HP.out.k)
    obtain ⟨⟨c0, c1, c2⟩, f0, f1, f2⟩ := three HFD.out
    obtain ⟨au, cu, rfl, _, _, _, _⟩ := ownsRow_slice hown
    have HO := Lib.hid hown
    have HU := Lib.hid hup
    clear hown hup hF
    go_wp2_with fail
    refine bodyPost_end (v := .tuple #[]) (results_none rfl _ _ _) rfl ?_
    refine ⟨rfl, .slice au (o.length + (intB z).length) cu, ⟨heap_setCell_same _ _ 0 _ _ _ HFD.out, by rw [List.length_append]; exact ownsRow_setCell_below HO.out (Nat.lt_succ_self F) _⟩, HU.out.os, HU.out.tape, HU.out.output, ?_, fun k hk a b => (set_other wD F 0 _ k a).trans (HU.out.block k hk a b), HU.out.own⟩
    rw [size_set]
    exact HU.out.size
set_option maxHeartbeats 4000000 in
theorem pk_int64_calls (W : World) (F : Nat) (v : Value) (o : Nm) (g off : Nat) (z : Int) (h : PkI F v o W) (hc : W.cell? ⟨g, off, none⟩ = some (.int .i64 z)) (hz : I64 z) (hl : (o ++ intB z).length ≤ 1000000000000) :
    Calls Try.prog 61 #[.pointer (some ⟨F, 0, none⟩), .pointer (some ⟨g, off, none⟩)] W (PkPost F v o (intB z) W) := by
  obtain ⟨i0, hi0, hz0, hz1, hz2⟩ := info_parts info_u8
  obtain ⟨⟨c0, c1, c2⟩, f0, f1, f2⟩ := three h.k
  rw [List.length_append] at hl
  have HP := Lib.hid h
  have HOw := Lib.hid h.own
  have HFl := Lib.hid h.lt
  have HHi := Lib.hid h.hi
  have K0 := Lib.hid c0
  have KX := Lib.hid hc
  have HZ := Lib.hid hz
  have HLn := Lib.hid hl
  clear h hz hl
  go_enter Try.func61, Try.ntmps61
  go_upto_region 1 with fail
  clear c0 c1 c2 f0 f1 f2 hc
  refine Rt.wp_region_rkt 12 [] [Rg.Is (.pointer (some ⟨F, 0, none⟩)), Rg.Is (.pointer (some ⟨F, 0, none⟩)), Rg.Is (.pointer (some ⟨F, 0, none⟩)), Rg.Is (.pointer (some ⟨F, 0, none⟩)), Rg.Is (v), Rg.Is (.pointer (some ⟨g, off, none⟩)), Rg.Is (.pointer (some ⟨g, off, none⟩)), Rg.Is (.int .i64 z), Rg.Is (.int .u64 (VarPlain.zig z : Int)), (fun u x => ∃ b, u = .slice (some ⟨b, 0, none⟩) 1 1 ∧ W.heap.size ≤ b ∧ x.heap[b]? = some (.cells #[.int .u64 (VarPlain.zig z : Int)] 147)), (fun u x => x.ownsRow W.heap.size 5 1 u (intB z).length ((intB z).map bv)), (fun u x => x.ownsRow (F + 1) 5 1 u (o ++ intB z).length ((o ++ intB z).map bv) ∧ WUp F v u W x ∧ x.heap[F]? = W.heap[F]?)] (fun _ _ => True) (fun ls x => ls 11 = false → Below W.heap.size W x) (fun k x y => if k = 11 then x.grownBy y (Value.ownBlock (v)) else Below x.heap.size x y) (by kernel_rfl) (by kernel_rfl) (of_decide_eq_true (by kernel_rfl)) (by kernel_rfl) (by kernel_rfl) trivial (fun _ => ⟨rfl, rfl, rfl, Nat.le_refl _, fun _ _ => rfl⟩) (fun ls ls' x e h1 h2 => h1 (by rw [e]; exact h2)) (fun _ _ _ _ _ => trivial) (fun i ls x _ h1 => by rw [show ([] : List Bool).getD i true = true from rfl] at h1; cases h1) ?_ ⟨rfl, rfl, rfl, rfl, rfl, rfl, rfl, rfl, rfl, rfl, rfl, rfl, trivial⟩ ⟨?_, ?_, ?_, ?_, ?_, ?_, ?_, ?_, ?_, ?_, ?_, ?_, trivial⟩ ?_
  · intro i k u x y hik _ h1 hK
    match i, h1, hik with
    | 0, h1, _ => exact h1
    | 1, h1, _ => exact h1
    | 2, h1, _ => exact h1
    | 3, h1, _ => exact h1
    | 4, h1, _ => exact h1
    | 5, h1, _ => exact h1
    | 6, h1, _ => exact h1
    | 7, h1, _ => exact h1
    | 8, h1, _ => exact h1
    | 9, h1, hik =>
      obtain ⟨b, h2, h3, h4⟩ := h1
      refine ⟨b, h2, h3, ?_⟩
      have hg := (Array.getElem?_eq_some_iff.1 h4).1
      by_cases hk : k = 11
      · subst hk
        rw [if_pos rfl] at hK
        exact (hK.block b hg (fun e => by have := (HOw.out.lt _ e.symm).2; omega)).trans h4
      · rw [if_neg hk] at hK
        exact (hK.block b hg).trans h4
    | 10, h1, hik =>
      by_cases hk : k = 11
      · subst hk
        rw [if_pos rfl] at hK
        exact own_grown h1 hK (fun j hj => (HOw.out.lt j hj).2)
      · rw [if_neg hk] at hK
        exact ownsRow_below h1 hK
    | 11, h1, hik =>
      rw [if_neg (fun e => hik e.symm)] at hK
      refine ⟨ownsRow_below h1.1 hK, h1.2.1.trans (WUp.of_below hK), (hK.block F (Nat.lt_of_lt_of_le HFl.out h1.2.1.size)).trans h1.2.2⟩
    | _ + 12, _, _ => trivial
  · intro _ b x ls hR hS hself hup hdn hk
    have h0 : b.eval (.tmp 0) = .pointer (some ⟨F, 0, none⟩) := Eq.mp (by kernel_rfl) (hk 0 (by decide))
    exact Rg.does_move ⟨by rw [if_neg (by decide)]; exact Below.refl _ _, h0, fun hh => hS hh⟩
  · intro _ b x ls hR hS hself hup hdn hk
    have h0 : b.eval (.tmp 0) = .pointer (some ⟨F, 0, none⟩) := Eq.mp (by kernel_rfl) (hk 0 (by decide))
    have lA : ls 11 = false := hdn [4, 3, 2] 11 _ rfl (by kernel_rfl)
    have hb := hS lA
    exact Rg.does_move ⟨by rw [if_neg (by decide)]; exact Below.refl _ _, h0, fun hh => hS hh⟩
  · intro _ b x ls hR hS hself hup hdn hk
    have h10 : b.eval (.tmp 10) = .pointer (some ⟨F, 0, none⟩) := Eq.mp (by kernel_rfl) (hk 10 (by decide))
    have lA : ls 11 = false := hdn [4, 3] 11 _ rfl (by kernel_rfl)
    have hb := hS lA
    exact Ap.does_nil _ h10 ⟨by rw [if_neg (by decide)]; exact Below.refl _ _, rfl, fun hh => hS hh⟩
  · intro _ b x ls hR hS hself hup hdn hk
    have h11 : b.eval (.tmp 11) = .pointer (some ⟨F, 0, none⟩) := Eq.mp (by kernel_rfl) (hk 11 (by decide))
    have lA : ls 11 = false := hdn [4] 11 _ rfl (by kernel_rfl)
    have hb := hS lA
    exact Rs.does_field _ _ h11 (wire_f0 F x) ⟨by rw [if_neg (by decide)]; exact Below.refl _ _, rfl, fun hh => hS hh⟩
  · intro _ b x ls hR hS hself hup hdn hk
    have h12 : b.eval (.tmp 12) = .pointer (some ⟨F, 0, none⟩) := Eq.mp (by kernel_rfl) (hk 12 (by decide))
    have lA : ls 11 = false := hdn [] 11 _ rfl (by kernel_rfl)
    have hb := hS lA
    exact Rg.does_load _ _ h12 (load_u8s (cell_below hb (Nat.le_refl _) K0.out)) ⟨by rw [if_neg (by decide)]; exact Below.refl _ _, rfl, fun hh => hS hh⟩
  · intro _ b x ls hR hS hself hup hdn hk
    have h1 : b.eval (.tmp 1) = .pointer (some ⟨g, off, none⟩) := Eq.mp (by kernel_rfl) (hk 1 (by decide))
    have lA : ls 11 = false := hdn [10, 8, 7, 6] 11 _ rfl (by kernel_rfl)
    have hb := hS lA
    exact Rg.does_move ⟨by rw [if_neg (by decide)]; exact Below.refl _ _, h1, fun hh => hS hh⟩
  · intro _ b x ls hR hS hself hup hdn hk
    have h14 : b.eval (.tmp 14) = .pointer (some ⟨g, off, none⟩) := Eq.mp (by kernel_rfl) (hk 14 (by decide))
    have lA : ls 11 = false := hdn [10, 8, 7] 11 _ rfl (by kernel_rfl)
    have hb := hS lA
    exact Ap.does_nil _ h14 ⟨by rw [if_neg (by decide)]; exact Below.refl _ _, rfl, fun hh => hS hh⟩
  · intro _ b x ls hR hS hself hup hdn hk
    have h15 : b.eval (.tmp 15) = .pointer (some ⟨g, off, none⟩) := Eq.mp (by kernel_rfl) (hk 15 (by decide))
    have lA : ls 11 = false := hdn [10, 8] 11 _ rfl (by kernel_rfl)
    have hb := hS lA
    exact Rg.does_load _ _ h15 (load_int64 (cell_below hb (Nat.le_refl _) KX.out)) ⟨by rw [if_neg (by decide)]; exact Below.refl _ _, rfl, fun hh => hS hh⟩
  · intro _ b x ls hR hS hself hup hdn hk
    have h16 : b.eval (.tmp 16) = .int .i64 z := Eq.mp (by kernel_rfl) (hk 16 (by decide))
    have lA : ls 11 = false := hdn [10] 11 _ rfl (by kernel_rfl)
    have hb := hS lA
    refine Rg.does_func #[.int .i64 z] Try.func66 (by kernel_rfl) (by kernel_rfl) (by simp [h16]) (var_zig_calls x z HZ.out.1 HZ.out.2) ?_
    rintro e w' ⟨rfl, rfl⟩
    exact ⟨_, rfl, by rw [if_neg (by decide)]; exact Below.refl _ _, rfl, fun hh => hb⟩
  · intro _ b x ls hR hS hself hup hdn hk
    have h17 : b.eval (.tmp 17) = .int .u64 (VarPlain.zig z : Int) := Eq.mp (by kernel_rfl) (hk 17 (by decide))
    have lA : ls 11 = false := hdn [10] 11 _ rfl (by kernel_rfl)
    have hb := hS lA
    have hal := (Below.refl x.heap.size x).alloc (Nat.le_refl _) (.cells #[.int .u64 (VarPlain.zig z : Int)] 147)
    exact Rg.does_build #[(0, .int .u64 (VarPlain.zig z : Int))] _ (by simp [h17]) (by go_simp) ⟨by rw [if_neg (by decide)]; exact hal, ⟨x.heap.size, rfl, hb.size, heap_alloc_new x _⟩, fun hh => hb.trans (hal.mono hb.size)⟩
  · intro _ b x ls hR hS hself hup hdn hk
    have h18 : (fun u x => ∃ b, u = .slice (some ⟨b, 0, none⟩) 1 1 ∧ W.heap.size ≤ b ∧ x.heap[b]? = some (.cells #[.int .u64 (VarPlain.zig z : Int)] 147)) (b.eval (.tmp 18)) x := Eq.mp (by kernel_rfl) (hk 18 (by decide))
    have lA : ls 11 = false := hdn [] 11 _ rfl (by kernel_rfl)
    have hb := hS lA
    obtain ⟨b1, h2, h3, h4⟩ := h18
    refine Rg.does_func #[.slice (some ⟨b1, 0, none⟩) 1 1] Try.func65 (by kernel_rfl) (by kernel_rfl) (by simp [h2]) (var_put_calls x _ 1 1 [VarPlain.zig z] (u64_lit h4) (fun y hy => by simp at hy; rw [hy]; exact zig_lt HZ.out) (by decide)) ?_
    rintro e w' ⟨u, rfl, hu, hb'⟩
    rw [nums_one] at hu
    exact ⟨_, rfl, by rw [if_neg (by decide)]; exact hb', own_base hu hb.size, fun hh => hb.trans (hb'.mono hb.size)⟩
  · intro _ b x ls hR hS hself hup hdn hk
    have h13 : b.eval (.tmp 13) = v := Eq.mp (by kernel_rfl) (hk 13 (by decide))
    have h19 : (fun u x => x.ownsRow W.heap.size 5 1 u (intB z).length ((intB z).map bv)) (b.eval (.tmp 19)) x := Eq.mp (by kernel_rfl) (hk 19 (by decide))
    have hb := hS hself
    obtain ⟨a2, c2, hu2, hbs⟩ := ownsRow_bytes h19
    have hown : x.ownsRow (F + 1) 5 1 v o.length (o.map bv) := ownsRow_below HOw.out hb
    obtain ⟨v', w', hrun, hown', hgr, hat⟩ := Ap.run_append_at (P := Try.prog) x (F + 1) 64 64 64 5 i0 _ 1 1 Try.underlying64 (append_side Try.underlying64) hi0 hz0 hz1 hz2 rfl (by omega) (by omega) v _ _ hown (b.eval (.tmp 19)) _ _ (by rw [hu2]; exact src_bytes hbs) (by have := HLn.out; unfold maxLen; omega) (by have := HLn.out; omega) (by have := hb.size; have := HFl.out; omega)
    exact Ap.does_append v _ v' w' h13 rfl hrun ⟨by rw [if_pos rfl]; exact hgr, ⟨by rw [List.length_append, List.map_append]; exact hown', ⟨hgr.os.trans hb.os, hgr.tape.trans hb.tape, hgr.output.trans hb.output, Nat.le_trans hb.size hgr.size, fun k hk a b => (hgr.block k (Nat.lt_of_lt_of_le hk hb.size) (fun e => b e.symm)).trans (hb.block k hk), fun k hk => (Nat.lt_or_ge k x.heap.size).elim (fun h => .inl (hat k hk h)) (fun h => .inr (Nat.le_trans hb.size h))⟩, (hgr.block F (Nat.lt_of_lt_of_le HFl.out hb.size) (fun e => by have := HHi.out F e.symm; omega)).trans (hb.block F HFl.out)⟩, fun hh => by simp [Rs.upd] at hh⟩
  · intro vals wD ls _ hSD _ hL
    obtain ⟨g0, g1, g2, g3, g4, g5, g6, g7, g8, g9, g10, g11, _⟩ := hL
    obtain ⟨hown, hup, hF⟩ : wD.ownsRow (F + 1) 5 1 (vals 11) (o ++ intB z).length ((o ++ intB z).map bv) ∧ WUp F v (vals 11) W wD ∧ wD.heap[F]? = W.heap[F]? := g11
    have g0' : vals 0 = .pointer (some ⟨F, 0, none⟩) := g0
    clear g0 g1 g2 g3 g4 g5 g6 g7 g8 g9 g10
    simp only [Rg.putAll, List.take_succ_cons, List.take_zero, List.drop_succ_cons, List.drop_zero, List.setIfInBounds_toArray, List.set_cons_succ, List.set_cons_zero, g0']
    clear g0'
    generalize vals 11 = u at *
    rw [List.length_append] at hown
    have HFD := Lib.hid (hF.trans HP.out.k)
    obtain ⟨⟨c0, c1, c2⟩, f0, f1, f2⟩ := three HFD.out
    obtain ⟨au, cu, rfl, _, _, _, _⟩ := ownsRow_slice hown
    have HO := Lib.hid hown
    have HU := Lib.hid hup
    clear hown hup hF
    go_wp2_with fail
    refine bodyPost_end (v := .tuple #[]) (results_none rfl _ _ _) rfl ?_
    refine ⟨rfl, .slice au (o.length + (intB z).length) cu, ⟨heap_setCell_same _ _ 0 _ _ _ HFD.out, by rw [List.length_append]; exact ownsRow_setCell_below HO.out (Nat.lt_succ_self F) _⟩, HU.out.os, HU.out.tape, HU.out.output, ?_, fun k hk a b => (set_other wD F 0 _ k a).trans (HU.out.block k hk a b), HU.out.own⟩
    rw [size_set]
    exact HU.out.size
set_option maxHeartbeats 4000000 in
theorem pk_errno_calls (W : World) (F : Nat) (v : Value) (o : Nm) (g off : Nat) (z : Int) (h : PkI F v o W) (hc : W.cell? ⟨g, off, none⟩ = some (.int .i64 z)) (hz : I64 z) (hl : (o ++ intB z).length ≤ 1000000000000) :
    Calls Try.prog 48 #[.pointer (some ⟨F, 0, none⟩), .pointer (some ⟨g, off, none⟩)] W (PkPost F v o (intB z) W) := by
  obtain ⟨i0, hi0, hz0, hz1, hz2⟩ := info_parts info_u8
  obtain ⟨⟨c0, c1, c2⟩, f0, f1, f2⟩ := three h.k
  rw [List.length_append] at hl
  have HP := Lib.hid h
  have HOw := Lib.hid h.own
  have HFl := Lib.hid h.lt
  have HHi := Lib.hid h.hi
  have K0 := Lib.hid c0
  have KX := Lib.hid hc
  have HZ := Lib.hid hz
  have HLn := Lib.hid hl
  clear h hz hl
  go_enter Try.func48, Try.ntmps48
  go_upto_region 1 with fail
  clear c0 c1 c2 f0 f1 f2 hc
  refine Rt.wp_region_rkt 12 [] [Rg.Is (.pointer (some ⟨F, 0, none⟩)), Rg.Is (.pointer (some ⟨F, 0, none⟩)), Rg.Is (.pointer (some ⟨F, 0, none⟩)), Rg.Is (.pointer (some ⟨F, 0, none⟩)), Rg.Is (v), Rg.Is (.pointer (some ⟨g, off, none⟩)), Rg.Is (.pointer (some ⟨g, off, none⟩)), Rg.Is (.int .i64 z), Rg.Is (.int .u64 (VarPlain.zig z : Int)), (fun u x => ∃ b, u = .slice (some ⟨b, 0, none⟩) 1 1 ∧ W.heap.size ≤ b ∧ x.heap[b]? = some (.cells #[.int .u64 (VarPlain.zig z : Int)] 147)), (fun u x => x.ownsRow W.heap.size 5 1 u (intB z).length ((intB z).map bv)), (fun u x => x.ownsRow (F + 1) 5 1 u (o ++ intB z).length ((o ++ intB z).map bv) ∧ WUp F v u W x ∧ x.heap[F]? = W.heap[F]?)] (fun _ _ => True) (fun ls x => ls 11 = false → Below W.heap.size W x) (fun k x y => if k = 11 then x.grownBy y (Value.ownBlock (v)) else Below x.heap.size x y) (by kernel_rfl) (by kernel_rfl) (of_decide_eq_true (by kernel_rfl)) (by kernel_rfl) (by kernel_rfl) trivial (fun _ => ⟨rfl, rfl, rfl, Nat.le_refl _, fun _ _ => rfl⟩) (fun ls ls' x e h1 h2 => h1 (by rw [e]; exact h2)) (fun _ _ _ _ _ => trivial) (fun i ls x _ h1 => by rw [show ([] : List Bool).getD i true = true from rfl] at h1; cases h1) ?_ ⟨rfl, rfl, rfl, rfl, rfl, rfl, rfl, rfl, rfl, rfl, rfl, rfl, trivial⟩ ⟨?_, ?_, ?_, ?_, ?_, ?_, ?_, ?_, ?_, ?_, ?_, ?_, trivial⟩ ?_
  · intro i k u x y hik _ h1 hK
    match i, h1, hik with
    | 0, h1, _ => exact h1
    | 1, h1, _ => exact h1
    | 2, h1, _ => exact h1
    | 3, h1, _ => exact h1
    | 4, h1, _ => exact h1
    | 5, h1, _ => exact h1
    | 6, h1, _ => exact h1
    | 7, h1, _ => exact h1
    | 8, h1, _ => exact h1
    | 9, h1, hik =>
      obtain ⟨b, h2, h3, h4⟩ := h1
      refine ⟨b, h2, h3, ?_⟩
      have hg := (Array.getElem?_eq_some_iff.1 h4).1
      by_cases hk : k = 11
      · subst hk
        rw [if_pos rfl] at hK
        exact (hK.block b hg (fun e => by have := (HOw.out.lt _ e.symm).2; omega)).trans h4
      · rw [if_neg hk] at hK
        exact (hK.block b hg).trans h4
    | 10, h1, hik =>
      by_cases hk : k = 11
      · subst hk
        rw [if_pos rfl] at hK
        exact own_grown h1 hK (fun j hj => (HOw.out.lt j hj).2)
      · rw [if_neg hk] at hK
        exact ownsRow_below h1 hK
    | 11, h1, hik =>
      rw [if_neg (fun e => hik e.symm)] at hK
      refine ⟨ownsRow_below h1.1 hK, h1.2.1.trans (WUp.of_below hK), (hK.block F (Nat.lt_of_lt_of_le HFl.out h1.2.1.size)).trans h1.2.2⟩
    | _ + 12, _, _ => trivial
  · intro _ b x ls hR hS hself hup hdn hk
    have h0 : b.eval (.tmp 0) = .pointer (some ⟨F, 0, none⟩) := Eq.mp (by kernel_rfl) (hk 0 (by decide))
    exact Rg.does_move ⟨by rw [if_neg (by decide)]; exact Below.refl _ _, h0, fun hh => hS hh⟩
  · intro _ b x ls hR hS hself hup hdn hk
    have h0 : b.eval (.tmp 0) = .pointer (some ⟨F, 0, none⟩) := Eq.mp (by kernel_rfl) (hk 0 (by decide))
    have lA : ls 11 = false := hdn [4, 3, 2] 11 _ rfl (by kernel_rfl)
    have hb := hS lA
    exact Rg.does_move ⟨by rw [if_neg (by decide)]; exact Below.refl _ _, h0, fun hh => hS hh⟩
  · intro _ b x ls hR hS hself hup hdn hk
    have h10 : b.eval (.tmp 10) = .pointer (some ⟨F, 0, none⟩) := Eq.mp (by kernel_rfl) (hk 10 (by decide))
    have lA : ls 11 = false := hdn [4, 3] 11 _ rfl (by kernel_rfl)
    have hb := hS lA
    exact Ap.does_nil _ h10 ⟨by rw [if_neg (by decide)]; exact Below.refl _ _, rfl, fun hh => hS hh⟩
  · intro _ b x ls hR hS hself hup hdn hk
    have h11 : b.eval (.tmp 11) = .pointer (some ⟨F, 0, none⟩) := Eq.mp (by kernel_rfl) (hk 11 (by decide))
    have lA : ls 11 = false := hdn [4] 11 _ rfl (by kernel_rfl)
    have hb := hS lA
    exact Rs.does_field _ _ h11 (wire_f0 F x) ⟨by rw [if_neg (by decide)]; exact Below.refl _ _, rfl, fun hh => hS hh⟩
  · intro _ b x ls hR hS hself hup hdn hk
    have h12 : b.eval (.tmp 12) = .pointer (some ⟨F, 0, none⟩) := Eq.mp (by kernel_rfl) (hk 12 (by decide))
    have lA : ls 11 = false := hdn [] 11 _ rfl (by kernel_rfl)
    have hb := hS lA
    exact Rg.does_load _ _ h12 (load_u8s (cell_below hb (Nat.le_refl _) K0.out)) ⟨by rw [if_neg (by decide)]; exact Below.refl _ _, rfl, fun hh => hS hh⟩
  · intro _ b x ls hR hS hself hup hdn hk
    have h1 : b.eval (.tmp 1) = .pointer (some ⟨g, off, none⟩) := Eq.mp (by kernel_rfl) (hk 1 (by decide))
    have lA : ls 11 = false := hdn [10, 8, 7, 6] 11 _ rfl (by kernel_rfl)
    have hb := hS lA
    exact Rg.does_move ⟨by rw [if_neg (by decide)]; exact Below.refl _ _, h1, fun hh => hS hh⟩
  · intro _ b x ls hR hS hself hup hdn hk
    have h14 : b.eval (.tmp 14) = .pointer (some ⟨g, off, none⟩) := Eq.mp (by kernel_rfl) (hk 14 (by decide))
    have lA : ls 11 = false := hdn [10, 8, 7] 11 _ rfl (by kernel_rfl)
    have hb := hS lA
    exact Ap.does_nil _ h14 ⟨by rw [if_neg (by decide)]; exact Below.refl _ _, rfl, fun hh => hS hh⟩
  · intro _ b x ls hR hS hself hup hdn hk
    have h15 : b.eval (.tmp 15) = .pointer (some ⟨g, off, none⟩) := Eq.mp (by kernel_rfl) (hk 15 (by decide))
    have lA : ls 11 = false := hdn [10, 8] 11 _ rfl (by kernel_rfl)
    have hb := hS lA
    exact Rg.does_load _ _ h15 (load_errno (cell_below hb (Nat.le_refl _) KX.out)) ⟨by rw [if_neg (by decide)]; exact Below.refl _ _, rfl, fun hh => hS hh⟩
  · intro _ b x ls hR hS hself hup hdn hk
    have h16 : b.eval (.tmp 16) = .int .i64 z := Eq.mp (by kernel_rfl) (hk 16 (by decide))
    have lA : ls 11 = false := hdn [10] 11 _ rfl (by kernel_rfl)
    have hb := hS lA
    refine Rg.does_func #[.int .i64 z] Try.func66 (by kernel_rfl) (by kernel_rfl) (by simp [h16]) (var_zig_calls x z HZ.out.1 HZ.out.2) ?_
    rintro e w' ⟨rfl, rfl⟩
    exact ⟨_, rfl, by rw [if_neg (by decide)]; exact Below.refl _ _, rfl, fun hh => hb⟩
  · intro _ b x ls hR hS hself hup hdn hk
    have h17 : b.eval (.tmp 17) = .int .u64 (VarPlain.zig z : Int) := Eq.mp (by kernel_rfl) (hk 17 (by decide))
    have lA : ls 11 = false := hdn [10] 11 _ rfl (by kernel_rfl)
    have hb := hS lA
    have hal := (Below.refl x.heap.size x).alloc (Nat.le_refl _) (.cells #[.int .u64 (VarPlain.zig z : Int)] 147)
    exact Rg.does_build #[(0, .int .u64 (VarPlain.zig z : Int))] _ (by simp [h17]) (by go_simp) ⟨by rw [if_neg (by decide)]; exact hal, ⟨x.heap.size, rfl, hb.size, heap_alloc_new x _⟩, fun hh => hb.trans (hal.mono hb.size)⟩
  · intro _ b x ls hR hS hself hup hdn hk
    have h18 : (fun u x => ∃ b, u = .slice (some ⟨b, 0, none⟩) 1 1 ∧ W.heap.size ≤ b ∧ x.heap[b]? = some (.cells #[.int .u64 (VarPlain.zig z : Int)] 147)) (b.eval (.tmp 18)) x := Eq.mp (by kernel_rfl) (hk 18 (by decide))
    have lA : ls 11 = false := hdn [] 11 _ rfl (by kernel_rfl)
    have hb := hS lA
    obtain ⟨b1, h2, h3, h4⟩ := h18
    refine Rg.does_func #[.slice (some ⟨b1, 0, none⟩) 1 1] Try.func65 (by kernel_rfl) (by kernel_rfl) (by simp [h2]) (var_put_calls x _ 1 1 [VarPlain.zig z] (u64_lit h4) (fun y hy => by simp at hy; rw [hy]; exact zig_lt HZ.out) (by decide)) ?_
    rintro e w' ⟨u, rfl, hu, hb'⟩
    rw [nums_one] at hu
    exact ⟨_, rfl, by rw [if_neg (by decide)]; exact hb', own_base hu hb.size, fun hh => hb.trans (hb'.mono hb.size)⟩
  · intro _ b x ls hR hS hself hup hdn hk
    have h13 : b.eval (.tmp 13) = v := Eq.mp (by kernel_rfl) (hk 13 (by decide))
    have h19 : (fun u x => x.ownsRow W.heap.size 5 1 u (intB z).length ((intB z).map bv)) (b.eval (.tmp 19)) x := Eq.mp (by kernel_rfl) (hk 19 (by decide))
    have hb := hS hself
    obtain ⟨a2, c2, hu2, hbs⟩ := ownsRow_bytes h19
    have hown : x.ownsRow (F + 1) 5 1 v o.length (o.map bv) := ownsRow_below HOw.out hb
    obtain ⟨v', w', hrun, hown', hgr, hat⟩ := Ap.run_append_at (P := Try.prog) x (F + 1) 64 64 64 5 i0 _ 1 1 Try.underlying64 (append_side Try.underlying64) hi0 hz0 hz1 hz2 rfl (by omega) (by omega) v _ _ hown (b.eval (.tmp 19)) _ _ (by rw [hu2]; exact src_bytes hbs) (by have := HLn.out; unfold maxLen; omega) (by have := HLn.out; omega) (by have := hb.size; have := HFl.out; omega)
    exact Ap.does_append v _ v' w' h13 rfl hrun ⟨by rw [if_pos rfl]; exact hgr, ⟨by rw [List.length_append, List.map_append]; exact hown', ⟨hgr.os.trans hb.os, hgr.tape.trans hb.tape, hgr.output.trans hb.output, Nat.le_trans hb.size hgr.size, fun k hk a b => (hgr.block k (Nat.lt_of_lt_of_le hk hb.size) (fun e => b e.symm)).trans (hb.block k hk), fun k hk => (Nat.lt_or_ge k x.heap.size).elim (fun h => .inl (hat k hk h)) (fun h => .inr (Nat.le_trans hb.size h))⟩, (hgr.block F (Nat.lt_of_lt_of_le HFl.out hb.size) (fun e => by have := HHi.out F e.symm; omega)).trans (hb.block F HFl.out)⟩, fun hh => by simp [Rs.upd] at hh⟩
  · intro vals wD ls _ hSD _ hL
    obtain ⟨g0, g1, g2, g3, g4, g5, g6, g7, g8, g9, g10, g11, _⟩ := hL
    obtain ⟨hown, hup, hF⟩ : wD.ownsRow (F + 1) 5 1 (vals 11) (o ++ intB z).length ((o ++ intB z).map bv) ∧ WUp F v (vals 11) W wD ∧ wD.heap[F]? = W.heap[F]? := g11
    have g0' : vals 0 = .pointer (some ⟨F, 0, none⟩) := g0
    clear g0 g1 g2 g3 g4 g5 g6 g7 g8 g9 g10
    simp only [Rg.putAll, List.take_succ_cons, List.take_zero, List.drop_succ_cons, List.drop_zero, List.setIfInBounds_toArray, List.set_cons_succ, List.set_cons_zero, g0']
    clear g0'
    generalize vals 11 = u at *
    rw [List.length_append] at hown
    have HFD := Lib.hid (hF.trans HP.out.k)
    obtain ⟨⟨c0, c1, c2⟩, f0, f1, f2⟩ := three HFD.out
    obtain ⟨au, cu, rfl, _, _, _, _⟩ := ownsRow_slice hown
    have HO := Lib.hid hown
    have HU := Lib.hid hup
    clear hown hup hF
    go_wp2_with fail
    refine bodyPost_end (v := .tuple #[]) (results_none rfl _ _ _) rfl ?_
    refine ⟨rfl, .slice au (o.length + (intB z).length) cu, ⟨heap_setCell_same _ _ 0 _ _ _ HFD.out, by rw [List.length_append]; exact ownsRow_setCell_below HO.out (Nat.lt_succ_self F) _⟩, HU.out.os, HU.out.tape, HU.out.output, ?_, fun k hk a b => (set_other wD F 0 _ k a).trans (HU.out.block k hk a b), HU.out.own⟩
    rw [size_set]
    exact HU.out.size
set_option maxHeartbeats 4000000 in
theorem rk_int_calls (W : World) (F q : Nat) (l : Nm) (e : Int) (g off : Nat) (cur : List Value) (t : TypeId) (h : RkI F q l e W) (hc : Cut g cur t W) (h0 : cur[off]? = some (.int .i64 0)) (hg : F < g) :
    Calls Try.prog 45 #[.pointer (some ⟨F, 0, none⟩), .pointer (some ⟨g, off, none⟩)] W (RkPost F q g off cur [.int .i64 (numC.dec l e).1] t (numC.dec l e).2.1 (numC.dec l e).2.2 W) := by
  obtain ⟨⟨c0, c1, c2⟩, f0, f1, f2⟩ := three h.k
  have hol : off < cur.length := (List.getElem?_eq_some_iff.1 h0).1
  have HOl := Lib.hid hol
  have H := Lib.hid h
  have HC := Lib.hid hc
  have HZ := Lib.hid h0
  have HG := Lib.hid hg
  clear h hc h0 hol hg
  by_cases he : e = 0
  · subst he
    obtain ⟨l', e', hr, hle⟩ := H.out.r
    obtain ⟨rfl, rfl⟩ := hle rfl
    have HR := Lib.hid hr
    clear hr hle
    go_enter Try.func45, Try.ntmps45
    go_wp2_with fail
    refine (wrong_calls W F 0 c2).mono ?_
    rintro r w' ⟨rfl, rfl⟩
    rw [show decide ((0 : Int) ≠ 0) = false from rfl]
    go_wp2_with fail
    refine (rd_int_in (fun b => b < q) W q l' 0 HR.out).mono ?_
    rintro r w1 ⟨rfl, hr1, hg1⟩
    obtain ⟨z, hz⟩ : ∃ z, VarPlain.zag (VarPlain.next l' 0).1 = z := ⟨_, rfl⟩
    obtain ⟨l1, hl1⟩ : ∃ l1, (VarPlain.next l' 0).2.1 = l1 := ⟨_, rfl⟩
    obtain ⟨e1, he1⟩ : ∃ e1, (VarPlain.next l' 0).2.2 = e1 := ⟨_, rfl⟩
    have HD : Hid (numC.dec l' 0 = (z, l1, e1)) := by
      show _ = _
      rw [numC_dec0, ← hz, ← hl1, ← he1]
    rw [hz]
    rw [hl1, he1] at hr1
    clear hz hl1 he1
    have hlt := H.out.lt
    have hgt := HG.out
    have hk1 := (hg1.block F H.out.F_lt (fun e => by injection e with e; omega)).trans H.out.k
    have hc1 : Cut g cur t w1 := (hg1.block g HC.out.lt (fun e => by injection e with e; omega)).trans HC.out
    have HK1 := Lib.hid hk1
    have HC1 := Lib.hid hc1
    have HR1 := Lib.hid hr1
    have HG1 := Lib.hid hg1
    have x0 : w1.cell? ⟨g, off, none⟩ = some (.int .i64 0) := (hc1.cell off).trans HZ.out
    have x1 := hc1.frozen off
    clear c0 c1 c2 f0 f1 f2 hk1 hc1 hr1 hg1 hlt hgt
    obtain ⟨⟨c0, c1, c2⟩, f0, f1, f2⟩ := three HK1.out
    go_upto_region 4 with fail
    have hk2 := (set_other w1 g off (.int .i64 z) F (by have := HG.out; omega)).trans HK1.out
    have HK2 := Lib.hid hk2
    have HC2 := Lib.hid (HC1.out.set off (.int .i64 z))
    have HR2 := Lib.hid (rdin_keep HR1.out (fun k hk => set_other w1 g off (.int .i64 z) k (by have := HG.out; have := H.out.lt; omega)))
    have HU2 : Hid (RUp F q g W (w1.setCell ⟨g, off, none⟩ (.int .i64 z))) := (RUp.of_grown HG1.out (fun j hj => .inr (.inl (by injection hj with hj; exact hj.symm)))).trans (RUp.of_grown (Ap.grown_set w1 g off _) (fun j hj => .inr (.inr (by injection hj with hj; exact hj.symm))))
    clear c0 c1 c2 f0 f1 f2 hk2 x0 x1 HK1 HC1 HR1 HG1
    generalize w1.setCell ⟨g, off, none⟩ (.int .i64 z) = w2 at *
    obtain ⟨⟨c0, c1, c2⟩, f0, f1, f2⟩ := three HK2.out
    go_wp2_with fail
    refine (rd_err_calls w2 q l1 e1 HR2.out.toRd).mono ?_
    rintro r w' ⟨rfl, rfl⟩
    go_wp2_with fail
    refine bodyPost_end (v := .tuple #[]) (results_none rfl _ _ _) rfl ?_
    rw [HD.out]
    have hF := H.out.F_lt
    have hlt := H.out.lt
    have hgt := HG.out
    refine ⟨rfl, ⟨heap_setCell_same _ _ 2 _ _ _ HK2.out, ⟨l1, e1, rdin_keep HR2.out (fun k hk => set_other w2 F 2 _ k (by omega)), fun h => ⟨rfl, h⟩⟩, hlt⟩, ?_, HU2.out.trans (RUp.of_grown (Ap.grown_set w2 F 2 _) (fun j hj => .inl (by injection hj with hj; exact hj.symm)))⟩
    rw [splice_one _ _ _ HOl.out]
    exact (set_other w2 F 2 _ g (by omega)).trans HC2.out
  · have t1 : decide (e ≠ 0) = true := decide_eq_true he
    have HD : Hid (numC.dec l e = (0, l, e)) := by
      show (if e ≠ 0 then ((0 : Int), l, e) else _) = _
      rw [if_pos he]
    clear he
    go_enter Try.func45, Try.ntmps45
    go_wp2_with fail
    refine (wrong_calls W F e c2).mono ?_
    rintro r w' ⟨rfl, rfl⟩
    rw [t1]
    clear t1
    go_wp2_with fail
    refine bodyPost_end (v := .tuple #[]) (results_none rfl _ _ _) rfl ?_
    rw [HD.out]
    refine ⟨rfl, H.out, ?_, RUp.refl _ _ _ _⟩
    have e1 : cur.set off (.int .i64 0) = cur := by
      obtain ⟨h1, h2⟩ := List.getElem?_eq_some_iff.1 HZ.out
      rw [← h2]
      exact List.set_getElem_self h1
    rw [splice_one _ _ _ HOl.out, e1]
    exact HC.out
set_option maxHeartbeats 4000000 in
theorem rk_int64_calls (W : World) (F q : Nat) (l : Nm) (e : Int) (g off : Nat) (cur : List Value) (t : TypeId) (h : RkI F q l e W) (hc : Cut g cur t W) (h0 : cur[off]? = some (.int .i64 0)) (hg : F < g) :
    Calls Try.prog 61 #[.pointer (some ⟨F, 0, none⟩), .pointer (some ⟨g, off, none⟩)] W (RkPost F q g off cur [.int .i64 (numC.dec l e).1] t (numC.dec l e).2.1 (numC.dec l e).2.2 W) := by
  obtain ⟨⟨c0, c1, c2⟩, f0, f1, f2⟩ := three h.k
  have hol : off < cur.length := (List.getElem?_eq_some_iff.1 h0).1
  have HOl := Lib.hid hol
  have H := Lib.hid h
  have HC := Lib.hid hc
  have HZ := Lib.hid h0
  have HG := Lib.hid hg
  clear h hc h0 hol hg
  by_cases he : e = 0
  · subst he
    obtain ⟨l', e', hr, hle⟩ := H.out.r
    obtain ⟨rfl, rfl⟩ := hle rfl
    have HR := Lib.hid hr
    clear hr hle
    go_enter Try.func61, Try.ntmps61
    go_wp2_with fail
    refine (wrong_calls W F 0 c2).mono ?_
    rintro r w' ⟨rfl, rfl⟩
    rw [show decide ((0 : Int) ≠ 0) = false from rfl]
    go_wp2_with fail
    refine (rd_int_in (fun b => b < q) W q l' 0 HR.out).mono ?_
    rintro r w1 ⟨rfl, hr1, hg1⟩
    obtain ⟨z, hz⟩ : ∃ z, VarPlain.zag (VarPlain.next l' 0).1 = z := ⟨_, rfl⟩
    obtain ⟨l1, hl1⟩ : ∃ l1, (VarPlain.next l' 0).2.1 = l1 := ⟨_, rfl⟩
    obtain ⟨e1, he1⟩ : ∃ e1, (VarPlain.next l' 0).2.2 = e1 := ⟨_, rfl⟩
    have HD : Hid (numC.dec l' 0 = (z, l1, e1)) := by
      show _ = _
      rw [numC_dec0, ← hz, ← hl1, ← he1]
    rw [hz]
    rw [hl1, he1] at hr1
    clear hz hl1 he1
    have hlt := H.out.lt
    have hgt := HG.out
    have hk1 := (hg1.block F H.out.F_lt (fun e => by injection e with e; omega)).trans H.out.k
    have hc1 : Cut g cur t w1 := (hg1.block g HC.out.lt (fun e => by injection e with e; omega)).trans HC.out
    have HK1 := Lib.hid hk1
    have HC1 := Lib.hid hc1
    have HR1 := Lib.hid hr1
    have HG1 := Lib.hid hg1
    have x0 : w1.cell? ⟨g, off, none⟩ = some (.int .i64 0) := (hc1.cell off).trans HZ.out
    have x1 := hc1.frozen off
    clear c0 c1 c2 f0 f1 f2 hk1 hc1 hr1 hg1 hlt hgt
    obtain ⟨⟨c0, c1, c2⟩, f0, f1, f2⟩ := three HK1.out
    go_upto_region 4 with fail
    have hk2 := (set_other w1 g off (.int .i64 z) F (by have := HG.out; omega)).trans HK1.out
    have HK2 := Lib.hid hk2
    have HC2 := Lib.hid (HC1.out.set off (.int .i64 z))
    have HR2 := Lib.hid (rdin_keep HR1.out (fun k hk => set_other w1 g off (.int .i64 z) k (by have := HG.out; have := H.out.lt; omega)))
    have HU2 : Hid (RUp F q g W (w1.setCell ⟨g, off, none⟩ (.int .i64 z))) := (RUp.of_grown HG1.out (fun j hj => .inr (.inl (by injection hj with hj; exact hj.symm)))).trans (RUp.of_grown (Ap.grown_set w1 g off _) (fun j hj => .inr (.inr (by injection hj with hj; exact hj.symm))))
    clear c0 c1 c2 f0 f1 f2 hk2 x0 x1 HK1 HC1 HR1 HG1
    generalize w1.setCell ⟨g, off, none⟩ (.int .i64 z) = w2 at *
    obtain ⟨⟨c0, c1, c2⟩, f0, f1, f2⟩ := three HK2.out
    go_wp2_with fail
    refine (rd_err_calls w2 q l1 e1 HR2.out.toRd).mono ?_
    rintro r w' ⟨rfl, rfl⟩
    go_wp2_with fail
    refine bodyPost_end (v := .tuple #[]) (results_none rfl _ _ _) rfl ?_
    rw [HD.out]
    have hF := H.out.F_lt
    have hlt := H.out.lt
    have hgt := HG.out
    refine ⟨rfl, ⟨heap_setCell_same _ _ 2 _ _ _ HK2.out, ⟨l1, e1, rdin_keep HR2.out (fun k hk => set_other w2 F 2 _ k (by omega)), fun h => ⟨rfl, h⟩⟩, hlt⟩, ?_, HU2.out.trans (RUp.of_grown (Ap.grown_set w2 F 2 _) (fun j hj => .inl (by injection hj with hj; exact hj.symm)))⟩
    rw [splice_one _ _ _ HOl.out]
    exact (set_other w2 F 2 _ g (by omega)).trans HC2.out
  · have t1 : decide (e ≠ 0) = true := decide_eq_true he
    have HD : Hid (numC.dec l e = (0, l, e)) := by
      show (if e ≠ 0 then ((0 : Int), l, e) else _) = _
      rw [if_pos he]
    clear he
    go_enter Try.func61, Try.ntmps61
    go_wp2_with fail
    refine (wrong_calls W F e c2).mono ?_
    rintro r w' ⟨rfl, rfl⟩
    rw [t1]
    clear t1
    go_wp2_with fail
    refine bodyPost_end (v := .tuple #[]) (results_none rfl _ _ _) rfl ?_
    rw [HD.out]
    refine ⟨rfl, H.out, ?_, RUp.refl _ _ _ _⟩
    have e1 : cur.set off (.int .i64 0) = cur := by
      obtain ⟨h1, h2⟩ := List.getElem?_eq_some_iff.1 HZ.out
      rw [← h2]
      exact List.set_getElem_self h1
    rw [splice_one _ _ _ HOl.out, e1]
    exact HC.out
set_option maxHeartbeats 4000000 in
theorem rk_errno_calls (W : World) (F q : Nat) (l : Nm) (e : Int) (g off : Nat) (cur : List Value) (t : TypeId) (h : RkI F q l e W) (hc : Cut g cur t W) (h0 : cur[off]? = some (.int .i64 0)) (hg : F < g) :
    Calls Try.prog 48 #[.pointer (some ⟨F, 0, none⟩), .pointer (some ⟨g, off, none⟩)] W (RkPost F q g off cur [.int .i64 (numC.dec l e).1] t (numC.dec l e).2.1 (numC.dec l e).2.2 W) := by
  obtain ⟨⟨c0, c1, c2⟩, f0, f1, f2⟩ := three h.k
  have hol : off < cur.length := (List.getElem?_eq_some_iff.1 h0).1
  have HOl := Lib.hid hol
  have H := Lib.hid h
  have HC := Lib.hid hc
  have HZ := Lib.hid h0
  have HG := Lib.hid hg
  clear h hc h0 hol hg
  by_cases he : e = 0
  · subst he
    obtain ⟨l', e', hr, hle⟩ := H.out.r
    obtain ⟨rfl, rfl⟩ := hle rfl
    have HR := Lib.hid hr
    clear hr hle
    go_enter Try.func48, Try.ntmps48
    go_wp2_with fail
    refine (wrong_calls W F 0 c2).mono ?_
    rintro r w' ⟨rfl, rfl⟩
    rw [show decide ((0 : Int) ≠ 0) = false from rfl]
    go_wp2_with fail
    refine (rd_int_in (fun b => b < q) W q l' 0 HR.out).mono ?_
    rintro r w1 ⟨rfl, hr1, hg1⟩
    obtain ⟨z, hz⟩ : ∃ z, VarPlain.zag (VarPlain.next l' 0).1 = z := ⟨_, rfl⟩
    obtain ⟨l1, hl1⟩ : ∃ l1, (VarPlain.next l' 0).2.1 = l1 := ⟨_, rfl⟩
    obtain ⟨e1, he1⟩ : ∃ e1, (VarPlain.next l' 0).2.2 = e1 := ⟨_, rfl⟩
    have HD : Hid (numC.dec l' 0 = (z, l1, e1)) := by
      show _ = _
      rw [numC_dec0, ← hz, ← hl1, ← he1]
    rw [hz]
    rw [hl1, he1] at hr1
    clear hz hl1 he1
    have hlt := H.out.lt
    have hgt := HG.out
    have hk1 := (hg1.block F H.out.F_lt (fun e => by injection e with e; omega)).trans H.out.k
    have hc1 : Cut g cur t w1 := (hg1.block g HC.out.lt (fun e => by injection e with e; omega)).trans HC.out
    have HK1 := Lib.hid hk1
    have HC1 := Lib.hid hc1
    have HR1 := Lib.hid hr1
    have HG1 := Lib.hid hg1
    have x0 : w1.cell? ⟨g, off, none⟩ = some (.int .i64 0) := (hc1.cell off).trans HZ.out
    have x1 := hc1.frozen off
    clear c0 c1 c2 f0 f1 f2 hk1 hc1 hr1 hg1 hlt hgt
    obtain ⟨⟨c0, c1, c2⟩, f0, f1, f2⟩ := three HK1.out
    go_upto_region 4 with fail
    have hk2 := (set_other w1 g off (.int .i64 z) F (by have := HG.out; omega)).trans HK1.out
    have HK2 := Lib.hid hk2
    have HC2 := Lib.hid (HC1.out.set off (.int .i64 z))
    have HR2 := Lib.hid (rdin_keep HR1.out (fun k hk => set_other w1 g off (.int .i64 z) k (by have := HG.out; have := H.out.lt; omega)))
    have HU2 : Hid (RUp F q g W (w1.setCell ⟨g, off, none⟩ (.int .i64 z))) := (RUp.of_grown HG1.out (fun j hj => .inr (.inl (by injection hj with hj; exact hj.symm)))).trans (RUp.of_grown (Ap.grown_set w1 g off _) (fun j hj => .inr (.inr (by injection hj with hj; exact hj.symm))))
    clear c0 c1 c2 f0 f1 f2 hk2 x0 x1 HK1 HC1 HR1 HG1
    generalize w1.setCell ⟨g, off, none⟩ (.int .i64 z) = w2 at *
    obtain ⟨⟨c0, c1, c2⟩, f0, f1, f2⟩ := three HK2.out
    go_wp2_with fail
    refine (rd_err_calls w2 q l1 e1 HR2.out.toRd).mono ?_
    rintro r w' ⟨rfl, rfl⟩
    go_wp2_with fail
    refine bodyPost_end (v := .tuple #[]) (results_none rfl _ _ _) rfl ?_
    rw [HD.out]
    have hF := H.out.F_lt
    have hlt := H.out.lt
    have hgt := HG.out
    refine ⟨rfl, ⟨heap_setCell_same _ _ 2 _ _ _ HK2.out, ⟨l1, e1, rdin_keep HR2.out (fun k hk => set_other w2 F 2 _ k (by omega)), fun h => ⟨rfl, h⟩⟩, hlt⟩, ?_, HU2.out.trans (RUp.of_grown (Ap.grown_set w2 F 2 _) (fun j hj => .inl (by injection hj with hj; exact hj.symm)))⟩
    rw [splice_one _ _ _ HOl.out]
    exact (set_other w2 F 2 _ g (by omega)).trans HC2.out
  · have t1 : decide (e ≠ 0) = true := decide_eq_true he
    have HD : Hid (numC.dec l e = (0, l, e)) := by
      show (if e ≠ 0 then ((0 : Int), l, e) else _) = _
      rw [if_pos he]
    clear he
    go_enter Try.func48, Try.ntmps48
    go_wp2_with fail
    refine (wrong_calls W F e c2).mono ?_
    rintro r w' ⟨rfl, rfl⟩
    rw [t1]
    clear t1
    go_wp2_with fail
    refine bodyPost_end (v := .tuple #[]) (results_none rfl _ _ _) rfl ?_
    rw [HD.out]
    refine ⟨rfl, H.out, ?_, RUp.refl _ _ _ _⟩
    have e1 : cur.set off (.int .i64 0) = cur := by
      obtain ⟨h1, h2⟩ := List.getElem?_eq_some_iff.1 HZ.out
      rw [← h2]
      exact List.set_getElem_self h1
    rw [splice_one _ _ _ HOl.out, e1]
    exact HC.out
end Go.Proofs.Ytmhofdoifgfjfaa
