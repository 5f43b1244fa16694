/-
  State: some numbers, one behind the other, put and read. Conditions: as each contract says.
-/
import Derived.Test.YtmhofdoifgfjfaaStNums
set_option linter.unusedVariables false
set_option maxRecDepth 100000
namespace Go.Proofs.Ytmhofdoifgfjfaa
open Go.RowKit Base

theorem info_pint : (Try.prog.info? 107).map (fun i => i.size) = some 1 := by kernel_rfl
theorem info_pbool : (Try.prog.info? 109).map (fun i => i.size) = some 1 := by kernel_rfl
theorem info_pstr : (Try.prog.info? 134).map (fun i => i.size) = some 1 := by kernel_rfl
theorem ptr_idx {t e : TypeId} (ht : Try.prog.underlying t = some (.slice e)) (he : (Try.prog.info? e).map (fun i => i.size) = some 1) (b m k : Nat) (hk : k < m) (w' : World) :
    (Instr.indexAt t (.slice (some ⟨b, 0, none⟩) m m) (.int .i64 (k : Int))).run Try.prog w' = .ok (.pointer (some ⟨b, k, none⟩)) w' := by
  obtain ⟨i, hi, hs⟩ := Option.map_eq_some_iff.1 he
  have h2 : Try.prog.elem t = e := by simp [Program.elem, ht]
  rw [run_indexAt_slice w' t _ m m .i64 k (by rw [h2]; exact ht), if_pos ⟨by omega, by omega⟩, h2]
  simp [sizeOf, typeInfo, hi, hs, Result.andThen, Addr.add_lit]
/-- A row of pointers to cells that lie one behind the other. -/
structure Pts (b g off m : Nat) (t : TypeId) (W : World) : Prop where
  k : ∃ X : Array Value, W.heap[b]? = some (.cells X t) ∧ ∀ j, j < m → X[j]? = some (.pointer (some ⟨g, off + j, none⟩))
theorem Pts.cell {b g off m : Nat} {t : TypeId} {W : World} (h : Pts b g off m t W) {j : Nat} (hj : j < m) : W.cell? ⟨b, j, none⟩ = some (.pointer (some ⟨g, off + j, none⟩)) := by
  obtain ⟨X, h1, h2⟩ := h.k
  simp only [World.cell?, h1]
  exact h2 j hj
theorem Pts.keep {b g off m : Nat} {t : TypeId} {W W' : World} (h : Pts b g off m t W) (hk : W'.heap[b]? = W.heap[b]?) : Pts b g off m t W' := by
  obtain ⟨X, h1, h2⟩ := h.k
  exact ⟨X, hk.trans h1, h2⟩
theorem Pts.lt {b g off m : Nat} {t : TypeId} {W : World} (h : Pts b g off m t W) : b < W.heap.size := by
  obtain ⟨X, h1, _⟩ := h.k
  exact (Array.getElem?_eq_some_iff.1 h1).1
theorem Pts.apart {b g off m : Nat} {t : TypeId} {F : Nat} {v : Value} {o : Nm} {W : World} (h : Pts b g off m t W) (hp : PkI F v o W) (ht : t ≠ 5) : v.ownBlock ≠ some b := by
  obtain ⟨X, h1, _⟩ := h.k
  exact own_apart hp.own h1 ht
theorem flat_snoc (zs : List Int) (z : Int) : (zs ++ [z]).flatMap intB = zs.flatMap intB ++ intB z := by rw [List.flatMap_append]; simp
set_option maxHeartbeats 2000000 in
theorem pk_numbers_calls (W : World) (F : Nat) (v : Value) (o : Nm) (g off : Nat) (zs : List Int) (b : Nat) (h : PkI F v o W) (hb : Pts b g off zs.length 107 W) (hbF : b ≠ F) (hg : g < F)
    (hc : ∀ j (hj : j < zs.length), W.cell? ⟨g, off + j, none⟩ = some (.int .i64 zs[j])) (hz : ∀ z ∈ zs, I64 z) (hl : (o ++ zs.flatMap intB).length ≤ 1000000000000) (hn : zs.length ≤ 1000) :
    Calls Try.prog 46 #[.pointer (some ⟨F, 0, none⟩), .slice (some ⟨b, 0, none⟩) zs.length zs.length] W (PkPost F v o (zs.flatMap intB) W) := by
  have HP := Lib.hid h
  have HB := Lib.hid hb
  have HBF := Lib.hid hbF
  have HG := Lib.hid hg
  have HC := Lib.hid hc
  have HZ := Lib.hid hz
  have HLn := Lib.hid hl
  clear h hb hbF hg hc hz hl
  go_enter Try.func46, Try.ntmps46
  go_wp2_with fail
  go_loopw [8] (fun v8 wr => ∃ (k : Nat) (v' : Value), k ≤ zs.length ∧ v8 = .int .i64 k ∧ PkI F v' (o ++ (zs.take k).flatMap intB) wr ∧ WUp F v v' W wr) (fun v8 _ => zs.length - (intOf v8).toNat)
  case atStart => exact ⟨0, v, Nat.zero_le _, rfl, by rw [List.take_zero, List.flatMap_nil, List.append_nil]; exact HP.out, WUp.refl _ _ _⟩
  case round =>
    obtain ⟨k, v', hk, rfl, hp, hu⟩ := hrel
    have HP2 := Lib.hid hp
    have HU := Lib.hid hu
    clear hp hu
    by_cases hlt : k < zs.length
    · have hx := fun W => ptr_idx Try.underlying151 info_pint b zs.length k hlt W
      have hBk := HB.out.keep (HU.out.block b HB.out.lt HBF.out (HB.out.apart HP.out (by decide)))
      have hcp := hBk.cell hlt
      have hlow := HU.out.low HP.out.hi (Nat.le_refl F) (Nat.le_of_lt HP.out.lt)
      have HCx : Hid (wr.cell? ⟨g, off + k, none⟩ = some (.int .i64 (zs[k]'hlt))) := (hlow.cell (p := ⟨g, off + k, none⟩) HG.out).trans (HC.out k hlt)
      have HI := Lib.hid (HZ.out _ (List.getElem_mem hlt))
      have HT := Lib.hid (List.take_succ_eq_append_getElem hlt)
      have HL2 : Hid (((o ++ (zs.take k).flatMap intB) ++ intB (zs[k]'hlt)).length ≤ 1000000000000) := by
        show _ ≤ _
        refine Nat.le_trans ?_ HLn.out
        rw [List.append_assoc, ← flat_snoc, ← List.take_succ_eq_append_getElem hlt, List.length_append, List.length_append]
        have h1 : ((zs.take (k + 1)).flatMap intB).length ≤ (zs.flatMap intB).length := by
          conv => rhs; rw [← List.take_append_drop (k + 1) zs]
          rw [List.flatMap_append, List.length_append]
          omega
        omega
      clear hBk hlow
      generalize zs[k]'hlt = z at *
      have u3 : decide (k < zs.length) = true := decide_eq_true (by omega)
      have u1 : decide ((k : Int) < (zs.length : Int)) = true := decide_eq_true (by omega)
      have u2 : (k : Int) < (zs.length : Int) := by omega
      go_wp2_with fail
      refine (pk_int_calls wr F v' _ g (off + k) z HP2.out HCx.out HI.out HL2.out).mono ?_
      rintro r w1 ⟨rfl, v2, hp2, hu2⟩
      have HP3 : Hid (PkI F v2 (o ++ (zs.take (k + 1)).flatMap intB) w1) := by
        show PkI _ _ _ _
        rw [HT.out, flat_snoc, ← List.append_assoc]
        exact hp2
      have HU3 := Lib.hid (HU.out.trans hu2)
      clear hp2 hu2 hcp hx
      go_wp2_with fail
      go_roundw
      case rel => exact ⟨k + 1, v2, by omega, by go_num, HP3.out, HU3.out⟩
      case measure => simp [intOf]; omega
    · obtain rfl : k = zs.length := by omega
      rw [List.take_length] at HP2
      have u3 : decide (zs.length < zs.length) = false := decide_eq_false (by omega)
      have u1 : decide ((zs.length : Int) < (zs.length : Int)) = false := decide_eq_false (by omega)
      have u2 : ¬ ((zs.length : Int) < (zs.length : Int)) := by omega
      go_wp2_with fail
      refine bodyPost_end (v := .tuple #[]) (results_none rfl _ _ _) rfl ?_
      exact ⟨rfl, v', HP2.out, HU.out⟩
/-- Some things, read one behind the other. -/
def manyD {α : Type} (c : Cd α) : Nat → Nm → Int → List α × Nm × Int
  | 0, l, e => ([], l, e)
  | n + 1, l, e => ((c.dec l e).1 :: (manyD c n (c.dec l e).2.1 (c.dec l e).2.2).1, (manyD c n (c.dec l e).2.1 (c.dec l e).2.2).2)
theorem manyD_len {α : Type} (c : Cd α) (n : Nat) (l : Nm) (e : Int) : (manyD c n l e).1.length = n := by
  induction n generalizing l e with
  | zero => rfl
  | succ n ih => show (_ :: _).length = _; rw [List.length_cons, ih]
theorem manyD_add {α : Type} (c : Cd α) (n m : Nat) (l : Nm) (e : Int) : manyD c (n + m) l e = ((manyD c n l e).1 ++ (manyD c m (manyD c n l e).2.1 (manyD c n l e).2.2).1, (manyD c m (manyD c n l e).2.1 (manyD c n l e).2.2).2) := by
  induction n generalizing l e with
  | zero => rw [Nat.zero_add]; rfl
  | succ n ih =>
    rw [show n + 1 + m = (n + m) + 1 by omega]
    show ((c.dec l e).1 :: (manyD c (n + m) _ _).1, (manyD c (n + m) _ _).2) = _
    rw [ih]
    rfl
theorem manyD_one {α : Type} (c : Cd α) (l : Nm) (e : Int) : manyD c 1 l e = ([(c.dec l e).1], (c.dec l e).2) := rfl
abbrev iv (z : Int) : Value := .int .i64 z
set_option maxHeartbeats 2000000 in
theorem rk_numbers_calls (W : World) (F q : Nat) (l : Nm) (e : Int) (g off m : Nat) (cur : List Value) (t : TypeId) (b : Nat) (h : RkI F q l e W) (hc : Cut g cur t W) (h0 : ∀ j, j < m → cur[off + j]? = some (.int .i64 0)) (hg : F < g)
    (hb : Pts b g off m 107 W) (hbF : F < b) (hbg : b ≠ g) (hn : m ≤ 1000) :
    Calls Try.prog 46 #[.pointer (some ⟨F, 0, none⟩), .slice (some ⟨b, 0, none⟩) m m] W (RkPost F q g off cur ((manyD numC m l e).1.map iv) t (manyD numC m l e).2.1 (manyD numC m l e).2.2 W) := by
  have H := Lib.hid h
  have HC := Lib.hid hc
  have HZ := Lib.hid h0
  have HG := Lib.hid hg
  have HB := Lib.hid hb
  have HBF := Lib.hid hbF
  have HBG := Lib.hid hbg
  clear h hc h0 hg hb hbF hbg
  go_enter Try.func46, Try.ntmps46
  go_wp2_with fail
  go_loopw [8] (fun v8 wr => ∃ k : Nat, k ≤ m ∧ v8 = .int .i64 k ∧ RkI F q (manyD numC k l e).2.1 (manyD numC k l e).2.2 wr ∧ Cut g (splice cur off ((manyD numC k l e).1.map iv)) t wr ∧ RUp F q g W wr) (fun v8 _ => m - (intOf v8).toNat)
  case atStart => exact ⟨0, Nat.zero_le _, rfl, H.out, by rw [show (manyD numC 0 l e).1.map iv = [] from rfl, Sl.splice_nil]; exact HC.out, RUp.refl _ _ _ _⟩
  case round =>
    obtain ⟨k, hk, rfl, hr, hcu, hu⟩ := hrel
    have HR := Lib.hid hr
    have HCu := Lib.hid hcu
    have HU := Lib.hid hu
    clear hr hcu hu
    by_cases hlt : k < m
    · have hx := fun W => ptr_idx Try.underlying151 info_pint b m k hlt W
      have hq := H.out.lt
      have hBk := HB.out.keep (HU.out.block b HB.out.lt (by have := HBF.out; omega) (by have := HBF.out; omega) HBG.out)
      have hcp := hBk.cell hlt
      have hlen : off + m ≤ cur.length := by
        rcases Nat.eq_zero_or_pos m with h | h
        · omega
        · have := (List.getElem?_eq_some_iff.1 (HZ.out (m - 1) (by omega))).1
          omega
      have hml : ((manyD numC k l e).1.map iv).length = k := by rw [List.length_map, manyD_len]
      have HZ2 : Hid ((splice cur off ((manyD numC k l e).1.map iv))[off + k]? = some (.int .i64 0)) := by
        show _ = _
        rw [splice_after (by rw [hml]; omega) (by rw [hml]; exact Nat.le_refl _)]
        exact HZ.out k hlt
      have HSp : Hid (splice (splice cur off ((manyD numC k l e).1.map iv)) (off + k) [iv (numC.dec (manyD numC k l e).2.1 (manyD numC k l e).2.2).1] = splice cur off ((manyD numC (k + 1) l e).1.map iv)) := by
        show _ = _
        have h1 := splice_app cur off ((manyD numC k l e).1.map iv) [iv (numC.dec (manyD numC k l e).2.1 (manyD numC k l e).2.2).1] (by rw [hml]; omega)
        rw [hml] at h1
        rw [h1, manyD_add, manyD_one, List.map_append]
        rfl
      have HN2 : Hid ((manyD numC (k + 1) l e).2 = (numC.dec (manyD numC k l e).2.1 (manyD numC k l e).2.2).2) := by show _ = _; rw [manyD_add, manyD_one]
      clear hBk hml hlen
      have u3 : decide (k < m) = true := decide_eq_true (by omega)
      have u1 : decide ((k : Int) < (m : Int)) = true := decide_eq_true (by omega)
      have u2 : (k : Int) < (m : Int) := by omega
      go_wp2_with fail
      refine (rk_int_calls wr F q _ _ g (off + k) _ t HR.out HCu.out HZ2.out HG.out).mono ?_
      rintro r w1 ⟨rfl, hr1, hc1, hu1⟩
      have HR2 : Hid (RkI F q (manyD numC (k + 1) l e).2.1 (manyD numC (k + 1) l e).2.2 w1) := by show RkI _ _ _ _ _; rw [HN2.out]; exact hr1
      have HC2 : Hid (Cut g (splice cur off ((manyD numC (k + 1) l e).1.map iv)) t w1) := by show Cut _ _ _ _; rw [← HSp.out]; exact hc1
      have HU2 := Lib.hid (HU.out.trans hu1)
      clear hr1 hc1 hu1 hcp hx
      go_wp2_with fail
      go_roundw
      case rel => exact ⟨k + 1, by omega, by go_num, HR2.out, HC2.out, HU2.out⟩
      case measure => simp [intOf]; omega
    · obtain rfl : k = m := by omega
      have u3 : decide (k < k) = false := decide_eq_false (by omega)
      have u1 : decide ((k : Int) < (k : Int)) = false := decide_eq_false (by omega)
      have u2 : ¬ ((k : Int) < (k : Int)) := by omega
      go_wp2_with fail
      refine bodyPost_end (v := .tuple #[]) (results_none rfl _ _ _) rfl ?_
      exact ⟨rfl, HR.out, HCu.out, HU.out⟩
end Go.Proofs.Ytmhofdoifgfjfaa
