/-
  State: a pair, a trap, a function; put and read. Conditions: as each contract says.
-/
import Derived.Test.YtmhofdoifgfjfaaStFlat
set_option linter.unusedVariables false
set_option maxRecDepth 100000
namespace Go.Proofs.Ytmhofdoifgfjfaa
open Go.RowKit Base

theorem zer_right {cur : List Value} {off : Nat} {z1 z2 us : List Value} (h : ∀ j (hj : j < (z1 ++ z2).length), cur[off + j]? = some (z1 ++ z2)[j]) (hl : us.length = z1.length) :
    ∀ j (hj : j < z2.length), (splice cur off us)[off + z1.length + j]? = some z2[j] := by
  intro j hj
  have h1 := h (z1.length + j) (by rw [List.length_append]; omega)
  rw [List.getElem_append_right (by omega)] at h1
  have hlen := (List.getElem?_eq_some_iff.1 h1).1
  rw [splice_after (by omega) (by omega), Nat.add_assoc, h1]
  congr 2
  omega
theorem zer_left {cur : List Value} {off : Nat} {z1 z2 : List Value} (h : ∀ j (hj : j < (z1 ++ z2).length), cur[off + j]? = some (z1 ++ z2)[j]) : ∀ j (hj : j < z1.length), cur[off + j]? = some z1[j] := by
  intro j hj
  have h1 := h j (by rw [List.length_append]; omega)
  rwa [List.getElem_append_left hj] at h1
theorem zer_len {cur : List Value} {off : Nat} {z1 z2 : List Value} (h : ∀ j (hj : j < (z1 ++ z2).length), cur[off + j]? = some (z1 ++ z2)[j]) : z2 = [] ∨ off + z1.length ≤ cur.length := by
  rcases z2 with _ | ⟨x, r⟩
  · exact .inl rfl
  · right
    have h1 := h z1.length (by simp)
    have := (List.getElem?_eq_some_iff.1 h1).1
    omega
set_option maxHeartbeats 1000000 in
theorem pair_pk : PkOk 59 prC prV PairP := by
  intro W F v o g off a h hg ha hc hl
  have HP := Lib.hid h
  have HG := Lib.hid hg
  have HC : Hid (CellsAt W g off (numV a.1 ++ numV a.2)) := hc
  have HL : Hid ((o ++ (numC.enc a.1 ++ numC.enc a.2)).length ≤ 100000000) := hl
  have HA : Hid (I64 a.1 ∧ I64 a.2) := ha
  clear h hg ha hc hl
  go_enter Try.func59, Try.ntmps59
  go_wp2_with fail
  refine (num_pk W F v o g off a.1 HP.out HG.out HA.out.1 HC.out.left (by have := HL.out; rw [List.length_append] at this ⊢; rw [List.length_append] at this; omega)).mono ?_
  rintro e w1 ⟨rfl, v1, hp, hu⟩
  have HP1 := Lib.hid hp
  have HU1 := Lib.hid hu
  clear hp hu
  go_wp2_with fail
  refine (num64_pk w1 F v1 _ g (off + 1) a.2 HP1.out HG.out HA.out.2 ((HC.out.right rfl).up HP.out HU1.out HG.out) (by rw [List.append_assoc]; exact HL.out)).mono ?_
  rintro e w2 ⟨rfl, v2, hp, hu⟩
  have HP2 := Lib.hid hp
  have HU2 := Lib.hid (HU1.out.trans hu)
  clear hp hu
  go_wp2_with fail
  refine bodyPost_end (v := .tuple #[]) (results_none rfl _ _ _) rfl ?_
  refine ⟨rfl, v2, ?_, HU2.out⟩
  have := HP2.out
  rwa [List.append_assoc] at this
set_option maxHeartbeats 1000000 in
theorem pair_rk : RkOk 59 prC prV (0, 0) := by
  intro W F q l e g off cur t h hc h0 hg
  have H := Lib.hid h
  have HC := Lib.hid hc
  have HZ : Hid (∀ j (hj : j < (numV 0 ++ numV 0).length), cur[off + j]? = some (numV 0 ++ numV 0)[j]) := h0
  have HG := Lib.hid hg
  clear h hc h0 hg
  go_enter Try.func59, Try.ntmps59
  go_wp2_with fail
  refine (num_rk W F q l e g off cur t H.out HC.out (zer_left HZ.out) HG.out).mono ?_
  rintro e' w1 ⟨rfl, hr, hcu, hu⟩
  have HR1 := Lib.hid hr
  have HC1 := Lib.hid hcu
  have HU1 := Lib.hid hu
  clear hr hcu hu
  go_wp2_with fail
  refine (num64_rk w1 F q _ _ g (off + 1) _ t HR1.out HC1.out (zer_right HZ.out rfl) HG.out).mono ?_
  rintro e' w2 ⟨rfl, hr, hcu, hu⟩
  have hle : off + 1 ≤ cur.length := (zer_len HZ.out).elim (fun h => by cases h) id
  rw [show off + 1 = off + (numV (numC.dec l e).1).length from rfl, splice_app _ _ _ _ (by exact hle)] at hcu
  have HR2 := Lib.hid hr
  have HC2 := Lib.hid hcu
  have HU2 := Lib.hid (HU1.out.trans hu)
  clear hr hcu hu hle
  go_wp2_with fail
  refine bodyPost_end (v := .tuple #[]) (results_none rfl _ _ _) rfl ?_
  exact ⟨rfl, HR2.out, HC2.out, HU2.out⟩
theorem one_txt (s : Nm) : [s].flatMap txtB = txtC.enc s := by show _ = txtB s; simp
/-- texts on a row of one pointer that has just been built. -/
theorem txt1_pk (W : World) (F : Nat) (v : Value) (o : Nm) (g off : Nat) (s : Nm) (h : PkI F v o W) (hg : g < F) (hc : CellsAt W g off (txtV s)) (hl : (o ++ txtC.enc s).length ≤ 100000000) :
    Calls Try.prog 60 #[.pointer (some ⟨F, 0, none⟩), .slice (some ⟨W.heap.size, 0, none⟩) 1 1] (W.alloc (.cells #[.pointer (some ⟨g, off, none⟩)] 134)) (PkPost F v o (txtC.enc s) W) := by
  have hb := (Below.refl W.heap.size W).alloc (Nat.le_refl _) (.cells #[.pointer (some ⟨g, off, none⟩)] 134)
  refine (pk_texts_calls _ F v o g off [s] W.heap.size (h.below hb) (pts1 W g off _) (by have := h.lt; omega) hg (fun j hj => ?_) (by rw [one_txt]; exact hl) (by simp)).mono ?_
  · have h1 := hc j hj
    have h2 := (hb.cell (p := ⟨g, off + j, none⟩) (by have := h.lt; show g < _; omega)).trans h1
    match j, hj with
    | 0, _ => exact h2
  rintro e w' ⟨rfl, v', hp, hu⟩
  rw [one_txt] at hp
  exact ⟨rfl, v', hp, (WUp.of_below hb).trans hu⟩
theorem txt1_rk (W : World) (F q : Nat) (l : Nm) (e : Int) (g off : Nat) (cur : List Value) (t : TypeId) (h : RkI F q l e W) (hc : Cut g cur t W) (h0 : ∀ j (hj : j < (txtV []).length), cur[off + j]? = some (txtV [])[j]) (hg : F < g) :
    Calls Try.prog 60 #[.pointer (some ⟨F, 0, none⟩), .slice (some ⟨W.heap.size, 0, none⟩) 1 1] (W.alloc (.cells #[.pointer (some ⟨g, off, none⟩)] 134))
      (RkPost F q g off cur (txtV (txtC.dec l e).1) t (txtC.dec l e).2.1 (txtC.dec l e).2.2 W) := by
  have hb := (Below.refl W.heap.size W).alloc (Nat.le_refl _) (.cells #[.pointer (some ⟨g, off, none⟩)] 134)
  have hgw := hc.lt
  refine (rk_texts_calls _ F q l e g off 1 cur t W.heap.size (h.below hb) ((hb.block g hgw).trans hc) (fun j hj => ?_) hg (pts1 W g off _) h.F_lt (by omega) (by decide)).mono ?_
  · match j, hj with
    | 0, _ => exact h0 0 (by decide)
  rintro r w' ⟨rfl, hr, hcu, hu⟩
  exact ⟨rfl, hr, hcu, (RUp.of_below hb).trans hu⟩
set_option maxHeartbeats 1000000 in
theorem trap_pk : PkOk 57 trapC trapV TrapP := by
  intro W F v o g off a h hg ha hc hl
  have HP := Lib.hid h
  have HG := Lib.hid hg
  have HC : Hid (CellsAt W g off (numV a.1 ++ txtV a.2)) := hc
  have HL : Hid ((o ++ (numC.enc a.1 ++ txtC.enc a.2)).length ≤ 100000000) := hl
  have HA : Hid (I64 a.1 ∧ TxtP a.2) := ha
  clear h hg ha hc hl
  go_enter Try.func57, Try.ntmps57
  go_wp2_with fail
  refine (num_pk W F v o g off a.1 HP.out HG.out HA.out.1 HC.out.left (by have := HL.out; rw [List.length_append] at this ⊢; rw [List.length_append] at this; omega)).mono ?_
  rintro e w1 ⟨rfl, v1, hp, hu⟩
  have HP1 := Lib.hid hp
  have HU1 := Lib.hid hu
  clear hp hu
  go_wp2_with fail
  refine (txt1_pk w1 F v1 _ g (off + 1) a.2 HP1.out HG.out ((HC.out.right rfl).up HP.out HU1.out HG.out) (by rw [List.append_assoc]; exact HL.out)).mono ?_
  rintro e w2 ⟨rfl, v2, hp, hu⟩
  have HP2 := Lib.hid hp
  have HU2 := Lib.hid (HU1.out.trans hu)
  clear hp hu
  go_wp2_with fail
  refine bodyPost_end (v := .tuple #[]) (results_none rfl _ _ _) rfl ?_
  refine ⟨rfl, v2, ?_, HU2.out⟩
  have := HP2.out
  rwa [List.append_assoc] at this
set_option maxHeartbeats 1000000 in
theorem trap_rk : RkOk 57 trapC trapV (0, []) := by
  intro W F q l e g off cur t h hc h0 hg
  have H := Lib.hid h
  have HC := Lib.hid hc
  have HZ : Hid (∀ j (hj : j < (numV 0 ++ txtV []).length), cur[off + j]? = some (numV 0 ++ txtV [])[j]) := h0
  have HG := Lib.hid hg
  clear h hc h0 hg
  go_enter Try.func57, Try.ntmps57
  go_wp2_with fail
  refine (num_rk W F q l e g off cur t H.out HC.out (zer_left HZ.out) HG.out).mono ?_
  rintro e' w1 ⟨rfl, hr, hcu, hu⟩
  have HR1 := Lib.hid hr
  have HC1 := Lib.hid hcu
  have HU1 := Lib.hid hu
  clear hr hcu hu
  go_wp2_with fail
  refine (txt1_rk w1 F q _ _ g (off + 1) _ t HR1.out HC1.out (zer_right HZ.out rfl) HG.out).mono ?_
  rintro e' w2 ⟨rfl, hr, hcu, hu⟩
  have hle : off + 1 ≤ cur.length := (zer_len HZ.out).elim (fun h => by cases h) id
  rw [show off + 1 = off + (numV (numC.dec l e).1).length from rfl, splice_app _ _ _ _ (by exact hle)] at hcu
  have HR2 := Lib.hid hr
  have HC2 := Lib.hid hcu
  have HU2 := Lib.hid (HU1.out.trans hu)
  clear hr hcu hu hle
  go_wp2_with fail
  refine bodyPost_end (v := .tuple #[]) (results_none rfl _ _ _) rfl ?_
  exact ⟨rfl, HR2.out, HC2.out, HU2.out⟩
end Go.Proofs.Ytmhofdoifgfjfaa
