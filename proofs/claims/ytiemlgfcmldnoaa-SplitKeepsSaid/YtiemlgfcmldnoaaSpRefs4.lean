/-
  Split: the fields, as the document says. Conditions: the texts are short.
-/
import Derived.Test.YtiemlgfcmldnoaaSpRefs3
set_option linter.unusedVariables false
set_option maxRecDepth 100000
namespace Go.Proofs.Ytiemlgfcmldnoaa
open Go.RowKit Base

theorem info_rref : (Try.prog.info? 29).map (fun i => (i.zero, i.size, i.bytes)) = some (some (.agg #[.string ⟨#[]⟩, .string ⟨#[]⟩]), 2, 32) := by kernel_rfl
structure RSp (w : World) (t m : List UInt8) (l : List SRow) (now : SRow) (v : Value) (W : World) : Prop where
  z : W.heap[w.heap.size]? = some (.cells #[.string (str t), .string (str m)] 29)
  o : W.heap[w.heap.size + 1]? = some (.cells #[.string (str (textS now)), .string (str (maskS now))] 29)
  own : W.ownsRow (w.heap.size + 1 + 1) 29 2 v l.length (l.flatMap rowCells)
  low : Below w.heap.size w W
  size : w.heap.size + 1 + 1 ≤ W.heap.size
theorem RSp.below {w : World} {t m : List UInt8} {l : List SRow} {now : SRow} {v : Value} {A B : World} (h : RSp w t m l now v A) (hb : Below A.heap.size A B) : RSp w t m l now v B :=
  ⟨(hb.block _ (Array.getElem?_eq_some_iff.1 h.z).1).trans h.z, (hb.block _ (Array.getElem?_eq_some_iff.1 h.o).1).trans h.o, ownsRow_below h.own hb, h.low.trans (hb.mono h.low.size), Nat.le_trans h.size hb.size⟩
theorem RSp.push {w : World} {t m : List UInt8} {l : List SRow} {now : SRow} {v v' : Value} {A B : World} (h : RSp w t m l now v A) (hg : A.grownBy B v.ownBlock) (ho : B.ownsRow (w.heap.size + 1 + 1) 29 2 v' (l.length + 1) (l.flatMap rowCells ++ [.string (str (textS now)), .string (str (maskS now))])) :
    RSp w t m (l ++ [now]) now v' B := by
  have hlt : ∀ j, v.ownBlock = some j → w.heap.size + 1 + 1 ≤ j ∧ j < A.heap.size := fun j hj => h.own.lt j hj
  refine ⟨(hg.block _ (Array.getElem?_eq_some_iff.1 h.z).1 (fun e => by have := (hlt _ e.symm).1; omega)).trans h.z, (hg.block _ (Array.getElem?_eq_some_iff.1 h.o).1 (fun e => by have := (hlt _ e.symm).1; omega)).trans h.o, ?_, h.low.grown hg h.low.size (fun j hj => by have := (hlt _ hj).1; omega), Nat.le_trans h.size hg.size⟩
  rw [List.length_append, List.flatMap_append]
  exact ho
theorem RSp.now {w : World} {t m : List UInt8} {l : List SRow} {now now' : SRow} {v : Value} {A : World} (h : RSp w t m l now v A) : RSp w t m l now' v ((A.setCell ⟨w.heap.size + 1, 0, none⟩ (.string (str (textS now')))).setCell ⟨w.heap.size + 1, 1, none⟩ (.string (str (maskS now')))) :=
  ⟨(set_other _ (w.heap.size + 1) 1 _ _ (by omega)).trans ((set_other _ (w.heap.size + 1) 0 _ _ (by omega)).trans h.z), row_set2 h.o _ _, own_setF (own_setF h.own (by omega)) (by omega), (h.low.setCell (by simp) _).setCell (by simp) _, by simp; exact h.size⟩
theorem white_cases (c : UInt8) : ((c.toNat : Int) = 32 ∧ whiteB c = true) ∨ (¬ (c.toNat : Int) = 32 ∧ (c.toNat : Int) = 9 ∧ whiteB c = true) ∨ (¬ (c.toNat : Int) = 32 ∧ ¬ (c.toNat : Int) = 9 ∧ (c.toNat : Int) = 10 ∧ whiteB c = true) ∨ (¬ (c.toNat : Int) = 32 ∧ ¬ (c.toNat : Int) = 9 ∧ ¬ (c.toNat : Int) = 10 ∧ whiteB c = false) := by
  have h1 := u8_eq (a := c) (b := 32)
  have h2 := u8_eq (a := c) (b := 9)
  have h3 := u8_eq (a := c) (b := 10)
  unfold whiteB
  by_cases e1 : c = 32
  · exact .inl ⟨h1.2 e1, by simp [e1]⟩
  · have n1 := fun h => e1 (h1.1 h)
    by_cases e2 : c = 9
    · exact .inr (.inl ⟨n1, h2.2 e2, by simp [e2]⟩)
    · have n2 := fun h => e2 (h2.1 h)
      by_cases e3 : c = 10
      · exact .inr (.inr (.inl ⟨n1, n2, h3.2 e3, by simp [e3]⟩))
      · exact .inr (.inr (.inr ⟨n1, n2, fun h => e3 (h3.1 h), by simp [e1, e2, e3]⟩))
/-- What a round does. -/
theorem step_sep {ifs : List UInt8} {st : SpSt} {c lt : UInt8} (h : lt = 115) (hc : c ∈ ifs) : stepS ifs st (c, lt) = sepS st (whiteB c) := by unfold stepS; rw [if_pos ⟨h, hc⟩]
theorem step_bord {ifs : List UInt8} {st : SpSt} {c lt : UInt8} (h : lt = 98) : stepS ifs st (c, lt) = endS st false := by unfold stepS; rw [if_neg (by rintro ⟨h1, _⟩; subst h; exact absurd (show (98 : UInt8) = 115 from h1) (by decide)), if_pos h]
theorem step_none {ifs : List UInt8} {st : SpSt} {c lt : UInt8} (h : lt = 101) : stepS ifs st (c, lt) = ⟨st.l, st.now, true, false⟩ := by
  unfold stepS; rw [if_neg (by rintro ⟨h1, _⟩; subst h; exact absurd (show (101 : UInt8) = 115 from h1) (by decide)), if_neg (by subst h; show ¬ ((101 : UInt8) = 98); decide), if_pos h]
theorem step_byte {ifs : List UInt8} {st : SpSt} {c lt : UInt8} (h : ¬ (lt = 115 ∧ c ∈ ifs)) (h2 : lt ≠ 98) (h3 : lt ≠ 101) : stepS ifs st (c, lt) = ⟨st.l, st.now ++ [(c, lt)], true, false⟩ := by
  unfold stepS; rw [if_neg h, if_neg h2, if_neg h3]
set_option maxHeartbeats 16000000 in
theorem ref_split_calls (w : World) (t m ifs : List UInt8) (ht : t.length ≤ 100000) (hm : m.length ≤ 100000) (hi0 : ifs.length ≤ 100000) :
    Calls Try.prog 10 #[.agg #[.string (str t), .string (str m)], .string (str ifs)] w fun e w' => ∃ v, e = .returned v ∧ w'.ownsRow w.heap.size 29 2 v (splitB ifs (t.zip m)).length ((splitB ifs (t.zip m)).flatMap rowCells) ∧ Below w.heap.size w w' := by
  obtain ⟨i0, hi, hi1, hi2, hi3⟩ := info_parts info_rref
  obtain ⟨hA0, hbl, hsz⟩ := heap2 w (.cells #[.string (str t), .string (str m)] 29) (.cells #[.string ⟨#[]⟩, .string ⟨#[]⟩] 29)
  have hA1 := heap_alloc_new (w.alloc (.cells #[.string (str t), .string (str m)] 29)) (.cells #[.string ⟨#[]⟩, .string ⟨#[]⟩] 29)
  rw [World.size_alloc] at hA1
  have HS := Lib.hid fun W => ref_size_calls W t m
  obtain ⟨r, hr⟩ : ∃ r, r = t.zip m := ⟨_, rfl⟩
  rw [← hr] at HS
  rw [← hr]
  have HR := Lib.hid hr
  have hrl : r.length ≤ 100000 := by rw [hr, List.length_zip]; omega
  clear hr
  have HA0 := Lib.hid hA0
  have Hbl := Lib.hid hbl
  have Hsz := Lib.hid hsz
  have HA1 := Lib.hid hA1
  clear hA0 hbl hsz hA1
  go_enter Try.func10, Try.ntmps10
  go_upto_region 5 with fail
  generalize (w.alloc (.cells #[.string (str t), .string (str m)] 29)).alloc (.cells #[.string ⟨#[]⟩, .string ⟨#[]⟩] 29) = w1 at *
  have hI : RSp w t m [] [] (.slice none 0 0) w1 := ⟨HA0.out, HA1.out, World.ownsRow_nil _ _ _ _, Hbl.out, by have := Hsz.out; omega⟩
  obtain ⟨c0, c1, y0, y1⟩ := row_facts HA0.out
  have HI := Lib.hid hI
  clear hI HA0 HA1 Hbl Hsz
  go_wp2_with fail
  refine (HS _).mono ?_
  rintro e w2 ⟨rfl, hb2⟩
  have HI2 := Lib.hid (HI.out.below hb2)
  clear hb2 HI HS c0 c1 y0 y1
  obtain ⟨c0, c1, y0, y1⟩ := row_facts HI2.out.z
  go_wp2_with fail
  go_loopw [5, 7, 8, 10] (fun v5 v7 v8 v10 wr => ∃ k : Nat, k ≤ r.length ∧ v10 = .int .i64 k ∧ v7 = .bool (foldS ifs (r.take k)).begun ∧ v8 = .bool (foldS ifs (r.take k)).blank ∧ RSp w t m (foldS ifs (r.take k)).l (foldS ifs (r.take k)).now v5 wr) (fun _ _ _ v10 _ => r.length - (intOf v10).toNat)
  case atStart => exact ⟨0, Nat.zero_le _, rfl, rfl, rfl, HI2.out⟩
  case round =>
    clear HI2 c0 c1 y0 y1 w2 w1
    obtain ⟨k, hk, rfl, rfl, rfl, hI⟩ := hrel
    have hfl := foldS_len ifs (r.take k)
    have hfn := foldS_now_len ifs (r.take k)
    have htk : (r.take k).length ≤ 100000 := by rw [List.length_take]; omega
    by_cases hlt : k < r.length
    · have hkt : k < t.length := by have := hlt; rw [HR.out, List.length_zip] at this; omega
      have hkm : k < m.length := by have := hlt; rw [HR.out, List.length_zip] at this; omega
      have hrk : r[k] = (t[k], m[k]) := by have := HR.out; subst this; rw [List.getElem_zip]
      have hst := foldS_take ifs r k hlt
      rw [hrk] at hst
      have hxt := fun W => Sw.run_at (P := Try.prog) (w := W) Try.underlying9 t .i64 k hkt
      have hxm := fun W => Sw.run_at (P := Try.prog) (w := W) Try.underlying9 m .i64 k hkm
      generalize t[k]'hkt = c at *
      generalize m[k]'hkm = lt at *
      have HST := Lib.hid hst
      clear hst hrk
      have hl1 : (foldS ifs (r.take k)).l.length ≤ 100000 := by omega
      have hl2 : (foldS ifs (r.take k)).now.length ≤ 100000 := by omega
      clear hfl hfn htk
      generalize foldS ifs (r.take k) = st at *
      have u3 : decide (k < r.length) = true := decide_eq_true (by omega)
      have u1 : decide ((k : Int) < (r.length : Int)) = true := decide_eq_true (by omega)
      have u2 : (k : Int) < (r.length : Int) := by omega
      obtain ⟨c0, c1, g0, g1⟩ := row_facts hI.z
      obtain ⟨o0, o1, p0, p1⟩ := row_facts hI.o
      have HI := Lib.hid hI
      clear hI g0 g1
      have HIn := Lib.hid fun W => ref_in_calls W c ifs hi0
      obtain ⟨n, hn⟩ : ∃ n : Int, n = (c.toNat : Int) := ⟨_, rfl⟩
      have HWC := Lib.hid (white_cases c)
      rw [← hn] at hxt HIn HWC
      have Hn := Lib.hid hn
      clear hn
      generalize u5 = v at *
      by_cases q1 : lt = 115
      case' pos =>
        have q11 : decide ((lt.toNat : Int) = 115) = true := decide_eq_true (u8_eq (a := lt) (b := 115).2 q1)
        have q12 : (lt.toNat : Int) = 115 := of_decide_eq_true q11
        by_cases hc : c ∈ ifs
        case' pos =>
          have HN := Lib.hid (step_sep (st := st) q1 hc)
          rw [decide_eq_true hc] at HIn
          clear q1 hc
          cases hb : st.begun
          case' false =>
            rcases HWC.out with ⟨rfl, hw⟩ | ⟨w1, rfl, hw⟩ | ⟨w1, w2, rfl, hw⟩ | ⟨w1, w2, w3, hw⟩
            case' inr.inl => clear w1
            case' inr.inr.inl => clear w1 w2
            case' inr.inr.inr => have x1 := decide_eq_false w1; have x2 := decide_eq_false w2; have x3 := decide_eq_false w3; have y1 : (n == 32) = false := by simpa using w1
            case' inr.inr.inr => have y2 : (n == 9) = false := by simpa using w2
            case' inr.inr.inr => have y3 : (n == 10) = false := by simpa using w3
            all_goals clear HWC Hn
            all_goals rw [hw] at HN
            all_goals clear hw
            case inr.inr.inr =>
              cases hbl : st.blank
              case' true =>
                rw [sepS_t3 hb hbl, endS_not hb] at HN
                clear hb hbl
                go_wp2_with fail
                refine (HIn.out _).mono ?_
                rintro e w' ⟨rfl, rfl⟩
                go_wp2_with fail
                all_goals
                  go_roundw
                  case rel => exact ⟨k + 1, by omega, by go_num, by rw [HST.out, HN.out], by rw [HST.out, HN.out], by rw [HST.out, HN.out]; exact HI.out.now (now' := [])⟩
                  case measure => simp [intOf]; omega
              case' false =>
                rw [sepS_t4 hb hbl, endS_begun rfl] at HN
                clear hb hbl
                go_wp2_with fail
                refine (HIn.out _).mono ?_
                rintro e w' ⟨rfl, rfl⟩
                have hal := (Below.refl w'.heap.size w').alloc (Nat.le_refl _) (.cells #[.string (str (textS st.now)), .string (str (maskS st.now))] 29)
                have HIa := Lib.hid (HI.out.below hal)
                clear hal
                go_wp2_with (at_builtin; refine Ap.wpList_append_at rfl (.tmp 64) (.tmp 66) 27 27 rfl (w.heap.size + 1 + 1) 29 i0 _ 2 32 Try.underlying27 (append_side Try.underlying27) hi hi1 hi2 hi3 rfl (by decide) (by decide) v st.l.length (st.l.flatMap rowCells) rfl HIa.out.own _ 1 _ rfl (src_new w' [.string (str (textS st.now)), .string (str (maskS st.now))] 29 2 1 rfl (by simp [Value.oneCell']) _) (by unfold maxLen; omega) (by omega) HIa.out.size ?_)
                all_goals
                  intro v8 w8 hown8 hg8 _
                  have HI8 := Lib.hid (HIa.out.push hg8 hown8)
                  clear hown8 hg8 o0 o1 p0 p1 c0 c1
                  obtain ⟨o0, o1, p0, p1⟩ := row_facts HI8.out.o
                  go_wp2_with fail
                  all_goals
                    go_roundw
                    case rel => exact ⟨k + 1, by omega, by go_num, by rw [HST.out, HN.out], by rw [HST.out, HN.out], by rw [HST.out, HN.out]; exact HI8.out.now (now' := [])⟩
                    case measure => simp [intOf]; omega
            all_goals
              have HN2 : Hid (sepS st true = ⟨st.l, st.now, false, st.blank⟩) := by show _ = _; rw [sepS_t2 hb, ← hb]
              rw [HN2.out] at HN
              clear hb HN2
              go_wp2_with fail
              refine (HIn.out _).mono ?_
              rintro e w' ⟨rfl, rfl⟩
              go_wp2_with fail
              all_goals
                go_roundw
                case rel => exact ⟨k + 1, by omega, by go_num, by rw [HST.out, HN.out], by rw [HST.out, HN.out], by rw [HST.out, HN.out]; exact HI.out⟩
                case measure => simp [intOf]; omega
          case' true =>
            rcases HWC.out with ⟨rfl, hw⟩ | ⟨w1, rfl, hw⟩ | ⟨w1, w2, rfl, hw⟩ | ⟨w1, w2, w3, hw⟩
            case' inr.inl => clear w1
            case' inr.inr.inl => clear w1 w2
            case' inr.inr.inr => have x1 := decide_eq_false w1; have x2 := decide_eq_false w2; have x3 := decide_eq_false w3; have y1 : (n == 32) = false := by simpa using w1
            case' inr.inr.inr => have y2 : (n == 9) = false := by simpa using w2
            case' inr.inr.inr => have y3 : (n == 10) = false := by simpa using w3
            all_goals clear HWC Hn
            all_goals rw [hw, sepS_t1 hb, endS_begun hb] at HN
            all_goals clear hw hb
            case inr.inr.inr =>
              go_wp2_with fail
              refine (HIn.out _).mono ?_
              rintro e w' ⟨rfl, rfl⟩
              have hal := (Below.refl w'.heap.size w').alloc (Nat.le_refl _) (.cells #[.string (str (textS st.now)), .string (str (maskS st.now))] 29)
              have HIa := Lib.hid (HI.out.below hal)
              clear hal
              go_wp2_with (at_builtin; refine Ap.wpList_append_at rfl (.tmp 64) (.tmp 66) 27 27 rfl (w.heap.size + 1 + 1) 29 i0 _ 2 32 Try.underlying27 (append_side Try.underlying27) hi hi1 hi2 hi3 rfl (by decide) (by decide) v st.l.length (st.l.flatMap rowCells) rfl HIa.out.own _ 1 _ rfl (src_new w' [.string (str (textS st.now)), .string (str (maskS st.now))] 29 2 1 rfl (by simp [Value.oneCell']) _) (by unfold maxLen; omega) (by omega) HIa.out.size ?_)
              all_goals
                intro v8 w8 hown8 hg8 _
                have HI8 := Lib.hid (HIa.out.push hg8 hown8)
                clear hown8 hg8 o0 o1 p0 p1 c0 c1
                obtain ⟨o0, o1, p0, p1⟩ := row_facts HI8.out.o
                go_wp2_with fail
                all_goals
                  go_roundw
                  case rel => exact ⟨k + 1, by omega, by go_num, by rw [HST.out, HN.out], by rw [HST.out, HN.out], by rw [HST.out, HN.out]; exact HI8.out.now (now' := [])⟩
                  case measure => simp [intOf]; omega
            all_goals
              go_wp2_with fail
              refine (HIn.out _).mono ?_
              rintro e w' ⟨rfl, rfl⟩
              have hal := (Below.refl w'.heap.size w').alloc (Nat.le_refl _) (.cells #[.string (str (textS st.now)), .string (str (maskS st.now))] 29)
              have HIa := Lib.hid (HI.out.below hal)
              clear hal
              go_wp2_with (at_builtin; refine Ap.wpList_append_at rfl (.tmp 53) (.tmp 55) 27 27 rfl (w.heap.size + 1 + 1) 29 i0 _ 2 32 Try.underlying27 (append_side Try.underlying27) hi hi1 hi2 hi3 rfl (by decide) (by decide) v st.l.length (st.l.flatMap rowCells) rfl HIa.out.own _ 1 _ rfl (src_new w' [.string (str (textS st.now)), .string (str (maskS st.now))] 29 2 1 rfl (by simp [Value.oneCell']) _) (by unfold maxLen; omega) (by omega) HIa.out.size ?_)
              all_goals
                intro v8 w8 hown8 hg8 _
                have HI8 := Lib.hid (HIa.out.push hg8 hown8)
                clear hown8 hg8 o0 o1 p0 p1 c0 c1
                obtain ⟨o0, o1, p0, p1⟩ := row_facts HI8.out.o
                go_wp2_with fail
                all_goals
                  go_roundw
                  case rel => exact ⟨k + 1, by omega, by go_num, by rw [HST.out, HN.out], by rw [HST.out, HN.out], by rw [HST.out, HN.out]; exact HI8.out.now (now' := [])⟩
                  case measure => simp [intOf]; omega
        case' neg =>
          have HN := Lib.hid (step_byte (ifs := ifs) (st := st) (c := c) (lt := lt) (fun h => hc h.2) (by subst q1; decide) (by subst q1; decide))
          have q2 : lt ≠ 98 := by subst q1; decide
          have q3 : lt ≠ 101 := by subst q1; decide
          rw [decide_eq_false hc] at HIn
          have q21 : decide ((lt.toNat : Int) = 98) = false := decide_eq_false (fun h => q2 (u8_eq (a := lt) (b := 98).1 h))
          have q22 : ¬ (lt.toNat : Int) = 98 := of_decide_eq_false q21
          have q31 : decide ((lt.toNat : Int) = 101) = false := decide_eq_false (fun h => q3 (u8_eq (a := lt) (b := 101).1 h))
          have q32 : ¬ (lt.toNat : Int) = 101 := of_decide_eq_false q31
          clear q1 q2 q3 hc
          have ho1 := (Below.refl wr.heap.size wr).alloc (Nat.le_refl _) (.cells #[.int .u8 n] 5)
          have ho2 := (Below.refl (wr.alloc (.cells #[.int .u8 n] 5)).heap.size (wr.alloc (.cells #[.int .u8 n] 5))).alloc (Nat.le_refl _) (.cells #[.int .u8 115] 5)
          have hcv1 := str_bytes (bytes_one wr n c Hn.out 5)
          have hcv2 := str_bytes (bytes_one (wr.alloc (.cells #[.int .u8 n] 5)) 115 lt q12.symm 5)
          rw [World.size_alloc] at hcv2
          obtain ⟨a0, a1, b0, b1⟩ := row_facts (HI.out.below ho1).o
          obtain ⟨d0, d1, e0, e1⟩ := row_facts ((HI.out.below ho1).below ho2).o
          have HFin := Lib.hid (((HI.out.below ho1).below ho2).now (now' := st.now ++ [(c, lt)]))
          rw [text_snoc, mask_snoc, ← str_append, ← str_append] at HFin
          have hno1 : ¬ 9223372036854775807 < (str (textS st.now)).size + (str [c]).size := by rw [str_size, str_size, text_len]; simp; omega
          have hno2 : ¬ 9223372036854775807 < (str (maskS st.now)).size + (str [lt]).size := by rw [str_size, str_size, mask_len]; simp; omega
          clear ho1 ho2
          rcases HWC.out with ⟨rfl, hw⟩ | ⟨w1, rfl, hw⟩ | ⟨w1, w2, rfl, hw⟩ | ⟨w1, w2, w3, hw⟩
          case' inr.inl => clear w1
          case' inr.inr.inl => clear w1 w2
          case' inr.inr.inr => have x1 := decide_eq_false w1; have x2 := decide_eq_false w2; have x3 := decide_eq_false w3; have y1 : (n == 32) = false := by simpa using w1
          case' inr.inr.inr => have y2 : (n == 9) = false := by simpa using w2
          case' inr.inr.inr => have y3 : (n == 10) = false := by simpa using w3
          all_goals clear HWC Hn
          all_goals
            clear hw
            go_wp2_with fail
            refine (HIn.out _).mono ?_
            rintro e w' ⟨rfl, rfl⟩
            go_wp2_with fail
            all_goals
              go_roundw
              case rel => exact ⟨k + 1, by omega, by go_num, by rw [HST.out, HN.out], by rw [HST.out, HN.out], by rw [HST.out, HN.out]; exact HFin.out⟩
              case measure => simp [intOf]; omega
      case' neg =>
        have q11 : decide ((lt.toNat : Int) = 115) = false := decide_eq_false (fun h => q1 (u8_eq (a := lt) (b := 115).1 h))
        have q12 : ¬ (lt.toNat : Int) = 115 := of_decide_eq_false q11
        clear HIn
        by_cases q2 : lt = 98
        case' pos =>
          have q21 : decide ((lt.toNat : Int) = 98) = true := decide_eq_true (u8_eq (a := lt) (b := 98).2 q2)
          have q22 : (lt.toNat : Int) = 98 := of_decide_eq_true q21
          have HN := Lib.hid (step_bord (ifs := ifs) (st := st) (c := c) q2)
          clear q1 q2
          cases hb : st.begun
          case' false =>
            rw [endS_not hb] at HN
            clear hb
            rcases HWC.out with ⟨rfl, hw⟩ | ⟨w1, rfl, hw⟩ | ⟨w1, w2, rfl, hw⟩ | ⟨w1, w2, w3, hw⟩
            case' inr.inl => clear w1
            case' inr.inr.inl => clear w1 w2
            case' inr.inr.inr => have x1 := decide_eq_false w1; have x2 := decide_eq_false w2; have x3 := decide_eq_false w3; have y1 : (n == 32) = false := by simpa using w1
            case' inr.inr.inr => have y2 : (n == 9) = false := by simpa using w2
            case' inr.inr.inr => have y3 : (n == 10) = false := by simpa using w3
            all_goals clear HWC Hn
            all_goals
              clear hw
              go_wp2_with fail
              all_goals
                go_roundw
                case rel => exact ⟨k + 1, by omega, by go_num, by rw [HST.out, HN.out], by rw [HST.out, HN.out], by rw [HST.out, HN.out]; exact HI.out.now (now' := [])⟩
                case measure => simp [intOf]; omega
          case' true =>
            rw [endS_begun hb] at HN
            clear hb
            rcases HWC.out with ⟨rfl, hw⟩ | ⟨w1, rfl, hw⟩ | ⟨w1, w2, rfl, hw⟩ | ⟨w1, w2, w3, hw⟩
            case' inr.inl => clear w1
            case' inr.inr.inl => clear w1 w2
            case' inr.inr.inr => have x1 := decide_eq_false w1; have x2 := decide_eq_false w2; have x3 := decide_eq_false w3; have y1 : (n == 32) = false := by simpa using w1
            case' inr.inr.inr => have y2 : (n == 9) = false := by simpa using w2
            case' inr.inr.inr => have y3 : (n == 10) = false := by simpa using w3
            all_goals clear HWC Hn
            all_goals
              clear hw
              have hal := (Below.refl wr.heap.size wr).alloc (Nat.le_refl _) (.cells #[.string (str (textS st.now)), .string (str (maskS st.now))] 29)
              have HIa := Lib.hid (HI.out.below hal)
              clear hal
              go_wp2_with (at_builtin; refine Ap.wpList_append_at rfl (.tmp 72) (.tmp 74) 27 27 rfl (w.heap.size + 1 + 1) 29 i0 _ 2 32 Try.underlying27 (append_side Try.underlying27) hi hi1 hi2 hi3 rfl (by decide) (by decide) v st.l.length (st.l.flatMap rowCells) rfl HIa.out.own _ 1 _ rfl (src_new wr [.string (str (textS st.now)), .string (str (maskS st.now))] 29 2 1 rfl (by simp [Value.oneCell']) _) (by unfold maxLen; omega) (by omega) HIa.out.size ?_)
              all_goals
                intro v8 w8 hown8 hg8 _
                have HI8 := Lib.hid (HIa.out.push hg8 hown8)
                clear hown8 hg8 o0 o1 p0 p1 c0 c1
                obtain ⟨o0, o1, p0, p1⟩ := row_facts HI8.out.o
                go_wp2_with fail
                all_goals
                  go_roundw
                  case rel => exact ⟨k + 1, by omega, by go_num, by rw [HST.out, HN.out], by rw [HST.out, HN.out], by rw [HST.out, HN.out]; exact HI8.out.now (now' := [])⟩
                  case measure => simp [intOf]; omega
        case' neg =>
          have q21 : decide ((lt.toNat : Int) = 98) = false := decide_eq_false (fun h => q2 (u8_eq (a := lt) (b := 98).1 h))
          have q22 : ¬ (lt.toNat : Int) = 98 := of_decide_eq_false q21
          by_cases q3 : lt = 101
          case' pos =>
            have q31 : decide ((lt.toNat : Int) = 101) = true := decide_eq_true (u8_eq (a := lt) (b := 101).2 q3)
            have q32 : (lt.toNat : Int) = 101 := of_decide_eq_true q31
            have HN := Lib.hid (step_none (ifs := ifs) (st := st) (c := c) q3)
            clear q1 q2 q3
            rcases HWC.out with ⟨rfl, hw⟩ | ⟨w1, rfl, hw⟩ | ⟨w1, w2, rfl, hw⟩ | ⟨w1, w2, w3, hw⟩
            case' inr.inl => clear w1
            case' inr.inr.inl => clear w1 w2
            case' inr.inr.inr => have x1 := decide_eq_false w1; have x2 := decide_eq_false w2; have x3 := decide_eq_false w3; have y1 : (n == 32) = false := by simpa using w1
            case' inr.inr.inr => have y2 : (n == 9) = false := by simpa using w2
            case' inr.inr.inr => have y3 : (n == 10) = false := by simpa using w3
            all_goals clear HWC Hn
            all_goals
              clear hw
              go_wp2_with fail
              all_goals
                go_roundw
                case rel => exact ⟨k + 1, by omega, by go_num, by rw [HST.out, HN.out], by rw [HST.out, HN.out], by rw [HST.out, HN.out]; exact HI.out⟩
                case measure => simp [intOf]; omega
          case' neg =>
            have q31 : decide ((lt.toNat : Int) = 101) = false := decide_eq_false (fun h => q3 (u8_eq (a := lt) (b := 101).1 h))
            have q32 : ¬ (lt.toNat : Int) = 101 := of_decide_eq_false q31
            have HN := Lib.hid (step_byte (ifs := ifs) (st := st) (c := c) (lt := lt) (fun h => q1 h.1) q2 q3)
            clear q1 q2 q3
            have ho1 := (Below.refl wr.heap.size wr).alloc (Nat.le_refl _) (.cells #[.int .u8 n] 5)
            have ho2 := (Below.refl (wr.alloc (.cells #[.int .u8 n] 5)).heap.size (wr.alloc (.cells #[.int .u8 n] 5))).alloc (Nat.le_refl _) (.cells #[.int .u8 (lt.toNat : Int)] 5)
            have hcv1 := str_bytes (bytes_one wr n c Hn.out 5)
            have hcv2 := str_bytes (bytes_one (wr.alloc (.cells #[.int .u8 n] 5)) (lt.toNat : Int) lt rfl 5)
            rw [World.size_alloc] at hcv2
            obtain ⟨a0, a1, b0, b1⟩ := row_facts (HI.out.below ho1).o
            obtain ⟨d0, d1, e0, e1⟩ := row_facts ((HI.out.below ho1).below ho2).o
            have HFin := Lib.hid (((HI.out.below ho1).below ho2).now (now' := st.now ++ [(c, lt)]))
            rw [text_snoc, mask_snoc, ← str_append, ← str_append] at HFin
            have hno1 : ¬ 9223372036854775807 < (str (textS st.now)).size + (str [c]).size := by rw [str_size, str_size, text_len]; simp; omega
            have hno2 : ¬ 9223372036854775807 < (str (maskS st.now)).size + (str [lt]).size := by rw [str_size, str_size, mask_len]; simp; omega
            clear ho1 ho2
            rcases HWC.out with ⟨rfl, hw⟩ | ⟨w1, rfl, hw⟩ | ⟨w1, w2, rfl, hw⟩ | ⟨w1, w2, w3, hw⟩
            case' inr.inl => clear w1
            case' inr.inr.inl => clear w1 w2
            case' inr.inr.inr => have x1 := decide_eq_false w1; have x2 := decide_eq_false w2; have x3 := decide_eq_false w3; have y1 : (n == 32) = false := by simpa using w1
            case' inr.inr.inr => have y2 : (n == 9) = false := by simpa using w2
            case' inr.inr.inr => have y3 : (n == 10) = false := by simpa using w3
            all_goals clear HWC Hn
            all_goals
              clear hw
              go_wp2_with fail
              all_goals
                go_roundw
                case rel => exact ⟨k + 1, by omega, by go_num, by rw [HST.out, HN.out], by rw [HST.out, HN.out], by rw [HST.out, HN.out]; exact HFin.out⟩
                case measure => simp [intOf]; omega
    · obtain rfl : k = r.length := by omega
      rw [List.take_length] at hI hfl hfn ⊢
      have HSp : Hid (splitB ifs r = (endS (foldS ifs r) false).l) := rfl
      have hl1 : (foldS ifs r).l.length ≤ 100000 := by omega
      generalize foldS ifs r = st at *
      obtain ⟨o0, o1, p0, p1⟩ := row_facts hI.o
      have HI := Lib.hid hI
      clear hI hfl hfn htk hlt
      generalize u5 = v at *
      have u3 : decide (r.length < r.length) = false := decide_eq_false (by omega)
      have u1 : decide ((r.length : Int) < (r.length : Int)) = false := decide_eq_false (by omega)
      have u2 : ¬ ((r.length : Int) < (r.length : Int)) := by omega
      cases hb : st.begun
      case' false =>
        rw [endS_not hb] at HSp
        clear hb
        go_wp2_with fail
        go_ret
        refine ⟨v, rfl, ?_, HI.out.low⟩
        rw [HSp.out]
        exact ownsRow_mono HI.out.own (by omega)
      case' true =>
        rw [endS_begun hb] at HSp
        clear hb
        have hal := (Below.refl wr.heap.size wr).alloc (Nat.le_refl _) (.cells #[.string (str (textS st.now)), .string (str (maskS st.now))] 29)
        have HIa := Lib.hid (HI.out.below hal)
        clear hal
        go_wp2_with (at_builtin; refine Ap.wpList_append_at rfl (.tmp 93) (.tmp 95) 27 27 rfl (w.heap.size + 1 + 1) 29 i0 _ 2 32 Try.underlying27 (append_side Try.underlying27) hi hi1 hi2 hi3 rfl (by decide) (by decide) v st.l.length (st.l.flatMap rowCells) rfl HIa.out.own _ 1 _ rfl (src_new wr [.string (str (textS st.now)), .string (str (maskS st.now))] 29 2 1 rfl (by simp [Value.oneCell']) _) (by unfold maxLen; omega) (by omega) HIa.out.size ?_)
        intro v8 w8 hown8 hg8 _
        have HI8 := Lib.hid (HIa.out.push hg8 hown8)
        clear hown8 hg8 o0 o1 p0 p1
        go_wp2_with fail
        go_ret
        refine ⟨v8, rfl, ?_, HI8.out.low⟩
        rw [HSp.out]
        exact ownsRow_mono HI8.out.own (by omega)
end Go.Proofs.Ytiemlgfcmldnoaa
