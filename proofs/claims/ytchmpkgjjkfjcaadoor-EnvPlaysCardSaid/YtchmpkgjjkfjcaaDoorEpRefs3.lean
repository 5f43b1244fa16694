/-
  The document's Env: a variable is set. Conditions: the rows are not too long.
-/
import Derived.Test.YtchmpkgjjkfjcaaDoorEpRefs2
import Derived.Deep.DeepCutAuto
set_option linter.unusedVariables false
set_option maxRecDepth 100000
namespace Go.Proofs.YtchmpkgjjkfjcaaDoor
open Go.RowKit Base

theorem takeWhile_cut {α : Type} {p : α → Bool} {l : List α} {k : Nat} (h1 : ∀ x ∈ l.take k, p x = true) (h2 : ∀ h : k < l.length, p l[k] = false) : l.takeWhile p = l.take k ∧ l.dropWhile p = l.drop k := by
  have e : l = l.take k ++ l.drop k := (List.take_append_drop k l).symm
  have hd : (l.drop k).takeWhile p = [] ∧ (l.drop k).dropWhile p = l.drop k := by
    rcases Nat.lt_or_ge k l.length with h | h
    · rw [List.drop_eq_getElem_cons h, List.takeWhile_cons_of_neg (by rw [h2 h]; decide), List.dropWhile_cons_of_neg (by rw [h2 h]; decide)]
      exact ⟨rfl, rfl⟩
    · rw [List.drop_eq_nil_of_le h]; exact ⟨rfl, rfl⟩
  constructor
  · conv => lhs; rw [e]
    rw [List.takeWhile_append_of_pos h1, hd.1, List.append_nil]
  · conv => lhs; rw [e]
    rw [List.dropWhile_append_of_pos h1, hd.2]
theorem bytesLess_str (x y : Nm) : Op.bytesLess (str x).toList (str y).toList = ltB x y := by rw [str_toList, str_toList, less_eq]
theorem rv_sub {w : World} {a : Option Addr} {n c : Nat} {L : List Vr} (h : Vrs w a n c L) (k : Nat) (hk : k ≤ n) :
    (∃ a' c', Vrs w a' k c' (L.take k) ∧ ∀ (k2 : IntKind) (w' : World), (Instr.slice 39 (.slice a n c) none (some (.int k2 (k : Int))) none).run Tryd.prog w' = .ok (.slice a' k c') w') ∧
    (∃ a' c', Vrs w a' (n - k) c' (L.drop k) ∧ ∀ (k1 : IntKind) (w' : World), (Instr.slice 39 (.slice a n c) (some (.int k1 (k : Int))) none none).run Tryd.prog w' = .ok (.slice a' (n - k) c') w') := by
  obtain ⟨i0, hi, _, hi2, _⟩ := info_parts info_rv
  obtain ⟨a1, h1, h2⟩ := h.sub (P := Tryd.prog) 0 k (Nat.zero_le _) hk
  obtain ⟨a2, h3, h4⟩ := h.sub (P := Tryd.prog) k n hk (Nat.le_refl _)
  refine ⟨⟨a1, c, by simpa using h1, fun k2 w' => by simpa using (h2 39 67 i0 Tryd.underlying39 hi hi2 w').2.1 rfl k2⟩, a2, c - k, ?_, fun k1 w' => (h4 39 67 i0 Tryd.underlying39 hi hi2 w').2.2 rfl k1⟩
  have := h.1
  rw [show L.take n = L from List.take_of_length_le (by omega)] at h3
  exact h3
theorem BxI.setAll {w : World} {v g : Value} {st : Int} {fl : Nm} {A : World} (h : BxI w v g st fl A) (u0 u1 : Value) (s1 : Int) (f1 : Nm) : BxI w u0 u1 s1 f1 ((((A.setCell ⟨w.heap.size, 0, none⟩ u0).setCell ⟨w.heap.size, 1, none⟩ u1).setCell ⟨w.heap.size, 2, none⟩ (.int .i64 s1)).setCell ⟨w.heap.size, 3, none⟩ (.string (str f1))) := by
  refine ⟨env4_set h.k0 _ _ _ _, ?_, ?_, ?_⟩
  · exact (set_other _ w.heap.size 3 _ (w.heap.size + 1) (by omega)).trans ((set_other _ w.heap.size 2 _ (w.heap.size + 1) (by omega)).trans ((set_other _ w.heap.size 1 _ (w.heap.size + 1) (by omega)).trans ((set_other A w.heap.size 0 _ (w.heap.size + 1) (by omega)).trans h.k1)))
  · exact (((h.low.setCell (p := ⟨w.heap.size, 0, none⟩) (Nat.le_refl _) _).setCell (p := ⟨w.heap.size, 1, none⟩) (Nat.le_refl _) _).setCell (p := ⟨w.heap.size, 2, none⟩) (Nat.le_refl _) _).setCell (p := ⟨w.heap.size, 3, none⟩) (Nat.le_refl _) _
  · simp
    exact h.size
theorem own_setAllR {w A : World} {v : Value} {l : List Vr} (h : OwnRv A (w.heap.size + 2) v l) (u0 u1 u2 u3 : Value) : OwnRv ((((A.setCell ⟨w.heap.size, 0, none⟩ u0).setCell ⟨w.heap.size, 1, none⟩ u1).setCell ⟨w.heap.size, 2, none⟩ u2).setCell ⟨w.heap.size, 3, none⟩ u3) (w.heap.size + 2) v l := by
  show World.ownsRow _ _ _ _ _ _ _
  have hh : A.ownsRow (w.heap.size + 2) 67 2 v l.length (l.flatMap vrC) := h
  exact ownsRow_setCell_below (ownsRow_setCell_below (ownsRow_setCell_below (ownsRow_setCell_below hh (by show w.heap.size < _; omega) _) (by show w.heap.size < _; omega) _) (by show w.heap.size < _; omega) _) (by show w.heap.size < _; omega) _
set_option maxHeartbeats 4000000 in
theorem ref_set_calls (w : World) (a : Option Addr) (n c : Nat) (l : List Vr) (st : Int) (fl s x : Nm) (ga : Option Addr) (gn gc : Nat) (h : Vrs w a n c l) (hl : l.length ≤ 900000) (hs : s.length ≤ 281474976710656) :
    Calls Tryd.prog 12 #[.agg #[.slice a n c, .slice ga gn gc, .int .i64 st, .string (str fl)], .string (str s), .string (str x)] w fun e w' => ∃ v, e = .returned (.agg #[v, .slice ga gn gc, .int .i64 st, .string (str fl)]) ∧ (∀ base, base ≤ w.heap.size → OwnRv w base (.slice a n c) l → OwnRv w' base v (setB s x l)) ∧ Below w.heap.size w w' := by
  obtain ⟨i0, hi0, hz0, hz1, hz2⟩ := info_parts info_rv
  obtain rfl := h.1
  have H := Lib.hid h
  have HI := Lib.hid (BxI.start w (.slice a l.length c) (.slice ga gn gc) st fl)
  clear h
  go_enter Tryd.func12, Tryd.ntmps12
  go_upto_region 1 with fail
  generalize (w.alloc (.cells #[.slice a l.length c, .slice ga gn gc, .int .i64 st, .string (str fl)] 41)).alloc (.cells #[.slice none 0 0, .slice none 0 0, .int .i64 0, .string ⟨#[]⟩] 41) = w1 at *
  obtain ⟨⟨c0, c1, c2, c3⟩, f0, f1, f2, f3⟩ := env4 HI.out.k0
  go_wp2_with fail
  refine (ref_name_calls w1 s (by omega)).mono ?_
  rintro e w2 ⟨rfl, rfl⟩
  by_cases hn : nameB s = true
  · have HSet : Hid (setB s x l = withB s x l) := by show _ = _; unfold setB; rw [if_pos hn]
    rw [hn]
    clear hn
    go_wp2_with fail
    refine (ref_unset_calls w1 a l.length c l st fl s ga gn gc (H.out.below (Ap.stable_cellsAt vrC) HI.out.low) (by omega)).mono ?_
    rintro e w2 ⟨v, rfl, hown, hb2⟩
    obtain ⟨a1, q1, rfl, _⟩ := rv_of_own hown
    have hI2 := HI.out.below hb2
    have hO2 : OwnRv w2 (w.heap.size + 2) (.slice a1 (withoutB l s).length q1) (withoutB l s) := by
      show World.ownsRow _ _ _ _ _ _ _
      exact own_base hown HI.out.size
    have HM := Lib.hid (without_len s l)
    have HW : Hid (withB s x l = ((withoutB l s).takeWhile fun p => ltB p.1 s) ++ (s, x) :: (withoutB l s).dropWhile fun p => ltB p.1 s) := rfl
    generalize withoutB l s = m at *
    have HI3 := Lib.hid (hI2.setAll (.slice a1 m.length q1) (.slice ga gn gc) st fl)
    have HO3 := Lib.hid (own_setAllR (w := w) hO2 (.slice a1 m.length q1) (.slice ga gn gc) (.int .i64 st) (.string (str fl)))
    obtain ⟨⟨x0, x1, x2, x3⟩, y0, y1, y2, y3⟩ := env4 hI2.k0
    clear c0 c1 c2 c3 f0 f1 f2 f3 hb2 hown HI hO2 hI2
    go_upto_region 5 with fail
    generalize (((w2.setCell ⟨w.heap.size, 0, none⟩ (.slice a1 m.length q1)).setCell ⟨w.heap.size, 1, none⟩ (.slice ga gn gc)).setCell ⟨w.heap.size, 2, none⟩ (.int .i64 st)).setCell ⟨w.heap.size, 3, none⟩ (.string (str fl)) = w3 at *
    clear x0 x1 x2 x3 y0 y1 y2 y3
    obtain ⟨⟨c0, c1, c2, c3⟩, f0, f1, f2, f3⟩ := env4 HI3.out.k0
    have hV3 : Vrs w3 a1 m.length q1 m := by
      obtain ⟨_, _, hv, h2⟩ := rv_of_own HO3.out
      cases hv
      exact h2
    obtain ⟨b, off, hcs, hix⟩ := rv_at hV3
    have HCs := Lib.hid hcs
    have HIx := Lib.hid hix
    have HV3 := Lib.hid hV3
    have HMl := Lib.hid (show m.length ≤ 900000 from Nat.le_trans HM.out hl)
    clear hcs hix hV3
    go_wp2_with fail
    go_loopw [9] (fun v9 wr => ∃ k : Nat, k ≤ m.length ∧ v9 = .int .i64 k ∧ (∀ p ∈ m.take k, ltB p.1 s = true) ∧ w3 = wr) (fun v9 _ => m.length - (intOf v9).toNat)
    case atStart => exact ⟨0, Nat.zero_le _, rfl, by simp, rfl⟩
    case round =>
      obtain ⟨k, hk, rfl, hp, rfl⟩ := hrel
      have HP := Lib.hid hp
      clear hp
      have HEnd : Hid ((∀ h : k < m.length, ltB (m[k]'h).1 s = false) → withB s x l = (m.take k ++ [(s, x)]) ++ m.drop k) := by
        show _ → _
        intro h2
        obtain ⟨e1, e2⟩ := takeWhile_cut (p := fun p : Vr => ltB p.1 s) HP.out h2
        rw [HW.out, e1, e2, List.append_assoc]
        rfl
      by_cases hgo : ∃ h : k < m.length, ltB (m[k]'h).1 s = true
      · obtain ⟨hlt, hless⟩ := hgo
        have hx := fun W => HIx.out .i64 k W hlt
        obtain ⟨z0, z1⟩ := HCs.out k hlt
        have HF : Hid (∀ p ∈ m.take (k + 1), ltB p.1 s = true) := by
          show ∀ p ∈ _, _
          intro p hp
          rw [List.take_succ_eq_append_getElem hlt, List.mem_append, List.mem_singleton] at hp
          rcases hp with hp | rfl
          · exact HP.out p hp
          · exact hless
        have d1 : Op.bytesLess (str (m[k]'hlt).1).toList (str s).toList = true := by rw [bytesLess_str]; exact hless
        clear hless HEnd
        generalize m[k]'hlt = p at *
        generalize off + k * 2 = q at *
        have u3 : decide (k < m.length) = true := decide_eq_true (by omega)
        have u1 : decide ((k : Int) < (m.length : Int)) = true := decide_eq_true (by omega)
        have u2 : (k : Int) < (m.length : Int) := by omega
        have hm9 := HMl.out
        go_wp2_with fail
        go_roundw
        case rel => exact ⟨k + 1, hlt, by go_num, HF.out, trivial⟩
        case measure => simp [intOf]; omega
      · have HStop := Lib.hid hgo
        have HFin := Lib.hid (HEnd.out fun h => by
          have : ¬ ltB (m[k]'h).1 s = true := fun h2 => hgo ⟨h, h2⟩
          simpa using this)
        obtain ⟨⟨at1, ct1, hT, hTs⟩, ⟨at2, ct2, hD, hDs⟩⟩ := rv_sub HV3.out k hk
        have hTS := fun W => hTs .i64 W
        have hDS := fun W => hDs .i64 W
        have HT := Lib.hid hT
        have HD := Lib.hid hD
        have HK := Lib.hid hk
        have hm9 := HMl.out
        clear hgo hT hD hTs hDs HEnd
        go_upto_region 7 with fail
        go_cut [32] from 18 to 32 (fun s32 wx => s32 = .bool false ∧ wx = w3)
        case first =>
          by_cases hlt : k < m.length
          · have hx := fun W => HIx.out .i64 k W hlt
            obtain ⟨z0, z1⟩ := HCs.out k hlt
            have d1 : Op.bytesLess (str (m[k]'hlt).1).toList (str s).toList = false := by
              rw [bytesLess_str]
              have : ¬ ltB (m[k]'hlt).1 s = true := fun h2 => HStop.out ⟨hlt, h2⟩
              simpa using this
            generalize m[k]'hlt = p at *
            generalize off + k * 2 = q at *
            have u3 : decide (k < m.length) = true := decide_eq_true (by omega)
            have u1 : decide ((k : Int) < (m.length : Int)) = true := decide_eq_true (by omega)
            have u2 : (k : Int) < (m.length : Int) := by omega
            go_wp2_with fail
            go_meet
            exact ⟨rfl, rfl⟩
          · have u3 : decide (k < m.length) = false := decide_eq_false (by omega)
            have u1 : decide ((k : Int) < (m.length : Int)) = false := decide_eq_false (by omega)
            have u2 : ¬ ((k : Int) < (m.length : Int)) := by omega
            go_wp2_with fail
            go_meet
            exact ⟨rfl, rfl⟩
        case rest =>
          obtain ⟨rfl, h9⟩ := hcut
          have h9 := h9.symm
          subst h9
          have HB0 := Lib.hid (Below.refl w3.heap.size w3)
          have HOn : Hid (w3.ownsRow w3.heap.size 67 2 (.slice none 0 0) 0 []) := World.ownsRow_nil _ _ _ _
          have HS1 := Lib.hid (src_vrs (P := Tryd.prog) HT.out)
          have hm9 := HMl.out
          have hk9 := HK.out
          go_wp2_with (at_builtin; refine wpList_append_src rfl (.tmp 35) (.tmp 39) 39 39 rfl w3.heap.size 67 i0 (.agg #[.string ⟨#[]⟩, .string ⟨#[]⟩]) 2 32 Tryd.underlying39 append_rv hi0 hz0 hz1 hz2 rfl (by decide) (by decide) _ 0 _ rfl HOn.out _ k _ rfl HS1.out ?_ ?_ ?_ ?_)
          case _ => unfold maxLen; omega
          case _ => omega
          intro v1 w4 h1 h2 _
          have HB4 := Lib.hid ((Below.refl w3.heap.size w3).grown h2 (Nat.le_refl _) (fun j hj => by cases hj))
          have h1' : w4.ownsRow w3.heap.size 67 2 v1 k ((m.take k).flatMap vrC) := h1
          have HO4 := Lib.hid h1'
          clear h1 h2 h1' HS1 HOn HB0 hTS
          have HA := Lib.hid (HB4.out.alloc HB4.out.size (.cells (vrC (s, x)).toArray 67))
          have HOA := Lib.hid (HO4.out.alloc (.cells (vrC (s, x)).toArray 67))
          have HS := Lib.hid (Ap.src_cellsAt (P := Tryd.prog) vrC_len vrC_one (heap_alloc_new w4 (.cells (vrC (s, x)).toArray 67)) 1)
          unfold vrC at HA HOA HS
          clear c0 c1 c2 c3 f0 f1 f2 f3
          go_wp2_with (at_builtin; refine wpList_append_src rfl (.tmp 41) (.tmp 45) 39 39 rfl w3.heap.size 67 i0 (.agg #[.string ⟨#[]⟩, .string ⟨#[]⟩]) 2 32 Tryd.underlying39 append_rv hi0 hz0 hz1 hz2 rfl (by decide) (by decide) _ k _ rfl HOA.out _ 1 _ rfl HS.out ?_ ?_ ?_ ?_)
          case _ => unfold maxLen; omega
          case _ => omega
          case _ => first | exact HA.out.size | (have := HA.out.size; rw [World.size_alloc] at this; exact this)
          intro v2 w5 h1 h2 _
          have HB5 := Lib.hid (HA.out.grown h2 HA.out.size (fun j hj => (HOA.out.lt j hj).1))
          have h1' : w5.ownsRow w3.heap.size 67 2 v2 (k + 1) ((m.take k ++ [(s, x)]).flatMap vrC) := by
            rw [List.flatMap_append]
            exact h1
          have HO5 := Lib.hid h1'
          clear h1 h2 h1' HS HA HOA HB4 HO4
          have HI5 := Lib.hid (HI3.out.below HB5.out)
          have HS3 := Lib.hid (src_vrs (P := Tryd.prog) (HD.out.below (Ap.stable_cellsAt vrC) HB5.out))
          obtain ⟨⟨c0, c1, c2, c3⟩, f0, f1, f2, f3⟩ := env4 HI5.out.k0
          go_wp2_with (at_builtin; refine wpList_append_src rfl (.tmp 47) (.tmp 51) 39 39 rfl w3.heap.size 67 i0 (.agg #[.string ⟨#[]⟩, .string ⟨#[]⟩]) 2 32 Tryd.underlying39 append_rv hi0 hz0 hz1 hz2 rfl (by decide) (by decide) _ (k + 1) _ rfl HO5.out _ (m.length - k) _ rfl HS3.out ?_ ?_ ?_ ?_)
          case _ => unfold maxLen; omega
          case _ => omega
          case _ => exact HB5.out.size
          intro v3 w6 h1 h2 _
          have HB6 := Lib.hid (HB5.out.grown h2 HB5.out.size (fun j hj => (HO5.out.lt j hj).1))
          have h1' : OwnRv w6 w3.heap.size v3 (withB s x l) := by
            show World.ownsRow _ _ _ _ _ _ _
            rw [HFin.out, show ((m.take k ++ [(s, x)]) ++ m.drop k).length = k + 1 + (m.length - k) by simp; omega, List.flatMap_append, List.flatMap_append, List.append_assoc]
            exact h1
          have HI6 := Lib.hid (HI3.out.below HB6.out)
          obtain ⟨a6, q6, rfl, _⟩ := rv_of_own h1'
          have HO6 : Hid (OwnRv w6 (w.heap.size + 2) (.slice a6 (withB s x l).length q6) (withB s x l)) := by
            show World.ownsRow _ _ _ _ _ _ _
            exact own_base h1' HI3.out.size
          clear h1 h2 h1' HS3 HB5 HO5 HI5 HB6 c0 c1 c2 c3 f0 f1 f2 f3
          rw [← HSet.out] at HO6 ⊢
          obtain ⟨M, hM⟩ : ∃ M, setB s x l = M := ⟨_, rfl⟩
          have HMM := Lib.hid hM
          rw [hM] at HO6 ⊢
          clear hM HSet
          obtain ⟨⟨c0, c1, c2, c3⟩, f0, f1, f2, f3⟩ := env4 HI6.out.k0
          go_upto_region 13 with fail
          have HI7 := Lib.hid (HI6.out.set0 (.slice a6 M.length q6))
          have HO7 := Lib.hid (own_set0 HO6.out (.slice a6 M.length q6))
          clear c0 c1 c2 c3 f0 f1 f2 f3 HI6 HO6
          generalize w6.setCell ⟨w.heap.size, 0, none⟩ (.slice a6 M.length q6) = w7 at *
          obtain ⟨⟨c0, c1, c2, c3⟩, f0, f1, f2, f3⟩ := env4 HI7.out.k0
          obtain ⟨⟨d0, d1, d2, d3⟩, e0, e1, e2, e3⟩ := env4 HI7.out.k1
          go_wp2_with fail
          obtain ⟨⟨y0, y1, y2, y3⟩, _⟩ := env4 (env4_set HI7.out.k1 (.slice a6 M.length q6) (.slice ga gn gc) (.int .i64 st) (.string (str fl)))
          refine bodyPost_ret (v := .agg #[.slice a6 M.length q6, .slice ga gn gc, .int .i64 st, .string (str fl)]) (by simp [results, Tryd.results12, go_sem, y0, y1, y2, y3]) rfl ?_
          rw [HMM.out]
          refine ⟨_, rfl, fun base hb _ => ?_, (((HI7.out.low.setCell (Nat.le_succ _) _).setCell (Nat.le_succ _) _).setCell (Nat.le_succ _) _).setCell (Nat.le_succ _) _⟩
          show World.ownsRow _ _ _ _ _ _ _
          exact own_base (own_boxR HO7.out (.slice a6 M.length q6) (.slice ga gn gc) (.int .i64 st) (.string (str fl))) hb
  · have HSet : Hid (setB s x l = l) := by show _ = _; unfold setB; rw [if_neg hn]
    have hn2 : nameB s = false := by simpa using hn
    obtain ⟨⟨d0, d1, d2, d3⟩, e0, e1, e2, e3⟩ := env4 HI.out.k1
    rw [hn2]
    clear hn hn2
    go_wp2_with fail
    obtain ⟨⟨y0, y1, y2, y3⟩, _⟩ := env4 (env4_set HI.out.k1 (.slice a l.length c) (.slice ga gn gc) (.int .i64 st) (.string (str fl)))
    refine bodyPost_ret (v := .agg #[.slice a l.length c, .slice ga gn gc, .int .i64 st, .string (str fl)]) (by simp [results, Tryd.results12, go_sem, y0, y1, y2, y3]) rfl ?_
    have hb := (((HI.out.low.setCell (p := ⟨w.heap.size + 1, 0, none⟩) (Nat.le_succ _) (.slice a l.length c)).setCell (p := ⟨w.heap.size + 1, 1, none⟩) (Nat.le_succ _) (.slice ga gn gc)).setCell (p := ⟨w.heap.size + 1, 2, none⟩) (Nat.le_succ _) (.int .i64 st)).setCell (p := ⟨w.heap.size + 1, 3, none⟩) (Nat.le_succ _) (.string (str fl))
    refine ⟨_, rfl, fun base hbs ho => ?_, hb⟩
    rw [HSet.out]
    show World.ownsRow _ _ _ _ _ _ _
    exact ownsRow_below ho hb
end Go.Proofs.YtchmpkgjjkfjcaaDoor
