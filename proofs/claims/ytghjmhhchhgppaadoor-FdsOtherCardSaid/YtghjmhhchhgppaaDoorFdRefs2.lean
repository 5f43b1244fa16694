/-
  The document's tables: with, the first one; a number's text. Conditions: the rows are not too long; the numbers fit.
-/
import Derived.Test.YtghjmhhchhgppaaDoorFdRefs1
set_option linter.unusedVariables false
set_option maxRecDepth 100000
namespace Go.Proofs.YtghjmhhchhgppaaDoor
open Go.RowKit Base

/-- What the document's loop has put so far. -/
def preW (fd k : Int) (l : List Pr) : List Pr := if l.any (fun p => decide (fd ≤ p.1)) = true then withB fd k l else l
theorem preW_len (fd k : Int) (l : List Pr) : (preW fd k l).length ≤ l.length + 1 := by
  unfold preW
  split
  · exact with_len fd k l
  · omega
theorem any_iff (fd : Int) (l : List Pr) : l.any (fun p => decide (fd ≤ p.1)) = true ↔ ∃ q ∈ l, fd ≤ q.1 := by
  rw [List.any_eq_true]
  exact ⟨fun ⟨q, h1, h2⟩ => ⟨q, h1, by simpa using h2⟩, fun ⟨q, h1, h2⟩ => ⟨q, h1, by simpa using h2⟩⟩
theorem withB_none {fd k : Int} {l : List Pr} (h : l.any (fun p => decide (fd ≤ p.1)) = false) : withB fd k l = l ++ [(fd, k)] := by
  refine withB_snoc_all fd k l fun q hq => ?_
  rw [List.any_eq_false] at h
  have := h q hq
  simp at this
  omega
theorem any_snoc (fd : Int) (l : List Pr) (p : Pr) : (l ++ [p]).any (fun p => decide (fd ≤ p.1)) = (l.any (fun p => decide (fd ≤ p.1)) || decide (fd ≤ p.1)) := by simp
theorem without_single (fd : Int) (p : Pr) : withoutB [p] fd = if p.1 = fd then [] else [p] := by
  unfold withoutB
  by_cases h : p.1 = fd
  · rw [List.filter_cons_of_neg (by simpa using h), if_pos h]; rfl
  · rw [List.filter_cons_of_pos (by simpa using h), if_neg h]; rfl
/-- Put already. -/
theorem preW_put {fd k : Int} {l : List Pr} (p : Pr) (h : l.any (fun p => decide (fd ≤ p.1)) = true) : preW fd k (l ++ [p]) = preW fd k l ++ (if p.1 = fd then [] else [p]) := by
  unfold preW
  rw [any_snoc, h, Bool.true_or, if_pos rfl, if_pos rfl, withB_app, if_pos ((any_iff fd l).1 h), without_single]
/-- Put now. -/
theorem preW_now {fd k : Int} {l : List Pr} (p : Pr) (h : l.any (fun p => decide (fd ≤ p.1)) = false) (hp : fd ≤ p.1) : preW fd k (l ++ [p]) = (preW fd k l ++ [(fd, k)]) ++ (if p.1 = fd then [] else [p]) := by
  have hn : ¬ ∃ q ∈ l, fd ≤ q.1 := fun hq => by rw [(any_iff fd l).2 hq] at h; cases h
  unfold preW
  rw [any_snoc, h, Bool.false_or, decide_eq_true hp, if_pos rfl, if_neg (by simp), withB_app, if_neg hn, if_pos hp, without_single, List.append_assoc]
  rfl
/-- Not yet. -/
theorem preW_not {fd k : Int} {l : List Pr} (p : Pr) (h : l.any (fun p => decide (fd ≤ p.1)) = false) (hp : ¬ fd ≤ p.1) : preW fd k (l ++ [p]) = preW fd k l ++ [p] := by
  unfold preW
  rw [any_snoc, h, Bool.false_or, decide_eq_false hp, if_neg (by simp), if_neg (by simp)]
set_option maxHeartbeats 8000000 in
theorem ref_with_calls (w : World) (a : Option Addr) (n c : Nat) (l : List Pr) (fd k : Int) (h : Prs w a n c l) (hl : n ≤ 1000000) :
    Calls Tryd.prog 12 #[.slice a n c, .int .i64 fd, .int .i64 k] w (RefPost w (withB fd k l)) := by
  obtain ⟨i0, hi0, hz0, hz1, hz2⟩ := info_parts info_refp
  obtain rfl := h.1
  obtain ⟨b, off, hcs, hix⟩ := refp_at h
  have HCs : Hid (∀ W, Below w.heap.size w W → ∀ j (hj : j < l.length), W.cell? ⟨b, off + j * 2, none⟩ = some (.int .i64 l[j].1) ∧ W.cell? ⟨b, off + j * 2 + 1, none⟩ = some (.int .i64 l[j].2)) := fun W hb j hj => ⟨cell_below hb (Nat.le_refl _) (hcs j hj).1, cell_below hb (Nat.le_refl _) (hcs j hj).2⟩
  have HIx := Lib.hid hix
  clear h hcs hix
  go_enter Tryd.func12, Tryd.ntmps12
  go_wp2_with fail
  go_loopw [7, 8, 9] (fun v7 v8 v9 wr => ∃ (i : Nat) (v : Value), v = v7 ∧ i ≤ l.length ∧ v9 = .int .i64 i ∧ v8 = .bool ((l.take i).any fun p => decide (fd ≤ p.1)) ∧ OwnR wr w.heap.size v (preW fd k (l.take i)) ∧ Below w.heap.size w wr) (fun _ _ v9 _ => l.length - (intOf v9).toNat)
  case atStart => exact ⟨0, _, rfl, Nat.zero_le _, rfl, rfl, World.ownsRow_nil _ _ _ _, Below.refl _ _⟩
  case round =>
    obtain ⟨i, v, rfl, hi, rfl, rfl, hown, hb⟩ := hrel
    by_cases hlt : i < l.length
    · have HXx := Lib.hid fun W => HIx.out .i64 i W hlt
      have HCw := Lib.hid fun W h => HCs.out W h i hlt
      have hT := List.take_succ_eq_append_getElem hlt
      have hml : (preW fd k (l.take i)).length ≤ i + 1 := Nat.le_trans (preW_len fd k _) (by have := List.length_take_le i l; omega)
      have HPut := Lib.hid fun h => preW_put (fd := fd) (k := k) (l := l.take i) (l[i]'hlt) h
      have HNow := Lib.hid fun h hp => preW_now (fd := fd) (k := k) (l := l.take i) (l[i]'hlt) h hp
      have HNot := Lib.hid fun h hp => preW_not (fd := fd) (k := k) (l := l.take i) (l[i]'hlt) h hp
      have HAny := Lib.hid (any_snoc fd (l.take i) (l[i]'hlt))
      rw [← hT] at HPut HNow HNot HAny
      generalize l[i]'hlt = p at *
      generalize off + i * 2 = q at *
      have HO := Lib.hid (show wr.ownsRow w.heap.size 45 2 v (preW fd k (l.take i)).length ((preW fd k (l.take i)).flatMap prC) from hown)
      have HB := Lib.hid hb
      clear hT hown hb
      generalize preW fd k (l.take i) = m at *
      generalize (l.take i).any (fun p => decide (fd ≤ p.1)) = put at *
      have u3 : decide (i < l.length) = true := decide_eq_true (by omega)
      have u1 : decide ((i : Int) < (l.length : Int)) = true := decide_eq_true (by omega)
      have u2 : (i : Int) < (l.length : Int) := by omega
      have hx := HXx.out
      obtain ⟨c0, c1⟩ := HCw.out wr HB.out
      have HML := Lib.hid hml
      clear hml
      cases put
      · by_cases hge : fd ≤ p.1
        · have g1 : decide (fd ≤ p.1) = true := decide_eq_true hge
          have HAn : Hid ((l.take (i + 1)).any (fun p => decide (fd ≤ p.1)) = true) := by show _ = _; rw [HAny.out]; simpa using hge
          have HF := Lib.hid (HNow.out rfl hge)
          by_cases he : p.1 = fd
          · have e1 : decide (p.1 = fd) = true := decide_eq_true he
            have e2 : (p.1 != fd) = false := by simpa using he
            have e3 : (p.1 == fd) = true := by simpa using he
            rw [if_pos he, List.append_nil] at HF
            clear he hge
            have HAv2 := Lib.hid (HB.out.alloc HB.out.size (.cells (prC (fd, k)).toArray 45))
            have HOAv2 := Lib.hid (HO.out.alloc (.cells (prC (fd, k)).toArray 45))
            have HSv2 := Lib.hid (Ap.src_cellsAt (P := Tryd.prog) prC_len prC_one (heap_alloc_new wr (.cells (prC (fd, k)).toArray 45)) 1)
            unfold prC at HAv2 HOAv2 HSv2
            have hmlv2 := HML.out
            go_wp2_with (at_builtin; refine wpList_append_src rfl (.tmp 27) (.tmp 31) 28 28 rfl w.heap.size 45 i0 (.agg #[.int .i64 0, .int .i64 0]) 2 16 Tryd.underlying28 append_refp hi0 hz0 hz1 hz2 rfl (by decide) (by decide) _ m.length _ rfl HOAv2.out _ 1 _ rfl HSv2.out ?_ ?_ ?_ ?_)
            case _ => unfold maxLen; omega
            case _ => omega
            case _ => first | exact HAv2.out.size | (have := HAv2.out.size; rw [World.size_alloc] at this; exact this)
            intro v2 w2 h1 h2 _
            have HB2 := Lib.hid (HAv2.out.grown h2 HAv2.out.size (fun j hj => (HOAv2.out.lt j hj).1))
            have HO2 := Lib.hid h1
            clear h1 h2 hmlv2
            have hcc := HCw.out w2 HB2.out
            obtain ⟨c0, c1⟩ := hcc
            go_wp2_with fail
            go_roundw
            case rel => exact ⟨i + 1, v2, rfl, by omega, by go_num, by rw [HAn.out], by rw [HF.out]; show World.ownsRow _ _ _ _ _ _ _; rw [List.flatMap_append, List.length_append]; exact HO2.out, HB2.out⟩
            case measure => simp [intOf]; omega
          · have e1 : decide (p.1 = fd) = false := decide_eq_false he
            have e2 : (p.1 != fd) = true := by simpa using he
            have e3 : (p.1 == fd) = false := by simpa using he
            rw [if_neg he] at HF
            clear he hge
            have HAv2 := Lib.hid (HB.out.alloc HB.out.size (.cells (prC (fd, k)).toArray 45))
            have HOAv2 := Lib.hid (HO.out.alloc (.cells (prC (fd, k)).toArray 45))
            have HSv2 := Lib.hid (Ap.src_cellsAt (P := Tryd.prog) prC_len prC_one (heap_alloc_new wr (.cells (prC (fd, k)).toArray 45)) 1)
            unfold prC at HAv2 HOAv2 HSv2
            have hmlv2 := HML.out
            go_wp2_with (at_builtin; refine wpList_append_src rfl (.tmp 27) (.tmp 31) 28 28 rfl w.heap.size 45 i0 (.agg #[.int .i64 0, .int .i64 0]) 2 16 Tryd.underlying28 append_refp hi0 hz0 hz1 hz2 rfl (by decide) (by decide) _ m.length _ rfl HOAv2.out _ 1 _ rfl HSv2.out ?_ ?_ ?_ ?_)
            case _ => unfold maxLen; omega
            case _ => omega
            case _ => first | exact HAv2.out.size | (have := HAv2.out.size; rw [World.size_alloc] at this; exact this)
            intro v2 w2 h1 h2 _
            have HB2 := Lib.hid (HAv2.out.grown h2 HAv2.out.size (fun j hj => (HOAv2.out.lt j hj).1))
            have HO2 := Lib.hid h1
            clear h1 h2 hmlv2
            have hcc := HCw.out w2 HB2.out
            obtain ⟨c0, c1⟩ := hcc
            have HAv3 := Lib.hid (HB2.out.alloc HB2.out.size (.cells (prC p).toArray 45))
            have HOAv3 := Lib.hid (HO2.out.alloc (.cells (prC p).toArray 45))
            have HSv3 := Lib.hid (Ap.src_cellsAt (P := Tryd.prog) prC_len prC_one (heap_alloc_new w2 (.cells (prC p).toArray 45)) 1)
            unfold prC at HAv3 HOAv3 HSv3
            have hmlv3 := HML.out
            go_wp2_with (at_builtin; refine wpList_append_src rfl (.tmp 40) (.tmp 45) 28 28 rfl w.heap.size 45 i0 (.agg #[.int .i64 0, .int .i64 0]) 2 16 Tryd.underlying28 append_refp hi0 hz0 hz1 hz2 rfl (by decide) (by decide) _ (m.length + 1) _ rfl HOAv3.out _ 1 _ rfl HSv3.out ?_ ?_ ?_ ?_)
            case _ => unfold maxLen; omega
            case _ => omega
            case _ => first | exact HAv3.out.size | (have := HAv3.out.size; rw [World.size_alloc] at this; exact this)
            intro v3 w3 h1 h2 _
            have HB3 := Lib.hid (HAv3.out.grown h2 HAv3.out.size (fun j hj => (HOAv3.out.lt j hj).1))
            have HO3 := Lib.hid h1
            clear h1 h2 hmlv3
            go_wp2_with fail
            go_roundw
            case rel => exact ⟨i + 1, v3, rfl, by omega, by go_num, by rw [HAn.out], by rw [HF.out]; show World.ownsRow _ _ _ _ _ _ _; rw [List.flatMap_append, List.flatMap_append, List.length_append, List.length_append, List.append_assoc]; exact HO3.out, HB3.out⟩
            case measure => simp [intOf]; omega
        · have g1 : decide (fd ≤ p.1) = false := decide_eq_false hge
          have he : ¬ p.1 = fd := by omega
          have HAn : Hid ((l.take (i + 1)).any (fun p => decide (fd ≤ p.1)) = false) := by show _ = _; rw [HAny.out]; simpa using hge
          have HF := Lib.hid (HNot.out rfl hge)
          have e1 : decide (p.1 = fd) = false := decide_eq_false he
          have e2 : (p.1 != fd) = true := by simpa using he
          have e3 : (p.1 == fd) = false := by simpa using he
          clear he hge
          have HAv2 := Lib.hid (HB.out.alloc HB.out.size (.cells (prC p).toArray 45))
          have HOAv2 := Lib.hid (HO.out.alloc (.cells (prC p).toArray 45))
          have HSv2 := Lib.hid (Ap.src_cellsAt (P := Tryd.prog) prC_len prC_one (heap_alloc_new wr (.cells (prC p).toArray 45)) 1)
          unfold prC at HAv2 HOAv2 HSv2
          have hmlv2 := HML.out
          go_wp2_with (at_builtin; refine wpList_append_src rfl (.tmp 40) (.tmp 45) 28 28 rfl w.heap.size 45 i0 (.agg #[.int .i64 0, .int .i64 0]) 2 16 Tryd.underlying28 append_refp hi0 hz0 hz1 hz2 rfl (by decide) (by decide) _ m.length _ rfl HOAv2.out _ 1 _ rfl HSv2.out ?_ ?_ ?_ ?_)
          case _ => unfold maxLen; omega
          case _ => omega
          case _ => first | exact HAv2.out.size | (have := HAv2.out.size; rw [World.size_alloc] at this; exact this)
          intro v2 w2 h1 h2 _
          have HB2 := Lib.hid (HAv2.out.grown h2 HAv2.out.size (fun j hj => (HOAv2.out.lt j hj).1))
          have HO2 := Lib.hid h1
          clear h1 h2 hmlv2
          go_wp2_with fail
          go_roundw
          case rel => exact ⟨i + 1, v2, rfl, by omega, by go_num, by rw [HAn.out], by rw [HF.out]; show World.ownsRow _ _ _ _ _ _ _; rw [List.flatMap_append, List.length_append]; exact HO2.out, HB2.out⟩
          case measure => simp [intOf]; omega
      · have HAn : Hid ((l.take (i + 1)).any (fun p => decide (fd ≤ p.1)) = true) := by show _ = _; rw [HAny.out]; rfl
        have HF := Lib.hid (HPut.out rfl)
        by_cases hge : fd ≤ p.1
        · have g1 : decide (fd ≤ p.1) = true := decide_eq_true hge
          by_cases he : p.1 = fd
          · have e1 : decide (p.1 = fd) = true := decide_eq_true he
            have e2 : (p.1 != fd) = false := by simpa using he
            have e3 : (p.1 == fd) = true := by simpa using he
            rw [if_pos he, List.append_nil] at HF
            clear he hge
            go_wp2_with fail
            go_roundw
            case rel => exact ⟨i + 1, v, rfl, by omega, by go_num, by rw [HAn.out], by rw [HF.out]; exact HO.out, HB.out⟩
            case measure => simp [intOf]; omega
          · have e1 : decide (p.1 = fd) = false := decide_eq_false he
            have e2 : (p.1 != fd) = true := by simpa using he
            have e3 : (p.1 == fd) = false := by simpa using he
            rw [if_neg he] at HF
            clear he hge
            have HAv2 := Lib.hid (HB.out.alloc HB.out.size (.cells (prC p).toArray 45))
            have HOAv2 := Lib.hid (HO.out.alloc (.cells (prC p).toArray 45))
            have HSv2 := Lib.hid (Ap.src_cellsAt (P := Tryd.prog) prC_len prC_one (heap_alloc_new wr (.cells (prC p).toArray 45)) 1)
            unfold prC at HAv2 HOAv2 HSv2
            have hmlv2 := HML.out
            go_wp2_with (at_builtin; refine wpList_append_src rfl (.tmp 40) (.tmp 45) 28 28 rfl w.heap.size 45 i0 (.agg #[.int .i64 0, .int .i64 0]) 2 16 Tryd.underlying28 append_refp hi0 hz0 hz1 hz2 rfl (by decide) (by decide) _ m.length _ rfl HOAv2.out _ 1 _ rfl HSv2.out ?_ ?_ ?_ ?_)
            case _ => unfold maxLen; omega
            case _ => omega
            case _ => first | exact HAv2.out.size | (have := HAv2.out.size; rw [World.size_alloc] at this; exact this)
            intro v2 w2 h1 h2 _
            have HB2 := Lib.hid (HAv2.out.grown h2 HAv2.out.size (fun j hj => (HOAv2.out.lt j hj).1))
            have HO2 := Lib.hid h1
            clear h1 h2 hmlv2
            go_wp2_with fail
            go_roundw
            case rel => exact ⟨i + 1, v2, rfl, by omega, by go_num, by rw [HAn.out], by rw [HF.out]; show World.ownsRow _ _ _ _ _ _ _; rw [List.flatMap_append, List.length_append]; exact HO2.out, HB2.out⟩
            case measure => simp [intOf]; omega
        · have g1 : decide (fd ≤ p.1) = false := decide_eq_false hge
          have he : ¬ p.1 = fd := by omega
          have e1 : decide (p.1 = fd) = false := decide_eq_false he
          have e2 : (p.1 != fd) = true := by simpa using he
          have e3 : (p.1 == fd) = false := by simpa using he
          rw [if_neg he] at HF
          clear he hge
          have HAv2 := Lib.hid (HB.out.alloc HB.out.size (.cells (prC p).toArray 45))
          have HOAv2 := Lib.hid (HO.out.alloc (.cells (prC p).toArray 45))
          have HSv2 := Lib.hid (Ap.src_cellsAt (P := Tryd.prog) prC_len prC_one (heap_alloc_new wr (.cells (prC p).toArray 45)) 1)
          unfold prC at HAv2 HOAv2 HSv2
          have hmlv2 := HML.out
          go_wp2_with (at_builtin; refine wpList_append_src rfl (.tmp 40) (.tmp 45) 28 28 rfl w.heap.size 45 i0 (.agg #[.int .i64 0, .int .i64 0]) 2 16 Tryd.underlying28 append_refp hi0 hz0 hz1 hz2 rfl (by decide) (by decide) _ m.length _ rfl HOAv2.out _ 1 _ rfl HSv2.out ?_ ?_ ?_ ?_)
          case _ => unfold maxLen; omega
          case _ => omega
          case _ => first | exact HAv2.out.size | (have := HAv2.out.size; rw [World.size_alloc] at this; exact this)
          intro v2 w2 h1 h2 _
          have HB2 := Lib.hid (HAv2.out.grown h2 HAv2.out.size (fun j hj => (HOAv2.out.lt j hj).1))
          have HO2 := Lib.hid h1
          clear h1 h2 hmlv2
          go_wp2_with fail
          go_roundw
          case rel => exact ⟨i + 1, v2, rfl, by omega, by go_num, by rw [HAn.out], by rw [HF.out]; show World.ownsRow _ _ _ _ _ _ _; rw [List.flatMap_append, List.length_append]; exact HO2.out, HB2.out⟩
          case measure => simp [intOf]; omega
    · obtain rfl : i = l.length := by omega
      rw [List.take_length] at hown
      have HB := Lib.hid hb
      have u3 : decide (l.length < l.length) = false := decide_eq_false (by omega)
      have u1 : decide ((l.length : Int) < (l.length : Int)) = false := decide_eq_false (by omega)
      have u2 : ¬ ((l.length : Int) < (l.length : Int)) := by omega
      rw [List.take_length]
      by_cases hp : l.any (fun p => decide (fd ≤ p.1)) = true
      · have HW : Hid (preW fd k l = withB fd k l) := by show _ = _; unfold preW; rw [if_pos hp]
        have HO := Lib.hid hown
        rw [hp]
        clear hown hb hp
        go_wp2_with fail
        go_ret
        exact ⟨v, rfl, by rw [← HW.out]; exact HO.out, HB.out⟩
      · have hp2 : l.any (fun p => decide (fd ≤ p.1)) = false := by simpa using hp
        have hpw : preW fd k l = l := by unfold preW; rw [if_neg hp]
        have HW := Lib.hid (withB_none (k := k) hp2)
        rw [hp2]
        rw [hpw] at hown
        have HO := Lib.hid (show wr.ownsRow w.heap.size 45 2 v l.length (l.flatMap prC) from hown)
        have HA := Lib.hid (HB.out.alloc HB.out.size (.cells (prC (fd, k)).toArray 45))
        have HOA := Lib.hid (HO.out.alloc (.cells (prC (fd, k)).toArray 45))
        have HS := Lib.hid (Ap.src_cellsAt (P := Tryd.prog) prC_len prC_one (heap_alloc_new wr (.cells (prC (fd, k)).toArray 45)) 1)
        unfold prC at HA HOA HS
        clear hown hb hp hp2 hpw
        go_wp2_with (at_builtin; refine wpList_append_src rfl (.tmp 49) (.tmp 53) 28 28 rfl w.heap.size 45 i0 (.agg #[.int .i64 0, .int .i64 0]) 2 16 Tryd.underlying28 append_refp hi0 hz0 hz1 hz2 rfl (by decide) (by decide) _ l.length _ rfl HOA.out _ 1 _ rfl HS.out ?_ ?_ ?_ ?_)
        case _ => unfold maxLen; omega
        case _ => omega
        case _ => first | exact HA.out.size | (have := HA.out.size; rw [World.size_alloc] at this; exact this)
        intro v' w' h1 h2 _
        have HB' := Lib.hid (HA.out.grown h2 HA.out.size (fun j hj => (HOA.out.lt j hj).1))
        have H1 : Hid (OwnR w' w.heap.size v' (withB fd k l)) := by
          show World.ownsRow _ _ _ _ _ _ _
          rw [HW.out, List.flatMap_append, List.length_append]
          exact h1
        clear h1 h2
        go_wp2_with fail
        go_ret
        exact ⟨v', rfl, H1.out, HB'.out⟩
theorem build_refp (w : World) (a b : Int) : (Instr.build 45 #[(0, .int .i64 a), (1, .int .i64 b)]).run Tryd.prog w = .ok (.agg #[.int .i64 a, .int .i64 b]) w := by
  refine run_build w _ _ _ ?_
  kernel_rfl
set_option maxHeartbeats 1000000 in
theorem ref_first_calls (w : World) : Calls Tryd.prog 7 #[] w (RefPost w firstB) := by
  have hh := heap_alloc_new w (.cells (firstB.flatMap prC).toArray 45)
  have HO := Lib.hid (show OwnR (w.alloc (.cells (firstB.flatMap prC).toArray 45)) w.heap.size (.slice (some ⟨w.heap.size, 0, none⟩) 3 3) firstB from Sl.own_mk (Nat.le_refl _) hh (Nat.le_refl _) (by unfold maxLen; decide) rfl rfl)
  have HB := Lib.hid ((Below.refl w.heap.size w).alloc (Nat.le_refl _) (.cells (firstB.flatMap prC).toArray 45))
  rw [show (firstB.flatMap prC).toArray = #[.int .i64 0, .int .i64 0, .int .i64 1, .int .i64 1, .int .i64 2, .int .i64 2] from rfl] at HO HB
  clear hh
  go_enter Tryd.func7, Tryd.ntmps7
  go_wp2_with fail
  go_ret
  exact ⟨_, rfl, HO.out, HB.out⟩
end Go.Proofs.YtghjmhhchhgppaaDoor
