/-
  SplitJoins: rows behind each other, a text of one sort, a row's text: the walk.
-/
import Derived.Test.YtiemlgfcmldnoaaSpTellsLaw
set_option linter.unusedVariables false
set_option maxRecDepth 100000
namespace Go.Proofs.Ytiemlgfcmldnoaa
open Go.RowKit Base

theorem eql_ref (t m : ByteArray) (w : World) : (binOp .eql 29 (.agg #[.string t, .string m]) (.agg #[.string t, .string m])).run Try.prog w = .ok (.bool true) w := by
  rw [run_eql_struct, eq_ref]
  simp [Result.andThen]
theorem eql_row (t m : ByteArray) (w : World) : (binOp .eql 23 (.agg #[.string t, .string m]) (.agg #[.string t, .string m])).run Try.prog w = .ok (.bool true) w := by
  rw [run_eql_struct, eq_row]
  simp [Result.andThen]
theorem u8_of_wf {n : Int} (h : (Lit.int .u8 n).wf = true) : ∃ c : UInt8, n = (c.toNat : Int) := by
  have h1 := wf_bounds h
  have h2 : 0 ≤ n ∧ n ≤ 255 := by simpa [IntKind.min, IntKind.max, IntKind.signed, IntKind.bits] using h1
  refine ⟨UInt8.ofNat n.toNat, ?_⟩
  have : n.toNat < 256 := by omega
  rw [UInt8.toNat_ofNat_of_lt' (by simpa using this)]
  omega
theorem does_buildS {P : Program} {a : Act} {w w' : World} {post : Value → World → Prop} {dst : Option Tmp} {t : TypeId} {parts : Array (Nat × Operand)} {ty : TypeId} {pos : String} {after : Array Edge} {guard : Option (Nat × Bool)} (vals : Array (Nat × Value)) (u : Value)
    (hv : (parts.map fun (i, x) => (i, a.eval x)) = vals) (hr : (Instr.build t vals).run P w = .ok u w') (hp : post u w') : Rg.does P { dst, op := .build t parts, type := ty, pos, after, guard } a w post := by
  refine Rg.does_value (v := u) (w' := w') ?_ hp
  simp [execOp, hv, hr, Result.andThen]
theorem build_row0 (w : World) : (Instr.build 23 #[]).run Try.prog w = .ok (.agg #[.string (str []), .string (str [])]) w := by
  refine run_build w _ _ _ ?_
  kernel_rfl
set_option maxHeartbeats 8000000 in
theorem split_joins (w : World) (t m t2 m2 s : ByteArray) (n : Int) (hn : (Lit.int .u8 n).wf = true) : Calls Try.prog 4 #[.agg #[.string t, .string m], .agg #[.string t2, .string m2], .string s, .int .u8 n] w fun e w' => e = .returned (.bool true) ∧ Below w.heap.size w w' := by
  obtain ⟨c, rfl⟩ := u8_of_wf hn
  clear hn
  obtain ⟨t, rfl⟩ : ∃ l, t = str l := ⟨t.data.toList, (str_of t).symm⟩
  obtain ⟨m, rfl⟩ : ∃ l, m = str l := ⟨m.data.toList, (str_of m).symm⟩
  obtain ⟨t2, rfl⟩ : ∃ l, t2 = str l := ⟨t2.data.toList, (str_of t2).symm⟩
  obtain ⟨m2, rfl⟩ : ∃ l, m2 = str l := ⟨m2.data.toList, (str_of m2).symm⟩
  obtain ⟨s, rfl⟩ : ∃ l, s = str l := ⟨s.data.toList, (str_of s).symm⟩
  have e1 : (str t).size = t.length := rfl
  have e2 : (str m).size = m.length := rfl
  have e3 : (str t2).size = t2.length := rfl
  have e4 : (str m2).size = m2.length := rfl
  have e5 : (str s).size = s.length := rfl
  obtain ⟨hA0, hbl, hsz⟩ := heap2 w (.cells #[.string (str t), .string (str m)] 23) (.cells #[.string (str t2), .string (str m2)] 23)
  have hA1 := heap_alloc_new (w.alloc (.cells #[.string (str t), .string (str m)] 23)) (.cells #[.string (str t2), .string (str m2)] 23)
  rw [World.size_alloc] at hA1
  have HA0 := Lib.hid hA0
  have Hbl := Lib.hid hbl
  have Hsz := Lib.hid hsz
  have HA1 := Lib.hid hA1
  clear hA0 hbl hsz hA1
  go_enter Try.func4, Try.ntmps4
  go_wp2_with fail
  generalize (w.alloc (.cells #[.string (str t), .string (str m)] 23)).alloc (.cells #[.string (str t2), .string (str m2)] 23) = w1 at *
  refine (awake_calls w1).mono ?_
  rintro e w2 ⟨rfl, hb2⟩
  have HA2 := Lib.hid ((hb2.block _ (Array.getElem?_eq_some_iff.1 HA0.out).1).trans HA0.out)
  have HC2 := Lib.hid ((hb2.block _ (Array.getElem?_eq_some_iff.1 HA1.out).1).trans HA1.out)
  have HB2 := Lib.hid (Hbl.out.trans (hb2.mono Hbl.out.size))
  clear hb2 HA0 HA1 Hbl Hsz
  obtain ⟨c0, c1, y0, y1⟩ := row_facts HA2.out
  obtain ⟨c2, c3, y2, y3⟩ := row_facts HC2.out
  by_cases h1 : 200 < t.length
  · have a1 : decide ((200 : Int) < ((str t).size : Int)) = true := decide_eq_true (by omega)
    have a2 : (200 : Int) < ((str t).size : Int) := by omega
    go_wp2_with fail
    go_ret
    exact ⟨rfl, HB2.out⟩
  have a1 : decide ((200 : Int) < ((str t).size : Int)) = false := decide_eq_false (by omega)
  have a2 : ¬ ((200 : Int) < ((str t).size : Int)) := by omega
  by_cases h2 : 200 < m.length
  · have b1 : decide ((200 : Int) < ((str m).size : Int)) = true := decide_eq_true (by omega)
    have b2 : (200 : Int) < ((str m).size : Int) := by omega
    go_wp2_with fail
    go_ret
    exact ⟨rfl, HB2.out⟩
  have b1 : decide ((200 : Int) < ((str m).size : Int)) = false := decide_eq_false (by omega)
  have b2 : ¬ ((200 : Int) < ((str m).size : Int)) := by omega
  by_cases h3 : 200 < t2.length
  · have d1 : decide ((200 : Int) < ((str t2).size : Int)) = true := decide_eq_true (by omega)
    have d2 : (200 : Int) < ((str t2).size : Int) := by omega
    go_wp2_with fail
    go_ret
    exact ⟨rfl, HB2.out⟩
  have d1 : decide ((200 : Int) < ((str t2).size : Int)) = false := decide_eq_false (by omega)
  have d2 : ¬ ((200 : Int) < ((str t2).size : Int)) := by omega
  by_cases h4 : 200 < m2.length
  · have f1 : decide ((200 : Int) < ((str m2).size : Int)) = true := decide_eq_true (by omega)
    have f2 : (200 : Int) < ((str m2).size : Int) := by omega
    go_wp2_with fail
    go_ret
    exact ⟨rfl, HB2.out⟩
  have f1 : decide ((200 : Int) < ((str m2).size : Int)) = false := decide_eq_false (by omega)
  have f2 : ¬ ((200 : Int) < ((str m2).size : Int)) := by omega
  by_cases h5 : 200 < s.length
  · have g1 : decide ((200 : Int) < ((str s).size : Int)) = true := decide_eq_true (by omega)
    have g2 : (200 : Int) < ((str s).size : Int) := by omega
    go_wp2_with fail
    go_ret
    exact ⟨rfl, HB2.out⟩
  have g1 : decide ((200 : Int) < ((str s).size : Int)) = false := decide_eq_false (by omega)
  have g2 : ¬ ((200 : Int) < ((str s).size : Int)) := by omega
  have HJ := Lib.hid fun (W : World) (ad : Option Addr) (hl : SPairs W ad 2 2 [(t, m), (t2, m2)]) => sp_join_calls W ad 2 2 [(t, m), (t2, m2)] hl (by decide) (by intro p hp; simp at hp; rcases hp with rfl | rfl <;> (refine ⟨?_, ?_⟩ <;> dsimp only <;> omega))
  have HK := Lib.hid fun W => ref_join_calls W t m t2 m2 (by omega) (by omega) (by omega) (by omega)
  have HO := Lib.hid fun W => sp_of_calls W s c (by omega)
  have HP := Lib.hid fun W => ref_of_calls W s c (by omega)
  have HBa := Lib.hid fun W => sp_bare_calls W t m (by omega) (by omega)
  have HRb := Lib.hid fun W => ref_bare_calls W t m (by omega) (by omega)
  have HN := Lib.hid fun W => sp_join_calls W none 0 0 [] RowOf.nil (by decide) (by intro p hp; cases hp)
  rw [show joinP [(t, m), (t2, m2)] = t.zip m ++ t2.zip m2 from by simp [joinP, zipP]] at HJ
  rw [show rowV (joinP []) = .agg #[.string (str []), .string (str [])] from rfl] at HN
  generalize t.zip m ++ t2.zip m2 = J at *
  generalize ofS s c = O at *
  generalize bareS (t.zip m) = Q at *
  unfold rowV at HJ HK HO HP
  go_wp2_with fail
  refine Rg.wp_region_rgl [] (Rg.Is (.agg #[.string (str t), .string (str m)]) :: Rg.Is (.agg #[.string (str t2), .string (str m2)]) :: (fun v x => ∃ ad, v = .slice ad 2 2 ∧ SPairs x ad 2 2 [(t, m), (t2, m2)]) :: Rg.Is (.agg #[.string (str (textS J)), .string (str (maskS J))]) :: Rg.Is (.agg #[.string (str (textS J)), .string (str (maskS J))]) :: Rg.Is (.agg #[.string (str t), .string (str m)]) :: Rg.Is (.agg #[.string (str t), .string (str m)]) :: Rg.Is (.agg #[.string (str t2), .string (str m2)]) :: Rg.Is (.agg #[.string (str t2), .string (str m2)]) :: Rg.Is (.agg #[.string (str (textS J)), .string (str (maskS J))]) :: Rg.Is (.bool true) :: Rg.Is (.bool true) :: Rg.Is (.string (str s)) :: Rg.Is (.int .u8 (c.toNat : Int)) :: Rg.Is (.agg #[.string (str (textS O)), .string (str (maskS O))]) :: Rg.Is (.agg #[.string (str (textS O)), .string (str (maskS O))]) :: Rg.Is (.string (str s)) :: Rg.Is (.int .u8 (c.toNat : Int)) :: Rg.Is (.agg #[.string (str (textS O)), .string (str (maskS O))]) :: Rg.Is (.bool true) :: Rg.Is (.bool true) :: Rg.Is (.bool true) :: Rg.Is (.agg #[.string (str t), .string (str m)]) :: Rg.Is (.string (str Q)) :: Rg.Is (.agg #[.string (str t), .string (str m)]) :: Rg.Is (.agg #[.string (str t), .string (str m)]) :: Rg.Is (.string (str Q)) :: Rg.Is (.bool true) :: Rg.Is (.bool true) :: Rg.Is (.bool true) :: Rg.Is (.agg #[.string (str []), .string (str [])]) :: Rg.Is (.agg #[.string (str []), .string (str [])]) :: Rg.Is (.bool true) :: Rg.Is (.bool true) :: Rg.Is (.bool true) :: []) ?_ ?_ ?_ ?_ ?_ ?_ ?_
  · kernel_rfl
  · kernel_rfl
  · kernel_rfl
  · exact ⟨Rg.st_is _, Rg.st_is _, fun v w w' h hb => h.elim fun ad h => ⟨ad, h.1, h.2.below (Ap.stable_cellsAt pairC) hb⟩, Rg.st_is _, Rg.st_is _, Rg.st_is _, Rg.st_is _, Rg.st_is _, Rg.st_is _, Rg.st_is _, Rg.st_is _, Rg.st_is _, Rg.st_is _, Rg.st_is _, Rg.st_is _, Rg.st_is _, Rg.st_is _, Rg.st_is _, Rg.st_is _, Rg.st_is _, Rg.st_is _, Rg.st_is _, Rg.st_is _, Rg.st_is _, Rg.st_is _, Rg.st_is _, Rg.st_is _, Rg.st_is _, Rg.st_is _, Rg.st_is _, Rg.st_is _, Rg.st_is _, Rg.st_is _, Rg.st_is _, Rg.st_is _, trivial⟩
  · exact ⟨rfl, rfl, rfl, rfl, rfl, rfl, rfl, rfl, rfl, rfl, rfl, rfl, ⟨rfl, fun _ _ h => h⟩, ⟨rfl, fun _ _ h => h⟩, ⟨rfl, fun _ _ h => h⟩, ⟨rfl, fun _ _ h => h⟩, ⟨rfl, fun _ _ h => h⟩, ⟨rfl, fun _ _ h => h⟩, ⟨rfl, fun _ _ h => h⟩, ⟨rfl, fun _ _ h => h⟩, rfl, rfl, ⟨rfl, fun _ _ h => h⟩, ⟨rfl, fun _ _ h => h⟩, ⟨rfl, fun _ _ h => h⟩, ⟨rfl, fun _ _ h => h⟩, ⟨rfl, fun _ _ h => h⟩, ⟨rfl, fun _ _ h => h⟩, rfl, rfl, ⟨rfl, fun _ _ h => h⟩, ⟨rfl, fun _ _ h => h⟩, ⟨rfl, fun _ _ h => h⟩, rfl, rfl, trivial⟩
  · refine ⟨?_, ?_, ?_, ?_, ?_, ?_, ?_, ?_, ?_, ?_, ?_, ?_, ?_, ?_, ?_, ?_, ?_, ?_, ?_, ?_, ?_, ?_, ?_, ?_, ?_, ?_, ?_, ?_, ?_, ?_, ?_, ?_, ?_, ?_, ?_, trivial⟩
    · intro _ a wx hb hk
      have h4 : a.eval (.tmp 4) = .pointer (some ⟨w.heap.size, 0, none⟩) := Eq.mp (by kernel_rfl) (hk 4 (by decide))
      exact Rg.does_load _ _ h4 (load_row (cell_below hb (Nat.le_refl _) c0) (cell_below hb (Nat.le_refl _) c1)) ⟨Below.refl _ _, rfl⟩
    · intro _ a wx hb hk
      have h5 : a.eval (.tmp 5) = .pointer (some ⟨w.heap.size + 1, 0, none⟩) := Eq.mp (by kernel_rfl) (hk 5 (by decide))
      exact Rg.does_load _ _ h5 (load_row (cell_below hb (Nat.le_refl _) c2) (cell_below hb (Nat.le_refl _) c3)) ⟨Below.refl _ _, rfl⟩
    · intro _ a wx hb hk
      have h40 : a.eval (.tmp 40) = .agg #[.string (str t), .string (str m)] := Eq.mp (by kernel_rfl) (hk 40 (by decide))
      have h41 : a.eval (.tmp 41) = .agg #[.string (str t2), .string (str m2)] := Eq.mp (by kernel_rfl) (hk 41 (by decide))
      refine Rg.does_build (w' := wx.alloc (.cells #[.string (str t), .string (str m), .string (str t2), .string (str m2)] 23)) #[(0, .agg #[.string (str t), .string (str m)]), (1, .agg #[.string (str t2), .string (str m2)])] (.slice (some ⟨wx.heap.size, 0, none⟩) 2 2) (by simp [h40, h41]) (by simp [go_sem]) ⟨(Below.refl _ _).alloc (Nat.le_refl _) _, _, rfl, pairs_lit wx [(t, m), (t2, m2)] 23 (by show 2 ≤ maxLen; decide)⟩
    · intro _ a wx hb hk
      have h42 : (fun v x => ∃ ad, v = .slice ad 2 2 ∧ SPairs x ad 2 2 [(t, m), (t2, m2)]) (a.eval (.tmp 42)) wx := Eq.mp (by kernel_rfl) (hk 42 (by decide))
      obtain ⟨ad, h42, hs⟩ := h42
      refine Rg.does_func #[.slice ad 2 2] Try.func12 (by kernel_rfl) (by kernel_rfl) (by simp [h42]) (HJ.out wx ad hs) ?_
      rintro e w' ⟨rfl, hb'⟩
      exact ⟨_, rfl, hb', rfl⟩
    · intro _ a wx hb hk
      have h43 : a.eval (.tmp 43) = .agg #[.string (str (textS J)), .string (str (maskS J))] := Eq.mp (by kernel_rfl) (hk 43 (by decide))
      refine Rg.does_func #[.agg #[.string (str (textS J)), .string (str (maskS J))]] Try.func11 (by kernel_rfl) (by kernel_rfl) (by simp [h43]) (of_calls wx (str (textS J)) (str (maskS J))) ?_
      rintro e w' ⟨rfl, hb'⟩
      exact ⟨_, rfl, hb', rfl⟩
    · intro _ a wx hb hk
      have h4 : a.eval (.tmp 4) = .pointer (some ⟨w.heap.size, 0, none⟩) := Eq.mp (by kernel_rfl) (hk 4 (by decide))
      exact Rg.does_load _ _ h4 (load_row (cell_below hb (Nat.le_refl _) c0) (cell_below hb (Nat.le_refl _) c1)) ⟨Below.refl _ _, rfl⟩
    · intro _ a wx hb hk
      have h45 : a.eval (.tmp 45) = .agg #[.string (str t), .string (str m)] := Eq.mp (by kernel_rfl) (hk 45 (by decide))
      refine Rg.does_func #[.agg #[.string (str t), .string (str m)]] Try.func11 (by kernel_rfl) (by kernel_rfl) (by simp [h45]) (of_calls wx (str t) (str m)) ?_
      rintro e w' ⟨rfl, hb'⟩
      exact ⟨_, rfl, hb', rfl⟩
    · intro _ a wx hb hk
      have h5 : a.eval (.tmp 5) = .pointer (some ⟨w.heap.size + 1, 0, none⟩) := Eq.mp (by kernel_rfl) (hk 5 (by decide))
      exact Rg.does_load _ _ h5 (load_row (cell_below hb (Nat.le_refl _) c2) (cell_below hb (Nat.le_refl _) c3)) ⟨Below.refl _ _, rfl⟩
    · intro _ a wx hb hk
      have h47 : a.eval (.tmp 47) = .agg #[.string (str t2), .string (str m2)] := Eq.mp (by kernel_rfl) (hk 47 (by decide))
      refine Rg.does_func #[.agg #[.string (str t2), .string (str m2)]] Try.func11 (by kernel_rfl) (by kernel_rfl) (by simp [h47]) (of_calls wx (str t2) (str m2)) ?_
      rintro e w' ⟨rfl, hb'⟩
      exact ⟨_, rfl, hb', rfl⟩
    · intro _ a wx hb hk
      have h46 : a.eval (.tmp 46) = .agg #[.string (str t), .string (str m)] := Eq.mp (by kernel_rfl) (hk 46 (by decide))
      have h48 : a.eval (.tmp 48) = .agg #[.string (str t2), .string (str m2)] := Eq.mp (by kernel_rfl) (hk 48 (by decide))
      refine Rg.does_func #[.agg #[.string (str t), .string (str m)], .agg #[.string (str t2), .string (str m2)]] Try.func13 (by kernel_rfl) (by kernel_rfl) (by simp [h46, h48]) (HK.out wx) ?_
      rintro e w' ⟨rfl, hb'⟩
      exact ⟨_, rfl, hb', rfl⟩
    · intro _ a wx hb hk
      have h44 : a.eval (.tmp 44) = .agg #[.string (str (textS J)), .string (str (maskS J))] := Eq.mp (by kernel_rfl) (hk 44 (by decide))
      have h49 : a.eval (.tmp 49) = .agg #[.string (str (textS J)), .string (str (maskS J))] := Eq.mp (by kernel_rfl) (hk 49 (by decide))
      exact does_bin_agg _ _ _ h44 h49 (by kernel_rfl) (eql_ref _ _ wx) ⟨Below.refl _ _, rfl⟩
    · intro _ a wx hb hk
      have h50 : a.eval (.tmp 50) = .bool true := Eq.mp (by kernel_rfl) (hk 50 (by decide))
      exact Rg.does_move ⟨Below.refl _ _, h50⟩
    · intro _ a wx hb hk
      have h2 : a.eval (.tmp 2) = .string (str s) := Eq.mp (by kernel_rfl) (hk 2 (by decide))
      exact Rg.does_move ⟨Below.refl _ _, h2⟩
    · intro _ a wx hb hk
      have h3 : a.eval (.tmp 3) = .int .u8 (c.toNat : Int) := Eq.mp (by kernel_rfl) (hk 3 (by decide))
      exact Rg.does_move ⟨Below.refl _ _, h3⟩
    · intro _ a wx hb hk
      have h52 : a.eval (.tmp 52) = .string (str s) := Eq.mp (by kernel_rfl) (hk 52 (by decide))
      have h53 : a.eval (.tmp 53) = .int .u8 (c.toNat : Int) := Eq.mp (by kernel_rfl) (hk 53 (by decide))
      refine Rg.does_func #[.string (str s), .int .u8 (c.toNat : Int)] Try.func14 (by kernel_rfl) (by kernel_rfl) (by simp [h52, h53]) (HO.out wx) ?_
      rintro e w' ⟨rfl, hb'⟩
      exact ⟨_, rfl, hb', rfl⟩
    · intro _ a wx hb hk
      have h54 : a.eval (.tmp 54) = .agg #[.string (str (textS O)), .string (str (maskS O))] := Eq.mp (by kernel_rfl) (hk 54 (by decide))
      refine Rg.does_func #[.agg #[.string (str (textS O)), .string (str (maskS O))]] Try.func11 (by kernel_rfl) (by kernel_rfl) (by simp [h54]) (of_calls wx (str (textS O)) (str (maskS O))) ?_
      rintro e w' ⟨rfl, hb'⟩
      exact ⟨_, rfl, hb', rfl⟩
    · intro _ a wx hb hk
      have h2 : a.eval (.tmp 2) = .string (str s) := Eq.mp (by kernel_rfl) (hk 2 (by decide))
      exact Rg.does_move ⟨Below.refl _ _, h2⟩
    · intro _ a wx hb hk
      have h3 : a.eval (.tmp 3) = .int .u8 (c.toNat : Int) := Eq.mp (by kernel_rfl) (hk 3 (by decide))
      exact Rg.does_move ⟨Below.refl _ _, h3⟩
    · intro _ a wx hb hk
      have h56 : a.eval (.tmp 56) = .string (str s) := Eq.mp (by kernel_rfl) (hk 56 (by decide))
      have h57 : a.eval (.tmp 57) = .int .u8 (c.toNat : Int) := Eq.mp (by kernel_rfl) (hk 57 (by decide))
      refine Rg.does_func #[.string (str s), .int .u8 (c.toNat : Int)] Try.func15 (by kernel_rfl) (by kernel_rfl) (by simp [h56, h57]) (HP.out wx) ?_
      rintro e w' ⟨rfl, hb'⟩
      exact ⟨_, rfl, hb', rfl⟩
    · intro _ a wx hb hk
      have h55 : a.eval (.tmp 55) = .agg #[.string (str (textS O)), .string (str (maskS O))] := Eq.mp (by kernel_rfl) (hk 55 (by decide))
      have h58 : a.eval (.tmp 58) = .agg #[.string (str (textS O)), .string (str (maskS O))] := Eq.mp (by kernel_rfl) (hk 58 (by decide))
      exact does_bin_agg _ _ _ h55 h58 (by kernel_rfl) (eql_ref _ _ wx) ⟨Below.refl _ _, rfl⟩
    · intro _ a wx hb hk
      have h51 : a.eval (.tmp 51) = .bool true := Eq.mp (by kernel_rfl) (hk 51 (by decide))
      have h59 : a.eval (.tmp 59) = .bool true := Eq.mp (by kernel_rfl) (hk 59 (by decide))
      exact Rg.does_pick true h51 ⟨Below.refl _ _, h59⟩
    · intro _ a wx hb hk
      have h60 : a.eval (.tmp 60) = .bool true := Eq.mp (by kernel_rfl) (hk 60 (by decide))
      exact Rg.does_move ⟨Below.refl _ _, h60⟩
    · intro _ a wx hb hk
      have h4 : a.eval (.tmp 4) = .pointer (some ⟨w.heap.size, 0, none⟩) := Eq.mp (by kernel_rfl) (hk 4 (by decide))
      exact Rg.does_load _ _ h4 (load_row (cell_below hb (Nat.le_refl _) c0) (cell_below hb (Nat.le_refl _) c1)) ⟨Below.refl _ _, rfl⟩
    · intro _ a wx hb hk
      have h62 : a.eval (.tmp 62) = .agg #[.string (str t), .string (str m)] := Eq.mp (by kernel_rfl) (hk 62 (by decide))
      refine Rg.does_func #[.agg #[.string (str t), .string (str m)]] Try.func16 (by kernel_rfl) (by kernel_rfl) (by simp [h62]) (HBa.out wx) ?_
      rintro e w' ⟨rfl, hb'⟩
      exact ⟨_, rfl, hb', rfl⟩
    · intro _ a wx hb hk
      have h4 : a.eval (.tmp 4) = .pointer (some ⟨w.heap.size, 0, none⟩) := Eq.mp (by kernel_rfl) (hk 4 (by decide))
      exact Rg.does_load _ _ h4 (load_row (cell_below hb (Nat.le_refl _) c0) (cell_below hb (Nat.le_refl _) c1)) ⟨Below.refl _ _, rfl⟩
    · intro _ a wx hb hk
      have h64 : a.eval (.tmp 64) = .agg #[.string (str t), .string (str m)] := Eq.mp (by kernel_rfl) (hk 64 (by decide))
      refine Rg.does_func #[.agg #[.string (str t), .string (str m)]] Try.func11 (by kernel_rfl) (by kernel_rfl) (by simp [h64]) (of_calls wx (str t) (str m)) ?_
      rintro e w' ⟨rfl, hb'⟩
      exact ⟨_, rfl, hb', rfl⟩
    · intro _ a wx hb hk
      have h65 : a.eval (.tmp 65) = .agg #[.string (str t), .string (str m)] := Eq.mp (by kernel_rfl) (hk 65 (by decide))
      refine Rg.does_func #[.agg #[.string (str t), .string (str m)]] Try.func17 (by kernel_rfl) (by kernel_rfl) (by simp [h65]) (HRb.out wx) ?_
      rintro e w' ⟨rfl, hb'⟩
      exact ⟨_, rfl, hb', rfl⟩
    · intro _ a wx hb hk
      have h63 : a.eval (.tmp 63) = .string (str Q) := Eq.mp (by kernel_rfl) (hk 63 (by decide))
      have h66 : a.eval (.tmp 66) = .string (str Q) := Eq.mp (by kernel_rfl) (hk 66 (by decide))
      exact Rg.does_same_string _ h63 h66 ⟨Below.refl _ _, rfl⟩
    · intro _ a wx hb hk
      have h61 : a.eval (.tmp 61) = .bool true := Eq.mp (by kernel_rfl) (hk 61 (by decide))
      have h67 : a.eval (.tmp 67) = .bool true := Eq.mp (by kernel_rfl) (hk 67 (by decide))
      exact Rg.does_pick true h61 ⟨Below.refl _ _, h67⟩
    · intro _ a wx hb hk
      have h68 : a.eval (.tmp 68) = .bool true := Eq.mp (by kernel_rfl) (hk 68 (by decide))
      exact Rg.does_move ⟨Below.refl _ _, h68⟩
    · intro _ a wx hb hk
      refine Rg.does_func #[.slice none 0 0] Try.func12 (by kernel_rfl) (by kernel_rfl) (by simp; rfl) (HN.out wx) ?_
      rintro e w' ⟨rfl, hb'⟩
      exact ⟨_, rfl, hb', rfl⟩
    · intro _ a wx hb hk
      exact does_buildS #[] _ (by simp) (build_row0 wx) ⟨Below.refl _ _, rfl⟩
    · intro _ a wx hb hk
      have h70 : a.eval (.tmp 70) = .agg #[.string (str []), .string (str [])] := Eq.mp (by kernel_rfl) (hk 70 (by decide))
      have h71 : a.eval (.tmp 71) = .agg #[.string (str []), .string (str [])] := Eq.mp (by kernel_rfl) (hk 71 (by decide))
      exact does_bin_agg _ _ _ h70 h71 (by kernel_rfl) (eql_row _ _ wx) ⟨Below.refl _ _, rfl⟩
    · intro _ a wx hb hk
      have h69 : a.eval (.tmp 69) = .bool true := Eq.mp (by kernel_rfl) (hk 69 (by decide))
      have h72 : a.eval (.tmp 72) = .bool true := Eq.mp (by kernel_rfl) (hk 72 (by decide))
      exact Rg.does_pick true h69 ⟨Below.refl _ _, h72⟩
    · intro _ a wx hb hk
      have h73 : a.eval (.tmp 73) = .bool true := Eq.mp (by kernel_rfl) (hk 73 (by decide))
      exact Rg.does_assign ⟨Below.refl _ _, h73⟩
  intro vals wD hbD hL
  obtain ⟨g0, g1, g2, g3, g4, g5, g6, g7, g8, g9, g10, g11, g12, g13, g14, g15, g16, g17, g18, g19, g20, g21, g22, g23, g24, g25, g26, g27, g28, g29, g30, g31, g32, g33, g34, _⟩ := hL
  have g34' : vals 34 = .bool true := g34
  have HBD := Lib.hid hbD
  clear g0 g1 g2 g3 g4 g5 g6 g7 g8 g9 g10 g11 g12 g13 g14 g15 g16 g17 g18 g19 g20 g21 g22 g23 g24 g25 g26 g27 g28 g29 g30 g31 g32 g33 g34 hbD
  simp only [Rg.putAll, List.setIfInBounds_toArray, List.set_cons_succ, List.set_cons_zero, g34']
  clear g34'
  go_wp2_with fail
  go_ret
  exact ⟨rfl, HB2.out.trans (HBD.out.mono HB2.out.size)⟩
end Go.Proofs.Ytiemlgfcmldnoaa
