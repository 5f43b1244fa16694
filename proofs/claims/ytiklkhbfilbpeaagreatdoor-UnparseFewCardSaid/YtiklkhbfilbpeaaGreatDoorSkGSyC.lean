/-
  Syntax: whether a function's name is next, which compound is. Conditions: as each contract says.
  Syntax: a redirection. Conditions: as each contract says.
  Syntax: a node is put behind. Conditions: as each contract says.
-/
import Derived.Test.YtiklkhbfilbpeaaGreatDoorSkGSyB
import Derived.Test.YtiklkhbfilbpeaaGreatDoorSkLxOne
import Derived.MapKept
import Derived.Test.YtiklkhbfilbpeaaGreatDoorShelf
import Derived.Lib.AtoiAll
import Derived.Test.YtiklkhbfilbpeaaGreatDoorSkAppendAt
set_option linter.unusedVariables false
set_option linter.unusedSimpArgs false
set_option maxRecDepth 100000
namespace Go.Proofs.YtiklkhbfilbpeaaGreatDoor.Sx
open Go.RowKit Base Lx Sy
theorem str_beq (x y : Nm) : (str x == str y) = decide (x = y) := by
  show ByteArray.beq _ _ = _
  unfold ByteArray.beq str
  rw [Bool.eq_iff_iff]
  simp
abbrev cmT : TypeId := 157
theorem und_cm : Tryz.prog.underlying cmT = some (.map stT 143) := by rfl
theorem check_st (e : Bool) (c : ByteArray) (w : World) : (Instr.checkKey e 10000 stT (.string c)).run Tryz.prog w = .ok () w := MapKept.run_checkKey (n := 9999) (k := .string c) Tryz.underlying9 trivial e
/-- A text's value in a table. -/
def lookS (x : Nm) : List (Nm × Value) → Option Value
  | [] => none
  | p :: r => if x = p.1 then some p.2 else lookS x r
def entS (l : List (Nm × Value)) (es : List MapEntry) : Prop := es.map (fun e => (e.key, e.val)) = l.map fun p => (Value.string (str p.1), p.2)
theorem find_str (x : Nm) : ∀ (l : List (Nm × Value)) (es : List MapEntry) (i : Nat), entS l es → ∃ r, Instr.findNow .string (.string (str x)) es i = some r ∧ r.map (·.2) = lookS x l
  | [], es, i, h => by
    have : es = [] := by simpa [entS] using h
    subst this
    exact ⟨none, rfl, rfl⟩
  | p :: r, es, i, h => by
    cases es with
    | nil => exact absurd h (by simp [entS])
    | cons e es =>
      unfold entS at h
      rw [List.map_cons, List.map_cons] at h
      injection h with h1 h2
      injection h1 with h1 h3
      obtain ⟨q, hq1, hq2⟩ := find_str x r es (i + 1) h2
      unfold Instr.findNow lookS
      rw [h1]
      unfold Instr.sameNow
      simp only
      rw [str_beq]
      by_cases hx : x = p.1
      · rw [decide_eq_true hx, if_pos hx]
        exact ⟨_, rfl, by rw [← h3]; rfl⟩
      · rw [decide_eq_false hx, if_neg hx]
        exact ⟨q, hq1, hq2⟩
def lkV : Option Value → Value
  | some f => .tuple #[f, .bool true]
  | none => .tuple #[.nilFunc, .bool false]
/-- A table of texts in block m. -/
def TabAt (w : World) (m : Nat) (l : List (Nm × Value)) : Prop := ∃ es c, w.heap[m]? = some (.map es c) ∧ entS l es.toList
theorem tab_put {w : World} {m : Nat} {l : List (Nm × Value)} (h : TabAt w m l) (k : Nm) (v : Value) (hk : lookS k l = none) : ∃ w', (Instr.mapUpdate cmT (.map (some m)) (.string (str k)) v).run Tryz.prog w = .ok () w' ∧ TabAt w' m (l ++ [(k, v)]) ∧ w.grownBy w' (some m) ∧ w'.heap.size = w.heap.size := by
  obtain ⟨es, c, h1, h2⟩ := h
  obtain ⟨r, hr1, hr2⟩ := find_str k l es.toList 0 h2
  have hr : r = none := by
    cases r with
    | none => rfl
    | some q => rw [hk] at hr2; cases hr2
  subst hr
  refine ⟨putM w m (es.push { key := .string (str k), val := v, born := c }) (c + 1), ?_, ⟨_, _, putM_at h1, ?_⟩, putM_grown, by simp [putM]⟩
  · simp [Instr.mapUpdate, run_underlying und_cm, MapKept.run_getObj_map h1, check_st, Instr.findKey, run_underlying Tryz.underlying9, hr1, MapKept.run_setObj_map _ h1, Result.andThen, putM]
  · unfold entS at h2 ⊢
    simp [h2]
theorem tab_look {w : World} {m : Nat} {l : List (Nm × Value)} (h : TabAt w m l) (k : Nm) : (Instr.lookup cmT (.map (some m)) (.string (str k)) true).run Tryz.prog w = .ok (lkV (lookS k l)) w := by
  obtain ⟨es, c, h1, h2⟩ := h
  obtain ⟨r, hr1, hr2⟩ := find_str k l es.toList 0 h2
  rw [← hr2]
  have hz : (zeroValue 143).run Tryz.prog w = .ok .nilFunc w := by rfl
  cases r with
  | none => simp [Instr.lookup, run_underlying und_cm, MapKept.run_getObj_map h1, check_st, Instr.findKey, run_underlying Tryz.underlying9, hr1, hz, Result.andThen, lkV]
  | some x => simp [Instr.lookup, run_underlying und_cm, MapKept.run_getObj_map h1, check_st, Instr.findKey, run_underlying Tryz.underlying9, hr1, Result.andThen, lkV]
abbrev fnV (f : FuncId) : Value := .func (.func f) #[] #[]
abbrev compTab : List (Nm × Value) := [([123], fnV 125), ([105, 102], fnV 126), ([119, 104, 105, 108, 101], fnV 127), ([117, 110, 116, 105, 108], fnV 127), ([102, 111, 114], fnV 128), ([99, 97, 115, 101], fnV 129)]
theorem six_map (w : World) : ∃ w1 w2 w3 w4 w5 w6, (Instr.mapUpdate cmT (.map (some w.heap.size)) (.string ⟨#[123]⟩) (fnV 125)).run Tryz.prog (w.alloc (.map #[] 0)) = .ok () w1 ∧ (Instr.mapUpdate cmT (.map (some w.heap.size)) (.string ⟨#[105, 102]⟩) (fnV 126)).run Tryz.prog w1 = .ok () w2 ∧ (Instr.mapUpdate cmT (.map (some w.heap.size)) (.string ⟨#[119, 104, 105, 108, 101]⟩) (fnV 127)).run Tryz.prog w2 = .ok () w3 ∧ (Instr.mapUpdate cmT (.map (some w.heap.size)) (.string ⟨#[117, 110, 116, 105, 108]⟩) (fnV 127)).run Tryz.prog w3 = .ok () w4 ∧ (Instr.mapUpdate cmT (.map (some w.heap.size)) (.string ⟨#[102, 111, 114]⟩) (fnV 128)).run Tryz.prog w4 = .ok () w5 ∧ (Instr.mapUpdate cmT (.map (some w.heap.size)) (.string ⟨#[99, 97, 115, 101]⟩) (fnV 129)).run Tryz.prog w5 = .ok () w6 ∧ Below w.heap.size w w6 ∧ TabAt w6 w.heap.size compTab := by
  have h0 : TabAt (w.alloc (.map #[] 0)) w.heap.size [] := ⟨#[], 0, (MapKept.heap_alloc w _).1, rfl⟩
  have hb0 := (Below.refl w.heap.size w).alloc (Nat.le_refl _) (.map #[] 0)
  have hz0 : w.heap.size ≤ (w.alloc (.map #[] 0)).heap.size := by rw [World.size_alloc]; omega
  obtain ⟨w1, u1, h1, g1, z1⟩ := tab_put h0 [123] (fnV 125) (by rfl)
  have hb1 := hb0.grown g1 hz0 (fun j hj => by obtain rfl := Option.some.inj hj; exact Nat.le_refl _)
  have hz1 : w.heap.size ≤ w1.heap.size := by omega
  obtain ⟨w2, u2, h2, g2, z2⟩ := tab_put h1 [105, 102] (fnV 126) (by rfl)
  have hb2 := hb1.grown g2 hz1 (fun j hj => by obtain rfl := Option.some.inj hj; exact Nat.le_refl _)
  have hz2 : w.heap.size ≤ w2.heap.size := by omega
  obtain ⟨w3, u3, h3, g3, z3⟩ := tab_put h2 [119, 104, 105, 108, 101] (fnV 127) (by rfl)
  have hb3 := hb2.grown g3 hz2 (fun j hj => by obtain rfl := Option.some.inj hj; exact Nat.le_refl _)
  have hz3 : w.heap.size ≤ w3.heap.size := by omega
  obtain ⟨w4, u4, h4, g4, z4⟩ := tab_put h3 [117, 110, 116, 105, 108] (fnV 127) (by rfl)
  have hb4 := hb3.grown g4 hz3 (fun j hj => by obtain rfl := Option.some.inj hj; exact Nat.le_refl _)
  have hz4 : w.heap.size ≤ w4.heap.size := by omega
  obtain ⟨w5, u5, h5, g5, z5⟩ := tab_put h4 [102, 111, 114] (fnV 128) (by rfl)
  have hb5 := hb4.grown g5 hz4 (fun j hj => by obtain rfl := Option.some.inj hj; exact Nat.le_refl _)
  have hz5 : w.heap.size ≤ w5.heap.size := by omega
  obtain ⟨w6, u6, h6, g6, z6⟩ := tab_put h5 [99, 97, 115, 101] (fnV 129) (by rfl)
  have hb6 := hb5.grown g6 hz5 (fun j hj => by obtain rfl := Option.some.inj hj; exact Nat.le_refl _)
  have hz6 : w.heap.size ≤ w6.heap.size := by omega
  exact ⟨w1, w2, w3, w4, w5, w6, u1, u2, u3, u4, u5, u6, hb6, h6⟩
/-- Which compound is next. -/
def compVal (s : S) : Value := if isM 2 [[40]] s = true then fnV 130 else (lookS (nx s).t compTab).getD .nilFunc
theorem look_contains (x : Nm) : ∀ l : List (Nm × Value), (lookS x l).isSome = (l.map (·.1)).contains x
  | [] => rfl
  | p :: r => by
    unfold lookS
    rw [List.map_cons, List.contains_cons]
    by_cases h : x = p.1
    · subst h; simp
    · rw [if_neg h, look_contains x r, beq_eq_false_iff_ne.2 h, Bool.false_or]
set_option maxHeartbeats 4000000 in
theorem compounds_calls (W : World) (b B : Nat) (P : Nat → Prop) (v : Value) (s : S) (d : Nat) (h : Rd W b B P v s d) : Calls Tryz.prog 110 #[.pointer (some ⟨b, 0, none⟩)] W fun r W' => r = .returned (.tuple #[compVal s, .bool (isComp s)]) ∧ Below W.heap.size W W' := by
  obtain ⟨w1, w2, w3, w4, w5, w6, u1, u2, u3, u4, u5, u6, hbm, htab⟩ := six_map W
  have HR := Lib.hid (h.below hbm)
  have HB := Lib.hid hbm
  have HL := Lib.hid (tab_look htab (nx s).t)
  have HTab := Lib.hid htab
  obtain ⟨m, hm⟩ : ∃ m, W.heap.size = m := ⟨_, rfl⟩
  obtain ⟨V, hV⟩ : ∃ V, compVal s = V := ⟨_, rfl⟩
  obtain ⟨z, hz⟩ : ∃ z, isComp s = z := ⟨_, rfl⟩
  have HV := Lib.hid hV
  have HZ := Lib.hid hz
  have HM := Lib.hid hm
  rw [hV, hz]
  rw [hm] at HL HTab
  clear h hbm htab hV hz
  have mk : (Instr.makeMap cmT none).run Tryz.prog W = .ok (.map (some m)) (W.alloc (.map #[] 0)) := by rw [← hm]; exact run_makeMap _ W
  simp only [hm] at u1 u2 u3 u4 u5 u6
  clear hm
  go_enter Tryz.func110, Tryz.ntmps110
  go_wp2_with fail
  refine (is_lit w6 b B P v s d HR.out 2 [[40]] (by decide)).mono ?_
  rintro r w7 ⟨rfl, hb7⟩
  have HR7 := Lib.hid (HR.out.below ((Below.refl _ _).trans hb7))
  have HB7 := Lib.hid (HB.out.trans (hb7.mono HB.out.size))
  have hT7 : TabAt w7 m compTab := by
    obtain ⟨es, c, h1, h2⟩ := HTab.out
    exact ⟨es, c, (hb7.block m (Array.getElem?_eq_some_iff.1 h1).1).trans h1, h2⟩
  have HT7 := Lib.hid hT7
  obtain ⟨t, ht⟩ : ∃ t, nx s = t := ⟨_, rfl⟩
  have HT := Lib.hid ht
  clear hb7 hT7 u1 u2 u3 u4 u5 u6 mk ht
  obtain ⟨y, hy⟩ : ∃ y, isM 2 [[40]] s = y := ⟨_, rfl⟩
  have HY := Lib.hid hy
  rw [hy]
  clear hy
  cases y with
  | true =>
    have HF : Hid (V = fnV 130 ∧ z = true) := ⟨by rw [← HV.out]; unfold compVal; rw [if_pos HY.out], by rw [← HZ.out]; unfold isComp; rw [show isM 2 [[40]] s = true from HY.out]; rfl⟩
    go_wp2_with fail
    refine bodyPost_ret (v := .tuple #[fnV 130, .bool true]) (by simp [results, Tryz.results110, go_sem]) rfl ?_
    exact ⟨by rw [HF.out.1, HF.out.2], HB7.out⟩
  | false =>
    have F0 := fld_tkV0 t
    have F1 := fld_tkV1 t
    have hlk := fun w' (hw' : TabAt w' m compTab) => tab_look hw' t.t
    obtain ⟨o, ho⟩ : ∃ o, lookS t.t compTab = o := ⟨_, rfl⟩
    have hz2 : z = (o.isSome && decide (t.k = 1)) := by
      rw [← HZ.out, ← ho, look_contains]
      unfold isComp
      rw [show isM 2 [[40]] s = false from HY.out, HT.out, Bool.false_or]
      rfl
    have hv2 : V = o.getD .nilFunc := by
      rw [← HV.out, ← ho]
      unfold compVal
      rw [show isM 2 [[40]] s = false from HY.out, HT.out, if_neg (by decide)]
    rw [ho] at hlk
    have HLk := Lib.hid hlk
    have HZ2 := Lib.hid hz2
    have HV2 := Lib.hid hv2
    clear hlk ho hz2 hv2
    go_wp2_with fail
    refine (next_calls w7 b B P v s d HR7.out).mono ?_
    rintro r w8 ⟨rfl, hb8⟩
    rw [show nx s = t from HT.out]
    have HR8 := Lib.hid (HR7.out.below hb8)
    have HB8 := Lib.hid (HB7.out.trans (hb8.mono HB7.out.size))
    have hl8 : TabAt w8 m compTab := by
      obtain ⟨es, c, h1, h2⟩ := HT7.out
      exact ⟨es, c, (hb8.block m (Array.getElem?_eq_some_iff.1 h1).1).trans h1, h2⟩
    have hlk8 := HLk.out w8 hl8
    clear hb8 hl8
    cases o with
    | none =>
      have HF : Hid (V = .nilFunc ∧ z = false) := ⟨HV2.out, HZ2.out⟩
      have hlk9 : (Instr.lookup cmT (.map (some m)) (.string (str t.t)) true).run Tryz.prog w8 = .ok (.tuple #[.nilFunc, .bool false]) w8 := hlk8
      clear hlk8
      go_wp2_with fail
      refine bodyPost_ret (v := .tuple #[.nilFunc, .bool false]) (by simp [results, Tryz.results110, go_sem]) rfl ?_
      exact ⟨by rw [HF.out.1, HF.out.2], HB8.out⟩
    | some f =>
      have HF : Hid (V = f ∧ z = decide (t.k = 1)) := ⟨HV2.out, by rw [HZ2.out]; rfl⟩
      have hlk9 : (Instr.lookup cmT (.map (some m)) (.string (str t.t)) true).run Tryz.prog w8 = .ok (.tuple #[f, .bool true]) w8 := hlk8
      clear hlk8
      go_wp2_with fail
      refine (next_calls w8 b B P v s d HR8.out).mono ?_
      rintro r w9 ⟨rfl, hb9⟩
      rw [show nx s = t from HT.out]
      have HB9 := Lib.hid (HB8.out.trans (hb9.mono HB8.out.size))
      clear hb9
      have e1 := nat_beq t.k 1
      obtain ⟨y, hy⟩ : ∃ y, decide (t.k = 1) = y := ⟨_, rfl⟩
      rw [hy] at HF e1
      have e1 : ((t.k : Int) == 1) = y := e1
      have e3 : decide ((t.k : Int) = 1) = y := by rw [← hy]; simp; omega
      clear hy
      go_wp2_with fail
      refine bodyPost_ret (v := .tuple #[f, .bool y]) (by simp [results, Tryz.results110, go_sem]) rfl ?_
      exact ⟨by rw [HF.out.1, HF.out.2], HB9.out⟩
set_option maxHeartbeats 4000000 in
theorem names_calls (W : World) (b B : Nat) (P : Nat → Prop) (v : Value) (s : S) (d : Nat) (h : Rd W b B P v s d) : Calls Tryz.prog 111 #[.pointer (some ⟨b, 0, none⟩)] W (isPost W (names s)) := by
  have HC := Lib.hid (next_calls W b B P v s d h)
  have HR := Lib.hid h
  obtain ⟨t, ht⟩ : ∃ t, nx s = t := ⟨_, rfl⟩
  have HT := Lib.hid ht
  rw [ht] at HC
  obtain ⟨z, hz⟩ : ∃ z, names s = z := ⟨_, rfl⟩
  have HZ := Lib.hid hz
  rw [hz]
  clear ht hz h
  have F0 := fld_tkV0 t
  have F1 := fld_tkV1 t
  go_enter Tryz.func111, Tryz.ntmps111
  go_wp2_with fail
  refine HC.out.mono ?_
  rintro r w2 ⟨rfl, hb⟩
  have HR2 := Lib.hid (HR.out.below hb)
  have HB2 := Lib.hid hb
  clear hb
  by_cases hk : t.k = 1
  case neg =>
    have e1 : ((t.k : Int) == 1) = false := by simp; omega
    have e3 : decide ((t.k : Int) = 1) = false := by simp; omega
    have HF : Hid (z = false) := by show _ = _; rw [← HZ.out]; unfold names; rw [HT.out, decide_eq_false hk]; rfl
    clear hk
    go_wp2_with fail
    go_ret
    exact ⟨by rw [HF.out]; rfl, HB2.out⟩
  have e1 : ((t.k : Int) == 1) = true := by simp; omega
  have e3 : decide ((t.k : Int) = 1) = true := by simp; omega
  have htl : t.t.length ≤ 100000 := by
    obtain ⟨t', l', hs⟩ := List.exists_cons_of_ne_nil HR.out.ok.ne
    have := HR.out.ok.each t' (by rw [hs]; exact List.mem_cons_self)
    rw [← HT.out, nx_at hs]
    exact this.1
  obtain ⟨g, o, c, hbx0, hle, hcm, hat⟩ : ∃ g o c, w2.heap[b]? = some (.cells #[v, .slice (some ⟨g, o, none⟩) s.2.length c, .int .i64 (d : Int)] yrT) ∧ s.2.length ≤ c ∧ c ≤ maxLen ∧ ∀ j (hj : j < s.2.length), TkAt w2 g (o + j * 4) s.2[j] := by
    obtain ⟨u, hbx, htk⟩ := HR2.out.box
    obtain ⟨g, o, c, rfl, hle, hcm, hat⟩ := toks_tk htk
    exact ⟨g, o, c, hbx, hle, hcm, hat⟩
  have HAt := Lib.hid hat
  obtain ⟨n, hn⟩ : ∃ n, s.2.length = n := ⟨_, rfl⟩
  have HN := Lib.hid hn
  have hn1 : n ≤ 10000 := by have := HR.out.ok.few; omega
  rw [hn] at hbx0 hle
  clear hat hn
  obtain ⟨⟨c0, c1, c2⟩, f0, f1, f2⟩ := yr_cells hbx0
  clear hbx0
  by_cases hn2 : 2 < n
  case neg =>
    have a1 : decide ((2 : Int) < (n : Int)) = false := decide_eq_false (by omega)
    have a2 : ¬ ((2 : Int) < (n : Int)) := by omega
    have HF : Hid (z = false) := by
      show _ = _
      rw [← HZ.out]; unfold names
      have hl : s.2.length ≤ 2 := by have := HN.out; omega
      match h : s.2, hl with
      | [], _ => simp
      | [_], _ => simp
      | [_, _], _ => simp
    clear hk hn2
    go_wp2_with fail
    go_ret
    exact ⟨by rw [HF.out]; rfl, HB2.out⟩
  have a1 : decide ((2 : Int) < (n : Int)) = true := decide_eq_true (by omega)
  have a2 : (2 : Int) < (n : Int) := by omega
  obtain ⟨u, x, y, l, hs⟩ : ∃ u x y l, s.2 = u :: x :: y :: l := by
    have hl : 2 < s.2.length := by have := HN.out; omega
    match h : s.2, hl with
    | u :: x :: y :: l, _ => exact ⟨u, x, y, l, rfl⟩
  have hz2 : z = (decide (x.k = 2) && decide (x.t = [40]) && nameB t.t) := by
    rw [← HZ.out]; unfold names; rw [HT.out, hs, decide_eq_true hk, Bool.true_and]
  have hx0 := HAt.out 1 (by rw [hs]; simp)
  have hx1 : s.2[1]'(by rw [hs]; simp) = x := by simp [hs]
  rw [hx1] at hx0
  obtain ⟨k0, k1, k2, k3⟩ := hx0
  simp only [Nat.one_mul] at k0 k1 k2 k3
  have XI := fun w' => idx_tk (g := g) (o := o) (n := n) (c := c) 1 (by omega) .i64 w'
  simp only [Nat.one_mul, Int.cast_ofNat_Int] at XI
  have HZ2 := Lib.hid hz2
  clear hx1 hs hz2 hk
  by_cases hk2 : x.k = 2
  case neg =>
    have e4 : ((x.k : Int) == 2) = false := by simp; omega
    have e6 : decide ((x.k : Int) = 2) = false := by simp; omega
    have HF : Hid (z = false) := by show _ = _; rw [HZ2.out, decide_eq_false hk2]; rfl
    clear hk2
    go_wp2_with fail
    go_ret
    exact ⟨by rw [HF.out]; rfl, HB2.out⟩
  have e4 : ((x.k : Int) == 2) = true := by simp; omega
  have e6 : decide ((x.k : Int) = 2) = true := by simp; omega
  by_cases hx : x.t = [40]
  case neg =>
    have t1 : ((str x.t).toList == [40]) = false := by rw [str_toList]; simpa using hx
    have HF : Hid (z = false) := by show _ = _; rw [HZ2.out, decide_eq_false hx]; simp
    clear hk2 hx
    go_wp2_with fail
    go_ret
    exact ⟨by rw [HF.out]; rfl, HB2.out⟩
  have t1 : ((str x.t).toList == [40]) = true := by rw [str_toList, hx]; rfl
  have HF : Hid (nameB t.t = z) := by show _ = _; rw [HZ2.out, decide_eq_true hx, decide_eq_true hk2]; rfl
  clear hk2 hx
  go_wp2_with fail
  refine (next_calls w2 b B P v s d HR2.out).mono ?_
  rintro r w3 ⟨rfl, hb3⟩
  rw [show nx s = t from HT.out]
  have HB3 := Lib.hid (HB2.out.trans (hb3.mono HB2.out.size))
  clear hb3
  go_wp2_with fail
  refine (name_calls w3 t.t (by omega)).mono ?_
  rintro r w4 ⟨rfl, hw4⟩
  obtain rfl := hw4
  rw [show nameB t.t = z from HF.out]
  go_wp2_with fail
  go_ret
  exact ⟨rfl, HB3.out⟩
end Go.Proofs.YtiklkhbfilbpeaaGreatDoor.Sx
set_option linter.unusedVariables false
set_option linter.unusedSimpArgs false
set_option maxRecDepth 100000
namespace Go.Proofs.YtiklkhbfilbpeaaGreatDoor.Sx
open Go.RowKit Base Lx Sy
def numA (a : Nat) (l : Nm) : Nat := l.foldl (fun n c => n * 10 + (c.toNat - 48)) a
theorem numA_le : ∀ (l : Nm) (a : Nat), a ≤ numA a l
  | [], a => Nat.le_refl _
  | c :: r, a => by
    have := numA_le r (a * 10 + (c.toNat - 48))
    show a ≤ numA (a * 10 + (c.toNat - 48)) r
    omega
theorem parse_num : ∀ (l : Nm) (a : Nat), (∀ c ∈ l, 48 ≤ c.toNat ∧ c.toNat ≤ 57) → a < 18446744073709551616 → Lib.parseUint10 a l = if numA a l < 18446744073709551616 then .ok (numA a l) else .range
  | [], a, _, ha => by show _ = if a < _ then _ else _; rw [if_pos ha]; rfl
  | c :: r, a, h, ha => by
    have h1 := h c List.mem_cons_self
    have h2 := numA_le r (a * 10 + (c.toNat - 48))
    have e : numA a (c :: r) = numA (a * 10 + (c.toNat - 48)) r := rfl
    unfold Lib.parseUint10
    rw [if_pos h1, e]
    by_cases h3 : 1844674407370955162 ≤ a
    · rw [if_pos h3, if_neg (by omega)]
    · rw [if_neg h3]
      by_cases h4 : 18446744073709551616 ≤ a * 10 + (c.toNat - 48)
      · rw [if_pos h4, if_neg (by omega)]
      · rw [if_neg h4]
        exact parse_num r _ (fun x hx => h x (List.mem_cons_of_mem _ hx)) (by omega)
theorem atoi_num {l : Nm} (h0 : l ≠ []) (h : ∀ c ∈ l, 48 ≤ c.toNat ∧ c.toNat ≤ 57) : (num l ≤ 9223372036854775807 ∧ Lib.atoiAll l = .ok (num l : Int)) ∨ (9223372036854775807 < num l ∧ Lib.atoiAll l = .range) := by
  cases l with
  | nil => exact absurd rfl h0
  | cons c r =>
    have h1 := h c List.mem_cons_self
    have hp := parse_num (c :: r) 0 h (by decide)
    have e : num (c :: r) = numA 0 (c :: r) := rfl
    have n43 : ¬ (c.toNat = 43 ∨ c.toNat = 45) := by omega
    have n45 : ¬ c.toNat = 45 := by omega
    have e43 : (if c.toNat = 43 ∨ c.toNat = 45 then r else c :: r) = c :: r := if_neg n43
    unfold Lib.atoiAll
    simp only [e43]
    simp only [n45, if_false, false_and, not_false_eq_true, true_and, Lib.parseMag, reduceCtorEq]
    rw [hp, e]
    by_cases h2 : numA 0 (c :: r) < 18446744073709551616
    · rw [if_pos h2]
      simp only
      by_cases h3 : 9223372036854775808 ≤ numA 0 (c :: r)
      · rw [if_pos h3]; exact .inr ⟨by omega, rfl⟩
      · rw [if_neg h3]; exact .inl ⟨by omega, rfl⟩
    · rw [if_neg h2]
      exact .inr ⟨by omega, rfl⟩
theorem below_bytes (w : World) (e : TypeId) (s : ByteArray) : Below w.heap.size w (Lib.bytesWorld w e s) :=
  ⟨rfl, rfl, rfl, by rw [Lib.bytesWorld_size]; omega, fun j hj => Lib.bytesWorld_at_old w e s j hj⟩
/-- What Atoi tells of a number's text. -/
def AtoiEnd (n : Nat) (z : Int) (err : Value) : Prop := (n ≤ 9223372036854775807 ∧ z = (n : Int) ∧ err = .nilIface) ∨ (9223372036854775807 < n ∧ ∃ (t : TypeId) (p : Value), err = .iface t p)
theorem atoi_calls (W : World) (B : Nat) (l : Nm) (hl : l.length ≤ 100000) (h0 : l ≠ []) (h : ∀ c ∈ l, 48 ≤ c.toNat ∧ c.toNat ≤ 57) (hG : Glb W B) : Calls Tryz.prog 155 #[.string (str l)] W fun e w' => ∃ z err, e = .returned (.tuple #[.int .i64 z, err]) ∧ AtoiEnd (num l) z err ∧ Below W.heap.size W w' := by
  have hsz : (str l).size = l.length := rfl
  rcases atoi_num h0 h with ⟨h1, h2⟩ | ⟨h1, h2⟩
  · refine (Tryz.strconv_Atoi_ok (str l) (by omega) (num l : Int) (by rw [str_data]; exact h2) W).mono ?_
    rintro e w' ⟨rfl, hw⟩
    refine ⟨_, _, rfl, .inl ⟨h1, rfl, rfl⟩, ?_⟩
    rcases hw with rfl | ⟨t, rfl⟩
    · exact Below.refl _ _
    · exact below_bytes W _ t
  · obtain ⟨tp, p, hv⟩ := hG.rng
    refine (Tryz.strconv_Atoi_range_var (str l) (by omega) (by rw [str_data]; exact h2) tp p W hv).mono ?_
    rintro e w' ⟨N, rfl, _, _, hb⟩
    exact ⟨_, _, rfl, .inr ⟨h1, _, _, rfl⟩, hb⟩
theorem fld_rr (b o k : Nat) (hk : k < 4) (w : World) : (Instr.fieldAt rrT (.pointer (some ⟨b, o, none⟩)) k).run Tryz.prog w = .ok (.pointer (some ⟨b, o + k, none⟩)) w := by
  match k, hk with
  | 0, _ => rfl
  | 1, _ => rfl
  | 2, _ => rfl
  | 3, _ => rfl
theorem rr_cells {W : World} {b : Nat} {c0 c1 c2 c3 : Value} (h : W.heap[b]? = some (.cells #[c0, c1, c2, c3] rrT)) :
    (W.cell? ⟨b, 0, none⟩ = some c0 ∧ W.cell? ⟨b, 1, none⟩ = some c1 ∧ W.cell? ⟨b, 2, none⟩ = some c2 ∧ W.cell? ⟨b, 3, none⟩ = some c3) ∧
    W.frozen? ⟨b, 0, none⟩ = false ∧ W.frozen? ⟨b, 1, none⟩ = false ∧ W.frozen? ⟨b, 2, none⟩ = false ∧ W.frozen? ⟨b, 3, none⟩ = false := by
  simp [World.cell?, World.frozen?, h]
def rrV (r : Rdr) : Value := .agg #[.int .i64 (r.fd : Int), .string (str r.o), .string (str r.w), .string (str r.b)]
abbrev eR (r : Rdr) (u : Value) : Prop := u = rrV r
abbrev zRr : Array Value := #[.int .i64 0, .string ⟨#[]⟩, .string ⟨#[]⟩, .string ⟨#[]⟩]
/-- A box of the call's own, beside the reader. -/
structure Box (W0 : World) (v0 : Value) (W : World) (b B : Nat) (P : Nat → Prop) (v : Value) (s : S) (d N : Nat) (X : Array Value) (t : TypeId) : Prop where
  rd : Rd W b B P v s d
  turn : Turn b v0 W0 v W
  box : W.heap[N]? = some (.cells X t)
  new : W0.heap.size ≤ N
  old : b < W0.heap.size
  no : ¬ P N
  own : v.ownBlock ≠ some N
section
variable {W0 W W' : World} {b B : Nat} {P : Nat → Prop} {v0 v v' : Value} {s s' : S} {d N : Nat} {X X' : Array Value} {t : TypeId}
theorem Box.lt (h : Box W0 v0 W b B P v s d N X t) : N < W.heap.size := (Array.getElem?_eq_some_iff.1 h.box).1
theorem Box.below (h : Box W0 v0 W b B P v s d N X t) (hb : Below W.heap.size W W') : Box W0 v0 W' b B P v s d N X t :=
  ⟨h.rd.below hb, h.turn.trans (Turn.of_below hb), (hb.block N h.lt).trans h.box, h.new, h.old, h.no, h.own⟩
theorem Box.step (h : Box W0 v0 W b B P v s d N X t) (ht : Turn b v W v' W') (hr : Rd W' b B P v' s' d) : Box W0 v0 W' b B P v' s' d N X t :=
  ⟨hr, h.turn.trans ht, (ht.block N h.lt (by have := h.new; have := h.old; omega) h.own).trans h.box, h.new, h.old, h.no, fun e => h.own (ht.own N e h.lt)⟩
theorem Box.grown (h : Box W0 v0 W b B P v s d N X t) (hg : W.grownBy W' (some N)) (hx : W'.heap[N]? = some (.cells X' t)) : Box W0 v0 W' b B P v s d N X' t := by
  have h1 := h.new
  have h2 := h.old
  have h3 := h.rd.bB
  refine ⟨h.rd.turn hg (fun g e _ => ?_), Turn.grown h.turn hg (fun g e => by obtain rfl := Option.some.inj e; exact h1), hx, h1, h2, h.no, h.own⟩
  obtain rfl := Option.some.inj e
  exact ⟨by omega, by omega, h.own, fun hP => absurd hP h.no⟩
theorem Box.set (h : Box W0 v0 W b B P v s d N X t) (i : Nat) (u : Value) : ∃ w', W.setCell ⟨N, i, none⟩ u = w' ∧ Box W0 v0 w' b B P v s d N (X.setIfInBounds i u) t := by
  obtain ⟨w2, h1, h2, h3, _⟩ := set1 W N i t u X h.box
  exact ⟨w2, h1, h.grown h3 h2⟩
theorem Box.start (h : Rd W b B P v s d) (X : Array Value) (t : TypeId) : ∃ w1, W.alloc (.cells X t) = w1 ∧ Box W v w1 b B (fun g => P g ∧ g ≠ W.heap.size) v s d W.heap.size X t := by
  have hal := (Below.refl W.heap.size W).alloc (Nat.le_refl _) (.cells X t)
  refine ⟨_, rfl, ⟨(h.less (fun g hg hl => ⟨hg, by omega⟩)).below hal, Turn.of_below hal, heap_alloc_new W _, Nat.le_refl _, h.lt, fun hh => hh.2 rfl, fun e => ?_⟩⟩
  have := (h.own _ e).2
  omega
theorem Box.start0 (h : Rd W b B P v s d) (X : Array Value) (t : TypeId) : ∃ w1, W.alloc (.cells X t) = w1 ∧ Box W v w1 b B (fun g => P g ∧ g < W.heap.size) v s d W.heap.size X t := by
  have hal := (Below.refl W.heap.size W).alloc (Nat.le_refl _) (.cells X t)
  refine ⟨_, rfl, ⟨(h.less (fun g hg hl => ⟨hg, hl⟩)).below hal, Turn.of_below hal, heap_alloc_new W _, Nat.le_refl _, h.lt, fun hh => absurd hh.2 (Nat.lt_irrefl _), fun e => ?_⟩⟩
  have := (h.own _ e).2
  omega
theorem Box.add (h : Box W0 v0 W b B P v s d N X t) (hP : ¬ P W.heap.size) (Y : Array Value) (u : TypeId) : ∃ w1, W.alloc (.cells Y u) = w1 ∧ Box W0 v0 w1 b B P v s d N X t ∧ Box W0 v0 w1 b B P v s d W.heap.size Y u ∧ N ≠ W.heap.size := by
  have hal := (Below.refl W.heap.size W).alloc (Nat.le_refl _) (.cells Y u)
  have h1 := h.below hal
  refine ⟨_, rfl, h1, ⟨h1.rd, h1.turn, heap_alloc_new W _, h.turn.size, h.old, hP, fun e => ?_⟩, Nat.ne_of_lt h.lt⟩
  have := (h.rd.own _ e).2
  omega
/-- Another box's cells. -/
theorem Box.other {M : Nat} {Y Y' : Array Value} {u : TypeId} (h : Box W0 v0 W b B P v s d N X t) (h2 : Box W0 v0 W b B P v s d M Y u) (hne : N ≠ M) (hg : W.grownBy W' (some M)) (hx : W'.heap[M]? = some (.cells Y' u)) : Box W0 v0 W' b B P v s d N X t ∧ Box W0 v0 W' b B P v s d M Y' u := by
  have h3 := h2.grown hg hx
  exact ⟨⟨h3.rd, h3.turn, (hg.block N h.lt (fun e => hne (Option.some.inj e))).trans h.box, h.new, h.old, h.no, h.own⟩, h3⟩
theorem Box.set2 {M : Nat} {Y : Array Value} {u : TypeId} (h : Box W0 v0 W b B P v s d N X t) (h2 : Box W0 v0 W b B P v s d M Y u) (hne : N ≠ M) (i : Nat) (x : Value) : ∃ w', W.setCell ⟨M, i, none⟩ x = w' ∧ Box W0 v0 w' b B P v s d N X t ∧ Box W0 v0 w' b B P v s d M (Y.setIfInBounds i x) u := by
  obtain ⟨w2, h4, h5, h6, _⟩ := set1 W M i u x Y h2.box
  exact ⟨w2, h4, h.other h2 hne h6 h5⟩
theorem Box.done (h : Box W0 v0 W b B (fun g => P g ∧ g ≠ N) v s d N X t) : Rd W b B P v s d := h.rd.less (fun g hg _ => hg.1)
end
/-- In the midst: the number, and what is left. -/
def RedMid (W : World) (b B : Nat) (P : Nat → Prop) (v : Value) (s : S) (d N : Nat) (t : Tok) (u : Value) (wx : World) : Prop :=
  ∃ s1, ((t.k = 5 ∧ s1 = tk s ∧ u = .int .i64 ((min (num t.t) 99 : Nat) : Int)) ∨ (t.k ≠ 5 ∧ s1 = s ∧ u = .int .i64 (-1))) ∧ Box W v wx b B P v s1 d N zRr rrT
set_option maxHeartbeats 8000000 in
theorem redir_calls (W : World) (b B : Nat) (P : Nat → Prop) (v : Value) (s : S) (d : Nat) (h : Rd W b B P v s d) (hr : redirects s = true) : Calls Tryz.prog 133 #[.pointer (some ⟨b, 0, none⟩)] W (Post eR W b B P v d (redirM s)) := by
  obtain ⟨w1, hw1, hbx⟩ := Box.start0 h zRr rrT
  obtain ⟨N, hN⟩ : ∃ N, W.heap.size = N := ⟨_, rfl⟩
  rw [hN] at hbx
  have HBx := Lib.hid hbx
  have HW1 := Lib.hid hw1
  have HN := Lib.hid hN
  have HRr := Lib.hid hr
  obtain ⟨X, hX⟩ : ∃ X, redirM s = X := ⟨_, rfl⟩
  have HX := Lib.hid hX
  rw [hX]
  obtain ⟨t, ht⟩ : ∃ t, nx s = t := ⟨_, rfl⟩
  have HT := Lib.hid ht
  have htok : TokOk t := by
    obtain ⟨t', l', hs⟩ := List.exists_cons_of_ne_nil h.ok.ne
    rw [← ht, nx_at hs]
    exact h.ok.each t' (by rw [hs]; exact List.mem_cons_self)
  have HTo := Lib.hid htok
  clear h hw1 hN hbx hX ht hr htok
  have F0 := fld_tkV0 t
  have F1 := fld_tkV1 t
  go_enter Tryz.func133, Tryz.ntmps133
  go_upto_region 1 with fail
  rw [HW1.out, HN.out]
  go_upto_region 2 with fail
  go_wp2_with fail
  refine (next_calls w1 b B _ v s d HBx.out.rd).mono ?_
  rintro r w2 ⟨rfl, hb2⟩
  rw [show nx s = t from HT.out]
  have HBx2 := Lib.hid (HBx.out.below hb2)
  clear hb2
  go_upto_if 10 with fail
  go_cut [3] (fun s3 wx => RedMid W b B (fun g => P g ∧ g < N) v s d N t s3 wx)
  case first =>
    by_cases hk : t.k = 5
    · have e1 : ((t.k : Int) == 5) = true := by simp; omega
      have e3 : decide ((t.k : Int) = 5) = true := by simp; omega
      go_wp2_with fail
      refine (take_calls w2 b B _ v s d HBx2.out.rd).mono ?_
      rintro r w3 ⟨rfl, ht3, hr3⟩
      rw [show nx s = t from HT.out]
      have HBx3 := Lib.hid (HBx2.out.step ht3 hr3)
      clear ht3 hr3
      go_wp2_with fail
      refine (atoi_calls w3 B t.t HTo.out.1 (HTo.out.2 hk).1 (HTo.out.2 hk).2 HBx3.out.rd.gl).mono ?_
      rintro r w4 ⟨z, err, rfl, hz, hb4⟩
      have HBx4 := Lib.hid (HBx3.out.below hb4)
      have HK := Lib.hid hk
      clear hb4 hk e1 e3
      obtain ⟨m, hm⟩ : ∃ m, num t.t = m := ⟨_, rfl⟩
      have HM := Lib.hid hm
      rw [hm] at hz
      clear hm
      rcases hz with ⟨hm1, rfl, rfl⟩ | ⟨hm1, ty, p, rfl⟩
      · go_wp2_with fail
        go_meet
        exact ⟨tk s, .inl ⟨HK.out, rfl, by rw [HM.out]; exact congrArg _ (by omega)⟩, HBx4.out⟩
      · go_wp2_with fail
        go_meet
        exact ⟨tk s, .inl ⟨HK.out, rfl, by rw [HM.out, show min m 99 = 99 by omega]; rfl⟩, HBx4.out⟩
    · have e1 : ((t.k : Int) == 5) = false := by simp; omega
      have e3 : decide ((t.k : Int) = 5) = false := by simp; omega
      have HK := Lib.hid hk
      clear hk
      go_wp2_with fail
      go_meet
      exact ⟨s, .inr ⟨HK.out, rfl, rfl⟩, HBx2.out⟩
  case rest =>
    obtain ⟨s1, hs1, hbx⟩ := hcut
    have HBx3 := Lib.hid hbx
    clear HBx HBx2 hbx
    obtain ⟨fd, F, o, hfd, ho, hX, hF⟩ : ∃ (fd : Int) (F : Nat) (o : Nm), u3 = .int .i64 fd ∧ (nx s1).t = o ∧ X = bd (rawM (tk s1)) (fun w s3 => .ok (⟨F, o, w, (nx (tk s1)).b⟩, s3)) ∧ ((0 ≤ fd ∧ fd = (F : Int)) ∨ (fd = -1 ∧ ((o = [60] ∧ F = 0) ∨ (o = [60, 60] ∧ F = 0) ∨ (o = [62] ∧ F = 1) ∨ (o = [62, 62] ∧ F = 1)))) := by
      rcases hs1 with ⟨hk, rfl, hu⟩ | ⟨hk, rfl, hu⟩
      · refine ⟨_, min (num t.t) 99, _, hu, rfl, ?_, .inl ⟨by omega, rfl⟩⟩
        rw [← HX.out]; unfold redirM; simp only [HT.out, hk, decide_true, if_true]
      · have hr := HRr.out
        unfold redirects at hr
        rw [HT.out, decide_eq_false hk, Bool.false_or] at hr
        have hr2 : ([[60], [62], [60, 60], [62, 62]] : List Nm).contains t.t = true := by
          unfold isM at hr
          rw [HT.out] at hr
          simp only [Bool.and_eq_true] at hr
          exact hr.2
        have hX2 : X = bd (rawM (tk s1)) (fun w s3 => .ok (⟨if t.t.head? = some 60 then 0 else 1, t.t, w, (nx (tk s1)).b⟩, s3)) := by rw [← HX.out]; unfold redirM; simp only [HT.out, hk, decide_false, Bool.false_eq_true, if_false]
        refine ⟨-1, if t.t.head? = some 60 then 0 else 1, t.t, hu, by rw [HT.out], hX2, .inr ⟨rfl, ?_⟩⟩
        simp only [List.contains_cons, List.contains_nil, Bool.or_false, Bool.or_eq_true, beq_iff_eq] at hr2
        rcases hr2 with h | h | h | h
        · exact .inl ⟨h, by rw [h]; rfl⟩
        · exact .inr (.inr (.inl ⟨h, by rw [h]; rfl⟩))
        · exact .inr (.inl ⟨h, by rw [h]; rfl⟩)
        · exact .inr (.inr (.inr ⟨h, by rw [h]; rfl⟩))
    have HX3 := Lib.hid hX
    have HO := Lib.hid ho
    subst hfd
    clear hs1 hX ho F0 F1
    go_wp2_with fail
    refine (take_calls wc b B _ v s1 d HBx3.out.rd).mono ?_
    rintro r w4 ⟨rfl, ht4, hr4⟩
    have HBx4 := Lib.hid (HBx3.out.step ht4 hr4)
    clear ht4 hr4
    obtain ⟨t1, ht1⟩ : ∃ t1, nx s1 = t1 := ⟨_, rfl⟩
    have HT1 := Lib.hid ht1
    have F1 := fld_tkV1 t1
    have e1 : t1.t = o := by rw [← ht1, HO.out]
    rw [e1] at F1
    rw [ht1]
    clear ht1 e1
    go_upto_region 8 with fail
    obtain ⟨w5, hw5, hb5, hm5, hne⟩ := HBx4.out.add (fun hh => by have := HBx4.out.turn.size; have := HN.out; have := hh.2; omega) #[.int .i64 fd, .string (str o), .string ⟨#[]⟩, .string ⟨#[]⟩] rrT
    obtain ⟨M, hM⟩ : ∃ M, w4.heap.size = M := ⟨_, rfl⟩
    rw [hM] at hm5 hne
    rw [hw5, hM]
    have HB5 := Lib.hid hb5
    have HM5 := Lib.hid hm5
    have HNe := Lib.hid hne
    obtain ⟨⟨m0, m1, m2, m3⟩, q0, q1, q2, q3⟩ := rr_cells hm5.box
    clear hw5 hb5 hm5 hne hM
    go_upto_if 28 with fail
    go_cut [] (fun wx => Box W v wx b B (fun g => P g ∧ g < N) v (tk s1) d N zRr rrT ∧ Box W v wx b B (fun g => P g ∧ g < N) v (tk s1) d M #[.int .i64 (F : Int), .string (str o), .string ⟨#[]⟩, .string ⟨#[]⟩] rrT)
    case first =>
      rcases hF with ⟨h0, rfl⟩ | ⟨rfl, hF⟩
      · have a1 : decide ((F : Int) < (0 : Int)) = false := decide_eq_false (by omega)
        have a2 : ¬ ((F : Int) < (0 : Int)) := by omega
        go_wp2_with fail
        go_meet
        exact ⟨HB5.out, HM5.out⟩
      · obtain ⟨w6, hw6, hb6, hm6⟩ := HB5.out.set2 HM5.out HNe.out 0 (.int .i64 1)
        obtain ⟨w7, hw7, hb7, hm7⟩ := hb6.set2 hm6 HNe.out 0 (.int .i64 0)
        rcases hF with ⟨rfl, rfl⟩ | ⟨rfl, rfl⟩ | ⟨rfl, rfl⟩ | ⟨rfl, rfl⟩
        · have XI : ∀ w : World, (Instr.index 9 (.string (str [60])) (.int .i64 0)).run Tryz.prog w = .ok (.int .u8 60) w := fun w => Sw.run_at Tryz.underlying9 [60] .i64 0 (by decide)
          have k1 : w6.cell? ⟨M, 1, none⟩ = some (.string (str [60])) := (rr_cells (show w6.heap[M]? = some (.cells #[.int .i64 1, .string (str [60]), .string ⟨#[]⟩, .string ⟨#[]⟩] rrT) from hm6.box)).1.2.1
          have k0 : w6.cell? ⟨M, 0, none⟩ = some (.int .i64 1) := (rr_cells (show w6.heap[M]? = some (.cells #[.int .i64 1, .string (str [60]), .string ⟨#[]⟩, .string ⟨#[]⟩] rrT) from hm6.box)).1.1
          have kf : w6.frozen? ⟨M, 0, none⟩ = false := (rr_cells (show w6.heap[M]? = some (.cells #[.int .i64 1, .string (str [60]), .string ⟨#[]⟩, .string ⟨#[]⟩] rrT) from hm6.box)).2.1
          go_wp2_with fail
          go_meet
          exact ⟨hb7, hm7⟩
        · have XI : ∀ w : World, (Instr.index 9 (.string (str [60, 60])) (.int .i64 0)).run Tryz.prog w = .ok (.int .u8 60) w := fun w => Sw.run_at Tryz.underlying9 [60, 60] .i64 0 (by decide)
          have k1 : w6.cell? ⟨M, 1, none⟩ = some (.string (str [60, 60])) := (rr_cells (show w6.heap[M]? = some (.cells #[.int .i64 1, .string (str [60, 60]), .string ⟨#[]⟩, .string ⟨#[]⟩] rrT) from hm6.box)).1.2.1
          have k0 : w6.cell? ⟨M, 0, none⟩ = some (.int .i64 1) := (rr_cells (show w6.heap[M]? = some (.cells #[.int .i64 1, .string (str [60, 60]), .string ⟨#[]⟩, .string ⟨#[]⟩] rrT) from hm6.box)).1.1
          have kf : w6.frozen? ⟨M, 0, none⟩ = false := (rr_cells (show w6.heap[M]? = some (.cells #[.int .i64 1, .string (str [60, 60]), .string ⟨#[]⟩, .string ⟨#[]⟩] rrT) from hm6.box)).2.1
          go_wp2_with fail
          go_meet
          exact ⟨hb7, hm7⟩
        · have XI : ∀ w : World, (Instr.index 9 (.string (str [62])) (.int .i64 0)).run Tryz.prog w = .ok (.int .u8 62) w := fun w => Sw.run_at Tryz.underlying9 [62] .i64 0 (by decide)
          have k1 : w6.cell? ⟨M, 1, none⟩ = some (.string (str [62])) := (rr_cells (show w6.heap[M]? = some (.cells #[.int .i64 1, .string (str [62]), .string ⟨#[]⟩, .string ⟨#[]⟩] rrT) from hm6.box)).1.2.1
          have k0 : w6.cell? ⟨M, 0, none⟩ = some (.int .i64 1) := (rr_cells (show w6.heap[M]? = some (.cells #[.int .i64 1, .string (str [62]), .string ⟨#[]⟩, .string ⟨#[]⟩] rrT) from hm6.box)).1.1
          have kf : w6.frozen? ⟨M, 0, none⟩ = false := (rr_cells (show w6.heap[M]? = some (.cells #[.int .i64 1, .string (str [62]), .string ⟨#[]⟩, .string ⟨#[]⟩] rrT) from hm6.box)).2.1
          go_wp2_with fail
          go_meet
          exact ⟨hb6, hm6⟩
        · have XI : ∀ w : World, (Instr.index 9 (.string (str [62, 62])) (.int .i64 0)).run Tryz.prog w = .ok (.int .u8 62) w := fun w => Sw.run_at Tryz.underlying9 [62, 62] .i64 0 (by decide)
          have k1 : w6.cell? ⟨M, 1, none⟩ = some (.string (str [62, 62])) := (rr_cells (show w6.heap[M]? = some (.cells #[.int .i64 1, .string (str [62, 62]), .string ⟨#[]⟩, .string ⟨#[]⟩] rrT) from hm6.box)).1.2.1
          have k0 : w6.cell? ⟨M, 0, none⟩ = some (.int .i64 1) := (rr_cells (show w6.heap[M]? = some (.cells #[.int .i64 1, .string (str [62, 62]), .string ⟨#[]⟩, .string ⟨#[]⟩] rrT) from hm6.box)).1.1
          have kf : w6.frozen? ⟨M, 0, none⟩ = false := (rr_cells (show w6.heap[M]? = some (.cells #[.int .i64 1, .string (str [62, 62]), .string ⟨#[]⟩, .string ⟨#[]⟩] rrT) from hm6.box)).2.1
          go_wp2_with fail
          go_meet
          exact ⟨hb6, hm6⟩
    case rest =>
      obtain ⟨hb6, hm6⟩ := hcut
      clear m0 m1 m2 m3 q0 q1 q2 q3 HB5 HM5 hF
      obtain ⟨⟨m0, m1, m2, m3⟩, q0, q1, q2, q3⟩ := rr_cells hm6.box
      have HB6 := Lib.hid hb6
      have HM6 := Lib.hid hm6
      clear hb6 hm6
      obtain ⟨t2, ht2⟩ : ∃ t2, nx (tk s1) = t2 := ⟨_, rfl⟩
      have HT2 := Lib.hid ht2
      have G2 := fld_tkV2 t2
      clear ht2
      clear m0 m1 m2 m3 q0 q1 q2 q3
      go_wp2_with fail
      refine (next_calls wc b B _ v (tk s1) d HB6.out.rd).mono ?_
      rintro r w7 ⟨rfl, hb7⟩
      rw [show nx (tk s1) = t2 from HT2.out]
      have HB7 := Lib.hid (HB6.out.below hb7)
      have HM7 := Lib.hid (HM6.out.below hb7)
      clear hb7
      obtain ⟨⟨m0, m1, m2, m3⟩, q0, q1, q2, q3⟩ := rr_cells HM7.out.box
      obtain ⟨w8, hw8, hb8, hm8⟩ := HB7.out.set2 HM7.out HNe.out 3 (.string (str t2.b))
      have HB8 := Lib.hid hb8
      have HM8 : Hid (Box W v w8 b B (fun g => P g ∧ g < N) v (tk s1) d M #[.int .i64 (F : Int), .string (str o), .string ⟨#[]⟩, .string (str t2.b)] rrT) := hm8
      clear hb8 hm8
      go_wp2_with fail
      refine (raw_calls w8 b B _ v (tk s1) d HB8.out.rd).mono ?_
      rintro r w9 hp
      have hst : ∀ (Y : Sy.P Nm), rawM (tk s1) = Y → X = bd Y (fun w s3 => .ok (⟨F, o, w, t2.b⟩, s3)) := fun Y hY => by rw [HX3.out, hY, HT2.out]
      cases hY : rawM (tk s1) with
      | error e =>
        rw [hY] at hp
        obtain ⟨rfl, hb9⟩ := hp
        have hbl := HB8.out.turn.below (B := B) (by have := HB8.out.rd.bB; exact this) (fun g hg => (HB8.out.rd.own g hg).1) (by have := HB8.out.rd.bB; have := HB8.out.old; omega)
        refine ⟨rfl, ?_⟩
        rw [hst _ hY]
        exact ⟨rfl, hbl.trans hb9⟩
      | ok y =>
        rw [hY] at hp
        obtain ⟨_, v9, rfl, rfl, ht9, hr9⟩ := hp
        have HB9 := Lib.hid (HB8.out.step ht9 hr9)
        have HM9 := Lib.hid (HM8.out.step ht9 hr9)
        have HXF := Lib.hid (hst _ hY)
        clear hst hY ht9 hr9 m0 m1 m2 m3 q0 q1 q2 q3 hw8
        obtain ⟨⟨m0, m1, m2, m3⟩, q0, q1, q2, q3⟩ := rr_cells HM9.out.box
        obtain ⟨wa, hwa, hba, hma⟩ := HB9.out.set2 HM9.out HNe.out 2 (.string (str y.1))
        have HBa := Lib.hid hba
        have HMa : Hid (Box W v wa b B (fun g => P g ∧ g < N) v9 y.2 d M #[.int .i64 (F : Int), .string (str o), .string (str y.1), .string (str t2.b)] rrT) := hma
        obtain ⟨⟨x0, x1, x2, x3⟩, _⟩ := rr_cells HMa.out.box
        obtain ⟨⟨z0, z1, z2, z3⟩, f0, f1, f2, f3⟩ := rr_cells HBa.out.box
        clear hba hma
        go_wp2_with fail
        obtain ⟨wb, hwb, h5, hg5, _⟩ := set4 wa N rrT (.int .i64 (F : Int)) (.string (str o)) (.string (str y.1)) (.string (str t2.b)) _ _ _ _ HBa.out.box
        rw [hwb]
        have hbb := HBa.out.grown hg5 h5
        obtain ⟨⟨y0, y1, y2, y3⟩, _⟩ := rr_cells h5
        refine bodyPost_ret (v := rrV ⟨F, o, y.1, t2.b⟩) (by simp [results, Tryz.results133, go_sem, y0, y1, y2, y3, rrV]) rfl ?_
        exact post_ok HXF.out rfl hbb.turn (hbb.rd.less (fun g hg _ => hg.1))
end Go.Proofs.YtiklkhbfilbpeaaGreatDoor.Sx
set_option linter.unusedVariables false
set_option linter.unusedSimpArgs false
set_option maxRecDepth 100000
namespace Go.Proofs.YtiklkhbfilbpeaaGreatDoor.Sx
open Go.RowKit Base Lx Sy
theorem fld_tree (b o : Nat) (w : World) : (Instr.fieldAt 25 (.pointer (some ⟨b, o, none⟩)) 0).run Tryz.prog w = .ok (.pointer (some ⟨b, o, none⟩)) w := by rfl
theorem load_nds {w : World} {ad : Addr} {v : Value} (h : w.cell? ad = some v) : (Instr.loadAt 23 (.pointer (some ad))).run Tryz.prog w = .ok v w := Ap.load_plainP (by simp [isAgg]) h
theorem load_nd {w : World} {b o : Nat} {cs : List Value} (hc : ∀ j v, cs[j]? = some v → w.cell? ⟨b, o + j, none⟩ = some v) (hl : cs.length = 8) : (Instr.loadAt ndT (.pointer (some ⟨b, o, none⟩))).run Tryz.prog w = .ok (.agg cs.toArray) w := by
  obtain ⟨d, hu, hr⟩ := Option.map_eq_some_iff.1 und_nd
  exact run_loadAt_mid w b o ndT cs d hc hu hr (by rw [hl]; exact info_ndS)
theorem rowsum {W : World} {Q : Nat → Prop} {n : Nd} {uw ur uk : Value} (h : Rows W Q n uw ur uk) : (∃ a c, uw = .slice a n.ws.length c) ∧ (∃ a c, ur = .slice a n.rs.length c) ∧ (∃ a c, uk = .slice a n.ks.length c) := by
  have h1 := ownsRow_slice h.w
  have h2 := ownsRow_slice h.r
  have h3 := ownsRow_slice h.k
  obtain ⟨a1, c1, e1, _⟩ := h1
  obtain ⟨a2, c2, e2, _⟩ := h2
  obtain ⟨a3, c3, e3, _⟩ := h3
  exact ⟨⟨a1, c1, e1⟩, ⟨a2, c2, e2⟩, ⟨a3, c3, e3⟩⟩
theorem ndC_one {n : Nd} {uw ur uk : Value} (h1 : ∃ a m c, uw = .slice a m c) (h2 : ∃ a m c, ur = .slice a m c) (h3 : ∃ a m c, uk = .slice a m c) : ∀ u ∈ ndC n uw ur uk, u.oneCell' = true := by
  obtain ⟨_, _, _, rfl⟩ := h1
  obtain ⟨_, _, _, rfl⟩ := h2
  obtain ⟨_, _, _, rfl⟩ := h3
  intro u hu
  simp only [ndC, List.mem_cons, List.not_mem_nil, or_false] at hu
  rcases hu with rfl | rfl | rfl | rfl | rfl | rfl | rfl | rfl <;> rfl
theorem root_calls (W : World) (a : Option Addr) (n c : Nat) (hn : n ≤ 1000000000) : Calls Tryz.prog 15 #[.agg #[.slice a n c]] W fun r W' => r = .returned (.int .i64 ((n : Int) - 1)) ∧ Below W.heap.size W W' := by
  obtain ⟨w1, N, hw1, hN, hx, hb, _⟩ := new_blk W #[.slice a n c] 25
  have HB : Hid (Below W.heap.size W w1) := by show Below _ _ _; rw [hN]; exact hb
  have HW1 := Lib.hid hw1
  have HN := Lib.hid hN
  have k0 : w1.cell? ⟨N, 0, none⟩ = some (.slice a n c) := by simp [World.cell?, hx]
  clear hb hw1 hN hx
  go_enter Tryz.func15, Tryz.ntmps15
  go_upto_region 1 with fail
  rw [HW1.out, HN.out]
  go_wp2_with fail
  go_ret
  exact ⟨rfl, HB.out⟩
/-- The reader's row is another one. -/
theorem Rd.put {W W1 : World} {b B : Nat} {P : Nat → Prop} {v v' : Value} {s : S} {d : Nat} {n : Nd} {uw ur uk : Value} {zs : List NV} (h : Rd W b B P v s d) (hzs : zs.map (·.1) = s.1) (hz : ∀ x ∈ zs, Rows W P x.1 x.2.1 x.2.2.1 x.2.2.2) (hr : Rows W P n uw ur uk) (hg : W.grownBy W1 v.ownBlock)
    (ho : W1.ownsRow B ndT 8 v' (s.1.length + 1) (zs.flatMap nz ++ nz (n, uw, ur, uk))) (hat : ∀ g, v'.ownBlock = some g → g < W.heap.size → v.ownBlock = some g) :
    Rd (W1.setCell ⟨b, 0, none⟩ v') b B P v' (s.1 ++ [n], s.2) d ∧ Turn b v W v' (W1.setCell ⟨b, 0, none⟩ v') := by
  obtain ⟨u, hbx, htk⟩ := h.box
  have hvb : v.ownBlock ≠ some b := h.own_ne hbx (by decide)
  have hbx1 : W1.heap[b]? = some (.cells #[v, u, .int .i64 (d : Int)] yrT) := (hg.block b h.lt (fun e => hvb e.symm)).trans hbx
  have hs := heap_setCell_same W1 b 0 _ _ v' hbx1
  have hgr : W1.grownBy (W1.setCell ⟨b, 0, none⟩ v') (some b) := Sl.setCells_grown b [v'] 0 W1
  have hB := h.bB
  have hlt := h.lt
  have ht : Turn b v W v' (W1.setCell ⟨b, 0, none⟩ v') := ⟨hgr.os.trans hg.os, hgr.tape.trans hg.tape, hgr.output.trans hg.output, Nat.le_trans hg.size hgr.size, fun k hk h1 h2 => (hgr.block k (Nat.lt_of_lt_of_le hk hg.size) (fun e => h1 (Option.some.inj e))).trans (hg.block k hk (fun e => h2 e.symm)), hat⟩
  have hbl := ht.belowB h
  have hrow : ∀ (g : Nat) (X : Array Value) (t : TypeId), W.heap[g]? = some (.cells X t) → rowT t → (W1.setCell ⟨b, 0, none⟩ v').heap[g]? = W.heap[g]? := fun g X t hX hT => by
    have hl := (Array.getElem?_eq_some_iff.1 hX).1
    refine ht.block g hl (fun e => ?_) (fun e => ?_)
    · subst e
      rw [hbx] at hX
      injection hX with hX
      injection hX with _ hT2 _
      rw [← hT2] at hT
      exact rowT_no.2.1 hT
    · exact h.own_ne hX (fun e => by rw [e] at hT; exact rowT_no.1 hT) e
  refine ⟨⟨⟨u, hs, htk.below hbl⟩, hB, ⟨zs ++ [(n, uw, ur, uk)], ?_, ?_, fun x hx => ?_⟩, h.ok, h.dd, h.gl.below hbl⟩, ht⟩
  · rw [List.map_append, hzs]; rfl
  · rw [List.length_append, List.flatMap_append, List.flatMap_cons, List.flatMap_nil, List.append_nil]
    refine own_keep ho (fun g X _ hX => hgr.block g (Array.getElem?_eq_some_iff.1 hX).1 (fun e => ?_))
    obtain rfl := Option.some.inj e
    rw [hbx1] at hX
    injection hX with hX
    injection hX with _ hT _
    exact absurd hT (by decide)
  · rcases List.mem_append.1 hx with hx | hx
    · exact (hz x hx).keep (fun g X t _ hX hT => hrow g X t hX hT)
    · obtain rfl := List.mem_singleton.1 hx
      exact hr.keep (fun g X t _ hX hT => hrow g X t hX hT)
set_option maxHeartbeats 4000000 in
theorem put_calls (W : World) (b B : Nat) (P : Nat → Prop) (v : Value) (s : S) (d : Nat) (h : Rd W b B P v s d) (n : Nd) (uw ur uk : Value) (hr : Rows W P n uw ur uk) (hl : s.1.length ≤ 100000) :
    Calls Tryz.prog 55 #[.pointer (some ⟨b, 0, none⟩), .agg #[.int .i64 (n.k : Int), .string (str n.t), .bool n.fl, uw, .int .i64 (n.st : Int), ur, uk, .int .i64 (n.ln : Int)]] W (Post eN W b B P v d (Sy.putM n s)) := by
  obtain ⟨i0, hi0, hz0, hz1, hz2⟩ := info_parts info_nd
  obtain ⟨w1, N, hw1, hN, hn, hb, hz⟩ := new_blk W (ndC n uw ur uk).toArray ndT
  have hb' : Below W.heap.size W w1 := by rw [hN]; exact hb
  have HR := Lib.hid (h.below hb')
  have HRo := Lib.hid (hr.below hb')
  have HB := Lib.hid hb'
  have HN : Hid (w1.heap[N]? = some (.cells (ndC n uw ur uk).toArray ndT)) := hn
  have HW1 : Hid (W.alloc (.cells #[.int .i64 (n.k : Int), .string (str n.t), .bool n.fl, uw, .int .i64 (n.st : Int), ur, uk, .int .i64 (n.ln : Int)] ndT) = w1) := hw1
  have HNe := Lib.hid hN
  obtain ⟨zs, hzs, hrow, hro⟩ := (h.below hb').row
  have HZs := Lib.hid hzs
  have HRow := Lib.hid hrow
  have HZr := Lib.hid hro
  have HOw : Hid (∀ j, v.ownBlock = some j → B ≤ j ∧ j < w1.heap.size) := fun j hj => HR.out.own j hj
  have hsz := (h.below hb').size
  have hone : ∀ u ∈ nz (n, uw, ur, uk), u.oneCell' = true := by
    obtain ⟨⟨a1, c1, e1⟩, ⟨a2, c2, e2⟩, ⟨a3, c3, e3⟩⟩ := rowsum hr
    exact ndC_one ⟨a1, _, c1, e1⟩ ⟨a2, _, c2, e2⟩ ⟨a3, _, c3, e3⟩
  have HOne := Lib.hid hone
  obtain ⟨u, hbx, _⟩ := (h.below hb').box
  have HBx := Lib.hid hbx
  have hNv : v.ownBlock ≠ some N := fun e => by have := (h.own _ e).2; omega
  have HNv := Lib.hid hNv
  have HbN : Hid (b ≠ N ∧ N < w1.heap.size) := by have := h.lt; show _ ∧ _; omega
  clear h hr hb hb' hn hw1 hN hzs hrow hro hone hbx hNv
  obtain ⟨L, hL⟩ : ∃ L, s.1.length = L := ⟨_, rfl⟩
  have HL := Lib.hid hL
  rw [hL] at HRow hl
  clear hL
  go_enter Tryz.func55, Tryz.ntmps55
  go_upto_region 1 with fail
  rw [HW1.out, HNe.out]
  refine Rt.wp_region_rkt 9 [] [Rg.Is (.pointer (some ⟨b, 0, none⟩)), Rg.Is (.pointer (some ⟨b, 0, none⟩)), Rg.Is (.pointer (some ⟨b, 0, none⟩)), Rg.Is (.pointer (some ⟨b, 0, none⟩)), Rg.Is (.pointer (some ⟨b, 0, none⟩)), Rg.Is (v), Rg.Is (.agg (ndC n uw ur uk).toArray), (fun y x => ∃ j, y = .slice (some ⟨j, 0, none⟩) 1 1 ∧ w1.heap.size ≤ j ∧ x.heap[j]? = some (.cells (nz (n, uw, ur, uk)).toArray ndT)), (fun y x => x.ownsRow B ndT 8 y (L + 1) (zs.flatMap nz ++ nz (n, uw, ur, uk)) ∧ w1.grownBy x v.ownBlock ∧ ∀ g, y.ownBlock = some g → g < w1.heap.size → v.ownBlock = some g)] (fun _ _ => True) (fun ls x => ls 8 = false → Below w1.heap.size w1 x) (fun k x y => if k = 8 then x.grownBy y (Value.ownBlock (v)) else Below x.heap.size x y) (by kernel_rfl) (by kernel_rfl) (of_decide_eq_true (by kernel_rfl)) (by kernel_rfl) (by kernel_rfl) trivial (fun _ => ⟨rfl, rfl, rfl, Nat.le_refl _, fun _ _ => rfl⟩) (fun ls ls' x e h1 h2 => h1 (by rw [e]; exact h2)) (fun _ _ _ _ _ => trivial) (fun i ls x _ h1 => by rw [show ([] : List Bool).getD i true = true from rfl] at h1; cases h1) ?_ ⟨rfl, rfl, rfl, rfl, rfl, rfl, rfl, rfl, rfl, trivial⟩ ⟨?_, ?_, ?_, ?_, ?_, ?_, ?_, ?_, ?_, trivial⟩ ?_
  · intro i k u x y hik _ h1 hK
    match i, h1, hik with
    | 0, h1, _ => exact h1
    | 1, h1, _ => exact h1
    | 2, h1, _ => exact h1
    | 3, h1, _ => exact h1
    | 4, h1, _ => exact h1
    | 5, h1, _ => exact h1
    | 6, h1, _ => exact h1
    | 7, h1, hik =>
      obtain ⟨j, h2, h3, h4⟩ := h1
      refine ⟨j, h2, h3, ?_⟩
      have hg := (Array.getElem?_eq_some_iff.1 h4).1
      by_cases hk : k = 8
      · subst hk
        rw [if_pos rfl] at hK
        exact (hK.block j hg (fun e => by have := (HOw.out _ e.symm).2; omega)).trans h4
      · rw [if_neg hk] at hK
        exact (hK.block j hg).trans h4
    | 8, h1, hik =>
      rw [if_neg (fun e => hik e.symm)] at hK
      exact ⟨ownsRow_below h1.1 hK, Sl.grown_trans h1.2.1 (Sl.grown_below hK _), h1.2.2⟩
    | _ + 9, _, _ => trivial
  · intro _ b9 x ls hR hS hself hup hdn hk
    have h0 : b9.eval (.tmp 0) = .pointer (some ⟨b, 0, none⟩) := Eq.mp (by kernel_rfl) (hk 0 (by decide))
    exact Rg.does_move ⟨by rw [if_neg (by decide)]; exact Below.refl _ _, h0, fun hh => hS hh⟩
  · intro _ b9 x ls hR hS hself hup hdn hk
    have h0 : b9.eval (.tmp 0) = .pointer (some ⟨b, 0, none⟩) := Eq.mp (by kernel_rfl) (hk 0 (by decide))
    have lA : ls 8 = false := hdn [5, 4, 3, 2] 8 _ rfl (by kernel_rfl)
    have hb := hS lA
    exact Rg.does_move ⟨by rw [if_neg (by decide)]; exact Below.refl _ _, h0, fun hh => hS hh⟩
  · intro _ b9 x ls hR hS hself hup hdn hk
    have h6 : b9.eval (.tmp 6) = .pointer (some ⟨b, 0, none⟩) := Eq.mp (by kernel_rfl) (hk 6 (by decide))
    have lA : ls 8 = false := hdn [5, 4, 3] 8 _ rfl (by kernel_rfl)
    have hb := hS lA
    exact Ap.does_nil _ h6 ⟨by rw [if_neg (by decide)]; exact Below.refl _ _, rfl, fun hh => hS hh⟩
  · intro _ b9 x ls hR hS hself hup hdn hk
    have h7 : b9.eval (.tmp 7) = .pointer (some ⟨b, 0, none⟩) := Eq.mp (by kernel_rfl) (hk 7 (by decide))
    have lA : ls 8 = false := hdn [5, 4] 8 _ rfl (by kernel_rfl)
    have hb := hS lA
    exact Rs.does_field _ _ h7 (fld_yr b 0 0 (by decide) x) ⟨by rw [if_neg (by decide)]; exact Below.refl _ _, rfl, fun hh => hS hh⟩
  · intro _ b9 x ls hR hS hself hup hdn hk
    have h8 : b9.eval (.tmp 8) = .pointer (some ⟨b, 0, none⟩) := Eq.mp (by kernel_rfl) (hk 8 (by decide))
    have lA : ls 8 = false := hdn [5] 8 _ rfl (by kernel_rfl)
    have hb := hS lA
    exact Rs.does_field _ _ h8 (fld_tree b 0 x) ⟨by rw [if_neg (by decide)]; exact Below.refl _ _, rfl, fun hh => hS hh⟩
  · intro _ b9 x ls hR hS hself hup hdn hk
    have h9 : b9.eval (.tmp 9) = .pointer (some ⟨b, 0, none⟩) := Eq.mp (by kernel_rfl) (hk 9 (by decide))
    have lA : ls 8 = false := hdn [] 8 _ rfl (by kernel_rfl)
    have hb := hS lA
    exact Rg.does_load _ _ h9 (load_nds (yr_cells ((hb.block b HR.out.lt).trans HBx.out)).1.1) ⟨by rw [if_neg (by decide)]; exact Below.refl _ _, rfl, fun hh => hS hh⟩
  · intro _ b9 x ls hR hS hself hup hdn hk
    have h3 : b9.eval (.tmp 3) = .pointer (some ⟨N, 0, none⟩) := Eq.mp (by kernel_rfl) (hk 3 (by decide))
    have lA : ls 8 = false := hdn [7] 8 _ rfl (by kernel_rfl)
    have hb := hS lA
    exact Rg.does_load _ _ h3 (load_nd (cs := (ndC n uw ur uk)) (fun j y hy => by rw [Nat.zero_add]; have h2 := (hb.block N HbN.out.2).trans HN.out; unfold World.cell?; simp only [h2]; simpa using hy) rfl) ⟨by rw [if_neg (by decide)]; exact Below.refl _ _, rfl, fun hh => hS hh⟩
  · intro _ b9 x ls hR hS hself hup hdn hk
    have h11 : b9.eval (.tmp 11) = .agg (ndC n uw ur uk).toArray := Eq.mp (by kernel_rfl) (hk 11 (by decide))
    have lA : ls 8 = false := hdn [] 8 _ rfl (by kernel_rfl)
    have hb := hS lA
    have hal := (Below.refl x.heap.size x).alloc (Nat.le_refl _) (.cells (nz (n, uw, ur, uk)).toArray ndT)
    exact Rg.does_build #[(0, .agg (ndC n uw ur uk).toArray)] _ (by simp [h11]) (by go_simp; rfl) ⟨by rw [if_neg (by decide)]; exact hal, ⟨x.heap.size, rfl, hb.size, heap_alloc_new x _⟩, fun hh => hb.trans (hal.mono hb.size)⟩
  · intro _ b9 x ls hR hS hself hup hdn hk
    have h10 : b9.eval (.tmp 10) = v := Eq.mp (by kernel_rfl) (hk 10 (by decide))
    have h12 : (fun y x => ∃ j, y = .slice (some ⟨j, 0, none⟩) 1 1 ∧ w1.heap.size ≤ j ∧ x.heap[j]? = some (.cells (nz (n, uw, ur, uk)).toArray ndT)) (b9.eval (.tmp 12)) x := Eq.mp (by kernel_rfl) (hk 12 (by decide))
    have hb := hS hself
    obtain ⟨j, h2, h3, h4⟩ := h12
    have hown : x.ownsRow B ndT 8 v L (zs.flatMap nz) := ownsRow_below HRow.out hb
    obtain ⟨v', w', hrun, hown', hgr, hat⟩ := Ap.run_append_at (P := Tryz.prog) x B 23 23 23 ndT i0 _ 8 120 Tryz.underlying23 (append_side Tryz.underlying23) hi0 hz0 hz1 hz2 rfl (by omega) (by omega) v _ _ hown (b9.eval (.tmp 12)) 1 (nz (n, uw, ur, uk)) (by rw [h2]; exact src_cells (b := j) (off := 0) rfl HOne.out (.inr rfl) (fun i y hi => by rw [Nat.zero_add]; unfold World.cell?; simp only [h4]; simpa using hi)) (by unfold maxLen; omega) (by omega) (by have := hb.size; omega)
    exact Ap.does_append v _ v' w' h10 rfl hrun ⟨by rw [if_pos rfl]; exact hgr, ⟨hown', Sl.grown_trans (Sl.grown_below hb _) hgr, fun g hg hlt => hat g hg (Nat.lt_of_lt_of_le hlt hb.size)⟩, fun hh => by simp [Rs.upd] at hh⟩
  · intro vals wD ls _ hSD _ hL
    obtain ⟨g0, g1, g2, g3, g4, g5, g6, g7, g8, _⟩ := hL
    obtain ⟨hown, hgr, hat⟩ : wD.ownsRow B ndT 8 (vals 8) (L + 1) (zs.flatMap nz ++ nz (n, uw, ur, uk)) ∧ w1.grownBy wD v.ownBlock ∧ ∀ g, (vals 8).ownBlock = some g → g < w1.heap.size → v.ownBlock = some g := g8
    have g0' : vals 0 = .pointer (some ⟨b, 0, none⟩) := g0
    clear g0 g1 g2 g3 g4 g5 g6 g7
    simp only [Rg.putAll, List.take_succ_cons, List.take_zero, List.drop_succ_cons, List.drop_zero, List.setIfInBounds_toArray, List.set_cons_succ, List.set_cons_zero, g0']
    clear g0'
    generalize vals 8 = y at *
    have hbx : wD.heap[b]? = w1.heap[b]? := hgr.block b HR.out.lt (fun e => HR.out.own_ne HBx.out (by decide) e.symm)
    obtain ⟨⟨c0, c1, c2⟩, f0, f1, f2⟩ := yr_cells (hbx.trans HBx.out)
    have HF := Lib.hid (HR.out.put HZs.out HZr.out HRo.out hgr (by rw [HL.out]; exact hown) hat)
    obtain ⟨au, cu, rfl, _, _, _, _⟩ := ownsRow_slice hown
    obtain ⟨w2, hw2⟩ : ∃ w2, wD.setCell ⟨b, 0, none⟩ (.slice au (L + 1) cu) = w2 := ⟨_, rfl⟩
    rw [hw2] at HF
    obtain ⟨u2, hbx2, _⟩ := HF.out.1.box
    obtain ⟨⟨d0, d1, d2⟩, _⟩ := yr_cells hbx2
    clear hown hgr hbx hat hbx2 d1 d2
    have HW2 := Lib.hid hw2
    go_wp2_with fail
    refine (root_calls w2 au (L + 1) cu (by omega)).mono ?_
    rintro r w3 ⟨rfl, hb3⟩
    have HF3 : Hid (Rd w3 b B P (.slice au (L + 1) cu) (s.1 ++ [n], s.2) d) := HF.out.1.below hb3
    have HT3 : Hid (Turn b v W (.slice au (L + 1) cu) w3) := ((Turn.of_below HB.out).trans HF.out.2).trans (Turn.of_below hb3)
    clear hb3
    go_wp2_with fail
    go_ret
    refine post_ok rfl ?_ HT3.out HF3.out
    show _ = Value.int .i64 _
    rw [HL.out]
    simp
end Go.Proofs.YtiklkhbfilbpeaaGreatDoor.Sx
