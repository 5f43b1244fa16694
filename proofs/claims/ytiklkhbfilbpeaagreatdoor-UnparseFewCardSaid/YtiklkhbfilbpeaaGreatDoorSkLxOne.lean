/-
  Lexer: what is next: a newline, a note, a sign, or a word. Conditions: as each contract says.
-/
import Derived.Test.YtiklkhbfilbpeaaGreatDoorSkLxBodies
import Derived.MapKept
import Derived.Laws.EntriesVeiled
import Derived.Carry
set_option linter.unusedVariables false
set_option linter.unusedSimpArgs false
set_option maxRecDepth 100000
namespace Go.Proofs.YtiklkhbfilbpeaaGreatDoor
open Go.RowKit Base Lx
abbrev mpT : TypeId := 80
def putM (w : World) (m : Nat) (es : Array MapEntry) (c : Nat) : World := { w with heap := w.heap.setIfInBounds m (.map es c) }
theorem putM_at {w : World} {m : Nat} {es es' : Array MapEntry} {c c' : Nat} (h : w.heap[m]? = some (.map es c)) : (putM w m es' c').heap[m]? = some (.map es' c') := by
  have hm := (Array.getElem?_eq_some_iff.1 h).1
  simp [putM, Array.getElem?_setIfInBounds, hm]
theorem putM_grown {w : World} {m : Nat} {es : Array MapEntry} {c : Nat} : w.grownBy (putM w m es c) (some m) :=
  ⟨rfl, rfl, rfl, by simp [putM], fun k hk hne => by
    have : m ≠ k := fun e => hne (by rw [e])
    simp [putM, Array.getElem?_setIfInBounds, this]⟩
theorem und_mp : Tryz.prog.underlying mpT = some (.map 5 1) := by rfl
theorem check_u8 (e : Bool) (c : Int) (w : World) : (Instr.checkKey e 10000 5 (.int .u8 c)).run Tryz.prog w = .ok () w := by
  exact MapKept.run_checkKey (n := 9999) (k := .int .u8 c) Tryz.underlying5 rfl e
theorem upd_run {w : World} {m : Nat} {es : Array MapEntry} {c : Nat} {k : Int} {v : Value} (h : w.heap[m]? = some (.map es c)) (hf : Instr.findNow (.int .u8) (.int .u8 k) es.toList 0 = some none) :
    (Instr.mapUpdate mpT (.map (some m)) (.int .u8 k) v).run Tryz.prog w = .ok () (putM w m (es.push { key := .int .u8 k, val := v, born := c }) (c + 1)) := by
  simp [Instr.mapUpdate, run_underlying und_mp, MapKept.run_getObj_map h, check_u8, Instr.findKey, run_underlying Tryz.underlying5, hf, MapKept.run_setObj_map _ h, Result.andThen, putM]
theorem look_run {w : World} {m : Nat} {es : Array MapEntry} {c : Nat} {k : Int} (h : w.heap[m]? = some (.map es c)) (r : Option (Nat × Value)) (hf : Instr.findNow (.int .u8) (.int .u8 k) es.toList 0 = some r) :
    (Instr.lookup mpT (.map (some m)) (.int .u8 k) true).run Tryz.prog w = .ok (match r with | some x => .tuple #[x.2, .bool true] | none => .tuple #[.nilFunc, .bool false]) w := by
  have hz : (zeroValue 1).run Tryz.prog w = .ok .nilFunc w := by rfl
  cases r with
  | none => simp [Instr.lookup, run_underlying und_mp, MapKept.run_getObj_map h, check_u8, Instr.findKey, run_underlying Tryz.underlying5, hf, hz, Result.andThen]
  | some x => simp [Instr.lookup, run_underlying und_mp, MapKept.run_getObj_map h, check_u8, Instr.findKey, run_underlying Tryz.underlying5, hf, Result.andThen]
/-- What 'firsts' tells of a byte. -/
def firsts (f1 f2 : Value) (c : UInt8) : Value := if c = 10 then .tuple #[f1, .bool true] else if c = 35 then .tuple #[f2, .bool true] else .tuple #[.nilFunc, .bool false]
theorem two_map (w : World) (f1 f2 : Value) : ∃ w1 w2, (Instr.mapUpdate mpT (.map (some w.heap.size)) (.int .u8 10) f1).run Tryz.prog (w.alloc (.map #[] 0)) = .ok () w1 ∧ (Instr.mapUpdate mpT (.map (some w.heap.size)) (.int .u8 35) f2).run Tryz.prog w1 = .ok () w2 ∧ Below w.heap.size w w2 ∧
    ∀ c : UInt8, (Instr.lookup mpT (.map (some w.heap.size)) (.int .u8 (c.toNat : Int)) true).run Tryz.prog w2 = .ok (firsts f1 f2 c) w2 := by
  have h0 : (w.alloc (.map #[] 0)).heap[w.heap.size]? = some (.map #[] 0) := (MapKept.heap_alloc w _).1
  have h1 := putM_at (es' := #[{ key := .int .u8 10, val := f1, born := 0 }]) (c' := 1) h0
  have h2 := putM_at (es' := #[{ key := .int .u8 10, val := f1, born := 0 }, { key := .int .u8 35, val := f2, born := 1 }]) (c' := 2) h1
  have hal := (Below.refl w.heap.size w).alloc (Nat.le_refl _) (.map #[] 0)
  refine ⟨_, _, upd_run h0 rfl, upd_run h1 (by rfl), ?_, fun c => ?_⟩
  · exact ((hal.grown putM_grown (by rw [World.size_alloc]; omega) (fun j hj => by obtain rfl := Option.some.inj hj; exact Nat.le_refl _))).grown putM_grown (by simp [putM]) (fun j hj => by obtain rfl := Option.some.inj hj; exact Nat.le_refl _)
  · unfold firsts
    by_cases hc : c = 10
    · subst hc
      rw [if_pos rfl]
      exact look_run h2 (some (0, f1)) rfl
    · rw [if_neg hc]
      have n10 : ((c.toNat : Int) == 10) = false := by
        rw [beq_eq_false_iff_ne]
        exact fun e => hc (UInt8.toNat_inj.1 (by show c.toNat = 10; omega))
      by_cases hc2 : c = 35
      · subst hc2
        rw [if_pos rfl]
        exact look_run h2 (some (1, f2)) rfl
      · rw [if_neg hc2]
        have n35 : ((c.toNat : Int) == 35) = false := by
          rw [beq_eq_false_iff_ne]
          exact fun e => hc2 (UInt8.toNat_inj.1 (by show c.toNat = 35; omega))
        exact look_run h2 none (by simp [Instr.findNow, Instr.sameNow, n10, n35])
/-- The table of signs lies there. -/
abbrev gSig : Nat := 0
def SigT (W : World) : Prop := ∃ t fr, W.heap[gSig]? = some (.cells (signL.map fun o => Value.string (str o)).toArray t fr)
theorem SigT.below {W W' : World} {B : Nat} (h : SigT W) (hb : Below B W W') (hg : gSig < B) : SigT W' := by
  obtain ⟨t, fr, h⟩ := h
  exact ⟨t, fr, (hb.block _ hg).trans h⟩
theorem SigT.lt {W : World} (h : SigT W) : gSig < W.heap.size := by
  obtain ⟨t, fr, h⟩ := h
  exact (Array.getElem?_eq_some_iff.1 h).1
def SignPost (W : World) (b B K g : Nat) (l : List Tok) (hh : List Nat) (s : Nm) (vh : Value) (r : Ending) (W' : World) : Prop :=
  match signOf s with
  | none => r = .returned (.bool false) ∧ W' = W
  | some o => r = .returned (.bool true) ∧ Below B W W' ∧ ∃ vl', LxSt W' b B K g (l ++ [⟨2, o, [], g⟩]) hh (s.drop o.length) vl' vh
set_option maxHeartbeats 4000000 in
theorem sign_calls (W : World) (b B K g : Nat) (l : List Tok) (hh : List Nat) (s : Nm) (vl vh : Value) (h : LxSt W b B K g l hh s vl vh) (hl : l.length ≤ 90000) (hO : SigT W) :
    Calls Tryz.prog 48 #[.pointer (some ⟨b, 0, none⟩)] W (SignPost W b B K g l hh s vh) := by
  have HS := Lib.hid h
  obtain ⟨tt, fr, hot⟩ := hO
  have HOt := Lib.hid hot
  clear h hot
  go_enter Tryz.func48, Tryz.ntmps48
  go_wp2_with (refine wpList_load_row rfl 96 _ rfl gSig rfl tt _ fr _ HOt.out Tryz.underlying96 rfl (by kernel_rfl) ?_)
  go_loopw [6] (fun v6 wr => ∃ i : Nat, i ≤ 11 ∧ v6 = .int .i64 (i : Int) ∧ wr = W ∧ ∀ j, (hj : j < i) → (h12 : j < signL.length) → has signL[j] s = false) (fun v6 _ => (match v6 with | .int _ z => 11 - z.toNat | _ => 0))
  case atStart => exact ⟨0, Nat.zero_le _, rfl, rfl, fun j hj => absurd hj (Nat.not_lt_zero _)⟩
  case round =>
    obtain ⟨i, hi, rfl, hwr, hall⟩ := hrel
    have HAll := Lib.hid hall
    clear hall
    have hwr2 := hwr.symm
    subst hwr2
    clear hwr
    by_cases h12 : i < 11
    case neg =>
      obtain rfl : i = 11 := by omega
      have HNo : Hid (signOf s = none) := by
        show _ = _
        unfold signOf
        rw [List.find?_eq_none]
        intro o ho
        obtain ⟨j, hj, rfl⟩ := List.getElem_of_mem ho
        rw [HAll.out j hj hj]
        simp
      go_wp2_with fail
      go_ret
      unfold SignPost
      rw [HNo.out]
      exact ⟨rfl, rfl⟩
    have hil : i < signL.length := h12
    obtain ⟨o, ho⟩ : ∃ o, signL[i] = o := ⟨_, rfl⟩
    have xI : ∀ w' : World, (Instr.index 96 (.agg #[.string (str [38, 38]), .string (str [124, 124]), .string (str [59, 59]), .string (str [60, 60]), .string (str [62, 62]), .string (str [59]), .string (str [124]), .string (str [40]), .string (str [41]), .string (str [60]), .string (str [62])]) (.int .i64 (i : Int))).run Tryz.prog w' = .ok (.string (str o)) w' := fun w' => by
      subst ho
      match i, h12 with
      | 0, _ => rfl
      | 1, _ => rfl
      | 2, _ => rfl
      | 3, _ => rfl
      | 4, _ => rfl
      | 5, _ => rfl
      | 6, _ => rfl
      | 7, _ => rfl
      | 8, _ => rfl
      | 9, _ => rfl
      | 10, _ => rfl
    have HOi := Lib.hid ho
    have a1 : decide ((i : Int) < (11 : Int)) = true := decide_eq_true (by omega)
    have a2 : (i : Int) < (11 : Int) := by omega
    clear ho
    go_wp2_with fail
    refine (has_calls W b s K g vl vh HS.out.rd o).mono ?_
    rintro r w6 ⟨rfl, hw6⟩
    obtain rfl := hw6.symm
    by_cases hh2 : has o s = true
    case neg =>
      have hh2 : has o s = false := by simpa using hh2
      rw [hh2]
      have HAl2 : Hid (∀ j, (hj : j < i + 1) → (h12 : j < signL.length) → has signL[j] s = false) := fun j hj hj12 => by
        by_cases e : j = i
        · subst e; rw [HOi.out]; exact hh2
        · exact HAll.out j (by omega) hj12
      clear hh2 xI
      go_wp2_with fail
      go_roundw
      case rel => exact ⟨i + 1, by omega, by go_num, trivial, HAl2.out⟩
      case measure => simp; omega
    rw [hh2]
    have HOo : Hid (signOf s = some o) := by
      show _ = _
      unfold signOf
      rw [List.find?_eq_some_iff_getElem]
      exact ⟨hh2, i, hil, HOi.out, fun j hj => by rw [HAll.out j hj (by omega)]; rfl⟩
    have hol : o.length ≤ s.length := has_len hh2
    have e1 : (str o).size = o.length := rfl
    clear hh2 xI
    go_wp2_with fail
    refine (take_yes _ b s K g vl vh HS.out.rd o.length hol).mono ?_
    rintro r w7 ⟨rfl, ht, hr⟩
    have HST := HS.out.turn ht hr
    have HS7 := Lib.hid HST.1
    have HB7 := Lib.hid HST.2
    clear ht hr HST
    go_wp2_with fail
    refine (put_calls w7 b B K g l hh (s.drop o.length) vl vh HS7.out 2 o (by omega)).mono ?_
    rintro r w8 ⟨rfl, hb8, vl8, hs8⟩
    have HF : Hid (Below B W w8 ∧ ∃ vl', LxSt w8 b B K g (l ++ [⟨2, o, [], g⟩]) hh (s.drop o.length) vl' vh) := ⟨HB7.out.trans hb8, vl8, hs8⟩
    clear hb8 hs8
    go_wp2_with fail
    go_ret
    unfold SignPost
    rw [HOo.out]
    exact ⟨rfl, HF.out⟩
set_option maxHeartbeats 1000000 in
theorem note_calls (W : World) (b B K g : Nat) (l : List Tok) (hh : List Nat) (s : Nm) (vl vh : Value) (h : LxSt W b B K g l hh s vl vh) :
    Calls Tryz.prog 44 #[.pointer (some ⟨b, 0, none⟩)] W fun r W' => r = .returned (.tuple #[]) ∧ Below B W W' ∧ LxSt W' b B K g l hh (s.drop (cutLn s).1.length) vl vh := by
  have HS := Lib.hid h
  have hsl := h.rd.len
  obtain ⟨⟨c0, c1, c2, c3, c4⟩, f0, f1, f2, f3, f4⟩ := rd_cells h.rd.box
  clear h
  go_enter Tryz.func44, Tryz.ntmps44
  go_wp2_with fail
  refine (cut_calls W s 10 (by omega)).mono ?_
  rintro r w3 ⟨hr, nd, hw3⟩
  have hb3 : Below W.heap.size W w3 := by rw [hw3]; exact drewN_below _ _
  have HS3 := Lib.hid (HS.out.below hb3)
  have HB3 : Hid (Below B W w3) := hb3.mono HS.out.size
  clear hw3 hb3 c0 c1 c2 c3 c4 f0 f1 f2 f3 f4
  have hc : ∃ (ln rs : Nm) (bo : Bool), (cutLn s).1 = ln ∧ r = .returned (.tuple #[.string (str ln), .string (str rs), .bool bo]) ∧ ln.length ≤ s.length := by
    cases hc : cutAt 10 s with
    | none => rw [hc] at hr; exact ⟨s, [], false, by rw [cutLn_none hc], hr, Nat.le_refl _⟩
    | some x => rw [hc] at hr; exact ⟨x.1, x.2, true, by rw [cutLn_some hc], hr, by have := congrArg List.length (cut_len hc); simp at this; omega⟩
  obtain ⟨ln, rs, bo, hln, rfl, hle⟩ := hc
  have HLn := Lib.hid hln
  have e1 : (str ln).size = ln.length := rfl
  clear hln
  go_wp2_with fail
  refine (take_yes w3 b s K g vl vh HS3.out.rd ln.length hle).mono ?_
  rintro r w4 ⟨rfl, ht, hr⟩
  have HST := Lib.hid (HS3.out.turn ht hr)
  clear ht hr
  go_wp2_with fail
  refine bodyPost_end (v := .tuple #[]) (results_none rfl _ _ _) rfl ?_
  exact ⟨rfl, HB3.out.trans HST.out.2, by rw [HLn.out]; exact HST.out.1⟩
set_option maxHeartbeats 1000000 in
theorem newline_calls (W : World) (b B K g : Nat) (l : List Tok) (hh : List Nat) (s : Nm) (vl vh : Value) (h : LxSt W b B K g l hh (10 :: s) vl vh) (hi : ∀ i ∈ hh, i < l.length) (hhl : hh.length ≤ 80000) (hl : l.length ≤ 80000) (hb : Bd l (10 :: s).length) (X : Except Int (List Tok × Nm)) (hX : bodiesM hh (l ++ [⟨3, [], [], g⟩]) s = X) :
    Calls Tryz.prog 43 #[.pointer (some ⟨b, 0, none⟩)] W (BodPost W b B K g X) := by
  have HS := Lib.hid h
  have hsl := h.rd.len
  simp at hsl
  have HI : Hid (∀ i ∈ hh, i < (l ++ [(⟨3, [], [], g⟩ : Tok)]).length) := fun i hi2 => by have := hi i hi2; simp; omega
  have HBd : Hid (Bd (l ++ [(⟨3, [], [], g⟩ : Tok)]) s.length) := fun t ht => by
    rcases List.mem_append.1 ht with ht | ht
    · have := hb t ht; simp at this; omega
    · obtain rfl := List.mem_singleton.1 ht; simp; omega
  clear h hi hb
  go_enter Tryz.func43, Tryz.ntmps43
  go_wp2_with fail
  refine (take_yes W b (10 :: s) K g vl vh HS.out.rd 1 (by simp)).mono ?_
  rintro r w2 ⟨rfl, ht, hr⟩
  have HST := HS.out.turn ht (q := s) hr
  have HS2 := Lib.hid HST.1
  have HB2 := Lib.hid HST.2
  clear ht hr HST
  go_wp2_with fail
  refine (put_calls w2 b B K g l hh s vl vh HS2.out 3 [] (by omega)).mono ?_
  rintro r w3 ⟨rfl, hb3, vl3, hs3⟩
  have HS3 := Lib.hid hs3
  have HB3 := Lib.hid (HB2.out.trans hb3)
  clear hb3 hs3
  go_wp2_with fail
  refine (bodies_calls w3 b B K g _ hh s vl3 vh HS3.out HI.out (by omega) (by simp; omega) HBd.out X hX).mono ?_
  rintro r w4 hp
  cases X with
  | error e =>
    obtain ⟨rfl, hb4⟩ := hp
    exact ⟨rfl, rfl, HB3.out.trans hb4⟩
  | ok y =>
    obtain ⟨rfl, hb4, hs4⟩ := hp
    have HF : Hid (BodPost W b B K g (.ok y) (.returned (.tuple #[])) w4) := ⟨rfl, HB3.out.trans hb4, hs4⟩
    clear hb4 hs4
    go_wp2_with fail
    refine bodyPost_end (v := .tuple #[]) (results_none rfl _ _ _) rfl ?_
    exact HF.out
/-- A token begins. -/
theorem LxSt.begin {W : World} {b B K g : Nat} {l : List Tok} {hh : List Nat} {s : Nm} {vl vh : Value} (h : LxSt W b B K g l hh s vl vh) (g' : Nat) :
    LxSt (W.setCell ⟨b, 2, none⟩ (.int .i64 (g' : Int))) b B K g' l hh s vl vh ∧ Below B W (W.setCell ⟨b, 2, none⟩ (.int .i64 (g' : Int))) := by
  have hs := heap_setCell_same W b 2 _ _ (.int .i64 (g' : Int)) h.rd.box
  have ht : Turn b W (W.setCell ⟨b, 2, none⟩ (.int .i64 (g' : Int))) := Turn.of_box (Sl.setCells_grown b [.int .i64 (g' : Int)] 2 W)
  refine ⟨⟨⟨hs, h.rd.le, h.rd.big, h.rd.len⟩, ?_, ?_, h.bB⟩, ht.below h.bB h.size⟩
  · exact own_keep h.toks (fun j X hj hX => ht.block j (Array.getElem?_eq_some_iff.1 hX).1 (fun e => by
      subst e; exact own_ne (k' := 0) h.toks h.rd.box (by decide) hj))
  · exact own_keep h.here (fun j X hj hX => ht.block j (Array.getElem?_eq_some_iff.1 hX).1 (fun e => by
      subst e; exact own_ne (k' := 0) h.here h.rd.box (by decide) hj))
def OnePost (W : World) (b B K g : Nat) (x : Except Int St) (r : Ending) (W' : World) : Prop :=
  match x with
  | .error e => r = panEnd e g ∧ Below B W W'
  | .ok y => r = .returned (.tuple #[]) ∧ Below B W W' ∧ ∃ vl vh, LxSt W' b B K g y.1 y.2.1 y.2.2 vl vh
theorem one_err {W W' : World} {b B K g : Nat} {x : Except Int St} {e : Int} (hx : x = .error e) (h : Below B W W') : OnePost W b B K g x (panEnd e g) W' := by subst hx; exact ⟨rfl, h⟩
theorem one_ok {W W' : World} {b B K g : Nat} {x : Except Int St} {l : List Tok} {hh : List Nat} {q : Nm} {vl vh : Value} (hx : x = .ok (l, hh, q)) (h : Below B W W') (hs : LxSt W' b B K g l hh q vl vh) : OnePost W b B K g x (.returned (.tuple #[])) W' := by subst hx; exact ⟨rfl, h, vl, vh, hs⟩
set_option maxHeartbeats 8000000 in
theorem one_calls (W : World) (b B K g0 : Nat) (l : List Tok) (hh : List Nat) (c : UInt8) (s : Nm) (vl vh : Value) (h : LxSt W b B K g0 l hh (c :: s) vl vh) (hi : ∀ i ∈ hh, i < l.length) (hhl : hh.length ≤ 80000) (hl : l.length ≤ 80000) (hb : Bd l (c :: s).length) (hO : SigT W) (hg : gSig < B) (X : Except Int St) (hX : oneM (K - nl (c :: s)) l hh (c :: s) = X) :
    Calls Tryz.prog 20 #[.pointer (some ⟨b, 0, none⟩)] W (OnePost W b B K (K - nl (c :: s)) X) := by
  obtain ⟨g, hgd⟩ : ∃ g, K - nl (c :: s) = g := ⟨_, rfl⟩
  have HBeg := h.begin g
  have HS1 := Lib.hid HBeg.1
  have HB1 := Lib.hid HBeg.2
  have HI := Lib.hid hi
  have HBd := Lib.hid hb
  have hsl := h.rd.len
  obtain ⟨⟨c0, c1, c2, c3, c4⟩, f0, f1, f2, f3, f4⟩ := rd_cells h.rd.box
  rw [hgd] at hX c1 ⊢
  have HX := Lib.hid hX
  have HO1 : Hid (SigT (W.setCell ⟨b, 2, none⟩ (.int .i64 (g : Int)))) := hO.below HBeg.2 hg
  clear h hi hb hX hgd HBeg hO
  have hmf : ∀ (fn : Fn) (first cap : Array Value) (w : World), (Instr.makeFunc fn first cap).run Tryz.prog w = .ok (.func fn first cap) w := fun _ _ _ _ => rfl
  go_enter Tryz.func20, Tryz.ntmps20
  go_upto_region 1 with fail
  clear c0 c1 c2 c3 c4 f0 f1 f2 f3 f4
  generalize W.setCell ⟨b, 2, none⟩ (.int .i64 (g : Int)) = w1 at *
  obtain ⟨wa, wb, hu1, hu2, hbb, hlk⟩ := two_map w1 (.func (.func 43) #[.pointer (some ⟨b, 0, none⟩)] #[]) (.func (.func 44) #[.pointer (some ⟨b, 0, none⟩)] #[])
  have HS2 := Lib.hid (HS1.out.below hbb)
  have HB2 := Lib.hid (HB1.out.trans (hbb.mono HS1.out.size))
  have HO2 := Lib.hid (HO1.out.below (hbb.mono HS1.out.size) hg)
  obtain ⟨⟨c0, c1, c2, c3, c4⟩, f0, f1, f2, f3, f4⟩ := rd_cells HS2.out.rd.box
  have e1 : (str (c :: s)).size = s.length + 1 := rfl
  have hb0 : ∀ h : 0 < (str (c :: s)).size, (str (c :: s))[0]'h = c := fun _ => rfl
  have hmk : ∀ w : World, (Instr.makeMap mpT none).run Tryz.prog w = .ok (.map (some w.heap.size)) (w.alloc (.map #[] 0)) := fun w => run_makeMap _ w
  have hlkc := hlk c
  unfold firsts at hlkc
  clear hlk hbb HS1 HB1 HO1
  by_cases h10 : c = 10
  · subst h10
    have hlk2 : (Instr.lookup mpT (.map (some w1.heap.size)) (.int .u8 10) true).run Tryz.prog wb = .ok (.tuple #[.func (.func 43) #[.pointer (some ⟨b, 0, none⟩)] #[], .bool true]) wb := hlkc
    have hb1 : (10 : UInt8).toNat = 10 := rfl
    clear hlkc
    obtain ⟨Y, hY⟩ : ∃ Y, bodiesM hh (l ++ [⟨3, [], [], g⟩]) s = Y := ⟨_, rfl⟩
    have HE : Hid (X = bnd Y fun x => .ok (x.1, [], x.2)) := by show _ = _; rw [← HX.out, ← hY]; rfl
    go_wp2_with fail
    refine (newline_calls wb b B K g l hh s vl vh HS2.out HI.out hhl hl HBd.out Y hY).mono ?_
    rintro r w4 hp
    cases Y with
    | error e =>
      obtain ⟨rfl, hb4⟩ := hp
      exact ⟨rfl, one_err HE.out (HB2.out.trans hb4)⟩
    | ok y =>
      obtain ⟨rfl, hb4, vl4, vh4, hs4⟩ := hp
      have HS4 := Lib.hid hs4
      have HB4 := Lib.hid (HB2.out.trans hb4)
      clear hb4 hs4 hY
      go_wp2_with fail
      refine bodyPost_end (v := .tuple #[]) (results_none rfl _ _ _) rfl ?_
      exact one_ok HE.out HB4.out HS4.out
  by_cases h35 : c = 35
  · subst h35
    have hlk2 : (Instr.lookup mpT (.map (some w1.heap.size)) (.int .u8 35) true).run Tryz.prog wb = .ok (.tuple #[.func (.func 44) #[.pointer (some ⟨b, 0, none⟩)] #[], .bool true]) wb := hlkc
    have hb1 : (35 : UInt8).toNat = 35 := rfl
    have HE : Hid (X = .ok (l, hh, (35 :: s).drop (cutLn (35 :: s)).1.length)) := HX.out.symm
    clear hlkc h10
    go_wp2_with fail
    refine (note_calls wb b B K g l hh (35 :: s) vl vh HS2.out).mono ?_
    rintro r w4 ⟨rfl, hb4, hs4⟩
    have HS4 := Lib.hid hs4
    have HB4 := Lib.hid (HB2.out.trans hb4)
    clear hb4 hs4
    go_wp2_with fail
    refine bodyPost_end (v := .tuple #[]) (results_none rfl _ _ _) rfl ?_
    exact one_ok HE.out HB4.out HS4.out
  rw [if_neg h10, if_neg h35] at hlkc
  by_cases hj : has [92, 10] (c :: s) = true
  · obtain ⟨rfl, hq1⟩ := join_split hj
    have HE : Hid (X = .ok (l, hh, s.drop 1)) := by show _ = _; rw [← HX.out]; unfold oneM; simp only; rw [if_neg h10, if_neg h35, if_pos hj]
    have HJ := Lib.hid hj
    have hlk2 : (Instr.lookup mpT (.map (some w1.heap.size)) (.int .u8 92) true).run Tryz.prog wb = .ok (.tuple #[.nilFunc, .bool false]) wb := hlkc
    have hb1 : (92 : UInt8).toNat = 92 := rfl
    clear hj h10 h35 hlkc
    go_wp2_with fail
    refine (has_calls wb b (92 :: s) K g vl vh HS2.out.rd [92, 10]).mono ?_
    rintro r wn ⟨rfl, hwn⟩
    obtain rfl := hwn.symm
    rw [HJ.out]
    go_wp2_with fail
    refine (take_yes wb b (92 :: s) K g vl vh HS2.out.rd 2 (by simp; omega)).mono ?_
    rintro r w4 ⟨rfl, ht, hr⟩
    have HST := HS2.out.turn ht (q := s.drop 1) hr
    have HS4 := Lib.hid HST.1
    have HB4 := Lib.hid (HB2.out.trans HST.2)
    clear ht hr HST
    go_wp2_with fail
    refine bodyPost_end (v := .tuple #[]) (results_none rfl _ _ _) rfl ?_
    exact one_ok HE.out HB4.out HS4.out
  have hj : has [92, 10] (c :: s) = false := by simpa using hj
  have HJ := Lib.hid hj
  have hx1 : (str (c :: s)).extract 0 1 = str [c] := Sw.str_sub _ _ _
  have e2 : (1 : Int) ≤ ((str (c :: s)).size : Int) := by rw [e1]; omega
  obtain ⟨bl, hbl⟩ : ∃ bl, ([32, 9] : Nm).contains c = bl := ⟨_, rfl⟩
  have HBl := Lib.hid hbl
  go_wp2_with fail
  refine (has_calls wb b (c :: s) K g vl vh HS2.out.rd [92, 10]).mono ?_
  rintro r wn ⟨rfl, hwn⟩
  obtain rfl := hwn.symm
  rw [HJ.out]
  clear hbl
  go_wp2_with fail
  refine (Tryz.strings_Contains_one (str [32, 9]) c _).mono ?_
  rintro q w3 ⟨rfl, hw3⟩
  obtain rfl := hw3.symm
  rw [str_dl, idx_contains, HBl.out]
  cases bl with
  | true =>
    have hc9 : c = 32 ∨ c = 9 := by have := HBl.out; simpa using this
    have HE : Hid (X = .ok (l, hh, s)) := by show _ = _; rw [← HX.out]; unfold oneM; simp only; rw [if_neg h10, if_neg h35, if_neg (by simp [hj]), if_pos hc9]
    clear hc9 h10 h35 hj
    go_wp2_with fail
    refine (take_yes wb b (c :: s) K g vl vh HS2.out.rd 1 (by simp)).mono ?_
    rintro r w4 ⟨rfl, ht, hr⟩
    have HST := HS2.out.turn ht (q := s) hr
    have HS4 := Lib.hid HST.1
    have HB4 := Lib.hid (HB2.out.trans HST.2)
    clear ht hr HST
    go_wp2_with fail
    refine bodyPost_end (v := .tuple #[]) (results_none rfl _ _ _) rfl ?_
    exact one_ok HE.out HB4.out HS4.out
  | false =>
    have hc9 : ¬ (c = 32 ∨ c = 9) := by have := HBl.out; simpa using this
    have HD : Hid (oneM g l hh (c :: s) = match signOf (c :: s) with
      | some o => .ok (l ++ [⟨2, o, [], g⟩], hh, (c :: s).drop o.length)
      | none =>
        if c = 38 then .error 20
        else bnd (wordM (c :: s)) fun x =>
          if isIo (c :: s) x.1 x.2 then .ok (l ++ [⟨5, x.1, [], g⟩], hh, x.2)
          else .ok (l ++ [⟨1, x.1, [], g⟩], if isHere l then hh ++ [l.length] else hh, x.2)) := by show _ = _; unfold oneM; simp only; rw [if_neg h10, if_neg h35, if_neg (by simp [hj]), if_neg hc9]; cases signOf (c :: s) <;> rfl
    clear hc9 h10 h35 hj hb0 hx1 e2 hlkc
    go_wp2_with fail
    refine (sign_calls wb b B K g l hh (c :: s) vl vh HS2.out (by omega) HO2.out).mono ?_
    rintro r w4 hp
    cases hsg : signOf (c :: s) with
    | some o =>
      unfold SignPost at hp
      rw [hsg] at hp
      obtain ⟨rfl, hb4, vl4, hs4⟩ := hp
      have HE : Hid (X = .ok (l ++ [⟨2, o, [], g⟩], hh, (c :: s).drop o.length)) := by show _ = _; rw [← HX.out, HD.out, hsg]
      have HS4 := Lib.hid hs4
      have HB4 := Lib.hid (HB2.out.trans hb4)
      clear hb4 hs4 hsg
      go_wp2_with fail
      refine bodyPost_end (v := .tuple #[]) (results_none rfl _ _ _) rfl ?_
      exact one_ok HE.out HB4.out HS4.out
    | none =>
      unfold SignPost at hp
      rw [hsg] at hp
      obtain ⟨rfl, hw4⟩ := hp
      obtain rfl := hw4.symm
      rw [hsg] at HD
      clear hsg
      by_cases h38 : c = 38
      · subst h38
        have HE : Hid (X = .error 20) := by show _ = _; rw [← HX.out, HD.out]; rfl
        go_wp2_with fail
        refine (has_calls wb b (38 :: s) K g vl vh HS2.out.rd [38]).mono ?_
        rintro r wn ⟨rfl, hwn⟩
        obtain rfl := hwn.symm
        rw [show has [38] (38 :: s) = true from rfl]
        go_wp2_with fail
        refine (fail_calls wb b (38 :: s) K g vl vh HS2.out.rd 20).mono ?_
        rintro r w9 ⟨rfl, rfl⟩
        exact ⟨rfl, one_err HE.out HB2.out⟩
      · have H38 : Hid (has [38] (c :: s) = false) := has_first (Ne.symm h38)
        have HD2 : Hid (X = bnd (wordM (c :: s)) fun x =>
          if isIo (c :: s) x.1 x.2 then .ok (l ++ [⟨5, x.1, [], g⟩], hh, x.2)
          else .ok (l ++ [⟨1, x.1, [], g⟩], if isHere l then hh ++ [l.length] else hh, x.2)) := by show _ = _; rw [← HX.out, HD.out]; simp only; rw [if_neg h38]
        clear h38
        go_wp2_with fail
        refine (has_calls wb b (c :: s) K g vl vh HS2.out.rd [38]).mono ?_
        rintro r wn ⟨rfl, hwn⟩
        obtain rfl := hwn.symm
        rw [H38.out]
        go_wp2_with fail
        refine (word_calls wb b B K g l hh (c :: s) vl vh HS2.out (by omega) (by omega)).mono ?_
        rintro r w4 hp
        unfold WordPost at hp
        cases hwd : wordM (c :: s) with
        | error e =>
          rw [hwd] at hp
          obtain ⟨rfl, hb4⟩ := hp
          exact ⟨rfl, one_err (by rw [HD2.out, hwd]; rfl) (HB2.out.trans hb4)⟩
        | ok y =>
          rw [hwd] at hp
          obtain ⟨rfl, hb4, vl4, vh4, hs4⟩ := hp
          have HF : Hid (OnePost W b B K g X (.returned (.tuple #[])) w4) := by
            show OnePost _ _ _ _ _ _ _ _
            rw [HD2.out, hwd, bnd_ok]
            split at hs4
            · rename_i hio
              rw [if_pos hio]
              exact ⟨rfl, HB2.out.trans hb4, vl4, vh4, hs4⟩
            · rename_i hio
              rw [if_neg hio]
              exact ⟨rfl, HB2.out.trans hb4, vl4, vh4, hs4⟩
          clear hb4 hs4 hwd
          go_wp2_with fail
          refine bodyPost_end (v := .tuple #[]) (results_none rfl _ _ _) rfl ?_
          exact HF.out
end Go.Proofs.YtiklkhbfilbpeaaGreatDoor
