/-
  Lexer: a word. Conditions: as each contract says.
-/
import Derived.Test.YtiklkhbfilbpeaaGreatDoorSkLxPut
import Derived.Shelf.Strings.SlTrimAscii
set_option linter.unusedVariables false
set_option linter.unusedSimpArgs false
set_option maxRecDepth 100000
namespace Go.Proofs.YtiklkhbfilbpeaaGreatDoor
open Go.RowKit Base Lx
abbrev digs : Nm := [48, 49, 50, 51, 52, 53, 54, 55, 56, 57]
theorem trim_calls (W : World) (s : Nm) (hs : s.length ≤ 1000000) : Calls Tryz.prog 70 #[.string (str s), .string (str digs)] W fun e w' => e = .returned (.string (str (Lib.trimS s digs))) ∧ Below W.heap.size W w' := by
  have h := Any.strings_Trim_laid (P := Tryz.prog) Tryz.lays160 (by kernel_rfl) (str s) (str digs) W (by rw [str_size]; omega) (by decide) (fun j b hb => by
    have : b ∈ digs := List.mem_of_getElem? hb
    simp at this
    rcases this with rfl | rfl | rfl | rfl | rfl | rfl | rfl | rfl | rfl | rfl <;> decide)
  exact h
theorem dig_in (c : UInt8) : digs.contains c = digB c := by
  have h : ∀ n : Fin 256, digs.contains (UInt8.ofNat n.val) = digB (UInt8.ofNat n.val) := by decide
  have := h ⟨c.toNat, c.toNat_lt⟩
  simpa using this
theorem dropWhile_nil {p : UInt8 → Bool} : ∀ l : Nm, l.dropWhile p = [] ↔ l.all p = true
  | [] => by simp
  | c :: r => by
    rw [List.dropWhile_cons, List.all_cons]
    by_cases h : p c = true
    · rw [if_pos h, dropWhile_nil r]; simp [h]
    · rw [if_neg h]; simp [h]
theorem trim_nil (s : Nm) : Lib.trimS s digs = [] ↔ s.all digB = true := by
  have hf : (fun c => digs.contains c) = digB := funext dig_in
  unfold Lib.trimS Lib.trimLeftS Lib.trimRightS
  rw [hf]
  rw [dropWhile_nil, List.all_reverse]
  constructor
  · intro h
    rw [← List.all_reverse]
    have h1 : (s.reverse.dropWhile digB).all digB = true := h
    have h2 := List.takeWhile_append_dropWhile (p := digB) (l := s.reverse)
    rw [← h2, List.all_append, h1, Bool.and_true]
    exact List.all_takeWhile
  · intro h
    have : s.reverse.dropWhile digB = [] := (dropWhile_nil _).2 (by rw [List.all_reverse]; exact h)
    rw [this]; rfl
/-- A row of tokens, as its cells. -/
theorem toks_at {W : World} {B : Nat} {v : Value} {l : List Tok} (h : W.ownsRow B tkT 4 v l.length (l.flatMap tkC)) : ∃ a c, v = .slice a l.length c ∧ ∃ b1 off, (∀ k (hk : k < l.length), Ap.cellsAt tkC W b1 (off + k * 4) l[k]) ∧
    ∀ (k : Nat) (w' : World), k < l.length → (Instr.indexAt 39 (.slice a l.length c) (.int .i64 (k : Int))).run Tryz.prog w' = .ok (.pointer (some ⟨b1, off + k * 4, none⟩)) w' := by
  obtain ⟨i0, hi0, hz0, hz1, hz2⟩ := info_parts info_tk
  obtain ⟨a, c, rfl, hr⟩ := Ap.own_cells (by decide) tkC_len h
  obtain ⟨b1, off, h1, h2⟩ := hr.at (P := Tryz.prog)
  exact ⟨a, c, rfl, b1, off, h1, fun k w' hk => h2 39 tkT i0 Tryz.underlying39 hi0 hz1 .i64 k w' hk⟩
theorem last_split {l : List Tok} (h : l ≠ []) : ∃ l' t, l = l' ++ [t] := ⟨l.dropLast, l.getLast h, (List.dropLast_concat_getLast h).symm⟩
theorem isHere_app (l : List Tok) (t : Tok) : isHere (l ++ [t]) = (decide (t.k = 2) && decide (t.t = [60, 60])) := by
  unfold isHere; rw [List.getLast?_append]; rfl
theorem last_at {W : World} {B : Nat} {v : Value} {l : List Tok} {t : Tok} {L : Nat} (hL : (l ++ [t]).length = L) (h : W.ownsRow B tkT 4 v (l ++ [t]).length ((l ++ [t]).flatMap tkC)) : ∃ a c, v = .slice a L c ∧ ∃ b1 z, W.cell? ⟨b1, z, none⟩ = some (.int .i64 (t.k : Int)) ∧ W.cell? ⟨b1, z + 1, none⟩ = some (.string (str t.t)) ∧ W.cell? ⟨b1, z + 3, none⟩ = some (.int .i64 (t.ln : Int)) ∧
    ∀ w', (Instr.indexAt 39 (.slice a L c) (.int .i64 ((L : Int) - 1))).run Tryz.prog w' = .ok (.pointer (some ⟨b1, z, none⟩)) w' := by
  obtain ⟨a, c, rfl, b1, off, h1, h2⟩ := toks_at h
  have hl : (l ++ [t]).length = l.length + 1 := by simp
  have h3 := h1 l.length (by omega)
  rw [List.getElem_append_right (Nat.le_refl _)] at h3
  simp only [Nat.sub_self, List.getElem_cons_zero] at h3
  rw [hL]
  refine ⟨a, c, rfl, b1, off + l.length * 4, h3 0 _ rfl, h3 1 _ rfl, h3 3 _ rfl, fun w' => ?_⟩
  have := h2 l.length w' (by omega)
  rw [hL] at this
  rw [show (L : Int) - 1 = (l.length : Int) by omega]
  exact this
/-- The row of here-documents' numbers has one more. -/
theorem LxSt.hereAdd {W W1 : World} {b B K g : Nat} {l : List Tok} {hh : List Nat} {s : Nm} {vl vh vh' : Value} {i : Nat} (h : LxSt W b B K g l hh s vl vh) (hg : W.grownBy W1 vh.ownBlock) (ho : W1.ownsRow B inT 1 vh' (hh.length + 1) (hh.map iv ++ [iv i])) :
    W1.heap[b]? = W.heap[b]? ∧ LxSt (W1.setCell ⟨b, 4, none⟩ vh') b B K g l (hh ++ [i]) s vl vh' ∧ Below B W (W1.setCell ⟨b, 4, none⟩ vh') := by
  have hb : W1.heap[b]? = W.heap[b]? := hg.block b h.rd.lt (fun e => own_ne (k' := 0) h.here h.rd.box (by decide) e.symm)
  have hbx : W1.heap[b]? = some (.cells #[.string (str s), .int .i64 ((K - nl s : Nat) : Int), .int .i64 (g : Int), vl, vh] rdT) := hb.trans h.rd.box
  have hs := heap_setCell_same W1 b 4 _ _ vh' hbx
  have hgr : W1.grownBy (W1.setCell ⟨b, 4, none⟩ vh') (some b) := Sl.setCells_grown b [vh'] 4 W1
  have hlt1 : ∀ (j : Nat) (X : Array Value) (e : TypeId), W1.heap[j]? = some (.cells X e) → e ≠ rdT → (W1.setCell ⟨b, 4, none⟩ vh').heap[j]? = W1.heap[j]? := fun j X e hX hne => hgr.block j (Array.getElem?_eq_some_iff.1 hX).1 (fun ej => by
    obtain rfl := Option.some.inj ej
    rw [hX] at hbx
    injection hbx with hbx
    injection hbx with _ hT _
    exact hne hT)
  refine ⟨hb, ⟨⟨hs, h.rd.le, h.rd.big, h.rd.len⟩, ?_, ?_, h.bB⟩, ⟨hgr.os.trans hg.os, hgr.tape.trans hg.tape, hgr.output.trans hg.output, Nat.le_trans hg.size hgr.size, fun j hj => ?_⟩⟩
  · have h1 : W1.ownsRow B tkT 4 vl l.length (l.flatMap tkC) := own_keep h.toks (fun j X hj hX => hg.block j (Array.getElem?_eq_some_iff.1 hX).1 (fun e => own_ne (k' := 0) h.here hX (by decide) e.symm))
    exact own_keep h1 (fun j X _ hX => hlt1 j X tkT hX (by decide))
  · rw [List.length_append, List.map_append]
    exact own_keep ho (fun j X _ hX => hlt1 j X inT hX (by decide))
  · have h1 : j ≠ b := by have := h.bB; omega
    have hjs : j < W.heap.size := Nat.lt_of_lt_of_le hj h.size
    exact (hgr.block j (Nat.lt_of_lt_of_le hjs hg.size) (fun e => h1 (Option.some.inj e))).trans (hg.block j hjs (fun e => by have := (h.here.lt _ e.symm).1; omega))
/-- How long the text is that a reader has left. -/
def txtLen (W : World) (b : Nat) : Nat := match W.cell? ⟨b, 0, none⟩ with
  | some (.string t) => t.size
  | _ => 0
theorem rd_len {W : World} {b : Nat} {s : Nm} {K g : Nat} {vl vh : Value} (h : Rd W b s K g vl vh) : txtLen W b = s.length := by
  unfold txtLen; rw [(rd_cells h.box).1.1]; rfl
def WordPost (W : World) (b B K g : Nat) (l : List Tok) (hh : List Nat) (s : Nm) (r : Ending) (W' : World) : Prop :=
  match wordM s with
  | .error e => r = panEnd e g ∧ Below B W W'
  | .ok x => r = .returned (.tuple #[]) ∧ Below B W W' ∧ ∃ vl' vh', if isIo s x.1 x.2 then LxSt W' b B K g (l ++ [⟨5, x.1, [], g⟩]) hh x.2 vl' vh' else LxSt W' b B K g (l ++ [⟨1, x.1, [], g⟩]) (if isHere l then hh ++ [l.length] else hh) x.2 vl' vh'
theorem word_io {W W' : World} {b B K g : Nat} {l : List Tok} {hh : List Nat} {s o q : Nm} {vl vh : Value} (hx : wordM s = .ok (o, q)) (hi : isIo s o q = true) (hb : Below B W W') (h : LxSt W' b B K g (l ++ [⟨5, o, [], g⟩]) hh q vl vh) : WordPost W b B K g l hh s (.returned (.tuple #[])) W' := by
  unfold WordPost; rw [hx]; exact ⟨rfl, hb, vl, vh, by rw [if_pos hi]; exact h⟩
theorem word_wd {W W' : World} {b B K g : Nat} {l : List Tok} {hh hh' : List Nat} {s o q : Nm} {vl vh : Value} (hx : wordM s = .ok (o, q)) (hi : isIo s o q = false) (he : (if isHere l then hh ++ [l.length] else hh) = hh') (hb : Below B W W') (h : LxSt W' b B K g (l ++ [⟨1, o, [], g⟩]) hh' q vl vh) : WordPost W b B K g l hh s (.returned (.tuple #[])) W' := by
  unfold WordPost; rw [hx]; exact ⟨rfl, hb, vl, vh, by rw [if_neg (by simp [hi]), he]; exact h⟩
set_option maxHeartbeats 4000000 in
theorem word_calls (W : World) (b B K g : Nat) (l : List Tok) (hh : List Nat) (s : Nm) (vl vh : Value) (h : LxSt W b B K g l hh s vl vh) (hl : l.length ≤ 90000) (hhl : hh.length ≤ 90000) :
    Calls Tryz.prog 49 #[.pointer (some ⟨b, 0, none⟩)] W (WordPost W b B K g l hh s) := by
  have HS := Lib.hid h
  have hsl := h.rd.len
  obtain ⟨⟨c0, c1, c2, c3, c4⟩, f0, f1, f2, f3, f4⟩ := rd_cells h.rd.box
  obtain ⟨N, hN⟩ : ∃ N, s.length = N := ⟨_, rfl⟩
  have e1 : (str s).size = N := hN
  have HX0 : Hid (bnd (pre [] (loop (parA 0) ends s)) .ok = wordM s) := by
    show _ = _
    rw [pre_nil]; unfold wordM; cases loop (parA 0) ends s <;> rfl
  have HN := Lib.hid hN
  rw [hN] at hsl
  clear h hN
  go_enter Tryz.func49, Tryz.ntmps49
  go_wp2_with fail
  clear c0 c1 c2 c3 c4 f0 f1 f2 f3 f4 e1
  go_loopw [3] (fun v3 wr => ∃ (o q : Nm), v3 = .string (str o) ∧ bnd (pre o (loop (parA 0) ends q)) .ok = wordM s ∧ o.length + q.length ≤ N ∧ Rd wr b q K g vl vh ∧ Turn b W wr) (fun _ wr => txtLen wr b)
  case atStart => exact ⟨[], s, rfl, HX0.out, by have := HN.out; simp; omega, HS.out.rd, Turn.refl _ _⟩
  case round =>
    clear HX0
    obtain ⟨o, q, rfl, hx, hlo, hr, ht⟩ := hrel
    have HX := Lib.hid hx
    have HR := Lib.hid hr
    have HT := Lib.hid ht
    have hol : (str o).size = o.length := rfl
    clear hx hr ht
    go_wp2_with fail
    refine (ends_calls wr b q K g vl vh HR.out).mono ?_
    rintro r w2 ⟨rfl, hw2⟩
    obtain rfl := hw2.symm
    by_cases hs : ends q = true
    rotate_left
    · have hs : ends q = false := by simpa using hs
      have HS2 := Lib.hid hs
      rw [hs]
      clear hs
      go_wp2_with fail
      refine (part_ih (q.length + 1) _ b q 0 K g vl vh false HR.out (by omega) (by omega)).mono ?_
      rintro r w3 hp
      cases hpt : parA 0 q with
      | error e =>
        rw [hpt] at hp
        obtain ⟨rfl, ht⟩ := hp
        refine ⟨rfl, ?_⟩
        show WordPost W b B K g l hh s _ _
        unfold WordPost
        rw [← HX.out, lp_err (part_strict _) (part_nil _) HS2.out hpt]
        exact ⟨rfl, (HT.out.trans ht).below HS.out.bB HS.out.size⟩
      | ok y =>
        rw [hpt] at hp
        obtain ⟨rfl, ht, hr⟩ := hp
        have HXn : Hid (bnd (pre (o ++ y.1) (loop (parA 0) ends y.2)) .ok = wordM s) := by show _ = _; rw [← HX.out, lp_step (part_strict _) (part_nil _) HS2.out hpt]
        have hlt := part_strict _ _ _ hpt
        have hot := part_out _ _ _ hpt
        have HT3 := Lib.hid (HT.out.trans ht)
        have hc3 := rd_len hr
        have hc2 := rd_len HR.out
        have HR3 := Lib.hid hr
        have hcat : (str o).size + (str y.1).size ≤ 9223372036854775807 := by rw [str_size, str_size]; omega
        clear ht hr hpt
        go_wp2_with fail
        go_roundw
        case rel => exact ⟨o ++ y.1, y.2, by rw [str_append], HXn.out, by rw [List.length_append]; omega, HR3.out, HT3.out⟩
        case measure => rw [hc3, hc2]; exact hlt
    · have HE : Hid (wordM s = .ok (o, q)) := by show _ = _; rw [← HX.out, lp_stop hs]
      rw [hs]
      clear hs HX
      have HL := Lib.hid (HS.out.turn HT.out HR.out)
      clear HT
      obtain ⟨⟨c0, c1, c2, c3, c4⟩, f0, f1, f2, f3, f4⟩ := rd_cells HR.out.box
      have e2 : (str q).size = q.length := rfl
      go_upto_region 5 with fail
      go_cut [40] (fun s40 wx => s40 = .bool (isIo s o q) ∧ Below wr.heap.size wr wx)
      case first =>
        have HI : Hid (isIo s o q = (decide (N = o.length + q.length) && o.all digB && (has [60] q || has [62] q))) := by show _ = _; unfold isIo; rw [HN.out]
        by_cases hA : N = o.length + q.length
        · have hA1 : (N : Int) - (q.length : Int) = (o.length : Int) := by omega
          have hA2 : decide ((N : Int) - (q.length : Int) = (o.length : Int)) = true := decide_eq_true hA1
          have hq : (q.length : Int) ≤ (N : Int) := by omega
          have HA := Lib.hid hA
          clear hA
          obtain ⟨T, hT⟩ : ∃ T, Lib.trimS o digs = T := ⟨_, rfl⟩
          have HT := Lib.hid hT
          have htn := trim_nil o
          rw [hT] at htn
          clear hT
          go_wp2_with fail
          refine (trim_calls wr o (by omega)).mono ?_
          rintro r w5 ⟨rfl, hb5⟩
          rw [HT.out]
          have HR5 := Lib.hid (HR.out.below hb5)
          have HB5 := Lib.hid hb5
          clear hb5
          by_cases hd : T = []
          · subst hd
            have hall : o.all digB = true := htn.1 rfl
            have t1 : ((str []).toList == []) = true := by rw [str_tl]; rfl
            go_wp2_with fail
            refine (has_calls w5 b q K g vl vh HR5.out [60]).mono ?_
            rintro r w6 ⟨rfl, hw6⟩
            obtain rfl := hw6.symm
            by_cases h60 : has [60] q = true
            · rw [h60]
              have HI2 : Hid (isIo s o q = true) := by show _ = _; rw [HI.out, decide_eq_true HA.out, hall, h60]; rfl
              clear h60 hall htn
              go_wp2_with fail
              go_meet
              exact ⟨by rw [HI2.out], HB5.out⟩
            · have h60 : has [60] q = false := by simpa using h60
              rw [h60]
              have HI2 : Hid (isIo s o q = has [62] q) := by show _ = _; rw [HI.out, decide_eq_true HA.out, hall, h60]; rfl
              clear h60 hall htn
              go_wp2_with fail
              refine (has_calls w5 b q K g vl vh HR5.out [62]).mono ?_
              rintro r w6 ⟨rfl, hw6⟩
              obtain rfl := hw6.symm
              go_wp2_with fail
              go_meet
              exact ⟨by rw [HI2.out], HB5.out⟩
          · have t1 : ((str T).toList == []) = false := by rw [str_tl]; simpa using hd
            have HI2 : Hid (isIo s o q = false) := by
              show _ = _
              rw [HI.out]
              have : o.all digB = false := by
                rcases ho : o.all digB with _ | _
                · rfl
                · exact absurd (htn.2 ho) hd
              rw [this]; simp
            clear hd htn
            go_wp2_with fail
            go_meet
            exact ⟨by rw [HI2.out], HB5.out⟩
        · have hA1 : ¬ (N : Int) - (q.length : Int) = (o.length : Int) := by omega
          have hA2 : decide ((N : Int) - (q.length : Int) = (o.length : Int)) = false := decide_eq_false hA1
          have HIf : Hid (isIo s o q = false) := by show _ = _; rw [HI.out, decide_eq_false hA]; rfl
          have hq : (q.length : Int) ≤ (N : Int) := by omega
          clear hA
          go_wp2_with fail
          go_meet
          exact ⟨by rw [HIf.out], Below.refl _ _⟩
      case rest =>
        obtain ⟨rfl, hb5⟩ := hcut
        have HS5 := Lib.hid (HL.out.1.below hb5)
        have HB5 : Hid (Below B W wc) := HL.out.2.trans (hb5.mono (Nat.le_trans HS.out.size HL.out.2.size))
        clear hb5 HL HR
        clear c0 c1 c2 c3 c4 f0 f1 f2 f3 f4
        obtain ⟨⟨c0, c1, c2, c3, c4⟩, f0, f1, f2, f3, f4⟩ := rd_cells HS5.out.rd.box
        obtain ⟨a3, q3, rfl, b1, off, hcs, hix⟩ := toks_at HS5.out.toks
        cases hv : isIo s o q with
        | true =>
          have HV := Lib.hid hv
          clear hv
          go_wp2_with fail
          refine (put_calls wc b B K g l hh q _ vh HS5.out 5 o (by omega)).mono ?_
          rintro r w6 ⟨rfl, hb6, vl6, hs6⟩
          have HS6 := Lib.hid hs6
          have HB6 := Lib.hid (HB5.out.trans hb6)
          clear hb6 hs6
          go_wp2_with fail
          refine bodyPost_end (v := .tuple #[]) (results_none rfl _ _ _) rfl ?_
          exact word_io HE.out HV.out HB6.out HS6.out
        | false =>
          have HV := Lib.hid hv
          clear hv
          obtain ⟨L, hL⟩ : ∃ L, l.length = L := ⟨_, rfl⟩
          rw [hL] at c3
          have HLn := Lib.hid hL
          have hLb : L ≤ 90000 := by omega
          clear hL hcs hix
          go_upto_region 8 with fail
          go_cut [75] (fun s75 wx => s75 = .bool (isHere l) ∧ wx = wc)
          case first =>
            by_cases hn : l = []
            · subst hn
              obtain rfl : L = 0 := HLn.out.symm
              go_wp2_with fail
              go_meet
              exact ⟨rfl, rfl⟩
            · obtain ⟨l', t, rfl⟩ := last_split hn
              obtain ⟨a4, q4, ha4, b2, z, d0, d1, d3, hix⟩ := last_at HLn.out HS5.out.toks
              rw [HLn.out] at ha4
              obtain ⟨rfl, rfl⟩ : a3 = a4 ∧ q3 = q4 := by injection ha4 with h1 h2 h3; exact ⟨h1, h3⟩
              have HI : Hid (isHere (l' ++ [t]) = (decide (t.k = 2) && decide (t.t = [60, 60]))) := isHere_app l' t
              have hL0 : 0 < L := by have := HLn.out; simp at this; omega
              have u1 : decide ((0 : Int) < (L : Int)) = true := decide_eq_true (by omega)
              have u2 : (0 : Int) < (L : Int) := by omega
              by_cases hk : t.k = 2
              · have k1 : ((t.k : Int) == 2) = true := by rw [hk]; rfl
                have k2 : decide ((t.k : Int) = 2) = true := by rw [hk]; rfl
                by_cases ht : t.t = [60, 60]
                · have t1 : ((str t.t).toList == [60, 60]) = true := by rw [str_tl, ht]; rfl
                  have HI2 : Hid (isHere (l' ++ [t]) = true) := by show _ = _; rw [HI.out, hk, ht]; rfl
                  clear ht hk hn ha4
                  go_wp2_with fail
                  go_meet
                  exact ⟨by rw [HI2.out], rfl⟩
                · have t1 : ((str t.t).toList == [60, 60]) = false := by rw [str_tl]; simpa using ht
                  have HI2 : Hid (isHere (l' ++ [t]) = false) := by show _ = _; rw [HI.out, decide_eq_false ht]; simp
                  clear ht hk hn ha4
                  go_wp2_with fail
                  go_meet
                  exact ⟨by rw [HI2.out], rfl⟩
              · have k0 : ¬ (t.k : Int) = 2 := by omega
                have k1 : ((t.k : Int) == 2) = false := by simpa using k0
                have k2 : decide ((t.k : Int) = 2) = false := decide_eq_false k0
                have HI2 : Hid (isHere (l' ++ [t]) = false) := by show _ = _; rw [HI.out, decide_eq_false hk]; rfl
                clear hk hn ha4 k0
                go_wp2_with fail
                go_meet
                exact ⟨by rw [HI2.out], rfl⟩
          case rest =>
            obtain ⟨rfl, hw⟩ := hcut
            subst hw
            cases hh2 : isHere l with
            | false =>
              have HH2 : Hid ((if isHere l then hh ++ [l.length] else hh) = hh) := by show _ = _; rw [hh2]; rfl
              clear hh2
              go_wp2_with fail
              refine (put_calls wc b B K g l hh q _ vh HS5.out 1 o (by omega)).mono ?_
              rintro r w6 ⟨rfl, hb6, vl6, hs6⟩
              have HS6 := Lib.hid hs6
              have HB6 := Lib.hid (HB5.out.trans hb6)
              clear hb6 hs6
              go_wp2_with fail
              refine bodyPost_end (v := .tuple #[]) (results_none rfl _ _ _) rfl ?_
              exact word_wd HE.out HV.out HH2.out HB6.out HS6.out
            | true =>
              have HH2 : Hid ((if isHere l then hh ++ [l.length] else hh) = hh ++ [L]) := by show _ = _; rw [hh2, HLn.out]; rfl
              clear hh2
              obtain ⟨i0, hi0, hz0, hz1, hz2⟩ := info_parts info_in
              have hal := (Below.refl wc.heap.size wc).alloc (Nat.le_refl _) (.cells #[iv L] inT)
              have HS7 := Lib.hid (HS5.out.below hal)
              have HB7 := Lib.hid (HB5.out.trans (hal.mono (HS5.out.size)))
              have HOA := Lib.hid HS7.out.here
              have HSr := Lib.hid (src_new (P := Tryz.prog) wc [iv L] inT 1 1 rfl (by intro u hu; obtain rfl := List.mem_singleton.1 hu; rfl) 1)
              unfold iv at HSr
              have HSz : Hid (B ≤ (wc.alloc (.cells #[iv L] inT)).heap.size) := HS7.out.size
              clear hal
              go_wp2_with (at_builtin; refine wpList_append_src rfl (.tmp 80) (.tmp 82) 35 35 rfl B inT i0 (.int .i64 0) 1 8 Tryz.underlying35 (append_side Tryz.underlying35) hi0 hz0 hz1 hz2 rfl (by decide) (by decide) _ hh.length _ rfl HOA.out _ 1 _ rfl HSr.out ?_ ?_ ?_ ?_)
              case _ => unfold maxLen; omega
              case _ => omega
              case _ => exact HSz.out
              intro v' w' h1 h2 _
              have h1 : w'.ownsRow B inT 1 v' (hh.length + 1) (hh.map iv ++ [iv L]) := h1
              have HA := HS7.out.hereAdd h2 h1
              obtain ⟨⟨c0, c1, c2, c3, c4⟩, f0, f1, f2, f3, f4⟩ := rd_cells (HA.1.trans HS7.out.rd.box)
              have HS8 := Lib.hid HA.2.1
              have HB8 := Lib.hid (HB7.out.trans HA.2.2)
              obtain ⟨a9, q9, rfl, _⟩ := ownsRow_slice h1
              clear h1 h2 HA
              go_wp2_with fail
              refine (put_calls _ b B K g l (hh ++ [L]) q _ _ HS8.out 1 o (by omega)).mono ?_
              rintro r w6 ⟨rfl, hb6, vl6, hs6⟩
              have HS6 := Lib.hid hs6
              have HB6 := Lib.hid (HB8.out.trans hb6)
              clear hb6 hs6
              go_wp2_with fail
              refine bodyPost_end (v := .tuple #[]) (results_none rfl _ _ _) rfl ?_
              exact word_wd HE.out HV.out HH2.out HB6.out HS6.out
end Go.Proofs.YtiklkhbfilbpeaaGreatDoor
