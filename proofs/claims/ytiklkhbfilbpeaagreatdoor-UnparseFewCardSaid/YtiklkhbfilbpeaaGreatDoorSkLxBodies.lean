/-
  Lexer: here-documents. Conditions: as each contract says.
-/
import Derived.Test.YtiklkhbfilbpeaaGreatDoorSkLxWord
import Derived.Test.YtiklkhbfilbpeaaGreatDoorSkLxBare
set_option linter.unusedVariables false
set_option linter.unusedSimpArgs false
set_option maxRecDepth 100000
namespace Go.Proofs.YtiklkhbfilbpeaaGreatDoor
open Go.RowKit Base Lx
theorem modify_modify (l : List Tok) (i : Nat) (x y : Nm) : (l.modify i (addB x)).modify i (addB y) = l.modify i (addB (x ++ y)) := by
  apply List.ext_getElem?
  intro j
  simp only [List.getElem?_modify]
  by_cases h : i = j
  · subst h
    cases l[i]? with
    | none => rfl
    | some t => simp [addB]
  · simp [h]
theorem addB_nil (l : List Tok) (i : Nat) : l.modify i (addB []) = l := by
  apply List.ext_getElem?
  intro j
  simp only [List.getElem?_modify]
  by_cases h : i = j
  · subst h
    cases l[i]? with
    | none => rfl
    | some t => simp [addB]
  · simp [h]
/-- No body is long. -/
def Bd (l : List Tok) (n : Nat) : Prop := ∀ t ∈ l, t.b.length + n ≤ 100001 ∧ t.t.length ≤ 100000
theorem Bd.modify {l : List Tok} {n m : Nat} {i : Nat} {x : Nm} (h : Bd l n) (hm : x.length + m ≤ n) : Bd (l.modify i (addB x)) m := by
  intro t ht
  obtain ⟨j, hj⟩ := List.mem_iff_getElem?.1 ht
  rw [List.getElem?_modify] at hj
  cases hlj : l[j]? with
  | none => rw [hlj] at hj; cases hj
  | some u =>
    have hu := h u (List.mem_of_getElem? hlj)
    rw [hlj] at hj
    by_cases h2 : i = j
    · simp only [Option.map_eq_map, Option.map_some, if_pos h2, Option.some.injEq] at hj
      subst hj
      simp only [addB, List.length_append]
      omega
    · simp only [Option.map_eq_map, Option.map_some, if_neg h2, Option.some.injEq] at hj
      subst hj
      omega
theorem flat_set (l : List Tok) (i : Nat) (hi : i < l.length) (x : Nm) : (l.flatMap tkC).set (i * 4 + 2) (.string (str (l[i].b ++ x))) = (l.modify i (addB x)).flatMap tkC := by
  induction l generalizing i with
  | nil => simp at hi
  | cons t r ih =>
    cases i with
    | zero => rfl
    | succ i =>
      rw [List.modify_succ_cons, List.flatMap_cons, List.flatMap_cons, List.set_append_right _ _ (by rw [tkC_len]; omega), tkC_len]
      congr 1
      have := ih i (by simpa using hi)
      rw [show (i + 1) * 4 + 2 - 4 = i * 4 + 2 by omega]
      exact this
theorem LxSt.bodyAt {W : World} {b B K g : Nat} {l : List Tok} {hh : List Nat} {s : Nm} {vl vh : Value} (h : LxSt W b B K g l hh s vl vh) (i : Nat) (hi : i < l.length) :
    ∃ gq q3, vl = .slice (some ⟨gq, 0, none⟩) l.length q3 ∧ (∀ w', (Instr.indexAt 39 (.slice (some ⟨gq, 0, none⟩) l.length q3) (.int .i64 (i : Int))).run Tryz.prog w' = .ok (.pointer (some ⟨gq, i * 4, none⟩)) w') ∧
      W.cell? ⟨gq, i * 4 + 1, none⟩ = some (.string (str l[i].t)) ∧ W.cell? ⟨gq, i * 4 + 2, none⟩ = some (.string (str l[i].b)) ∧ W.frozen? ⟨gq, i * 4 + 2, none⟩ = false ∧
      ∀ x : Nm, LxSt (W.setCell ⟨gq, i * 4 + 2, none⟩ (.string (str (l[i].b ++ x)))) b B K g (l.modify i (addB x)) hh s vl vh ∧ Below B W (W.setCell ⟨gq, i * 4 + 2, none⟩ (.string (str (l[i].b ++ x)))) := by
  obtain ⟨j0, hj0, hz0, hz1, hz2⟩ := info_parts info_tk
  obtain ⟨gq, q3, cur, hv, h2, h3, h4, h5, h6, h7⟩ := Sl.own_row h.toks (by omega)
  have hat : ∀ k, k < 4 → W.cell? ⟨gq, i * 4 + k, none⟩ = (tkC l[i])[k]? := fun k hk => by
    rw [Sl.row_cell h3]
    have h8 : cur[i * 4 + k]? = (cur.take (l.length * 4))[i * 4 + k]? := by rw [List.getElem?_take_of_lt (by omega)]
    rw [h8, h7]
    cases hc : (tkC l[i])[k]? with
    | none => have := List.getElem?_eq_none_iff.1 hc; rw [tkC_len] at this; omega
    | some u => exact Ap.flat_at tkC_len l i _ (List.getElem?_eq_getElem hi) k u hc
  refine ⟨gq, q3, hv, fun w' => ?_, hat 1 (by decide), hat 2 (by decide), Sl.row_frozen h3 _, fun x => ?_⟩
  · rw [run_indexAt_slice w' 39 _ _ _ .i64 i (by simp [Program.elem, Tryz.underlying39]), if_pos ⟨by omega, by omega⟩]
    simp [Program.elem, Tryz.underlying39, sizeOf, typeInfo, hj0, hz1, Result.andThen, Addr.add_lit]
  · have hset := heap_setCell_same W gq (i * 4 + 2) _ _ (.string (str (l[i].b ++ x))) h3
    have hgr : W.grownBy (W.setCell ⟨gq, i * 4 + 2, none⟩ (.string (str (l[i].b ++ x)))) (some gq) := Sl.setCells_grown gq [.string (str (l[i].b ++ x))] _ W
    have hbq : b ≠ gq := fun e => by
      have h8 := h.rd.box
      rw [e, h3] at h8
      injection h8 with h8
      injection h8 with _ hT _
      exact absurd hT (by decide)
    refine ⟨⟨⟨(hgr.block b h.rd.lt (fun e => hbq (Option.some.inj e))).trans h.rd.box, h.rd.le, h.rd.big, h.rd.len⟩, ?_, ?_, h.bB⟩, (Below.refl _ _).grown hgr h.size (fun j hj => by obtain rfl := Option.some.inj hj; exact h2)⟩
    · rw [hv, List.length_modify]
      refine Sl.own_mk (cur := cur.set (i * 4 + 2) (.string (str (l[i].b ++ x)))) h2 (by rw [hset, List.setIfInBounds_toArray]) h4 h5 (by rw [List.length_set]; exact h6) ?_
      rw [List.take_set, h7]
      exact flat_set l i hi x
    · exact own_keep h.here (fun j X hj hX => hgr.block j (Array.getElem?_eq_some_iff.1 hX).1 (fun e => by
        obtain rfl := Option.some.inj e
        rw [h3] at hX
        injection hX with hX
        injection hX with _ hT _
        exact absurd hT (by decide)))
/-- No more here-documents are to come. -/
theorem LxSt.hereNil {W : World} {b B K g : Nat} {l : List Tok} {hh : List Nat} {s : Nm} {vl vh : Value} (h : LxSt W b B K g l hh s vl vh) :
    LxSt (W.setCell ⟨b, 4, none⟩ (.slice none 0 0)) b B K g l [] s vl (.slice none 0 0) ∧ Below B W (W.setCell ⟨b, 4, none⟩ (.slice none 0 0)) := by
  have hs := heap_setCell_same W b 4 _ _ (.slice none 0 0) h.rd.box
  have hgr : W.grownBy (W.setCell ⟨b, 4, none⟩ (.slice none 0 0)) (some b) := Sl.setCells_grown b [.slice none 0 0] 4 W
  refine ⟨⟨⟨hs, h.rd.le, h.rd.big, h.rd.len⟩, ?_, World.ownsRow_nil _ _ _ _, h.bB⟩, (Below.refl _ _).grown hgr h.size (fun j hj => by obtain rfl := Option.some.inj hj; exact h.bB)⟩
  exact own_keep h.toks (fun j X hj hX => hgr.block j (Array.getElem?_eq_some_iff.1 hX).1 (fun e => by
    obtain rfl := Option.some.inj e
    exact own_ne (k' := 0) h.toks h.rd.box (by decide) hj))
def BodPost (W : World) (b B K g : Nat) (x : Except Int (List Tok × Nm)) (r : Ending) (W' : World) : Prop :=
  match x with
  | .error e => r = panEnd e g ∧ Below B W W'
  | .ok y => r = .returned (.tuple #[]) ∧ Below B W W' ∧ ∃ vl vh, LxSt W' b B K g y.1 [] y.2 vl vh
theorem bod_err {W W' : World} {b B K g : Nat} {x : Except Int (List Tok × Nm)} {e : Int} (hx : x = .error e) (h : Below B W W') : BodPost W b B K g x (panEnd e g) W' := by subst hx; exact ⟨rfl, h⟩
theorem ints_at {W : World} {B : Nat} {v : Value} {hh : List Nat} (h : W.ownsRow B inT 1 v hh.length (hh.map iv)) : ∃ a c, v = .slice a hh.length c ∧ ∃ b1 off, (∀ (k x : Nat), hh[k]? = some x → W.cell? ⟨b1, off + k, none⟩ = some (.int .i64 (x : Int))) ∧ ∀ (k : Nat) (w' : World), k < hh.length → (Instr.indexAt 35 (.slice a hh.length c) (.int .i64 (k : Int))).run Tryz.prog w' = .ok (.pointer (some ⟨b1, off + k, none⟩)) w' := by
  obtain ⟨i0, hi0, hz0, hz1, hz2⟩ := info_parts info_in
  obtain ⟨a, c, rfl, hr⟩ := ownsRow_row (R := fun w b o (n : Nat) => w.cell? ⟨b, o, none⟩ = some (.int .i64 (n : Int))) h (fun _ _ _ h => h)
  obtain ⟨b1, off, h1, h2⟩ := hr.at (P := Tryz.prog)
  exact ⟨a, c, rfl, b1, off, fun k x hx => by obtain ⟨hk, rfl⟩ := List.getElem?_eq_some_iff.1 hx; simpa using h1 k hk, fun k w' hk => by simpa using h2 35 inT i0 Tryz.underlying35 hi0 hz1 .i64 k w' hk⟩
theorem str_tl2 (l : Nm) : (str l).toList = l := by rw [ByteArray.toList_eq]; rfl
theorem cutLn_some {q : Nm} {x : Nm × Nm} (h : cutAt 10 q = some x) : cutLn q = x := by unfold cutLn; rw [h]
theorem cutLn_none {q : Nm} (h : cutAt 10 q = none) : cutLn q = (q, []) := by unfold cutLn; rw [h]
set_option maxHeartbeats 8000000 in
theorem bodies_calls (W : World) (b B K g : Nat) (l : List Tok) (hh : List Nat) (s : Nm) (vl vh : Value) (h : LxSt W b B K g l hh s vl vh) (hi : ∀ i ∈ hh, i < l.length) (hhl : hh.length ≤ 90000) (hl : l.length ≤ 90000) (hb : Bd l s.length) (X : Except Int (List Tok × Nm)) (hX : bodiesM hh l s = X) :
    Calls Tryz.prog 64 #[.pointer (some ⟨b, 0, none⟩)] W (BodPost W b B K g X) := by
  have HS := Lib.hid h
  have HI := Lib.hid hi
  have HBd := Lib.hid hb
  have HX0 := Lib.hid hX
  obtain ⟨⟨c0, c1, c2, c3, c4⟩, f0, f1, f2, f3, f4⟩ := rd_cells h.rd.box
  obtain ⟨L, hL⟩ : ∃ L, hh.length = L := ⟨_, rfl⟩
  obtain ⟨ah, ch, hv, b1, o1, hcs, hix⟩ := ints_at h.here
  subst hv
  rw [hL] at c4 hix hhl
  obtain ⟨a3, q3, hv3, _⟩ := ownsRow_slice h.toks
  subst hv3
  obtain ⟨Ln, hLn⟩ : ∃ Ln, l.length = Ln := ⟨_, rfl⟩
  have HL := Lib.hid hL
  have HLn := Lib.hid hLn
  have HS2 : Hid (LxSt W b B K g l hh s (.slice a3 Ln q3) (.slice ah L ch)) := by show LxSt _ _ _ _ _ _ _ _ _ _; rw [← hL, ← hLn]; exact HS.out
  rw [hLn] at c3 hl
  clear h hi hb hX hL hLn hcs hix HS
  go_enter Tryz.func64, Tryz.ntmps64
  go_wp2_with fail
  clear c0 c1 c2 c3 c4 f0 f1 f2 f3 f4
  go_loopw [14] (fun v14 wr => ∃ (j : Nat) (l' : List Tok) (q : Nm), v14 = .int .i64 (j : Int) ∧ j ≤ L ∧ bodiesM (hh.drop j) l' q = X ∧ LxSt wr b B K g l' hh q (.slice a3 Ln q3) (.slice ah L ch) ∧ Below B W wr ∧ l'.length = Ln ∧ Bd l' q.length) (fun v14 _ => (match v14 with | .int _ z => L - z.toNat | _ => 0))
  case atStart => exact ⟨0, l, s, rfl, Nat.zero_le _, HX0.out, HS2.out, Below.refl _ _, HLn.out, HBd.out⟩
  case round =>
    clear HX0 HS2 HBd
    obtain ⟨j, l', q, rfl, hj, hx, hst, hbe, hll, hbd⟩ := hrel
    have HX := Lib.hid hx
    have HS := Lib.hid hst
    have HB := Lib.hid hbe
    have HBd := Lib.hid hbd
    have HLl := Lib.hid hll
    clear hx hst hbe hbd hll
    by_cases hjL : j < L
    · obtain ⟨i, hi⟩ : ∃ i, hh[j]? = some i := ⟨_, List.getElem?_eq_getElem (by rw [HL.out]; exact hjL)⟩
      have hil : i < l'.length := by rw [HLl.out, ← HLn.out]; exact HI.out i (List.mem_of_getElem? hi)
      have hdr : hh.drop j = i :: hh.drop (j + 1) := by
        obtain ⟨hlt, hget⟩ := List.getElem?_eq_some_iff.1 hi
        rw [List.drop_eq_getElem_cons hlt, hget]
      obtain ⟨ah2, ch2, hv, b1, o1, hcs, hix⟩ := ints_at HS.out.here
      rw [HL.out] at hv hix
      obtain ⟨rfl, rfl⟩ : ah = ah2 ∧ ch = ch2 := by injection hv with h1 h2 h3; exact ⟨h1, h3⟩
      have k0 := hcs j i hi
      have j0 := fun w => hix j w hjL
      obtain ⟨gq, q4, hv3, jx, kt, kb, kf, hput⟩ := HS.out.bodyAt i hil
      rw [HLl.out] at hv3 jx
      obtain ⟨rfl, rfl⟩ : a3 = some ⟨gq, 0, none⟩ ∧ q3 = q4 := by injection hv3 with h1 h2 h3; exact ⟨h1, h3⟩
      obtain ⟨tx, htx⟩ : ∃ tx, l'[i].t = tx := ⟨_, rfl⟩
      have htl : tx.length ≤ 100000 := by rw [← htx]; exact (HBd.out _ (List.getElem_mem hil)).2
      rw [htx] at kt
      have HE : Hid (bareAt l' i = bare tx) := by show _ = _; unfold bareAt; rw [List.getElem?_eq_getElem hil, ← htx]
      obtain ⟨⟨c0, c1, c2, c3, c4⟩, f0, f1, f2, f3, f4⟩ := rd_cells HS.out.rd.box
      have HX2 : Hid (bnd (pre [] (hereM (bare tx) q)) (fun x => bodiesM (hh.drop (j + 1)) (l'.modify i (addB x.1)) x.2) = X) := by
        show _ = _
        rw [pre_nil, ← HX.out, hdr, ← HE.out]
        rfl
      have a3 : decide (j < L) = true := decide_eq_true (by omega)
      have a1 : decide ((j : Int) < (L : Int)) = true := decide_eq_true (by omega)
      have a2 : (j : Int) < (L : Int) := by omega
      have HIl := Lib.hid hil
      clear hput kb kf hi hdr hcs hix hv hv3 htx hil HX HE
      go_wp2_with fail
      refine (bare_calls wr tx htl).mono ?_
      rintro r w2 ⟨rfl, hb2⟩
      have HS2 : Hid (LxSt w2 b B K g (l'.modify i (addB [])) hh q (.slice (some ⟨gq, 0, none⟩) Ln q3) (.slice ah L ch)) := by
        show LxSt _ _ _ _ _ _ _ _ _ _
        rw [addB_nil]
        exact HS.out.below hb2
      have HB2 := Lib.hid (HB.out.trans (hb2.mono HS.out.size))
      have HBd2 : Hid (Bd (l'.modify i (addB [])) q.length) := by show Bd _ _; rw [addB_nil]; exact HBd.out
      obtain ⟨e, he⟩ : ∃ e, bare tx = e := ⟨_, rfl⟩
      rw [he] at HX2 ⊢
      clear he hb2 c0 c1 c2 c3 c4 f0 f1 f2 f3 f4 k0 j0 kt HS HB HBd
      go_wp2_with fail
      go_loopw [] (fun wr2 => ∃ (body q2 : Nm), LxSt wr2 b B K g (l'.modify i (addB body)) hh q2 (.slice (some ⟨gq, 0, none⟩) Ln q3) (.slice ah L ch) ∧ Below B W wr2 ∧ (q2 = [] ∨ Bd (l'.modify i (addB body)) q2.length) ∧ bnd (pre body (hereM e q2)) (fun x => bodiesM (hh.drop (j + 1)) (l'.modify i (addB x.1)) x.2) = X) (fun wr2 => txtLen wr2 b)
      case atStart => exact ⟨[], q, HS2.out, HB2.out, .inr HBd2.out, HX2.out⟩
      case round =>
        clear HS2 HB2 HBd2 HX2
        obtain ⟨body, q2, hst, hbe, hbd, hx⟩ := hrel
        have HX := Lib.hid hx
        have HS := Lib.hid hst
        have HB := Lib.hid hbe
        obtain ⟨⟨c0, c1, c2, c3, c4⟩, f0, f1, f2, f3, f4⟩ := rd_cells HS.out.rd.box
        have hq2l := HS.out.rd.len
        clear hx hst hbe
        cases q2 with
        | nil =>
          have HE : Hid (X = .error 20) := HX.out.symm
          have t1 : ((str []).toList == []) = true := by rw [str_tl2]; rfl
          go_wp2_with fail
          refine (cut_calls wr [] 10 (by simp)).mono ?_
          rintro r w3 ⟨rfl, nd, hw3⟩
          have hb3 : Below wr.heap.size wr w3 := by rw [hw3]; exact drewN_below _ _
          have HS3 := Lib.hid (HS.out.below hb3)
          have HB3 := Lib.hid (HB.out.trans (hb3.mono HS.out.size))
          clear hw3 hb3 c0 c1 c2 c3 c4 f0 f1 f2 f3 f4
          obtain ⟨⟨c0, c1, c2, c3, c4⟩, f0, f1, f2, f3, f4⟩ := rd_cells HS3.out.rd.box
          simp only [cutAt]
          go_wp2_with fail
          refine (fail_calls w3 b [] K g _ _ HS3.out.rd 20).mono ?_
          rintro r w9 ⟨rfl, rfl⟩
          exact ⟨rfl, bod_err HE.out HB3.out⟩
        | cons y q2 =>
          have t1 : ((str (y :: q2)).toList == []) = false := by rw [str_tl2]; rfl
          have hne : (y :: q2) ≠ [] := by simp
          obtain ⟨z, hz⟩ : ∃ z, y :: q2 = z := ⟨_, rfl⟩
          rw [hz] at HS HX hbd c0 t1 hne hq2l
          clear hz
          have hbd := hbd.resolve_left hne
          have HM := Lib.hid (hereM_eq e z hne)
          have HBd := Lib.hid hbd
          have hzl : txtLen wr b = z.length := rd_len HS.out.rd
          have hz1 : 1 ≤ z.length := List.length_pos_iff.2 hne
          clear hne hbd
          go_wp2_with fail
          refine (cut_calls wr z 10 (by omega)).mono ?_
          rintro r w3 ⟨hr, nd, hw3⟩
          have hb3 : Below wr.heap.size wr w3 := by rw [hw3]; exact drewN_below _ _
          have HS3 := Lib.hid (HS.out.below hb3)
          have HB3 := Lib.hid (HB.out.trans (hb3.mono HS.out.size))
          clear hw3 hb3 c0 c1 c2 c3 c4 f0 f1 f2 f3 f4 HS HB
          obtain ⟨⟨c0, c1, c2, c3, c4⟩, f0, f1, f2, f3, f4⟩ := rd_cells HS3.out.rd.box
          cases hc : cutAt 10 z with
          | none =>
            rw [hc] at hr
            simp only at hr
            subst hr
            rw [cutLn_none hc] at HM
            clear hc
            have hze : z.drop z.length = [] := List.drop_length
            have hzt : z.take z.length = z := List.take_length
            go_wp2_with fail
            refine (take_yes w3 b z K g _ _ HS3.out.rd z.length (Nat.le_refl _)).mono ?_
            rintro r w4 ⟨rfl, ht4, hr4⟩
            rw [hze] at hr4
            have HST := HS3.out.turn ht4 hr4
            have HS4 := Lib.hid HST.1
            have HB4 := Lib.hid (HB3.out.trans HST.2)
            have HRl : Hid (([] : Nm).length < z.length) := hz1
            clear ht4 hr4 HST c0 c1 c2 c3 c4 f0 f1 f2 f3 f4 hze hzt
            by_cases heq : z = e
            · have HEq := Lib.hid heq
              have ht : ((str z).toList == (str e).toList) = true := by rw [str_tl2, str_tl2, heq]; simp
              have HXn : Hid (bodiesM (hh.drop (j + 1)) (l'.modify i (addB body)) ([] : Nm) = X) := by
                show _ = _
                rw [← HX.out, HM.out, if_pos heq, pre_ok, List.append_nil, bnd_ok]
              have HBd5 : Hid (Bd (l'.modify i (addB body)) (([] : Nm)).length) := fun t ht => by have h1 := HBd.out t ht; have h2 := HRl.out; exact ⟨by omega, h1.2⟩
              clear heq
              go_wp2_with fail
              go_roundw
              case rel => exact ⟨j + 1, _, _, by go_num, by omega, HXn.out, HS4.out, HB4.out, by rw [List.length_modify]; exact HLl.out, HBd5.out⟩
              case measure => simp; omega
            · have ht : ((str z).toList == (str e).toList) = false := by rw [str_tl2, str_tl2]; simpa using heq
              have HXn : Hid (bnd (pre (body ++ (z ++ [10])) (hereM e ([] : Nm))) (fun x => bodiesM (hh.drop (j + 1)) (l'.modify i (addB x.1)) x.2) = X) := by
                show _ = _
                rw [← HX.out, HM.out, if_neg heq, pre_pre]
              obtain ⟨gq5, q5, hv5, jx5, _, kb5, kf5, hput⟩ := HS4.out.bodyAt i (by rw [List.length_modify]; exact HIl.out)
              rw [List.length_modify, HLl.out] at hv5 jx5
              obtain ⟨hgq, rfl⟩ : gq = gq5 ∧ q3 = q5 := by injection hv5 with h1 h2 h3; injection h1 with h1; injection h1 with h1; exact ⟨h1, h3⟩
              subst hgq
              obtain ⟨bb, hbb⟩ : ∃ bb, (l'.modify i (addB body))[i]'(by rw [List.length_modify]; exact HIl.out) = bb := ⟨_, rfl⟩
              have hbl : bb.b.length ≤ 100001 := by rw [← hbb]; exact Nat.le_trans (Nat.le_add_right _ _) (HBd.out _ (List.getElem_mem _)).1
              rw [hbb] at kb5 hput
              have hput := hput (z ++ [10])
              rw [modify_modify] at hput
              have HP1 := Lib.hid hput.1
              have HP2 := Lib.hid (HB4.out.trans hput.2)
              have hc1 : (str z).size + 1 ≤ 9223372036854775807 := by rw [str_size]; omega
              have hc2 : (str bb.b).size + ((str z).size + 1) ≤ 9223372036854775807 := by rw [str_size, str_size]; omega
              have e3 : str bb.b ++ (str z ++ ⟨#[10]⟩) = str (bb.b ++ (z ++ [10])) := by rw [show (⟨#[10]⟩ : ByteArray) = str [10] from rfl, str_append, str_append]
              have hsz : txtLen (w4.setCell ⟨gq, i * 4 + 2, none⟩ (.string (str (bb.b ++ (z ++ [10]))))) b = (([] : Nm)).length := rd_len hput.1.rd
              clear hput heq hbb hv5
              obtain ⟨⟨c0, c1, c2, c3, c4⟩, f0, f1, f2, f3, f4⟩ := rd_cells HS4.out.rd.box
              go_wp2_with fail
              go_roundw
              case rel => exact ⟨_, ([] : Nm), HP1.out, HP2.out, .inl rfl, HXn.out⟩
              case measure => rw [hsz, hzl]; have := HRl.out; omega
          | some x =>
            rw [hc] at hr
            simp only at hr
            subst hr
            rw [cutLn_some hc] at HM
            have hzx := cut_len hc
            clear hc
            obtain ⟨ln, rs⟩ := x
            simp only at hzx HM ⊢
            have hzl2 : ln.length + rs.length + 1 = z.length := by rw [hzx]; simp; omega
            have hze : z.drop ln.length = 10 :: rs := by rw [hzx, List.drop_left]
            have hln : ln.length ≤ 100000 := by omega
            clear hzx
            go_wp2_with fail
            refine (take_yes w3 b z K g _ _ HS3.out.rd ln.length (by omega)).mono ?_
            rintro r w4 ⟨rfl, ht4, hr4⟩
            rw [hze] at hr4
            have HST := HS3.out.turn ht4 hr4
            have HS4 := Lib.hid HST.1
            have HB4 := Lib.hid (HB3.out.trans HST.2)
            clear ht4 hr4 HST c0 c1 c2 c3 c4 f0 f1 f2 f3 f4 hze
            go_wp2_with fail
            refine (take_yes w4 b (10 :: rs) K g _ _ HS4.out.rd 1 (by simp)).mono ?_
            rintro r w5 ⟨rfl, ht4, hr4⟩
            have hr4 : Rd w5 b rs K g _ _ := hr4
            have HST := HS4.out.turn ht4 hr4
            have HS5 := Lib.hid HST.1
            have HB5 := Lib.hid (HB4.out.trans HST.2)
            have HRl : Hid (rs.length < z.length) := by show _ < _; omega
            have HBd6 : Hid (Bd (l'.modify i (addB (body ++ (ln ++ [10])))) rs.length) := by
              show Bd _ _
              rw [← modify_modify]
              exact HBd.out.modify (by simp; omega)
            clear ht4 hr4 HST
            by_cases heq : ln = e
            · have HEq := Lib.hid heq
              have ht : ((str ln).toList == (str e).toList) = true := by rw [str_tl2, str_tl2, heq]; simp
              have HXn : Hid (bodiesM (hh.drop (j + 1)) (l'.modify i (addB body)) rs = X) := by
                show _ = _
                rw [← HX.out, HM.out, if_pos heq, pre_ok, List.append_nil, bnd_ok]
              have HBd5 : Hid (Bd (l'.modify i (addB body)) (rs).length) := fun t ht => by have h1 := HBd.out t ht; have h2 := HRl.out; exact ⟨by omega, h1.2⟩
              clear heq
              go_wp2_with fail
              go_roundw
              case rel => exact ⟨j + 1, _, _, by go_num, by omega, HXn.out, HS5.out, HB5.out, by rw [List.length_modify]; exact HLl.out, HBd5.out⟩
              case measure => simp; omega
            · have ht : ((str ln).toList == (str e).toList) = false := by rw [str_tl2, str_tl2]; simpa using heq
              have HXn : Hid (bnd (pre (body ++ (ln ++ [10])) (hereM e rs)) (fun x => bodiesM (hh.drop (j + 1)) (l'.modify i (addB x.1)) x.2) = X) := by
                show _ = _
                rw [← HX.out, HM.out, if_neg heq, pre_pre]
              obtain ⟨gq5, q5, hv5, jx5, _, kb5, kf5, hput⟩ := HS5.out.bodyAt i (by rw [List.length_modify]; exact HIl.out)
              rw [List.length_modify, HLl.out] at hv5 jx5
              obtain ⟨hgq, rfl⟩ : gq = gq5 ∧ q3 = q5 := by injection hv5 with h1 h2 h3; injection h1 with h1; injection h1 with h1; exact ⟨h1, h3⟩
              subst hgq
              obtain ⟨bb, hbb⟩ : ∃ bb, (l'.modify i (addB body))[i]'(by rw [List.length_modify]; exact HIl.out) = bb := ⟨_, rfl⟩
              have hbl : bb.b.length ≤ 100001 := by rw [← hbb]; exact Nat.le_trans (Nat.le_add_right _ _) (HBd.out _ (List.getElem_mem _)).1
              rw [hbb] at kb5 hput
              have hput := hput (ln ++ [10])
              rw [modify_modify] at hput
              have HP1 := Lib.hid hput.1
              have HP2 := Lib.hid (HB5.out.trans hput.2)
              have hc1 : (str ln).size + 1 ≤ 9223372036854775807 := by rw [str_size]; omega
              have hc2 : (str bb.b).size + ((str ln).size + 1) ≤ 9223372036854775807 := by rw [str_size, str_size]; omega
              have e3 : str bb.b ++ (str ln ++ ⟨#[10]⟩) = str (bb.b ++ (ln ++ [10])) := by rw [show (⟨#[10]⟩ : ByteArray) = str [10] from rfl, str_append, str_append]
              have hsz : txtLen (w5.setCell ⟨gq, i * 4 + 2, none⟩ (.string (str (bb.b ++ (ln ++ [10]))))) b = (rs).length := rd_len hput.1.rd
              clear hput heq hbb hv5
              obtain ⟨⟨c0, c1, c2, c3, c4⟩, f0, f1, f2, f3, f4⟩ := rd_cells HS5.out.rd.box
              go_wp2_with fail
              go_roundw
              case rel => exact ⟨_, rs, HP1.out, HP2.out, .inr HBd6.out, HXn.out⟩
              case measure => rw [hsz, hzl]; have := HRl.out; omega
    · obtain rfl : j = L := by omega
      have HXe : Hid (X = .ok (l', q)) := by
        show _ = _
        rw [← HX.out, ← HL.out, List.drop_length]; rfl
      have a3 : decide (j < j) = false := decide_eq_false (by omega)
      have a1 : decide ((j : Int) < (j : Int)) = false := decide_eq_false (by omega)
      have a2 : ¬ ((j : Int) < (j : Int)) := by omega
      obtain ⟨⟨c0, c1, c2, c3, c4⟩, f0, f1, f2, f3, f4⟩ := rd_cells HS.out.rd.box
      have HN := Lib.hid HS.out.hereNil
      clear hjL
      go_wp2_with fail
      refine bodyPost_end (v := .tuple #[]) (results_none rfl _ _ _) rfl ?_
      show BodPost W b B K g X _ _
      rw [HXe.out]
      exact ⟨rfl, HB.out.trans HN.out.2, _, _, HN.out.1⟩
end Go.Proofs.YtiklkhbfilbpeaaGreatDoor
