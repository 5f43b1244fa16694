/-
  Store: one place is let go. Conditions: as each contract says.
-/
import Derived.Test.YtmhofdoifgfjfaaSoWalks3
set_option linter.unusedVariables false
set_option maxRecDepth 100000
namespace Go.Proofs.Ytmhofdoifgfjfaa
open Go.RowKit Base

theorem int_delete_calls (w : World) (base : Nat) (v : Value) (l : List Int) (i : Nat) (hown : OwnI w base v l) (hi : i < l.length) :
    Calls Try.prog 30 #[v, .int .i64 (i : Int), .int .i64 ((i : Int) + 1)] w fun e w' => ∃ v', e = .returned v' ∧ OwnI w' base v' (l.eraseIdx i) ∧ w.grownBy w' v.ownBlock ∧ v'.ownBlock = v.ownBlock := by
  obtain ⟨g, cap, cur, rfl, hb, hg, hn, hm, hcl, hx⟩ := Sl.own_row hown (by omega)
  rw [Nat.mul_one] at hcl hx
  have hm' := hm
  unfold maxLen at hm'
  have hcc : ∀ j, j < l.length → w.cell? ⟨g, 0 + j, none⟩ = some (.int .i64 (l.getD j 0)) := fun j hj => by
    rw [Nat.zero_add, Sl.row_cell hg]
    have h2 : (cur.take l.length)[j]? = some (zv (l.getD j 0)) := by rw [hx, List.getElem?_map, List.getD_eq_getElem?_getD, List.getElem?_eq_getElem hj]; rfl
    rw [List.getElem?_take, if_pos hj] at h2
    exact h2
  have h := Try.slices_Delete_int_cells g 0 l.length cap i (i + 1) l w (Nat.le_refl _) hn (by omega) (by omega) (by omega) hcc (fun j hj => Sl.row_frozen hg _)
  rw [show ((i + 1 : Nat) : Int) = (i : Int) + 1 by omega, show l.length - (i + 1 - i) = l.length - 1 by omega, show i + 1 - i = 1 by omega, List.take_length] at h
  refine h.mono ?_
  rintro e w' ⟨rfl, q, rfl⟩
  have hlen : ((l.take i ++ l.drop (i + 1) ++ List.replicate 1 0).map (Value.int .i64)).length = l.length := by simp; omega
  have hgd : (w.drewN q).heap[g]? = some (.cells cur.toArray 3 (0, 0)) := hg
  have hg2 := Sl.heap_setCells g _ ((l.take i ++ l.drop (i + 1) ++ List.replicate 1 0).map (Value.int .i64)) 0 (w.drewN q) cur hgd (by rw [hlen, hcl]; omega)
  have hgr : w.grownBy (w.drewN q) (some g) := ⟨rfl, rfl, rfl, Nat.le_refl _, fun _ _ _ => rfl⟩
  have he : (l.eraseIdx i).length = l.length - 1 := by rw [List.length_eraseIdx, if_pos hi]
  refine ⟨_, rfl, ?_, Sl.grown_trans hgr (Sl.setCells_grown g _ _ _), rfl⟩
  show World.ownsRow _ _ _ _ _ _ _
  rw [he]
  refine Sl.own_mk hb hg2 (by omega) hm (by rw [length_splice _ _ _ (by rw [hlen, hcl]; omega), hcl, Nat.mul_one]) ?_
  unfold splice
  rw [List.take_zero, List.nil_append, Nat.mul_one, List.eraseIdx_eq_take_drop_succ]
  rw [List.take_append_of_le_length (by rw [hlen]; omega), ← List.map_take, List.take_append_of_le_length (by simp; omega), List.take_of_length_le (by simp; omega)]
section
variable {P : Program}
theorem step_delete_run {ops : Array Oper} {o : Oper} {a : Act} {w : World} {K : Act → World → Prop} {Q : Exit → Act → World → Prop} {E : Prop}
    (hg : o.guard = none) (d x : Operand) (dT sT : TypeId) (hop : o.op = Op.call { callee := Callee.builtin Builtin.delete, args := #[d, x], argTypes := #[dT, sT] })
    (v u : Value) (hd : a.eval d = v) (hx : a.eval x = u) {v' : Value} {w' : World} (hr : (Builtin.delete_ #[dT, sT] o.type #[v, u]).run P w = .ok v' w') (hK : K (a.put o.dst v') w') :
    if Region.wanted o (yielded ops a.tmps) = true then Oper.wp P o a w K Q else E := by
  have hw : Region.wanted o (yielded ops a.tmps) = true := by simp [Region.wanted, hg]
  rw [if_pos hw]
  unfold Oper.wp
  simp [execOp, hop, resolve, invoke, builtin, hd, hx, hr, Result.andThen]
  exact hK
end
/-- What 'drop' leaves. -/
def DropPost (W : World) (B s m : Nat) (v : Value) (ev mo : Int) (q : List Int) (n : Nat) (D : DataW Value) (r : Ending) (W' : World) : Prop :=
  r = .returned (.tuple #[]) ∧ ∃ v', W'.heap[s]? = some (.cells #[.int .i64 ev, .int .i64 mo, v', .map (some m)] soT) ∧ OwnI W' B v' (q.eraseIdx (bestTo q (lastOf mo q - 1))) ∧ KMap W' m n (D.del (.int .i64 (q.getD (bestTo q (lastOf mo q - 1)) 0))) ∧ Turns s m v.ownBlock W W' ∧ v'.ownBlock = v.ownBlock
def oneL (k : Nat) : List Int := oneTo k
theorem oneL_len (k : Nat) : (oneL k).length = k := by simp [oneL]
theorem oneL_snoc (k : Nat) : oneL (k + 1) = oneL k ++ [(k : Int) + 1] := by
  unfold oneL oneTo
  rw [List.range_succ, List.map_append]
  rfl
set_option maxHeartbeats 4000000 in
theorem drop_calls (W : World) (B s m : Nat) (v : Value) (ev mo : Int) (q : List Int) (n : Nat) (D : DataW Value) (hbox : W.heap[s]? = some (.cells #[.int .i64 ev, .int .i64 mo, v, .map (some m)] soT))
    (hrow : OwnI W B v q) (hmap : KMap W m n D) (hlo : ∀ x ∈ q, 0 ≤ x ∧ x ≤ 1000000) (hmo : 1 ≤ mo) (hq : (q.length : Int) = mo + 1) (hn : q.length ≤ 1000000) (hB : B ≤ W.heap.size) :
    Calls Try.prog 19 #[.pointer (some ⟨s, 0, none⟩)] W (DropPost W B s m v ev mo q n D) := by
  obtain ⟨i0, hi0, hz0, hz1, hz2⟩ := info_parts zinfo_i64
  obtain ⟨⟨y0, y1, y2, y3⟩, f0, f1, f2, f3⟩ := so_cells hbox
  obtain ⟨a, c, rfl, hints⟩ := own_ints hrow
  obtain ⟨K, hK⟩ : ∃ K, lastOf mo q = K := ⟨_, rfl⟩
  have hK1 : 1 ≤ K ∧ K < q.length ∧ (K : Int) + 1 = (if mo = 1 then (q.length : Int) else (q.length : Int) - 1) := by
    unfold lastOf at hK
    split at hK
    · rename_i h1; subst h1; rw [if_pos rfl]; omega
    · rename_i h1; rw [if_neg h1]; omega
  have HBox := Lib.hid hbox
  have HRow := Lib.hid hrow
  have HInts := Lib.hid hints
  have HMap := Lib.hid hmap
  have HLo := Lib.hid hlo
  have HKe := Lib.hid hK
  have HQ := Lib.hid hq
  have hq2 : 2 ≤ q.length := by omega
  have HKI := Lib.hid hK1.2.2
  have hk1 := hK1.1
  have hk2 := hK1.2.1
  clear hbox hrow hints hmap hlo hK hq hK1
  go_enter Try.func19, Try.ntmps19
  go_upto_if 16 with fail
  go_cut [2] (fun s2 wx => s2 = .int .i64 ((K : Int) + 1) ∧ wx = W)
  case first =>
    have e1 := HKI.out
    by_cases h1 : mo = 1
    · rw [if_pos h1] at e1
      have u1 : decide (mo = 1) = true := decide_eq_true h1
      have u2 : (mo == 1) = true := by rw [beq_iff_eq]; exact h1
      go_wp2_with fail
      go_meet
      exact ⟨by rw [e1], rfl⟩
    · rw [if_neg h1] at e1
      have u1 : decide (mo = 1) = false := decide_eq_false h1
      have u2 : (mo == 1) = false := by rw [beq_eq_false_iff_ne]; exact h1
      go_wp2_with fail
      go_meet
      exact ⟨by rw [e1], rfl⟩
  case rest =>
    obtain ⟨rfl, hw⟩ := hcut
    have hw2 := hw.symm
    subst hw2
    clear hw
    go_wp2_with fail
    clear y0 y1 y2 y3 f0 f1 f2 f3
    have HB2 := Lib.hid hB
    go_loopw [3, 4] (fun v3 v4 wr => ∃ (j : Nat) (u : Value), j ≤ K ∧ v4 = .int .i64 ((j : Int) + 1) ∧ u = v3 ∧ OwnI wr W.heap.size u (oneL j) ∧ Below W.heap.size W wr) (fun _ v4 _ => K + 1 - (intOf v4).toNat)
    case atStart => exact ⟨0, _, Nat.zero_le _, rfl, rfl, World.ownsRow_nil _ _ _ _, Below.refl _ _⟩
    case round =>
      obtain ⟨j, u, hj, rfl, rfl, hown, hbr⟩ := hrel
      have HO := Lib.hid hown
      have HBr := Lib.hid hbr
      clear hown hbr
      by_cases hlt : j < K
      · have t1 : decide ((j : Int) + 1 < (K : Int) + 1) = true := decide_eq_true (by omega)
        have t2 : (j : Int) + 1 < (K : Int) + 1 := by omega
        have u3 : decide (j + 1 < K + 1) = true := decide_eq_true (by omega)
        have HO1 : Hid ((wr.alloc (.cells #[.int .i64 ((j : Int) + 1)] 3)).ownsRow W.heap.size 3 1 u j ((oneL j).map zv)) := by
          have h1 : wr.ownsRow W.heap.size 3 1 u (oneL j).length ((oneL j).map zv) := HO.out
          rw [oneL_len j] at h1
          exact h1.alloc _
        have HSz : Hid (W.heap.size ≤ (wr.alloc (.cells #[.int .i64 ((j : Int) + 1)] 3)).heap.size) := by have := HBr.out.size; show _ ≤ _; rw [World.size_alloc]; omega
        have HBa := Lib.hid ((Below.refl wr.heap.size wr).alloc (Nat.le_refl _) (.cells #[.int .i64 ((j : Int) + 1)] 3))
        go_wp2_with (at_builtin; refine wpList_append_src rfl (.tmp 24) (.tmp 26) 41 41 rfl W.heap.size 3 i0 (.int .i64 0) 1 8 Try.underlying41 zappend_ints hi0 hz0 hz1 hz2 rfl (by decide) (by decide) u j ((oneL j).map zv) rfl HO1.out _ 1 [zv ((j : Int) + 1)] rfl (src_new wr [zv ((j : Int) + 1)] 3 1 1 rfl (by simp [Value.oneCell']) _) ?_ ?_ ?_ ?_)
        case _ => unfold maxLen; omega
        case _ => omega
        case _ => exact HSz.out
        intro v' w2 hown hgr _
        have HO2 : Hid (OwnI w2 W.heap.size v' (oneL (j + 1))) := by
          show World.ownsRow _ _ _ _ _ _ _
          rw [oneL_len, oneL_snoc, List.map_append]
          exact hown
        have HB3 : Hid (Below W.heap.size W w2) := (HBr.out.trans (HBa.out.mono HBr.out.size)).grown hgr HSz.out (fun i hi => (HO1.out.lt i hi).1)
        clear hown hgr
        go_wp2_with fail
        go_roundw
        case rel => exact ⟨j + 1, v', by omega, by go_num, rfl, HO2.out, HB3.out⟩
        case measure => simp [intOf]; omega
      · obtain rfl : j = K := by omega
        have t1 : decide ((j : Int) + 1 < (j : Int) + 1) = false := decide_eq_false (by omega)
        have t2 : ¬ ((j : Int) + 1 < (j : Int) + 1) := by omega
        have u3 : decide (j + 1 < j + 1) = false := decide_eq_false (by omega)
        obtain ⟨k, rfl⟩ : ∃ k, j = k + 1 := ⟨j - 1, by omega⟩
        obtain ⟨ab, d, rfl, hm⟩ := own_ints HO.out
        rw [oneL_len] at hm ⊢
        have hG0 : GapI W s (.int .i64 ev) (.int .i64 mo) (.map (some m)) a q.length c q := ⟨HBox.out, HInts.out, HLo.out, hn⟩
        have hG := hG0.below HBr.out
        have HMin := Lib.hid (min_calls wr s _ _ _ a q.length c q hG ab k d hm (by omega))
        clear hG hG0 hm
        go_wp2_with fail
        refine HMin.out.mono ?_
        rintro r w2 ⟨rfl, hb2⟩
        have HBw := Lib.hid (HBr.out.trans (hb2.mono HBr.out.size))
        have hbt := bestTo_ge q k
        obtain ⟨i, hi⟩ : ∃ i, bestTo q k = i := ⟨_, rfl⟩
        have hiq : i < q.length := by omega
        have HIe : Hid (bestTo q (lastOf mo q - 1) = i) := by show _ = _; rw [HKe.out, Nat.add_sub_cancel]; exact hi
        rw [hi]
        clear hb2 hbt hi
        obtain ⟨bb, o, hc, hix⟩ := at_ints (HInts.out.below (stable_intAt _) HBw.out)
        have e0 := hc i hiq
        have x0 := fun kd w' => hix kd i w' hiq
        have hg : q.getD i 0 = q[i] := by rw [List.getD_eq_getElem?_getD, List.getElem?_eq_getElem hiq]; rfl
        have hlo := HLo.out q[i] (List.getElem_mem _)
        have HXe : Hid (q.getD i 0 = q[i]) := hg
        generalize q[i] = x at *
        have hbox2 := (HBw.out.block s (Array.getElem?_eq_some_iff.1 HBox.out).1).trans HBox.out
        obtain ⟨⟨y0, y1, y2, y3⟩, f0, f1, f2, f3⟩ := so_cells hbox2
        have hmap2 : KMap w2 m n D := HMap.out.kept (Sl.grown_below HBw.out none) (by simp)
        have hrow2 : OwnI w2 B (.slice a q.length c) q := ownsRow_below HRow.out HBw.out
        obtain ⟨w3, hdel, hmap3, htu⟩ := World.ownsMap.drop (w := w2.drew) hmap2.drew int_law Try.underlying58 (key_int (k := x) ⟨by omega, by omega⟩) 0
        have hgr : w2.grownBy w3 (some m) := ⟨htu.grown.os, htu.grown.tape, htu.grown.output, htu.grown.size, fun b hb h => htu.grown.block b hb h⟩
        have hsm : s ≠ m := by
          intro e
          obtain ⟨es, ck, h1, _⟩ := hmap2
          rw [← e, hbox2] at h1
          cases h1
        have hvm : (Value.slice a q.length c).ownBlock ≠ some m := by
          obtain ⟨es, ck, h1, _⟩ := hmap2
          have hr : w2.ownsRow B 3 1 (.slice a q.length c) q.length (q.map zv) := hrow2
          rcases hr.2 with ⟨e1, _⟩ | ⟨g, cap, cur, e1, _, hg, _⟩
          · rw [e1]; intro h2; cases h2
          · rw [e1]
            intro h2
            obtain rfl : g = m := Option.some.inj h2
            rw [hg] at h1
            cases h1
        have HBox3 : Hid (w3.heap[s]? = some (.cells #[.int .i64 ev, .int .i64 mo, .slice a q.length c, .map (some m)] soT)) := (hgr.block s (Array.getElem?_eq_some_iff.1 hbox2).1 (by simpa using hsm)).trans hbox2
        have HRow3 : Hid (OwnI w3 B (.slice a q.length c) q) := own_other hrow2 hgr (fun j hj => by obtain rfl := Option.some.inj hj; exact hvm)
        have HT3 : Hid (Turns s m (Value.slice a q.length c).ownBlock W w3) := (Turns.of_below HBw.out).trans (Turns.of_map hgr) (.inl rfl)
        have HMap3 : Hid (KMap w3 m n (D.del (.int .i64 x))) := hmap3
        have HSm := Lib.hid hsm
        have HVm := Lib.hid hvm
        have HDel := Lib.hid hdel
        clear hc hix hg hbox2 hmap2 hrow2 htu hgr hsm hvm hmap3 hdel
        go_upto_region 9 with fail
        go_cut [43] from 32 to 43 (fun s43 wx => wx = w3)
        case first =>
          go_region_law (refine step_delete_run rfl (.tmp 35) (.tmp 42) 58 3 rfl (.map (some m)) (.int .i64 x) (by simp [Act.eval]) (by simp [Act.eval]) HDel.out ?_)
          all_goals
            go_wp2_with fail
            go_meet
            exact rfl
        case rest =>
          have hw2 := hcut.symm
          subst hw2
          clear hcut
          obtain ⟨⟨z0, z1, z2, z3⟩, h0, h1, h2, h3⟩ := so_cells HBox3.out
          have HDl := Lib.hid (int_delete_calls w3 B _ q i HRow3.out hiq)
          clear e0 x0 y0 y1 y2 y3 f0 f1 f2 f3
          go_wp2_with fail
          refine HDl.out.mono ?_
          rintro r w4 ⟨v4, rfl, hrow4, hgr4, hob⟩
          have hvs : (Value.slice a q.length c).ownBlock ≠ some s := own_apart HRow3.out HBox3.out (by decide)
          have hbox4 : w4.heap[s]? = some (.cells #[.int .i64 ev, .int .i64 mo, .slice a q.length c, .map (some m)] soT) := (hgr4.block s (Array.getElem?_eq_some_iff.1 HBox3.out).1 (fun e => hvs e.symm)).trans HBox3.out
          have hmap4 : KMap w4 m n (D.del (.int .i64 x)) := HMap3.out.kept hgr4 (fun e => HVm.out e.symm)
          have HT4 : Hid (Turns s m (Value.slice a q.length c).ownBlock W w4) := HT3.out.trans (Turns.of_grown hgr4) (.inl rfl)
          obtain ⟨a4, c4, rfl, hr4⟩ := own_ints hrow4
          obtain ⟨⟨y0, y1, y2, y3⟩, f0, f1, f2, f3⟩ := so_cells hbox4
          have hgb : w4.grownBy (w4.setCell ⟨s, 2, none⟩ (.slice a4 (q.eraseIdx i).length c4)) (some s) := Sl.setCells_grown s [.slice a4 (q.eraseIdx i).length c4] 2 w4
          have hbox5 : (w4.setCell ⟨s, 2, none⟩ (.slice a4 (q.eraseIdx i).length c4)).heap[s]? = some (.cells #[.int .i64 ev, .int .i64 mo, .slice a4 (q.eraseIdx i).length c4, .map (some m)] soT) := Cut.set (cur := [.int .i64 ev, .int .i64 mo, .slice a q.length c, .map (some m)]) hbox4 2 _
          have hrow5 : OwnI (w4.setCell ⟨s, 2, none⟩ (.slice a4 (q.eraseIdx i).length c4)) B (.slice a4 (q.eraseIdx i).length c4) (q.eraseIdx i) := own_other hrow4 hgb (fun j hj => by obtain rfl := Option.some.inj hj; rw [hob]; exact hvs)
          have HBox5 := Lib.hid hbox5
          have HRow5 := Lib.hid hrow5
          have HMap5 : Hid (KMap (w4.setCell ⟨s, 2, none⟩ (.slice a4 (q.eraseIdx i).length c4)) m n (D.del (.int .i64 x))) := hmap4.kept hgb (fun e => HSm.out (Option.some.inj e).symm)
          have HT5 : Hid (Turns s m (Value.slice a q.length c).ownBlock W (w4.setCell ⟨s, 2, none⟩ (.slice a4 (q.eraseIdx i).length c4))) := HT4.out.trans (Turns.of_box hgb) (.inl rfl)
          have HOb := Lib.hid hob
          clear hrow4 hgr4 hob hvs hbox4 hmap4 hr4 hgb hbox5 hrow5 z0 z1 z2 z3 h0 h1 h2 h3
          go_wp2_with fail
          refine bodyPost_end (v := .tuple #[]) (results_none rfl _ _ _) rfl ?_
          refine ⟨rfl, _, HBox5.out, ?_, ?_, HT5.out, HOb.out⟩
          · rw [HIe.out]; exact HRow5.out
          · rw [HIe.out, HXe.out]; exact HMap5.out
end Go.Proofs.Ytmhofdoifgfjfaa
