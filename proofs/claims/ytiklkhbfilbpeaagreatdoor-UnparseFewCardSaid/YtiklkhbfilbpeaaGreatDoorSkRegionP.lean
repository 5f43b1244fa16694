/-
  A law on a region whose order is open, in which a call may end in a panic: as RegionT's, and beside it what holds behind such an end. Conditions: as the law says.
-/
import Derived.Test.YtiklkhbfilbpeaaGreatDoorSkRegionT
set_option linter.unusedVariables false
set_option linter.unusedSimpArgs false
namespace Go.Proofs.YtiklkhbfilbpeaaGreatDoor.Rp
open Go.RowKit Rg Rs Rt
/-- As 'does'; a call may end in a panic, of which D holds. -/
def doesX (P : Program) (D : List PanicEntry → World → Prop) (o : Oper) (a : Act) (w : World) (post : Value → World → Prop) : Prop :=
  match (execOp a.eval o).run P w with
  | .ok (.value v) w' => post v w'
  | .ok .skip w' => post undef w'
  | .ok (.enter f args) w' => Calls P f args w' fun e w'' => (∃ v, e = .returned v ∧ post v w'') ∨ (∃ ch, e = .panicked ch ∧ D ch w'')
  | _ => False
theorem doesX_of {P : Program} {D : List PanicEntry → World → Prop} {o : Oper} {a : Act} {w : World} {post : Value → World → Prop} (h : does P o a w post) : doesX P D o a w post := by
  unfold does at h
  unfold doesX
  revert h
  cases (execOp a.eval o).run P w with
  | halt x w' => exact id
  | ok n w' =>
    cases n with
    | value v => exact id
    | skip => intro h; exact h.elim
    | enter f args => exact fun h => Calls.mono h fun e w'' he => .inl he
    | _ => exact id
/-- A call of a named function, by its contract. -/
theorem does_func {P : Program} {D : List PanicEntry → World → Prop} {a : Act} {w : World} {post : Value → World → Prop} {dst : Option Tmp} {f : FuncId} {fn : Func} {xs : Array Operand} {ats : Array TypeId} {ty : TypeId} {pos : String} {after : Array Edge} {guard : Option (Nat × Bool)}
    (args : Array Value) (h : P.funcs[f]? = some fn) (hn : (fn.name == "runtime.NumGoroutine") = false) (hb : fn.body.isNone = false) (hargs : xs.map a.eval = args)
    {R : Ending → World → Prop} (hc : Calls P f args w R) (hp : ∀ e w', R e w' → (∃ v, e = .returned v ∧ post v w') ∨ (∃ ch, e = .panicked ch ∧ D ch w')) :
    doesX P D { dst, op := .call { callee := .value (.func f), args := xs, argTypes := ats }, type := ty, pos, after, guard } a w post := by
  unfold doesX
  have : (execOp a.eval { dst, op := .call { callee := .value (.func f), args := xs, argTypes := ats }, type := ty, pos, after, guard }).run P w = .ok (.enter f args) w := by
    rw [execOp_call_go, hargs]
    simpa using run_callFunc h hn hb args w
  rw [this]
  exact hc.mono hp
theorem does_skip {P : Program} {D : List PanicEntry → World → Prop} {o : Oper} {a : Act} {w w' : World} {post : Value → World → Prop} (h : (execOp a.eval o).run P w = .ok .skip w') (hp : post undef w') : doesX P D o a w post := by
  unfold doesX; rw [h]; exact hp
theorem doesX_mono {P : Program} {D : List PanicEntry → World → Prop} {o : Oper} {a : Act} {w : World} {p q : Value → World → Prop} (h : doesX P D o a w p) (hq : ∀ v w', p v w' → q v w') : doesX P D o a w q := by
  unfold doesX at h ⊢
  revert h
  cases (execOp a.eval o).run P w with
  | halt x w' => exact id
  | ok n w' =>
    cases n with
    | value v => exact hq v w'
    | skip => exact hq undef w'
    | enter f args => exact fun h => Calls.mono h fun e w'' he => he.imp (fun ⟨v, h1, h2⟩ => ⟨v, h1, hq v w'' h2⟩) id
    | _ => exact id
theorem wp_of_doesX {P : Program} {D : List PanicEntry → World → Prop} {o : Oper} {a : Act} {w : World} {post : Value → World → Prop} {K : Act → World → Prop} {Q : Exit → Act → World → Prop} (h : doesX P D o a w post)
    (hK : ∀ v w', post v w' → K (a.put o.dst v) w') (hQ : ∀ ch w', D ch w' → Q (.panic ch) a w') : o.wp P a w K Q := by
  unfold doesX at h
  unfold Oper.wp
  revert h
  cases (execOp a.eval o).run P w with
  | halt x w' => intro h; exact h.elim
  | ok n w' =>
    cases n with
    | value v => intro h; exact hK v w' h
    | skip => intro h; exact hK undef w' h
    | enter f args =>
      intro h
      refine Calls.mono h fun e w'' he => ?_
      rcases he with ⟨v, rfl, hp⟩ | ⟨ch, rfl, hp⟩
      · exact hK v w'' hp
      · exact hQ ch w'' hp
    | _ => intro h; exact h.elim
section
variable {P : Program} {ops : Array Oper} {Q : Exit → Act → World → Prop} {R : World → World → Prop} {S : (Nat → Bool) → World → Prop} {K : Nat → World → World → Prop} {D : List PanicEntry → World → Prop}
theorem rg_any (hsh : shapeB ops = true) (n : Nat) (hn : n ≤ ops.size) (ht : tailB ops n = true) (runs : Nat → Bool) (G : Nat → Value → World → Prop) (a0 : Act) (w0 : World)
    (hst : ∀ i k v w w', i ≠ k → R w0 w → G i v w → K k w w' → G i v w') (hstep : ∀ k w w', R w0 w → K k w w' → R w0 w')
    (hbound : ∀ (j : Nat) (o : Oper) (t : Tmp), ops[j]? = some o → o.dst = some t → t < a0.tmps.size)
    (hguard : ∀ (i : Nat) (o : Oper) (g : Nat) (want : Bool), i < n → ops[i]? = some o → o.guard = some (g, want) → if runs i then (runs g = true ∧ ∀ v w, G g v w → v = .bool want) else (runs g = false ∨ ∀ v w, G g v w → v = .bool (!want)))
    (hfree : ∀ (i : Nat) (o : Oper), i < n → ops[i]? = some o → o.guard = none → runs i = true)
    (hop : ∀ (i : Nat) (o : Oper), i < n → ops[i]? = some o → runs i = true → ∀ (a : Act) (w : World) (ls : Nat → Bool), R w0 w → S ls w → ls i = false → (∀ p j, pathTo ops o p j = true → ls j = true) → (∀ p j oj, ops[j]? = some oj → pathTo ops oj p i = true → ls j = false) →
      (∀ t ∈ reads ops o, known ops runs G a0 o a w t) → doesX P D o a w fun v w' => K i w w' ∧ G i v w' ∧ S (upd ls i) w')
    (hskip : ∀ i ls w, i < n → runs i = false → S ls w → S (upd ls i) w) (hext : ∀ ls ls' w, (∀ i, ls i = ls' i) → S ls w → S ls' w)
    (hQ : ∀ ch (a : Act) w', a.defers = a0.defers → D ch w' → Q (.panic ch) a w')
    (hdone : ∀ (vals : Nat → Value) (w : World) (ls : Nat → Bool), R w0 w → S ls w → (∀ i, i < n → ls i = true) → (∀ i, i < n → Gx runs G i (vals i) w) → wpOps P ops Q (List.range' n (ops.size - n)) ⟨putAll vals (ops.toList.take n) 0 a0.tmps, a0.defers⟩ w) :
    ∀ (fuel : Nat) (listed : Array Bool) (a : Act) (w : World) (vals : Nat → Value), Inv R S n ops runs G a0 w0 listed a w vals → ((List.range ops.size).filter fun i => !listed.getD i true).length ≤ fuel →
      wpAny P .any ops Q fuel listed a w := by
  have heads_done : ∀ (fuel : Nat) (listed : Array Bool) (a : Act) (w : World) (vals : Nat → Value), Inv R S n ops runs G a0 w0 listed a w vals → ((List.range ops.size).filter fun i => !listed.getD i true).length ≤ fuel →
      (∀ i, i < n → listed.getD i false = true) → wpAny P .any ops Q fuel listed a w := by
    intro fuel listed a w vals inv hf hall
    have hd := hdone vals w _ inv.ext inv.st hall fun i hi => inv.g i (hall i hi)
    have ha : a = ⟨putAll vals (ops.toList.take n) 0 a0.tmps, a0.defers⟩ := by
      cases a with
      | mk tmps defers =>
        have e1 : defers = a0.defers := inv.defers
        have e2 : tmps = putAll vals (ops.toList.take n) 0 a0.tmps := by
          apply Array.ext_getElem?
          intro t
          rcases Nat.lt_or_ge t a0.tmps.size with htl | htl
          · by_cases hw : ∃ (j : Nat) (o : Oper), j < n ∧ ops[j]? = some o ∧ o.dst = some t
            · obtain ⟨j, o, hjn, hj, hd⟩ := hw
              rw [inv.new j o t hj hd (hall j hjn) htl]
              rw [(putAll_get vals t (ops.toList.take n) 0 a0.tmps).2 j o (by rw [List.getElem?_take, if_pos hjn]; simpa using hj) hd (fun k' o' hk' hd' => by
                rw [List.getElem?_take] at hk'
                split at hk'
                · exact (shape_at hsh hj).2.2.2.1 t hd k' o' (by simpa using hk') hd'
                · cases hk') htl]
              simp
            · have hno : ∀ (j : Nat) (o : Oper), j < n → ops[j]? = some o → o.dst ≠ some t := fun j o hjn hj hd => hw ⟨j, o, hjn, hj, hd⟩
              rw [inv.old t fun j o hj hd => by
                rcases Nat.lt_or_ge j n with h | h
                · exact absurd hd (hno j o h hj)
                · exact inv.tail j h]
              rw [(putAll_get vals t (ops.toList.take n) 0 a0.tmps).1 fun k o hk => by
                rw [List.getElem?_take] at hk
                split at hk
                · rename_i hkn; exact hno k o hkn (by simpa using hk)
                · cases hk]
          · have h1 : tmps.size = a0.tmps.size := inv.size
            rw [Array.getElem?_eq_none (by omega), Array.getElem?_eq_none (by rw [putAll_size]; exact htl)]
        rw [e1, e2]
    rw [ha]
    refine Rg.wpAny_tail hsh ht (ops.size - n) n fuel listed _ w rfl (Nat.le_refl _) hn ?_ inv.lsize hall inv.tail hd
    refine Nat.le_trans ?_ hf
    have hsub : (List.range' n (ops.size - n)).Sublist ((List.range ops.size).filter fun i => !listed.getD i true) := by
      have e : List.range ops.size = List.range n ++ List.range' n (ops.size - n) := by
        rw [List.range_eq_range', List.range_eq_range']
        have := List.range'_append_1 (s := 0) (m := n) (n := ops.size - n)
        rw [Nat.zero_add] at this
        rw [this]
        congr 1
        omega
      rw [e, List.filter_append]
      have e2 : ((List.range' n (ops.size - n)).filter fun i => !listed.getD i true) = List.range' n (ops.size - n) := by
        rw [List.filter_eq_self]
        intro i hi
        have hi' := List.mem_range'_1.1 hi
        have := getD_in (listed := listed) (i := i) (by rw [inv.lsize]; omega) (inv.tail i hi'.1)
        rw [this]; rfl
      rw [e2]
      exact List.sublist_append_right _ _
    simpa using hsub.length_le
  have not_done : ∀ (listed : Array Bool) (a : Act) (w : World) (vals : Nat → Value), Inv R S n ops runs G a0 w0 listed a w vals → ¬ (∀ i, i < n → listed.getD i false = true) → ∃ i, i < n ∧ listed.getD i false = false ∧ i ∈ Region.ready .any ops listed := by
    intro listed a w vals inv hno
    have : ∃ i, i < n ∧ listed.getD i false = false := by
      refine Classical.byContradiction fun hc => hno fun i hi => ?_
      rcases hl : listed.getD i false with _ | _
      · exact absurd ⟨i, hi, hl⟩ hc
      · rfl
    obtain ⟨i, hi, hl⟩ := this
    induction i using Nat.strongRecOn with
    | _ i ih =>
      have his : i < ops.size := by omega
      have ho : ops[i]? = some ops[i] := Array.getElem?_eq_getElem his
      by_cases hall : ∀ e ∈ ops[i].after, Region.binds .any e = true → listed.getD e.on false = true
      · exact ⟨i, hi, hl, mem_ready.2 ⟨getD_in (by rw [inv.lsize]; exact his) hl, ops[i], ho, hall⟩⟩
      · have : ∃ e ∈ ops[i].after, Region.binds .any e = true ∧ listed.getD e.on false = false := by
          refine Classical.byContradiction fun hc => hall fun e he hb => ?_
          rcases hle : listed.getD e.on false with _ | _
          · exact absurd ⟨e, he, hb, hle⟩ hc
          · rfl
        obtain ⟨e, he, hb9, hle⟩ := this
        have hlt := (shape_at hsh ho).1 e he hb9
        exact ih e.on hlt (by omega) hle
  intro fuel
  induction fuel with
  | zero =>
    intro listed a w vals inv hf
    refine heads_done 0 listed a w vals inv hf fun i hi => ?_
    rcases hl : listed.getD i false with _ | _
    · have : i ∈ (List.range ops.size).filter fun i => !listed.getD i true := List.mem_filter.2 ⟨List.mem_range.2 (by omega), by rw [getD_in (by rw [inv.lsize]; omega) hl]; rfl⟩
      have h0 : ((List.range ops.size).filter fun i => !listed.getD i true) = [] := List.eq_nil_of_length_eq_zero (by omega)
      rw [h0] at this
      cases this
    · rfl
  | succ fuel ih =>
    intro listed a w vals inv hf
    by_cases hdn : ∀ i, i < n → listed.getD i false = true
    · exact heads_done (fuel + 1) listed a w vals inv hf hdn
    obtain ⟨i0, hi0n, hi0l, hi0r⟩ := not_done listed a w vals inv hdn
    refine ⟨fun hr => (by rw [hr] at hi0r; cases hi0r), fun i hi => ?_⟩
    obtain ⟨hun, o, ho, hall⟩ := mem_ready.1 hi
    have hin : i < n := by
      rcases Nat.lt_or_ge i n with h | h
      · exact h
      · have := rch_ready inv.closed ho hall (tail_at ht ho h i0 (by omega))
        rw [hi0l] at this
        cases this
    have his : i < ops.size := (Array.getElem?_eq_some_iff.1 ho).1
    have hils : i < listed.size := by rw [inv.lsize]; exact his
    have hunf : listed.getD i false = false := getD_both hun
    obtain ⟨hback, hsel, hg, huniq, hread⟩ := shape_at hsh ho
    have hlater : ((List.range ops.size).filter fun k => !(listed.setIfInBounds i true).getD k true).length ≤ fuel := by
      have hsub : ((List.range ops.size).filter fun k => !(listed.setIfInBounds i true).getD k true) = ((List.range ops.size).filter fun k => !listed.getD k true).filter fun k => decide (k ≠ i) := by
        rw [List.filter_filter]
        apply List.filter_congr
        intro k hk
        by_cases hki : k = i
        · subst hki; simp [hils]
        · rw [getD_set_ne true (fun e => hki e.symm)]; simp [hki]
      have hmem : i ∈ (List.range ops.size).filter fun k => !listed.getD k true := List.mem_filter.2 ⟨List.mem_range.2 his, by rw [hun]; rfl⟩
      have hlt : (((List.range ops.size).filter fun k => !listed.getD k true).filter fun k => decide (k ≠ i)).length < ((List.range ops.size).filter fun k => !listed.getD k true).length :=
        List.length_filter_lt_length_iff_exists.2 ⟨i, hmem, by simp⟩
      rw [hsub]
      omega
    have hsl : (listed.setIfInBounds i true).getD i false = true := by simp [hils]
    -- the step's own conclusion
    have next : ∀ (v : Value) (w' : World), R w0 w' → (∀ k, k ≠ i → ∀ u, G k u w → G k u w') → S (upd (fun k => listed.getD k false) i) w' → Gx runs G i v w' → wpAny P .any ops Q fuel (listed.setIfInBounds i true) (a.put o.dst v) w' := by
      intro v w' hb hkeep hS hG
      refine ih _ _ _ (fun k => if k = i then v else vals k) ?_ hlater
      refine ⟨hb, hext _ _ _ (fun k => ?_) hS, ?_, ?_, by simp [inv.lsize], ?_, ?_, ?_, ?_, fun t htn => by rw [getD_set_ne false (by omega)]; exact inv.tail t htn⟩
      · unfold upd
        by_cases hki : k = i
        · subst hki; simp [hsl]
        · rw [if_neg hki, getD_set_ne false (fun e => hki e.symm)]
      · cases hd : o.dst <;> simpa [Act.put, hd] using inv.defers
      · cases hd : o.dst <;> simpa [Act.put, hd] using inv.size
      · intro k hk
        by_cases hki : k = i
        · subst hki; simpa using hG
        · rw [getD_set_ne false (fun e => hki e.symm)] at hk
          have := inv.g k hk
          simp only [hki, if_false]
          unfold Gx at this ⊢
          split
          · rename_i hr; rw [if_pos hr] at this; exact hkeep k hki _ this
          · rename_i hr; rw [if_neg hr] at this; exact this
      · intro t ht
        have hne : o.dst ≠ some t := fun hd => by
          have := ht i o ho hd
          rw [hsl] at this
          cases this
        have h1 := inv.old t fun j oj hj hjd => by
          have := ht j oj hj hjd
          by_cases hji : j = i
          · subst hji; rw [hsl] at this; cases this
          · rwa [getD_set_ne false (fun e => hji e.symm)] at this
        cases hd : o.dst with
        | none => simpa [Act.put, hd] using h1
        | some d =>
          have : d ≠ t := fun e => hne (by rw [hd, e])
          simp only [Act.put]
          rw [Array.getElem?_setIfInBounds_ne this]
          exact h1
      · intro j oj t hj hjd hl ht
        by_cases hji : j = i
        · subst hji
          have : oj = o := Option.some.inj (hj.symm.trans ho)
          subst this
          simp [Act.put, hjd, inv.size, ht]
        · rw [getD_set_ne false (fun e => hji e.symm)] at hl
          have h1 := inv.new j oj t hj hjd hl ht
          simp only [hji, if_false]
          cases hd : o.dst with
          | none => simpa [Act.put, hd] using h1
          | some d =>
            have : d ≠ t := fun e => hji (huniq d hd j oj hj (by rw [hjd, e]))
            simp only [Act.put]
            rw [Array.getElem?_setIfInBounds_ne this]
            exact h1
      · intro j oj hj hl e he hb'
        by_cases hji : j = i
        · subst hji
          have : oj = o := Option.some.inj (hj.symm.trans ho)
          subst this
          exact getD_set_true (hall e he hb')
        · rw [getD_set_ne false (fun e => hji e.symm)] at hl
          exact getD_set_true (inv.closed j oj hj hl e he hb')
    -- is it wanted?
    have hwant : Region.wanted o (yielded ops a.tmps) = runs i := by
      unfold Region.wanted
      cases hgd : o.guard with
      | none => simp [hfree i o hin ho hgd]
      | some gw =>
        obtain ⟨g, want⟩ := gw
        have h1 := hguard i o g want hin ho hgd
        obtain ⟨hw, hdst⟩ := hg g want hgd
        obtain ⟨e, he, hb, hon⟩ := waits_spec hw
        have hlg : listed.getD g false = true := by rw [← hon]; exact hall e he hb
        obtain ⟨d, hd⟩ := Option.isSome_iff_exists.1 hdst
        obtain ⟨og, hog, hogd⟩ := Option.bind_eq_some_iff.1 hd
        have hnew := inv.new g og d hog hogd hlg (hbound g og d hog hogd)
        have hGg := inv.g g hlg
        have hy : yielded ops a.tmps g = (match vals g with | .bool b => some b | _ => none) := by
          unfold yielded
          simp [hd, hnew]
          cases vals g <;> rfl
        simp only []
        rw [hy]
        unfold Gx at hGg
        cases hri : runs i with
        | true =>
          rw [hri, if_pos rfl] at h1
          rw [h1.1, if_pos rfl] at hGg
          rw [h1.2 _ _ hGg]
          simp
        | false =>
          rw [hri] at h1
          simp at h1
          rcases h1 with h1 | h1
          · rw [h1] at hGg
            simp at hGg
            rw [hGg]
            rfl
          · cases hrg : runs g with
            | false => rw [hrg] at hGg; simp at hGg; rw [hGg]; rfl
            | true =>
              rw [hrg, if_pos rfl] at hGg
              rw [h1 _ _ hGg]
              simp
    unfold wpOp
    rw [ho]
    simp only []
    rw [hwant]
    cases hri : runs i with
    | false =>
      simp only [Bool.false_eq_true, if_false]
      exact next undef w inv.ext (fun _ _ _ h => h) (hskip i _ w hin hri inv.st) (by unfold Gx; rw [hri]; simp)
    | true =>
      simp only [if_true]
      left
      refine wp_of_doesX (D := D) (post := fun v w' => K i w w' ∧ G i v w' ∧ S (upd (fun k => listed.getD k false) i) w') ?_ (fun v w' hp => next v w' (hstep i w w' inv.ext hp.1) (fun k hk u h => hst k i u w w' hk inv.ext h hp.1) hp.2.2 (by unfold Gx; rw [hri, if_pos rfl]; exact hp.2.1)) fun ch w' hd => hQ ch a w' inv.defers hd
      refine hop i o hin ho hri a w _ inv.ext inv.st hunf (fun p j hp => path_closed inv p o j hall hp) (fun p j oj hj hp => ?_) fun t ht => ?_
      · rcases hlj : listed.getD j false with _ | _
        · rfl
        · have := path_closed inv p oj i (inv.closed j oj hj hlj) hp
          rw [hunf] at this
          cases this
      unfold known
      cases hs : source ops o t with
      | some j =>
        simp only []
        unfold source at hs
        obtain ⟨e, hfe, hej⟩ := Option.map_eq_some_iff.1 hs
        have hp := List.find?_some hfe
        have hem := List.mem_of_find?_eq_some hfe
        simp only [Bool.and_eq_true, beq_iff_eq] at hp
        subst hej
        have hlj := hall e (by simpa using hem) hp.1
        obtain ⟨oj, hoj, hojd⟩ := Option.bind_eq_some_iff.1 hp.2
        rw [eval_tmp, inv.new e.on oj t hoj hojd hlj (hbound _ _ _ hoj hojd)]
        exact inv.g e.on hlj
      | none =>
        simp only []
        rcases hread t ht with h1 | h1
        · rw [hs] at h1; cases h1
        · rw [eval_tmp, eval_tmp, inv.old t fun j oj hj hjd => ?_]
          obtain ⟨e, he, hb, hon⟩ := waits_spec (h1 j oj hj hjd)
          rcases hlj : listed.getD j false with _ | _
          · rfl
          · have := inv.closed j oj hj hlj e he hb
            rw [hon, hunf] at this
            cases this
theorem wp_region_rg {id : Nat} (hm : P.follows .mixedOrders = true) (hsh : shapeB ops = true) (n : Nat) (hn : n ≤ ops.size) (ht : tailB ops n = true) (runs : Nat → Bool) (G : Nat → Value → World → Prop) (a0 : Act) (w0 : World)
    (hst : ∀ i k v w w', i ≠ k → R w0 w → G i v w → K k w w' → G i v w') (hstep : ∀ k w w', R w0 w → K k w w' → R w0 w')
    (hbound : ∀ (j : Nat) (o : Oper) (t : Tmp), ops[j]? = some o → o.dst = some t → t < a0.tmps.size)
    (hguard : ∀ (i : Nat) (o : Oper) (g : Nat) (want : Bool), i < n → ops[i]? = some o → o.guard = some (g, want) → if runs i then (runs g = true ∧ ∀ v w, G g v w → v = .bool want) else (runs g = false ∨ ∀ v w, G g v w → v = .bool (!want)))
    (hfree : ∀ (i : Nat) (o : Oper), i < n → ops[i]? = some o → o.guard = none → runs i = true)
    (hop : ∀ (i : Nat) (o : Oper), i < n → ops[i]? = some o → runs i = true → ∀ (a : Act) (w : World) (ls : Nat → Bool), R w0 w → S ls w → ls i = false → (∀ p j, pathTo ops o p j = true → ls j = true) → (∀ p j oj, ops[j]? = some oj → pathTo ops oj p i = true → ls j = false) →
      (∀ t ∈ reads ops o, known ops runs G a0 o a w t) → doesX P D o a w fun v w' => K i w w' ∧ G i v w' ∧ S (upd ls i) w')
    (hskip : ∀ i ls w, i < n → runs i = false → S ls w → S (upd ls i) w) (hext : ∀ ls ls' w, (∀ i, ls i = ls' i) → S ls w → S ls' w)
    (hQ : ∀ ch (a : Act) w', a.defers = a0.defers → D ch w' → Q (.panic ch) a w')
    (hdone : ∀ (vals : Nat → Value) (w : World) (ls : Nat → Bool), R w0 w → S ls w → (∀ i, i < n → ls i = true) → (∀ i, i < n → Gx runs G i (vals i) w) → wpOps P ops Q (List.range' n (ops.size - n)) ⟨putAll vals (ops.toList.take n) 0 a0.tmps, a0.defers⟩ w)
    (hR0 : R w0 w0.drew) (hS0 : S (fun _ => false) w0.drew) : (Code.region id ops true).wp P Q a0 w0 := by
  refine wp_region_any hm ?_
  refine rg_any hsh n hn ht runs G a0 w0 hst hstep hbound hguard hfree hop hskip hext hQ hdone ops.size _ a0 _ (fun _ => undef) ⟨hR0, ?_, rfl, rfl, by simp, ?_, fun t _ => rfl, ?_, ?_, fun t _ => getD_replicate_false _ _⟩ ?_
  · exact hext _ _ w0.drew (fun i => (getD_replicate_false _ _).symm) hS0
  · intro i h; rw [getD_replicate_false] at h; cases h
  · intro j o t _ _ h; rw [getD_replicate_false] at h; cases h
  · intro j o _ h; rw [getD_replicate_false] at h; cases h
  · exact Nat.le_trans (List.length_filter_le _ _) (by simp)
/-- Whatever order: K k is what operation k may turn; the first n in any order, the others as they stand. -/
theorem wp_region_rkx {id : Nat} (D : List PanicEntry → World → Prop) {l : List Oper} {tmps : Array Value} {defers : List Deferred} {w0 : World} (n : Nat) (RL : List Bool) (T : List (Value → World → Prop)) (R : World → World → Prop) (S : (Nat → Bool) → World → Prop) (K : Nat → World → World → Prop)
    (hm : P.follows .mixedOrders = true) (hsh : shapeB l.toArray = true) (hn : n ≤ l.length) (ht : tailB l.toArray n = true) (hb : boundB l tmps.size = true)
    (hR0 : R w0 w0.drew) (hS0 : S (fun _ => false) w0.drew) (hext : ∀ ls ls' w, (∀ i, ls i = ls' i) → S ls w → S ls' w) (hstep : ∀ k w w', R w0 w → K k w w' → R w0 w')
    (hskip : ∀ i ls w, i < n → RL.getD i true = false → S ls w → S (upd ls i) w)
    (hst : ∀ i k v w w', i ≠ k → R w0 w → T.getD i (fun _ _ => True) v w → K k w w' → T.getD i (fun _ _ => True) v w')
    (hguard : Each (guardOk RL T) (l.take n) 0)
    (hop : Each (fun i o => RL.getD i true = true → ∀ (a : Act) (w : World) (ls : Nat → Bool), R w0 w → S ls w → ls i = false → (∀ p j, pathTo l.toArray o p j = true → ls j = true) → (∀ p j oj, l.toArray[j]? = some oj → pathTo l.toArray oj p i = true → ls j = false) →
      (∀ t ∈ reads l.toArray o, known l.toArray (fun i => RL.getD i true) (fun i => T.getD i (fun _ _ => True)) ⟨tmps, defers⟩ o a w t) → doesX P D o a w fun v w' => K i w w' ∧ T.getD i (fun _ _ => True) v w' ∧ S (upd ls i) w') (l.take n) 0)
    (hQ : ∀ ch (a : Act) w', a.defers = defers → D ch w' → Q (.panic ch) a w')
    (hdone : ∀ (vals : Nat → Value) (w : World) (ls : Nat → Bool), R w0 w → S ls w → (∀ i, i < n → ls i = true) → Rg.Left RL T vals w 0 n → wpList P l.toArray Q (l.drop n) ⟨putAll vals (l.take n) 0 tmps, defers⟩ w) :
    (Code.region id l.toArray true).wp P Q ⟨tmps, defers⟩ w0 := by
  have hget : ∀ (i : Nat) (o : Oper), i < n → l.toArray[i]? = some o → (l.take n)[i]? = some o := fun i o hi ho => by
    rw [List.getElem?_take, if_pos hi]; simpa using ho
  refine wp_region_rg (R := R) (S := S) (K := K) (D := D) hm hsh n (by simpa using hn) ht (fun i => RL.getD i true) (fun i => T.getD i (fun _ _ => True)) ⟨tmps, defers⟩ w0 hst hstep ?_ ?_ ?_ ?_ hskip hext hQ ?_ hR0 hS0
  · intro j o t hj hd
    have hmem : o ∈ l := List.mem_of_getElem? (by simpa using hj)
    have := List.all_eq_true.1 hb o hmem
    rw [hd] at this
    simpa using this
  · intro i o g want hin ho hg
    have := hguard.get i o (hget i o hin ho)
    unfold guardOk at this
    rw [hg] at this
    simpa using this
  · intro i o hin ho hg
    have := hguard.get i o (hget i o hin ho)
    unfold guardOk at this
    rw [hg] at this
    simpa using this
  · intro i o hin ho hr a w ls h1 h2 h3 h4 h5 h6
    have := hop.get i o (hget i o hin ho)
    rw [Nat.zero_add] at this
    exact this hr a w ls h1 h2 h3 h4 h5 h6
  · intro vals w ls h1 h2 h3 h4
    have := hdone vals w ls h1 h2 h3 (left_of n 0 fun k hk => by
      have := h4 k (by simpa using hk)
      exact this)
    have e : List.range' n (l.toArray.size - n) = List.range' n (l.drop n).length := by simp
    rw [e, wpOps_eq_wpList (l.drop n) n (fun j => by simp [List.getElem?_drop])]
    simpa using this
end
end Go.Proofs.YtiklkhbfilbpeaaGreatDoor.Rp
