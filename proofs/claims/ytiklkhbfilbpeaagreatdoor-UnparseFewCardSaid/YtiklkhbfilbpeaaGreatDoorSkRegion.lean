/-
  A law on a region whose order is open: if each of its operations, run whenever those that it waits for have run, in whatever later memory, leaves a value of which a lasting fact is known, and turns nothing that was there,
  then the region leaves such values, whatever the order. Conditions: as the law says.
-/
import Derived.Test.YtiklkhbfilbpeaaGreatDoorSkBase
import Derived.StillTail
set_option linter.unusedVariables false
namespace Go.Proofs.YtiklkhbfilbpeaaGreatDoor.Rg
open Go.RowKit
/-- The run of one operation: its value and what it leaves meet 'post'; it ends in no other way. -/
def does (P : Program) (o : Oper) (a : Act) (w : World) (post : Value → World → Prop) : Prop :=
  match (execOp a.eval o).run P w with
  | .ok (.value v) w' => post v w'
  | .ok (.enter f args) w' => Calls P f args w' fun e w'' => ∃ v, e = .returned v ∧ post v w''
  | _ => False
theorem does_value {P : Program} {o : Oper} {a : Act} {w w' : World} {post : Value → World → Prop} {v : Value} (h : (execOp a.eval o).run P w = .ok (.value v) w') (hp : post v w') : does P o a w post := by
  unfold does; rw [h]; exact hp
theorem does_call {P : Program} {o : Oper} {a : Act} {w w' : World} {post : Value → World → Prop} {f : FuncId} {args : Array Value} (h : (execOp a.eval o).run P w = .ok (.enter f args) w')
    (hp : Calls P f args w' fun e w'' => ∃ v, e = .returned v ∧ post v w'') : does P o a w post := by
  unfold does; rw [h]; exact hp
theorem run_callFunc {P : Program} {f : FuncId} {fn : Func} (h : P.funcs[f]? = some fn) (hn : (fn.name == "runtime.NumGoroutine") = false) (hb : fn.body.isNone = false) (args : Array Value) (w : World) :
    (callFunc f args).run P w = .ok (.enter f args) w := by
  unfold callFunc
  rw [Sem.run_bind]
  show Result.andThen (.ok P w) _ = _
  simp only [Result.andThen, h, hn, hb]
  rfl
/-- A call of a named function, by its contract. -/
theorem does_func {P : Program} {a : Act} {w : World} {post : Value → World → Prop} {dst : Option Tmp} {f : FuncId} {fn : Func} {xs : Array Operand} {ats : Array TypeId} {ty : TypeId} {pos : String} {after : Array Edge} {guard : Option (Nat × Bool)}
    (args : Array Value) (h : P.funcs[f]? = some fn) (hn : (fn.name == "runtime.NumGoroutine") = false) (hb : fn.body.isNone = false) (hargs : xs.map a.eval = args)
    {R : Ending → World → Prop} (hc : Calls P f args w R) (hp : ∀ e w', R e w' → ∃ v, e = .returned v ∧ post v w') :
    does P { dst, op := .call { callee := .value (.func f), args := xs, argTypes := ats }, type := ty, pos, after, guard } a w post := by
  refine does_call (f := f) (args := args) (w' := w) ?_ (hc.mono hp)
  rw [execOp_call_go, hargs]
  simpa using run_callFunc h hn hb args w
theorem does_move {P : Program} {a : Act} {w : World} {post : Value → World → Prop} {dst : Option Tmp} {x : Operand} {ty : TypeId} {pos : String} {after : Array Edge} {guard : Option (Nat × Bool)}
    (hp : post (a.eval x) w) : does P { dst, op := .move x, type := ty, pos, after, guard } a w post := does_value rfl hp
theorem does_slice {P : Program} {a : Act} {w : World} {post : Value → World → Prop} {dst : Option Tmp} {x : Operand} {lo hi mx : Option Operand} {t : TypeId} {ty : TypeId} {pos : String} {after : Array Edge} {guard : Option (Nat × Bool)} (u : Value)
    (hr : (Instr.sliceAt t (a.eval x) (lo.map a.eval) (hi.map a.eval) (mx.map a.eval)).run P w = .ok u w) (hp : post u w) : does P { dst, op := .slice t x lo hi mx, type := ty, pos, after, guard } a w post := by
  refine does_value (v := u) ?_ hp
  simp [execOp, hr, Result.andThen]
theorem does_sub {P : Program} {a : Act} {w : World} {post : Value → World → Prop} {dst : Option Tmp} {x : Operand} {lo hi mx : Option Operand} {t e : TypeId} {ty : TypeId} {pos : String} {after : Array Edge} {guard : Option (Nat × Bool)} (u : Value)
    (ht : P.underlying t = some (.slice e)) (hr : (Instr.slice t (a.eval x) (lo.map a.eval) (hi.map a.eval) (mx.map a.eval)).run P w = .ok u w) (hp : post u w) : does P { dst, op := .slice t x lo hi mx, type := ty, pos, after, guard } a w post := by
  refine does_slice u ?_ hp
  rw [run_sliceAt_slice w t _ _ _ _ (by simp [Program.elem, ht]), hr]
theorem does_index {P : Program} {a : Act} {w : World} {post : Value → World → Prop} {dst : Option Tmp} {x y : Operand} {t : TypeId} {ty : TypeId} {pos : String} {after : Array Edge} {guard : Option (Nat × Bool)} (v i u : Value)
    (hx : a.eval x = v) (hy : a.eval y = i) (hr : (Instr.indexAt t v i).run P w = .ok u w) (hp : post u w) : does P { dst, op := .indexAddr t x y, type := ty, pos, after, guard } a w post := by
  refine does_value (v := u) ?_ hp
  simp [execOp, hx, hy, hr, Result.andThen]
theorem does_load {P : Program} {a : Act} {w : World} {post : Value → World → Prop} {dst : Option Tmp} {x : Operand} {t : TypeId} {ty : TypeId} {pos : String} {after : Array Edge} {guard : Option (Nat × Bool)} (v u : Value)
    (hx : a.eval x = v) (hr : (Instr.loadAt t v).run P w = .ok u w) (hp : post u w) : does P { dst, op := .load t x, type := ty, pos, after, guard } a w post := by
  refine does_value (v := u) ?_ hp
  simp [execOp, hx, hr, Result.andThen]
theorem does_bin {P : Program} {a : Act} {w : World} {post : Value → World → Prop} {dst : Option Tmp} {op : BinOp} {x y : Operand} {t u : TypeId} {ty : TypeId} {pos : String} {after : Array Edge} {guard : Option (Nat × Bool)} (k : IntKind) (m n : Int) (v : Value)
    (hx : a.eval x = .int k m) (hy : a.eval y = .int k n) (hr : (binOp op t (.int k m) (.int k n)).run P w = .ok v w) (hp : post v w) : does P { dst, op := .binOp op t x y u, type := ty, pos, after, guard } a w post := by
  refine does_value (v := v) ?_ hp
  simp [execOp, hx, hy, eqGuard_at_int, hr, Result.andThen]
theorem does_len {P : Program} {a : Act} {w : World} {post : Value → World → Prop} {dst : Option Tmp} {x : Operand} {t e : TypeId} {ty : TypeId} {pos : String} {after : Array Edge} {guard : Option (Nat × Bool)} (b : Option Addr) (n c : Nat)
    (ht : P.underlying t = some (.slice e)) (hx : a.eval x = .slice b n c) (hp : post (.int .i64 (n : Int)) w) : does P { dst, op := .call { callee := .builtin .len, args := #[x], argTypes := #[t] }, type := ty, pos, after, guard } a w post := by
  refine does_value (v := .int .i64 (n : Int)) ?_ hp
  have := run_len_slice (P := P) w t ty b n c (by simp [Program.elem, ht])
  simp [execOp, resolve, invoke, builtin, hx, this, Result.andThen, goInt]
theorem does_build {P : Program} {a : Act} {w w' : World} {post : Value → World → Prop} {dst : Option Tmp} {t : TypeId} {n : Nat} {parts : Array (Nat × Operand)} {ty : TypeId} {pos : String} {after : Array Edge} {guard : Option (Nat × Bool)} (vals : Array (Nat × Value)) (u : Value)
    (hv : (parts.map fun (i, x) => (i, a.eval x)) = vals) (hr : (Instr.buildSlice t n vals).run P w = .ok u w') (hp : post u w') : does P { dst, op := .buildSlice t n parts, type := ty, pos, after, guard } a w post := by
  refine does_value (v := u) (w' := w') ?_ hp
  simp [execOp, hv, hr, Result.andThen]
theorem wp_of_does {P : Program} {o : Oper} {a : Act} {w : World} {post : Value → World → Prop} {K : Act → World → Prop} {Q : Exit → Act → World → Prop} (h : does P o a w post)
    (hK : ∀ v w', post v w' → K (a.put o.dst v) w') : o.wp P a w K Q := by
  unfold does at h
  unfold Oper.wp
  revert h
  cases (execOp a.eval o).run P w with
  | halt x w' => intro h; exact h.elim
  | ok n w' =>
    cases n with
    | value v => intro h; exact hK v w' h
    | enter f args =>
      intro h
      refine Calls.mono h fun e w'' he => ?_
      obtain ⟨v, rfl, hp⟩ := he
      exact hK v w'' hp
    | _ => intro h; exact h.elim
section
variable {P : Program} {ops : Array Oper} {Q : Exit → Act → World → Prop}
/-- Where operand t of operation i comes from: an operation of the region that it waits for. -/
def source (ops : Array Oper) (o : Oper) (t : Tmp) : Option Nat := (o.after.toList.find? fun e => Region.binds .any e && ((ops[e.on]?).bind (·.dst)) == some t).map (·.on)
/-- The slots that an operation reads. -/
def reads (ops : Array Oper) (o : Oper) : List Tmp :=
  o.op.operands.toList.filterMap fun | .tmp t => some t | _ => none
def waits (o : Oper) (i : Nat) : Bool := o.after.any fun e => Region.binds .any e && e.on == i
/-- What is asked of the region's shape; closed, by evaluation. -/
def shapeB (ops : Array Oper) : Bool :=
  (List.range ops.size).all fun i => match ops[i]? with
    | none => true
    | some o =>
      (o.after.all fun e => !Region.binds .any e || decide (e.on < i)) &&
      (match o.op with | .select .. => false | _ => true) &&
      (match o.guard with | none => true | some (g, _) => waits o g && ((ops[g]?).bind (·.dst)).isSome) &&
      (match o.dst with
        | none => true
        | some d => (List.range ops.size).all fun j => decide (j = i) || ((ops[j]?).bind (·.dst)) != some d) &&
      ((reads ops o).all fun t => (source ops o t).isSome ||
        (List.range ops.size).all fun j => match ops[j]? with | none => true | some oj => oj.dst != some t || waits oj i)
def Gx (runs : Nat → Bool) (G : Nat → Value → World → Prop) (i : Nat) (v : Value) (w : World) : Prop := if runs i then G i v w else v = undef
/-- What is known of a slot that operation i reads. -/
def known (ops : Array Oper) (runs : Nat → Bool) (G : Nat → Value → World → Prop) (a0 : Act) (o : Oper) (a : Act) (w : World) (t : Tmp) : Prop :=
  match source ops o t with
  | some j => Gx runs G j (a.eval (.tmp t)) w
  | none => a.eval (.tmp t) = a0.eval (.tmp t)
structure Inv (n : Nat) (ops : Array Oper) (runs : Nat → Bool) (G : Nat → Value → World → Prop) (a0 : Act) (w0 : World) (listed : Array Bool) (a : Act) (w : World) (vals : Nat → Value) : Prop where
  ext : Below w0.heap.size w0 w
  defers : a.defers = a0.defers
  size : a.tmps.size = a0.tmps.size
  lsize : listed.size = ops.size
  g : ∀ i, listed.getD i false = true → Gx runs G i (vals i) w
  old : ∀ t, (∀ (j : Nat) (o : Oper), ops[j]? = some o → o.dst = some t → listed.getD j false = false) → a.tmps[t]? = a0.tmps[t]?
  new : ∀ (j : Nat) (o : Oper) (t : Tmp), ops[j]? = some o → o.dst = some t → listed.getD j false = true → t < a0.tmps.size → a.tmps[t]? = some (vals j)
  closed : ∀ (j : Nat) (o : Oper), ops[j]? = some o → listed.getD j false = true → ∀ e ∈ o.after, Region.binds .any e = true → listed.getD e.on false = true
  tail : ∀ t, n ≤ t → listed.getD t false = false
/-- Operation t waits for operation i, over others. -/
def rch (ops : Array Oper) : Nat → Nat → Nat → Bool
  | 0, t, i => match ops[t]? with | none => false | some o => waits o i
  | d + 1, t, i => match ops[t]? with | none => false | some o => waits o i || o.after.any fun e => Region.binds .any e && rch ops d e.on i
/-- From operation n on, each waits for all that stand ahead of it. -/
def tailB (ops : Array Oper) (n : Nat) : Bool :=
  (List.range ops.size).all fun t => decide (t < n) || (List.range t).all fun i => rch ops 40 t i
def putAll (vals : Nat → Value) : List Oper → Nat → Array Value → Array Value
  | [], _, t => t
  | o :: r, i, t => putAll vals r (i + 1) (match o.dst with | some d => t.setIfInBounds d (vals i) | none => t)
theorem putAll_size (vals : Nat → Value) : ∀ (l : List Oper) (i : Nat) (t : Array Value), (putAll vals l i t).size = t.size := by
  intro l
  induction l with
  | nil => intro i t; rfl
  | cons o r ih =>
    intro i t
    rw [putAll, ih]
    cases o.dst <;> simp
theorem putAll_get (vals : Nat → Value) (t : Nat) : ∀ (l : List Oper) (i : Nat) (tm : Array Value),
    ((∀ (k : Nat) (o : Oper), l[k]? = some o → o.dst ≠ some t) → (putAll vals l i tm)[t]? = tm[t]?) ∧
    (∀ (k : Nat) (o : Oper), l[k]? = some o → o.dst = some t → (∀ (k' : Nat) (o' : Oper), l[k']? = some o' → o'.dst = some t → k' = k) → t < tm.size → (putAll vals l i tm)[t]? = some (vals (i + k))) := by
  intro l
  induction l with
  | nil => intro i tm; exact ⟨fun _ => rfl, fun k o h => by simp at h⟩
  | cons o r ih =>
    intro i tm
    constructor
    · intro h
      rw [putAll, (ih _ _).1 fun k o' hk => h (k + 1) o' (by simpa using hk)]
      have h0 := h 0 o (by simp)
      cases hd : o.dst with
      | none => rfl
      | some d =>
        have : d ≠ t := fun e => h0 (by rw [hd, e])
        simp [Array.getElem?_setIfInBounds_ne this]
    · intro k o' hk hd hu ht
      rw [putAll]
      cases k with
      | zero =>
        simp at hk
        subst hk
        rw [(ih _ _).1 fun k' o'' hk' hd' => by
          have := hu (k' + 1) o'' (by simpa using hk') hd'
          omega]
        simp [hd, ht]
      | succ k =>
        have := (ih (i + 1) (match o.dst with | some d => tm.setIfInBounds d (vals i) | none => tm)).2 k o' (by simpa using hk) hd (fun k' o'' hk' hd' => by
          have := hu (k' + 1) o'' (by simpa using hk') hd'
          omega) (by cases o.dst <;> simpa using ht)
        rw [this]
        congr 2
        omega
theorem shape_at (h : shapeB ops = true) {i : Nat} {o : Oper} (ho : ops[i]? = some o) :
    (∀ e ∈ o.after, Region.binds .any e = true → e.on < i) ∧ (∀ cs b, o.op ≠ .select cs b) ∧
    (∀ g want, o.guard = some (g, want) → waits o g = true ∧ ((ops[g]?).bind (·.dst)).isSome = true) ∧
    (∀ d, o.dst = some d → ∀ (j : Nat) (oj : Oper), ops[j]? = some oj → oj.dst = some d → j = i) ∧
    (∀ t, t ∈ reads ops o → (source ops o t).isSome = true ∨ ∀ (j : Nat) (oj : Oper), ops[j]? = some oj → oj.dst = some t → waits oj i = true) := by
  have hi : i < ops.size := (Array.getElem?_eq_some_iff.1 ho).1
  have h1 := List.all_eq_true.1 h i (List.mem_range.2 hi)
  simp only [ho, Bool.and_eq_true] at h1
  obtain ⟨⟨⟨⟨h1, h2⟩, h3⟩, h4⟩, h5⟩ := h1
  refine ⟨fun e he hb => ?_, fun cs b hs => by rw [hs] at h2; simp at h2, fun g want hg => ?_, fun d hd j oj hj hjd => ?_, fun t ht => ?_⟩
  · have := Array.all_eq_true'.1 h1 e he
    simpa [hb] using this
  · rw [hg] at h3
    simpa using h3
  · rw [hd] at h4
    have hjs : j < ops.size := (Array.getElem?_eq_some_iff.1 hj).1
    have := List.all_eq_true.1 h4 j (List.mem_range.2 hjs)
    simp [hj, hjd] at this
    exact this
  · have := List.all_eq_true.1 h5 t ht
    simp only [Bool.or_eq_true] at this
    rcases this with this | this
    · exact .inl this
    · right
      intro j oj hj hjd
      have hjs : j < ops.size := (Array.getElem?_eq_some_iff.1 hj).1
      have := List.all_eq_true.1 this j (List.mem_range.2 hjs)
      simp [hj, hjd] at this
      exact this
theorem waits_spec {o : Oper} {i : Nat} (h : waits o i = true) : ∃ e ∈ o.after, Region.binds .any e = true ∧ e.on = i := by
  unfold waits at h
  obtain ⟨e, he, hb⟩ := Array.any_eq_true'.1 h
  simp only [Bool.and_eq_true, beq_iff_eq] at hb
  exact ⟨e, he, hb.1, hb.2⟩
theorem eval_tmp {a : Act} {t : Tmp} : a.eval (.tmp t) = (a.tmps[t]?).getD undef := by
  simp [Act.eval]
theorem tail_at {n : Nat} (h : tailB ops n = true) {t : Nat} {o : Oper} (ho : ops[t]? = some o) (ht : n ≤ t) : ∀ i, i < t → rch ops 40 t i = true := by
  have hts : t < ops.size := (Array.getElem?_eq_some_iff.1 ho).1
  have h1 := List.all_eq_true.1 h t (List.mem_range.2 hts)
  simp only [Bool.or_eq_true, decide_eq_true_eq] at h1
  rcases h1 with h1 | h1
  · omega
  · intro i hi
    exact List.all_eq_true.1 h1 i (List.mem_range.2 hi)
theorem rch_listed {listed : Array Bool} (hc : ∀ (j : Nat) (o : Oper), ops[j]? = some o → listed.getD j false = true → ∀ e ∈ o.after, Region.binds .any e = true → listed.getD e.on false = true) :
    ∀ (d j i : Nat), listed.getD j false = true → rch ops d j i = true → listed.getD i false = true := by
  intro d
  induction d with
  | zero =>
    intro j i hj hr
    unfold rch at hr
    cases ho : ops[j]? with
    | none => rw [ho] at hr; cases hr
    | some o =>
      rw [ho] at hr
      obtain ⟨e, he, hb, hon⟩ := waits_spec hr
      rw [← hon]
      exact hc j o ho hj e he hb
  | succ d ih =>
    intro j i hj hr
    unfold rch at hr
    cases ho : ops[j]? with
    | none => rw [ho] at hr; cases hr
    | some o =>
      rw [ho] at hr
      simp only [Bool.or_eq_true] at hr
      rcases hr with hr | hr
      · obtain ⟨e, he, hb, hon⟩ := waits_spec hr
        rw [← hon]
        exact hc j o ho hj e he hb
      · obtain ⟨e, he, h2⟩ := Array.any_eq_true'.1 hr
        simp only [Bool.and_eq_true] at h2
        exact ih e.on i (hc j o ho hj e he h2.1) h2.2
theorem rch_ready {listed : Array Bool} (hc : ∀ (j : Nat) (o : Oper), ops[j]? = some o → listed.getD j false = true → ∀ e ∈ o.after, Region.binds .any e = true → listed.getD e.on false = true)
    {t : Nat} {o : Oper} (ho : ops[t]? = some o) (hall : ∀ e ∈ o.after, Region.binds .any e = true → listed.getD e.on false = true) {i : Nat} (hr : rch ops 40 t i = true) : listed.getD i false = true := by
  unfold rch at hr
  rw [ho] at hr
  simp only [Bool.or_eq_true] at hr
  rcases hr with hr | hr
  · obtain ⟨e, he, hb, hon⟩ := waits_spec hr
    rw [← hon]
    exact hall e he hb
  · obtain ⟨e, he, h2⟩ := Array.any_eq_true'.1 hr
    simp only [Bool.and_eq_true] at h2
    exact rch_listed hc 39 e.on i (hall e he h2.1) h2.2
theorem wpAny_tail (hsh : shapeB ops = true) {n : Nat} (ht : tailB ops n = true) : ∀ (d k fuel : Nat) (listed : Array Bool) (a : Act) (w : World), ops.size - k = d → n ≤ k → k ≤ ops.size → d ≤ fuel → listed.size = ops.size →
    (∀ i, i < k → listed.getD i false = true) → (∀ i, k ≤ i → listed.getD i false = false) → wpOps P ops Q (List.range' k (ops.size - k)) a w → wpAny P .any ops Q fuel listed a w := by
  intro d
  induction d with
  | zero =>
    intro k fuel listed a w hd hnk hk hf hls h1 h2 h3
    have hke : k = ops.size := by omega
    have hr : Region.ready .any ops listed = [] := by
      rw [List.eq_nil_iff_forall_not_mem]
      intro i hi
      obtain ⟨hun, o, ho, _⟩ := mem_ready.1 hi
      have his : i < ops.size := (Array.getElem?_eq_some_iff.1 ho).1
      have := h1 i (by omega)
      rw [getD_both hun] at this
      cases this
    have h3' : Q .normal a w := by
      rw [hke, Nat.sub_self] at h3
      exact h3
    cases fuel with
    | zero => exact ⟨hr, h3'⟩
    | succ f => exact ⟨fun _ => h3', fun i hi => by rw [hr] at hi; cases hi⟩
  | succ d ih =>
    intro k fuel listed a w hd hnk hk hf hls h1 h2 h3
    obtain ⟨f, rfl⟩ : ∃ f, fuel = f + 1 := ⟨fuel - 1, by omega⟩
    have hks : k < ops.size := by omega
    have ho : ops[k]? = some ops[k] := Array.getElem?_eq_getElem hks
    have hmem : k ∈ Region.ready .any ops listed := mem_ready.2 ⟨getD_in (by omega) (h2 k (Nat.le_refl _)), ops[k], ho, fun e he hb => h1 e.on ((shape_at hsh ho).1 e he hb)⟩
    refine ⟨fun hr => (by rw [hr] at hmem; cases hmem), fun i hi => ?_⟩
    obtain ⟨hun, oi, hoi, hall⟩ := mem_ready.1 hi
    have his : i < ops.size := (Array.getElem?_eq_some_iff.1 hoi).1
    have hik : i = k := by
      rcases Nat.lt_trichotomy i k with h | h | h
      · have := h1 i h
        rw [getD_both hun] at this
        cases this
      · exact h
      · have hcl : ∀ (j : Nat) (o : Oper), ops[j]? = some o → listed.getD j false = true → ∀ e ∈ o.after, Region.binds .any e = true → listed.getD e.on false = true := fun j o hj hl e he hb9 => by
          have hjk : j < k := by
            rcases Nat.lt_or_ge j k with h5 | h5
            · exact h5
            · rw [h2 j h5] at hl; cases hl
          exact h1 e.on (Nat.lt_trans ((shape_at hsh hj).1 e he hb9) hjk)
        have := rch_ready hcl hoi hall (tail_at ht hoi (by omega) k h)
        rw [h2 k (Nat.le_refl _)] at this
        cases this
    subst hik
    have e : List.range' i (ops.size - i) = i :: List.range' (i + 1) (ops.size - (i + 1)) := by
      rw [show ops.size - i = (ops.size - (i + 1)) + 1 by omega, List.range'_succ]
    rw [e, wpOps_cons] at h3
    refine wpOp_mono (fun a' w' h' => ih (i + 1) f _ a' w' (by omega) (by omega) (by omega) (by omega) (by simp [hls]) ?_ ?_ h') h3
    · intro j hj
      by_cases hji : j = i
      · subst hji; simp [hls, his]
      · rw [getD_set_ne false (fun e => hji e.symm)]; exact h1 j (by omega)
    · intro j hj
      rw [getD_set_ne false (by omega)]
      exact h2 j (by omega)
theorem rg_any (hsh : shapeB ops = true) (n : Nat) (hn : n ≤ ops.size) (ht : tailB ops n = true) (runs : Nat → Bool) (G : Nat → Value → World → Prop) (a0 : Act) (w0 : World)
    (hst : ∀ i v w w', G i v w → Below w.heap.size w w' → G i v w')
    (hbound : ∀ (j : Nat) (o : Oper) (t : Tmp), ops[j]? = some o → o.dst = some t → t < a0.tmps.size)
    (hguard : ∀ (i : Nat) (o : Oper) (g : Nat) (want : Bool), i < n → ops[i]? = some o → o.guard = some (g, want) → if runs i then (runs g = true ∧ ∀ v w, G g v w → v = .bool want) else (runs g = false ∨ ∀ v w, G g v w → v = .bool (!want)))
    (hfree : ∀ (i : Nat) (o : Oper), i < n → ops[i]? = some o → o.guard = none → runs i = true)
    (hop : ∀ (i : Nat) (o : Oper), i < n → ops[i]? = some o → runs i = true → ∀ (a : Act) (w : World), Below w0.heap.size w0 w →
      (∀ t ∈ reads ops o, known ops runs G a0 o a w t) → does P o a w fun v w' => Below w.heap.size w w' ∧ G i v w')
    (hdone : ∀ (vals : Nat → Value) (w : World), Below w0.heap.size w0 w → (∀ i, i < n → Gx runs G i (vals i) w) → wpOps P ops Q (List.range' n (ops.size - n)) ⟨putAll vals (ops.toList.take n) 0 a0.tmps, a0.defers⟩ w) :
    ∀ (fuel : Nat) (listed : Array Bool) (a : Act) (w : World) (vals : Nat → Value), Inv n ops runs G a0 w0 listed a w vals → ((List.range ops.size).filter fun i => !listed.getD i true).length ≤ fuel →
      wpAny P .any ops Q fuel listed a w := by
  have heads_done : ∀ (fuel : Nat) (listed : Array Bool) (a : Act) (w : World) (vals : Nat → Value), Inv n ops runs G a0 w0 listed a w vals → ((List.range ops.size).filter fun i => !listed.getD i true).length ≤ fuel →
      (∀ i, i < n → listed.getD i false = true) → wpAny P .any ops Q fuel listed a w := by
    intro fuel listed a w vals inv hf hall
    have hd := hdone vals w inv.ext fun i hi => inv.g i (hall i hi)
    have ha : a = ⟨putAll vals (ops.toList.take n) 0 a0.tmps, a0.defers⟩ := by
      cases a with
      | mk tmps defers =>
        have e1 : defers = a0.defers := inv.defers
        have e2 : tmps = putAll vals (ops.toList.take n) 0 a0.tmps := by
          apply Array.ext_getElem?
          intro t
          rcases Nat.lt_or_ge t a0.tmps.size with htl | htl
          · by_cases hw : ∃ (j : Nat) (o : Oper), j < n ∧ ops[j]? = some o ∧ o.dst = some t
            · obtain ⟨j, o, hjn, hj, hd⟩ := hw
              rw [inv.new j o t hj hd (hall j hjn) htl]
              rw [(putAll_get vals t (ops.toList.take n) 0 a0.tmps).2 j o (by rw [List.getElem?_take, if_pos hjn]; simpa using hj) hd (fun k' o' hk' hd' => by
                rw [List.getElem?_take] at hk'
                split at hk'
                · exact (shape_at hsh hj).2.2.2.1 t hd k' o' (by simpa using hk') hd'
                · cases hk') htl]
              simp
            · have hno : ∀ (j : Nat) (o : Oper), j < n → ops[j]? = some o → o.dst ≠ some t := fun j o hjn hj hd => hw ⟨j, o, hjn, hj, hd⟩
              rw [inv.old t fun j o hj hd => by
                rcases Nat.lt_or_ge j n with h | h
                · exact absurd hd (hno j o h hj)
                · exact inv.tail j h]
              rw [(putAll_get vals t (ops.toList.take n) 0 a0.tmps).1 fun k o hk => by
                rw [List.getElem?_take] at hk
                split at hk
                · rename_i hkn; exact hno k o hkn (by simpa using hk)
                · cases hk]
          · have h1 : tmps.size = a0.tmps.size := inv.size
            rw [Array.getElem?_eq_none (by omega), Array.getElem?_eq_none (by rw [putAll_size]; exact htl)]
        rw [e1, e2]
    rw [ha]
    refine wpAny_tail hsh ht (ops.size - n) n fuel listed _ w rfl (Nat.le_refl _) hn ?_ inv.lsize hall inv.tail hd
    refine Nat.le_trans ?_ hf
    have hsub : (List.range' n (ops.size - n)).Sublist ((List.range ops.size).filter fun i => !listed.getD i true) := by
      have e : List.range ops.size = List.range n ++ List.range' n (ops.size - n) := by
        rw [List.range_eq_range', List.range_eq_range']
        have := List.range'_append_1 (s := 0) (m := n) (n := ops.size - n)
        rw [Nat.zero_add] at this
        rw [this]
        congr 1
        omega
      rw [e, List.filter_append]
      have e2 : ((List.range' n (ops.size - n)).filter fun i => !listed.getD i true) = List.range' n (ops.size - n) := by
        rw [List.filter_eq_self]
        intro i hi
        have hi' := List.mem_range'_1.1 hi
        have := getD_in (listed := listed) (i := i) (by rw [inv.lsize]; omega) (inv.tail i hi'.1)
        rw [this]; rfl
      rw [e2]
      exact List.sublist_append_right _ _
    simpa using hsub.length_le
  have not_done : ∀ (listed : Array Bool) (a : Act) (w : World) (vals : Nat → Value), Inv n ops runs G a0 w0 listed a w vals → ¬ (∀ i, i < n → listed.getD i false = true) → ∃ i, i < n ∧ listed.getD i false = false ∧ i ∈ Region.ready .any ops listed := by
    intro listed a w vals inv hno
    have : ∃ i, i < n ∧ listed.getD i false = false := by
      refine Classical.byContradiction fun hc => hno fun i hi => ?_
      rcases hl : listed.getD i false with _ | _
      · exact absurd ⟨i, hi, hl⟩ hc
      · rfl
    obtain ⟨i, hi, hl⟩ := this
    induction i using Nat.strongRecOn with
    | _ i ih =>
      have his : i < ops.size := by omega
      have ho : ops[i]? = some ops[i] := Array.getElem?_eq_getElem his
      by_cases hall : ∀ e ∈ ops[i].after, Region.binds .any e = true → listed.getD e.on false = true
      · exact ⟨i, hi, hl, mem_ready.2 ⟨getD_in (by rw [inv.lsize]; exact his) hl, ops[i], ho, hall⟩⟩
      · have : ∃ e ∈ ops[i].after, Region.binds .any e = true ∧ listed.getD e.on false = false := by
          refine Classical.byContradiction fun hc => hall fun e he hb => ?_
          rcases hle : listed.getD e.on false with _ | _
          · exact absurd ⟨e, he, hb, hle⟩ hc
          · rfl
        obtain ⟨e, he, hb9, hle⟩ := this
        have hlt := (shape_at hsh ho).1 e he hb9
        exact ih e.on hlt (by omega) hle
  intro fuel
  induction fuel with
  | zero =>
    intro listed a w vals inv hf
    refine heads_done 0 listed a w vals inv hf fun i hi => ?_
    rcases hl : listed.getD i false with _ | _
    · have : i ∈ (List.range ops.size).filter fun i => !listed.getD i true := List.mem_filter.2 ⟨List.mem_range.2 (by omega), by rw [getD_in (by rw [inv.lsize]; omega) hl]; rfl⟩
      have h0 : ((List.range ops.size).filter fun i => !listed.getD i true) = [] := List.eq_nil_of_length_eq_zero (by omega)
      rw [h0] at this
      cases this
    · rfl
  | succ fuel ih =>
    intro listed a w vals inv hf
    by_cases hdn : ∀ i, i < n → listed.getD i false = true
    · exact heads_done (fuel + 1) listed a w vals inv hf hdn
    obtain ⟨i0, hi0n, hi0l, hi0r⟩ := not_done listed a w vals inv hdn
    refine ⟨fun hr => (by rw [hr] at hi0r; cases hi0r), fun i hi => ?_⟩
    obtain ⟨hun, o, ho, hall⟩ := mem_ready.1 hi
    have hin : i < n := by
      rcases Nat.lt_or_ge i n with h | h
      · exact h
      · have := rch_ready inv.closed ho hall (tail_at ht ho h i0 (by omega))
        rw [hi0l] at this
        cases this
    have his : i < ops.size := (Array.getElem?_eq_some_iff.1 ho).1
    have hils : i < listed.size := by rw [inv.lsize]; exact his
    have hunf : listed.getD i false = false := getD_both hun
    obtain ⟨hback, hsel, hg, huniq, hread⟩ := shape_at hsh ho
    have hlater : ((List.range ops.size).filter fun k => !(listed.setIfInBounds i true).getD k true).length ≤ fuel := by
      have hsub : ((List.range ops.size).filter fun k => !(listed.setIfInBounds i true).getD k true) = ((List.range ops.size).filter fun k => !listed.getD k true).filter fun k => decide (k ≠ i) := by
        rw [List.filter_filter]
        apply List.filter_congr
        intro k hk
        by_cases hki : k = i
        · subst hki; simp [hils]
        · rw [getD_set_ne true (fun e => hki e.symm)]; simp [hki]
      have hmem : i ∈ (List.range ops.size).filter fun k => !listed.getD k true := List.mem_filter.2 ⟨List.mem_range.2 his, by rw [hun]; rfl⟩
      have hlt : (((List.range ops.size).filter fun k => !listed.getD k true).filter fun k => decide (k ≠ i)).length < ((List.range ops.size).filter fun k => !listed.getD k true).length :=
        List.length_filter_lt_length_iff_exists.2 ⟨i, hmem, by simp⟩
      rw [hsub]
      omega
    have hsl : (listed.setIfInBounds i true).getD i false = true := by simp [hils]
    -- the step's own conclusion
    have next : ∀ (v : Value) (w' : World), Below w.heap.size w w' → Gx runs G i v w' → wpAny P .any ops Q fuel (listed.setIfInBounds i true) (a.put o.dst v) w' := by
      intro v w' hb hG
      refine ih _ _ _ (fun k => if k = i then v else vals k) ?_ hlater
      refine ⟨inv.ext.trans (hb.mono inv.ext.size), ?_, ?_, by simp [inv.lsize], ?_, ?_, ?_, ?_, fun t htn => by rw [getD_set_ne false (by omega)]; exact inv.tail t htn⟩
      · cases hd : o.dst <;> simpa [Act.put, hd] using inv.defers
      · cases hd : o.dst <;> simpa [Act.put, hd] using inv.size
      · intro k hk
        by_cases hki : k = i
        · subst hki; simpa using hG
        · rw [getD_set_ne false (fun e => hki e.symm)] at hk
          have := inv.g k hk
          simp only [hki, if_false]
          unfold Gx at this ⊢
          split
          · rename_i hr; rw [if_pos hr] at this; exact hst k _ _ _ this hb
          · rename_i hr; rw [if_neg hr] at this; exact this
      · intro t ht
        have hne : o.dst ≠ some t := fun hd => by
          have := ht i o ho hd
          rw [hsl] at this
          cases this
        have h1 := inv.old t fun j oj hj hjd => by
          have := ht j oj hj hjd
          by_cases hji : j = i
          · subst hji; rw [hsl] at this; cases this
          · rwa [getD_set_ne false (fun e => hji e.symm)] at this
        cases hd : o.dst with
        | none => simpa [Act.put, hd] using h1
        | some d =>
          have : d ≠ t := fun e => hne (by rw [hd, e])
          simp only [Act.put]
          rw [Array.getElem?_setIfInBounds_ne this]
          exact h1
      · intro j oj t hj hjd hl ht
        by_cases hji : j = i
        · subst hji
          have : oj = o := Option.some.inj (hj.symm.trans ho)
          subst this
          simp [Act.put, hjd, inv.size, ht]
        · rw [getD_set_ne false (fun e => hji e.symm)] at hl
          have h1 := inv.new j oj t hj hjd hl ht
          simp only [hji, if_false]
          cases hd : o.dst with
          | none => simpa [Act.put, hd] using h1
          | some d =>
            have : d ≠ t := fun e => hji (huniq d hd j oj hj (by rw [hjd, e]))
            simp only [Act.put]
            rw [Array.getElem?_setIfInBounds_ne this]
            exact h1
      · intro j oj hj hl e he hb'
        by_cases hji : j = i
        · subst hji
          have : oj = o := Option.some.inj (hj.symm.trans ho)
          subst this
          exact getD_set_true (hall e he hb')
        · rw [getD_set_ne false (fun e => hji e.symm)] at hl
          exact getD_set_true (inv.closed j oj hj hl e he hb')
    -- is it wanted?
    have hwant : Region.wanted o (yielded ops a.tmps) = runs i := by
      unfold Region.wanted
      cases hgd : o.guard with
      | none => simp [hfree i o hin ho hgd]
      | some gw =>
        obtain ⟨g, want⟩ := gw
        have h1 := hguard i o g want hin ho hgd
        obtain ⟨hw, hdst⟩ := hg g want hgd
        obtain ⟨e, he, hb, hon⟩ := waits_spec hw
        have hlg : listed.getD g false = true := by rw [← hon]; exact hall e he hb
        obtain ⟨d, hd⟩ := Option.isSome_iff_exists.1 hdst
        obtain ⟨og, hog, hogd⟩ := Option.bind_eq_some_iff.1 hd
        have hnew := inv.new g og d hog hogd hlg (hbound g og d hog hogd)
        have hGg := inv.g g hlg
        have hy : yielded ops a.tmps g = (match vals g with | .bool b => some b | _ => none) := by
          unfold yielded
          simp [hd, hnew]
          cases vals g <;> rfl
        simp only []
        rw [hy]
        unfold Gx at hGg
        cases hri : runs i with
        | true =>
          rw [hri, if_pos rfl] at h1
          rw [h1.1, if_pos rfl] at hGg
          rw [h1.2 _ _ hGg]
          simp
        | false =>
          rw [hri] at h1
          simp at h1
          rcases h1 with h1 | h1
          · rw [h1] at hGg
            simp at hGg
            rw [hGg]
            rfl
          · cases hrg : runs g with
            | false => rw [hrg] at hGg; simp at hGg; rw [hGg]; rfl
            | true =>
              rw [hrg, if_pos rfl] at hGg
              rw [h1 _ _ hGg]
              simp
    unfold wpOp
    rw [ho]
    simp only []
    rw [hwant]
    cases hri : runs i with
    | false =>
      simp only [Bool.false_eq_true, if_false]
      exact next undef w (Below.refl _ _) (by unfold Gx; rw [hri]; simp)
    | true =>
      simp only [if_true]
      left
      refine wp_of_does (post := fun v w' => Below w.heap.size w w' ∧ G i v w') ?_ fun v w' hp => next v w' hp.1 (by unfold Gx; rw [hri, if_pos rfl]; exact hp.2)
      refine hop i o hin ho hri a w inv.ext fun t ht => ?_
      unfold known
      cases hs : source ops o t with
      | some j =>
        simp only []
        unfold source at hs
        obtain ⟨e, hfe, hej⟩ := Option.map_eq_some_iff.1 hs
        have hp := List.find?_some hfe
        have hem := List.mem_of_find?_eq_some hfe
        simp only [Bool.and_eq_true, beq_iff_eq] at hp
        subst hej
        have hlj := hall e (by simpa using hem) hp.1
        obtain ⟨oj, hoj, hojd⟩ := Option.bind_eq_some_iff.1 hp.2
        rw [eval_tmp, inv.new e.on oj t hoj hojd hlj (hbound _ _ _ hoj hojd)]
        exact inv.g e.on hlj
      | none =>
        simp only []
        rcases hread t ht with h1 | h1
        · rw [hs] at h1; cases h1
        · rw [eval_tmp, eval_tmp, inv.old t fun j oj hj hjd => ?_]
          obtain ⟨e, he, hb, hon⟩ := waits_spec (h1 j oj hj hjd)
          rcases hlj : listed.getD j false with _ | _
          · rfl
          · have := inv.closed j oj hj hlj e he hb
            rw [hon, hunf] at this
            cases this
theorem wp_region_rg {id : Nat} (hm : P.follows .mixedOrders = true) (hsh : shapeB ops = true) (n : Nat) (hn : n ≤ ops.size) (ht : tailB ops n = true) (runs : Nat → Bool) (G : Nat → Value → World → Prop) (a0 : Act) (w0 : World)
    (hst : ∀ i v w w', G i v w → Below w.heap.size w w' → G i v w')
    (hbound : ∀ (j : Nat) (o : Oper) (t : Tmp), ops[j]? = some o → o.dst = some t → t < a0.tmps.size)
    (hguard : ∀ (i : Nat) (o : Oper) (g : Nat) (want : Bool), i < n → ops[i]? = some o → o.guard = some (g, want) → if runs i then (runs g = true ∧ ∀ v w, G g v w → v = .bool want) else (runs g = false ∨ ∀ v w, G g v w → v = .bool (!want)))
    (hfree : ∀ (i : Nat) (o : Oper), i < n → ops[i]? = some o → o.guard = none → runs i = true)
    (hop : ∀ (i : Nat) (o : Oper), i < n → ops[i]? = some o → runs i = true → ∀ (a : Act) (w : World), Below w0.heap.size w0 w →
      (∀ t ∈ reads ops o, known ops runs G a0 o a w t) → does P o a w fun v w' => Below w.heap.size w w' ∧ G i v w')
    (hdone : ∀ (vals : Nat → Value) (w : World), Below w0.heap.size w0 w → (∀ i, i < n → Gx runs G i (vals i) w) → wpOps P ops Q (List.range' n (ops.size - n)) ⟨putAll vals (ops.toList.take n) 0 a0.tmps, a0.defers⟩ w) :
    (Code.region id ops true).wp P Q a0 w0 := by
  refine wp_region_any hm ?_
  refine rg_any hsh n hn ht runs G a0 w0 hst hbound hguard hfree hop hdone ops.size _ a0 _ (fun _ => undef) ⟨?_, rfl, rfl, by simp, ?_, fun t _ => rfl, ?_, ?_, fun t _ => getD_replicate_false _ _⟩ ?_
  · exact ⟨rfl, rfl, rfl, Nat.le_refl _, fun _ _ => rfl⟩
  · intro i h; rw [getD_replicate_false] at h; cases h
  · intro j o t _ _ h; rw [getD_replicate_false] at h; cases h
  · intro j o _ h; rw [getD_replicate_false] at h; cases h
  · exact Nat.le_trans (List.length_filter_le _ _) (by simp)
def Each (F : Nat → Oper → Prop) : List Oper → Nat → Prop
  | [], _ => True
  | o :: r, i => F i o ∧ Each F r (i + 1)
theorem Each.get {F : Nat → Oper → Prop} : ∀ {l : List Oper} {i : Nat}, Each F l i → ∀ (k : Nat) (o : Oper), l[k]? = some o → F (i + k) o := by
  intro l
  induction l with
  | nil => intro i _ k o h; simp at h
  | cons x r ih =>
    intro i h k o hk
    cases k with
    | zero => simp at hk; subst hk; exact h.1
    | succ k =>
      have := ih h.2 k o (by simpa using hk)
      rwa [Nat.add_assoc, Nat.add_comm 1 k] at this
/-- The value is x. -/
def Is (x : Value) : Value → World → Prop := fun v _ => v = x
theorem st_is (x : Value) : ∀ v w w', Is x v w → Below w.heap.size w w' → Is x v w' := fun _ _ _ h _ => h
def StAll : List (Value → World → Prop) → Prop
  | [] => True
  | p :: r => (∀ v w w', p v w → Below w.heap.size w w' → p v w') ∧ StAll r
theorem StAll.get {T : List (Value → World → Prop)} (h : StAll T) : ∀ (i : Nat) (v : Value) (w w' : World), T.getD i (fun _ _ => True) v w → Below w.heap.size w w' → T.getD i (fun _ _ => True) v w' := by
  induction T with
  | nil => intro i v w w' _ _; simp
  | cons p r ih =>
    intro i v w w' h1 h2
    cases i with
    | zero => exact h.1 v w w' h1 h2
    | succ i => exact ih h.2 i v w w' h1 h2
def guardOk (R : List Bool) (T : List (Value → World → Prop)) (i : Nat) (o : Oper) : Prop :=
  match o.guard with
  | none => R.getD i true = true
  | some (g, want) => if R.getD i true then (R.getD g true = true ∧ ∀ v w, T.getD g (fun _ _ => True) v w → v = .bool want)
      else (R.getD g true = false ∨ ∀ v w, T.getD g (fun _ _ => True) v w → v = .bool (!want))
def boundB (l : List Oper) (n : Nat) : Bool := l.all fun o => match o.dst with | none => true | some d => decide (d < n)
/-- What the values that the region leaves are known to be. -/
def Left (R : List Bool) (T : List (Value → World → Prop)) (vals : Nat → Value) (w : World) : Nat → Nat → Prop
  | _, 0 => True
  | i, n + 1 => (if R.getD i true then T.getD i (fun _ _ => True) (vals i) w else vals i = undef) ∧ Left R T vals w (i + 1) n
theorem left_of {R : List Bool} {T : List (Value → World → Prop)} {vals : Nat → Value} {w : World} : ∀ (n i : Nat), (∀ k, k < i + n → (if R.getD k true then T.getD k (fun _ _ => True) (vals k) w else vals k = undef)) → Left R T vals w i n := by
  intro n
  induction n with
  | zero => intro i _; trivial
  | succ n ih => intro i h; exact ⟨h i (by omega), ih (i + 1) fun k hk => h k (by omega)⟩
/-- The region's first n operations in any order; those behind them, each of which waits for all ahead of it, one by one. -/
theorem wp_region_rgt {id : Nat} {l : List Oper} {tmps : Array Value} {defers : List Deferred} {w0 : World} (n : Nat) (R : List Bool) (T : List (Value → World → Prop))
    (hm : P.follows .mixedOrders = true) (hsh : shapeB l.toArray = true) (hn : n ≤ l.length) (ht : tailB l.toArray n = true) (hb : boundB l tmps.size = true) (hst : StAll T)
    (hguard : Each (guardOk R T) (l.take n) 0)
    (hop : Each (fun i o => R.getD i true = true → ∀ (a : Act) (w : World), Below w0.heap.size w0 w →
      (∀ t ∈ reads l.toArray o, known l.toArray (fun i => R.getD i true) (fun i => T.getD i (fun _ _ => True)) ⟨tmps, defers⟩ o a w t) → does P o a w fun v w' => Below w.heap.size w w' ∧ T.getD i (fun _ _ => True) v w') (l.take n) 0)
    (hdone : ∀ (vals : Nat → Value) (w : World), Below w0.heap.size w0 w → Left R T vals w 0 n → wpList P l.toArray Q (l.drop n) ⟨putAll vals (l.take n) 0 tmps, defers⟩ w) :
    (Code.region id l.toArray true).wp P Q ⟨tmps, defers⟩ w0 := by
  have hget : ∀ (i : Nat) (o : Oper), i < n → l.toArray[i]? = some o → (l.take n)[i]? = some o := fun i o hi ho => by
    rw [List.getElem?_take, if_pos hi]; simpa using ho
  refine wp_region_rg hm hsh n (by simpa using hn) ht (fun i => R.getD i true) (fun i => T.getD i (fun _ _ => True)) ⟨tmps, defers⟩ w0 (fun i => hst.get i) ?_ ?_ ?_ ?_ ?_
  · intro j o t hj hd
    have hmem : o ∈ l := List.mem_of_getElem? (by simpa using hj)
    have := List.all_eq_true.1 hb o hmem
    rw [hd] at this
    simpa using this
  · intro i o g want hin ho hg
    have := hguard.get i o (hget i o hin ho)
    unfold guardOk at this
    rw [hg] at this
    simpa using this
  · intro i o hin ho hg
    have := hguard.get i o (hget i o hin ho)
    unfold guardOk at this
    rw [hg] at this
    simpa using this
  · intro i o hin ho hr a w h1 h5
    have := hop.get i o (hget i o hin ho)
    rw [Nat.zero_add] at this
    exact this hr a w h1 h5
  · intro vals w h1 h2
    have := hdone vals w h1 (left_of n 0 fun k hk => by
      have := h2 k (by simpa using hk)
      exact this)
    have e : List.range' n (l.toArray.size - n) = List.range' n (l.drop n).length := by simp
    rw [e, wpOps_eq_wpList (l.drop n) n (fun j => by simp [List.getElem?_drop])]
    simpa using this
end
end Go.Proofs.YtiklkhbfilbpeaaGreatDoor.Rg
