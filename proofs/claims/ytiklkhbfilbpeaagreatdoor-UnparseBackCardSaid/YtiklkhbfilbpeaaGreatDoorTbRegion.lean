import Derived.Test.YtiklkhbfilbpeaaGreatDoorTbBase
import Derived.StillTail
set_option maxRecDepth 100000
set_option maxHeartbeats 16000000
set_option linter.unusedVariables false
set_option linter.unusedSimpArgs false
namespace Go.Proofs.YtiklkhbfilbpeaaGreatDoor.Rg
open Go.RowKit
def does (P:Program) (o:Oper) (a:Act) (w:World) (post:Value→World→Prop):Prop:=
 match (execOp a.eval o).run P w with
 | .ok (.value v) w'=>post v w'
 | .ok (.enter f args) w'=>Calls P f args w' fun e w''=>∃v,e=.returned v∧post v w''
 | _=>False
theorem bA {P:Program} {o:Oper} {a:Act} {w w':World} {post:Value→World→Prop} {v:Value} (h:(execOp a.eval o).run P w=.ok (.value v) w') (hp:post v w'):does P o a w post:=by
 unfold does;rw [h];exact hp
theorem KS {P:Program} {o:Oper} {a:Act} {w w':World} {post:Value→World→Prop} {f:FuncId} {args:Array Value} (h:(execOp a.eval o).run P w=.ok (.enter f args) w')
 (hp:Calls P f args w' fun e w''=>∃v,e=.returned v∧post v w''):does P o a w post:=by
 unfold does;rw [h];exact hp
theorem kE {P:Program} {f:FuncId} {fn:Func} (h:P.funcs[f]? =some fn) (hn:(fn.name== "runtime.NumGoroutine")=false) (hb:fn.body.isNone=false) (args:Array Value) (w:World):
 (callFunc f args).run P w=.ok (.enter f args) w:=by
 unfold callFunc
 rw [Sem.run_bind]
 show Result.andThen (.ok P w) _=_
 simp only [Result.andThen,h,hn,hb]
 rfl
theorem bW {P:Program} {a:Act} {w:World} {post:Value→World→Prop} {dst:Option Tmp} {f:FuncId} {fn:Func} {xs:Array Operand} {ats:Array TypeId} {ty:TypeId} {pos:String} {after:Array Edge} {guard:Option (Nat × Bool)}
 (args:Array Value) (h:P.funcs[f]? =some fn) (hn:(fn.name== "runtime.NumGoroutine")=false) (hb:fn.body.isNone=false) (hargs:xs.map a.eval=args)
 {R:Ending→World→Prop} (hc:Calls P f args w R) (hp:∀e w',R e w'→∃v,e=.returned v∧post v w'):
 does P { dst,op:=.call { callee:=.value (.func f),args:=xs,argTypes:=ats },type:=ty,pos,after,guard } a w post:=by
 refine KS (f:=f) (args:=args) (w':=w) ?_ (hc.mono hp)
 rw [execOp_call_go,hargs]
 simpa using kE h hn hb args w
theorem az {P:Program} {a:Act} {w:World} {post:Value→World→Prop} {dst:Option Tmp} {x:Operand} {ty:TypeId} {pos:String} {after:Array Edge} {guard:Option (Nat × Bool)}
 (hp:post (a.eval x) w):does P { dst,op:=.move x,type:=ty,pos,after,guard } a w post:=bA rfl hp
theorem CO {P:Program} {a:Act} {w:World} {post:Value→World→Prop} {dst:Option Tmp} {x:Operand} {ty:TypeId} {pos:String} {after:Array Edge} {guard:Option (Nat × Bool)}
 (hp:post (a.eval x) w):does P { dst,op:=.assign x,type:=ty,pos,after,guard } a w post:=bA rfl hp
theorem yi {P:Program} {a:Act} {w:World} {post:Value→World→Prop} {dst:Option Tmp} {x:Operand} {lo hi mx:Option Operand} {t:TypeId} {ty:TypeId} {pos:String} {after:Array Edge} {guard:Option (Nat × Bool)} (u:Value)
 (hr:(Instr.sliceAt t (a.eval x) (lo.map a.eval) (hi.map a.eval) (mx.map a.eval)).run P w=.ok u w) (hp:post u w):does P { dst,op:=.slice t x lo hi mx,type:=ty,pos,after,guard } a w post:=by
 refine bA (v:=u) ?_ hp
 simp [execOp,hr,Result.andThen]
theorem MS {P:Program} {a:Act} {w:World} {post:Value→World→Prop} {dst:Option Tmp} {x:Operand} {lo hi mx:Option Operand} {t e:TypeId} {ty:TypeId} {pos:String} {after:Array Edge} {guard:Option (Nat × Bool)} (u:Value)
 (ht:P.underlying t=some (.slice e)) (hr:(Instr.slice t (a.eval x) (lo.map a.eval) (hi.map a.eval) (mx.map a.eval)).run P w=.ok u w) (hp:post u w):does P { dst,op:=.slice t x lo hi mx,type:=ty,pos,after,guard } a w post:=by
 refine yi u ?_ hp
 rw [run_sliceAt_slice w t _ _ _ _ (by simp [Program.elem,ht]),hr]
theorem dI {P:Program} {a:Act} {w:World} {post:Value→World→Prop} {dst:Option Tmp} {x y:Operand} {t:TypeId} {ty:TypeId} {pos:String} {after:Array Edge} {guard:Option (Nat × Bool)} (v i u:Value)
 (hx:a.eval x=v) (hy:a.eval y=i) (hr:(Instr.indexAt t v i).run P w=.ok u w) (hp:post u w):does P { dst,op:=.indexAddr t x y,type:=ty,pos,after,guard } a w post:=by
 refine bA (v:=u) ?_ hp
 simp [execOp,hx,hy,hr,Result.andThen]
theorem aK {P:Program} {a:Act} {w:World} {post:Value→World→Prop} {dst:Option Tmp} {x:Operand} {t:TypeId} {ty:TypeId} {pos:String} {after:Array Edge} {guard:Option (Nat × Bool)} (v u:Value)
 (hx:a.eval x=v) (hr:(Instr.loadAt t v).run P w=.ok u w) (hp:post u w):does P { dst,op:=.load t x,type:=ty,pos,after,guard } a w post:=by
 refine bA (v:=u) ?_ hp
 simp [execOp,hx,hr,Result.andThen]
theorem fF {P:Program} {a:Act} {w:World} {post:Value→World→Prop} {dst:Option Tmp} {op:BinOp} {x y:Operand} {t u:TypeId} {ty:TypeId} {pos:String} {after:Array Edge} {guard:Option (Nat × Bool)} (k:IntKind) (m n:Int) (v:Value)
 (hx:a.eval x=.int k m) (hy:a.eval y=.int k n) (hr:(binOp op t (.int k m) (.int k n)).run P w=.ok v w) (hp:post v w):does P { dst,op:=.binOp op t x y u,type:=ty,pos,after,guard } a w post:=by
 refine bA (v:=v) ?_ hp
 simp [execOp,hx,hy,eqGuard_at_int,hr,Result.andThen]
theorem sU {P:Program} {a:Act} {w:World} {post:Value→World→Prop} {dst:Option Tmp} {x:Operand} {t e:TypeId} {ty:TypeId} {pos:String} {after:Array Edge} {guard:Option (Nat × Bool)} (b:Option Addr) (n c:Nat)
 (ht:P.underlying t=some (.slice e)) (hx:a.eval x=.slice b n c) (hp:post (.int .i64 (n:Int)) w):does P { dst,op:=.call { callee:=.builtin .len,args:=#[x],argTypes:=#[t] },type:=ty,pos,after,guard } a w post:=by
 refine bA (v:=.int .i64 (n:Int)) ?_ hp
 have:=run_len_slice (P:=P) w t ty b n c (by simp [Program.elem,ht])
 simp [execOp,resolve,invoke,builtin,hx,this,Result.andThen,goInt]
theorem di {P:Program} {a:Act} {w w':World} {post:Value→World→Prop} {dst:Option Tmp} {t:TypeId} {n:Nat} {parts:Array (Nat × Operand)} {ty:TypeId} {pos:String} {after:Array Edge} {guard:Option (Nat × Bool)} (vals:Array (Nat × Value)) (u:Value)
 (hv:(parts.map fun (i,x)=>(i,a.eval x))=vals) (hr:(Instr.buildSlice t n vals).run P w=.ok u w') (hp:post u w'):does P { dst,op:=.buildSlice t n parts,type:=ty,pos,after,guard } a w post:=by
 refine bA (v:=u) (w':=w') ?_ hp
 simp [execOp,hv,hr,Result.andThen]
theorem qT {P:Program} {o:Oper} {a:Act} {w:World} {post:Value→World→Prop} {K:Act→World→Prop} {Q:Exit→Act→World→Prop} (h:does P o a w post)
 (hK:∀v w',post v w'→K (a.put o.dst v) w'):o.wp P a w K Q:=by
 unfold does at h
 unfold Oper.wp
 revert h
 cases (execOp a.eval o).run P w with
 | halt x w'=>intro h;exact h.elim
 | ok n w'=>
   cases n with
   | value v=>intro h;exact hK v w' h
   | enter f args=>
     intro h
     refine Calls.mono h fun e w'' he=>?_
     obtain ⟨v,rfl,hp⟩:=he
     exact hK v w'' hp
   | _=>intro h;exact h.elim
section
variable {P:Program} {ops:Array Oper} {Q:Exit→Act→World→Prop}
def source (ops:Array Oper) (o:Oper) (t:Tmp):Option Nat:=(o.after.toList.find? fun e=>Region.binds .any e && ((ops[e.on]?).bind (·.dst))==some t).map (·.on)
def reads (ops:Array Oper) (o:Oper):List Tmp:=
 o.op.operands.toList.filterMap fun | .tmp t=>some t | _=>none
def waits (o:Oper) (i:Nat):Bool:=o.after.any fun e=>Region.binds .any e && e.on==i
def ik (ops:Array Oper):Bool:=
 (List.range ops.size).all fun i=>match ops[i]? with
  | none=>true
  | some o=>
    (o.after.all fun e=>!Region.binds .any e || decide (e.on < i)) &&
    (match o.op with | .select ..=>false | _=>true) &&
    (match o.guard with | none=>true | some (g,_)=>waits o g && ((ops[g]?).bind (·.dst)).isSome) &&
    (match o.dst with
     | none=>true
     | some d=>(List.range ops.size).all fun j=>decide (j=i) || ((ops[j]?).bind (·.dst)) != some d) &&
    ((reads ops o).all fun t=>(source ops o t).isSome ||
      (List.range ops.size).all fun j=>match ops[j]? with | none=>true | some oj=>oj.dst != some t || waits oj i)
def Gx (runs:Nat→Bool) (G:Nat→Value→World→Prop) (i:Nat) (v:Value) (w:World):Prop:=if runs i then G i v w else v=undef
def known (ops:Array Oper) (runs:Nat→Bool) (G:Nat→Value→World→Prop) (a0:Act) (o:Oper) (a:Act) (w:World) (t:Tmp):Prop:=
 match source ops o t with
 | some j=>Gx runs G j (a.eval (.tmp t)) w
 | none=>a.eval (.tmp t)=a0.eval (.tmp t)
structure Inv (n:Nat) (ops:Array Oper) (runs:Nat→Bool) (G:Nat→Value→World→Prop) (a0:Act) (w0:World) (listed:Array Bool) (a:Act) (w:World) (vals:Nat→Value):Prop where
 ext:Below w0.heap.size w0 w
 defers:a.defers=a0.defers
 size:a.tmps.size=a0.tmps.size
 iJ:listed.size=ops.size
 g:∀i,listed.getD i false=true→Gx runs G i (vals i) w
 old:∀t,(∀(j:Nat) (o:Oper),ops[j]? =some o→o.dst=some t→listed.getD j false=false)→a.tmps[t]? =a0.tmps[t]?
 new:∀(j:Nat) (o:Oper) (t:Tmp),ops[j]? =some o→o.dst=some t→listed.getD j false=true→t < a0.tmps.size→a.tmps[t]? =some (vals j)
 closed:∀(j:Nat) (o:Oper),ops[j]? =some o→listed.getD j false=true→∀e∈o.after,Region.binds .any e=true→listed.getD e.on false=true
 tail:∀t,n≤t→listed.getD t false=false
def Ta (ops:Array Oper):Nat→Nat→Nat→Bool
 | 0,t,i=>match ops[t]? with | none=>false | some o=>waits o i
 | d+1,t,i=>match ops[t]? with | none=>false | some o=>waits o i || o.after.any fun e=>Region.binds .any e && Ta ops d e.on i
def oa (ops:Array Oper) (n:Nat):Bool:=
 (List.range ops.size).all fun t=>decide (t < n) || (List.range t).all fun i=>Ta ops 40 t i
def bh (vals:Nat→Value):List Oper→Nat→Array Value→Array Value
 | [],_,t=>t
 | o::r,i,t=>bh vals r (i+1) (match o.dst with | some d=>t.setIfInBounds d (vals i) | none=>t)
theorem oB (vals:Nat→Value):∀(l:List Oper) (i:Nat) (t:Array Value),(bh vals l i t).size=t.size:=by
 intro l
 induction l with
 | nil=>intro i t;rfl
 | cons o r ih=>
   intro i t
   rw [bh,ih]
   cases o.dst<;>simp
theorem jq (vals:Nat→Value) (t:Nat):∀(l:List Oper) (i:Nat) (tm:Array Value),
 ((∀(k:Nat) (o:Oper),l[k]? =some o→o.dst≠some t)→(bh vals l i tm)[t]? =tm[t]?)∧
 (∀(k:Nat) (o:Oper),l[k]? =some o→o.dst=some t→(∀(k':Nat) (o':Oper),l[k']? =some o'→o'.dst=some t→k'=k)→t < tm.size→(bh vals l i tm)[t]? =some (vals (i+k))):=by
 intro l
 induction l with
 | nil=>intro i tm;exact ⟨fun _=>rfl,fun k o h=>by simp at h⟩
 | cons o r ih=>
   intro i tm
   constructor
   ·
    intro h
    rw [bh,(ih _ _).1 fun k o' hk=>h (k+1) o' (by simpa using hk)]
    have h0:=h 0 o (by simp)
    cases hd:o.dst with
    | none=>rfl
    | some d=>
      have:d≠t:=fun e=>h0 (by rw [hd,e])
      simp [Array.getElem?_setIfInBounds_ne this]
   ·
    intro k o' hk hd hu ht
    rw [bh]
    cases k with
    | zero=>
      simp at hk
      subst hk
      rw [(ih _ _).1 fun k' o'' uO RD=>by
       have:=hu (k'+1) o'' (by simpa using uO) RD
       omega]
      simp [hd,ht]
    | succ k=>
      have:=(ih (i+1) (match o.dst with | some d=>tm.setIfInBounds d (vals i) | none=>tm)).2 k o' (by simpa using hk) hd (fun k' o'' uO RD=>by
       have:=hu (k'+1) o'' (by simpa using uO) RD
       omega) (by cases o.dst<;>simpa using ht)
      rw [this]
      congr 2
      omega
theorem eX (h:ik ops=true) {i:Nat} {o:Oper} (ho:ops[i]? =some o):
 (∀e∈o.after,Region.binds .any e=true→e.on < i)∧(∀cs b,o.op≠.select cs b)∧
 (∀g want,o.guard=some (g,want)→waits o g=true∧((ops[g]?).bind (·.dst)).isSome=true)∧
 (∀d,o.dst=some d→∀(j:Nat) (oj:Oper),ops[j]? =some oj→oj.dst=some d→j=i)∧
 (∀t,t∈reads ops o→(source ops o t).isSome=true∨∀(j:Nat) (oj:Oper),ops[j]? =some oj→oj.dst=some t→waits oj i=true):=by
 have hi:i < ops.size:=(Array.getElem?_eq_some_iff.1 ho).1
 have h1:=List.all_eq_true.1 h i (List.mem_range.2 hi)
 simp only [ho,Bool.and_eq_true] at h1
 obtain ⟨⟨⟨⟨h1,h2⟩,h3⟩,h4⟩,h5⟩:=h1
 refine ⟨fun e he hb=>?_,fun cs b hs=>by rw [hs] at h2;simp at h2,fun g want hg=>?_,fun d hd j oj hj uh=>?_,fun t ht=>?_⟩
 ·
  have:=Array.all_eq_true'.1 h1 e he
  simpa [hb] using this
 ·
  rw [hg] at h3
  simpa using h3
 ·
  rw [hd] at h4
  have Ll:j < ops.size:=(Array.getElem?_eq_some_iff.1 hj).1
  have:=List.all_eq_true.1 h4 j (List.mem_range.2 Ll)
  simp [hj,uh] at this
  exact this
 ·
  have:=List.all_eq_true.1 h5 t ht
  simp only [Bool.or_eq_true] at this
  rcases this with this | this
  · exact .inl this
  ·
   right
   intro j oj hj uh
   have Ll:j < ops.size:=(Array.getElem?_eq_some_iff.1 hj).1
   have:=List.all_eq_true.1 this j (List.mem_range.2 Ll)
   simp [hj,uh] at this
   exact this
theorem dm {o:Oper} {i:Nat} (h:waits o i=true):∃e∈o.after,Region.binds .any e=true∧e.on=i:=by
 unfold waits at h
 obtain ⟨e,he,hb⟩:=Array.any_eq_true'.1 h
 simp only [Bool.and_eq_true,beq_iff_eq] at hb
 exact ⟨e,he,hb.1,hb.2⟩
theorem iP {a:Act} {t:Tmp}:a.eval (.tmp t)=(a.tmps[t]?).getD undef:=by
 simp [Act.eval]
theorem tail_at {n:Nat} (h:oa ops n=true) {t:Nat} {o:Oper} (ho:ops[t]? =some o) (ht:n≤t):∀i,i < t→Ta ops 40 t i=true:=by
 have Yi:t < ops.size:=(Array.getElem?_eq_some_iff.1 ho).1
 have h1:=List.all_eq_true.1 h t (List.mem_range.2 Yi)
 simp only [Bool.or_eq_true,decide_eq_true_eq] at h1
 rcases h1 with h1 | h1
 · omega
 ·
  intro i hi
  exact List.all_eq_true.1 h1 i (List.mem_range.2 hi)
theorem Fy {listed:Array Bool} (hc:∀(j:Nat) (o:Oper),ops[j]? =some o→listed.getD j false=true→∀e∈o.after,Region.binds .any e=true→listed.getD e.on false=true):
 ∀(d j i:Nat),listed.getD j false=true→Ta ops d j i=true→listed.getD i false=true:=by
 intro d
 induction d with
 | zero=>
   intro j i hj hr
   unfold Ta at hr
   cases ho:ops[j]? with
   | none=>rw [ho] at hr;cases hr
   | some o=>
     rw [ho] at hr
     obtain ⟨e,he,hb,vB⟩:=dm hr
     rw [←vB]
     exact hc j o ho hj e he hb
 | succ d ih=>
   intro j i hj hr
   unfold Ta at hr
   cases ho:ops[j]? with
   | none=>rw [ho] at hr;cases hr
   | some o=>
     rw [ho] at hr
     simp only [Bool.or_eq_true] at hr
     rcases hr with hr | hr
     ·
      obtain ⟨e,he,hb,vB⟩:=dm hr
      rw [←vB]
      exact hc j o ho hj e he hb
     ·
      obtain ⟨e,he,h2⟩:=Array.any_eq_true'.1 hr
      simp only [Bool.and_eq_true] at h2
      exact ih e.on i (hc j o ho hj e he h2.1) h2.2
theorem tF {listed:Array Bool} (hc:∀(j:Nat) (o:Oper),ops[j]? =some o→listed.getD j false=true→∀e∈o.after,Region.binds .any e=true→listed.getD e.on false=true)
 {t:Nat} {o:Oper} (ho:ops[t]? =some o) (hall:∀e∈o.after,Region.binds .any e=true→listed.getD e.on false=true) {i:Nat} (hr:Ta ops 40 t i=true):listed.getD i false=true:=by
 unfold Ta at hr
 rw [ho] at hr
 simp only [Bool.or_eq_true] at hr
 rcases hr with hr | hr
 ·
  obtain ⟨e,he,hb,vB⟩:=dm hr
  rw [←vB]
  exact hall e he hb
 ·
  obtain ⟨e,he,h2⟩:=Array.any_eq_true'.1 hr
  simp only [Bool.and_eq_true] at h2
  exact Fy hc 39 e.on i (hall e he h2.1) h2.2
theorem nI (lV:ik ops=true) {n:Nat} (ht:oa ops n=true):∀(d k fuel:Nat) (listed:Array Bool) (a:Act) (w:World),ops.size - k=d→n≤k→k≤ops.size→d≤fuel→listed.size=ops.size→
 (∀i,i < k→listed.getD i false=true)→(∀i,k≤i→listed.getD i false=false)→wpOps P ops Q (List.range' k (ops.size - k)) a w→wpAny P .any ops Q fuel listed a w:=by
 intro d
 induction d with
 | zero=>
   intro k fuel listed a w hd wT hk hf Sg h1 h2 h3
   have hke:k=ops.size:=by omega
   have hr:Region.ready .any ops listed=[]:=by
    rw [List.eq_nil_iff_forall_not_mem]
    intro i hi
    obtain ⟨EU,o,ho,_⟩:=mem_ready.1 hi
    have yA:i < ops.size:=(Array.getElem?_eq_some_iff.1 ho).1
    have:=h1 i (by omega)
    rw [getD_both EU] at this
    cases this
   have ZG:Q .normal a w:=by
    rw [hke,Nat.sub_self] at h3
    exact h3
   cases fuel with
   | zero=>exact ⟨hr,ZG⟩
   | succ f=>exact ⟨fun _=>ZG,fun i hi=>by rw [hr] at hi;cases hi⟩
 | succ d ih=>
   intro k fuel listed a w hd wT hk hf Sg h1 h2 h3
   obtain ⟨f,rfl⟩:∃f,fuel=f+1:=⟨fuel - 1,by omega⟩
   have eo:k < ops.size:=by omega
   have ho:ops[k]? =some ops[k]:=Array.getElem?_eq_getElem eo
   have gQ:k∈Region.ready .any ops listed:=mem_ready.2 ⟨getD_in (by omega) (h2 k (Nat.le_refl _)),ops[k],ho,fun e he hb=>h1 e.on ((eX lV ho).1 e he hb)⟩
   refine ⟨fun hr=>(by rw [hr] at gQ;cases gQ),fun i hi=>?_⟩
   obtain ⟨EU,oi,hoi,hall⟩:=mem_ready.1 hi
   have yA:i < ops.size:=(Array.getElem?_eq_some_iff.1 hoi).1
   have hik:i=k:=by
    rcases Nat.lt_trichotomy i k with h | h | h
    ·
     have:=h1 i h
     rw [getD_both EU] at this
     cases this
    · exact h
    ·
     have Vx:∀(j:Nat) (o:Oper),ops[j]? =some o→listed.getD j false=true→∀e∈o.after,Region.binds .any e=true→listed.getD e.on false=true:=fun j o hj hl e he df=>by
      have hjk:j < k:=by
       rcases Nat.lt_or_ge j k with h5 | h5
       · exact h5
       · rw [h2 j h5] at hl;cases hl
      exact h1 e.on (Nat.lt_trans ((eX lV hj).1 e he df) hjk)
     have:=tF Vx hoi hall (tail_at ht hoi (by omega) k h)
     rw [h2 k (Nat.le_refl _)] at this
     cases this
   subst hik
   have e:List.range' i (ops.size - i)=i::List.range' (i+1) (ops.size - (i+1)):=by
    rw [show ops.size - i=(ops.size - (i+1))+1 by omega,List.range'_succ]
   rw [e,wpOps_cons] at h3
   refine wpOp_mono (fun a' w' h'=>ih (i+1) f _ a' w' (by omega) (by omega) (by omega) (by omega) (by simp [Sg]) ?_ ?_ h') h3
   ·
    intro j hj
    by_cases nR:j=i
    · subst nR;simp [Sg,yA]
    · rw [getD_set_ne false (fun e=>nR e.symm)];exact h1 j (by omega)
   ·
    intro j hj
    rw [getD_set_ne false (by omega)]
    exact h2 j (by omega)
theorem tQ (lV:ik ops=true) (n:Nat) (hn:n≤ops.size) (ht:oa ops n=true) (runs:Nat→Bool) (G:Nat→Value→World→Prop) (a0:Act) (w0:World)
 (hst:∀i v w w',G i v w→Below w.heap.size w w'→G i v w')
 (hbound:∀(j:Nat) (o:Oper) (t:Tmp),ops[j]? =some o→o.dst=some t→t < a0.tmps.size)
 (dK:∀(i:Nat) (o:Oper) (g:Nat) (want:Bool),i < n→ops[i]? =some o→o.guard=some (g,want)→if runs i then (runs g=true∧∀v w,G g v w→v=.bool want) else (runs g=false∨∀v w,G g v w→v=.bool (!want)))
 (oZ:∀(i:Nat) (o:Oper),i < n→ops[i]? =some o→o.guard=none→runs i=true)
 (hop:∀(i:Nat) (o:Oper),i < n→ops[i]? =some o→runs i=true→∀(a:Act) (w:World),Below w0.heap.size w0 w→
  (∀t∈reads ops o,known ops runs G a0 o a w t)→does P o a w fun v w'=>Below w.heap.size w w'∧G i v w')
 (hdone:∀(vals:Nat→Value) (w:World),Below w0.heap.size w0 w→(∀i,i < n→Gx runs G i (vals i) w)→wpOps P ops Q (List.range' n (ops.size - n)) ⟨bh vals (ops.toList.take n) 0 a0.tmps,a0.defers⟩ w):
 ∀(fuel:Nat) (listed:Array Bool) (a:Act) (w:World) (vals:Nat→Value),Inv n ops runs G a0 w0 listed a w vals→((List.range ops.size).filter fun i=>!listed.getD i true).length≤fuel→
  wpAny P .any ops Q fuel listed a w:=by
 have gu:∀(fuel:Nat) (listed:Array Bool) (a:Act) (w:World) (vals:Nat→Value),Inv n ops runs G a0 w0 listed a w vals→((List.range ops.size).filter fun i=>!listed.getD i true).length≤fuel→
  (∀i,i < n→listed.getD i false=true)→wpAny P .any ops Q fuel listed a w:=by
  intro fuel listed a w vals inv hf hall
  have hd:=hdone vals w inv.ext fun i hi=>inv.g i (hall i hi)
  have ha:a=⟨bh vals (ops.toList.take n) 0 a0.tmps,a0.defers⟩:=by
   cases a with
   | mk tmps defers=>
     have e1:defers=a0.defers:=inv.defers
     have e2:tmps=bh vals (ops.toList.take n) 0 a0.tmps:=by
      apply Array.ext_getElem?
      intro t
      rcases Nat.lt_or_ge t a0.tmps.size with yM | yM
      ·
       by_cases hw:∃(j:Nat) (o:Oper),j < n∧ops[j]? =some o∧o.dst=some t
       ·
        obtain ⟨j,o,IP,hj,hd⟩:=hw
        rw [inv.new j o t hj hd (hall j IP) yM]
        rw [(jq vals t (ops.toList.take n) 0 a0.tmps).2 j o (by rw [List.getElem?_take,if_pos IP];simpa using hj) hd (fun k' o' uO RD=>by
         rw [List.getElem?_take] at uO
         split at uO
         · exact (eX lV hj).2.2.2.1 t hd k' o' (by simpa using uO) RD
         · cases uO) yM]
        simp
       ·
        have hno:∀(j:Nat) (o:Oper),j < n→ops[j]? =some o→o.dst≠some t:=fun j o IP hj hd=>hw ⟨j,o,IP,hj,hd⟩
        rw [inv.old t fun j o hj hd=>by
         rcases Nat.lt_or_ge j n with h | h
         · exact absurd hd (hno j o h hj)
         · exact inv.tail j h]
        rw [(jq vals t (ops.toList.take n) 0 a0.tmps).1 fun k o hk=>by
         rw [List.getElem?_take] at hk
         split at hk
         · rename_i yY;exact hno k o yY (by simpa using hk)
         · cases hk]
      ·
       have h1:tmps.size=a0.tmps.size:=inv.size
       rw [Array.getElem?_eq_none (by omega),Array.getElem?_eq_none (by rw [oB];exact yM)]
     rw [e1,e2]
  rw [ha]
  refine nI lV ht (ops.size - n) n fuel listed _ w rfl (Nat.le_refl _) hn ?_ inv.iJ hall inv.tail hd
  refine Nat.le_trans ?_ hf
  have uf:(List.range' n (ops.size - n)).Sublist ((List.range ops.size).filter fun i=>!listed.getD i true):=by
   have e:List.range ops.size=List.range n++List.range' n (ops.size - n):=by
    rw [List.range_eq_range',List.range_eq_range']
    have:=List.range'_append_1 (s:=0) (m:=n) (n:=ops.size - n)
    rw [Nat.zero_add] at this
    rw [this]
    congr 1
    omega
   rw [e,List.filter_append]
   have e2:((List.range' n (ops.size - n)).filter fun i=>!listed.getD i true)=List.range' n (ops.size - n):=by
    rw [List.filter_eq_self]
    intro i hi
    have hi':=List.mem_range'_1.1 hi
    have:=getD_in (listed:=listed) (i:=i) (by rw [inv.iJ];omega) (inv.tail i hi'.1)
    rw [this];rfl
   rw [e2]
   exact List.sublist_append_right _ _
  simpa using uf.length_le
 have pw:∀(listed:Array Bool) (a:Act) (w:World) (vals:Nat→Value),Inv n ops runs G a0 w0 listed a w vals→¬(∀i,i < n→listed.getD i false=true)→∃i,i < n∧listed.getD i false=false∧i∈Region.ready .any ops listed:=by
  intro listed a w vals inv hno
  have:∃i,i < n∧listed.getD i false=false:=by
   refine Classical.byContradiction fun hc=>hno fun i hi=>?_
   rcases hl:listed.getD i false with _ | _
   · exact absurd ⟨i,hi,hl⟩ hc
   · rfl
  obtain ⟨i,hi,hl⟩:=this
  induction i using Nat.strongRecOn with
  | _ i ih=>
    have yA:i < ops.size:=by omega
    have ho:ops[i]? =some ops[i]:=Array.getElem?_eq_getElem yA
    by_cases hall:∀e∈ops[i].after,Region.binds .any e=true→listed.getD e.on false=true
    · exact ⟨i,hi,hl,mem_ready.2 ⟨getD_in (by rw [inv.iJ];exact yA) hl,ops[i],ho,hall⟩⟩
    ·
     have:∃e∈ops[i].after,Region.binds .any e=true∧listed.getD e.on false=false:=by
      refine Classical.byContradiction fun hc=>hall fun e he hb=>?_
      rcases hle:listed.getD e.on false with _ | _
      · exact absurd ⟨e,he,hb,hle⟩ hc
      · rfl
     obtain ⟨e,he,df,hle⟩:=this
     have hlt:=(eX lV ho).1 e he df
     exact ih e.on hlt (by omega) hle
 intro fuel
 induction fuel with
 | zero=>
   intro listed a w vals inv hf
   refine gu 0 listed a w vals inv hf fun i hi=>?_
   rcases hl:listed.getD i false with _ | _
   ·
    have:i∈(List.range ops.size).filter fun i=>!listed.getD i true:=List.mem_filter.2 ⟨List.mem_range.2 (by omega),by rw [getD_in (by rw [inv.iJ];omega) hl];rfl⟩
    have h0:((List.range ops.size).filter fun i=>!listed.getD i true)=[]:=List.eq_nil_of_length_eq_zero (by omega)
    rw [h0] at this
    cases this
   · rfl
 | succ fuel ih=>
   intro listed a w vals inv hf
   by_cases bf:∀i,i < n→listed.getD i false=true
   · exact gu (fuel+1) listed a w vals inv hf bf
   obtain ⟨i0,WS,Mz,CX⟩:=pw listed a w vals inv bf
   refine ⟨fun hr=>(by rw [hr] at CX;cases CX),fun i hi=>?_⟩
   obtain ⟨EU,o,ho,hall⟩:=mem_ready.1 hi
   have kG:i < n:=by
    rcases Nat.lt_or_ge i n with h | h
    · exact h
    ·
     have:=tF inv.closed ho hall (tail_at ht ho h i0 (by omega))
     rw [Mz] at this
     cases this
   have yA:i < ops.size:=(Array.getElem?_eq_some_iff.1 ho).1
   have Ep:i < listed.size:=by rw [inv.iJ];exact yA
   have BR:listed.getD i false=false:=getD_both EU
   obtain ⟨hback,Yl,hg,D2,Ew⟩:=eX lV ho
   have xK:((List.range ops.size).filter fun k=>!(listed.setIfInBounds i true).getD k true).length≤fuel:=by
    have uf:((List.range ops.size).filter fun k=>!(listed.setIfInBounds i true).getD k true)=((List.range ops.size).filter fun k=>!listed.getD k true).filter fun k=>decide (k≠i):=by
     rw [List.filter_filter]
     apply List.filter_congr
     intro k hk
     by_cases qx:k=i
     · subst qx;simp [Ep]
     · rw [getD_set_ne true (fun e=>qx e.symm)];simp [qx]
    have gQ:i∈(List.range ops.size).filter fun k=>!listed.getD k true:=List.mem_filter.2 ⟨List.mem_range.2 yA,by rw [EU];rfl⟩
    have hlt:(((List.range ops.size).filter fun k=>!listed.getD k true).filter fun k=>decide (k≠i)).length < ((List.range ops.size).filter fun k=>!listed.getD k true).length:=
     List.length_filter_lt_length_iff_exists.2 ⟨i,gQ,by simp⟩
    rw [uf]
    omega
   have qZ:(listed.setIfInBounds i true).getD i false=true:=by simp [Ep]
   have next:∀(v:Value) (w':World),Below w.heap.size w w'→Gx runs G i v w'→wpAny P .any ops Q fuel (listed.setIfInBounds i true) (a.put o.dst v) w':=by
    intro v w' hb hG
    refine ih _ _ _ (fun k=>if k=i then v else vals k) ?_ xK
    refine ⟨inv.ext.trans (hb.mono inv.ext.size),?_,?_,by simp [inv.iJ],?_,?_,?_,?_,fun t Lm=>by rw [getD_set_ne false (by omega)];exact inv.tail t Lm⟩
    · cases hd:o.dst<;>simpa [Act.put,hd] using inv.defers
    · cases hd:o.dst<;>simpa [Act.put,hd] using inv.size
    ·
     intro k hk
     by_cases qx:k=i
     · subst qx;simpa using hG
     ·
      rw [getD_set_ne false (fun e=>qx e.symm)] at hk
      have:=inv.g k hk
      simp only [qx,if_false]
      unfold Gx at this ⊢
      split
      · rename_i hr;rw [if_pos hr] at this;exact hst k _ _ _ this hb
      · rename_i hr;rw [if_neg hr] at this;exact this
    ·
     intro t ht
     have hne:o.dst≠some t:=fun hd=>by
      have:=ht i o ho hd
      rw [qZ] at this
      cases this
     have h1:=inv.old t fun j oj hj uh=>by
      have:=ht j oj hj uh
      by_cases nR:j=i
      · subst nR;rw [qZ] at this;cases this
      · rwa [getD_set_ne false (fun e=>nR e.symm)] at this
     cases hd:o.dst with
     | none=>simpa [Act.put,hd] using h1
     | some d=>
       have:d≠t:=fun e=>hne (by rw [hd,e])
       simp only [Act.put]
       rw [Array.getElem?_setIfInBounds_ne this]
       exact h1
    ·
     intro j oj t hj uh hl ht
     by_cases nR:j=i
     ·
      subst nR
      have:oj=o:=Option.some.inj (hj.symm.trans ho)
      subst this
      simp [Act.put,uh,inv.size,ht]
     ·
      rw [getD_set_ne false (fun e=>nR e.symm)] at hl
      have h1:=inv.new j oj t hj uh hl ht
      simp only [nR,if_false]
      cases hd:o.dst with
      | none=>simpa [Act.put,hd] using h1
      | some d=>
        have:d≠t:=fun e=>nR (D2 d hd j oj hj (by rw [uh,e]))
        simp only [Act.put]
        rw [Array.getElem?_setIfInBounds_ne this]
        exact h1
    ·
     intro j oj hj hl e he hb'
     by_cases nR:j=i
     ·
      subst nR
      have:oj=o:=Option.some.inj (hj.symm.trans ho)
      subst this
      exact getD_set_true (hall e he hb')
     ·
      rw [getD_set_ne false (fun e=>nR e.symm)] at hl
      exact getD_set_true (inv.closed j oj hj hl e he hb')
   have DD:Region.wanted o (yielded ops a.tmps)=runs i:=by
    unfold Region.wanted
    cases hgd:o.guard with
    | none=>simp [oZ i o kG ho hgd]
    | some gw=>
      obtain ⟨g,want⟩:=gw
      have h1:=dK i o g want kG ho hgd
      obtain ⟨hw,Pl⟩:=hg g want hgd
      obtain ⟨e,he,hb,vB⟩:=dm hw
      have Tw:listed.getD g false=true:=by rw [←vB];exact hall e he hb
      obtain ⟨d,hd⟩:=Option.isSome_iff_exists.1 Pl
      obtain ⟨og,TI,CS⟩:=Option.bind_eq_some_iff.1 hd
      have ly:=inv.new g og d TI CS Tw (hbound g og d TI CS)
      have pg:=inv.g g Tw
      have hy:yielded ops a.tmps g=(match vals g with | .bool b=>some b | _=>none):=by
       unfold yielded
       simp [hd,ly]
       cases vals g<;>rfl
      simp only []
      rw [hy]
      unfold Gx at pg
      cases yJ:runs i with
      | true=>
        rw [yJ,if_pos rfl] at h1
        rw [h1.1,if_pos rfl] at pg
        rw [h1.2 _ _ pg]
        simp
      | false=>
        rw [yJ] at h1
        simp at h1
        rcases h1 with h1 | h1
        ·
         rw [h1] at pg
         simp at pg
         rw [pg]
         rfl
        ·
         cases hrg:runs g with
         | false=>rw [hrg] at pg;simp at pg;rw [pg];rfl
         | true=>
           rw [hrg,if_pos rfl] at pg
           rw [h1 _ _ pg]
           simp
   unfold wpOp
   rw [ho]
   simp only []
   rw [DD]
   cases yJ:runs i with
   | false=>
     simp only [Bool.false_eq_true,if_false]
     exact next undef w (Below.refl _ _) (by unfold Gx;rw [yJ];simp)
   | true=>
     simp only [if_true]
     left
     refine qT (post:=fun v w'=>Below w.heap.size w w'∧G i v w') ?_ fun v w' hp=>next v w' hp.1 (by unfold Gx;rw [yJ,if_pos rfl];exact hp.2)
     refine hop i o kG ho yJ a w inv.ext fun t ht=>?_
     unfold known
     cases hs:source ops o t with
     | some j=>
       simp only []
       unfold source at hs
       obtain ⟨e,Tt,Zh⟩:=Option.map_eq_some_iff.1 hs
       have hp:=List.find?_some Tt
       have Vz:=List.mem_of_find?_eq_some Tt
       simp only [Bool.and_eq_true,beq_iff_eq] at hp
       subst Zh
       have yK:=hall e (by simpa using Vz) hp.1
       obtain ⟨oj,TY,Cr⟩:=Option.bind_eq_some_iff.1 hp.2
       rw [iP,inv.new e.on oj t TY Cr yK (hbound _ _ _ TY Cr)]
       exact inv.g e.on yK
     | none=>
       simp only []
       rcases Ew t ht with h1 | h1
       · rw [hs] at h1;cases h1
       ·
        rw [iP,iP,inv.old t fun j oj hj uh=>?_]
        obtain ⟨e,he,hb,vB⟩:=dm (h1 j oj hj uh)
        rcases yK:listed.getD j false with _ | _
        · rfl
        ·
         have:=inv.closed j oj hj yK e he hb
         rw [vB,BR] at this
         cases this
theorem iG {id:Nat} (hm:P.follows .mixedOrders=true) (lV:ik ops=true) (n:Nat) (hn:n≤ops.size) (ht:oa ops n=true) (runs:Nat→Bool) (G:Nat→Value→World→Prop) (a0:Act) (w0:World)
 (hst:∀i v w w',G i v w→Below w.heap.size w w'→G i v w')
 (hbound:∀(j:Nat) (o:Oper) (t:Tmp),ops[j]? =some o→o.dst=some t→t < a0.tmps.size)
 (dK:∀(i:Nat) (o:Oper) (g:Nat) (want:Bool),i < n→ops[i]? =some o→o.guard=some (g,want)→if runs i then (runs g=true∧∀v w,G g v w→v=.bool want) else (runs g=false∨∀v w,G g v w→v=.bool (!want)))
 (oZ:∀(i:Nat) (o:Oper),i < n→ops[i]? =some o→o.guard=none→runs i=true)
 (hop:∀(i:Nat) (o:Oper),i < n→ops[i]? =some o→runs i=true→∀(a:Act) (w:World),Below w0.heap.size w0 w→
  (∀t∈reads ops o,known ops runs G a0 o a w t)→does P o a w fun v w'=>Below w.heap.size w w'∧G i v w')
 (hdone:∀(vals:Nat→Value) (w:World),Below w0.heap.size w0 w→(∀i,i < n→Gx runs G i (vals i) w)→wpOps P ops Q (List.range' n (ops.size - n)) ⟨bh vals (ops.toList.take n) 0 a0.tmps,a0.defers⟩ w):
 (Code.region id ops true).wp P Q a0 w0:=by
 refine wp_region_any hm ?_
 refine tQ lV n hn ht runs G a0 w0 hst hbound dK oZ hop hdone ops.size _ a0 _ (fun _=>undef) ⟨?_,rfl,rfl,by simp,?_,fun t _=>rfl,?_,?_,fun t _=>getD_replicate_false _ _⟩ ?_
 · exact ⟨rfl,rfl,rfl,Nat.le_refl _,fun _ _=>rfl⟩
 · intro i h;rw [getD_replicate_false] at h;cases h
 · intro j o t _ _ h;rw [getD_replicate_false] at h;cases h
 · intro j o _ h;rw [getD_replicate_false] at h;cases h
 · exact Nat.le_trans (List.length_filter_le _ _) (by simp)
def Each (F:Nat→Oper→Prop):List Oper→Nat→Prop
 | [],_=>True
 | o::r,i=>F i o∧Each F r (i+1)
theorem Each.get {F:Nat→Oper→Prop}:∀{l:List Oper} {i:Nat},Each F l i→∀(k:Nat) (o:Oper),l[k]? =some o→F (i+k) o:=by
 intro l
 induction l with
 | nil=>intro i _ k o h;simp at h
 | cons x r ih=>
   intro i h k o hk
   cases k with
   | zero=>simp at hk;subst hk;exact h.1
   | succ k=>
     have:=ih h.2 k o (by simpa using hk)
     rwa [Nat.add_assoc,Nat.add_comm 1 k] at this
def Is (x:Value):Value→World→Prop:=fun v _=>v=x
theorem aH (x:Value):∀v w w',Is x v w→Below w.heap.size w w'→Is x v w':=fun _ _ _ h _=>h
def DM:List (Value→World→Prop)→Prop
 | []=>True
 | p::r=>(∀v w w',p v w→Below w.heap.size w w'→p v w')∧DM r
theorem DM.get {T:List (Value→World→Prop)} (h:DM T):∀(i:Nat) (v:Value) (w w':World),T.getD i (fun _ _=>True) v w→Below w.heap.size w w'→T.getD i (fun _ _=>True) v w':=by
 induction T with
 | nil=>intro i v w w' _ _;simp
 | cons p r ih=>
   intro i v w w' h1 h2
   cases i with
   | zero=>exact h.1 v w w' h1 h2
   | succ i=>exact ih h.2 i v w w' h1 h2
def jB (R:List Bool) (T:List (Value→World→Prop)) (i:Nat) (o:Oper):Prop:=
 match o.guard with
 | none=>R.getD i true=true
 | some (g,want)=>if R.getD i true then (R.getD g true=true∧∀v w,T.getD g (fun _ _=>True) v w→v=.bool want)
  else (R.getD g true=false∨∀v w,T.getD g (fun _ _=>True) v w→v=.bool (!want))
def xC (l:List Oper) (n:Nat):Bool:=l.all fun o=>match o.dst with | none=>true | some d=>decide (d < n)
def Left (R:List Bool) (T:List (Value→World→Prop)) (vals:Nat→Value) (w:World):Nat→Nat→Prop
 | _,0=>True
 | i,n+1=>(if R.getD i true then T.getD i (fun _ _=>True) (vals i) w else vals i=undef)∧Left R T vals w (i+1) n
theorem vY {R:List Bool} {T:List (Value→World→Prop)} {vals:Nat→Value} {w:World}:∀(n i:Nat),(∀k,k < i+n→(if R.getD k true then T.getD k (fun _ _=>True) (vals k) w else vals k=undef))→Left R T vals w i n:=by
 intro n
 induction n with
 | zero=>intro i _;trivial
 | succ n ih=>intro i h;exact ⟨h i (by omega),ih (i+1) fun k hk=>h k (by omega)⟩
theorem dR {id:Nat} {l:List Oper} {tmps:Array Value} {defers:List Deferred} {w0:World} (n:Nat) (R:List Bool) (T:List (Value→World→Prop))
 (hm:P.follows .mixedOrders=true) (lV:ik l.toArray=true) (hn:n≤l.length) (ht:oa l.toArray n=true) (hb:xC l tmps.size=true) (hst:DM T)
 (dK:Each (jB R T) (l.take n) 0)
 (hop:Each (fun i o=>R.getD i true=true→∀(a:Act) (w:World),Below w0.heap.size w0 w→
  (∀t∈reads l.toArray o,known l.toArray (fun i=>R.getD i true) (fun i=>T.getD i (fun _ _=>True)) ⟨tmps,defers⟩ o a w t)→does P o a w fun v w'=>Below w.heap.size w w'∧T.getD i (fun _ _=>True) v w') (l.take n) 0)
 (hdone:∀(vals:Nat→Value) (w:World),Below w0.heap.size w0 w→Left R T vals w 0 n→wpList P l.toArray Q (l.drop n) ⟨bh vals (l.take n) 0 tmps,defers⟩ w):
 (Code.region id l.toArray true).wp P Q ⟨tmps,defers⟩ w0:=by
 have mv:∀(i:Nat) (o:Oper),i < n→l.toArray[i]? =some o→(l.take n)[i]? =some o:=fun i o hi ho=>by
  rw [List.getElem?_take,if_pos hi];simpa using ho
 refine iG hm lV n (by simpa using hn) ht (fun i=>R.getD i true) (fun i=>T.getD i (fun _ _=>True)) ⟨tmps,defers⟩ w0 (fun i=>hst.get i) ?_ ?_ ?_ ?_ ?_
 ·
  intro j o t hj hd
  have gQ:o∈l:=List.mem_of_getElem? (by simpa using hj)
  have:=List.all_eq_true.1 hb o gQ
  rw [hd] at this
  simpa using this
 ·
  intro i o g want kG ho hg
  have:=dK.get i o (mv i o kG ho)
  unfold jB at this
  rw [hg] at this
  simpa using this
 ·
  intro i o kG ho hg
  have:=dK.get i o (mv i o kG ho)
  unfold jB at this
  rw [hg] at this
  simpa using this
 ·
  intro i o kG ho hr a w h1 h5
  have:=hop.get i o (mv i o kG ho)
  rw [Nat.zero_add] at this
  exact this hr a w h1 h5
 ·
  intro vals w h1 h2
  have:=hdone vals w h1 (vY n 0 fun k hk=>by
   have:=h2 k (by simpa using hk)
   exact this)
  have e:List.range' n (l.toArray.size - n)=List.range' n (l.drop n).length:=by simp
  rw [e,wpOps_eq_wpList (l.drop n) n (fun j=>by simp [List.getElem?_drop])]
  simpa using this
theorem mq {id:Nat} {l:List Oper} {tmps:Array Value} {defers:List Deferred} {w0:World} (R:List Bool) (T:List (Value→World→Prop))
 (hm:P.follows .mixedOrders=true) (lV:ik l.toArray=true) (hb:xC l tmps.size=true) (hst:DM T)
 (dK:Each (jB R T) l 0)
 (hop:Each (fun i o=>R.getD i true=true→∀(a:Act) (w:World),Below w0.heap.size w0 w→
  (∀t∈reads l.toArray o,known l.toArray (fun i=>R.getD i true) (fun i=>T.getD i (fun _ _=>True)) ⟨tmps,defers⟩ o a w t)→does P o a w fun v w'=>Below w.heap.size w w'∧T.getD i (fun _ _=>True) v w') l 0)
 (hdone:∀(vals:Nat→Value) (w:World),Below w0.heap.size w0 w→Left R T vals w 0 l.length→Q .normal ⟨bh vals l 0 tmps,defers⟩ w):
 (Code.region id l.toArray true).wp P Q ⟨tmps,defers⟩ w0:=by
 have ht:oa l.toArray l.length=true:=by
  unfold oa
  rw [List.all_eq_true]
  intro t ht
  have:=List.mem_range.1 ht
  simp at this
  simp [this]
 refine dR l.length R T hm lV (Nat.le_refl _) ht hb hst (by rw [List.take_length];exact dK) (by rw [List.take_length];exact hop) ?_
 intro vals w h1 h2
 have:=hdone vals w h1 h2
 rw [List.take_length,List.drop_length]
 exact this
end
end Go.Proofs.YtiklkhbfilbpeaaGreatDoor.Rg
