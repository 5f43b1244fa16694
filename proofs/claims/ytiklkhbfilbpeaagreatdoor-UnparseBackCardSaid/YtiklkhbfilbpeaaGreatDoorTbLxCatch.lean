import Derived.Test.YtiklkhbfilbpeaaGreatDoorTbRegionP
import Derived.Deep.MidRow
import Derived.Test.YtiklkhbfilbpeaaGreatDoorTbLxOne
import Derived.Defers
import Derived.Recover
set_option maxRecDepth 100000
set_option maxHeartbeats 16000000
set_option linter.unusedVariables false
set_option linter.unusedSimpArgs false
namespace Go.Proofs.YtiklkhbfilbpeaaGreatDoor.Rq
open Go.RowKit Rg Rs Rt Rp
def Rest (P:Program) (ops:Array Oper) (Q:Exit→Act→World→Prop) (n:Nat) (a:Act) (w:World):Prop:=
 ∀(fuel:Nat) (listed:Array Bool),listed.size=ops.size→(∀i,i < n→listed.getD i false=true)→(∀i,n≤i→listed.getD i false=false)→((List.range ops.size).filter fun i=>!listed.getD i true).length≤fuel→wpAny P .any ops Q fuel listed a w
theorem kY {P:Program} {D:List PanicEntry→World→Prop} {a:Act} {w:World} {post:Value→World→Prop} {dst:Option Tmp} {ty:TypeId} {x y:Operand} {tt:TypeId} {pos:String} {after:Array Edge} {guard:Option (Nat × Bool)}
 (b o:Nat) (cells:Array Value) (hx:a.eval x=.pointer (some ⟨b,o,none⟩)) (hy:a.eval y=.agg cells) (ht:w.there b o cells.size) (hi:(P.info? ty).map (·.size)=some cells.size) (h1:cells.all (·.oneCell')=true)
 (hp:post undef (w.setCells b o cells.toList)):jg P D { dst,op:=.store ty x y,type:=tt,pos,after,guard } a w post:=by
 refine zU (w':=w.setCells b o cells.toList) ?_ hp
 unfold execOp
 simp only [hx,hy,Instr.storeAt,Instr.sureAddr,Sem.run_bind,Sem.run_pure,Result.andThen_ok,run_storeVar_mid w b o ty cells ht hi h1]
theorem cN {P:Program} {D:List PanicEntry→World→Prop} {a:Act} {w:World} {post:Value→World→Prop} {dst:Option Tmp} {ty:TypeId} {x y:Operand} {tt:TypeId} {pos:String} {after:Array Edge} {guard:Option (Nat × Bool)}
 (b o:Nat) (v:Value) (hx:a.eval x=.pointer (some ⟨b,o,none⟩)) (hy:a.eval y=v) (hv:v.cells=#[v]) (h1:v.oneCell'=true) (ht:w.there b o 1) (hi:(P.info? ty).map (·.size)=some 1)
 (hp:post undef (w.setCell ⟨b,o,none⟩ v)):jg P D { dst,op:=.store ty x y,type:=tt,pos,after,guard } a w post:=by
 refine zU (w':=w.setCell ⟨b,o,none⟩ v) ?_ hp
 have hs:(storeVar ty ⟨b,o,none⟩ v).run P w=.ok () (w.setCell ⟨b,o,none⟩ v):=by
  have:=run_storeCells_cells (P:=P) b o [v] 0 w (fun j hj=>by simpa using (ht j (by simpa using hj)).1) (fun j hj=>by simpa using (ht j (by simpa using hj)).2) (fun u hu=>by obtain rfl:=List.mem_singleton.1 hu;exact h1)
  cases hq:P.info? ty with
  | none=>simp [hq] at hi
  | some i=>
    have hs:i.size=1:=by simpa [hq] using hi
    simp only [Nat.add_zero] at this
    simp [storeVar,sizeOf,typeInfo,hq,hv,hs]
    exact this
 unfold execOp
 simp only [hx,hy,Instr.storeAt,Instr.sureAddr,Sem.run_bind,Sem.run_pure,Result.andThen_ok,hs]
section
variable {P:Program} {ops:Array Oper} {Q:Exit→Act→World→Prop} {R:World→World→Prop} {S:(Nat→Bool)→World→Prop} {K:Nat→World→World→Prop} {D:List PanicEntry→World→Prop}
theorem O5 (lV:ik ops=true) (n:Nat) (hn:n≤ops.size) (runs:Nat→Bool) (G:Nat→Value→World→Prop) (a0:Act) (w0:World) (O3:Nat→Value)
 (h0:∀i,i < n→Gx runs G i (O3 i) w0) (ly:∀(j:Nat) (o:Oper) (t:Tmp),j < n→ops[j]? =some o→o.dst=some t→t < a0.tmps.size→a0.tmps[t]? =some (O3 j))
 (hst:∀i k v w w',i≠k→R w0 w→G i v w→K k w w'→G i v w') (hstep:∀k w w',R w0 w→K k w w'→R w0 w')
 (hbound:∀(j:Nat) (o:Oper) (t:Tmp),ops[j]? =some o→o.dst=some t→t < a0.tmps.size)
 (dK:∀(i:Nat) (o:Oper),ops[i]? =some o→o.guard=none) (SQ:∀i,runs i=true)
 (hop:∀(i:Nat) (o:Oper),n≤i→ops[i]? =some o→∀(a:Act) (w:World) (ls:Nat→Bool),R w0 w→S ls w→ls i=false→(∀p j,ft ops o p j=true→ls j=true)→(∀p j oj,ops[j]? =some oj→ft ops oj p i=true→ls j=false)→
  (∀t∈reads ops o,known ops runs G a0 o a w t)→jg P (fun _ _=>False) o a w fun v w'=>K i w w'∧G i v w'∧S (upd ls i) w')
 (lB:∀ls mC w,(∀i,ls i=mC i)→S ls w→S mC w)
 (hdone:∀(vals:Nat→Value) (w:World) (ls:Nat→Bool),R w0 w→S ls w→(∀i,i < ops.size→ls i=true)→(∀i,i < ops.size→Gx runs G i (vals i) w)→Q .normal ⟨bh vals ops.toList 0 a0.tmps,a0.defers⟩ w)
 (Mv:R w0 w0) (M6:S (fun i=>decide (i < n)) w0):Rest P ops Q n a0 w0:=by
 intro fuel listed Sg h1 h2 hf
 have Lz:∀i,listed.getD i false=decide (i < n):=fun i=>by
  by_cases hi:i < n
  · rw [h1 i hi,decide_eq_true hi]
  · rw [h2 i (by omega),decide_eq_false hi]
 have ht:oa ops ops.size=true:=by
  unfold oa
  rw [List.all_eq_true]
  intro t ht
  simp [List.mem_range.1 ht]
 refine Rp.tQ (D:=fun _ _=>False) (R:=R) (S:=fun ls w=>(∀i,i < n→ls i=true)∧S ls w) (K:=K) lV ops.size (Nat.le_refl _) ht runs G a0 w0 hst hstep hbound ?_ ?_ ?_ ?_ ?_ (fun _ _ _ _ h=>h.elim) ?_ fuel listed a0 w0 O3 ⟨Mv,⟨fun i hi=>h1 i hi,lB _ _ _ (fun i=>(Lz i).symm) M6⟩,rfl,rfl,Sg,?_,fun t _=>rfl,?_,?_,?_⟩ hf
 ·
  intro i o g want _ ho hg
  rw [dK i o ho] at hg
  cases hg
 ·
  intro i o _ ho _
  exact SQ i
 ·
  intro i o _ ho hr a w ls hR hS ai bI bf hk
  have kG:n≤i:=by
   rcases Nat.lt_or_ge i n with h | h
   ·
    have:=hS.1 i h
    rw [ai] at this
    cases this
   · exact h
  refine FO (hop i o kG ho a w ls hR hS.2 ai bI bf hk) fun v w' hp=>⟨hp.1,hp.2.1,fun j hj=>?_,hp.2.2⟩
  unfold upd
  rw [if_neg (by omega)]
  exact hS.1 j hj
 ·
  intro i ls w _ hr _
  rw [SQ i] at hr
  cases hr
 · exact fun ls mC w h hS=>⟨fun i hi=>by rw [←h i];exact hS.1 i hi,lB _ _ _ h hS.2⟩
 ·
  intro vals w ls hR hS hall hG
  have:=hdone vals w ls hR hS.2 hall hG
  rw [Nat.sub_self]
  have e:ops.toList.take ops.size=ops.toList:=by rw [←Array.length_toList,List.take_length]
  rw [e]
  exact this
 ·
  intro i hi
  rw [Lz i] at hi
  exact h0 i (of_decide_eq_true hi)
 ·
  intro j o t hj hd hl yM
  rw [Lz j] at hl
  exact ly j o t (of_decide_eq_true hl) hj hd yM
 ·
  intro j o hj hl e he hb
  rw [Lz j] at hl
  rw [Lz e.on]
  exact decide_eq_true (Nat.lt_trans ((eX lV hj).1 e he hb) (of_decide_eq_true hl))
 ·
  intro t ht
  rcases hx:listed.getD t false with _ | _
  · rfl
  ·
   have:t < listed.size:=by
    rcases Nat.lt_or_ge t listed.size with h | h
    · exact h
    · simp [Array.getD,Nat.not_lt.2 h] at hx
   omega
theorem pZ {l:List Oper} {tmps:Array Value} {defers:List Deferred} {w0:World} (n:Nat) (V:List Value) (T:List (Value→World→Prop)) (R:World→World→Prop) (S:(Nat→Bool)→World→Prop) (K:Nat→World→World→Prop)
 (lV:ik l.toArray=true) (hn:n≤l.length) (hb:xC l tmps.size=true) (hgd:(l.all fun o=>o.guard.isNone)=true)
 (hV:Each (fun j o=>∀t,o.dst=some t→tmps[t]? =some (V.getD j undef)) (l.take n) 0) (hT:∀i,i < n→T.getD i (fun _ _=>True) (V.getD i undef) w0)
 (hst:∀i k v w w',i≠k→R w0 w→T.getD i (fun _ _=>True) v w→K k w w'→T.getD i (fun _ _=>True) v w') (hstep:∀k w w',R w0 w→K k w w'→R w0 w')
 (hop:Each (fun i o=>∀(a:Act) (w:World) (ls:Nat→Bool),R w0 w→S ls w→ls i=false→(∀p j,ft l.toArray o p j=true→ls j=true)→(∀p j oj,l.toArray[j]? =some oj→ft l.toArray oj p i=true→ls j=false)→
  (∀t∈reads l.toArray o,known l.toArray (fun _=>true) (fun i=>T.getD i (fun _ _=>True)) ⟨tmps,defers⟩ o a w t)→jg P (fun _ _=>False) o a w fun v w'=>K i w w'∧T.getD i (fun _ _=>True) v w'∧S (upd ls i) w') (l.drop n) n)
 (lB:∀ls mC w,(∀i,ls i=mC i)→S ls w→S mC w)
 (hdone:∀(vals:Nat→Value) (w:World) (ls:Nat→Bool),R w0 w→S ls w→(∀i,i < l.length→ls i=true)→Rg.Left [] T vals w 0 l.length→Q .normal ⟨bh vals l 0 tmps,defers⟩ w)
 (Mv:R w0 w0) (M6:S (fun i=>decide (i < n)) w0):Rest P l.toArray Q n ⟨tmps,defers⟩ w0:=by
 refine O5 (R:=R) (S:=S) (K:=K) lV n (by simpa using hn) (fun _=>true) (fun i=>T.getD i (fun _ _=>True)) ⟨tmps,defers⟩ w0 (fun i=>V.getD i undef) (fun i hi=>hT i hi) ?_ hst hstep ?_ ?_ (fun _=>rfl) ?_ lB ?_ Mv M6
 ·
  intro j o t hj hjo hd _
  have h1:(l.take n)[j]? =some o:=by rw [List.getElem?_take,if_pos hj];simpa using hjo
  have:=hV.get j o h1 t hd
  rwa [Nat.zero_add] at this
 ·
  intro j o t hj hd
  have gQ:o∈l:=List.mem_of_getElem? (by simpa using hj)
  have:=List.all_eq_true.1 hb o gQ
  rw [hd] at this
  simpa using this
 ·
  intro i o ho
  have gQ:o∈l:=List.mem_of_getElem? (by simpa using ho)
  have:=List.all_eq_true.1 hgd o gQ
  simpa using this
 ·
  intro i o kG ho a w ls h1 h2 h3 h4 h5 h6
  have h7:(l.drop n)[i - n]? =some o:=by rw [List.getElem?_drop,show n+(i - n)=i by omega];simpa using ho
  have:=hop.get (i - n) o h7
  rw [show n+(i - n)=i by omega] at this
  exact this a w ls h1 h2 h3 h4 h5 h6
 ·
  intro vals w ls h1 h2 h3 h4
  have:=hdone vals w ls h1 h2 (fun i hi=>h3 i (by simpa using hi)) (vY l.length 0 fun k hk=>by
   have:=h4 k (by simpa using hk)
   exact this)
  simpa using this
end
end Go.Proofs.YtiklkhbfilbpeaaGreatDoor.Rq
namespace Go.Proofs.YtiklkhbfilbpeaaGreatDoor
open Go.RowKit Base Lx
abbrev GL:TypeId:=39
abbrev uy:TypeId:=26
theorem lS {P:Program} {a:Act} {w:World} {post:Value→World→Prop} {dst:Option Tmp} {x:Operand} {s t:TypeId} {ty:TypeId} {pos:String} {after:Array Edge} {guard:Option (Nat × Bool)} (v u:Value)
 (hx:a.eval x=v) (hr:(Instr.typeAssert v s t false).run P w=.ok u w) (hp:post u w):Rg.does P { dst,op:=.typeAssert x s t false,type:=ty,pos,after,guard } a w post:=by
 refine Rg.bA (v:=u) ?_ hp
 simp [execOp,hx,hr,Result.andThen]
theorem mW {P:Program} {a:Act} {w:World} {post:Value→World→Prop} {dst:Option Tmp} {x:Operand} {s:TypeId} {i:Nat} {ty:TypeId} {pos:String} {after:Array Edge} {guard:Option (Nat × Bool)} (v u:Value)
 (hx:a.eval x=v) (hr:(Instr.field s v i).run P w=.ok u w) (hp:post u w):Rg.does P { dst,op:=.field s x i,type:=ty,pos,after,guard } a w post:=by
 refine Rg.bA (v:=u) ?_ hp
 simp [execOp,hx,hr,Result.andThen]
abbrev Bi (e:Int) (g:Nat):Value:=.agg #[.int .i64 e,.int .i64 (g:Int)]
theorem zX (s:TypeId) (e:Int) (g:Nat) (w:World):(Instr.typeAssert (.iface EP (Bi e g)) s EP false).run Tryz.prog w=.ok (Bi e g) w:=by
 simp [Instr.typeAssert,run_underlying Tryz.underlying61,Result.andThen]
theorem Rv (e:Int) (g:Nat) (w:World):(Instr.field EP (Bi e g) 0).run Tryz.prog w=.ok (.int .i64 e) w:=by rfl
theorem PW (e:Int) (g:Nat) (w:World):(Instr.field EP (Bi e g) 1).run Tryz.prog w=.ok (.int .i64 (g:Int)) w:=by rfl
theorem iO {P:Program} {id:Nat} {ops:Array Oper} {Q:Exit→Act→World→Prop} {a:Act} {w:World} (hm:P.follows .mixedOrders=true) (h:Rq.Rest P ops Q 0 a w.drew):(Code.region id ops true).wp P Q a w:=by
 refine wp_region_any hm ?_
 refine h _ _ (by simp) (fun i hi=>absurd hi (Nat.not_lt_zero _)) (fun i _=>getD_replicate_false _ _) ?_
 exact Nat.le_trans (List.length_filter_le _ _) (by simp)
structure br (w w':World) (p q r:Nat) (x y z:Value):Prop where
 hp:w'.heap[p]? =some (.cells #[x] GL)
 hq:w'.heap[q]? =some (.cells #[y] uy)
 hr:w'.heap[r]? =some (.cells #[z] dU)
 os:w'.os=w.os
 tape:w'.tape=w.tape
 output:w'.output=w.output
 size:w'.heap.size=w.heap.size
 block:∀k,k < w.heap.size→k≠p→k≠q→k≠r→w'.heap[k]? =w.heap[k]?
theorem ez {w:World} {p:Nat} {x:Value} {t:TypeId} (h:w.heap[p]? =some (.cells #[x] t)):w.there p 0 1:=fun j hj=>by
 obtain rfl:j=0:=by omega
 exact ⟨by simp [World.cell?,h],by simp [World.frozen?,h]⟩
theorem ie {w:World} {p q:Nat} {x y:Value} {s t:TypeId} (hp:w.heap[p]? =some (.cells #[x] s)) (hq:w.heap[q]? =some (.cells #[y] t)) (h:s≠t):p≠q:=fun e=>by
 subst e
 rw [hp] at hq
 injection hq with hq
 injection hq with _ hT _
 exact h hT
theorem br.setp {w w':World} {p q r:Nat} {x y z:Value} (h:br w w' p q r x y z) (u:Value):br w (w'.setCell ⟨p,0,none⟩ u) p q r u y z:=by
 have hg:w'.grownBy (w'.setCell ⟨p,0,none⟩ u) (some p):=Sl.aq p [u] 0 w'
 have hs:=heap_setCell_same w' p 0 _ _ u h.hp
 have n1:=ie h.hp h.hq (by decide)
 have n2:=ie h.hp h.hr (by decide)
 exact ⟨by simpa using hs,(hg.block q (Array.getElem?_eq_some_iff.1 h.hq).1 (fun e=>n1 (Option.some.inj e).symm)).trans h.hq,(hg.block r (Array.getElem?_eq_some_iff.1 h.hr).1 (fun e=>n2 (Option.some.inj e).symm)).trans h.hr,hg.os.trans h.os,hg.tape.trans h.tape,hg.output.trans h.output,(Sl.dv p [u] 0 w').trans h.size,fun k hk h1 h2 h3=>(hg.block k (by rw [h.size];exact hk) (fun e=>h1 (Option.some.inj e))).trans (h.block k hk h1 h2 h3)⟩
theorem br.setq {w w':World} {p q r:Nat} {x y z:Value} (h:br w w' p q r x y z) (u:Value):br w (w'.setCell ⟨q,0,none⟩ u) p q r x u z:=by
 have hg:w'.grownBy (w'.setCell ⟨q,0,none⟩ u) (some q):=Sl.aq q [u] 0 w'
 have hs:=heap_setCell_same w' q 0 _ _ u h.hq
 have n1:=ie h.hp h.hq (by decide)
 have n2:=ie h.hq h.hr (by decide)
 exact ⟨(hg.block p (Array.getElem?_eq_some_iff.1 h.hp).1 (fun e=>n1 (Option.some.inj e))).trans h.hp,by simpa using hs,(hg.block r (Array.getElem?_eq_some_iff.1 h.hr).1 (fun e=>n2 (Option.some.inj e).symm)).trans h.hr,hg.os.trans h.os,hg.tape.trans h.tape,hg.output.trans h.output,(Sl.dv q [u] 0 w').trans h.size,fun k hk h1 h2 h3=>(hg.block k (by rw [h.size];exact hk) (fun e=>h2 (Option.some.inj e))).trans (h.block k hk h1 h2 h3)⟩
theorem br.setr {w w':World} {p q r:Nat} {x y z:Value} (h:br w w' p q r x y z) (u:Value):br w (w'.setCell ⟨r,0,none⟩ u) p q r x y u:=by
 have hg:w'.grownBy (w'.setCell ⟨r,0,none⟩ u) (some r):=Sl.aq r [u] 0 w'
 have hs:=heap_setCell_same w' r 0 _ _ u h.hr
 have n1:=ie h.hp h.hr (by decide)
 have n2:=ie h.hq h.hr (by decide)
 exact ⟨(hg.block p (Array.getElem?_eq_some_iff.1 h.hp).1 (fun e=>n1 (Option.some.inj e))).trans h.hp,(hg.block q (Array.getElem?_eq_some_iff.1 h.hq).1 (fun e=>n2 (Option.some.inj e))).trans h.hq,by simpa using hs,hg.os.trans h.os,hg.tape.trans h.tape,hg.output.trans h.output,(Sl.dv r [u] 0 w').trans h.size,fun k hk h1 h2 h3=>(hg.block k (by rw [h.size];exact hk) (fun e=>h3 (Option.some.inj e))).trans (h.block k hk h1 h2 h3)⟩
theorem br.below {w w':World} {p q r:Nat} {x y z:Value} {B:Nat} (h:br w w' p q r x y z) (hp:B≤p) (hq:B≤q) (hr:B≤r) (hs:B≤w.heap.size):Below B w w':=
 ⟨h.os,h.tape,h.output,Nat.le_of_eq h.size.symm,fun k hk=>h.block k (by omega) (by omega) (by omega) (by omega)⟩
theorem lM (p q r:Nat) (x y z:Value) (e:Int) (g:Nat) (Ej:List PanicEntry) (w:World) (hp:w.heap[p]? =some (.cells #[x] GL)) (hq:w.heap[q]? =some (.cells #[y] uy)) (hr:w.heap[r]? =some (.cells #[z] dU)):
 CallsD Tryz.prog 19 #[.pointer (some ⟨p,0,none⟩),.pointer (some ⟨q,0,none⟩),.pointer (some ⟨r,0,none⟩)] (.panicking ({ v:=.iface EP (Bi e g),recovered:=false }::Ej)) w fun rr u' w'=>
  rr=.returned (.tuple #[])∧u'=.panicking ({ v:=.iface EP (Bi e g),recovered:=true }::Ej)∧br w w' p q r (.slice none 0 0) (.int .i64 e) (.int .i64 (g:Int)):=by
 refine callsD_of_wpS Tryz.func19 rfl fun c₀ cs hu=>?_
 apply wpS_seq
 apply wpS_region
 simp [wpOpsS,go_sem,recoverD,hu,Tryz.ntmps19,Exit.thenS]
 apply wpS_seq
 apply wpS_region
 simp [wpOpsS,go_sem,Exit.thenS]
 refine wpS_cond (t:=true) (by simp [Act.eval,Array.replicate]) ?_
 simp only [if_true]
 apply wpS_of_wp
 change Code.wp _ _ _ ({ tmps:=#[.pointer (some ⟨p,0,none⟩),.pointer (some ⟨q,0,none⟩),.pointer (some ⟨r,0,none⟩),.iface EP (Bi e g),.iface EP (Bi e g),.iface EP (Bi e g),.bool true,undef,undef,undef,undef,undef,undef],defers:=[] }:Act) w
 apply iO (by kernel_rfl)
 have HC:Hid (br w w.drew p q r x y z):=⟨hp,hq,hr,rfl,rfl,rfl,rfl,fun _ _ _ _ _=>rfl⟩
 refine Rq.pZ 0 [] [Rg.Is (.iface EP (Bi e g)),Rg.Is (Bi e g),Rg.Is (.int .i64 e),Rg.Is (.iface EP (Bi e g)),Rg.Is (Bi e g),Rg.Is (.int .i64 (g:Int)),(fun _ _=>True),(fun _ _=>True),(fun _ _=>True)] (fun _ _=>True) (fun ls x'=>br w x' p q r (if ls 6 then .slice none 0 0 else x) (if ls 7 then .int .i64 e else y) (if ls 8 then .int .i64 (g:Int) else z)) (fun _ _ _=>True) (by kernel_rfl) (of_decide_eq_true (by kernel_rfl)) (by kernel_rfl) (by kernel_rfl) trivial ?_ ?_ (fun _ _ _ _ _=>trivial) ⟨?_,?_,?_,?_,?_,?_,?_,?_,?_,trivial⟩ ?_ ?_ trivial ?_
 ·
  intro i hi
  match i,hi with
  | j+0,hi=>exact absurd hi (by omega)
 ·
  intro i k u x y _ _ h1 _
  match i,h1 with
  | 0,h1=>exact h1
  | 1,h1=>exact h1
  | 2,h1=>exact h1
  | 3,h1=>exact h1
  | 4,h1=>exact h1
  | 5,h1=>exact h1
  | 6,h1=>exact h1
  | 7,h1=>exact h1
  | 8,h1=>exact h1
  | _+9,_=>trivial
 ·
  intro b9 x ls _ hS ai bI bf hk
  have h3:b9.eval (.tmp 3)=.iface EP (Bi e g):=Eq.mp (by kernel_rfl) (hk 3 (by decide))
  exact Rp.ag (Rg.az ⟨trivial,h3,hS⟩)
 ·
  intro b9 x ls _ hS ai bI bf hk
  have h7:b9.eval (.tmp 7)=.iface EP (Bi e g):=Eq.mp (by kernel_rfl) (hk 7 (by decide))
  exact Rp.ag (lS _ _ h7 (zX _ e g _) ⟨trivial,rfl,hS⟩)
 ·
  intro b9 x ls _ hS ai bI bf hk
  have h8:b9.eval (.tmp 8)=Bi e g:=Eq.mp (by kernel_rfl) (hk 8 (by decide))
  exact Rp.ag (mW _ _ h8 (Rv e g _) ⟨trivial,rfl,hS⟩)
 ·
  intro b9 x ls _ hS ai bI bf hk
  have h3:b9.eval (.tmp 3)=.iface EP (Bi e g):=Eq.mp (by kernel_rfl) (hk 3 (by decide))
  exact Rp.ag (Rg.az ⟨trivial,h3,hS⟩)
 ·
  intro b9 x ls _ hS ai bI bf hk
  have h10:b9.eval (.tmp 10)=.iface EP (Bi e g):=Eq.mp (by kernel_rfl) (hk 10 (by decide))
  exact Rp.ag (lS _ _ h10 (zX _ e g _) ⟨trivial,rfl,hS⟩)
 ·
  intro b9 x ls _ hS ai bI bf hk
  have h11:b9.eval (.tmp 11)=Bi e g:=Eq.mp (by kernel_rfl) (hk 11 (by decide))
  exact Rp.ag (mW _ _ h11 (PW e g _) ⟨trivial,rfl,hS⟩)
 ·
  intro b9 x ls _ hS ai bI bf hk
  have h0:b9.eval (.tmp 0)=.pointer (some ⟨p,0,none⟩):=Eq.mp (by kernel_rfl) (hk 0 (by decide))
  exact Rq.cN p 0 _ h0 rfl rfl rfl (ez hS.hp) (by kernel_rfl) ⟨trivial,trivial,hS.setp _⟩
 ·
  intro b9 x ls _ hS ai bI bf hk
  have h1:b9.eval (.tmp 1)=.pointer (some ⟨q,0,none⟩):=Eq.mp (by kernel_rfl) (hk 1 (by decide))
  have h9:b9.eval (.tmp 9)=.int .i64 e:=Eq.mp (by kernel_rfl) (hk 9 (by decide))
  exact Rq.cN q 0 _ h1 h9 rfl rfl (ez hS.hq) (by kernel_rfl) ⟨trivial,trivial,hS.setq _⟩
 ·
  intro b9 x ls _ hS ai bI bf hk
  have h2:b9.eval (.tmp 2)=.pointer (some ⟨r,0,none⟩):=Eq.mp (by kernel_rfl) (hk 2 (by decide))
  have zL:b9.eval (.tmp 12)=.int .i64 (g:Int):=Eq.mp (by kernel_rfl) (hk 12 (by decide))
  exact Rq.cN r 0 _ h2 zL rfl rfl (ez hS.hr) (by kernel_rfl) ⟨trivial,trivial,hS.setr _⟩
 · exact fun ls mC x' h hS=>by rw [←h 6,←h 7,←h 8];exact hS
 ·
  intro vals wE ls _ hS hall hL
  rw [hall 6 (by decide),hall 7 (by decide),hall 8 (by decide)] at hS
  have hS2:br w wE p q r (.slice none 0 0) (.int .i64 e) (.int .i64 (g:Int)):=hS
  simp [bodyPostS,results,Tryz.results19]
  exact hS2
 · exact HC.out
theorem qR (p q r:Nat) (w:World):
 CallsD Tryz.prog 19 #[.pointer (some ⟨p,0,none⟩),.pointer (some ⟨q,0,none⟩),.pointer (some ⟨r,0,none⟩)] .returning w fun rr u' w'=>rr=.returned (.tuple #[])∧u'=.returning∧w'=w:=by
 refine callsD_of_wpS Tryz.func19 rfl fun c₀ cs hu=>?_
 apply wpS_seq
 apply wpS_region
 simp [wpOpsS,go_sem,recoverD,hu,Tryz.ntmps19,Exit.thenS]
 apply wpS_seq
 apply wpS_region
 simp [wpOpsS,go_sem,Exit.thenS]
 refine wpS_cond (t:=false) (by simp [Act.eval,Array.replicate]) ?_
 simp only [Bool.false_eq_true,if_false]
 refine wpS_of_wp (wp_skip ?_)
 cases c₀
 simp_all [bodyPostS,results,Tryz.results19]
end Go.Proofs.YtiklkhbfilbpeaaGreatDoor
