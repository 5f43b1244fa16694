import Derived.Test.YtiklkhbfilbpeaaGreatDoorTbStrWords
set_option maxRecDepth 100000
set_option maxHeartbeats 16000000
set_option linter.unusedVariables false
set_option linter.unusedSimpArgs false
namespace Go.Proofs.YtiklkhbfilbpeaaGreatDoor.Rt
open Go.RowKit Rg Rs
section
variable {P:Program} {ops:Array Oper} {Q:Exit→Act→World→Prop} {R:World→World→Prop} {S:(Nat→Bool)→World→Prop} {K:Nat→World→World→Prop}
def dW (ops:Array Oper) (n:Nat):Bool:=
 (List.range ops.size).all fun t=>decide (t < n) || match ops[t]? with | none=>true | some o=>((List.range n).all fun i=>waits o i) && (t==n || waits o (t - 1))
theorem Di {ops:Array Oper} {n:Nat} (h:dW ops n=true) {t:Nat} {o:Oper} (ho:ops[t]? =some o) (ht:n≤t):(∀i,i < n→waits o i=true)∧(n < t→waits o (t - 1)=true):=by
 have Yi:t < ops.size:=(Array.getElem?_eq_some_iff.1 ho).1
 have h1:=List.all_eq_true.1 h t (List.mem_range.2 Yi)
 simp only [Bool.or_eq_true,decide_eq_true_eq,ho,Bool.and_eq_true,beq_iff_eq] at h1
 rcases h1 with h1 | h1
 · omega
 ·
  exact ⟨fun i hi=>List.all_eq_true.1 h1.1 i (List.mem_range.2 hi),fun h2=>by rcases h1.2 with h3 | h3;· omega
                                                                              · exact h3⟩
theorem nI (lV:ik ops=true) {n:Nat} (ht:dW ops n=true):∀(d k fuel:Nat) (listed:Array Bool) (a:Act) (w:World),ops.size - k=d→n≤k→k≤ops.size→d≤fuel→listed.size=ops.size→
 (∀i,i < k→listed.getD i false=true)→(∀i,k≤i→listed.getD i false=false)→wpOps P ops Q (List.range' k (ops.size - k)) a w→wpAny P .any ops Q fuel listed a w:=by
 intro d
 induction d with
 | zero=>
   intro k fuel listed a w hd wT hk hf Sg h1 h2 h3
   have hke:k=ops.size:=by omega
   have hr:Region.ready .any ops listed=[]:=by
    rw [List.eq_nil_iff_forall_not_mem]
    intro i hi
    obtain ⟨EU,o,ho,_⟩:=mem_ready.1 hi
    have yA:i < ops.size:=(Array.getElem?_eq_some_iff.1 ho).1
    have:=h1 i (by omega)
    rw [getD_both EU] at this
    cases this
   have ZG:Q .normal a w:=by
    rw [hke,Nat.sub_self] at h3
    exact h3
   cases fuel with
   | zero=>exact ⟨hr,ZG⟩
   | succ f=>exact ⟨fun _=>ZG,fun i hi=>by rw [hr] at hi;cases hi⟩
 | succ d ih=>
   intro k fuel listed a w hd wT hk hf Sg h1 h2 h3
   obtain ⟨f,rfl⟩:∃f,fuel=f+1:=⟨fuel - 1,by omega⟩
   have eo:k < ops.size:=by omega
   have ho:ops[k]? =some ops[k]:=Array.getElem?_eq_getElem eo
   have gQ:k∈Region.ready .any ops listed:=mem_ready.2 ⟨getD_in (by omega) (h2 k (Nat.le_refl _)),ops[k],ho,fun e he hb=>h1 e.on ((eX lV ho).1 e he hb)⟩
   refine ⟨fun hr=>(by rw [hr] at gQ;cases gQ),fun i hi=>?_⟩
   obtain ⟨EU,oi,hoi,hall⟩:=mem_ready.1 hi
   have yA:i < ops.size:=(Array.getElem?_eq_some_iff.1 hoi).1
   have hik:i=k:=by
    rcases Nat.lt_trichotomy i k with h | h | h
    ·
     have:=h1 i h
     rw [getD_both EU] at this
     cases this
    · exact h
    ·
     obtain ⟨e,he,hb,vB⟩:=dm ((Di ht hoi (by omega)).2 (by omega))
     have:=hall e he hb
     rw [vB,h2 (i - 1) (by omega)] at this
     cases this
   subst hik
   have e:List.range' i (ops.size - i)=i::List.range' (i+1) (ops.size - (i+1)):=by
    rw [show ops.size - i=(ops.size - (i+1))+1 by omega,List.range'_succ]
   rw [e,wpOps_cons] at h3
   refine wpOp_mono (fun a' w' h'=>ih (i+1) f _ a' w' (by omega) (by omega) (by omega) (by omega) (by simp [Sg]) ?_ ?_ h') h3
   ·
    intro j hj
    by_cases nR:j=i
    · subst nR;simp [Sg,yA]
    · rw [getD_set_ne false (fun e=>nR e.symm)];exact h1 j (by omega)
   ·
    intro j hj
    rw [getD_set_ne false (by omega)]
    exact h2 j (by omega)
theorem tQ (lV:ik ops=true) (n:Nat) (hn:n≤ops.size) (ht:dW ops n=true) (runs:Nat→Bool) (G:Nat→Value→World→Prop) (a0:Act) (w0:World)
 (hst:∀i k v w w',i≠k→R w0 w→G i v w→K k w w'→G i v w') (hstep:∀k w w',R w0 w→K k w w'→R w0 w')
 (hbound:∀(j:Nat) (o:Oper) (t:Tmp),ops[j]? =some o→o.dst=some t→t < a0.tmps.size)
 (dK:∀(i:Nat) (o:Oper) (g:Nat) (want:Bool),i < n→ops[i]? =some o→o.guard=some (g,want)→if runs i then (runs g=true∧∀v w,G g v w→v=.bool want) else (runs g=false∨∀v w,G g v w→v=.bool (!want)))
 (oZ:∀(i:Nat) (o:Oper),i < n→ops[i]? =some o→o.guard=none→runs i=true)
 (hop:∀(i:Nat) (o:Oper),i < n→ops[i]? =some o→runs i=true→∀(a:Act) (w:World) (ls:Nat→Bool),R w0 w→S ls w→ls i=false→(∀p j,ft ops o p j=true→ls j=true)→(∀p j oj,ops[j]? =some oj→ft ops oj p i=true→ls j=false)→
  (∀t∈reads ops o,known ops runs G a0 o a w t)→does P o a w fun v w'=>K i w w'∧G i v w'∧S (upd ls i) w')
 (o5:∀i ls w,i < n→runs i=false→S ls w→S (upd ls i) w) (lB:∀ls mC w,(∀i,ls i=mC i)→S ls w→S mC w)
 (hdone:∀(vals:Nat→Value) (w:World) (ls:Nat→Bool),R w0 w→S ls w→(∀i,i < n→ls i=true)→(∀i,i < n→Gx runs G i (vals i) w)→wpOps P ops Q (List.range' n (ops.size - n)) ⟨bh vals (ops.toList.take n) 0 a0.tmps,a0.defers⟩ w):
 ∀(fuel:Nat) (listed:Array Bool) (a:Act) (w:World) (vals:Nat→Value),Inv R S n ops runs G a0 w0 listed a w vals→((List.range ops.size).filter fun i=>!listed.getD i true).length≤fuel→
  wpAny P .any ops Q fuel listed a w:=by
 have gu:∀(fuel:Nat) (listed:Array Bool) (a:Act) (w:World) (vals:Nat→Value),Inv R S n ops runs G a0 w0 listed a w vals→((List.range ops.size).filter fun i=>!listed.getD i true).length≤fuel→
  (∀i,i < n→listed.getD i false=true)→wpAny P .any ops Q fuel listed a w:=by
  intro fuel listed a w vals inv hf hall
  have hd:=hdone vals w _ inv.ext inv.st hall fun i hi=>inv.g i (hall i hi)
  have ha:a=⟨bh vals (ops.toList.take n) 0 a0.tmps,a0.defers⟩:=by
   cases a with
   | mk tmps defers=>
     have e1:defers=a0.defers:=inv.defers
     have e2:tmps=bh vals (ops.toList.take n) 0 a0.tmps:=by
      apply Array.ext_getElem?
      intro t
      rcases Nat.lt_or_ge t a0.tmps.size with yM | yM
      ·
       by_cases hw:∃(j:Nat) (o:Oper),j < n∧ops[j]? =some o∧o.dst=some t
       ·
        obtain ⟨j,o,IP,hj,hd⟩:=hw
        rw [inv.new j o t hj hd (hall j IP) yM]
        rw [(jq vals t (ops.toList.take n) 0 a0.tmps).2 j o (by rw [List.getElem?_take,if_pos IP];simpa using hj) hd (fun k' o' uO RD=>by
         rw [List.getElem?_take] at uO
         split at uO
         · exact (eX lV hj).2.2.2.1 t hd k' o' (by simpa using uO) RD
         · cases uO) yM]
        simp
       ·
        have hno:∀(j:Nat) (o:Oper),j < n→ops[j]? =some o→o.dst≠some t:=fun j o IP hj hd=>hw ⟨j,o,IP,hj,hd⟩
        rw [inv.old t fun j o hj hd=>by
         rcases Nat.lt_or_ge j n with h | h
         · exact absurd hd (hno j o h hj)
         · exact inv.tail j h]
        rw [(jq vals t (ops.toList.take n) 0 a0.tmps).1 fun k o hk=>by
         rw [List.getElem?_take] at hk
         split at hk
         · rename_i yY;exact hno k o yY (by simpa using hk)
         · cases hk]
      ·
       have h1:tmps.size=a0.tmps.size:=inv.size
       rw [Array.getElem?_eq_none (by omega),Array.getElem?_eq_none (by rw [oB];exact yM)]
     rw [e1,e2]
  rw [ha]
  refine nI lV ht (ops.size - n) n fuel listed _ w rfl (Nat.le_refl _) hn ?_ inv.iJ hall inv.tail hd
  refine Nat.le_trans ?_ hf
  have uf:(List.range' n (ops.size - n)).Sublist ((List.range ops.size).filter fun i=>!listed.getD i true):=by
   have e:List.range ops.size=List.range n++List.range' n (ops.size - n):=by
    rw [List.range_eq_range',List.range_eq_range']
    have:=List.range'_append_1 (s:=0) (m:=n) (n:=ops.size - n)
    rw [Nat.zero_add] at this
    rw [this]
    congr 1
    omega
   rw [e,List.filter_append]
   have e2:((List.range' n (ops.size - n)).filter fun i=>!listed.getD i true)=List.range' n (ops.size - n):=by
    rw [List.filter_eq_self]
    intro i hi
    have hi':=List.mem_range'_1.1 hi
    have:=getD_in (listed:=listed) (i:=i) (by rw [inv.iJ];omega) (inv.tail i hi'.1)
    rw [this];rfl
   rw [e2]
   exact List.sublist_append_right _ _
  simpa using uf.length_le
 have pw:∀(listed:Array Bool) (a:Act) (w:World) (vals:Nat→Value),Inv R S n ops runs G a0 w0 listed a w vals→¬(∀i,i < n→listed.getD i false=true)→∃i,i < n∧listed.getD i false=false∧i∈Region.ready .any ops listed:=by
  intro listed a w vals inv hno
  have:∃i,i < n∧listed.getD i false=false:=by
   refine Classical.byContradiction fun hc=>hno fun i hi=>?_
   rcases hl:listed.getD i false with _ | _
   · exact absurd ⟨i,hi,hl⟩ hc
   · rfl
  obtain ⟨i,hi,hl⟩:=this
  induction i using Nat.strongRecOn with
  | _ i ih=>
    have yA:i < ops.size:=by omega
    have ho:ops[i]? =some ops[i]:=Array.getElem?_eq_getElem yA
    by_cases hall:∀e∈ops[i].after,Region.binds .any e=true→listed.getD e.on false=true
    · exact ⟨i,hi,hl,mem_ready.2 ⟨getD_in (by rw [inv.iJ];exact yA) hl,ops[i],ho,hall⟩⟩
    ·
     have:∃e∈ops[i].after,Region.binds .any e=true∧listed.getD e.on false=false:=by
      refine Classical.byContradiction fun hc=>hall fun e he hb=>?_
      rcases hle:listed.getD e.on false with _ | _
      · exact absurd ⟨e,he,hb,hle⟩ hc
      · rfl
     obtain ⟨e,he,df,hle⟩:=this
     have hlt:=(eX lV ho).1 e he df
     exact ih e.on hlt (by omega) hle
 intro fuel
 induction fuel with
 | zero=>
   intro listed a w vals inv hf
   refine gu 0 listed a w vals inv hf fun i hi=>?_
   rcases hl:listed.getD i false with _ | _
   ·
    have:i∈(List.range ops.size).filter fun i=>!listed.getD i true:=List.mem_filter.2 ⟨List.mem_range.2 (by omega),by rw [getD_in (by rw [inv.iJ];omega) hl];rfl⟩
    have h0:((List.range ops.size).filter fun i=>!listed.getD i true)=[]:=List.eq_nil_of_length_eq_zero (by omega)
    rw [h0] at this
    cases this
   · rfl
 | succ fuel ih=>
   intro listed a w vals inv hf
   by_cases bf:∀i,i < n→listed.getD i false=true
   · exact gu (fuel+1) listed a w vals inv hf bf
   obtain ⟨i0,WS,Mz,CX⟩:=pw listed a w vals inv bf
   refine ⟨fun hr=>(by rw [hr] at CX;cases CX),fun i hi=>?_⟩
   obtain ⟨EU,o,ho,hall⟩:=mem_ready.1 hi
   have kG:i < n:=by
    rcases Nat.lt_or_ge i n with h | h
    · exact h
    ·
     obtain ⟨e,he,hb,vB⟩:=dm ((Di ht ho h).1 i0 WS)
     have:=hall e he hb
     rw [vB,Mz] at this
     cases this
   have yA:i < ops.size:=(Array.getElem?_eq_some_iff.1 ho).1
   have Ep:i < listed.size:=by rw [inv.iJ];exact yA
   have BR:listed.getD i false=false:=getD_both EU
   obtain ⟨hback,Yl,hg,D2,Ew⟩:=eX lV ho
   have xK:((List.range ops.size).filter fun k=>!(listed.setIfInBounds i true).getD k true).length≤fuel:=by
    have uf:((List.range ops.size).filter fun k=>!(listed.setIfInBounds i true).getD k true)=((List.range ops.size).filter fun k=>!listed.getD k true).filter fun k=>decide (k≠i):=by
     rw [List.filter_filter]
     apply List.filter_congr
     intro k hk
     by_cases qx:k=i
     · subst qx;simp [Ep]
     · rw [getD_set_ne true (fun e=>qx e.symm)];simp [qx]
    have gQ:i∈(List.range ops.size).filter fun k=>!listed.getD k true:=List.mem_filter.2 ⟨List.mem_range.2 yA,by rw [EU];rfl⟩
    have hlt:(((List.range ops.size).filter fun k=>!listed.getD k true).filter fun k=>decide (k≠i)).length < ((List.range ops.size).filter fun k=>!listed.getD k true).length:=
     List.length_filter_lt_length_iff_exists.2 ⟨i,gQ,by simp⟩
    rw [uf]
    omega
   have qZ:(listed.setIfInBounds i true).getD i false=true:=by simp [Ep]
   have next:∀(v:Value) (w':World),R w0 w'→(∀k,k≠i→∀u,G k u w→G k u w')→S (upd (fun k=>listed.getD k false) i) w'→Gx runs G i v w'→wpAny P .any ops Q fuel (listed.setIfInBounds i true) (a.put o.dst v) w':=by
    intro v w' hb NM hS hG
    refine ih _ _ _ (fun k=>if k=i then v else vals k) ?_ xK
    refine ⟨hb,lB _ _ _ (fun k=>?_) hS,?_,?_,by simp [inv.iJ],?_,?_,?_,?_,fun t Lm=>by rw [getD_set_ne false (by omega)];exact inv.tail t Lm⟩
    ·
     unfold upd
     by_cases qx:k=i
     · subst qx;simp [qZ]
     · rw [if_neg qx,getD_set_ne false (fun e=>qx e.symm)]
    · cases hd:o.dst<;>simpa [Act.put,hd] using inv.defers
    · cases hd:o.dst<;>simpa [Act.put,hd] using inv.size
    ·
     intro k hk
     by_cases qx:k=i
     · subst qx;simpa using hG
     ·
      rw [getD_set_ne false (fun e=>qx e.symm)] at hk
      have:=inv.g k hk
      simp only [qx,if_false]
      unfold Gx at this ⊢
      split
      · rename_i hr;rw [if_pos hr] at this;exact NM k qx _ this
      · rename_i hr;rw [if_neg hr] at this;exact this
    ·
     intro t ht
     have hne:o.dst≠some t:=fun hd=>by
      have:=ht i o ho hd
      rw [qZ] at this
      cases this
     have h1:=inv.old t fun j oj hj uh=>by
      have:=ht j oj hj uh
      by_cases nR:j=i
      · subst nR;rw [qZ] at this;cases this
      · rwa [getD_set_ne false (fun e=>nR e.symm)] at this
     cases hd:o.dst with
     | none=>simpa [Act.put,hd] using h1
     | some d=>
       have:d≠t:=fun e=>hne (by rw [hd,e])
       simp only [Act.put]
       rw [Array.getElem?_setIfInBounds_ne this]
       exact h1
    ·
     intro j oj t hj uh hl ht
     by_cases nR:j=i
     ·
      subst nR
      have:oj=o:=Option.some.inj (hj.symm.trans ho)
      subst this
      simp [Act.put,uh,inv.size,ht]
     ·
      rw [getD_set_ne false (fun e=>nR e.symm)] at hl
      have h1:=inv.new j oj t hj uh hl ht
      simp only [nR,if_false]
      cases hd:o.dst with
      | none=>simpa [Act.put,hd] using h1
      | some d=>
        have:d≠t:=fun e=>nR (D2 d hd j oj hj (by rw [uh,e]))
        simp only [Act.put]
        rw [Array.getElem?_setIfInBounds_ne this]
        exact h1
    ·
     intro j oj hj hl e he hb'
     by_cases nR:j=i
     ·
      subst nR
      have:oj=o:=Option.some.inj (hj.symm.trans ho)
      subst this
      exact getD_set_true (hall e he hb')
     ·
      rw [getD_set_ne false (fun e=>nR e.symm)] at hl
      exact getD_set_true (inv.closed j oj hj hl e he hb')
   have DD:Region.wanted o (yielded ops a.tmps)=runs i:=by
    unfold Region.wanted
    cases hgd:o.guard with
    | none=>simp [oZ i o kG ho hgd]
    | some gw=>
      obtain ⟨g,want⟩:=gw
      have h1:=dK i o g want kG ho hgd
      obtain ⟨hw,Pl⟩:=hg g want hgd
      obtain ⟨e,he,hb,vB⟩:=dm hw
      have Tw:listed.getD g false=true:=by rw [←vB];exact hall e he hb
      obtain ⟨d,hd⟩:=Option.isSome_iff_exists.1 Pl
      obtain ⟨og,TI,CS⟩:=Option.bind_eq_some_iff.1 hd
      have ly:=inv.new g og d TI CS Tw (hbound g og d TI CS)
      have pg:=inv.g g Tw
      have hy:yielded ops a.tmps g=(match vals g with | .bool b=>some b | _=>none):=by
       unfold yielded
       simp [hd,ly]
       cases vals g<;>rfl
      simp only []
      rw [hy]
      unfold Gx at pg
      cases yJ:runs i with
      | true=>
        rw [yJ,if_pos rfl] at h1
        rw [h1.1,if_pos rfl] at pg
        rw [h1.2 _ _ pg]
        simp
      | false=>
        rw [yJ] at h1
        simp at h1
        rcases h1 with h1 | h1
        ·
         rw [h1] at pg
         simp at pg
         rw [pg]
         rfl
        ·
         cases hrg:runs g with
         | false=>rw [hrg] at pg;simp at pg;rw [pg];rfl
         | true=>
           rw [hrg,if_pos rfl] at pg
           rw [h1 _ _ pg]
           simp
   unfold wpOp
   rw [ho]
   simp only []
   rw [DD]
   cases yJ:runs i with
   | false=>
     simp only [Bool.false_eq_true,if_false]
     exact next undef w inv.ext (fun _ _ _ h=>h) (o5 i _ w kG yJ inv.st) (by unfold Gx;rw [yJ];simp)
   | true=>
     simp only [if_true]
     left
     refine qT (post:=fun v w'=>K i w w'∧G i v w'∧S (upd (fun k=>listed.getD k false) i) w') ?_ fun v w' hp=>next v w' (hstep i w w' inv.ext hp.1) (fun k hk u h=>hst k i u w w' hk inv.ext h hp.1) hp.2.2 (by unfold Gx;rw [yJ,if_pos rfl];exact hp.2.1)
     refine hop i o kG ho yJ a w _ inv.ext inv.st BR (fun p j hp=>lR inv p o j hall hp) (fun p j oj hj hp=>?_) fun t ht=>?_
     ·
      rcases yK:listed.getD j false with _ | _
      · rfl
      ·
       have:=lR inv p oj i (inv.closed j oj hj yK) hp
       rw [BR] at this
       cases this
     unfold known
     cases hs:source ops o t with
     | some j=>
       simp only []
       unfold source at hs
       obtain ⟨e,Tt,Zh⟩:=Option.map_eq_some_iff.1 hs
       have hp:=List.find?_some Tt
       have Vz:=List.mem_of_find?_eq_some Tt
       simp only [Bool.and_eq_true,beq_iff_eq] at hp
       subst Zh
       have yK:=hall e (by simpa using Vz) hp.1
       obtain ⟨oj,TY,Cr⟩:=Option.bind_eq_some_iff.1 hp.2
       rw [iP,inv.new e.on oj t TY Cr yK (hbound _ _ _ TY Cr)]
       exact inv.g e.on yK
     | none=>
       simp only []
       rcases Ew t ht with h1 | h1
       · rw [hs] at h1;cases h1
       ·
        rw [iP,iP,inv.old t fun j oj hj uh=>?_]
        obtain ⟨e,he,hb,vB⟩:=dm (h1 j oj hj uh)
        rcases yK:listed.getD j false with _ | _
        · rfl
        ·
         have:=inv.closed j oj hj yK e he hb
         rw [vB,BR] at this
         cases this
theorem iG {id:Nat} (hm:P.follows .mixedOrders=true) (lV:ik ops=true) (n:Nat) (hn:n≤ops.size) (ht:dW ops n=true) (runs:Nat→Bool) (G:Nat→Value→World→Prop) (a0:Act) (w0:World)
 (hst:∀i k v w w',i≠k→R w0 w→G i v w→K k w w'→G i v w') (hstep:∀k w w',R w0 w→K k w w'→R w0 w')
 (hbound:∀(j:Nat) (o:Oper) (t:Tmp),ops[j]? =some o→o.dst=some t→t < a0.tmps.size)
 (dK:∀(i:Nat) (o:Oper) (g:Nat) (want:Bool),i < n→ops[i]? =some o→o.guard=some (g,want)→if runs i then (runs g=true∧∀v w,G g v w→v=.bool want) else (runs g=false∨∀v w,G g v w→v=.bool (!want)))
 (oZ:∀(i:Nat) (o:Oper),i < n→ops[i]? =some o→o.guard=none→runs i=true)
 (hop:∀(i:Nat) (o:Oper),i < n→ops[i]? =some o→runs i=true→∀(a:Act) (w:World) (ls:Nat→Bool),R w0 w→S ls w→ls i=false→(∀p j,ft ops o p j=true→ls j=true)→(∀p j oj,ops[j]? =some oj→ft ops oj p i=true→ls j=false)→
  (∀t∈reads ops o,known ops runs G a0 o a w t)→does P o a w fun v w'=>K i w w'∧G i v w'∧S (upd ls i) w')
 (o5:∀i ls w,i < n→runs i=false→S ls w→S (upd ls i) w) (lB:∀ls mC w,(∀i,ls i=mC i)→S ls w→S mC w)
 (hdone:∀(vals:Nat→Value) (w:World) (ls:Nat→Bool),R w0 w→S ls w→(∀i,i < n→ls i=true)→(∀i,i < n→Gx runs G i (vals i) w)→wpOps P ops Q (List.range' n (ops.size - n)) ⟨bh vals (ops.toList.take n) 0 a0.tmps,a0.defers⟩ w)
 (Mv:R w0 w0.drew) (M6:S (fun _=>false) w0.drew):(Code.region id ops true).wp P Q a0 w0:=by
 refine wp_region_any hm ?_
 refine tQ lV n hn ht runs G a0 w0 hst hstep hbound dK oZ hop o5 lB hdone ops.size _ a0 _ (fun _=>undef) ⟨Mv,?_,rfl,rfl,by simp,?_,fun t _=>rfl,?_,?_,fun t _=>getD_replicate_false _ _⟩ ?_
 · exact lB _ _ w0.drew (fun i=>(getD_replicate_false _ _).symm) M6
 · intro i h;rw [getD_replicate_false] at h;cases h
 · intro j o t _ _ h;rw [getD_replicate_false] at h;cases h
 · intro j o _ h;rw [getD_replicate_false] at h;cases h
 · exact Nat.le_trans (List.length_filter_le _ _) (by simp)
theorem qF {id:Nat} {l:List Oper} {tmps:Array Value} {defers:List Deferred} {w0:World} (n:Nat) (RL:List Bool) (T:List (Value→World→Prop)) (R:World→World→Prop) (S:(Nat→Bool)→World→Prop) (K:Nat→World→World→Prop)
 (hm:P.follows .mixedOrders=true) (lV:ik l.toArray=true) (hn:n≤l.length) (ht:dW l.toArray n=true) (hb:xC l tmps.size=true)
 (Mv:R w0 w0.drew) (M6:S (fun _=>false) w0.drew) (lB:∀ls mC w,(∀i,ls i=mC i)→S ls w→S mC w) (hstep:∀k w w',R w0 w→K k w w'→R w0 w')
 (o5:∀i ls w,i < n→RL.getD i true=false→S ls w→S (upd ls i) w)
 (hst:∀i k v w w',i≠k→R w0 w→T.getD i (fun _ _=>True) v w→K k w w'→T.getD i (fun _ _=>True) v w')
 (dK:Each (jB RL T) (l.take n) 0)
 (hop:Each (fun i o=>RL.getD i true=true→∀(a:Act) (w:World) (ls:Nat→Bool),R w0 w→S ls w→ls i=false→(∀p j,ft l.toArray o p j=true→ls j=true)→(∀p j oj,l.toArray[j]? =some oj→ft l.toArray oj p i=true→ls j=false)→
  (∀t∈reads l.toArray o,known l.toArray (fun i=>RL.getD i true) (fun i=>T.getD i (fun _ _=>True)) ⟨tmps,defers⟩ o a w t)→does P o a w fun v w'=>K i w w'∧T.getD i (fun _ _=>True) v w'∧S (upd ls i) w') (l.take n) 0)
 (hdone:∀(vals:Nat→Value) (w:World) (ls:Nat→Bool),R w0 w→S ls w→(∀i,i < n→ls i=true)→Rg.Left RL T vals w 0 n→wpList P l.toArray Q (l.drop n) ⟨bh vals (l.take n) 0 tmps,defers⟩ w):
 (Code.region id l.toArray true).wp P Q ⟨tmps,defers⟩ w0:=by
 have mv:∀(i:Nat) (o:Oper),i < n→l.toArray[i]? =some o→(l.take n)[i]? =some o:=fun i o hi ho=>by
  rw [List.getElem?_take,if_pos hi];simpa using ho
 refine iG (R:=R) (S:=S) (K:=K) hm lV n (by simpa using hn) ht (fun i=>RL.getD i true) (fun i=>T.getD i (fun _ _=>True)) ⟨tmps,defers⟩ w0 hst hstep ?_ ?_ ?_ ?_ o5 lB ?_ Mv M6
 ·
  intro j o t hj hd
  have gQ:o∈l:=List.mem_of_getElem? (by simpa using hj)
  have:=List.all_eq_true.1 hb o gQ
  rw [hd] at this
  simpa using this
 ·
  intro i o g want kG ho hg
  have:=dK.get i o (mv i o kG ho)
  unfold jB at this
  rw [hg] at this
  simpa using this
 ·
  intro i o kG ho hg
  have:=dK.get i o (mv i o kG ho)
  unfold jB at this
  rw [hg] at this
  simpa using this
 ·
  intro i o kG ho hr a w ls h1 h2 h3 h4 h5 h6
  have:=hop.get i o (mv i o kG ho)
  rw [Nat.zero_add] at this
  exact this hr a w ls h1 h2 h3 h4 h5 h6
 ·
  intro vals w ls h1 h2 h3 h4
  have:=hdone vals w ls h1 h2 h3 (vY n 0 fun k hk=>by
   have:=h4 k (by simpa using hk)
   exact this)
  have e:List.range' n (l.toArray.size - n)=List.range' n (l.drop n).length:=by simp
  rw [e,wpOps_eq_wpList (l.drop n) n (fun j=>by simp [List.getElem?_drop])]
  simpa using this
end
end Go.Proofs.YtiklkhbfilbpeaaGreatDoor.Rt
