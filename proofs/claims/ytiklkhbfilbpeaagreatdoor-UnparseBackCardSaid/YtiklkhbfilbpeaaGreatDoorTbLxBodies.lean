import Derived.Test.YtiklkhbfilbpeaaGreatDoorTbLxWord
import Derived.Test.YtiklkhbfilbpeaaGreatDoorTbLxBare
set_option maxRecDepth 100000
set_option maxHeartbeats 16000000
set_option linter.unusedVariables false
set_option linter.unusedSimpArgs false
namespace Go.Proofs.YtiklkhbfilbpeaaGreatDoor
open Go.RowKit Base Lx
theorem lZ (l:List Tok) (i:Nat) (x y:Nm):(l.modify i (dC x)).modify i (dC y)=l.modify i (dC (x++y)):=by
 apply List.ext_getElem?
 intro j
 simp only [List.getElem?_modify]
 by_cases h:i=j
 ·
  subst h
  cases l[i]? with
  | none=>rfl
  | some t=>simp [dC]
 · simp [h]
theorem Cv (l:List Tok) (i:Nat):l.modify i (dC [])=l:=by
 apply List.ext_getElem?
 intro j
 simp only [List.getElem?_modify]
 by_cases h:i=j
 ·
  subst h
  cases l[i]? with
  | none=>rfl
  | some t=>simp [dC]
 · simp [h]
def Bd (l:List Tok) (n:Nat):Prop:=∀t∈l,t.b.length+n≤100001∧t.t.length≤100000
theorem Bd.modify {l:List Tok} {n m:Nat} {i:Nat} {x:Nm} (h:Bd l n) (hm:x.length+m≤n):Bd (l.modify i (dC x)) m:=by
 intro t ht
 obtain ⟨j,hj⟩:=List.mem_iff_getElem?.1 ht
 rw [List.getElem?_modify] at hj
 cases yK:l[j]? with
 | none=>rw [yK] at hj;cases hj
 | some u=>
   have hu:=h u (List.mem_of_getElem? yK)
   rw [yK] at hj
   by_cases h2:i=j
   ·
    simp only [Option.map_eq_map,Option.map_some,if_pos h2,Option.some.injEq] at hj
    subst hj
    simp only [dC,List.length_append]
    omega
   ·
    simp only [Option.map_eq_map,Option.map_some,if_neg h2,Option.some.injEq] at hj
    subst hj
    omega
theorem OQ (l:List Tok) (i:Nat) (hi:i < l.length) (x:Nm):(l.flatMap rT).set (i * 4+2) (.string (str (l[i].b++x)))=(l.modify i (dC x)).flatMap rT:=by
 induction l generalizing i with
 | nil=>simp at hi
 | cons t r ih=>
   cases i with
   | zero=>rfl
   | succ i=>
     rw [List.modify_succ_cons,List.flatMap_cons,List.flatMap_cons,List.set_append_right _ _ (by rw [kj];omega),kj]
     congr 1
     have:=ih i (by simpa using hi)
     rw [show (i+1) * 4+2 - 4=i * 4+2 by omega]
     exact this
theorem dP.bodyAt {W:World} {b B K g:Nat} {l:List Tok} {hh:List Nat} {s:Nm} {vl vh:Value} (h:dP W b B K g l hh s vl vh) (i:Nat) (hi:i < l.length):
 ∃gq q3,vl=.slice (some ⟨gq,0,none⟩) l.length q3∧(∀w',(Instr.indexAt 39 (.slice (some ⟨gq,0,none⟩) l.length q3) (.int .i64 (i:Int))).run Tryz.prog w'=.ok (.pointer (some ⟨gq,i * 4,none⟩)) w')∧
  W.cell? ⟨gq,i * 4+1,none⟩=some (.string (str l[i].t))∧W.cell? ⟨gq,i * 4+2,none⟩=some (.string (str l[i].b))∧W.frozen? ⟨gq,i * 4+2,none⟩=false∧
  ∀x:Nm,dP (W.setCell ⟨gq,i * 4+2,none⟩ (.string (str (l[i].b++x)))) b B K g (l.modify i (dC x)) hh s vl vh∧Below B W (W.setCell ⟨gq,i * 4+2,none⟩ (.string (str (l[i].b++x)))):=by
 obtain ⟨j0,hj0,hz0,hz1,hz2⟩:=info_parts sX
 obtain ⟨gq,q3,cur,hv,h2,h3,h4,h5,h6,h7⟩:=Sl.vI h.l6 (by omega)
 have hat:∀k,k < 4→W.cell? ⟨gq,i * 4+k,none⟩=(rT l[i])[k]?:=fun k hk=>by
  rw [Sl.jM h3]
  have h8:cur[i * 4+k]? =(cur.take (l.length * 4))[i * 4+k]?:=by rw [List.getElem?_take_of_lt (by omega)]
  rw [h8,h7]
  cases hc:(rT l[i])[k]? with
  | none=>have:=List.getElem?_eq_none_iff.1 hc;rw [kj] at this;omega
  | some u=>exact Ap.vU kj l i _ (List.getElem?_eq_getElem hi) k u hc
 refine ⟨gq,q3,hv,fun w'=>?_,hat 1 (by decide),hat 2 (by decide),Sl.xj h3 _,fun x=>?_⟩
 ·
  rw [run_indexAt_slice w' 39 _ _ _ .i64 i (by simp [Program.elem,Tryz.underlying39]),if_pos ⟨by omega,by omega⟩]
  simp [Program.elem,Tryz.underlying39,sizeOf,typeInfo,hj0,hz1,Result.andThen,Addr.add_lit]
 ·
  have yR:=heap_setCell_same W gq (i * 4+2) _ _ (.string (str (l[i].b++x))) h3
  have hgr:W.grownBy (W.setCell ⟨gq,i * 4+2,none⟩ (.string (str (l[i].b++x)))) (some gq):=Sl.aq gq [.string (str (l[i].b++x))] _ W
  have hbq:b≠gq:=fun e=>by
   have h8:=h.rd.box
   rw [e,h3] at h8
   injection h8 with h8
   injection h8 with _ hT _
   exact absurd hT (by decide)
  refine ⟨⟨⟨(hgr.block b h.rd.lt (fun e=>hbq (Option.some.inj e))).trans h.rd.box,h.rd.le,h.rd.big,h.rd.len⟩,?_,?_,h.bB⟩,(Below.refl _ _).grown hgr h.size (fun j hj=>by obtain rfl:=Option.some.inj hj;exact h2)⟩
  ·
   rw [hv,List.length_modify]
   refine Sl.LU (cur:=cur.set (i * 4+2) (.string (str (l[i].b++x)))) h2 (by rw [yR,List.setIfInBounds_toArray]) h4 h5 (by rw [List.length_set];exact h6) ?_
   rw [List.take_set,h7]
   exact OQ l i hi x
  ·
   exact bG h.here (fun j X hj hX=>hgr.block j (Array.getElem?_eq_some_iff.1 hX).1 (fun e=>by
    obtain rfl:=Option.some.inj e
    rw [h3] at hX
    injection hX with hX
    injection hX with _ hT _
    exact absurd hT (by decide)))
theorem dP.hereNil {W:World} {b B K g:Nat} {l:List Tok} {hh:List Nat} {s:Nm} {vl vh:Value} (h:dP W b B K g l hh s vl vh):
 dP (W.setCell ⟨b,4,none⟩ (.slice none 0 0)) b B K g l [] s vl (.slice none 0 0)∧Below B W (W.setCell ⟨b,4,none⟩ (.slice none 0 0)):=by
 have hs:=heap_setCell_same W b 4 _ _ (.slice none 0 0) h.rd.box
 have hgr:W.grownBy (W.setCell ⟨b,4,none⟩ (.slice none 0 0)) (some b):=Sl.aq b [.slice none 0 0] 4 W
 refine ⟨⟨⟨hs,h.rd.le,h.rd.big,h.rd.len⟩,?_,World.ownsRow_nil _ _ _ _,h.bB⟩,(Below.refl _ _).grown hgr h.size (fun j hj=>by obtain rfl:=Option.some.inj hj;exact h.bB)⟩
 exact bG h.l6 (fun j X hj hX=>hgr.block j (Array.getElem?_eq_some_iff.1 hX).1 (fun e=>by
  obtain rfl:=Option.some.inj e
  exact fg (k':=0) h.l6 h.rd.box (by decide) hj))
def r9 (W:World) (b B K g:Nat) (x:Except Int (List Tok × Nm)) (r:Ending) (W':World):Prop:=
 match x with
 | .error e=>r=nC e g∧Below B W W'
 | .ok y=>r=.returned (.tuple #[])∧Below B W W'∧∃vl vh,dP W' b B K g y.1 [] y.2 vl vh
theorem QR {W W':World} {b B K g:Nat} {x:Except Int (List Tok × Nm)} {e:Int} (hx:x=.error e) (h:Below B W W'):r9 W b B K g x (nC e g) W':=by subst hx;exact ⟨rfl,h⟩
theorem ints_at {W:World} {B:Nat} {v:Value} {hh:List Nat} (h:W.ownsRow B dU 1 v hh.length (hh.map iv)):∃a c,v=.slice a hh.length c∧∃b1 off,(∀(k x:Nat),hh[k]? =some x→W.cell? ⟨b1,off+k,none⟩=some (.int .i64 (x:Int)))∧∀(k:Nat) (w':World),k < hh.length→(Instr.indexAt 35 (.slice a hh.length c) (.int .i64 (k:Int))).run Tryz.prog w'=.ok (.pointer (some ⟨b1,off+k,none⟩)) w':=by
 obtain ⟨i0,iy,hz0,hz1,hz2⟩:=info_parts jy
 obtain ⟨a,c,rfl,hr⟩:=iC (R:=fun w b o (n:Nat)=>w.cell? ⟨b,o,none⟩=some (.int .i64 (n:Int))) h (fun _ _ _ h=>h)
 obtain ⟨b1,off,h1,h2⟩:=hr.at (P:=Tryz.prog)
 exact ⟨a,c,rfl,b1,off,fun k x hx=>by obtain ⟨hk,rfl⟩:=List.getElem?_eq_some_iff.1 hx;simpa using h1 k hk,fun k w' hk=>by simpa using h2 35 dU i0 Tryz.underlying35 iy hz1 .i64 k w' hk⟩
theorem dx (l:Nm):(str l).toList=l:=by rw [ByteArray.toList_eq];rfl
theorem xR {q:Nm} {x:Nm × Nm} (h:cutAt 10 q=some x):cD q=x:=by unfold cD;rw [h]
theorem xO {q:Nm} (h:cutAt 10 q=none):cD q=(q,[]):=by unfold cD;rw [h]
theorem B5 (W:World) (b B K g:Nat) (l:List Tok) (hh:List Nat) (s:Nm) (vl vh:Value) (h:dP W b B K g l hh s vl vh) (hi:∀i∈hh,i < l.length) (ZW:hh.length≤90000) (hl:l.length≤90000) (hb:Bd l s.length) (X:Except Int (List Tok × Nm)) (hX:cX hh l s=X):
 Calls Tryz.prog 64 #[.pointer (some ⟨b,0,none⟩)] W (r9 W b B K g X):=by
 have HS:=Lib.hid h
 have HI:=Lib.hid hi
 have EZ:=Lib.hid hb
 have Lv:=Lib.hid hX
 obtain ⟨⟨c0,c1,c2,c3,c4⟩,f0,f1,f2,f3,f4⟩:=bg h.rd.box
 obtain ⟨L,hL⟩:∃L,hh.length=L:=⟨_,rfl⟩
 obtain ⟨ah,ch,hv,b1,o1,hcs,mB⟩:=ints_at h.here
 subst hv
 rw [hL] at c4 mB ZW
 obtain ⟨a3,q3,hv3,_⟩:=aA h.l6
 subst hv3
 obtain ⟨Ln,T2⟩:∃Ln,l.length=Ln:=⟨_,rfl⟩
 have HL:=Lib.hid hL
 have Px:=Lib.hid T2
 have qc:Hid (dP W b B K g l hh s (.slice a3 Ln q3) (.slice ah L ch)):=by show dP _ _ _ _ _ _ _ _ _ _;rw [←hL,←T2];exact HS.out
 rw [T2] at c3 hl
 clear h hi hb hX hL T2 hcs mB HS
 go_enter Tryz.func64,Tryz.ntmps64
 go_wp2_with fail
 clear c0 c1 c2 c3 c4 f0 f1 f2 f3 f4
 go_loopw [14] (fun v14 wr=>∃(j:Nat) (l':List Tok) (q:Nm),v14=.int .i64 (j:Int)∧j≤L∧cX (hh.drop j) l' q=X∧dP wr b B K g l' hh q (.slice a3 Ln q3) (.slice ah L ch)∧Below B W wr∧l'.length=Ln∧Bd l' q.length) (fun v14 _=>(match v14 with | .int _ z=>L - z.toNat | _=>0))
 case atStart=>exact ⟨0,l,s,rfl,Nat.zero_le _,Lv.out,qc.out,Below.refl _ _,Px.out,EZ.out⟩
 case round=>
  clear Lv qc EZ
  obtain ⟨j,l',q,rfl,hj,hx,hst,qU,hll,NA⟩:=hrel
  have HX:=Lib.hid hx
  have HS:=Lib.hid hst
  have HB:=Lib.hid qU
  have EZ:=Lib.hid NA
  have Wf:=Lib.hid hll
  clear hx hst qU NA hll
  by_cases hjL:j < L
  ·
   obtain ⟨i,hi⟩:∃i,hh[j]? =some i:=⟨_,List.getElem?_eq_getElem (by rw [HL.out];exact hjL)⟩
   have Am:i < l'.length:=by rw [Wf.out,←Px.out];exact HI.out i (List.mem_of_getElem? hi)
   have hdr:hh.drop j=i::hh.drop (j+1):=by
    obtain ⟨hlt,mv⟩:=List.getElem?_eq_some_iff.1 hi
    rw [List.drop_eq_getElem_cons hlt,mv]
   obtain ⟨ah2,ch2,hv,b1,o1,hcs,mB⟩:=ints_at HS.out.here
   rw [HL.out] at hv mB
   obtain ⟨rfl,rfl⟩:ah=ah2∧ch=ch2:=by injection hv with h1 h2 h3;exact ⟨h1,h3⟩
   have k0:=hcs j i hi
   have j0:=fun w=>mB j w hjL
   obtain ⟨gq,q4,hv3,jx,kt,kb,kf,hput⟩:=HS.out.bodyAt i Am
   rw [Wf.out] at hv3 jx
   obtain ⟨rfl,rfl⟩:a3=some ⟨gq,0,none⟩∧q3=q4:=by injection hv3 with h1 h2 h3;exact ⟨h1,h3⟩
   obtain ⟨tx,htx⟩:∃tx,l'[i].t=tx:=⟨_,rfl⟩
   have yM:tx.length≤100000:=by rw [←htx];exact (EZ.out _ (List.getElem_mem Am)).2
   rw [htx] at kt
   have HE:Hid (ed l' i=bare tx):=by show _=_;unfold ed;rw [List.getElem?_eq_getElem Am,←htx]
   obtain ⟨⟨c0,c1,c2,c3,c4⟩,f0,f1,f2,f3,f4⟩:=bg HS.out.rd.box
   have Ed:Hid (lz (pre [] (gW (bare tx) q)) (fun x=>cX (hh.drop (j+1)) (l'.modify i (dC x.1)) x.2)=X):=by
    show _=_
    rw [pre_nil,←HX.out,hdr,←HE.out]
    rfl
   have a3:decide (j < L)=true:=decide_eq_true (by omega)
   have a1:decide ((j:Int) < (L:Int))=true:=decide_eq_true (by omega)
   have a2:(j:Int) < (L:Int):=by omega
   have HIl:=Lib.hid Am
   clear hput kb kf hi hdr hcs mB hv hv3 htx Am HX HE
   go_wp2_with fail
   refine (xx wr tx yM).mono ?_
   rintro r w2 ⟨rfl,hb2⟩
   have qc:Hid (dP w2 b B K g (l'.modify i (dC [])) hh q (.slice (some ⟨gq,0,none⟩) Ln q3) (.slice ah L ch)):=by
    show dP _ _ _ _ _ _ _ _ _ _
    rw [Cv]
    exact HS.out.below hb2
   have dp:=Lib.hid (HB.out.trans (hb2.mono HS.out.size))
   have YY:Hid (Bd (l'.modify i (dC [])) q.length):=by show Bd _ _;rw [Cv];exact EZ.out
   obtain ⟨e,he⟩:∃e,bare tx=e:=⟨_,rfl⟩
   rw [he] at Ed ⊢
   clear he hb2 c0 c1 c2 c3 c4 f0 f1 f2 f3 f4 k0 j0 kt HS HB EZ
   go_wp2_with fail
   go_loopw [] (fun wr2=>∃(body q2:Nm),dP wr2 b B K g (l'.modify i (dC body)) hh q2 (.slice (some ⟨gq,0,none⟩) Ln q3) (.slice ah L ch)∧Below B W wr2∧(q2=[]∨Bd (l'.modify i (dC body)) q2.length)∧lz (pre body (gW e q2)) (fun x=>cX (hh.drop (j+1)) (l'.modify i (dC x.1)) x.2)=X) (fun wr2=>mo wr2 b)
   case atStart=>exact ⟨[],q,qc.out,dp.out,.inr YY.out,Ed.out⟩
   case round=>
    clear qc dp YY Ed
    obtain ⟨body,q2,hst,qU,NA,hx⟩:=hrel
    have HX:=Lib.hid hx
    have HS:=Lib.hid hst
    have HB:=Lib.hid qU
    obtain ⟨⟨c0,c1,c2,c3,c4⟩,f0,f1,f2,f3,f4⟩:=bg HS.out.rd.box
    have ZaF:=HS.out.rd.len
    clear hx hst qU
    cases q2 with
    | nil=>
      have HE:Hid (X=.error 20):=HX.out.symm
      have t1:((str []).toList==[])=true:=by rw [dx];rfl
      go_wp2_with fail
      refine (kK wr [] 10 (by simp)).mono ?_
      rintro r w3 ⟨rfl,nd,hw3⟩
      have hb3:Below wr.heap.size wr w3:=by rw [hw3];exact cS _ _
      have Cu:=Lib.hid (HS.out.below hb3)
      have ku:=Lib.hid (HB.out.trans (hb3.mono HS.out.size))
      clear hw3 hb3 c0 c1 c2 c3 c4 f0 f1 f2 f3 f4
      obtain ⟨⟨c0,c1,c2,c3,c4⟩,f0,f1,f2,f3,f4⟩:=bg Cu.out.rd.box
      simp only [cutAt]
      go_wp2_with fail
      refine (bq w3 b [] K g _ _ Cu.out.rd 20).mono ?_
      rintro r w9 ⟨rfl,rfl⟩
      exact ⟨rfl,QR HE.out ku.out⟩
    | cons y q2=>
      have t1:((str (y::q2)).toList==[])=false:=by rw [dx];rfl
      have hne:(y::q2)≠[]:=by simp
      obtain ⟨z,hz⟩:∃z,y::q2=z:=⟨_,rfl⟩
      rw [hz] at HS HX NA c0 t1 hne ZaF
      clear hz
      have NA:=NA.resolve_left hne
      have HM:=Lib.hid (wL e z hne)
      have EZ:=Lib.hid NA
      have hzl:mo wr b=z.length:=cB HS.out.rd
      have hz1:1≤z.length:=List.length_pos_iff.2 hne
      clear hne NA
      go_wp2_with fail
      refine (kK wr z 10 (by omega)).mono ?_
      rintro r w3 ⟨hr,nd,hw3⟩
      have hb3:Below wr.heap.size wr w3:=by rw [hw3];exact cS _ _
      have Cu:=Lib.hid (HS.out.below hb3)
      have ku:=Lib.hid (HB.out.trans (hb3.mono HS.out.size))
      clear hw3 hb3 c0 c1 c2 c3 c4 f0 f1 f2 f3 f4 HS HB
      obtain ⟨⟨c0,c1,c2,c3,c4⟩,f0,f1,f2,f3,f4⟩:=bg Cu.out.rd.box
      cases hc:cutAt 10 z with
      | none=>
        rw [hc] at hr
        simp only at hr
        subst hr
        rw [xO hc] at HM
        clear hc
        have X5:z.drop z.length=[]:=List.drop_length
        have hzt:z.take z.length=z:=List.take_length
        go_wp2_with fail
        refine (cn w3 b z K g _ _ Cu.out.rd z.length (Nat.le_refl _)).mono ?_
        rintro r w4 ⟨rfl,lK,hr4⟩
        rw [X5] at hr4
        have HST:=Cu.out.turn lK hr4
        have E3:=Lib.hid HST.1
        have iE:=Lib.hid (ku.out.trans HST.2)
        have Zt:Hid (([]:Nm).length < z.length):=hz1
        clear lK hr4 HST c0 c1 c2 c3 c4 f0 f1 f2 f3 f4 X5 hzt
        by_cases heq:z=e
        ·
         have HEq:=Lib.hid heq
         have ht:((str z).toList==(str e).toList)=true:=by rw [dx,dx,heq];simp
         have oA:Hid (cX (hh.drop (j+1)) (l'.modify i (dC body)) ([]:Nm)=X):=by
          show _=_
          rw [←HX.out,HM.out,if_pos heq,xD,List.append_nil,iL]
         have UU:Hid (Bd (l'.modify i (dC body)) (([]:Nm)).length):=fun t ht=>by have h1:=EZ.out t ht;have h2:=Zt.out;exact ⟨by omega,h1.2⟩
         clear heq
         go_wp2_with fail
         go_roundw
         case rel=>exact ⟨j+1,_,_,by go_num,by omega,oA.out,E3.out,iE.out,by rw [List.length_modify];exact Wf.out,UU.out⟩
         case measure=>simp;omega
        ·
         have ht:((str z).toList==(str e).toList)=false:=by rw [dx,dx];simpa using heq
         have oA:Hid (lz (pre (body++(z++[10])) (gW e ([]:Nm))) (fun x=>cX (hh.drop (j+1)) (l'.modify i (dC x.1)) x.2)=X):=by
          show _=_
          rw [←HX.out,HM.out,if_neg heq,nt]
         obtain ⟨gq5,q5,PZ,jx5,_,kb5,kf5,hput⟩:=E3.out.bodyAt i (by rw [List.length_modify];exact HIl.out)
         rw [List.length_modify,Wf.out] at PZ jx5
         obtain ⟨hgq,rfl⟩:gq=gq5∧q3=q5:=by injection PZ with h1 h2 h3;injection h1 with h1;injection h1 with h1;exact ⟨h1,h3⟩
         subst hgq
         obtain ⟨bb,xh⟩:∃bb,(l'.modify i (dC body))[i]'(by rw [List.length_modify];exact HIl.out)=bb:=⟨_,rfl⟩
         have hbl:bb.b.length≤100001:=by rw [←xh];exact Nat.le_trans (Nat.le_add_right _ _) (EZ.out _ (List.getElem_mem _)).1
         rw [xh] at kb5 hput
         have hput:=hput (z++[10])
         rw [lZ] at hput
         have Dc:=Lib.hid hput.1
         have E8:=Lib.hid (iE.out.trans hput.2)
         have hc1:(str z).size+1≤9223372036854775807:=by rw [aU];omega
         have hc2:(str bb.b).size+((str z).size+1)≤9223372036854775807:=by rw [aU,aU];omega
         have e3:str bb.b++(str z++⟨#[10]⟩)=str (bb.b++(z++[10])):=by rw [show (⟨#[10]⟩:ByteArray)=str [10] from rfl,bn,bn]
         have hsz:mo (w4.setCell ⟨gq,i * 4+2,none⟩ (.string (str (bb.b++(z++[10]))))) b=(([]:Nm)).length:=cB hput.1.rd
         clear hput heq xh PZ
         obtain ⟨⟨c0,c1,c2,c3,c4⟩,f0,f1,f2,f3,f4⟩:=bg E3.out.rd.box
         go_wp2_with fail
         go_roundw
         case rel=>exact ⟨_,([]:Nm),Dc.out,E8.out,.inl rfl,oA.out⟩
         case measure=>rw [hsz,hzl];have:=Zt.out;omega
      | some x=>
        rw [hc] at hr
        simp only at hr
        subst hr
        rw [xR hc] at HM
        have hzx:=kC hc
        clear hc
        obtain ⟨ln,rs⟩:=x
        simp only at hzx HM ⊢
        have Zcv:ln.length+rs.length+1=z.length:=by rw [hzx];simp;omega
        have X5:z.drop ln.length=10::rs:=by rw [hzx,List.drop_left]
        have vk:ln.length≤100000:=by omega
        clear hzx
        go_wp2_with fail
        refine (cn w3 b z K g _ _ Cu.out.rd ln.length (by omega)).mono ?_
        rintro r w4 ⟨rfl,lK,hr4⟩
        rw [X5] at hr4
        have HST:=Cu.out.turn lK hr4
        have E3:=Lib.hid HST.1
        have iE:=Lib.hid (ku.out.trans HST.2)
        clear lK hr4 HST c0 c1 c2 c3 c4 f0 f1 f2 f3 f4 X5
        go_wp2_with fail
        refine (cn w4 b (10::rs) K g _ _ E3.out.rd 1 (by simp)).mono ?_
        rintro r w5 ⟨rfl,lK,hr4⟩
        have hr4:Rd w5 b rs K g _ _:=hr4
        have HST:=E3.out.turn lK hr4
        have Io:=Lib.hid HST.1
        have jw:=Lib.hid (iE.out.trans HST.2)
        have Zt:Hid (rs.length < z.length):=by show _ < _;omega
        have Zbu:Hid (Bd (l'.modify i (dC (body++(ln++[10])))) rs.length):=by
         show Bd _ _
         rw [←lZ]
         exact EZ.out.modify (by simp;omega)
        clear lK hr4 HST
        by_cases heq:ln=e
        ·
         have HEq:=Lib.hid heq
         have ht:((str ln).toList==(str e).toList)=true:=by rw [dx,dx,heq];simp
         have oA:Hid (cX (hh.drop (j+1)) (l'.modify i (dC body)) rs=X):=by
          show _=_
          rw [←HX.out,HM.out,if_pos heq,xD,List.append_nil,iL]
         have UU:Hid (Bd (l'.modify i (dC body)) (rs).length):=fun t ht=>by have h1:=EZ.out t ht;have h2:=Zt.out;exact ⟨by omega,h1.2⟩
         clear heq
         go_wp2_with fail
         go_roundw
         case rel=>exact ⟨j+1,_,_,by go_num,by omega,oA.out,Io.out,jw.out,by rw [List.length_modify];exact Wf.out,UU.out⟩
         case measure=>simp;omega
        ·
         have ht:((str ln).toList==(str e).toList)=false:=by rw [dx,dx];simpa using heq
         have oA:Hid (lz (pre (body++(ln++[10])) (gW e rs)) (fun x=>cX (hh.drop (j+1)) (l'.modify i (dC x.1)) x.2)=X):=by
          show _=_
          rw [←HX.out,HM.out,if_neg heq,nt]
         obtain ⟨gq5,q5,PZ,jx5,_,kb5,kf5,hput⟩:=Io.out.bodyAt i (by rw [List.length_modify];exact HIl.out)
         rw [List.length_modify,Wf.out] at PZ jx5
         obtain ⟨hgq,rfl⟩:gq=gq5∧q3=q5:=by injection PZ with h1 h2 h3;injection h1 with h1;injection h1 with h1;exact ⟨h1,h3⟩
         subst hgq
         obtain ⟨bb,xh⟩:∃bb,(l'.modify i (dC body))[i]'(by rw [List.length_modify];exact HIl.out)=bb:=⟨_,rfl⟩
         have hbl:bb.b.length≤100001:=by rw [←xh];exact Nat.le_trans (Nat.le_add_right _ _) (EZ.out _ (List.getElem_mem _)).1
         rw [xh] at kb5 hput
         have hput:=hput (ln++[10])
         rw [lZ] at hput
         have Dc:=Lib.hid hput.1
         have E8:=Lib.hid (jw.out.trans hput.2)
         have hc1:(str ln).size+1≤9223372036854775807:=by rw [aU];omega
         have hc2:(str bb.b).size+((str ln).size+1)≤9223372036854775807:=by rw [aU,aU];omega
         have e3:str bb.b++(str ln++⟨#[10]⟩)=str (bb.b++(ln++[10])):=by rw [show (⟨#[10]⟩:ByteArray)=str [10] from rfl,bn,bn]
         have hsz:mo (w5.setCell ⟨gq,i * 4+2,none⟩ (.string (str (bb.b++(ln++[10]))))) b=(rs).length:=cB hput.1.rd
         clear hput heq xh PZ
         obtain ⟨⟨c0,c1,c2,c3,c4⟩,f0,f1,f2,f3,f4⟩:=bg Io.out.rd.box
         go_wp2_with fail
         go_roundw
         case rel=>exact ⟨_,rs,Dc.out,E8.out,.inr Zbu.out,oA.out⟩
         case measure=>rw [hsz,hzl];have:=Zt.out;omega
  ·
   obtain rfl:j=L:=by omega
   have YX:Hid (X=.ok (l',q)):=by
    show _=_
    rw [←HX.out,←HL.out,List.drop_length];rfl
   have a3:decide (j < j)=false:=decide_eq_false (by omega)
   have a1:decide ((j:Int) < (j:Int))=false:=decide_eq_false (by omega)
   have a2:¬((j:Int) < (j:Int)):=by omega
   obtain ⟨⟨c0,c1,c2,c3,c4⟩,f0,f1,f2,f3,f4⟩:=bg HS.out.rd.box
   have HN:=Lib.hid HS.out.hereNil
   clear hjL
   go_wp2_with fail
   refine bodyPost_end (v:=.tuple #[]) (results_none rfl _ _ _) rfl ?_
   show r9 W b B K g X _ _
   rw [YX.out]
   exact ⟨rfl,HB.out.trans HN.out.2,_,_,HN.out.1⟩
end Go.Proofs.YtiklkhbfilbpeaaGreatDoor
