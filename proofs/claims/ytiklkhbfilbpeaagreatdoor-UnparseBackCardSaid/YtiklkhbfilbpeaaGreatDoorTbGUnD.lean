import Derived.Test.YtiklkhbfilbpeaaGreatDoorTbGUnB
import Derived.Test.YtiklkhbfilbpeaaGreatDoorTbGSyG
import Derived.Test.YtiklkhbfilbpeaaGreatDoorTbGUnC
import Derived.Laws.OwnMore
import Derived.Test.YtiklkhbfilbpeaaGreatDoorTbLxOne
set_option maxRecDepth 100000
set_option maxHeartbeats 16000000
set_option linter.unusedVariables false
set_option linter.unusedSimpArgs false
namespace Go.Proofs.YtiklkhbfilbpeaaGreatDoor.Ux
open Go.RowKit Base Lx Sy Sx Un
theorem KL {W:World} {P:Nat→Prop} {b1 o:Nat} {n:Nd} {uw ur uk:Value} (h:Jr W P b1 o n uw ur uk):W.cell? ⟨b1,o,none⟩=some (.int .i64 (n.k:Int)):=by
 have:=h.cells 0 _ rfl
 simpa using this
theorem CJ (W:World) (b B:Nat) (tv bv:Value) (s:PS) (l:List Nd) (h:Pr W b B tv bv s) (ht:dX W B tv l) (n:Nd) (uw ur uk:Value) (hr:Sx.Rows W (fun g=>g < B) n uw ur uk) (eo:n.ks.length=2) (f:Nat→PS→PS) (c:Nat→Nat) (hk:∀k∈n.ks,lD l b B tv (k:Int) (f k) (c k)) (hc:∀k∈n.ks,∀s,aT (f k s)≤aT s+c k) (hl:aT s+(2+1+(4+1)+2+(c (kid n 0)+c (kid n 1)))≤big):
 Calls Tryz.prog 31 #[.pointer (some ⟨b,0,none⟩),qM n uw ur uk] W fun r W'=>Post W b B tv bv (pd (en l) f n s) r W':=by
 obtain ⟨w1,N,cU,hN,HX⟩:=gM h ht hr
 obtain ⟨g,cc,mV,k0⟩:=HX.out.2.2.2.kid (i:=0) (by omega)
 rw [eo] at mV
 subst mV
 obtain ⟨c0,c1,c2,c3,c5,c6⟩:=HX.out.2.2.2.cells
 have lU:Hid (kid n 0∈n.ks):=bV (by omega)
 have PB:Hid (kid n 1∈n.ks):=bV (by omega)
 have HK:=Lib.hid hk
 have HC:=Lib.hid hc
 have HL:=Lib.hid hl
 have wh:=Lib.hid eo
 have HP:=Lib.hid (bZ w1 b B tv bv s l HX.out.2.1 HX.out.2.2.1 [105,102] (kid n 0:Int) _ _ (hk _ lU.out) (by simp only [List.length_cons,List.length_nil];omega))
 unfold qM
 clear h ht hr hk hl hc eo
 go_enter Tryz.func31,Tryz.ntmps31
 go_wp2_with fail
 refine HP.out.mono ?_
 rintro r w2 ⟨jA,rfl,ep,fh⟩
 have fK:Hid (Sx.aj b bv W jA w2):=(Sx.aj.of_below HX.out.1).trans ep
 have bO:=HX.out.2.2.2.turn HX.out.2.1 ep
 have d6:=bO.cells.2.2.2.2.2
 have k2:=bO.kcell (i:=1) (by rw [wh.out];decide)
 have vD:Hid (aT (aQ [105,102] (f (kid n 0)) s)≤aT s+2+1+c (kid n 0)):=eB (w:=[105,102]) (s:=s) (HC.out _ lU.out)
 have C8:Hid (dX w2 B tv l):=HX.out.2.2.1.below (bH HX.out.2.1 ep)
 have NB:=Lib.hid (bZ w2 b B tv jA _ l fh C8.out [116,104,101,110] (kid n 1:Int) _ _ (HK.out _ PB.out) (by have h1:=HL.out;have h2:=vD.out;simp only [List.length_cons,List.length_nil];omega))
 have dA:=Lib.hid bO
 have JQ:=Lib.hid fh
 clear ep fh bO
 go_wp2_with fail
 refine NB.out.mono ?_
 rintro r w3 ⟨qs,rfl,gI,lp⟩
 have jf:=Lib.hid (fK.out.trans gI)
 have TX:Hid (aT (aQ [116,104,101,110] (f (kid n 1)) (aQ [105,102] (f (kid n 0)) s))≤aT (aQ [105,102] (f (kid n 0)) s)+4+1+c (kid n 1)):=eB (w:=[116,104,101,110]) (s:=aQ [105,102] (f (kid n 0)) s) (HC.out _ PB.out)
 have XF:=Lib.hid (dA.out.turn JQ.out gI)
 have Kv:Hid (dX w3 B tv l):=C8.out.below (bH JQ.out gI)
 have e6:=XF.out.cells.2.2.2.2.2
 have Zf:=Lib.hid lp
 have vn:=Lib.hid (cK w3 b B tv qs _ lp [102,105] (by have h1:=HL.out;have h2:=vD.out;have h3:=TX.out;have h4:=eu (aQ [116,104,101,110] (f (kid n 1)) (aQ [105,102] (f (kid n 0)) s));simp only [List.length_cons,List.length_nil] at *;omega))
 clear gI lp
 go_wp2_with fail
 refine vn.out.mono ?_
 rintro r w4 ⟨ID,rfl,lK,MQ⟩
 go_wp2
 go_end0
 refine ⟨ID,rfl,jf.out.trans lK,?_⟩
 unfold pd
 simp only
 rw [if_neg (by rw [wh.out];decide)]
 exact MQ
theorem CU (W:World) (b B:Nat) (tv bv:Value) (s:PS) (l:List Nd) (h:Pr W b B tv bv s) (ht:dX W B tv l) (n:Nd) (uw ur uk:Value) (hr:Sx.Rows W (fun g=>g < B) n uw ur uk) (eo:n.ks.length=3) (f:Nat→PS→PS) (c:Nat→Nat) (hk:∀k∈n.ks,lD l b B tv (k:Int) (f k) (c k)) (hc:∀k∈n.ks,∀s,aT (f k s)≤aT s+c k) (hlt:kid n 2 < l.length) (hl:aT s+(2+1+(4+1)+2+(c (kid n 0)+c (kid n 1))+(4+1+(if en l (kid n 2)=6 then 1 else 0)+c (kid n 2)))≤big):
 Calls Tryz.prog 31 #[.pointer (some ⟨b,0,none⟩),qM n uw ur uk] W fun r W'=>Post W b B tv bv (pd (en l) f n s) r W':=by
 obtain ⟨x6,RH⟩:∃x,(if en l (kid n 2)=6 then 1 else 0)=x:=⟨_,rfl⟩
 rw [RH] at hl
 have HX6:=Lib.hid RH
 clear RH
 obtain ⟨w1,N,cU,hN,HX⟩:=gM h ht hr
 obtain ⟨g,cc,mV,k0⟩:=HX.out.2.2.2.kid (i:=0) (by omega)
 rw [eo] at mV
 subst mV
 obtain ⟨c0,c1,c2,c3,c5,c6⟩:=HX.out.2.2.2.cells
 have lU:Hid (kid n 0∈n.ks):=bV (by omega)
 have PB:Hid (kid n 1∈n.ks):=bV (by omega)
 have HK:=Lib.hid hk
 have HC:=Lib.hid hc
 have HL:=Lib.hid hl
 have wh:=Lib.hid eo
 have HP:=Lib.hid (bZ w1 b B tv bv s l HX.out.2.1 HX.out.2.2.1 [105,102] (kid n 0:Int) _ _ (hk _ lU.out) (by simp only [List.length_cons,List.length_nil];omega))
 unfold qM
 clear h ht hr hk hl hc eo
 go_enter Tryz.func31,Tryz.ntmps31
 go_wp2_with fail
 refine HP.out.mono ?_
 rintro r w2 ⟨jA,rfl,ep,fh⟩
 have fK:Hid (Sx.aj b bv W jA w2):=(Sx.aj.of_below HX.out.1).trans ep
 have bO:=HX.out.2.2.2.turn HX.out.2.1 ep
 have d6:=bO.cells.2.2.2.2.2
 have k2:=bO.kcell (i:=1) (by rw [wh.out];decide)
 have vD:Hid (aT (aQ [105,102] (f (kid n 0)) s)≤aT s+2+1+c (kid n 0)):=eB (w:=[105,102]) (s:=s) (HC.out _ lU.out)
 have C8:Hid (dX w2 B tv l):=HX.out.2.2.1.below (bH HX.out.2.1 ep)
 have NB:=Lib.hid (bZ w2 b B tv jA _ l fh C8.out [116,104,101,110] (kid n 1:Int) _ _ (HK.out _ PB.out) (by have h1:=HL.out;have h2:=vD.out;simp only [List.length_cons,List.length_nil];omega))
 have dA:=Lib.hid bO
 have JQ:=Lib.hid fh
 clear ep fh bO
 go_wp2_with fail
 refine NB.out.mono ?_
 rintro r w3 ⟨qs,rfl,gI,lp⟩
 have jf:=Lib.hid (fK.out.trans gI)
 have TX:Hid (aT (aQ [116,104,101,110] (f (kid n 1)) (aQ [105,102] (f (kid n 0)) s))≤aT (aQ [105,102] (f (kid n 0)) s)+4+1+c (kid n 1)):=eB (w:=[116,104,101,110]) (s:=aQ [105,102] (f (kid n 0)) s) (HC.out _ PB.out)
 have XF:=Lib.hid (dA.out.turn JQ.out gI)
 have Kv:Hid (dX w3 B tv l):=C8.out.below (bH JQ.out gI)
 have e6:=XF.out.cells.2.2.2.2.2
 have Zf:=Lib.hid lp
 have xu:Hid (kid n 2∈n.ks):=bV (by rw [wh.out];decide)
 have ru:=Lib.hid hlt
 have k3:=XF.out.kcell (i:=2) (by rw [wh.out];decide)
 have HPe:=Lib.hid (bZ w3 b B tv qs _ l lp Kv.out [101,108,115,101] (kid n 2:Int) _ _ (HK.out _ xu.out) (by have h1:=HL.out;have h2:=vD.out;have h3:=TX.out;simp only [List.length_cons,List.length_nil];omega))
 clear gI lp hlt
 go_wp2_with fail
 refine HPe.out.mono ?_
 rintro r w4 ⟨ID,rfl,lK,MQ⟩
 have PF:=Lib.hid (jf.out.trans lK)
 have HL4:Hid (aT (aQ [101,108,115,101] (f (kid n 2)) (aQ [116,104,101,110] (f (kid n 1)) (aQ [105,102] (f (kid n 0)) s)))≤aT (aQ [116,104,101,110] (f (kid n 1)) (aQ [105,102] (f (kid n 0)) s))+4+1+c (kid n 2)):=eB (w:=[101,108,115,101]) (s:=aQ [116,104,101,110] (f (kid n 1)) (aQ [105,102] (f (kid n 0)) s)) (HC.out _ xu.out)
 have WM:=Lib.hid (XF.out.turn Zf.out lK)
 have Zag:dX w4 B tv l:=Kv.out.below (bH Zf.out lK)
 have g6:=WM.out.cells.2.2.2.2.2
 have g3:=WM.out.kcell (i:=2) (by rw [wh.out];decide)
 obtain ⟨ta,tc,E1,b1,off,hnd,mB⟩:=fZ Zag.row
 obtain ⟨nn,hnn⟩:∃nn,l[kid n 2]? =some nn:=⟨_,List.getElem?_eq_getElem ru.out⟩
 obtain ⟨nu,nr,nk,wT⟩:=hnd (kid n 2) _ hnn
 have WX:=fun w'=>mB (kid n 2) w' ru.out
 have kc:=KL wT
 obtain ⟨kk,Pz⟩:∃kk,nn.k=kk:=⟨_,rfl⟩
 rw [Pz] at kc
 have HKK:Hid (en l (kid n 2)=kk):=by show _=_;unfold en;rw [hnn,←Pz];rfl
 subst E1
 obtain ⟨aa,TF⟩:=MQ.any
 have p0:=(eC TF.box).1.1
 obtain ⟨L,hL⟩:∃L,l.length=L:=⟨_,rfl⟩
 rw [hL] at p0 WX
 have HQ4:=Lib.hid MQ
 have Xc:=Lib.hid Pz
 have Uq:=Lib.hid hL
 clear lK MQ Zag TF hnd mB wT Pz hL hnn
 by_cases e6:kk=6
 ·
  have E6:=Lib.hid e6
  have X1:Hid (x6=1):=by show _=_;rw [←HX6.out,if_pos (HKK.out.trans e6)]
  have t1:((kk:Int)==6)=true:=by rw [e6];rfl
  have t2:(kk:Int)=6:=by rw [e6];rfl
  have t3:decide ((kk:Int)=6)=true:=decide_eq_true t2
  clear e6
  go_upto_region 5 with fail
  go_region
  all_goals
   obtain ⟨w5,rF⟩:∃w5,w4.drew=w5:=⟨_,rfl⟩
   have jw:Hid (Below w4.heap.size w4 w5):=by show Below _ _ _;rw [←rF];exact Below.drew (Below.refl _ _)
   have Xe:Hid (Sx.aj b bv W ID w5):=PF.out.trans (Sx.aj.of_below jw.out)
   have V4:Hid (Pr w5 b B _ ID _):=HQ4.out.below jw.out
   rw [rF]
   clear rF
   have yE:=Lib.hid (lh w5 b B _ ID _ V4.out (by have h0:=X1.out;have h1:=HL.out;have h2:=vD.out;have h3:=TX.out;have h4:=HL4.out;omega))
   go_wp2_with fail
   refine yE.out.mono ?_
   rintro r w6 ⟨XX,rfl,yP,Tj⟩
   have Py:=Lib.hid (Xe.out.trans yP)
   have vn:=Lib.hid (cK w6 b B _ XX _ Tj [102,105] (by have h0:=X1.out;have h1:=HL.out;have h2:=vD.out;have h3:=TX.out;have h4:=HL4.out;have h5:=eu (mA (aQ [101,108,115,101] (f (kid n 2)) (aQ [116,104,101,110] (f (kid n 1)) (aQ [105,102] (f (kid n 0)) s))));have h6:=ny (aQ [101,108,115,101] (f (kid n 2)) (aQ [116,104,101,110] (f (kid n 1)) (aQ [105,102] (f (kid n 0)) s)));simp only [List.length_cons,List.length_nil] at *;omega))
   clear yP Tj
   go_wp2_with fail
   refine vn.out.mono ?_
   rintro r w7 ⟨Wp,rfl,vF,Qt⟩
   go_wp2
   go_end0
   refine ⟨Wp,rfl,Py.out.trans vF,?_⟩
   unfold pd
   simp only
   rw [if_pos (by rw [wh.out];decide),if_pos (HKK.out.trans E6.out)]
   exact Qt
 ·
  have E6:=Lib.hid e6
  have t2:¬((kk:Int)=6):=fun h=>e6 (by omega)
  have t1:((kk:Int)==6)=false:=beq_eq_false_iff_ne.2 t2
  have t3:decide ((kk:Int)=6)=false:=decide_eq_false t2
  clear e6
  go_upto_region 5 with fail
  go_region
  all_goals
   obtain ⟨w5,rF⟩:∃w5,w4.drew=w5:=⟨_,rfl⟩
   have jw:Hid (Below w4.heap.size w4 w5):=by show Below _ _ _;rw [←rF];exact Below.drew (Below.refl _ _)
   have Xe:Hid (Sx.aj b bv W ID w5):=PF.out.trans (Sx.aj.of_below jw.out)
   have V4:Hid (Pr w5 b B _ ID _):=HQ4.out.below jw.out
   rw [rF]
   clear rF
   have vn:=Lib.hid (cK w5 b B _ ID _ V4.out [102,105] (by have h1:=HL.out;have h2:=vD.out;have h3:=TX.out;have h4:=HL4.out;have h5:=eu (aQ [101,108,115,101] (f (kid n 2)) (aQ [116,104,101,110] (f (kid n 1)) (aQ [105,102] (f (kid n 0)) s)));simp only [List.length_cons,List.length_nil] at *;omega))
   go_wp2_with fail
   refine vn.out.mono ?_
   rintro r w7 ⟨Wp,rfl,vF,Qt⟩
   go_wp2
   go_end0
   refine ⟨Wp,rfl,Xe.out.trans vF,?_⟩
   unfold pd
   simp only
   rw [if_pos (by rw [wh.out];decide),if_neg (fun h=>E6.out (HKK.out.symm.trans h))]
   exact Qt
theorem JS {B:Nat} {W W':World} {q:Nat} (h:W.grownBy W' (some q)) (hB:B≤W.heap.size) (hq:B≤q):Below B W W':=⟨h.os,h.tape,h.output,h.size,fun k hk=>h.block k (by omega) (fun e=>by injection e with e;omega)⟩
theorem xy (W:World) (b B:Nat) (tv bv:Value) (s:PS) (l:List Nd) (h:Pr W b B tv bv s) (ht:dX W B tv l) (n:Nd) (uw ur uk:Value) (hr:Sx.Rows W (fun g=>g < B) n uw ur uk) (eo:n.ks.length=1) (ot:n.fl=true) (hw:n.ws.length≤100000) (f:Nat→PS→PS) (c:Nat→Nat) (hk:∀k∈n.ks,lD l b B tv (k:Int) (f k) (c k)) (hc:∀k∈n.ks,∀s,aT (f k s)≤aT s+c k) (hl:aT s+(4+n.t.length+1+(2+1)+4+c (kid n 0))≤big):
 Calls Tryz.prog 33 #[.pointer (some ⟨b,0,none⟩),qM n uw ur uk] W fun r W'=>Post W b B tv bv (px f n s) r W':=by
 obtain ⟨w1,N,cU,hN,HX⟩:=gM h ht hr
 obtain ⟨g,cc,mV,k0⟩:=HX.out.2.2.2.kid (i:=0) (by omega)
 rw [eo] at mV
 subst mV
 obtain ⟨c0,c1,c2,c3,c5,c6⟩:=HX.out.2.2.2.cells
 have lU:Hid (kid n 0∈n.ks):=bV (by omega)
 have HK:=Lib.hid hk
 have HC:=Lib.hid hc
 have HL:=Lib.hid hl
 have wh:=Lib.hid eo
 have HW:=Lib.hid hw
 have U3:=Lib.hid ot
 have LQ:gb [[102,111,114,32],n.t] s=aG ([102,111,114,32]++n.t) s:=by simp [gb,aG]
 have hput:=rM w1 b B tv bv s HX.out.2.1 2 [[102,111,114,32],n.t] (by have:=eu s;simp only [List.flatten_cons,List.flatten_nil,List.length_append,List.length_cons,List.length_nil];omega) (by simp)
 rw [LQ] at hput
 have HP:=Lib.hid hput
 have Tn:Hid (px f n s=aG [100,111,110,101] (aQ [100,111] (f (kid n 0)) (mA (aG ([102,111,114,32]++n.t) s)))):=by show _=_;unfold px;simp only;rw [ot];rfl
 rw [ot] at c2 cU
 unfold qM
 rw [ot]
 clear h ht hr hk hl hc eo hput LQ hw ot
 go_enter Tryz.func33,Tryz.ntmps33
 go_wp2_with fail
 refine HP.out.mono ?_
 rintro r w2 ⟨jA,rfl,ep,fh⟩
 have Q5:=Lib.hid ep
 have Zv:Hid (Sx.aj b bv W jA w2):=(Sx.aj.of_below HX.out.1).trans ep
 have Xv:=Lib.hid (HX.out.2.2.2.turn HX.out.2.1 ep)
 have QS:=Lib.hid fh
 have d2:=Xv.out.cells.2.2.1
 rw [U3.out] at d2
 have d3:=Xv.out.cells.2.2.2.1
 have Ry:=iQ ([102,111,114,32]++n.t) s
 simp only [List.length_append,List.length_cons,List.length_nil] at Ry
 have HLp:=Lib.hid Ry
 clear ep fh Ry
 have VR:Hid (aT (aG ([102,111,114,32]++n.t) s)+(1+(2+1)+4+c (kid n 0))≤big):=by show _≤_;have h1:=HL.out;have h2:=HLp.out;omega
 have dA:=Lib.hid (HX.out.2.2.2.turn HX.out.2.1 Q5.out)
 have yE:=Lib.hid (lh w2 b B tv jA _ QS.out (by have h1:=VR.out;omega))
 go_wp2_with fail
 refine yE.out.mono ?_
 rintro r w6 ⟨XX,rfl,yP,Tj⟩
 have Py:=Lib.hid (Zv.out.trans yP)
 have sY:=Lib.hid (dA.out.turn QS.out yP)
 have DR:Hid (dX w6 B tv l):=(HX.out.2.2.1.below (bH HX.out.2.1 Q5.out)).below (bH QS.out yP)
 have d6:=sY.out.cells.2.2.2.2.2
 have k2:=sY.out.kcell (i:=0) (by rw [wh.out];decide)
 have NB:=Lib.hid (bZ w6 b B tv XX _ l Tj DR.out [100,111] (kid n 0:Int) _ _ (HK.out _ lU.out) (by have h1:=VR.out;rw [ny];simp only [List.length_cons,List.length_nil];omega))
 clear yP Tj
 go_wp2_with fail
 refine NB.out.mono ?_
 rintro r w7 ⟨Wp,rfl,vF,Qt⟩
 have IV:=Lib.hid (Py.out.trans vF)
 have HPz:=Lib.hid (cK w7 b B tv Wp _ Qt [100,111,110,101] (by have h1:=VR.out;have h3:=eB (w:=[100,111]) (s:=mA (aG ([102,111,114,32]++n.t) s)) (HC.out _ lU.out);have h4:=eu (aQ [100,111] (f (kid n 0)) (mA (aG ([102,111,114,32]++n.t) s)));have h5:=ny (aG ([102,111,114,32]++n.t) s);simp only [List.length_cons,List.length_nil] at *;omega))
 clear vF Qt
 go_wp2_with fail
 refine HPz.out.mono ?_
 rintro r w8 ⟨bv8,rfl,oM,hp8⟩
 go_wp2
 go_end0
 refine ⟨bv8,rfl,IV.out.trans oM,?_⟩
 rw [Tn.out]
 exact hp8
theorem zu (W:World) (b B:Nat) (tv bv:Value) (s:PS) (l:List Nd) (h:Pr W b B tv bv s) (ht:dX W B tv l) (n:Nd) (uw ur uk:Value) (hr:Sx.Rows W (fun g=>g < B) n uw ur uk) (eo:n.ks.length=1) (ot:n.fl=false) (hw:n.ws.length≤100000) (f:Nat→PS→PS) (c:Nat→Nat) (hk:∀k∈n.ks,lD l b B tv (k:Int) (f k) (c k)) (hc:∀k∈n.ks,∀s,aT (f k s)≤aT s+c k) (hl:aT s+(4+n.t.length+(Lib.join ([32,105,110]::n.ws) [32]).length+1+(2+1)+4+c (kid n 0))≤big):
 Calls Tryz.prog 33 #[.pointer (some ⟨b,0,none⟩),qM n uw ur uk] W fun r W'=>Post W b B tv bv (px f n s) r W':=by
 obtain ⟨w1,N,cU,hN,HX⟩:=gM h ht hr
 obtain ⟨g,cc,mV,k0⟩:=HX.out.2.2.2.kid (i:=0) (by omega)
 rw [eo] at mV
 subst mV
 obtain ⟨c0,c1,c2,c3,c5,c6⟩:=HX.out.2.2.2.cells
 have lU:Hid (kid n 0∈n.ks):=bV (by omega)
 have HK:=Lib.hid hk
 have HC:=Lib.hid hc
 have HL:=Lib.hid hl
 have wh:=Lib.hid eo
 have HW:=Lib.hid hw
 have U3:=Lib.hid ot
 have LQ:gb [[102,111,114,32],n.t] s=aG ([102,111,114,32]++n.t) s:=by simp [gb,aG]
 have hput:=rM w1 b B tv bv s HX.out.2.1 2 [[102,111,114,32],n.t] (by have:=eu s;simp only [List.flatten_cons,List.flatten_nil,List.length_append,List.length_cons,List.length_nil];omega) (by simp)
 rw [LQ] at hput
 have HP:=Lib.hid hput
 have Tn:Hid (px f n s=aG [100,111,110,101] (aQ [100,111] (f (kid n 0)) (mA (aG (Lib.join ([32,105,110]::n.ws) [32]) (aG ([102,111,114,32]++n.t) s))))):=by show _=_;unfold px;simp only;rw [ot];rfl
 rw [ot] at c2 cU
 unfold qM
 rw [ot]
 clear h ht hr hk hl hc eo hput LQ hw ot
 go_enter Tryz.func33,Tryz.ntmps33
 go_wp2_with fail
 refine HP.out.mono ?_
 rintro r w2 ⟨jA,rfl,ep,fh⟩
 have Q5:=Lib.hid ep
 have Zv:Hid (Sx.aj b bv W jA w2):=(Sx.aj.of_below HX.out.1).trans ep
 have Xv:=Lib.hid (HX.out.2.2.2.turn HX.out.2.1 ep)
 have QS:=Lib.hid fh
 have d2:=Xv.out.cells.2.2.1
 rw [U3.out] at d2
 have d3:=Xv.out.cells.2.2.2.1
 have Ry:=iQ ([102,111,114,32]++n.t) s
 simp only [List.length_append,List.length_cons,List.length_nil] at Ry
 have HLp:=Lib.hid Ry
 clear ep fh Ry
 obtain ⟨w3,N3,Zaw,EM,hb3,Wh,hs3⟩:=ei w2 #[.string ⟨#[32,105,110]⟩] eZ
 have Eu:w3.ownsRow N3 eZ 1 (.slice (some ⟨N3,0,none⟩) 1 1) 1 [sv [32,105,110]]:=by
  have:=World.ownsRow_lit (base:=N3) (size:=1) (e:=eZ) w2 #[.string ⟨#[32,105,110]⟩] 1 (by omega) (by decide) (by decide)
  rw [EM,Zaw] at this
  exact this
 have Ym:=Lib.hid (Xv.out.below (by rw [EM];exact Wh))
 have e3:=Ym.out.cells.2.2.2.1
 obtain ⟨wa,wc,Dq,hrow⟩:=iC (R:=fun w b o (n:Nm)=>w.cell? ⟨b,o,none⟩=some (.string (str n))) Ym.out.rows.w (fun _ _ _ h=>h)
 have UI:Base.Src Tryz.prog w3 1 (.slice wa n.ws.length wc) n.ws.length (n.ws.map sv):=Jb hrow sv (fun _=>rfl) (fun _ _ _ h=>h)
 subst Dq
 obtain ⟨m,hm⟩:∃m,n.ws.length=m:=⟨_,rfl⟩
 rw [hm] at e3 UI d3
 have HWm:=Lib.hid hm
 have ZaB:=Lib.hid UI
 have ZbU:=Lib.hid Eu
 have pP:m≤100000:=by have:=HW.out;omega
 have ku:Hid (Below w2.heap.size w2 w3):=by show Below _ _ _;rw [EM];exact Wh
 have Cu:Hid (N3=w2.heap.size∧w3.heap.size=N3+1):=⟨EM.symm,hs3⟩
 obtain ⟨i0,hi,hz0,hz1,hz2⟩:=info_parts pS
 clear hrow UI Eu hb3 Wh hs3 hm
 go_wp2_with (at_builtin;refine Ap.gF rfl _ _ 33 33 rfl N3 eZ i0 (.string ⟨#[]⟩) 1 16 Tryz.underlying33 ⟨_,Tryz.underlying33,fun k=>by simp⟩ hi hz0 hz1 hz2 rfl (by decide) (by decide) _ _ _ rfl ZbU.out _ _ _ rfl ZaB.out ?c3 ?c4 ?c5 ?_)
 case c3=>unfold maxLen;omega
 case c4=>omega
 case c5=>have:=Cu.out.2;omega
 intro v' w4 Jo Zq ZbJ
 have iE:Hid (Below w2.heap.size w2 w4):=ku.out.trans (JS (q:=N3) Zq (by have:=Cu.out;omega) (by have:=Cu.out;omega))
 have Jo:w4.ownsRow N3 eZ 1 v' ([32,105,110]::n.ws).length (([32,105,110]::n.ws).map sv):=by
  have:1+m=([32,105,110]::n.ws).length:=by rw [List.length_cons,HWm.out];omega
  rw [←this]
  exact Jo
 obtain ⟨J,hJ⟩:∃J,Lib.join ([32,105,110]::n.ws) [32]=J:=⟨_,rfl⟩
 have RQ:Hid (aT s+(4+n.t.length+J.length+1+(2+1)+4+c (kid n 0))≤big):=by show _≤_;rw [←hJ];exact HL.out
 have F4:=jQ w4 v' ([32,105,110]::n.ws) [32] (rU Jo) (by rw [List.length_cons,HWm.out];unfold big;omega) (by rw [hJ];have:=RQ.out;omega)
 rw [hJ] at F4
 have UN:=Lib.hid F4
 have HJ:=Lib.hid hJ
 clear Jo Zq ZbJ F4 hJ
 go_wp2_with fail
 refine UN.out.mono ?_
 rintro r w5 ⟨rfl,ll⟩
 have jw:Hid (Below w2.heap.size w2 w5):=iE.out.trans (ll.mono iE.out.size)
 have V4:Hid (Pr w5 b B tv jA (aG ([102,111,114,32]++n.t) s)):=QS.out.below jw.out
 have UO:=Lib.hid (cK w5 b B tv jA _ V4.out J (by have h1:=RQ.out;have h2:=HLp.out;have h3:=eu (aG ([102,111,114,32]++n.t) s);omega))
 clear ll
 go_wp2_with fail
 refine UO.out.mono ?_
 rintro r w9 ⟨bv9,rfl,Af,hp9⟩
 have HTb:Hid (Sx.aj b jA w2 bv9 w9):=(Sx.aj.of_below jw.out).trans Af
 have Q5:Hid (Sx.aj b bv w1 bv9 w9):=Q5.out.trans HTb.out
 have Zv:Hid (Sx.aj b bv W bv9 w9):=Zv.out.trans HTb.out
 have QS:=Lib.hid hp9
 have HLj:=Lib.hid (iQ J (aG ([102,111,114,32]++n.t) s))
 have VR:Hid (aT (aG J (aG ([102,111,114,32]++n.t) s))+(1+(2+1)+4+c (kid n 0))≤big):=by show _≤_;have h1:=RQ.out;have h2:=HLp.out;have h3:=HLj.out;omega
 have Tn:Hid (px f n s=aG [100,111,110,101] (aQ [100,111] (f (kid n 0)) (mA (aG J (aG ([102,111,114,32]++n.t) s))))):=by show _=_;rw [Tn.out,HJ.out]
 clear Af hp9 e3 d3 d2
 have dA:=Lib.hid (HX.out.2.2.2.turn HX.out.2.1 Q5.out)
 have yE:=Lib.hid (lh w9 b B tv bv9 _ QS.out (by have h1:=VR.out;omega))
 go_wp2_with fail
 refine yE.out.mono ?_
 rintro r w6 ⟨XX,rfl,yP,Tj⟩
 have Py:=Lib.hid (Zv.out.trans yP)
 have sY:=Lib.hid (dA.out.turn QS.out yP)
 have DR:Hid (dX w6 B tv l):=(HX.out.2.2.1.below (bH HX.out.2.1 Q5.out)).below (bH QS.out yP)
 have d6:=sY.out.cells.2.2.2.2.2
 have k2:=sY.out.kcell (i:=0) (by rw [wh.out];decide)
 have NB:=Lib.hid (bZ w6 b B tv XX _ l Tj DR.out [100,111] (kid n 0:Int) _ _ (HK.out _ lU.out) (by have h1:=VR.out;rw [ny];simp only [List.length_cons,List.length_nil];omega))
 clear yP Tj
 go_wp2_with fail
 refine NB.out.mono ?_
 rintro r w7 ⟨Wp,rfl,vF,Qt⟩
 have IV:=Lib.hid (Py.out.trans vF)
 have HPz:=Lib.hid (cK w7 b B tv Wp _ Qt [100,111,110,101] (by have h1:=VR.out;have h3:=eB (w:=[100,111]) (s:=mA (aG J (aG ([102,111,114,32]++n.t) s))) (HC.out _ lU.out);have h4:=eu (aQ [100,111] (f (kid n 0)) (mA (aG J (aG ([102,111,114,32]++n.t) s))));have h5:=ny (aG J (aG ([102,111,114,32]++n.t) s));simp only [List.length_cons,List.length_nil] at *;omega))
 clear vF Qt
 go_wp2_with fail
 refine HPz.out.mono ?_
 rintro r w8 ⟨bv8,rfl,oM,hp8⟩
 go_wp2
 go_end0
 refine ⟨bv8,rfl,IV.out.trans oM,?_⟩
 rw [Tn.out]
 exact hp8
theorem NQ {g n c:Nat} (j:Nat) (hj:j < n) (w':World):(Instr.indexAt 34 (.slice (some ⟨g,0,none⟩) n c) (.int .i64 (j:Int))).run Tryz.prog w'=.ok (.pointer (some ⟨g,j * 4,none⟩)) w':=by
 obtain ⟨i,hi,_,hs,_⟩:=info_parts vS
 have he:Tryz.prog.elem 34=gO:=by simp [Program.elem,Tryz.underlying34]
 rw [run_indexAt_slice w' 34 _ n c .i64 j (by rw [he];exact Tryz.underlying34),if_pos ⟨by omega,by omega⟩,he]
 simp [sizeOf,typeInfo,hi,hs,Result.andThen,Addr.add_lit]
def I2 (W:World) (B:Nat) (u:Value) (rs:List dZ):Prop:=∃a c,u=.slice a rs.length c∧∀(j:Nat) (x:dZ),rs[j]? =some x→∃g,a=some ⟨g,0,none⟩∧g < B∧(W.cell? ⟨g,j * 4,none⟩=some (.int .i64 (x.fd:Int))∧W.cell? ⟨g,j * 4+1,none⟩=some (.string (str x.o))∧W.cell? ⟨g,j * 4+2,none⟩=some (.string (str x.w))∧W.cell? ⟨g,j * 4+3,none⟩=some (.string (str x.b)))
theorem p4 {W W':World} {g o:Nat} {v:Value} (h:W.cell? ⟨g,o,none⟩=some v) (hb:W'.heap[g]? =W.heap[g]?):W'.cell? ⟨g,o,none⟩=some v:=by
 unfold World.cell? at h ⊢
 rw [hb]
 exact h
theorem I2.below {W W':World} {B:Nat} {u:Value} {rs:List dZ} (h:I2 W B u rs) (hb:Below B W W'):I2 W' B u rs:=by
 obtain ⟨a,c,h1,h2⟩:=h
 refine ⟨a,c,h1,fun j x hj=>?_⟩
 obtain ⟨g,h3,h4,h5,h6,h7,h8⟩:=h2 j x hj
 have:=hb.block g h4
 exact ⟨g,h3,h4,p4 h5 this,p4 h6 this,p4 h7 this,p4 h8 this⟩
theorem OX {W:World} {B:Nat} {u:Value} {rs:List dZ} (h:W.ownsRow 0 gO 4 u rs.length (rs.flatMap lr)) (hq:∀g,u.ownBlock=some g→g < B):I2 W B u rs:=by
 rcases h.2 with ⟨hv,h0⟩ | ⟨g,cap,cur,hv,_,_,_,_,_,_⟩
 ·
  refine ⟨none,0,by rw [hv,h0],fun j x hj=>?_⟩
  have hn:rs=[]:=List.eq_nil_of_length_eq_zero h0
  rw [hn] at hj
  cases hj
 ·
  refine ⟨some ⟨g,0,none⟩,cap,hv,fun j x hj=>⟨g,rfl,hq g (by rw [hv];rfl),?_⟩⟩
  have key:∀(i:Nat) (v:Value),(lr x)[i]? =some v→W.cell? ⟨g,j * 4+i,none⟩=some v:=fun i v hv2=>by
   have:=h.cells (g:=g) (by rw [hv];rfl) (j * 4+i) v (Ap.vU B6 rs j x hj i v hv2)
   simpa [Addr.add_lit] using this
  exact ⟨key 0 _ rfl,key 1 _ rfl,key 2 _ rfl,key 3 _ rfl⟩
theorem Ot {W:World} {x:dZ} {M:Nat} {wn:World} (h:W.alloc (.cells #[.int .i64 (x.fd:Int),.string (str x.o),.string (str x.w),.string (str x.b)] gO)=wn) (hM:W.heap.size=M):wn.heap[M]? =some (.cells (lr x).toArray gO):=by
 rw [←h,←hM];exact heap_alloc_new _ _
theorem ni (W:World) (b B:Nat) (tv bv:Value) (s:PS) (l:List Nd) (h:Pr W b B tv bv s) (ht:dX W B tv l) (n:Nd) (uw ur uk:Value) (hr:Sx.Rows W (fun g=>g < B) n uw ur uk) (jG:n.rs.length≤100000) (Jn:n.ws.length≤100000) (sZ:∀x∈n.rs,x.fd≤99∧x.w.length≤100000) (hl:aT s+bN.ui n≤big):
 Calls Tryz.prog 26 #[.pointer (some ⟨b,0,none⟩),qM n uw ur uk] W fun r W'=>Post W b B tv bv (Un.tK n s) r W':=by
 obtain ⟨w1,N,cU,hN,HX⟩:=gM h ht hr
 obtain ⟨c0,c1,c2,c3,c5,c6⟩:=HX.out.2.2.2.cells
 have hRs:=OX HX.out.2.2.2.rows.r HX.out.2.2.2.rows.qr
 have HRs:=Lib.hid hRs
 obtain ⟨ra,rc,PT,_⟩:=hRs
 obtain ⟨R,hR⟩:∃R,n.rs.length=R:=⟨_,rfl⟩
 rw [hR] at PT
 subst PT
 have UC:Hid (∀W',Below B w1 W'→∀(j:Nat) (x:dZ),n.rs[j]? =some x→∃g,ra=some ⟨g,0,none⟩∧g < B∧(W'.cell? ⟨g,j * 4,none⟩=some (.int .i64 (x.fd:Int))∧W'.cell? ⟨g,j * 4+1,none⟩=some (.string (str x.o))∧W'.cell? ⟨g,j * 4+2,none⟩=some (.string (str x.w))∧W'.cell? ⟨g,j * 4+3,none⟩=some (.string (str x.b)))):=fun W' hb j x hj=>by
  obtain ⟨a',c',h1,h2⟩:=HRs.out.below hb
  rw [hR] at h1
  injection h1 with h1
  subst h1
  exact h2 j x hj
 have HR:=Lib.hid hR
 have hr1:R≤100000:=by omega
 have Tz:=Lib.hid sZ
 have HL:=Lib.hid hl
 have HWs:=Lib.hid Jn
 unfold qM
 clear h ht hr jG Jn sZ hl hR HRs
 go_enter Tryz.func26,Tryz.ntmps26
 go_wp2_with fail
 go_loopw [9] (fun v9 wr=>∃(i:Nat) (eL:Value) (s':PS),i≤R∧v9=.int .i64 (i:Int)∧Sx.aj b bv w1 eL wr∧Pr wr b B tv eL s'∧(i=0→s'=s)∧(0 < i→Ad n.rs s=iz (n.rs.drop i) s'∧aT s'+bN.dW (n.rs.drop i)≤big)) (fun v9 _=>R - LB v9)
 case atStart=>exact ⟨0,bv,s,Nat.zero_le _,rfl,Sx.aj.refl _ _ _,HX.out.2.1,fun _=>rfl,fun h=>absurd h (Nat.lt_irrefl 0)⟩
 case round=>
  obtain ⟨i,eL,s',hi,rfl,hT,hP,h0,h1⟩:=hrel
  have HT:=Lib.hid hT
  have HP:=Lib.hid hP
  have H0:=Lib.hid h0
  have H1:=Lib.hid h1
  clear hT hP h0 h1
  by_cases kG:i < R
  case neg=>
   obtain rfl:i=R:=by omega
   have a3:decide (i < i)=false:=decide_eq_false (by omega)
   have a1:decide ((i:Int) < (i:Int))=false:=decide_eq_false (by omega)
   have a2:¬((i:Int) < (i:Int)):=by omega
   have HE:Hid (Ad n.rs s=s'):=by
    by_cases hz:i=0
    ·
     have jG:n.rs=[]:=List.eq_nil_of_length_eq_zero (by have:=HR.out;omega)
     rw [H0.out hz,jG];exact rfl
    ·
     show _=_
     rw [(H1.out (by omega)).1,List.drop_of_length_le (by rw [HR.out];exact Nat.le_refl _)]
     rfl
   have FI:Hid (aT s'+((if 0 < n.rs.length∧0 < n.ws.length then 1 else 0)+(Lib.join n.ws [32]).length)≤big):=by
    show _≤_
    have h1:=HL.out
    have h2:aT (Ad n.rs s)≤aT s+bN.uX n.rs:=bN.Zw n.rs s
    rw [HE.out] at h2
    unfold Acc.ui at h1
    have h3:∀t,bN.p t=t.length:=fun _=>rfl
    rw [h3,h3] at h1
    have h4:([32]:Nm).length=1:=rfl
    rw [h4] at h1
    omega
   have Lr:=Lib.hid (HX.out.2.2.2.turn HX.out.2.1 HT.out)
   have d5:=Lr.out.cells.2.2.2.2.1
   have d3:=Lr.out.cells.2.2.2.1
   obtain ⟨wa,wc,Dq,_⟩:=iC (R:=fun w b o (n:Nm)=>w.cell? ⟨b,o,none⟩=some (.string (str n))) Lr.out.rows.w (fun _ _ _ h=>h)
   obtain ⟨m,hm⟩:∃m,n.ws.length=m:=⟨_,rfl⟩
   rw [hm] at Dq
   subst Dq
   have HM:=Lib.hid hm
   have HRi:Hid (n.rs.length=i):=HR.out
   clear hm
   by_cases Wj:0 < i∧0 < m
   ·
    obtain ⟨Wj,hw0⟩:=Wj
    have HC:Hid (0 < n.rs.length∧0 < n.ws.length):=⟨by rw [HRi.out];exact Wj,by rw [HM.out];exact hw0⟩
    have d1:decide ((0:Int) < (i:Int))=true:=decide_eq_true (by omega)
    have d2:(0:Int) < (i:Int):=by omega
    have f1:decide ((0:Int) < (m:Int))=true:=decide_eq_true (by omega)
    have f2:(0:Int) < (m:Int):=by omega
    have YP:Hid (aT s'+(1+(Lib.join n.ws [32]).length)≤big):=by show _≤_;have:=FI.out;rw [if_pos HC.out] at this;exact this
    have vn:=Lib.hid (cK wr b B tv eL s' HP.out [32] (by have:=YP.out;have:=eu s';simp only [List.length_cons,List.length_nil];omega))
    go_wp2_with fail
    refine vn.out.mono ?_
    rintro r w2 ⟨jA,rfl,ep,fh⟩
    have fK:=Lib.hid (HT.out.trans ep)
    have dA:=Lib.hid (Lr.out.turn HP.out ep)
    have E8:=Lib.hid fh
    have vD:=Lib.hid (iQ [32] s')
    clear ep fh d5 d3
    have d3:=dA.out.cells.2.2.2.1
    have F4:=jQ w2 _ n.ws [32] (rU dA.out.rows.w) (by have:=HWs.out;unfold big;omega) (by have:=FI.out;omega)
    obtain ⟨J,hJ⟩:∃J,Lib.join n.ws [32]=J:=⟨_,rfl⟩
    rw [hJ] at F4
    have UN:=Lib.hid F4
    have HJ:=Lib.hid hJ
    clear F4 hJ
    go_wp2_with fail
    refine UN.out.mono ?_
    rintro r w4 ⟨rfl,hb4⟩
    have iE:=Lib.hid hb4
    have UO:=Lib.hid (cK w4 b B tv jA (aG [32] s') (E8.out.below hb4) J (by rw [←HJ.out];have h9:=eu (aG [32] s');have h1:=YP.out;have h2:=vD.out;simp only [List.length_cons,List.length_nil] at h2;omega))
    clear hb4
    go_wp2_with fail
    refine UO.out.mono ?_
    rintro r w5 ⟨YA,rfl,ES,Ho⟩
    go_wp2
    go_end0
    refine ⟨YA,rfl,(Sx.aj.of_below HX.out.1).trans ((fK.out.trans (Sx.aj.of_below iE.out)).trans ES),?_⟩
    rw [←HJ.out] at Ho
    unfold Un.tK
    simp only
    rw [if_pos HC.out,HE.out]
    exact Ho
   ·
    have HC:Hid (¬(0 < n.rs.length∧0 < n.ws.length)):=by show ¬_;rw [HRi.out,HM.out];exact Wj
    have YP:Hid (aT s'+(Lib.join n.ws [32]).length≤big):=by show _≤_;have:=FI.out;omega
    have fin:∀{Z:PS},Z=aG (Lib.join n.ws [32]) s'→Z=Un.tK n s:=fun h=>by
     rw [h]
     unfold Un.tK
     simp only
     rw [if_neg HC.out,HE.out]
    have Z5:=Lib.hid (fin rfl)
    clear fin
    by_cases hr1:0 < i
    ·
     have d1:decide ((0:Int) < (i:Int))=true:=decide_eq_true (by omega)
     have d2:(0:Int) < (i:Int):=by omega
     have hm0:m=0:=by
      rcases Nat.eq_zero_or_pos m with h | h
      · exact h
      · exact absurd ⟨hr1,h⟩ Wj
     subst hm0
     clear Wj
     have F4:=jQ wr _ n.ws [32] (rU Lr.out.rows.w) (by have:=HWs.out;unfold big;omega) (by have:=FI.out;omega)
     obtain ⟨J,hJ⟩:∃J,Lib.join n.ws [32]=J:=⟨_,rfl⟩
     rw [hJ] at F4
     have UN:=Lib.hid F4
     have HJ:=Lib.hid hJ
     clear F4 hJ
     go_wp2_with fail
     refine UN.out.mono ?_
     rintro r w4 ⟨rfl,hb4⟩
     have iE:=Lib.hid hb4
     have UO:=Lib.hid (cK w4 b B tv eL s' (HP.out.below hb4) J (by rw [←HJ.out];have h9:=eu s';have h1:=YP.out;omega))
     clear hb4
     go_wp2_with fail
     refine UO.out.mono ?_
     rintro r w5 ⟨YA,rfl,ES,Ho⟩
     go_wp2
     go_end0
     refine ⟨YA,rfl,(Sx.aj.of_below HX.out.1).trans ((HT.out.trans (Sx.aj.of_below iE.out)).trans ES),?_⟩
     rw [←HJ.out] at Ho
     rw [←Z5.out]
     exact Ho
    ·
     obtain rfl:i=0:=by omega
     clear Wj hr1
     have F4:=jQ wr _ n.ws [32] (rU Lr.out.rows.w) (by have:=HWs.out;unfold big;omega) (by have:=FI.out;omega)
     obtain ⟨J,hJ⟩:∃J,Lib.join n.ws [32]=J:=⟨_,rfl⟩
     rw [hJ] at F4
     have UN:=Lib.hid F4
     have HJ:=Lib.hid hJ
     clear F4 hJ
     go_wp2_with fail
     refine UN.out.mono ?_
     rintro r w4 ⟨rfl,hb4⟩
     have iE:=Lib.hid hb4
     have UO:=Lib.hid (cK w4 b B tv eL s' (HP.out.below hb4) J (by rw [←HJ.out];have h9:=eu s';have h1:=YP.out;omega))
     clear hb4
     go_wp2_with fail
     refine UO.out.mono ?_
     rintro r w5 ⟨YA,rfl,ES,Ho⟩
     go_wp2
     go_end0
     refine ⟨YA,rfl,(Sx.aj.of_below HX.out.1).trans ((HT.out.trans (Sx.aj.of_below iE.out)).trans ES),?_⟩
     rw [←HJ.out] at Ho
     rw [←Z5.out]
     exact Ho
  obtain ⟨x,hx⟩:∃x,n.rs[i]? =some x:=⟨_,List.getElem?_eq_getElem (by have:=HR.out;omega)⟩
  obtain ⟨g,Xp,Xt,x0,x1,x2,x3⟩:=UC.out wr (bH HX.out.2.1 HT.out) i x hx
  have HXi:=Lib.hid hx
  have vA:Hid (x∈n.rs):=List.mem_of_getElem? hx
  subst Xp
  clear hx
  have XI:=fun w'=>NQ (g:=g) (n:=R) (c:=rc) i kG w'
  have a3:decide (i < R)=true:=decide_eq_true (by omega)
  have a1:decide ((i:Int) < (R:Int))=true:=decide_eq_true (by omega)
  have a2:(i:Int) < (R:Int):=by omega
  have HD:Hid (n.rs.drop i=x::n.rs.drop (i+1)):=by
   have h2:=HXi.out
   obtain ⟨h3,h4⟩:=List.getElem?_eq_some_iff.1 h2
   show _=_
   rw [List.drop_eq_getElem_cons h3,h4]
  go_upto_region 4 with fail
  obtain ⟨M,hM⟩:∃M,wr.heap.size=M:=⟨_,rfl⟩
  obtain ⟨wn,bu⟩:∃wn,wr.alloc (.cells #[.int .i64 (x.fd:Int),.string (str x.o),.string (str x.w),.string (str x.b)] gO)=wn:=⟨_,rfl⟩
  have hxn:=Ot bu hM
  have Vr:Below wr.heap.size wr wn:=by rw [←bu];exact (Below.refl _ _).alloc (Nat.le_refl _) _
  have Xj:Hid (Pr wn b B tv eL s'):=HP.out.below Vr
  have HTn:Hid (Sx.aj b bv w1 eL wn):=HT.out.trans (Sx.aj.of_below Vr)
  have oA:=Lib.hid hxn
  have VI:=Lib.hid (Tz.out x vA.out)
  rw [bu,hM]
  clear x0 x1 x2 x3 bu hxn Vr hM a1 a2 a3
  by_cases hz:i=0
  ·
   subst hz
   have hs':=H0.out rfl
   subst hs'
   have jG:n.rs=x::n.rs.drop 1:=HD.out
   have hLx:aT s'+(gV x+bN.dW (n.rs.drop 1))≤big:=by
    have h1:=HL.out
    unfold Acc.ui at h1
    have h2:bN.uX n.rs=gV x+bN.dW (n.rs.drop 1):=by
     have:bN.uX (x::n.rs.drop 1)=gV x+bN.dW (n.rs.drop 1):=rfl
     rw [←jG] at this
     exact this
    omega
   have Sm:=Lib.hid hLx
   have Zcd:=Lib.hid jG
   obtain ⟨y0,y1,y2,y3⟩:=bE oA.out
   have TH:=Lib.hid (iB wn b B tv eL s' Xj.out x VI.out.1 VI.out.2 (by omega))
   unfold ZH at TH
   clear jG hLx
   go_wp2_with fail
   refine TH.out.mono ?_
   rintro r w3 ⟨qs,rfl,gI,lp⟩
   have jf:=Lib.hid (HTn.out.trans gI)
   have UF:=Lib.hid lp
   clear gI lp
   go_wp2
   refine ⟨⟨1,qs,fX x s',by omega,by simp,jf.out,UF.out,fun h=>absurd h (by decide),fun _=>⟨?_,?_⟩⟩,?_⟩
   · rw [Zcd.out];rfl
   ·
    have h5:aT (fX x s')≤aT s'+gV x:=bN.rd x s'
    have:=Sm.out
    omega
   · simp [LB];omega
  ·
   have HI:=Lib.hid (H1.out (by omega))
   have Sm:Hid (aT s'+(1+gV x+bN.dW (n.rs.drop (i+1)))≤big):=by
    have:=HI.out.2
    rw [HD.out] at this
    have e:bN.dW (x::n.rs.drop (i+1))=(1+gV x)+bN.dW (n.rs.drop (i+1)):=by unfold Acc.dW;rw [List.map_cons,List.sum_cons];rfl
    rw [e] at this
    exact this
   have d1:decide ((0:Int) < (i:Int))=true:=decide_eq_true (by omega)
   have d2:(0:Int) < (i:Int):=by omega
   have vn:=Lib.hid (cK wn b B tv eL s' Xj.out [32] (by have:=Sm.out;have:=eu s';simp only [List.length_cons,List.length_nil];omega))
   go_wp2_with fail
   refine vn.out.mono ?_
   rintro r w2 ⟨jA,rfl,ep,fh⟩
   have fK:=Lib.hid (HTn.out.trans ep)
   have hq:=Xj.out.not oA.out (by decide) (by decide)
   have hx2:=(ep.block M (Array.getElem?_eq_some_iff.1 oA.out).1 hq.1 hq.2).trans oA.out
   obtain ⟨y0,y1,y2,y3⟩:=bE hx2
   have LJ:=Lib.hid (iQ [32] s')
   have TH:=Lib.hid (iB w2 b B tv jA _ fh x VI.out.1 VI.out.2 (by have h1:=Sm.out;have h2:=LJ.out;simp only [List.length_cons,List.length_nil] at h2;omega))
   unfold ZH at TH
   clear ep fh hx2 hq
   go_wp2_with fail
   refine TH.out.mono ?_
   rintro r w3 ⟨qs,rfl,gI,lp⟩
   have jf:=Lib.hid (fK.out.trans gI)
   have UF:=Lib.hid lp
   clear gI lp
   go_wp2
   refine ⟨⟨i+1,qs,fX x (aG [32] s'),by omega,by simp,jf.out,UF.out,fun h=>absurd h (by omega),fun _=>⟨?_,?_⟩⟩,?_⟩
   · rw [HI.out.1,HD.out];rfl
   ·
    have h5:aT (fX x (aG [32] s'))≤aT (aG [32] s')+gV x:=bN.rd x _
    have h1:=Sm.out
    have h2:=LJ.out
    simp only [List.length_cons,List.length_nil] at h2
    omega
   · simp [LB];omega
abbrev zJ:TypeId:=72
theorem Ij:∃v,Tryz.prog.underlying zJ=some (.map 3 v):=⟨_,rfl⟩
theorem Cn (e:Bool) (c:Int) (w:World):(Instr.checkKey e 10000 3 (.int .i64 c)).run Tryz.prog w=.ok () w:=by
 exact MapKept.run_checkKey (n:=9999) (k:=.int .i64 c) Tryz.underlying3 rfl e
theorem OS {w:World} {m:Nat} {es:Array MapEntry} {c:Nat} {k:Int} {v:Value} (h:w.heap[m]? =some (.map es c)) (hf:Instr.findNow (.int .i64) (.int .i64 k) es.toList 0=some none):
 (Instr.mapUpdate zJ (.map (some m)) (.int .i64 k) v).run Tryz.prog w=.ok () (bC w m (es.push { key:=.int .i64 k,val:=v,born:=c }) (c+1)):=by
 obtain ⟨vt,hu⟩:=Ij
 simp [Instr.mapUpdate,run_underlying hu,MapKept.run_getObj_map h,Cn,Instr.findKey,run_underlying Tryz.underlying3,hf,MapKept.run_setObj_map _ h,Result.andThen,bC]
theorem dT {w:World} {m:Nat} {es:Array MapEntry} {c:Nat} {k:Int} (h:w.heap[m]? =some (.map es c)) (x:Nat × Value) (hf:Instr.findNow (.int .i64) (.int .i64 k) es.toList 0=some (some x)):
 (Instr.lookup zJ (.map (some m)) (.int .i64 k) true).run Tryz.prog w=.ok (.tuple #[x.2,.bool true]) w:=by
 obtain ⟨vt,hu⟩:=Ij
 simp [Instr.lookup,run_underlying hu,MapKept.run_getObj_map h,Cn,Instr.findKey,run_underlying Tryz.underlying3,hf,Result.andThen]
def AG (v:Nat→Value) (n:Nat):List MapEntry:=(List.range n).map fun i=>{ key:=.int .i64 ((i+1:Nat):Int),val:=v (i+1),born:=i }
theorem Kz (v:Nat→Value) (n:Nat):(AG v n).toArray.push { key:=.int .i64 ((n+1:Nat):Int),val:=v (n+1),born:=n }=(AG v (n+1)).toArray:=by
 unfold AG
 rw [List.range_succ,List.map_append]
 simp
theorem zI (v:Nat→Value) (k:Int):∀(l:List Nat) (i:Nat),(∀j∈l,k≠((j+1:Nat):Int))→Instr.findNow (.int .i64) (.int .i64 k) (l.map fun i=>({ key:=.int .i64 ((i+1:Nat):Int),val:=v (i+1),born:=i }:MapEntry)) i=some none
 | [],i,_=>rfl
 | j::l,i,h=>by
   have hk:(((j+1:Nat):Int)==k)=false:=beq_eq_false_iff_ne.2 (fun e=>h j List.mem_cons_self e.symm)
   have hk2:(k==((j+1:Nat):Int))=false:=beq_eq_false_iff_ne.2 (h j List.mem_cons_self)
   have ih:=zI v k l (i+1) fun x hx=>h x (List.mem_cons_of_mem _ hx)
   rw [List.map_cons]
   unfold Instr.findNow
   simp only [Instr.sameNow,hk,hk2]
   simpa using ih
theorem all_map (w:World) (v:Nat→Value):∃w1 w2 w3 w4 w5 w6 w7 w8 w9 lq Lj EX GQ:World,(Instr.mapUpdate zJ (.map (some w.heap.size)) (.int .i64 1) (v 1)).run Tryz.prog (w.alloc (.map #[] 0))=.ok () w1∧(Instr.mapUpdate zJ (.map (some w.heap.size)) (.int .i64 2) (v 2)).run Tryz.prog w1=.ok () w2∧(Instr.mapUpdate zJ (.map (some w.heap.size)) (.int .i64 3) (v 3)).run Tryz.prog w2=.ok () w3∧(Instr.mapUpdate zJ (.map (some w.heap.size)) (.int .i64 4) (v 4)).run Tryz.prog w3=.ok () w4∧(Instr.mapUpdate zJ (.map (some w.heap.size)) (.int .i64 5) (v 5)).run Tryz.prog w4=.ok () w5∧(Instr.mapUpdate zJ (.map (some w.heap.size)) (.int .i64 6) (v 6)).run Tryz.prog w5=.ok () w6∧(Instr.mapUpdate zJ (.map (some w.heap.size)) (.int .i64 7) (v 7)).run Tryz.prog w6=.ok () w7∧(Instr.mapUpdate zJ (.map (some w.heap.size)) (.int .i64 8) (v 8)).run Tryz.prog w7=.ok () w8∧(Instr.mapUpdate zJ (.map (some w.heap.size)) (.int .i64 9) (v 9)).run Tryz.prog w8=.ok () w9∧(Instr.mapUpdate zJ (.map (some w.heap.size)) (.int .i64 10) (v 10)).run Tryz.prog w9=.ok () lq∧(Instr.mapUpdate zJ (.map (some w.heap.size)) (.int .i64 11) (v 11)).run Tryz.prog lq=.ok () Lj∧(Instr.mapUpdate zJ (.map (some w.heap.size)) (.int .i64 12) (v 12)).run Tryz.prog Lj=.ok () EX∧(Instr.mapUpdate zJ (.map (some w.heap.size)) (.int .i64 13) (v 13)).run Tryz.prog EX=.ok () GQ∧Below w.heap.size w GQ∧∀k:Nat,1≤k→k≤13→(Instr.lookup zJ (.map (some w.heap.size)) (.int .i64 (k:Int)) true).run Tryz.prog GQ=.ok (.tuple #[v k,.bool true]) GQ:=by
 have h0:(w.alloc (.map #[] 0)).heap[w.heap.size]? =some (.map #[] 0):=(MapKept.heap_alloc w _).1
 have cU:=(Below.refl w.heap.size w).alloc (Nat.le_refl _) (.map #[] 0)
 have hs0:w.heap.size≤(w.alloc (.map #[] 0)).heap.size:=by rw [World.size_alloc];omega
 have step:∀(x:World) (n:Nat),x.heap[w.heap.size]? =some (.map (AG v n).toArray n)→Below w.heap.size w x→w.heap.size≤x.heap.size→∃y,(Instr.mapUpdate zJ (.map (some w.heap.size)) (.int .i64 ((n+1:Nat):Int)) (v (n+1))).run Tryz.prog x=.ok () y∧y.heap[w.heap.size]? =some (.map (AG v (n+1)).toArray (n+1))∧Below w.heap.size w y∧w.heap.size≤y.heap.size:=by
  intro x n hx hb hs
  have hf:Instr.findNow (.int .i64) (.int .i64 ((n+1:Nat):Int)) (AG v n).toArray.toList 0=some none:=zI v _ _ 0 fun j hj=>by have:=List.mem_range.1 hj;omega
  refine ⟨_,OS hx hf,?_,hb.grown nO hs (fun j hj=>by obtain rfl:=Option.some.inj hj;exact Nat.le_refl _),?_⟩
  ·
   rw [Kz]
   exact wk hx
  · simp [bC];exact hs
 obtain ⟨w1,u1,g1,b1,s1⟩:=step _ 0 h0 cU hs0
 obtain ⟨w2,u2,g2,b2,s2⟩:=step w1 1 g1 b1 s1
 obtain ⟨w3,u3,g3,b3,s3⟩:=step w2 2 g2 b2 s2
 obtain ⟨w4,u4,g4,b4,s4⟩:=step w3 3 g3 b3 s3
 obtain ⟨w5,u5,g5,b5,s5⟩:=step w4 4 g4 b4 s4
 obtain ⟨w6,u6,g6,b6,s6⟩:=step w5 5 g5 b5 s5
 obtain ⟨w7,u7,g7,b7,s7⟩:=step w6 6 g6 b6 s6
 obtain ⟨w8,u8,g8,b8,s8⟩:=step w7 7 g7 b7 s7
 obtain ⟨w9,u9,g9,b9,s9⟩:=step w8 8 g8 b8 s8
 obtain ⟨lq,u10,g10,b10,s10⟩:=step w9 9 g9 b9 s9
 obtain ⟨Lj,u11,g11,b11,s11⟩:=step lq 10 g10 b10 s10
 obtain ⟨EX,u12,g12,b12,s12⟩:=step Lj 11 g11 b11 s11
 obtain ⟨GQ,u13,g13,b13,s13⟩:=step EX 12 g12 b12 s12
 refine ⟨w1,w2,w3,w4,w5,w6,w7,w8,w9,lq,Lj,EX,GQ,u1,u2,u3,u4,u5,u6,u7,u8,u9,u10,u11,u12,u13,b13,fun k h1 h2=>?_⟩
 have hk:k=1∨k=2∨k=3∨k=4∨k=5∨k=6∨k=7∨k=8∨k=9∨k=10∨k=11∨k=12∨k=13:=by omega
 rcases hk with rfl | rfl | rfl | rfl | rfl | rfl | rfl | rfl | rfl | rfl | rfl | rfl | rfl
 · exact dT g13 (0,v 1) rfl
 · exact dT g13 (1,v 2) rfl
 · exact dT g13 (2,v 3) rfl
 · exact dT g13 (3,v 4) rfl
 · exact dT g13 (4,v 5) rfl
 · exact dT g13 (5,v 6) rfl
 · exact dT g13 (6,v 7) rfl
 · exact dT g13 (7,v 8) rfl
 · exact dT g13 (8,v 9) rfl
 · exact dT g13 (9,v 10) rfl
 · exact dT g13 (10,v 11) rfl
 · exact dT g13 (11,v 12) rfl
 · exact dT g13 (12,v 13) rfl
structure Ts (m:FuncId) (l:List Nd) (b B:Nat) (tv:Value) (n:Nd) (f:PS→PS) (c:Nat):Prop where
 fn:∃fn,Tryz.prog.funcs[m]? =some fn∧(fn.name== "runtime.NumGoroutine")=false∧fn.body.isNone=false
 calls:∀(W:World) (bv:Value) (s:PS) (uw ur uk:Value),Pr W b B tv bv s→dX W B tv l→Sx.Rows W (fun g=>g < B) n uw ur uk→aT s+c≤big→Calls Tryz.prog m #[.pointer (some ⟨b,0,none⟩),qM n uw ur uk] W fun r W'=>Post W b B tv bv (f s) r W'
def Nk (b:Nat) (m:FuncId):Value:=.func (.func m) #[.pointer (some ⟨b,0,none⟩)] #[]
def Dx (k:Nat):FuncId:=match k with
 | 1=>26
 | 2=>27
 | 3=>28
 | 4=>29
 | 5=>30
 | 6=>31
 | 7=>32
 | 8=>33
 | 9=>34
 | 10=>35
 | 11=>36
 | 12=>37
 | _=>38
theorem rp (l:List Nd) (b B:Nat) (tv:Value) (k:Nat) (n:Nd) (hk:l[k]? =some n) (hn:1≤n.k∧n.k≤13) (jG:n.rs.length≤100000) (sZ:∀x∈n.rs,x.fd≤99∧x.w.length≤100000) (f:PS→PS) (c C:Nat) (hm:Ts (Dx n.k) l b B tv n f c) (hc:∀s,aT (f s)≤aT s+c) (hC:C=c+(if n.k=1 then 0 else bN.dW n.rs)):
 lD l b B tv (k:Int) (fun s=>if n.k=1 then f s else iz n.rs (f s)) C:=by
 intro W bv s h ht hl
 obtain ⟨ta,tc,E1,b1,off,hnd,mB⟩:=fZ ht.row
 obtain ⟨uw,ur,uk,wT⟩:=hnd k _ hk
 have W5:k < l.length:=(List.getElem?_eq_some_iff.1 hk).1
 have WX:=fun w'=>mB k w' W5
 obtain ⟨L,hL⟩:∃L,l.length=L:=⟨_,rfl⟩
 rw [hL] at WX W5 E1
 have VW:=Lib.hid ht
 have HP:=Lib.hid h
 subst E1
 obtain ⟨aa,TF⟩:=h.any
 have p0:=(eC TF.box).1.1
 have qH:Sx.Rows W (fun g=>g < B) n uw ur uk:=wT.rows
 have Zcq:=Lib.hid qH
 obtain ⟨aw,cw,hvw,_⟩:=aA qH.w
 obtain ⟨ar,cr,hvr,_⟩:=aA qH.r
 obtain ⟨ak,ck,ZN,_⟩:=kq qH.k qH.qk
 obtain ⟨mw,hmw⟩:∃m,n.ws.length=m:=⟨_,rfl⟩
 obtain ⟨R,hR⟩:∃m,n.rs.length=m:=⟨_,rfl⟩
 obtain ⟨mk,Y2⟩:∃m,n.ks.length=m:=⟨_,rfl⟩
 rw [hmw] at hvw
 rw [hR] at hvr
 rw [Y2] at ZN
 subst hvw hvr ZN
 have x0:W.cell? ⟨b1,off+k * 8,none⟩=some (.int .i64 (n.k:Int)):=wT.cells 0 _ rfl
 have x1:W.cell? ⟨b1,off+k * 8+1,none⟩=some (.string (str n.t)):=wT.cells 1 _ rfl
 have x2:W.cell? ⟨b1,off+k * 8+2,none⟩=some (.bool n.fl):=wT.cells 2 _ rfl
 have x3:W.cell? ⟨b1,off+k * 8+3,none⟩=some (.slice aw mw cw):=wT.cells 3 _ rfl
 have x4:W.cell? ⟨b1,off+k * 8+4,none⟩=some (.int .i64 (n.st:Int)):=wT.cells 4 _ rfl
 have x5:W.cell? ⟨b1,off+k * 8+5,none⟩=some (.slice ar R cr):=wT.cells 5 _ rfl
 have x6:W.cell? ⟨b1,off+k * 8+6,none⟩=some (.slice ak mk ck):=wT.cells 6 _ rfl
 have x7:W.cell? ⟨b1,off+k * 8+7,none⟩=some (.int .i64 (n.ln:Int)):=wT.cells 7 _ rfl
 obtain ⟨w1,N,cU,hN,HX⟩:=gM h ht qH
 have HL:=Lib.hid hl
 obtain ⟨m,hmN⟩:∃m,Dx n.k=m:=⟨_,rfl⟩
 rw [hmN] at hm
 have HM:=Lib.hid hm
 have Tz:=Lib.hid sZ
 have HK:=Lib.hid hn
 have HR:=Lib.hid hR
 have HC:=Lib.hid hc
 have HCC:=Lib.hid hC
 have hr1:R≤100000:=by omega
 obtain ⟨w2,w3,w4,w5,w6,w7,w8,w9,lq,Lj,EX,GQ,tu,u1,u2,u3,u4,u5,u6,u7,u8,u9,u10,u11,u12,u13,Ek,hlk⟩:=all_map w1 (fun k=>Nk b (Dx k))
 have PX:(Instr.lookup zJ (.map (some w1.heap.size)) (.int .i64 (n.k:Int)) true).run Tryz.prog tu=.ok (.tuple #[.func (.func m) #[.pointer (some ⟨b,0,none⟩)] #[],.bool true]) tu:=by
  have:=hlk n.k hn.1 hn.2
  simp only [Nk,hmN] at this
  exact this
 simp only [Nk,Dx] at u1 u2 u3 u4 u5 u6 u7 u8 u9 u10 u11 u12 u13
 obtain ⟨fn,YR,hf2,hf3⟩:=hm.fn
 have hcf:=fun w'=>Rg.kE YR hf2 hf3 #[.pointer (some ⟨b,0,none⟩),.agg #[.int .i64 (n.k:Int),.string (str n.t),.bool n.fl,.slice aw mw cw,.int .i64 (n.st:Int),.slice ar R cr,.slice ak mk ck,.int .i64 (n.ln:Int)]] w'
 have QU:∀(fn:Fn) (first cap:Array Value) (w:World),(Instr.makeFunc fn first cap).run Tryz.prog w=.ok (.func fn first cap) w:=fun _ _ _ _=>rfl
 have Vs:∀w:World,(Instr.makeMap zJ none).run Tryz.prog w=.ok (.map (some w.heap.size)) (w.alloc (.map #[] 0)):=fun w=>run_makeMap _ w
 have Qv:=Lib.hid Ek
 clear h ht hl hm sZ hn hR hc hC hlk Ek hk hnd mB wT TF qH hmw Y2 jG hmN
 have a1:decide ((k:Int) < (0:Int))=false:=decide_eq_false (by omega)
 have a2:¬((k:Int) < (0:Int)):=by omega
 have d3:decide (L≤k)=false:=decide_eq_false (by omega)
 have d1:decide ((L:Int)≤(k:Int))=false:=decide_eq_false (by omega)
 have d2:¬((L:Int)≤(k:Int)):=by omega
 go_enter Tryz.func14,Tryz.ntmps14
 go_upto_region 3 with fail
 have zr:Hid (Below W.heap.size W tu):=HX.out.1.trans (Qv.out.mono HX.out.1.size)
 have MB:=Lib.hid (HX.out.2.2.2.below Qv.out)
 obtain ⟨c0,c1,c2,c3,c5,c6⟩:=MB.out.cells
 have c4:tu.cell? ⟨N,4,none⟩=some (.int .i64 (n.st:Int)):=by unfold World.cell?;simp only [MB.out.heap];rfl
 have c7:tu.cell? ⟨N,7,none⟩=some (.int .i64 (n.ln:Int)):=by unfold World.cell?;simp only [MB.out.heap];rfl
 have U1:Hid (Pr tu b B _ bv s):=HX.out.2.1.below Qv.out
 have TP:Hid (dX tu B _ l):=HX.out.2.2.1.below (Qv.out.mono HX.out.2.1.size)
 have HCa:=Lib.hid (HM.out.calls tu bv s _ _ _ U1.out TP.out MB.out.rows (by have:=HL.out;have:=HCC.out;split at this<;>omega))
 unfold qM at HCa
 clear u1 u2 u3 u4 u5 u6 u7 u8 u9 u10 u11 u12 u13 QU Vs x0 x1 x2 x3 x4 x5 x6 x7
 go_wp2_with fail
 refine HCa.out.mono ?_
 rintro r PE ⟨xE,rfl,nX,yT⟩
 have wK:Hid (Sx.aj b bv W xE PE):=(Sx.aj.of_below zr.out).trans nX
 have Dc:=Lib.hid yT
 have Uj:=Lib.hid (MB.out.turn U1.out nX)
 have Zcj:Hid (dX PE B _ l):=TP.out.below (bH U1.out nX)
 have LA:Hid (aT (f s)≤aT s+c):=HC.out s
 clear nX yT c0 c1 c2 c3 c4 c5 c6 c7 PX hcf YR hf2 hf3
 obtain ⟨c0,c1,c2,c3,c5,c6⟩:=Uj.out.cells
 by_cases JG:n.k=1
 ·
  have ZC:=Lib.hid JG
  have t1:((n.k:Int)==1)=true:=by rw [JG];rfl
  have t2:(n.k:Int)=1:=by rw [JG];rfl
  have t3:decide ((n.k:Int)=1)=true:=decide_eq_true t2
  clear JG
  go_wp2
  go_end0
  refine ⟨xE,rfl,wK.out,?_⟩
  exact Dc.out
 have ZC:Hid (¬n.k=1):=JG
 have t2:¬((n.k:Int)=1):=fun h=>JG (by omega)
 have t1:((n.k:Int)==1)=false:=beq_eq_false_iff_ne.2 t2
 have t3:decide ((n.k:Int)=1)=false:=decide_eq_false t2
 have ru:Hid (aT (f s)+bN.dW n.rs≤big):=by show _≤_;have h1:=HL.out;have h2:=HCC.out;have h3:=LA.out;rw [if_neg JG] at h2;omega
 clear JG
 have hRs:=OX Uj.out.rows.r Uj.out.rows.qr
 have UC:Hid (∀W',Below B PE W'→∀(j:Nat) (x:dZ),n.rs[j]? =some x→∃g,ar=some ⟨g,0,none⟩∧g < B∧(W'.cell? ⟨g,j * 4,none⟩=some (.int .i64 (x.fd:Int))∧W'.cell? ⟨g,j * 4+1,none⟩=some (.string (str x.o))∧W'.cell? ⟨g,j * 4+2,none⟩=some (.string (str x.w))∧W'.cell? ⟨g,j * 4+3,none⟩=some (.string (str x.b)))):=fun W' hb j x hj=>by
  obtain ⟨a',c',h1,h2⟩:=hRs.below hb
  rw [HR.out] at h1
  injection h1 with h1
  subst h1
  exact h2 j x hj
 clear hRs
 go_upto_region 8 with fail
 clear c0 c1 c2 c3 c5 c6 t1 t2 t3
 go_loopw [76] (fun v76 wr=>∃(i:Nat) (eL:Value) (s':PS),i≤R∧v76=.int .i64 (i:Int)∧Sx.aj b xE PE eL wr∧Pr wr b B (.slice ta L tc) eL s'∧iz n.rs (f s)=iz (n.rs.drop i) s'∧aT s'+bN.dW (n.rs.drop i)≤big) (fun v76 _=>R - LB v76)
 case atStart=>exact ⟨0,xE,f s,Nat.zero_le _,rfl,Sx.aj.refl _ _ _,Dc.out,rfl,ru.out⟩
 case round=>
  obtain ⟨i,eL,s',hi,rfl,hT,hP,h0,h1⟩:=hrel
  have HT:=Lib.hid hT
  have HP:=Lib.hid hP
  have H0:=Lib.hid h0
  have H1:=Lib.hid h1
  clear hT hP h0 h1
  by_cases kG:i < R
  case neg=>
   obtain rfl:i=R:=by omega
   have e3:decide (i < i)=false:=decide_eq_false (by omega)
   have e1:decide ((i:Int) < (i:Int))=false:=decide_eq_false (by omega)
   have e2:¬((i:Int) < (i:Int)):=by omega
   go_wp2_with fail
   go_end0
   refine ⟨eL,rfl,wK.out.trans HT.out,?_⟩
   rw [H0.out,List.drop_of_length_le (by rw [HR.out];exact Nat.le_refl _)]
   exact HP.out
  obtain ⟨x,hx⟩:∃x,n.rs[i]? =some x:=⟨_,List.getElem?_eq_getElem (by have:=HR.out;omega)⟩
  obtain ⟨g,Xp,Xt,x0,x1,x2,x3⟩:=UC.out wr (bH Dc.out HT.out) i x hx
  have HXi:=Lib.hid hx
  have vA:Hid (x∈n.rs):=List.mem_of_getElem? hx
  subst Xp
  clear hx
  have XI:=fun w'=>NQ (g:=g) (n:=R) (c:=cr) i kG w'
  have e3:decide (i < R)=true:=decide_eq_true (by omega)
  have e1:decide ((i:Int) < (R:Int))=true:=decide_eq_true (by omega)
  have e2:(i:Int) < (R:Int):=by omega
  have HD:Hid (n.rs.drop i=x::n.rs.drop (i+1)):=by
   have h2:=HXi.out
   obtain ⟨h3,h4⟩:=List.getElem?_eq_some_iff.1 h2
   show _=_
   rw [List.drop_eq_getElem_cons h3,h4]
  have Sm:Hid (aT s'+(1+gV x+bN.dW (n.rs.drop (i+1)))≤big):=by
   have:=H1.out
   rw [HD.out] at this
   have e:bN.dW (x::n.rs.drop (i+1))=(1+gV x)+bN.dW (n.rs.drop (i+1)):=by unfold Acc.dW;rw [List.map_cons,List.sum_cons];rfl
   rw [e] at this
   exact this
  go_upto_region 10 with fail
  obtain ⟨M,hM⟩:∃M,wr.heap.size=M:=⟨_,rfl⟩
  obtain ⟨wn,bu⟩:∃wn,wr.alloc (.cells #[.int .i64 (x.fd:Int),.string (str x.o),.string (str x.w),.string (str x.b)] gO)=wn:=⟨_,rfl⟩
  have hxn:=Ot bu hM
  have Vr:Below wr.heap.size wr wn:=by rw [←bu];exact (Below.refl _ _).alloc (Nat.le_refl _) _
  have Xj:Hid (Pr wn b B _ eL s'):=HP.out.below Vr
  have HTn:Hid (Sx.aj b xE PE eL wn):=HT.out.trans (Sx.aj.of_below Vr)
  have oA:=Lib.hid hxn
  have VI:=Lib.hid (Tz.out x vA.out)
  rw [bu,hM]
  clear x0 x1 x2 x3 bu hxn Vr hM e1 e2 e3
  have vn:=Lib.hid (cK wn b B _ eL s' Xj.out [32] (by have:=Sm.out;have:=eu s';simp only [List.length_cons,List.length_nil];omega))
  go_wp2_with fail
  refine vn.out.mono ?_
  rintro r w2 ⟨jA,rfl,ep,fh⟩
  have fK:=Lib.hid (HTn.out.trans ep)
  have hq:=Xj.out.not oA.out (by decide) (by decide)
  have hx2:=(ep.block M (Array.getElem?_eq_some_iff.1 oA.out).1 hq.1 hq.2).trans oA.out
  obtain ⟨y0,y1,y2,y3⟩:=bE hx2
  have LJ:=Lib.hid (iQ [32] s')
  have TH:=Lib.hid (iB w2 b B _ jA _ fh x VI.out.1 VI.out.2 (by have h1:=Sm.out;have h2:=LJ.out;simp only [List.length_cons,List.length_nil] at h2;omega))
  unfold ZH at TH
  clear ep fh hx2 hq
  go_wp2_with fail
  refine TH.out.mono ?_
  rintro r w3 ⟨qs,rfl,gI,lp⟩
  have jf:=Lib.hid (fK.out.trans gI)
  have UF:=Lib.hid lp
  clear gI lp
  go_wp2
  refine ⟨⟨i+1,qs,fX x (aG [32] s'),by omega,by simp,jf.out,UF.out,?_,?_⟩,?_⟩
  · rw [H0.out,HD.out];rfl
  ·
   have h5:aT (fX x (aG [32] s'))≤aT (aG [32] s')+gV x:=bN.rd x _
   have h1:=Sm.out
   have h2:=LJ.out
   simp only [List.length_cons,List.length_nil] at h2
   omega
  · simp [LB];omega
structure GZ (n:Nd):Prop where
 ws:n.ws.length≤100000
 rs:n.rs.length≤100000
 rd:∀x∈n.rs,x.fd≤99∧x.w.length≤100000
 ks:n.ks.length≤100000
theorem wj (m:Nat) (c:Nat→Nat):∀ks:List Nat,yI m c ks=(ks.length - 1) * m+(ks.map c).sum
 | []=>by simp [yI]
 | k::ks=>by
   have h:(ks.map fun k=>m+c k).sum=ks.length * m+(ks.map c).sum:=by
    induction ks with
    | nil=>simp
    | cons j ks ih=>rw [List.map_cons,List.sum_cons,List.map_cons,List.sum_cons,List.length_cons,Nat.succ_mul,ih];omega
   show c k+_=(ks.length+1 - 1) * m+(c k+(ks.map c).sum)
   rw [h,Nat.add_sub_cancel];omega
theorem Ht (c:Nat→Nat):∀ks:List Nat,(ks.map fun k=>c k+1).sum=ks.length+(ks.map c).sum
 | []=>rfl
 | k::ks=>by rw [List.map_cons,List.sum_cons,List.map_cons,List.sum_cons,List.length_cons,Ht c ks];omega
theorem Ez {n:Nd} (h:n.ks.length=1) (w:Nat→Nat):(n.ks.map w).sum=w (kid n 0):=by
 unfold kid
 match hk:n.ks with
 | [a]=>simp
 | []=>rw [hk] at h;simp at h
 | _::_::_=>rw [hk] at h;simp at h
theorem S2 {n:Nd} (h:n.ks.length=2) (w:Nat→Nat):(n.ks.map w).sum=w (kid n 0)+w (kid n 1):=by
 unfold kid
 match hk:n.ks with
 | [a,b]=>simp
 | []=>rw [hk] at h;simp at h
 | [_]=>rw [hk] at h;simp at h
 | _::_::_::_=>rw [hk] at h;simp at h
theorem Zam {n:Nd} (h:n.ks.length=3) (w:Nat→Nat):(n.ks.map w).sum=w (kid n 0)+w (kid n 1)+w (kid n 2):=by
 unfold kid
 match hk:n.ks with
 | [a,b,c]=>simp;omega
 | []=>rw [hk] at h;simp at h
 | [_]=>rw [hk] at h;simp at h
 | [_,_]=>rw [hk] at h;simp at h
 | _::_::_::_::_=>rw [hk] at h;simp at h
theorem pl (t:Nm):bN.p t=t.length:=rfl
theorem Wi {n:Nd} (h:n.k=1) (kd:Nat→Nat):bN.dr kd n=bN.ui n:=by
 unfold Acc.dr
 rw [if_pos h]
theorem UM {n:Nd} (h:n.k=1) (kd:Nat→Nat) (f:Nat→PS→PS) (s:PS):cZ kd f n s=Un.tK n s:=by
 unfold cZ
 rw [if_pos h]
theorem VC {n:Nd} (h:n.k=2) (kd:Nat→Nat):bN.dr kd n=(if n.fl then 2 else 0)+(n.ks.length - 1) * 3:=by
 unfold Acc.dr
 rw [if_neg (show ¬n.k=1 by omega)]
 rw [if_pos h]
 rfl
theorem WI {n:Nd} (h:n.k=2) (kd:Nat→Nat) (f:Nat→PS→PS) (s:PS):cZ kd f n s=iD [32,124,32] f n.ks (if n.fl then aG [33,32] s else s):=by
 unfold cZ
 rw [if_neg (show ¬n.k=1 by omega)]
 rw [if_pos h]
theorem UQ {n:Nd} (h:n.k=3) (kd:Nat→Nat):bN.dr kd n=(n.ks.length - 1) * 4:=by
 unfold Acc.dr
 rw [if_neg (show ¬n.k=1 by omega)]
 rw [if_neg (show ¬n.k=2 by omega)]
 rw [if_pos h]
 rfl
theorem WJ {n:Nd} (h:n.k=3) (kd:Nat→Nat) (f:Nat→PS→PS) (s:PS):cZ kd f n s=iD [32,38,38,32] f n.ks s:=by
 unfold cZ
 rw [if_neg (show ¬n.k=1 by omega)]
 rw [if_neg (show ¬n.k=2 by omega)]
 rw [if_pos h]
theorem VG {n:Nd} (h:n.k=4) (kd:Nat→Nat):bN.dr kd n=(n.ks.length - 1) * 4:=by
 unfold Acc.dr
 rw [if_neg (show ¬n.k=1 by omega)]
 rw [if_neg (show ¬n.k=2 by omega)]
 rw [if_neg (show ¬n.k=3 by omega)]
 rw [if_pos h]
 rfl
theorem Ug {n:Nd} (h:n.k=4) (kd:Nat→Nat) (f:Nat→PS→PS) (s:PS):cZ kd f n s=iD [32,124,124,32] f n.ks s:=by
 unfold cZ
 rw [if_neg (show ¬n.k=1 by omega)]
 rw [if_neg (show ¬n.k=2 by omega)]
 rw [if_neg (show ¬n.k=3 by omega)]
 rw [if_pos h]
theorem WW {n:Nd} (h:n.k=5) (kd:Nat→Nat):bN.dr kd n=n.ks.length:=by
 unfold Acc.dr
 rw [if_neg (show ¬n.k=1 by omega)]
 rw [if_neg (show ¬n.k=2 by omega)]
 rw [if_neg (show ¬n.k=3 by omega)]
 rw [if_neg (show ¬n.k=4 by omega)]
 rw [if_pos h]
theorem VH {n:Nd} (h:n.k=5) (kd:Nat→Nat) (f:Nat→PS→PS) (s:PS):cZ kd f n s=rj f n.ks s:=by
 unfold cZ
 rw [if_neg (show ¬n.k=1 by omega)]
 rw [if_neg (show ¬n.k=2 by omega)]
 rw [if_neg (show ¬n.k=3 by omega)]
 rw [if_neg (show ¬n.k=4 by omega)]
 rw [if_pos h]
theorem Ut {n:Nd} (h:n.k=6) (kd:Nat→Nat):bN.dr kd n=2+1+(4+1)+(if 2 < n.ks.length then 4+1+(if kd (kid n 2)=6 then 1 else 0) else 0)+2:=by
 unfold Acc.dr
 rw [if_neg (show ¬n.k=1 by omega)]
 rw [if_neg (show ¬n.k=2 by omega)]
 rw [if_neg (show ¬n.k=3 by omega)]
 rw [if_neg (show ¬n.k=4 by omega)]
 rw [if_neg (show ¬n.k=5 by omega)]
 rw [if_pos h]
 rfl
theorem V8 {n:Nd} (h:n.k=6) (kd:Nat→Nat) (f:Nat→PS→PS) (s:PS):cZ kd f n s=pd kd f n s:=by
 unfold cZ
 rw [if_neg (show ¬n.k=1 by omega)]
 rw [if_neg (show ¬n.k=2 by omega)]
 rw [if_neg (show ¬n.k=3 by omega)]
 rw [if_neg (show ¬n.k=4 by omega)]
 rw [if_neg (show ¬n.k=5 by omega)]
 rw [if_pos h]
theorem Ww {n:Nd} (h:n.k=7) (kd:Nat→Nat):bN.dr kd n=5+1+(2+1)+4:=by
 unfold Acc.dr
 rw [if_neg (show ¬n.k=1 by omega)]
 rw [if_neg (show ¬n.k=2 by omega)]
 rw [if_neg (show ¬n.k=3 by omega)]
 rw [if_neg (show ¬n.k=4 by omega)]
 rw [if_neg (show ¬n.k=5 by omega)]
 rw [if_neg (show ¬n.k=6 by omega)]
 rw [if_pos h]
 have:(if n.fl then [117,110,116,105,108] else [119,104,105,108,101]:Nm).length=5:=by split<;>rfl
 rw [pl,this]
 rfl
theorem Vu {n:Nd} (h:n.k=7) (kd:Nat→Nat) (f:Nat→PS→PS) (s:PS):cZ kd f n s=yu f n s:=by
 unfold cZ
 rw [if_neg (show ¬n.k=1 by omega)]
 rw [if_neg (show ¬n.k=2 by omega)]
 rw [if_neg (show ¬n.k=3 by omega)]
 rw [if_neg (show ¬n.k=4 by omega)]
 rw [if_neg (show ¬n.k=5 by omega)]
 rw [if_neg (show ¬n.k=6 by omega)]
 rw [if_pos h]
theorem VD {n:Nd} (h:n.k=8) (kd:Nat→Nat):bN.dr kd n=(4+n.t.length)+(if n.fl then 0 else (Lib.join ([32,105,110]::n.ws) [32]).length)+1+(2+1)+4:=by
 unfold Acc.dr
 rw [if_neg (show ¬n.k=1 by omega)]
 rw [if_neg (show ¬n.k=2 by omega)]
 rw [if_neg (show ¬n.k=3 by omega)]
 rw [if_neg (show ¬n.k=4 by omega)]
 rw [if_neg (show ¬n.k=5 by omega)]
 rw [if_neg (show ¬n.k=6 by omega)]
 rw [if_neg (show ¬n.k=7 by omega)]
 rw [if_pos h]
 simp only [pl,List.length_append,List.length_cons,List.length_nil]
 try omega
theorem UJ {n:Nd} (h:n.k=8) (kd:Nat→Nat) (f:Nat→PS→PS) (s:PS):cZ kd f n s=px f n s:=by
 unfold cZ
 rw [if_neg (show ¬n.k=1 by omega)]
 rw [if_neg (show ¬n.k=2 by omega)]
 rw [if_neg (show ¬n.k=3 by omega)]
 rw [if_neg (show ¬n.k=4 by omega)]
 rw [if_neg (show ¬n.k=5 by omega)]
 rw [if_neg (show ¬n.k=6 by omega)]
 rw [if_neg (show ¬n.k=7 by omega)]
 rw [if_pos h]
theorem VJ {n:Nd} (h:n.k=9) (kd:Nat→Nat):bN.dr kd n=(n.t.length+8)+1+(n.ks.length - 1) * 0+4:=by
 unfold Acc.dr
 rw [if_neg (show ¬n.k=1 by omega)]
 rw [if_neg (show ¬n.k=2 by omega)]
 rw [if_neg (show ¬n.k=3 by omega)]
 rw [if_neg (show ¬n.k=4 by omega)]
 rw [if_neg (show ¬n.k=5 by omega)]
 rw [if_neg (show ¬n.k=6 by omega)]
 rw [if_neg (show ¬n.k=7 by omega)]
 rw [if_neg (show ¬n.k=8 by omega)]
 rw [if_pos h]
 simp only [pl,List.length_append,List.length_cons,List.length_nil]
 omega
theorem UE {n:Nd} (h:n.k=9) (kd:Nat→Nat) (f:Nat→PS→PS) (s:PS):cZ kd f n s=xe f n s:=by
 unfold cZ
 rw [if_neg (show ¬n.k=1 by omega)]
 rw [if_neg (show ¬n.k=2 by omega)]
 rw [if_neg (show ¬n.k=3 by omega)]
 rw [if_neg (show ¬n.k=4 by omega)]
 rw [if_neg (show ¬n.k=5 by omega)]
 rw [if_neg (show ¬n.k=6 by omega)]
 rw [if_neg (show ¬n.k=7 by omega)]
 rw [if_neg (show ¬n.k=8 by omega)]
 rw [if_pos h]
theorem RJ {n:Nd} (h:n.k=10) (kd:Nat→Nat):bN.dr kd n=((Lib.join n.ws [124]).length+2)+1+2+1:=by
 unfold Acc.dr
 rw [if_neg (show ¬n.k=1 by omega)]
 rw [if_neg (show ¬n.k=2 by omega)]
 rw [if_neg (show ¬n.k=3 by omega)]
 rw [if_neg (show ¬n.k=4 by omega)]
 rw [if_neg (show ¬n.k=5 by omega)]
 rw [if_neg (show ¬n.k=6 by omega)]
 rw [if_neg (show ¬n.k=7 by omega)]
 rw [if_neg (show ¬n.k=8 by omega)]
 rw [if_neg (show ¬n.k=9 by omega)]
 rw [if_pos h]
 simp only [pl,List.length_append,List.length_cons,List.length_nil]
 omega
theorem QL {n:Nd} (h:n.k=10) (kd:Nat→Nat) (f:Nat→PS→PS) (s:PS):cZ kd f n s=xf f n s:=by
 unfold cZ
 rw [if_neg (show ¬n.k=1 by omega)]
 rw [if_neg (show ¬n.k=2 by omega)]
 rw [if_neg (show ¬n.k=3 by omega)]
 rw [if_neg (show ¬n.k=4 by omega)]
 rw [if_neg (show ¬n.k=5 by omega)]
 rw [if_neg (show ¬n.k=6 by omega)]
 rw [if_neg (show ¬n.k=7 by omega)]
 rw [if_neg (show ¬n.k=8 by omega)]
 rw [if_neg (show ¬n.k=9 by omega)]
 rw [if_pos h]
theorem Rx {n:Nd} (h:n.k=11) (kd:Nat→Nat):bN.dr kd n=1+1+1:=by
 unfold Acc.dr
 rw [if_neg (show ¬n.k=1 by omega)]
 rw [if_neg (show ¬n.k=2 by omega)]
 rw [if_neg (show ¬n.k=3 by omega)]
 rw [if_neg (show ¬n.k=4 by omega)]
 rw [if_neg (show ¬n.k=5 by omega)]
 rw [if_neg (show ¬n.k=6 by omega)]
 rw [if_neg (show ¬n.k=7 by omega)]
 rw [if_neg (show ¬n.k=8 by omega)]
 rw [if_neg (show ¬n.k=9 by omega)]
 rw [if_neg (show ¬n.k=10 by omega)]
 rw [if_pos h]
 rfl
theorem Qc {n:Nd} (h:n.k=11) (kd:Nat→Nat) (f:Nat→PS→PS) (s:PS):cZ kd f n s=aG [125] (aQ [123] (f (kid n 0)) s):=by
 unfold cZ
 rw [if_neg (show ¬n.k=1 by omega)]
 rw [if_neg (show ¬n.k=2 by omega)]
 rw [if_neg (show ¬n.k=3 by omega)]
 rw [if_neg (show ¬n.k=4 by omega)]
 rw [if_neg (show ¬n.k=5 by omega)]
 rw [if_neg (show ¬n.k=6 by omega)]
 rw [if_neg (show ¬n.k=7 by omega)]
 rw [if_neg (show ¬n.k=8 by omega)]
 rw [if_neg (show ¬n.k=9 by omega)]
 rw [if_neg (show ¬n.k=10 by omega)]
 rw [if_pos h]
theorem Qa {n:Nd} (h:n.k=12) (kd:Nat→Nat):bN.dr kd n=1+1+1:=by
 unfold Acc.dr
 rw [if_neg (show ¬n.k=1 by omega)]
 rw [if_neg (show ¬n.k=2 by omega)]
 rw [if_neg (show ¬n.k=3 by omega)]
 rw [if_neg (show ¬n.k=4 by omega)]
 rw [if_neg (show ¬n.k=5 by omega)]
 rw [if_neg (show ¬n.k=6 by omega)]
 rw [if_neg (show ¬n.k=7 by omega)]
 rw [if_neg (show ¬n.k=8 by omega)]
 rw [if_neg (show ¬n.k=9 by omega)]
 rw [if_neg (show ¬n.k=10 by omega)]
 rw [if_neg (show ¬n.k=11 by omega)]
 rw [if_pos h]
 rfl
theorem Si {n:Nd} (h:n.k=12) (kd:Nat→Nat) (f:Nat→PS→PS) (s:PS):cZ kd f n s=aG [41] (aQ [40] (f (kid n 0)) s):=by
 unfold cZ
 rw [if_neg (show ¬n.k=1 by omega)]
 rw [if_neg (show ¬n.k=2 by omega)]
 rw [if_neg (show ¬n.k=3 by omega)]
 rw [if_neg (show ¬n.k=4 by omega)]
 rw [if_neg (show ¬n.k=5 by omega)]
 rw [if_neg (show ¬n.k=6 by omega)]
 rw [if_neg (show ¬n.k=7 by omega)]
 rw [if_neg (show ¬n.k=8 by omega)]
 rw [if_neg (show ¬n.k=9 by omega)]
 rw [if_neg (show ¬n.k=10 by omega)]
 rw [if_neg (show ¬n.k=11 by omega)]
 rw [if_pos h]
theorem QF {n:Nd} (h:n.k=13) (kd:Nat→Nat):bN.dr kd n=n.t.length+3:=by
 unfold Acc.dr
 rw [if_neg (show ¬n.k=1 by omega)]
 rw [if_neg (show ¬n.k=2 by omega)]
 rw [if_neg (show ¬n.k=3 by omega)]
 rw [if_neg (show ¬n.k=4 by omega)]
 rw [if_neg (show ¬n.k=5 by omega)]
 rw [if_neg (show ¬n.k=6 by omega)]
 rw [if_neg (show ¬n.k=7 by omega)]
 rw [if_neg (show ¬n.k=8 by omega)]
 rw [if_neg (show ¬n.k=9 by omega)]
 rw [if_neg (show ¬n.k=10 by omega)]
 rw [if_neg (show ¬n.k=11 by omega)]
 rw [if_neg (show ¬n.k=12 by omega)]
 simp only [pl,List.length_append,List.length_cons,List.length_nil]
theorem Sd {n:Nd} (h:n.k=13) (kd:Nat→Nat) (f:Nat→PS→PS) (s:PS):cZ kd f n s=f (kid n 0) (aG (n.t++[40,41,32]) s):=by
 unfold cZ
 rw [if_neg (show ¬n.k=1 by omega)]
 rw [if_neg (show ¬n.k=2 by omega)]
 rw [if_neg (show ¬n.k=3 by omega)]
 rw [if_neg (show ¬n.k=4 by omega)]
 rw [if_neg (show ¬n.k=5 by omega)]
 rw [if_neg (show ¬n.k=6 by omega)]
 rw [if_neg (show ¬n.k=7 by omega)]
 rw [if_neg (show ¬n.k=8 by omega)]
 rw [if_neg (show ¬n.k=9 by omega)]
 rw [if_neg (show ¬n.k=10 by omega)]
 rw [if_neg (show ¬n.k=11 by omega)]
 rw [if_neg (show ¬n.k=12 by omega)]
theorem MV (l:List Nd) (b B:Nat) (tv:Value) (ht:Tr l) (hl:l.length≤50000) (k:Nat) (n:Nd) (hk:l[k]? =some n) (hn:GZ n) (ih:∀j∈n.ks,lD l b B tv (j:Int) (cL l j) (qo (bN.fB l) l j)):
 Ts (Dx n.k) l b B tv n (cZ (en l) (cL l) n) (bN.dr (en l) n+(n.ks.map (qo (bN.fB l) l)).sum):=by
 obtain ⟨W5,yY⟩:=List.getElem?_eq_some_iff.1 hk
 have gQ:n∈l:=List.mem_of_getElem? hk
 obtain ⟨h6,h7,h8,⟨JG,h1⟩,E0⟩:=ht.fits n gQ
 have lx:∀j∈n.ks,j < l.length:=fun j hj=>by
  have:=ht.kids k W5 j (by rw [yY];exact hj)
  omega
 have hc:∀j∈n.ks,∀s,aT (cL l j s)≤aT s+qo (bN.fB l) l j:=fun j hj s=>bN.cL ht j (lx j hj) s
 have Pz:n.k=1∨n.k=2∨n.k=3∨n.k=4∨n.k=5∨n.k=6∨n.k=7∨n.k=8∨n.k=9∨n.k=10∨n.k=11∨n.k=12∨n.k=13:=by omega
 rcases Pz with e1 | e2 | e3 | e4 | e5 | e6 | e7 | e8 | e9 | uW | e11 | zg | Qd
 ·
  rw [e1,Wi e1]
  refine ⟨⟨_,Tryz.func26,by kernel_rfl,by kernel_rfl⟩,fun W bv s uw ur uk hp qm hr hle=>?_⟩
  rw [UM e1]
  exact ni W b B tv bv s l hp qm n uw ur uk hr hn.rs hn.ws hn.rd (by omega)
 ·
  rw [e2,VC e2]
  refine ⟨⟨_,Tryz.func27,by kernel_rfl,by kernel_rfl⟩,fun W bv s uw ur uk hp qm hr hle=>?_⟩
  rw [WI e2]
  exact Gi W b B tv bv s l hp qm n uw ur uk hr _ _ ih hc hn.ks (by rw [wj];omega)
 ·
  rw [e3,UQ e3]
  refine ⟨⟨_,Tryz.func28,by kernel_rfl,by kernel_rfl⟩,fun W bv s uw ur uk hp qm hr hle=>?_⟩
  rw [WJ e3]
  exact Jw W b B tv bv s l hp qm n uw ur uk hr _ _ ih hc hn.ks (by rw [wj];omega)
 ·
  rw [e4,VG e4]
  refine ⟨⟨_,Tryz.func29,by kernel_rfl,by kernel_rfl⟩,fun W bv s uw ur uk hp qm hr hle=>?_⟩
  rw [Ug e4]
  exact MH W b B tv bv s l hp qm n uw ur uk hr _ _ ih hc hn.ks (by rw [wj];omega)
 ·
  rw [e5,WW e5]
  refine ⟨⟨_,Tryz.func30,by kernel_rfl,by kernel_rfl⟩,fun W bv s uw ur uk hp qm hr hle=>?_⟩
  rw [VH e5]
  exact JV W b B tv bv s l hp qm n uw ur uk hr _ _ ih hc hn.ks (by rw [Ht];omega)
 ·
  rw [e6,Ut e6]
  refine ⟨⟨_,Tryz.func31,by kernel_rfl,by kernel_rfl⟩,fun W bv s uw ur uk hp qm hr hle=>?_⟩
  rw [V8 e6]
  rcases h6 e6 with h2 | h3
  ·
   rw [S2 h2,if_neg (by omega)] at hle
   exact CJ W b B tv bv s l hp qm n uw ur uk hr h2 _ _ ih hc (by omega)
  ·
   rw [Zam h3,if_pos (by omega)] at hle
   exact CU W b B tv bv s l hp qm n uw ur uk hr h3 _ _ ih hc (lx _ (bV (by omega))) (by omega)
 ·
  rw [e7,Ww e7]
  refine ⟨⟨_,Tryz.func32,by kernel_rfl,by kernel_rfl⟩,fun W bv s uw ur uk hp qm hr hle=>?_⟩
  rw [Vu e7]
  rw [S2 (h7 e7)] at hle
  exact nM W b B tv bv s l hp qm n uw ur uk hr (h7 e7) _ _ ih hc (by omega)
 ·
  rw [e8,VD e8]
  refine ⟨⟨_,Tryz.func33,by kernel_rfl,by kernel_rfl⟩,fun W bv s uw ur uk hp qm hr hle=>?_⟩
  rw [UJ e8]
  rw [Ez (h8 (.inl e8))] at hle
  cases hf:n.fl with
  | true=>
    rw [hf] at hle
    exact xy W b B tv bv s l hp qm n uw ur uk hr (h8 (.inl e8)) hf hn.ws _ _ ih hc (by simp only [if_true] at hle;omega)
  | false=>
    rw [hf] at hle
    exact zu W b B tv bv s l hp qm n uw ur uk hr (h8 (.inl e8)) hf hn.ws _ _ ih hc (by simp only [Bool.false_eq_true,if_false] at hle;omega)
 ·
  rw [e9,VJ e9]
  refine ⟨⟨_,Tryz.func34,by kernel_rfl,by kernel_rfl⟩,fun W bv s uw ur uk hp qm hr hle=>?_⟩
  rw [UE e9]
  have hbt:=bN.iD [] (f:=cL l) (w:=qo (bN.fB l) l) hc (mA (aG ([99,97,115,101,32]++n.t++[32,105,110]) s))
  have hb2:aT (iD [] (cL l) n.ks (mA (aG ([99,97,115,101,32]++n.t++[32,105,110]) s)))≤aT (mA (aG ([99,97,115,101,32]++n.t++[32,105,110]) s))+((n.ks.length - 1) * 0+(n.ks.map (qo (bN.fB l) l)).sum):=hbt
  rw [ny,iQ] at hb2
  simp only [List.length_append,List.length_cons,List.length_nil] at hb2
  exact pC W b B tv bv s l hp qm n uw ur uk hr _ _ ih hc (by omega) hn.ks (by rw [wj];omega)
 ·
  rw [uW,RJ uW]
  refine ⟨⟨_,Tryz.func35,by kernel_rfl,by kernel_rfl⟩,fun W bv s uw ur uk hp qm hr hle=>?_⟩
  rw [QL uW]
  rw [Ez (h8 (.inr (by omega)))] at hle
  exact ri W b B tv bv s l hp qm n uw ur uk hr (h8 (.inr (by omega))) (by have:=hn.ws;unfold big;omega) _ _ ih hc (by omega)
 ·
  rw [e11,Rx e11]
  refine ⟨⟨_,Tryz.func36,by kernel_rfl,by kernel_rfl⟩,fun W bv s uw ur uk hp qm hr hle=>?_⟩
  rw [Qc e11]
  rw [Ez (h8 (.inr (by omega)))] at hle
  exact pG W b B tv bv s l hp qm n uw ur uk hr (h8 (.inr (by omega))) _ _ (ih _ (bV (by have:=h8 (.inr (by omega));omega))) (hc _ (bV (by have:=h8 (.inr (by omega));omega))) (by omega)
 ·
  rw [zg,Qa zg]
  refine ⟨⟨_,Tryz.func37,by kernel_rfl,by kernel_rfl⟩,fun W bv s uw ur uk hp qm hr hle=>?_⟩
  rw [Si zg]
  rw [Ez (h8 (.inr (by omega)))] at hle
  exact uo W b B tv bv s l hp qm n uw ur uk hr (h8 (.inr (by omega))) _ _ (ih _ (bV (by have:=h8 (.inr (by omega));omega))) (hc _ (bV (by have:=h8 (.inr (by omega));omega))) (by omega)
 ·
  rw [Qd,QF Qd]
  refine ⟨⟨_,Tryz.func38,by kernel_rfl,by kernel_rfl⟩,fun W bv s uw ur uk hp qm hr hle=>?_⟩
  rw [Sd Qd]
  rw [Ez (h8 (.inr (by omega)))] at hle
  exact lj W b B tv bv s l hp qm n uw ur uk hr (h8 (.inr (by omega))) _ _ (ih _ (bV (by have:=h8 (.inr (by omega));omega))) (by omega)
theorem Ja (l:List Nd) (b B:Nat) (tv:Value) (ht:Tr l) (hl:l.length≤50000) (hs:∀n∈l,GZ n):∀k,k < l.length→lD l b B tv (k:Int) (cL l k) (qo (bN.fB l) l k):=by
 intro k
 induction k using Nat.strongRecOn with
 | _ k ih=>
   intro hk
   have yY:=List.getElem?_eq_getElem hk
   obtain ⟨n,hn⟩:∃n,l[k]=n:=⟨_,rfl⟩
   rw [hn] at yY
   have gQ:n∈l:=List.mem_of_getElem? yY
   have hsm:=hs n gQ
   obtain ⟨h6,h7,h8,⟨JG,h1⟩,E0⟩:=ht.fits n gQ
   have lx:∀j∈n.ks,j < k:=fun j hj=>ht.kids k hk j (by rw [hn];exact hj)
   have hm:=MV l b B tv ht hl k n yY hsm (fun j hj=>ih j (lx j hj) (by have:=lx j hj;omega))
   have hb:∀s,aT (cZ (en l) (cL l) n s)≤aT s+(bN.dr (en l) n+(n.ks.map (qo (bN.fB l) l)).sum):=fun s=>bN.body (en l) (ht.fits n gQ) (f:=cL l) (w:=qo (bN.fB l) l) (fun j hj s=>bN.cL ht j (by have:=lx j hj;omega) s) s
   have hw:=Fa (c:=bN.fB l) ht yY
   have hC:qo (bN.fB l) l k=bN.dr (en l) n+(n.ks.map (qo (bN.fB l) l)).sum+(if n.k=1 then 0 else bN.dW n.rs):=by
    rw [hw]
    have:bN.fB l n=bN.dr (en l) n+(if n.k=1 then 0 else bN.dW n.rs):=rfl
    rw [this]
    omega
   have hall:=rp l b B tv k n yY ⟨JG,E0⟩ hsm.rs hsm.rd _ _ _ hm hb hC
   have he:(fun s=>if n.k=1 then cZ (en l) (cL l) n s else iz n.rs (cZ (en l) (cL l) n s))=cL l k:=funext fun s=>(tA ht yY s).symm
   rw [he] at hall
   exact hall
end Go.Proofs.YtiklkhbfilbpeaaGreatDoor.Ux
