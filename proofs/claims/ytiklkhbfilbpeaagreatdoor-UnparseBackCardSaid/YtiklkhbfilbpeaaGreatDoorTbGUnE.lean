import Derived.Test.YtiklkhbfilbpeaaGreatDoorTbGUnD
import Derived.Test.YtiklkhbfilbpeaaGreatDoorTbLxRead
import Derived.Test.YtiklkhbfilbpeaaGreatDoorTbGSyC
import Derived.Test.YtiklkhbfilbpeaaGreatDoorTbGSyG
import Derived.Test.YtiklkhbfilbpeaaGreatDoorTbGUnA
import Derived.Test.YtiklkhbfilbpeaaGreatDoorTbSyGood
set_option maxRecDepth 100000
set_option maxHeartbeats 16000000
set_option linter.unusedVariables false
set_option linter.unusedSimpArgs false
namespace Go.Proofs.YtiklkhbfilbpeaaGreatDoor.Ux
open Go.RowKit Base Lx Sy Sx Un
theorem JU (l:List Nd) (b B:Nat) (tv:Value) (k:Nat) (h:l.length≤k) (hk:k≤1000000):lD l b B tv (k:Int) (fun s=>s) 0:=by
 intro W bv s hp ht hl
 obtain ⟨ta,tc,E1,b1,off,hnd,mB⟩:=fZ ht.row
 obtain ⟨L,hL⟩:∃L,l.length=L:=⟨_,rfl⟩
 rw [hL] at E1 h
 subst E1
 obtain ⟨aa,TF⟩:=hp.any
 have p0:=(eC TF.box).1.1
 have HP:=Lib.hid hp
 clear hp ht hl hnd mB TF hL
 have a1:decide ((k:Int) < (0:Int))=false:=decide_eq_false (by omega)
 have a2:¬((k:Int) < (0:Int)):=by omega
 have d3:decide (L≤k)=true:=decide_eq_true (by omega)
 have d1:decide ((L:Int)≤(k:Int))=true:=decide_eq_true (by omega)
 have d2:(L:Int)≤(k:Int):=by omega
 go_enter Tryz.func14,Tryz.ntmps14
 go_wp2_with fail
 go_end0
 exact ⟨bv,rfl,Sx.aj.refl _ _ _,HP.out⟩
theorem Oz {W:World} {tv:Value}:∃w1 b,W.alloc (.cells #[tv,.pointer none,.slice none 0 0,.string ⟨#[]⟩] PQ)=w1∧W.heap.size=b∧Pr w1 b W.heap.size tv (.slice none 0 0) ([],[])∧Below W.heap.size W w1:=by
 obtain ⟨w1,N,h1,h2,h3,h4,h5⟩:=ei W #[tv,.pointer none,.slice none 0 0,.string ⟨#[]⟩] PQ
 refine ⟨w1,N,h1,h2,.inl ⟨h3,by omega,?_⟩,by rw [h2];exact h4⟩
 exact ⟨rfl,.inl ⟨rfl,rfl⟩⟩
structure tJ (l:List Nd):Prop where
 tr:Tr l
 few:l.length≤50000
 small:∀n∈l,GZ n
 cost:(l.map (bN.fB l)).sum≤big
theorem Oi:tJ []:=⟨⟨fun j h=>absurd h (Nat.not_lt_zero _),fun n h=>absurd h List.not_mem_nil,fun i h=>absurd h (Nat.not_lt_zero _)⟩,by decide,fun n h=>absurd h List.not_mem_nil,by decide⟩
theorem rq (W:World) (B0:Nat) (P0:Nat→Prop) (tv:Value) (l:List Nd) (hr:lu W B0 P0 tv l) (hP:∀g,P0 g→g < W.heap.size) (hl:tJ l):Calls Tryz.prog 7 #[.agg #[tv]] W fun r W'=>r=.returned (.string (str (gK l)))∧Below W.heap.size W W':=by
 have qm:dX W W.heap.size tv l:=by
  refine ⟨(hr.mono (Nat.zero_le _)).less (fun g h1 h2=>h2),fun g hg=>?_⟩
  obtain ⟨zs,_,h2,_⟩:=hr
  exact (h2.lt g hg).2
 obtain ⟨ta,tc,E1,_⟩:=fZ hr
 obtain ⟨L,hL⟩:∃L,l.length=L:=⟨_,rfl⟩
 rw [hL] at E1
 subst E1
 obtain ⟨wa,T,Xm,hT,Sk,Lf,hsa⟩:=ei W #[.slice ta L tc] 25
 obtain ⟨w1,b,gZ,hb1,yT,xh⟩:=Oz (W:=wa) (tv:=.slice ta L tc)
 have Dc:=Lib.hid yT
 have zr:Hid (Below W.heap.size W w1):=by show Below _ _ _;rw [hT];exact Lf.trans (xh.mono (by omega))
 have Wc:Hid (dX w1 wa.heap.size (.slice ta L tc) l):=by
  have h1:dX w1 W.heap.size (.slice ta L tc) l:=qm.below zr.out
  have hsz:W.heap.size≤wa.heap.size:=by omega
  exact ⟨h1.row.less (fun g h2 _=>by omega),fun g hg=>by have:=h1.low g hg;omega⟩
 have hx1:w1.heap[T]? =some (.cells #[.slice ta L tc] 25):=(xh.block T (Array.getElem?_eq_some_iff.1 Sk).1).trans Sk
 obtain ⟨m0,n0⟩:=cell_of hx1
 obtain ⟨ma,na⟩:=cell_of Sk
 have T2:L≤50000:=by rw [←hL];exact hl.few
 have HL:=Lib.hid hL
 have kF:=Lib.hid hl
 have Zap:=Lib.hid (xd w1 ta L tc (by omega))
 have xc:Hid (W.heap.size≤wa.heap.size):=by show _≤_;omega
 clear hr hP qm Sk Lf hsa yT xh hl hL hx1
 go_enter Tryz.func7,Tryz.ntmps7
 go_wp2_with fail
 refine Zap.out.mono ?_
 rintro r w2 ⟨rfl,hb2⟩
 have E8:Hid (Pr w2 b wa.heap.size (.slice ta L tc) (.slice none 0 0) ([],[])):=Dc.out.below hb2
 have C8:Hid (dX w2 wa.heap.size (.slice ta L tc) l):=Wc.out.below (hb2.mono Dc.out.size)
 have dp:Hid (Below W.heap.size W w2):=zr.out.trans (hb2.mono zr.out.size)
 have Vn:Hid (Calls Tryz.prog 14 #[.pointer (some ⟨b,0,none⟩),.int .i64 ((L:Int) - 1)] w2 fun r W'=>∃eL s',r=.returned (.tuple #[])∧Sx.aj b (.slice none 0 0) w2 eL W'∧Pr W' b wa.heap.size (.slice ta L tc) eL s'∧s'.1=gK l):=by
  by_cases hz:L=0
  ·
   have hnil:l=[]:=List.eq_nil_of_length_eq_zero (HL.out.trans hz)
   have h1:=yn l b wa.heap.size (.slice ta L tc) w2 (.slice none 0 0) ([],[]) E8.out C8.out (by decide)
   have e:(L:Int) - 1=-1:=by omega
   rw [e]
   refine h1.mono ?_
   rintro r W' ⟨eL,h2,h3,h4⟩
   exact ⟨eL,_,h2,h3,h4,by rw [hnil];rfl⟩
  ·
   have vk:l≠[]:=fun e=>hz (by rw [←HL.out,e];rfl)
   have h1:=Ja l b wa.heap.size (.slice ta L tc) kF.out.tr kF.out.few kF.out.small (L - 1) (by rw [HL.out];omega) w2 (.slice none 0 0) ([],[]) E8.out C8.out (by
    have:=Dg (c:=bN.fB l) kF.out.tr vk
    rw [HL.out] at this
    rw [this]
    have h2:=kF.out.cost
    show 0+_≤big
    omega)
   have e:(L:Int) - 1=((L - 1:Nat):Int):=by omega
   rw [e]
   refine h1.mono ?_
   rintro r W' ⟨eL,h2,h3,h4⟩
   refine ⟨eL,_,h2,h3,h4,?_⟩
   unfold gK
   rw [if_neg vk,HL.out]
 clear hb2 m0 n0 ma na gZ Xm
 go_wp2_with fail
 refine Vn.out.mono ?_
 rintro r w3 ⟨qs,s3,rfl,gI,lp,hs3⟩
 have ku:Hid (Below W.heap.size W w3):=dp.out.trans ((bH E8.out gI).mono xc.out)
 have Sb:=Lib.hid (sr w3 b wa.heap.size (.slice ta L tc) qs s3 lp)
 rw [hs3] at Sb
 clear gI lp hs3
 go_wp2_with fail
 refine Sb.out.mono ?_
 rintro r w4 ⟨rfl,hb4⟩
 have iE:Hid (Below W.heap.size W w4):=ku.out.trans (hb4.mono xc.out)
 clear hb4
 go_wp2
 go_ret
 exact ⟨rfl,iE.out⟩
def Bx (t:Nm):Nm:=match cutAt 10 t with
 | none=>t
 | some x=>x.1
theorem uG (W:World) (B0:Nat) (P0:Nat→Prop) (tv:Value) (l:List Nd) (hr:lu W B0 P0 tv l) (hP:∀g,P0 g→g < W.heap.size) (hL5:l.length≤50000) (k:Nat) (f:PS→PS) (c:Nat) (hc:c≤1000000) (hk:∀(b B:Nat),lD l b B tv (k:Int) f c) (hlen:(f ([],[])).1.length≤1000000):Calls Tryz.prog 10 #[.agg #[tv],.int .i64 (k:Int)] W fun r W'=>r=.returned (.string (str (Bx (f ([],[])).1)))∧Below W.heap.size W W':=by
 have qm:dX W W.heap.size tv l:=by
  refine ⟨(hr.mono (Nat.zero_le _)).less (fun g h1 h2=>h2),fun g hg=>?_⟩
  obtain ⟨zs,_,h2,_⟩:=hr
  exact (h2.lt g hg).2
 have HK:=Lib.hid hk
 obtain ⟨ta,tc,E1,_⟩:=fZ hr
 obtain ⟨L,hL⟩:∃L,l.length=L:=⟨_,rfl⟩
 rw [hL] at E1
 subst E1
 obtain ⟨wa,T,Xm,hT,Sk,Lf,hsa⟩:=ei W #[.slice ta L tc] 25
 obtain ⟨w1,b,gZ,hb1,yT,xh⟩:=Oz (W:=wa) (tv:=.slice ta L tc)
 have Dc:=Lib.hid yT
 have zr:Hid (Below W.heap.size W w1):=by show Below _ _ _;rw [hT];exact Lf.trans (xh.mono (by omega))
 have Wc:Hid (dX w1 wa.heap.size (.slice ta L tc) l):=by
  have h1:dX w1 W.heap.size (.slice ta L tc) l:=qm.below zr.out
  have hsz:W.heap.size≤wa.heap.size:=by omega
  exact ⟨h1.row.less (fun g h2 _=>by omega),fun g hg=>by have:=h1.low g hg;omega⟩
 have hx1:w1.heap[T]? =some (.cells #[.slice ta L tc] 25):=(xh.block T (Array.getElem?_eq_some_iff.1 Sk).1).trans Sk
 obtain ⟨m0,n0⟩:=cell_of hx1
 obtain ⟨ma,na⟩:=cell_of Sk
 have xc:Hid (W.heap.size≤wa.heap.size):=by show _≤_;omega
 have dO:=Lib.hid hlen
 have Vn:=Lib.hid (hk b wa.heap.size w1 (.slice none 0 0) ([],[]) Dc.out Wc.out (by show 0+c≤big;unfold big;omega))
 clear hr hP qm Sk Lf hsa yT xh hL hx1 hk hlen hL5
 go_enter Tryz.func10,Tryz.ntmps10
 go_wp2_with fail
 refine Vn.out.mono ?_
 rintro r w3 ⟨qs,rfl,gI,lp⟩
 have ku:Hid (Below W.heap.size W w3):=zr.out.trans ((bH Dc.out gI).mono xc.out)
 have Sb:=Lib.hid (sr w3 b wa.heap.size (.slice ta L tc) qs _ lp)
 clear gI lp m0 n0 ma na gZ Xm
 go_wp2_with fail
 refine Sb.out.mono ?_
 rintro r w4 ⟨rfl,hb4⟩
 have iE:Hid (Below W.heap.size W w4):=ku.out.trans (hb4.mono xc.out)
 obtain ⟨o,ho⟩:∃o,(f ([],[])).1=o:=⟨_,rfl⟩
 have Vh:o.length≤1000000:=by rw [←ho];exact dO.out
 have QQ:=Lib.hid (kK w4 o 10 Vh)
 have HO:=Lib.hid ho
 rw [ho]
 clear hb4 ho
 cases hcut:cutAt 10 o with
 | none=>
   rw [hcut] at QQ
   go_wp2_with fail
   refine QQ.out.mono ?_
   rintro r w5 ⟨rfl,q,hq⟩
   have jw:Hid (Below W.heap.size W w5):=by show Below _ _ _;rw [hq];exact ⟨iE.out.os,iE.out.tape,iE.out.output,iE.out.size,iE.out.block⟩
   clear hq
   go_wp2
   go_ret
   refine ⟨?_,jw.out⟩
   rw [HO.out]
   unfold Bx
   rw [hcut]
   rfl
 | some x=>
   rw [hcut] at QQ
   go_wp2_with fail
   refine QQ.out.mono ?_
   rintro r w5 ⟨rfl,q,hq⟩
   have jw:Hid (Below W.heap.size W w5):=by show Below _ _ _;rw [hq];exact ⟨iE.out.os,iE.out.tape,iE.out.output,iE.out.size,iE.out.block⟩
   clear hq
   go_wp2
   go_ret
   refine ⟨?_,jw.out⟩
   rw [HO.out]
   unfold Bx
   rw [hcut]
   rfl
abbrev zl:List Nd:=[{ k:=1,ws:=[[97]],ln:=1 },{ k:=1,ws:=[[98]],rs:=[⟨1,[62],[102],[]⟩],ln:=1 },{ k:=5,ks:=[0,1],ln:=1 }]
theorem ZbG:cI [97,59,98,32,62,102]=.ok zl:=by rfl
theorem Ir:tJ zl where
 tr:={
  kids:=by
   intro j hj k hk
   match j,hj with
   | 0,_=>cases hk
   | 1,_=>cases hk
   | 2,_=>simp at hk;rcases hk with rfl | rfl<;>decide
  fits:=by
   intro n hn
   simp only [List.mem_cons,List.not_mem_nil,or_false] at hn
   rcases hn with rfl | rfl | rfl<;>(unfold Gy;simp)
  one:=by
   intro i hi
   match i,hi with
   | 0,_=>rfl
   | 1,_=>rfl
   | 2,_=>rfl }
 few:=by decide
 small:=by
  intro n hn
  simp only [List.mem_cons,List.not_mem_nil,or_false] at hn
  rcases hn with rfl | rfl | rfl<;>(constructor<;>simp)
 cost:=by decide+kernel
theorem SG:gK zl=[97,10,49,62,102,32,98,10]:=by decide+kernel
theorem Jp:cL zl 1 ([],[])=([49,62,102,32,98],[]):=by decide+kernel
theorem Kk:Bx [49,62,102,32,98]=[49,62,102,32,98]:=by decide+kernel
theorem WL:gK []=[]:=rfl
theorem Qe:qo (bN.fB zl) zl 1≤1000000:=by decide+kernel
theorem Bp (W:World) (hO:Gl W):Calls Tryz.prog 5 #[] W fun e w'=>e=.returned (.bool true)∧Below W.heap.size W w':=by
 have HO:=Lib.hid hO
 have e1:((str [97,10,49,62,102,32,98,10]).toList==[97,10,49,62,102,32,98,10])=true:=by rw [lX];rfl
 have e2:((str [49,62,102,32,98]).toList==[49,62,102,32,98])=true:=by rw [lX];rfl
 have e3:((str []).toList==[])=true:=by rw [lX];rfl
 clear hO
 go_enter Tryz.func5,Tryz.ntmps5
 go_wp2_with fail
 refine (pn W [97,59,98,32,62,102] (by decide) HO.out.sig HO.out.glb).mono ?_
 rintro r w1 ⟨hb1,hr⟩
 rw [ZbG] at hr
 obtain ⟨v,rfl,hrow⟩:=hr
 obtain ⟨a,c,hv,_⟩:=fZ hrow
 subst hv
 have hl3:zl.length=3:=rfl
 rw [hl3] at hrow ⊢
 obtain ⟨w2,M,hw2,hM,hx2,hb2,hs2⟩:=ei w1 #[.slice a 3 c] BJ
 have dp:Hid (Below W.heap.size W w2):=hb1.trans (hb2.mono (by have:=hb1.size;omega))
 obtain ⟨m0,n0⟩:=cell_of hx2
 have hrow2:lu w2 0 (fun g=>g < w2.heap.size) (.slice a 3 c) zl:=by
  have h1:dX w1 w1.heap.size (.slice a 3 c) zl:=by
   refine ⟨(hrow.mono (Nat.zero_le _)).less (fun g h1 h2=>h2),fun g hg=>?_⟩
   obtain ⟨zs,_,h2,_⟩:=hrow
   exact (h2.lt g hg).2
  have h2:=h1.below (by rw [hM];exact hb2)
  exact h2.row.less (fun g h1 h2=>h2)
 have Ed:=Lib.hid hx2
 have TJ:=Lib.hid (rq w2 0 _ _ zl hrow2 (fun g h=>h) Ir)
 rw [SG] at TJ
 have TB:=Lib.hid hrow2
 clear hb1 hrow hb2 hx2 hrow2
 go_wp2_with fail
 refine TJ.out.mono ?_
 rintro r w3 ⟨rfl,hb3⟩
 have hx3:=(hb3.block M (Array.getElem?_eq_some_iff.1 Ed.out).1).trans Ed.out
 obtain ⟨m3,n3⟩:=cell_of hx3
 have hrow3:lu w3 0 (fun g=>g < w3.heap.size) (.slice a 3 c) zl:=by
  have h1:dX w2 w2.heap.size (.slice a 3 c) zl:=by
   refine ⟨TB.out,fun g hg=>?_⟩
   obtain ⟨zs,_,h2,_⟩:=TB.out
   exact (h2.lt g hg).2
  exact (h1.below hb3).row.less (fun g h1 h2=>h2)
 have TN:=Lib.hid hrow3
 have T7:=Lib.hid hx3
 have ku:Hid (Below W.heap.size W w3):=dp.out.trans (hb3.mono dp.out.size)
 have ZU:Hid (Calls Tryz.prog 10 #[.agg #[.slice a 3 c],.int .i64 1] w3 fun r W'=>r=.returned (.string (str [49,62,102,32,98]))∧Below w3.heap.size w3 W'):=by
  have h1:=uG w3 0 _ (.slice a 3 c) zl hrow3 (fun g h=>h) (by decide) 1 (cL zl 1) (qo (bN.fB zl) zl 1) Qe (fun b B=>Ja zl b B _ Ir.tr Ir.few Ir.small 1 (by decide)) (by rw [Jp];decide)
  rw [Jp,Kk] at h1
  exact h1
 clear hb3 hrow3 hx3 m0 n0 hw2 hM
 go_wp2_with fail
 refine ZU.out.mono ?_
 rintro r w4 ⟨rfl,hb4⟩
 have SV:=(hb4.block M (Array.getElem?_eq_some_iff.1 T7.out).1).trans T7.out
 obtain ⟨m4,n4⟩:=cell_of SV
 have hrow4:lu w4 0 (fun g=>g < w4.heap.size) (.slice a 3 c) zl:=by
  have h1:dX w3 w3.heap.size (.slice a 3 c) zl:=by
   refine ⟨TN.out,fun g hg=>?_⟩
   obtain ⟨zs,_,h2,_⟩:=TN.out
   exact (h2.lt g hg).2
  exact (h1.below hb4).row.less (fun g h1 h2=>h2)
 have iE:Hid (Below W.heap.size W w4):=ku.out.trans (hb4.mono ku.out.size)
 have U9:Hid (Calls Tryz.prog 10 #[.agg #[.slice a 3 c],.int .i64 9] w4 fun r W'=>r=.returned (.string (str []))∧Below w4.heap.size w4 W'):=
  uG w4 0 _ (.slice a 3 c) zl hrow4 (fun g h=>h) (by decide) 9 (fun s=>s) 0 (by decide) (fun b B=>JU zl b B _ 9 (by decide) (by decide)) (by decide)
 clear hb4 hrow4 SV m3 n3
 go_wp2_with fail
 refine U9.out.mono ?_
 rintro r w5 ⟨rfl,ll⟩
 have jw:Hid (Below W.heap.size W w5):=iE.out.trans (ll.mono iE.out.size)
 have M0:=Lib.hid (rq w5 0 (fun g=>g < w5.heap.size) (.slice none 0 0) [] ⟨[],rfl,World.ownsRow_nil _ _ _ _,fun x hx=>absurd hx List.not_mem_nil⟩ (fun g h=>h) Oi)
 rw [WL] at M0
 clear ll m4 n4
 go_wp2_with fail
 refine M0.out.mono ?_
 rintro r w6 ⟨rfl,iY⟩
 have Bv:Hid (Below W.heap.size W w6):=jw.out.trans (iY.mono jw.out.size)
 clear iY
 go_wp2
 go_ret
 exact ⟨rfl,Bv.out⟩
theorem SD {n:Nd} (h:Fits n):Gy n:=by
 unfold Fits at h
 unfold Gy
 rcases h with ⟨h1,h2,_⟩ | ⟨h1,_⟩ | ⟨h1,h2⟩ | ⟨h1,h2⟩ | ⟨h1,h2⟩ | h1
 · exact ⟨fun h=>by omega,fun h=>by omega,fun h=>by omega,⟨by omega,fun _=>h2⟩,by omega⟩
 · exact ⟨fun h=>by omega,fun h=>by omega,fun h=>by omega,⟨by omega,fun h=>by omega⟩,by omega⟩
 · exact ⟨fun h=>by omega,fun h=>h2,fun h=>by omega,⟨by omega,fun h=>by omega⟩,by omega⟩
 · exact ⟨fun h=>h2,fun h=>by omega,fun h=>by omega,⟨by omega,fun h=>by omega⟩,by omega⟩
 · exact ⟨fun h=>by omega,fun h=>by omega,fun h=>h2,⟨by omega,fun h=>by omega⟩,by omega⟩
 · exact ⟨fun h=>by omega,fun h=>by omega,fun h=>by omega,⟨by omega,fun h=>by omega⟩,by omega⟩
theorem Yv {l:List Nd} (h:Sx.Good l):Tr l:=⟨h.kids,fun n hn=>SD (h.fits n hn),h.one⟩
theorem BQ {s:Nm} {l:List Nd} (hs:s.length≤4096) (h:cI s=.ok l):tJ l∧(gK l).length≤8000000000000:=by
 have hg:=Gt hs h
 have ht:=Yv hg
 have hlen:=K9 hs h
 obtain ⟨L,hL⟩:∃L,allM s=.ok L:=by
  unfold cI at h
  split at h
  · cases h
  · rename_i L hL;exact ⟨L,hL⟩
 have hnp:=MJ hL h
 have hM:L.length≤5001:=by
  have:=((oN hs).1 L hL).2
  omega
 have hT:∀t,TT s.length t→t.t.length+t.b.length≤s.length:=fun t h=>h
 have hwb:=El hT hM hs ht hlen hnp
 refine ⟨⟨ht,hlen,fun n hn=>?_,by unfold big;omega⟩,?_⟩
 ·
  have h1:=hnp n hn
  have h2:=Db ht hn
  refine ⟨by have:=h1.wl;omega,by have:=h1.rl;omega,fun x hx=>?_,by omega⟩
  have h3:=D8 hT hs h1 x hx
  exact ⟨h3.2.1,by have:=h3.2.2.2.1;omega⟩
 ·
  by_cases hn:l=[]
  · subst hn;exact Nat.zero_le _
  ·
   have h1:aT (cL l (l.length - 1) ([],[]))≤aT ([],[])+(l.map (bN.fB l)).sum:=bN.whole ht hn ([],[])
   unfold gK
   rw [if_neg hn]
   have h2:=eu (cL l (l.length - 1) ([],[]))
   have h3:aT (([],[]):PS)=0:=rfl
   omega
end Go.Proofs.YtiklkhbfilbpeaaGreatDoor.Ux
