import Derived.Test.YtiklkhbfilbpeaaGreatDoorTbGSyE
set_option maxRecDepth 100000
set_option maxHeartbeats 16000000
set_option linter.unusedVariables false
set_option linter.unusedSimpArgs false
namespace Go.Proofs.YtiklkhbfilbpeaaGreatDoor.Sx
open Go.RowKit Base Lx Sy
theorem ri {nest:S→Sy.P Nat} {d:Nat} (E:Env nest d) (hL:jh nest d) (W:World) (b B:Nat) (P:Nat→Prop) (v:Value) (s:S) (h:Rd W b B P v s d) (hP:∀g,W.heap.size≤g→P g) (hF:ph s≤80000):
 Calls Tryz.prog 153 #[.pointer (some ⟨b,0,none⟩)] W (Post eN W b B P v d (cA nest s)):=by
 have HR:=Lib.hid h
 have HE:Hid (Env nest d):=E
 have yE:Hid (jh nest d):=hL
 have HP:Hid (∀g,W.heap.size≤g→P g):=hP
 have HV:Hid (∀g,v.ownBlock=some g→B≤g):=fun g hg=>(h.own g hg).1
 obtain ⟨fl,ot⟩:∃fl,aV 2 [[40]] s=fl:=⟨_,rfl⟩
 have U3:=Lib.hid ot
 obtain ⟨s1,hs1⟩:∃s1,(if fl=true then tk s else s)=s1:=⟨_,rfl⟩
 have E2:=Lib.hid hs1
 have rH:Hid (ph s1+0≤80000):=by rw [←hs1];have:=gg s;split<;>(show _≤_;omega)
 obtain ⟨ln,vk⟩:∃ln,(nx s).ln=ln:=⟨_,rfl⟩
 obtain ⟨Z,hZ⟩:∃Z,cA nest s=Z:=⟨_,rfl⟩
 have nb:Hid (Z=bd (cC s1) fun w s1=>bd (aB (aV 2 [[124]]) qy [w] s1) fun ws s2=>bd (aP 2 [[41]] s2) fun _ s3=>bd (aO nest true s3) fun k s4=>Sy.bC { k:=10,ws:=ws,ks:=[k],ln:=ln } s4):=by
  show _=_
  rw [←hZ,←hs1,←ot,←vk]
  rfl
 have F3:=jD (nx s)
 rw [vk] at F3
 rw [hZ]
 clear h hP hF hZ E hL ot hs1 vk
 go_enter Tryz.func153,Tryz.ntmps153
 go_wp2_with fail
 refine (a8 W b B P v s d HR.out).mono ?_
 rintro r w2 ⟨rfl,hb2⟩
 have gR:=Lib.hid (HR.out.below hb2)
 have LG:Hid (aj b v W v w2):=aj.of_below hb2
 have DA:Hid (Below B W w2):=hb2.mono HR.out.size
 have dp:Hid (∀g,w2.heap.size≤g→P g):=fun g hg=>HP.out g (Nat.le_trans hb2.size hg)
 clear hb2
 go_upto_region 2 with fail
 obtain ⟨n0,eP⟩:∃n0:Nd,n0={ k:=10,ln:=ln }:=⟨_,rfl⟩
 obtain ⟨w3,hw3,E9,hb3⟩:=Mid.start gR.out n0 (by rw [eP]) (by rw [eP]) (by rw [eP])
 obtain ⟨N,hN⟩:∃N,w2.heap.size=N:=⟨_,rfl⟩
 have sJ:w2.alloc (.cells #[.int .i64 10,.string ⟨#[]⟩,.bool false,.slice none 0 0,.int .i64 0,.slice none 0 0,.slice none 0 0,.int .i64 (ln:Int)] gv)=w3:=by rw [eP] at hw3;exact hw3
 rw [sJ,hN]
 rw [hN] at E9
 have Jz:=Lib.hid E9
 have oz:=Lib.hid eP
 clear hw3 E9 hb3 sJ hN F3 eP
 go_wp2_with fail
 refine (jX w3 b B _ v s d Jz.out.bx.rd 2 [[40]] (by decide)).mono ?_
 rintro r w4 ⟨rfl,hb4⟩
 rw [show aV 2 [[40]] s=fl from U3.out]
 have qA:=Lib.hid (Jz.out.below ((Below.refl _ _).trans hb4))
 clear hb4
 go_upto_if 10 with fail
 go_cut [] (fun wx=>Mid w2 v wx b B P v s1 d N n0 (.slice none 0 0) (.slice none 0 0) (.slice none 0 0))
 case first=>
  cases fl with
  | false=>
    have h2:s1=s:=by rw [←E2.out,if_neg (by decide)]
    go_wp2_with fail
    go_meet
    rw [h2]
    exact qA.out
  | true=>
    have h2:tk s=s1:=by rw [←E2.out,if_pos rfl]
    go_wp2_with fail
    refine (bm w4 b B _ v s d qA.out.bx.rd).mono ?_
    rintro r w5 ⟨rfl,ES,Ch⟩
    have ve:=Lib.hid (qA.out.step ES Ch)
    rw [h2] at ve
    clear ES Ch h2
    go_wp2_with fail
    go_meet
    exact ve.out
 case rest=>
  have N4:=Lib.hid hcut
  clear hcut Jz qA
  go_wp2_with fail
  refine (iA wc b B _ v s1 d N4.out.bx.rd).mono ?_
  rintro r w4 hp
  rcases av hp with ⟨er,cy,rfl,df⟩ | ⟨y,u9,v4,aI,rfl,he,ht,hr⟩
  ·
   have hz:Z=.error er:=by rw [nb.out,cy];rfl
   exact ⟨rfl,cg hz ((DA.out.trans (N4.out.belowB HV.out)).trans df)⟩
  have bX:u9=.string (str y.1):=he
  subst bX
  have qA:=Lib.hid (N4.out.step ht hr)
  have HX4:=Lib.hid aI
  have W7:Hid (Z=bd (aB (aV 2 [[124]]) qy [y.1] y.2) fun ws s2=>bd (aP 2 [[41]] s2) fun _ s3=>bd (aO nest true s3) fun k s4=>Sy.bC { k:=10,ws:=ws,ks:=[k],ln:=ln } s4):=by show _=_;rw [nb.out,aI];rfl
  have sj:Hid (ph y.2+8≤80000):=by have jN:=rH.out;have h8:=eH y aI;show _≤_;omega
  clear hp he ht hr aI
  obtain ⟨wL6,w6,Ze,xl,my,fj⟩:=qA.out.new_w y.1
  have Zcm:w4.alloc (.cells #[.string (str y.1)] eZ)=wL6:=Ze
  obtain ⟨n6,bO⟩:∃n2:Nd,{ n0 with ws:=[y.1] }=n2:=⟨_,rfl⟩
  rw [bO] at fj
  have dA:=Lib.hid bO
  have qO:=Lib.hid fj
  obtain ⟨⟨x0,x1,x2,x3,x4,x5,x6,x7⟩,z0,z1,z2,z3,z4,z5,z6,z7⟩:=af my
  clear Ze fj bO my
  have sY:=Lib.hid dA.out
  clear dA
  go_wp2_with fail
  clear x0 x1 x2 x3 x4 x5 x6 x7 z0 z1 z2 z3 z4 z5 z6 z7
  obtain ⟨n1,uz⟩:∃n1:Nd,n1=n0:=⟨_,rfl⟩
  have qB:=Lib.hid uz
  have X9:Hid (n6={ n1 with ws:=[y.1] }):=by show _=_;rw [←sY.out,qB.out,oz.out]
  have LZ:=Lib.hid qO.out.bx.rd.ok.few
  have EY:Hid (ph y.2+8≤80000):=sj.out
  clear uz
  go_loopw [] (fun wr=>∃(s':S) (ws:List Nm) (v' uw:Value) (m:Nd),aB (aV 2 [[124]]) qy ws s'=aB (aV 2 [[124]]) qy [y.1] y.2∧m={ n1 with ws:=ws }∧Mid w2 v wr b B P v' s' d N m uw (.slice none 0 0) (.slice none 0 0)∧ph s'+8≤80000∧ws.length+s'.2.length≤10001) (fun wr=>kh wr b)
  case atStart=>exact ⟨_,[y.1],_,_,n6,rfl,X9.out,qO.out,EY.out,by have:=LZ.out;simp only [List.length_singleton];omega⟩
  case round=>
   obtain ⟨s',ws,v',uw,m,hrun,tW,hm,zh,hfw⟩:=hrel
   have je:=Lib.hid hrun
   have wU:=Lib.hid tW
   have lU:=Lib.hid hm
   have qJ:=Lib.hid zh
   have Zk:=Lib.hid hfw
   clear hrun tW hm zh hfw
   go_wp2_with fail
   refine (jX wr b B _ v' s' d lU.out.bx.rd 2 [[124]] (by decide)).mono ?_
   rintro r ql ⟨rfl,D7⟩
   have oh:=Lib.hid (lU.out.below ((Below.refl _ _).trans D7))
   clear D7
   obtain ⟨z31,Fp⟩:∃z,aV 2 [[124]] s'=z:=⟨_,rfl⟩
   have xZ:=Lib.hid Fp
   rw [Fp]
   clear Fp
   cases z31 with
   | true=>
     have eO:Hid (aB (aV 2 [[124]]) qy [y.1] y.2=bd (bd (cC (tk s')) fun w s=>.ok (ws++[w],s)) (aB (aV 2 [[124]]) qy)):=by show _=_;rw [←je.out,bF mL oL,if_pos xZ.out]
     have oq:Hid (Z=bd (bd (bd (cC (tk s')) fun w s=>.ok (ws++[w],s)) (aB (aV 2 [[124]]) qy)) fun ws s2=>bd (aP 2 [[41]] s2) fun _ s3=>bd (aO nest true s3) fun k s4=>Sy.bC { k:=10,ws:=ws,ks:=[k],ln:=ln } s4):=by show _=_;rw [W7.out,eO.out]
     go_wp2_with fail
     refine (bm ql b B _ v' s' d oh.out.bx.rd).mono ?_
     rintro r yG ⟨rfl,YO,Ys⟩
     have mj:=Lib.hid (oh.out.step YO Ys)
     clear YO Ys
     have qE:Hid (ph (tk s')+16≤80000):=by have jN:=qJ.out;have h8:=fS (s:=s') (by rw [dD xZ.out];decide);show _≤_;omega
     go_upto_region 7 with fail
     obtain ⟨PL,hX⟩:∃X,cC (tk s')=X:=⟨_,rfl⟩
     have Z3:=Lib.hid hX
     have dO:Hid (m.ws.length≤100000):=by show _≤_;rw [wU.out];show ws.length≤_;have:=Zk.out;omega
     have et:Hid (∀x,Rd x b B (gG P N uw (.slice none 0 0) (.slice none 0 0)) v' (tk s') d→yG.heap.size≤x.heap.size→Calls Tryz.prog 134 #[.pointer (some ⟨b,0,none⟩)] x (Post eS x b B (gG P N uw (.slice none 0 0) (.slice none 0 0)) v' d PL)):=fun x hr hs=>by
      rw [←hX]
      exact iA x b B _ v' (tk s') d hr
     have sP:=hX
     clear hX
     have HM:=mj
     obtain ⟨i0,iy,hz0,hz1,hz2⟩:=info_parts pS
     have yL:Hid (∀g,Value.ownBlock (uw)=some g→g < yG.heap.size):=fun g hg=>(HM.out.rows.w.lt g hg).2
     refine Rp.cq (fun ch x=>∃e,PL=.error e∧mI e.1 e.2=Ending.panicked ch∧Below B yG x) 6 [] [Rg.Is (.pointer (some ⟨N,3,none⟩)),Rg.Is (uw),Rg.Is (.pointer (some ⟨b,0,none⟩)),(fun u9 (x:World)=>∃y,PL=.ok y∧u9=sv y.1),(fun u9 x=>∃q,u9=.slice (some ⟨q,0,none⟩) 1 1∧yG.heap.size≤q∧(∃y,PL=.ok y∧x.heap[q]? =some (.cells #[sv y.1] eZ))∧yG.heap.size < x.heap.size),(fun u9 x=>∃y v9,PL=.ok y∧MidA w2 v x b B P v9 y.2 d N (m) ({ m with ws:=m.ws++[y.1] }) uw (.slice none 0 0) (.slice none 0 0) u9 (.slice none 0 0) (.slice none 0 0)∧yG.heap.size < x.heap.size)] (fun _ _=>True) (fun ls x=>(ls 3=false→x.heap.size=yG.heap.size∧Below yG.heap.size yG x)∧(ls 3=true→ls 5=false→∃y v9,PL=.ok y∧Mid w2 v x b B P v9 y.2 d N (m) uw (.slice none 0 0) (.slice none 0 0)∧yG.heap.size≤x.heap.size)) (fun k x y=>if k=3 then x.heap.size=yG.heap.size else if k=5 then x.grownBy y (Value.ownBlock (uw)) else (Below x.heap.size x y∧(k=4∨y.heap.size=x.heap.size))) (by kernel_rfl) (by kernel_rfl) (of_decide_eq_true (by kernel_rfl)) (by kernel_rfl) (by kernel_rfl) trivial ⟨fun _=>⟨rfl,rfl,rfl,rfl,Nat.le_refl _,fun _ _=>rfl⟩,fun h=>by cases h⟩ (fun ls mC x e h1=>⟨fun h2=>h1.1 (by rw [e];exact h2),fun h2 h3=>h1.2 (by rw [e];exact h2) (by rw [e];exact h3)⟩) (fun _ _ _ _ _=>trivial) (fun i ls x _ h1=>by rw [show ([]:List Bool).getD i true=true from rfl] at h1;cases h1) ?_ ⟨rfl,rfl,rfl,rfl,rfl,rfl,trivial⟩ ⟨?_,?_,?_,?_,?_,?_,trivial⟩ ?_ ?_
     ·
      intro i k u8 x y9 hik _ h1 hK
      match i,h1,hik with
      | 0,h1,_=>exact h1
      | 1,h1,_=>exact h1
      | 2,h1,_=>exact h1
      | 3,h1,_=>exact h1
      | 4,h1,hik=>
        obtain ⟨q,hq,nj,⟨y,aI,iK⟩,hlt⟩:=h1
        have rB:=(Array.getElem?_eq_some_iff.1 iK).1
        by_cases k3:k=3
        · rw [if_pos k3] at hK;omega
        ·
         rw [if_neg k3] at hK
         by_cases k5:k=5
         ·
          rw [if_pos k5] at hK
          exact ⟨q,hq,nj,⟨y,aI,(hK.block q rB (fun e=>by have:=yL.out q e.symm;omega)).trans iK⟩,Nat.lt_of_lt_of_le hlt hK.size⟩
         ·
          rw [if_neg k5] at hK
          exact ⟨q,hq,nj,⟨y,aI,(hK.1.block q rB).trans iK⟩,Nat.lt_of_lt_of_le hlt hK.1.size⟩
      | 5,h1,hik=>
        obtain ⟨y,v9,aI,hA,hlt⟩:=h1
        by_cases k3:k=3
        · rw [if_pos k3] at hK;omega
        ·
         rw [if_neg k3,if_neg (fun e=>hik e.symm)] at hK
         exact ⟨y,v9,aI,hA.below hK.1,Nat.lt_of_lt_of_le hlt hK.1.size⟩
      | _+6,_,_=>trivial
     ·
      intro _ b9 x ls hR hS ai bI bf hk
      have h3:b9.eval (.tmp 3)=.pointer (some ⟨N,0,none⟩):=Eq.mp (by kernel_rfl) (hk 3 (by decide))
      refine Rp.ag ?_
      exact Rs.aR _ _ h3 (by have:=j6 N 0 3 (by decide) x;rw [Nat.zero_add] at this;exact this) ⟨by rw [if_neg (by decide),if_neg (by decide)];exact ⟨Below.refl _ _,.inr rfl⟩,rfl,⟨fun hh=>hS.1 hh,fun h2 h3=>hS.2 h2 h3⟩⟩
     ·
      intro _ b9 x ls hR hS ai bI bf hk
      have Ua:b9.eval (.tmp 22)=.pointer (some ⟨N,3,none⟩):=Eq.mp (by kernel_rfl) (hk 22 (by decide))
      have l5:ls 5=false:=bf [] 5 _ rfl (by kernel_rfl)
      have hc:x.cell? ⟨N,3,none⟩=some (uw):=by
       cases l3:ls 3 with
       | false=>have hm:=HM.out.below (hS.1 l3).2;simp [World.cell?,hm.bx.box]
       | true=>obtain ⟨y,v9,aI,hm,hsz⟩:=hS.2 l3 l5;simp [World.cell?,hm.bx.box]
      refine Rp.ag ?_
      exact Rg.aK _ _ Ua (Ap.aW (by simp [isAgg]) hc) ⟨by rw [if_neg (by decide),if_neg (by decide)];exact ⟨Below.refl _ _,.inr rfl⟩,rfl,⟨fun hh=>hS.1 hh,fun h2 h3=>hS.2 h2 h3⟩⟩
     ·
      intro _ b9 x ls hR hS ai bI bf hk
      have h0:b9.eval (.tmp 0)=.pointer (some ⟨b,0,none⟩):=Eq.mp (by kernel_rfl) (hk 0 (by decide))
      refine Rp.ag ?_
      exact Rg.az ⟨by rw [if_neg (by decide),if_neg (by decide)];exact ⟨Below.refl _ _,.inr rfl⟩,h0,⟨fun hh=>hS.1 hh,fun h2 h3=>hS.2 h2 h3⟩⟩
     ·
      intro _ b9 x ls hR hS ai bI bf hk
      have UZ:b9.eval (.tmp 24)=.pointer (some ⟨b,0,none⟩):=Eq.mp (by kernel_rfl) (hk 24 (by decide))
      obtain ⟨hsz,hb⟩:=hS.1 ai
      have hm:=HM.out.below hb
      refine Rp.bW #[.pointer (some ⟨b,0,none⟩)] Tryz.func134 (by kernel_rfl) (by kernel_rfl) (by simp [UZ,show ∀v,b9.eval (.const v)=v from fun _=>rfl]) (et.out x hm.bx.rd hb.size) ?_
      intro e w' hp
      rcases av hp with ⟨er,cy,rfl,df⟩ | ⟨y,u9,v9,aI,rfl,he,ht,hr⟩
      · exact .inr ⟨_,rfl,er,cy,rfl,(hb.mono HM.out.bx.rd.size).trans df⟩
      · exact .inl ⟨u9,rfl,by rw [if_pos rfl];exact hsz,⟨y,aI,he⟩,⟨fun hh=>by simp [Rs.upd] at hh,fun _ _=>⟨y,v9,aI,hm.step ht hr,by have:=ht.size;omega⟩⟩⟩
     ·
      intro _ b9 x ls hR hS ai bI bf hk
      have Qp:(fun u9 (x:World)=>∃y,PL=.ok y∧u9=sv y.1) (b9.eval (.tmp 25)) x:=Eq.mp (by kernel_rfl) (hk 25 (by decide))
      have l3:ls 3=true:=bI [] 3 (by kernel_rfl)
      have l5:ls 5=false:=bf [] 5 _ rfl (by kernel_rfl)
      obtain ⟨y,v9,aI,hm,hsz⟩:=hS.2 l3 l5
      obtain ⟨y2,gi,he⟩:=Qp
      have lC:y2=y:=Except.ok.inj (gi.symm.trans aI)
      subst lC
      have cU:=(Below.refl x.heap.size x).alloc (Nat.le_refl _) (.cells #[sv y2.1] eZ)
      refine Rp.ag ?_
      exact Rg.di #[(0,sv y2.1)] _ (by simp [he]) (by go_simp;rfl) ⟨by rw [if_neg (by decide),if_neg (by decide)];exact ⟨cU,.inl rfl⟩,⟨x.heap.size,rfl,hsz,⟨y2,aI,heap_alloc_new x _⟩,by rw [World.size_alloc];omega⟩,⟨fun hh=>absurd (l3.symm.trans hh) (by decide),fun _ _=>⟨y2,v9,aI,hm.below cU,by rw [World.size_alloc];omega⟩⟩⟩
     ·
      intro _ b9 x ls hR hS ai bI bf hk
      have UY:b9.eval (.tmp 23)=uw:=Eq.mp (by kernel_rfl) (hk 23 (by decide))
      have OU:(fun u9 x=>∃q,u9=.slice (some ⟨q,0,none⟩) 1 1∧yG.heap.size≤q∧(∃y,PL=.ok y∧x.heap[q]? =some (.cells #[sv y.1] eZ))∧yG.heap.size < x.heap.size) (b9.eval (.tmp 26)) x:=Eq.mp (by kernel_rfl) (hk 26 (by decide))
      have l3:ls 3=true:=bI [] 3 (by kernel_rfl)
      obtain ⟨y,v9,aI,hm,hsz⟩:=hS.2 l3 ai
      obtain ⟨q,hq,nj,⟨y2,gi,iK⟩,hlt⟩:=OU
      have lC:y2=y:=Except.ok.inj (gi.symm.trans aI)
      subst lC
      obtain ⟨u9,w',hrun,hown',hgr,hat⟩:=Ap.bR (P:=Tryz.prog) x 0 33 33 33 eZ i0 _ 1 16 Tryz.underlying33 (bw Tryz.underlying33) iy hz0 hz1 hz2 rfl (by decide) (by decide) (uw) _ _ hm.rows.w (b9.eval (.tmp 26)) 1 ([sv y2.1]) (by rw [hq];exact cP (b:=q) (off:=0) rfl (by intro u hu;obtain rfl:=List.mem_singleton.1 hu;rfl) (.inr rfl) (fun i z hi=>by rw [Nat.zero_add];unfold World.cell?;simp only [iK];simpa using hi)) (by unfold maxLen;have:=dO.out;omega) (by have:=dO.out;omega) (Nat.zero_le _)
      refine Rp.ag ?_
      exact Ap.cR (uw) _ u9 w' UY rfl hrun ⟨by rw [if_neg (by decide),if_pos rfl];exact hgr,⟨y2,v9,aI,hm.app_w y2.1 hgr hown' hat,Nat.lt_of_lt_of_le hlt hgr.size⟩,⟨fun hh=>absurd (l3.symm.trans hh) (by decide),fun _ hh=>by simp [Rs.upd] at hh⟩⟩
     ·
      intro ch a' w' yN hD
      obtain ⟨er,cy,A8,qU⟩:=hD
      refine ⟨yN,?_⟩
      rw [←A8]
      have hz:Z=.error er:=by rw [oq.out,sP,cy];rfl
      exact cg hz ((DA.out.trans (HM.out.belowB HV.out)).trans qU)
     intro vals wD ls _ uj _ hL
     obtain ⟨g0,g1,g2,g3,g4,g5,_⟩:=hL
     obtain ⟨q,v35,aI,hA,_⟩:=(g5:(fun u9 x=>∃y v9,PL=.ok y∧MidA w2 v x b B P v9 y.2 d N (m) ({ m with ws:=m.ws++[y.1] }) uw (.slice none 0 0) (.slice none 0 0) u9 (.slice none 0 0) (.slice none 0 0)∧yG.heap.size < x.heap.size) (vals 5) wD)
     clear g0 g1 g2 g3 g4 uj
     obtain ⟨Y9,bO⟩:∃n2:Nd,{ m with ws:=m.ws++[q.1] }=n2:=⟨_,rfl⟩
     rw [bO] at hA
     have dA:=Lib.hid bO
     simp only [Rg.bh,List.take_succ_cons,List.take_zero,List.drop_succ_cons,List.drop_zero,List.setIfInBounds_toArray,List.set_cons_succ,List.set_cons_zero]
     generalize vals 0=g0 at *
     generalize vals 1=g1 at *
     generalize vals 2=g2 at *
     generalize vals 3=g3 at *
     generalize vals 4=g4 at *
     generalize vals 5=u9 at *
     obtain ⟨a35,c35,wq,_⟩:=aA hA.rows.w
     subst wq
     obtain ⟨Tx,ZcB,fj⟩:=hA.set 3 (.slice a35 Y9.ws.length c35) (by rw [←dA.out];rfl)
     obtain ⟨⟨x0,x1,x2,x3,x4,x5,x6,x7⟩,z0,z1,z2,z3,z4,z5,z6,z7⟩:=af hA.bx.box
     have tS:=Lib.hid fj
     have ox:=Lib.hid aI
     clear hA fj aI i0 iy hz0 hz1 hz2 bO
     have qL:cC (tk s')=.ok q:=by rw [sP];exact ox.out
     have Mn:Hid (Z=bd (aB (aV 2 [[124]]) qy (ws++[q.1]) q.2) fun ws s2=>bd (aP 2 [[41]] s2) fun _ s3=>bd (aO nest true s3) fun k s4=>Sy.bC { k:=10,ws:=ws,ks:=[k],ln:=ln } s4):=by show _=_;rw [oq.out,qL];rfl
     have Zbb:=Lib.hid dA.out
     clear dA dO et HM sP
     have C6:Hid (ph q.2+24≤80000):=by have jN:=qE.out;have h8:=eH q qL;show _≤_;omega
     have Zy:=ox
     clear qL ox
     have Lu:cC (tk s')=.ok q:=by rw [show cC (tk s')=PL from Z3.out];exact Zy.out
     have iH:Hid (aB (aV 2 [[124]]) qy (ws++[q.1]) q.2=aB (aV 2 [[124]]) qy [y.1] y.2):=by show _=_;rw [eO.out,Lu];rfl
     have ru:Hid (q.2.2.length < s'.2.length):=Nat.lt_trans (l7 Lu) (nA xZ.out (by decide))
     have ED:Hid (Y9={ n1 with ws:=ws++[q.1] }):=by show _=_;rw [←Zbb.out,wU.out]
     clear Lu
     go_wp2_with fail
     go_roundw
     case rel=>exact ⟨q.2,ws++[q.1],_,_,Y9,iH.out,ED.out,tS.out,by have:=C6.out;omega,by have:=Zk.out;have:=ru.out;simp only [List.length_append,List.length_singleton];omega⟩
     case measure=>rw [cB tS.out.bx.rd,cB lU.out.bx.rd];exact ru.out
   | false=>
     have oq:Hid (Z=bd (aP 2 [[41]] s') fun _ s3=>bd (aO nest true s3) fun k s4=>Sy.bC { k:=10,ws:=ws,ks:=[k],ln:=ln } s4):=by show _=_;rw [W7.out,←je.out,bF mL oL,if_neg (by rw [show aV 2 [[124]] s'=false from xZ.out];decide)];rfl
     obtain ⟨⟨aw,cw,Dq⟩,_⟩:=oh.out.lens
     subst Dq
     go_wp2_with fail
     refine (fc ql b B _ v' s' d oh.out.bx.rd 2 [[41]] (by decide)).mono ?_
     rintro r yG hp
     rcases av hp with ⟨er,cy,rfl,df⟩ | ⟨e,u9,v33,aI,rfl,he,ht,hr⟩
     ·
      have hz:Z=.error er:=by rw [oq.out,cy];rfl
      exact ⟨rfl,cg hz ((DA.out.trans (oh.out.belowB HV.out)).trans df)⟩
     have bX:u9=.tuple #[]:=he
     subst bX
     have mj:=Lib.hid (oh.out.step ht hr)
     have N0:=Lib.hid aI
     have FM:Hid (Z=bd (aO nest true e.2) fun k s4=>Sy.bC { k:=10,ws:=ws,ks:=[k],ln:=ln } s4):=by show _=_;rw [oq.out,aI];rfl
     have qE:Hid (ph e.2+16≤80000):=by have jN:=qJ.out;have h8:=bD (by decide) e aI;show _≤_;omega
     clear hp he ht hr aI
     go_wp2_with fail
     refine (yE.out yG b B _ v33 e.2 true mj.out.bx.rd (mj.out.free dp.out) (by have:=qE.out;omega)).mono ?_
     rintro r Tx hp
     rcases av hp with ⟨er,cy,rfl,df⟩ | ⟨x,u9,v35,aI,rfl,he,ht,hr⟩
     ·
      have hz:Z=.error er:=by rw [FM.out,cy];rfl
      exact ⟨rfl,cg hz ((DA.out.trans (mj.out.belowB HV.out)).trans df)⟩
     have bX:u9=.int .i64 (x.1:Int):=he
     subst bX
     have tS:=Lib.hid (mj.out.step ht hr)
     have Z3:=Lib.hid aI
     have Mn:Hid (Z=Sy.bC { k:=10,ws:=ws,ks:=[x.1],ln:=ln } x.2):=by show _=_;rw [FM.out,aI];rfl
     have C6:Hid (ph x.2+15≤80000):=by have jN:=qE.out;have h8:=cQ HE.out.cost true e.2 x aI;show _≤_;omega
     clear hp he ht hr aI
     obtain ⟨ZaH,w37,TA,ZcL,my,fj⟩:=tS.out.new_k x.1
     have ZbP:Tx.alloc (.cells #[.int .i64 (x.1:Int)] dU)=ZaH:=TA
     obtain ⟨n37,bO⟩:∃n2:Nd,{ m with ks:=[x.1] }=n2:=⟨_,rfl⟩
     rw [bO] at fj
     have dA:=Lib.hid bO
     have tq:=Lib.hid fj
     obtain ⟨⟨x0,x1,x2,x3,x4,x5,x6,x7⟩,z0,z1,z2,z3,z4,z5,z6,z7⟩:=af my
     clear TA fj bO my
     have Zay:=Lib.hid dA.out
     clear dA
     go_upto_region 10 with fail
     clear x0 x1 x2 x3 x4 x5 x6 x7 z0 z1 z2 z3 z4 z5 z6 z7
     obtain ⟨⟨x0,x1,x2,x3,x4,x5,x6,x7⟩,z0,z1,z2,z3,z4,z5,z6,z7⟩:=af tq.out.bx.box
     have oJ:Hid (Z=Sy.bC n37 x.2):=by show _=_;rw [Mn.out,←Zay.out,wU.out,qB.out,oz.out]
     have Zbr:Hid ((x.2).1.length≤100000):=by have:=C6.out;unfold ph at this;show _≤_;omega
     go_wp2_with fail
     have hput:=bQ w37 b B P _ x.2 d tq.out.rd n37 _ _ _ (tq.out.rowsP dp.out) Zbr.out
     refine hput.mono ?_
     clear hput
     rintro r w8 hp
     rw [←oJ.out] at hp
     have Ck:=Lib.hid hp
     clear hp
     rcases av Ck.out with ⟨er,cy,_,_⟩ | ⟨y8,u8,v8,jv,rfl,he,oM,ov⟩
     · exact absurd (oJ.out.symm.trans cy) (by intro h;cases h)
     ·
      have yF:Hid (aj b v W v8 w8∧Rd w8 b B P v8 y8.2 d):=⟨(LG.out.trans tq.out.bx.turn).trans oM,ov⟩
      have D1:=Lib.hid jv
      clear oM ov jv
      have bX:u8=.int .i64 (y8.1:Int):=he
      subst bX
      clear he
      go_wp2_with fail
      go_ret
      exact fy D1.out rfl yF.out.1 yF.out.2
abbrev OH (nest:S→Sy.P Nat) (d:Nat):Prop:=∀(W:World) (b B:Nat) (P:Nat→Prop) (v:Value) (s:S),Rd W b B P v s d→(∀g,W.heap.size≤g→P g)→ph s≤80000→
 Calls Tryz.prog 153 #[.pointer (some ⟨b,0,none⟩)] W (Post eN W b B P v d (cA nest s))
theorem pC {nest:S→Sy.P Nat} {d:Nat} (E:Env nest d) (hL:jh nest d) (hB:OH nest d) (W:World) (b B:Nat) (P:Nat→Prop) (v:Value) (s:S) (h:Rd W b B P v s d) (hP:∀g,W.heap.size≤g→P g) (hF:ph s≤80000) (h4:(nx s).k≠4) (ln:Nat):
 Calls Tryz.prog 129 #[.pointer (some ⟨b,0,none⟩),.agg #[.int .i64 0,.string ⟨#[]⟩,.bool false,.slice none 0 0,.int .i64 0,.slice none 0 0,.slice none 0 0,.int .i64 (ln:Int)]] W (nW W b B P v d (eQ nest ln s)):=by
 have HR:=Lib.hid h
 have HE:Hid (Env nest d):=E
 have yE:Hid (jh nest d):=hL
 have HIt:Hid (OH nest d):=hB
 have HP:Hid (∀g,W.heap.size≤g→P g):=hP
 have rH:Hid (ph s+0≤80000):=hF
 have H4:=Lib.hid h4
 have HV:Hid (∀g,v.ownBlock=some g→B≤g):=fun g hg=>(h.own g hg).1
 obtain ⟨n0,eP⟩:∃n0:Nd,n0={ k:=0,ln:=ln }:=⟨_,rfl⟩
 have oz:=Lib.hid eP
 obtain ⟨w1,w2,gZ,hw2,hz1,pP,hb2⟩:=fR.start h n0 (by rw [eP]) (by rw [eP]) (by rw [eP])
 obtain ⟨N,hN⟩:∃N,W.heap.size=N:=⟨_,rfl⟩
 have mU:W.alloc (.cells #[.int .i64 0,.string ⟨#[]⟩,.bool false,.slice none 0 0,.int .i64 0,.slice none 0 0,.slice none 0 0,.int .i64 (ln:Int)] gv)=w1:=by rw [eP] at gZ;exact gZ
 rw [hN] at pP hz1
 have qa:=Lib.hid mU
 have CY:=Lib.hid hw2
 have XC:=Lib.hid hz1
 have vy:=Lib.hid hN
 have xu:=Lib.hid pP
 obtain ⟨Z,hZ⟩:∃Z,eQ nest ln s=Z:=⟨_,rfl⟩
 have E4:=Lib.hid hZ
 rw [hZ]
 clear h hP hF h4 E hL hB eP gZ mU hw2 hz1 hN pP hb2 hZ
 go_enter Tryz.func129,Tryz.ntmps129
 go_upto_region 1 with fail
 rw [qa.out,CY.out,vy.out]
 have nb:Hid (Z=bd (cC (tk s)) fun t s=>bd (aP 1 [[105,110]] (bj s)) fun _ s=>bd (dY nest [] (bj s)) fun ks s=>bd (aP 1 [[101,115,97,99]] s) fun _ s=>.ok ({ k:=9,t:=t,ks:=ks,ln:=ln },s)):=E4.out.symm
 go_wp2_with fail
 refine (bm w2 b B _ v s d xu.out.bx.rd).mono ?_
 rintro r w4 ⟨rfl,lK,hr4⟩
 have qA:=Lib.hid (xu.out.step lK hr4)
 clear lK hr4
 have sj:Hid (ph (tk s)+8≤80000):=by have jN:=rH.out;have h8:=fS (s:=s) H4.out;show _≤_;omega
 obtain ⟨⟨x0,x1,x2,x3,x4,x5,x6,x7⟩,z0,z1,z2,z3,z4,z5,z6,z7⟩:=af qA.out.bx.box
 obtain ⟨n6,p7⟩:∃n1:Nd,n1={ n0 with k:=9 }:=⟨_,rfl⟩
 have sY:=Lib.hid p7
 obtain ⟨w6,xl,oo⟩:=qA.out.set 0 (.int .i64 9) n6 (by rw [p7];rfl) (by rw [p7]) (by rw [p7]) (by rw [p7])
 have qO:=Lib.hid oo
 clear oo p7
 go_wp2_with fail
 refine (iA w6 b B _ v (tk s) d qO.out.bx.rd).mono ?_
 rintro r w7 hp
 rcases av hp with ⟨er,cy,rfl,df⟩ | ⟨y,u9,v7,aI,rfl,he,ht,hr⟩
 ·
  have hz:Z=.error er:=by rw [nb.out,cy];rfl
  exact ⟨rfl,aN hz ((qO.out.belowB HV.out).trans df)⟩
 have bX:u9=.string (str y.1):=he
 subst bX
 have nQ:=Lib.hid (qO.out.step ht hr)
 have HX7:=Lib.hid aI
 have Nv:Hid (Z=bd (aP 1 [[105,110]] (bj y.2)) fun _ s=>bd (dY nest [] (bj s)) fun ks s=>bd (aP 1 [[101,115,97,99]] s) fun _ s=>.ok ({ k:=9,t:=y.1,ks:=ks,ln:=ln },s)):=by show _=_;rw [nb.out,aI];rfl
 have Hb:Hid (ph y.2+16≤80000):=by have jN:=sj.out;have h8:=eH y aI;show _≤_;omega
 clear hp he ht hr aI
 clear x0 x1 x2 x3 x4 x5 x6 x7 z0 z1 z2 z3 z4 z5 z6 z7
 obtain ⟨⟨x0,x1,x2,x3,x4,x5,x6,x7⟩,z0,z1,z2,z3,z4,z5,z6,z7⟩:=af nQ.out.bx.box
 obtain ⟨n9,Xu⟩:∃n1:Nd,n1={ n6 with t:=y.1 }:=⟨_,rfl⟩
 have IB:=Lib.hid Xu
 obtain ⟨w9,KF,fj⟩:=nQ.out.set 1 (.string (str y.1)) n9 (by rw [Xu];rfl) (by rw [Xu]) (by rw [Xu]) (by rw [Xu])
 have pH:=Lib.hid fj
 clear fj Xu
 go_wp2_with fail
 refine (cJ w9 b B _ v7 y.2 d pH.out.bx.rd).mono ?_
 rintro r lq ⟨rfl,Zal,Yo⟩
 have jY:=Lib.hid (pH.out.step Zal Yo)
 clear Zal Yo
 clear x0 x1 x2 x3 x4 x5 x6 x7 z0 z1 z2 z3 z4 z5 z6 z7
 have uN:Hid (ph (bj y.2)+16≤80000):=by have jN:=Hb.out;have h8:=dG y.2;show _≤_;omega
 go_wp2_with fail
 refine (fc lq b B _ v7 (bj y.2) d jY.out.bx.rd 1 [[105,110]] (by decide)).mono ?_
 rintro r EX hp
 rcases av hp with ⟨er,cy,rfl,df⟩ | ⟨e,u9,v12,aI,rfl,he,ht,hr⟩
 ·
  have hz:Z=.error er:=by rw [Nv.out,cy];rfl
  exact ⟨rfl,aN hz ((jY.out.belowB HV.out).trans df)⟩
 have bX:u9=.tuple #[]:=he
 subst bX
 have o7:=Lib.hid (jY.out.step ht hr)
 have Zak:=Lib.hid aI
 have M3:Hid (Z=bd (dY nest [] (bj e.2)) fun ks s=>bd (aP 1 [[101,115,97,99]] s) fun _ s=>.ok ({ k:=9,t:=y.1,ks:=ks,ln:=ln },s)):=by show _=_;rw [Nv.out,aI];rfl
 have rZ:Hid (ph e.2+24≤80000):=by have jN:=uN.out;have h8:=bD (by decide) e aI;show _≤_;omega
 clear hp he ht hr aI
 go_wp2_with fail
 refine (cJ EX b B _ v12 e.2 d o7.out.bx.rd).mono ?_
 rintro r tu ⟨rfl,Zg,YB⟩
 have su:=Lib.hid (o7.out.step Zg YB)
 clear Zg YB
 have Zan:Hid (ph (bj e.2)+24≤80000):=by have jN:=rZ.out;have h8:=dG e.2;show _≤_;omega
 go_wp2_with fail
 obtain ⟨n1,uz⟩:∃n1:Nd,n1=n9:=⟨_,rfl⟩
 have qB:=Lib.hid uz
 have X9:Hid (n9={ n1 with ks:=[] }):=by show _=_;rw [qB.out,IB.out,sY.out,oz.out]
 have EY:Hid (ph (bj e.2)+8≤80000):=by have:=Zan.out;show _≤_;omega
 clear uz
 go_loopw [] (fun wr=>∃(s':S) (ks:List Nat) (v' uk:Value) (m:Nd),dY nest ks s'=dY nest [] (bj e.2)∧m={ n1 with ks:=ks }∧fR W v wr b B P v' s' d N m (.slice none 0 0) (.slice none 0 0) uk (N+1)∧ph s'+ks.length+8≤80000) (fun wr=>kh wr b)
 case atStart=>exact ⟨_,[],_,_,n9,rfl,X9.out,su.out,by have:=EY.out;simpa using this⟩
 case round=>
  obtain ⟨s',ks,v',uk,m,hrun,tW,hm,zh⟩:=hrel
  have je:=Lib.hid hrun
  have wU:=Lib.hid tW
  have lU:=Lib.hid hm
  have HPk:=Lib.hid zh
  have qJ:Hid (ph s'+8≤80000):=by show _≤_;omega
  clear hrun tW hm zh
  go_wp2_with fail
  refine (mH wr b B _ v' s' d lU.out.bx.rd [[101,115,97,99]] (by decide)).mono ?_
  rintro r ql ⟨rfl,D7⟩
  have oh:=Lib.hid (lU.out.below ((Below.refl _ _).trans D7))
  clear D7
  obtain ⟨z31,Fp⟩:∃z,aV 1 [[101,115,97,99]] s'=z:=⟨_,rfl⟩
  have xZ:=Lib.hid Fp
  rw [Fp]
  clear Fp
  cases z31 with
  | true=>
    have oq:Hid (Z=bd (aP 1 [[101,115,97,99]] s') fun _ s=>.ok ({ k:=9,t:=y.1,ks:=ks,ln:=ln },s)):=by show _=_;rw [M3.out,←je.out,kN HE.out.weak,if_pos xZ.out];rfl
    obtain ⟨_,_,⟨ak,ck,mV⟩⟩:=oh.out.lens
    subst mV
    go_wp2_with fail
    refine (fc ql b B _ v' s' d oh.out.bx.rd 1 [[101,115,97,99]] (by decide)).mono ?_
    rintro r yG hp
    rcases av hp with ⟨er,cy,rfl,df⟩ | ⟨x,u9,v33,aI,rfl,he,ht,hr⟩
    ·
     have hz:Z=.error er:=by rw [oq.out,cy];rfl
     exact ⟨rfl,aN hz ((oh.out.belowB HV.out).trans df)⟩
    have bX:u9=.tuple #[]:=he
    subst bX
    have mj:=Lib.hid (oh.out.step ht hr)
    have N0:=Lib.hid aI
    have FM:Hid (Z=.ok ({ k:=9,t:=y.1,ks:=ks,ln:=ln },x.2)):=by show _=_;rw [oq.out,aI];rfl
    have qE:Hid (ph x.2+16≤80000):=by have jN:=qJ.out;have h8:=bD (by decide) x aI;show _≤_;omega
    clear hp he ht hr aI
    go_upto_region 13 with fail
    obtain ⟨⟨x0,x1,x2,x3,x4,x5,x6,x7⟩,z0,z1,z2,z3,z4,z5,z6,z7⟩:=af mj.out.bx.box
    have kF:Hid (Z=.ok (m,x.2)):=by show _=_;(rw [FM.out,wU.out,qB.out,IB.out,sY.out,oz.out];try rfl)
    obtain ⟨wF,LD,fG,fJ,fO,fL⟩:=mj.out.fin
    have dH:Hid (Rows wF (fun g=>W.heap.size≤g) m _ _ _∧aj b v W _ wF∧Rd wF b B P _ x.2 d):=⟨fJ,fO,fL⟩
    obtain ⟨⟨y0,y1,y2,y3,y4,y5,y6,y7⟩,_⟩:=af fG
    obtain ⟨⟨r0,r1,r2,r3,r4,r5,r6,r7⟩,q0,q1,q2,q3,q4,q5,q6,q7⟩:=af mj.out.res
    clear fG fJ fO fL
    go_wp2_with fail
    refine bodyPost_ret (v:=.agg (jO m (.slice none 0 0) (.slice none 0 0) (.slice ak m.ks.length ck))) (by simp [results,Tryz.results129,go_sem,y0,y1,y2,y3,y4,y5,y6,y7,jO]) rfl ?_
    rw [show Z=.ok (m,x.2) from kF.out]
    exact ⟨_,_,_,_,rfl,dH.out.1,dH.out.2.1,dH.out.2.2⟩
  | false=>
    have eO:Hid (dY nest [] (bj e.2)=bd (cA nest s') fun k s=>if aV 2 [[59,59]] s then dY nest (ks++[k]) (bj (tk s)) else .ok (ks++[k],s)):=by show _=_;rw [←je.out,kN HE.out.weak,if_neg (by rw [show aV 1 [[101,115,97,99]] s'=false from xZ.out];decide)]
    have oq:Hid (Z=bd (bd (cA nest s') fun k s=>if aV 2 [[59,59]] s then dY nest (ks++[k]) (bj (tk s)) else .ok (ks++[k],s)) fun ks s=>bd (aP 1 [[101,115,97,99]] s) fun _ s=>.ok ({ k:=9,t:=y.1,ks:=ks,ln:=ln },s)):=by show _=_;rw [M3.out,eO.out]
    go_upto_region 8 with fail
    obtain ⟨za,hX⟩:∃X,cA nest s'=X:=⟨_,rfl⟩
    have N0:=Lib.hid hX
    have dO:Hid (m.ks.length≤100000):=by show _≤_;rw [wU.out];show ks.length≤_;have:=HPk.out;omega
    have et:Hid (∀x,Rd x b B (gG P N (.slice none 0 0) (.slice none 0 0) uk) v' s' d→ql.heap.size≤x.heap.size→Calls Tryz.prog 153 #[.pointer (some ⟨b,0,none⟩)] x (Post eN x b B (gG P N (.slice none 0 0) (.slice none 0 0) uk) v' d za)):=fun x hr hs=>by
     rw [←hX]
     exact HIt.out x b B _ v' s' hr (fun g hg=>oh.out.free HP.out g (Nat.le_trans hs hg)) (by have:=qJ.out;omega)
    have sP:=hX
    clear hX
    have HM:=oh
    obtain ⟨i0,iy,hz0,hz1,hz2⟩:=info_parts jy
    have yL:Hid (∀g,Value.ownBlock (uk)=some g→g < ql.heap.size):=fun g hg=>(HM.out.rows.k.lt g hg).2
    refine Rp.cq (fun ch x=>∃e,za=.error e∧mI e.1 e.2=Ending.panicked ch∧Below B ql x) 6 [] [Rg.Is (.pointer (some ⟨N,6,none⟩)),Rg.Is (uk),Rg.Is (.pointer (some ⟨b,0,none⟩)),(fun u9 (x:World)=>∃y,za=.ok y∧u9=iv y.1),(fun u9 x=>∃q,u9=.slice (some ⟨q,0,none⟩) 1 1∧ql.heap.size≤q∧(∃y,za=.ok y∧x.heap[q]? =some (.cells #[iv y.1] dU))∧ql.heap.size < x.heap.size),(fun u9 x=>∃y v9,za=.ok y∧iT W v x b B P v9 y.2 d N (m) ({ m with ks:=m.ks++[y.1] }) (.slice none 0 0) (.slice none 0 0) uk (.slice none 0 0) (.slice none 0 0) u9 (N+1)∧ql.heap.size < x.heap.size)] (fun _ _=>True) (fun ls x=>(ls 3=false→x.heap.size=ql.heap.size∧Below ql.heap.size ql x)∧(ls 3=true→ls 5=false→∃y v9,za=.ok y∧fR W v x b B P v9 y.2 d N (m) (.slice none 0 0) (.slice none 0 0) uk (N+1)∧ql.heap.size≤x.heap.size)) (fun k x y=>if k=3 then x.heap.size=ql.heap.size else if k=5 then x.grownBy y (Value.ownBlock (uk)) else (Below x.heap.size x y∧(k=4∨y.heap.size=x.heap.size))) (by kernel_rfl) (by kernel_rfl) (of_decide_eq_true (by kernel_rfl)) (by kernel_rfl) (by kernel_rfl) trivial ⟨fun _=>⟨rfl,rfl,rfl,rfl,Nat.le_refl _,fun _ _=>rfl⟩,fun h=>by cases h⟩ (fun ls mC x e h1=>⟨fun h2=>h1.1 (by rw [e];exact h2),fun h2 h3=>h1.2 (by rw [e];exact h2) (by rw [e];exact h3)⟩) (fun _ _ _ _ _=>trivial) (fun i ls x _ h1=>by rw [show ([]:List Bool).getD i true=true from rfl] at h1;cases h1) ?_ ⟨rfl,rfl,rfl,rfl,rfl,rfl,trivial⟩ ⟨?_,?_,?_,?_,?_,?_,trivial⟩ ?_ ?_
    ·
     intro i k u8 x y9 hik _ h1 hK
     match i,h1,hik with
     | 0,h1,_=>exact h1
     | 1,h1,_=>exact h1
     | 2,h1,_=>exact h1
     | 3,h1,_=>exact h1
     | 4,h1,hik=>
       obtain ⟨q,hq,nj,⟨y,aI,iK⟩,hlt⟩:=h1
       have rB:=(Array.getElem?_eq_some_iff.1 iK).1
       by_cases k3:k=3
       · rw [if_pos k3] at hK;omega
       ·
        rw [if_neg k3] at hK
        by_cases k5:k=5
        ·
         rw [if_pos k5] at hK
         exact ⟨q,hq,nj,⟨y,aI,(hK.block q rB (fun e=>by have:=yL.out q e.symm;omega)).trans iK⟩,Nat.lt_of_lt_of_le hlt hK.size⟩
        ·
         rw [if_neg k5] at hK
         exact ⟨q,hq,nj,⟨y,aI,(hK.1.block q rB).trans iK⟩,Nat.lt_of_lt_of_le hlt hK.1.size⟩
     | 5,h1,hik=>
       obtain ⟨y,v9,aI,hA,hlt⟩:=h1
       by_cases k3:k=3
       · rw [if_pos k3] at hK;omega
       ·
        rw [if_neg k3,if_neg (fun e=>hik e.symm)] at hK
        exact ⟨y,v9,aI,hA.below hK.1,Nat.lt_of_lt_of_le hlt hK.1.size⟩
     | _+6,_,_=>trivial
    ·
     intro _ b9 x ls hR hS ai bI bf hk
     have h3:b9.eval (.tmp 3)=.pointer (some ⟨N,0,none⟩):=Eq.mp (by kernel_rfl) (hk 3 (by decide))
     refine Rp.ag ?_
     exact Rs.aR _ _ h3 (by have:=j6 N 0 6 (by decide) x;rw [Nat.zero_add] at this;exact this) ⟨by rw [if_neg (by decide),if_neg (by decide)];exact ⟨Below.refl _ _,.inr rfl⟩,rfl,⟨fun hh=>hS.1 hh,fun h2 h3=>hS.2 h2 h3⟩⟩
    ·
     intro _ b9 x ls hR hS ai bI bf hk
     have Ua:b9.eval (.tmp 22)=.pointer (some ⟨N,6,none⟩):=Eq.mp (by kernel_rfl) (hk 22 (by decide))
     have l5:ls 5=false:=bf [] 5 _ rfl (by kernel_rfl)
     have hc:x.cell? ⟨N,6,none⟩=some (uk):=by
      cases l3:ls 3 with
      | false=>have hm:=HM.out.below (hS.1 l3).2;simp [World.cell?,hm.bx.box]
      | true=>obtain ⟨y,v9,aI,hm,hsz⟩:=hS.2 l3 l5;simp [World.cell?,hm.bx.box]
     refine Rp.ag ?_
     exact Rg.aK _ _ Ua (Ap.aW (by simp [isAgg]) hc) ⟨by rw [if_neg (by decide),if_neg (by decide)];exact ⟨Below.refl _ _,.inr rfl⟩,rfl,⟨fun hh=>hS.1 hh,fun h2 h3=>hS.2 h2 h3⟩⟩
    ·
     intro _ b9 x ls hR hS ai bI bf hk
     have h0:b9.eval (.tmp 0)=.pointer (some ⟨b,0,none⟩):=Eq.mp (by kernel_rfl) (hk 0 (by decide))
     refine Rp.ag ?_
     exact Rg.az ⟨by rw [if_neg (by decide),if_neg (by decide)];exact ⟨Below.refl _ _,.inr rfl⟩,h0,⟨fun hh=>hS.1 hh,fun h2 h3=>hS.2 h2 h3⟩⟩
    ·
     intro _ b9 x ls hR hS ai bI bf hk
     have UZ:b9.eval (.tmp 24)=.pointer (some ⟨b,0,none⟩):=Eq.mp (by kernel_rfl) (hk 24 (by decide))
     obtain ⟨hsz,hb⟩:=hS.1 ai
     have hm:=HM.out.below hb
     refine Rp.bW #[.pointer (some ⟨b,0,none⟩)] Tryz.func153 (by kernel_rfl) (by kernel_rfl) (by simp [UZ,show ∀v,b9.eval (.const v)=v from fun _=>rfl]) (et.out x hm.bx.rd hb.size) ?_
     intro e w' hp
     rcases av hp with ⟨er,cy,rfl,df⟩ | ⟨y,u9,v9,aI,rfl,he,ht,hr⟩
     · exact .inr ⟨_,rfl,er,cy,rfl,(hb.mono HM.out.bx.rd.size).trans df⟩
     · exact .inl ⟨u9,rfl,by rw [if_pos rfl];exact hsz,⟨y,aI,he⟩,⟨fun hh=>by simp [Rs.upd] at hh,fun _ _=>⟨y,v9,aI,hm.step ht hr,by have:=ht.size;omega⟩⟩⟩
    ·
     intro _ b9 x ls hR hS ai bI bf hk
     have Qp:(fun u9 (x:World)=>∃y,za=.ok y∧u9=iv y.1) (b9.eval (.tmp 25)) x:=Eq.mp (by kernel_rfl) (hk 25 (by decide))
     have l3:ls 3=true:=bI [] 3 (by kernel_rfl)
     have l5:ls 5=false:=bf [] 5 _ rfl (by kernel_rfl)
     obtain ⟨y,v9,aI,hm,hsz⟩:=hS.2 l3 l5
     obtain ⟨y2,gi,he⟩:=Qp
     have lC:y2=y:=Except.ok.inj (gi.symm.trans aI)
     subst lC
     have cU:=(Below.refl x.heap.size x).alloc (Nat.le_refl _) (.cells #[iv y2.1] dU)
     refine Rp.ag ?_
     exact Rg.di #[(0,iv y2.1)] _ (by simp [he]) (by go_simp;rfl) ⟨by rw [if_neg (by decide),if_neg (by decide)];exact ⟨cU,.inl rfl⟩,⟨x.heap.size,rfl,hsz,⟨y2,aI,heap_alloc_new x _⟩,by rw [World.size_alloc];omega⟩,⟨fun hh=>absurd (l3.symm.trans hh) (by decide),fun _ _=>⟨y2,v9,aI,hm.below cU,by rw [World.size_alloc];omega⟩⟩⟩
    ·
     intro _ b9 x ls hR hS ai bI bf hk
     have UY:b9.eval (.tmp 23)=uk:=Eq.mp (by kernel_rfl) (hk 23 (by decide))
     have OU:(fun u9 x=>∃q,u9=.slice (some ⟨q,0,none⟩) 1 1∧ql.heap.size≤q∧(∃y,za=.ok y∧x.heap[q]? =some (.cells #[iv y.1] dU))∧ql.heap.size < x.heap.size) (b9.eval (.tmp 26)) x:=Eq.mp (by kernel_rfl) (hk 26 (by decide))
     have l3:ls 3=true:=bI [] 3 (by kernel_rfl)
     obtain ⟨y,v9,aI,hm,hsz⟩:=hS.2 l3 ai
     obtain ⟨q,hq,nj,⟨y2,gi,iK⟩,hlt⟩:=OU
     have lC:y2=y:=Except.ok.inj (gi.symm.trans aI)
     subst lC
     obtain ⟨u9,w',hrun,hown',hgr,hat⟩:=Ap.bR (P:=Tryz.prog) x 0 35 35 35 dU i0 _ 1 8 Tryz.underlying35 (bw Tryz.underlying35) iy hz0 hz1 hz2 rfl (by decide) (by decide) (uk) _ _ hm.rows.k (b9.eval (.tmp 26)) 1 ([iv y2.1]) (by rw [hq];exact cP (b:=q) (off:=0) rfl (by intro u hu;obtain rfl:=List.mem_singleton.1 hu;rfl) (.inr rfl) (fun i z hi=>by rw [Nat.zero_add];unfold World.cell?;simp only [iK];simpa using hi)) (by unfold maxLen;have:=dO.out;omega) (by have:=dO.out;omega) (Nat.zero_le _)
     refine Rp.ag ?_
     exact Ap.cR (uk) _ u9 w' UY rfl hrun ⟨by rw [if_neg (by decide),if_pos rfl];exact hgr,⟨y2,v9,aI,hm.app_k y2.1 hgr hown' hat,Nat.lt_of_lt_of_le hlt hgr.size⟩,⟨fun hh=>absurd (l3.symm.trans hh) (by decide),fun _ hh=>by simp [Rs.upd] at hh⟩⟩
    ·
     intro ch a' w' yN hD
     obtain ⟨er,cy,A8,qU⟩:=hD
     refine ⟨yN,?_⟩
     rw [←A8]
     have hz:Z=.error er:=by rw [oq.out,sP,cy];rfl
     exact aN hz ((HM.out.belowB HV.out).trans qU)
    intro vals wD ls _ uj _ hL
    obtain ⟨g0,g1,g2,g3,g4,g5,_⟩:=hL
    obtain ⟨q,v33,aI,hA,_⟩:=(g5:(fun u9 x=>∃y v9,za=.ok y∧iT W v x b B P v9 y.2 d N (m) ({ m with ks:=m.ks++[y.1] }) (.slice none 0 0) (.slice none 0 0) uk (.slice none 0 0) (.slice none 0 0) u9 (N+1)∧ql.heap.size < x.heap.size) (vals 5) wD)
    clear g0 g1 g2 g3 g4 uj
    obtain ⟨Lq,bO⟩:∃n2:Nd,{ m with ks:=m.ks++[q.1] }=n2:=⟨_,rfl⟩
    rw [bO] at hA
    have dA:=Lib.hid bO
    simp only [Rg.bh,List.take_succ_cons,List.take_zero,List.drop_succ_cons,List.drop_zero,List.setIfInBounds_toArray,List.set_cons_succ,List.set_cons_zero]
    generalize vals 0=g0 at *
    generalize vals 1=g1 at *
    generalize vals 2=g2 at *
    generalize vals 3=g3 at *
    generalize vals 4=g4 at *
    generalize vals 5=u9 at *
    obtain ⟨a33,c33,wq,_⟩:=aA hA.rows.k
    subst wq
    obtain ⟨yG,ZaC,fj⟩:=hA.set 6 (.slice a33 Lq.ks.length c33) (by rw [←dA.out];rfl)
    obtain ⟨⟨x0,x1,x2,x3,x4,x5,x6,x7⟩,z0,z1,z2,z3,z4,z5,z6,z7⟩:=af hA.bx.box
    have mj:=Lib.hid fj
    have ox:=Lib.hid aI
    clear hA fj aI i0 iy hz0 hz1 hz2 bO
    have qL:cA nest s'=.ok q:=by rw [sP];exact ox.out
    have FM:Hid (Z=bd (if aV 2 [[59,59]] q.2 then dY nest (ks++[q.1]) (bj (tk q.2)) else .ok (ks++[q.1],q.2)) fun ks s=>bd (aP 1 [[101,115,97,99]] s) fun _ s=>.ok ({ k:=9,t:=y.1,ks:=ks,ln:=ln },s)):=by show _=_;rw [oq.out,qL];rfl
    have WZ:=Lib.hid dA.out
    clear dA dO et HM sP
    have qE:Hid (ph q.2+8≤80000):=by have jN:=qJ.out;have h8:=ux HE.out.cost s' q qL;show _≤_;omega
    have Nl:=ox
    clear qL ox
    have Lu:cA nest s'=.ok q:=by rw [show cA nest s'=za from N0.out];exact Nl.out
    have FT:Hid (dY nest [] (bj e.2)=if aV 2 [[59,59]] q.2 then dY nest (ks++[q.1]) (bj (tk q.2)) else .ok (ks++[q.1],q.2)):=by show _=_;rw [eO.out,Lu];rfl
    have VN:Hid (ph q.2+14≤ph s'∧q.2.2.length≤s'.2.length):=⟨ux HE.out.cost s' q Lu,iq HE.out.weak s' q Lu⟩
    have ED:Hid (Lq={ n1 with ks:=ks++[q.1] }):=by show _=_;rw [←WZ.out,wU.out]
    clear Lu
    go_wp2_with fail
    refine (jX yG b B _ v33 q.2 d mj.out.bx.rd 2 [[59,59]] (by decide)).mono ?_
    rintro r Tx ⟨rfl,Q8⟩
    have tS:=Lib.hid (mj.out.below ((Below.refl _ _).trans Q8))
    clear Q8
    obtain ⟨z35,VA⟩:∃z,aV 2 [[59,59]] q.2=z:=⟨_,rfl⟩
    have Ob:=Lib.hid VA
    rw [VA]
    clear VA
    clear x0 x1 x2 x3 x4 x5 x6 x7 z0 z1 z2 z3 z4 z5 z6 z7
    cases z35 with
    | true=>
      have iH:Hid (dY nest (ks++[q.1]) (bj (tk q.2))=dY nest [] (bj e.2)):=by show _=_;rw [FT.out,if_pos Ob.out]
      have ru:Hid ((bj (tk q.2)).2.length < s'.2.length):=by have h1:=ew (tk q.2);have h2:=nA Ob.out (by decide);have h3:=VN.out.2;show _ < _;omega
      go_wp2_with fail
      refine (bm Tx b B _ v33 q.2 d tS.out.bx.rd).mono ?_
      rintro r w36 ⟨rfl,NF,LX⟩
      have Mk:=Lib.hid (tS.out.step NF LX)
      clear NF LX
      have Oh:Hid (ph (tk q.2)+8≤80000):=by have jN:=qE.out;have h8:=gg q.2;show _≤_;omega
      go_wp2_with fail
      refine (cJ w36 b B _ v33 (tk q.2) d Mk.out.bx.rd).mono ?_
      rintro r w38 ⟨rfl,L0,NJ⟩
      have GD:=Lib.hid (Mk.out.step L0 NJ)
      clear L0 NJ
      have LR:Hid (ph (bj (tk q.2))+8≤80000):=by have jN:=Oh.out;have h8:=dG (tk q.2);show _≤_;omega
      go_wp2_with fail
      go_roundw
      case rel=>exact ⟨(bj (tk q.2)),ks++[q.1],_,_,Lq,iH.out,ED.out,GD.out,by have h1:=VN.out.1;have h2:=HPk.out;have h3:=dG (tk q.2);have h4:=gg q.2;simp only [List.length_append,List.length_singleton];omega⟩
      case measure=>rw [cB GD.out.bx.rd,cB lU.out.bx.rd];exact ru.out
    | false=>
      have Zr:Hid (Z=bd (aP 1 [[101,115,97,99]] q.2) fun _ s=>.ok ({ k:=9,t:=y.1,ks:=ks++[q.1],ln:=ln },s)):=by show _=_;rw [FM.out,if_neg (by rw [show aV 2 [[59,59]] q.2=false from Ob.out];decide)];rfl
      go_wp2_with fail
      refine (fc Tx b B _ v33 q.2 d tS.out.bx.rd 1 [[101,115,97,99]] (by decide)).mono ?_
      rintro r w37 hp
      rcases av hp with ⟨er,cy,rfl,df⟩ | ⟨x,u9,v37,aI,rfl,he,ht,hr⟩
      ·
       have hz:Z=.error er:=by rw [Zr.out,cy];rfl
       exact ⟨rfl,aN hz ((tS.out.belowB HV.out).trans df)⟩
      have bX:u9=.tuple #[]:=he
      subst bX
      have tq:=Lib.hid (tS.out.step ht hr)
      have ZcN:=Lib.hid aI
      have ZaE:Hid (Z=.ok ({ k:=9,t:=y.1,ks:=ks++[q.1],ln:=ln },x.2)):=by show _=_;rw [Zr.out,aI];rfl
      have Pe:Hid (ph x.2+16≤80000):=by have jN:=qE.out;have h8:=bD (by decide) x aI;show _≤_;omega
      clear hp he ht hr aI
      go_upto_region 13 with fail
      obtain ⟨⟨x0,x1,x2,x3,x4,x5,x6,x7⟩,z0,z1,z2,z3,z4,z5,z6,z7⟩:=af tq.out.bx.box
      have kF:Hid (Z=.ok (Lq,x.2)):=by show _=_;(rw [ZaE.out,ED.out,qB.out,IB.out,sY.out,oz.out];try rfl)
      obtain ⟨wF,LD,fG,fJ,fO,fL⟩:=tq.out.fin
      have dH:Hid (Rows wF (fun g=>W.heap.size≤g) Lq _ _ _∧aj b v W _ wF∧Rd wF b B P _ x.2 d):=⟨fJ,fO,fL⟩
      obtain ⟨⟨y0,y1,y2,y3,y4,y5,y6,y7⟩,_⟩:=af fG
      obtain ⟨⟨r0,r1,r2,r3,r4,r5,r6,r7⟩,q0,q1,q2,q3,q4,q5,q6,q7⟩:=af tq.out.res
      clear fG fJ fO fL
      go_wp2_with fail
      refine bodyPost_ret (v:=.agg (jO Lq (.slice none 0 0) (.slice none 0 0) (.slice a33 Lq.ks.length c33))) (by simp [results,Tryz.results129,go_sem,y0,y1,y2,y3,y4,y5,y6,y7,jO]) rfl ?_
      rw [show Z=.ok (Lq,x.2) from kF.out]
      exact ⟨_,_,_,_,rfl,dH.out.1,dH.out.2.1,dH.out.2.2⟩
def wm (w:World) (b:Nat):Nat:=match w.cell? ⟨b,0,none⟩ with | some (.slice _ n _)=>n | _=>0
theorem Cs {W:World} {b B:Nat} {P:Nat→Prop} {v:Value} {s:S} {d:Nat} (h:Rd W b B P v s d):wm W b=s.1.length:=by
 obtain ⟨u,fV,_⟩:=h.box
 obtain ⟨zs,_,h2,_⟩:=h.row
 obtain ⟨a,c,rfl,_⟩:=aA h2
 unfold wm
 rw [(fC fV).1.1]
theorem MW {W W':World} {b:Nat} (h:W'.heap[b]? =W.heap[b]?):wm W' b=wm W b∧kh W' b=kh W b:=by
 unfold wm kh World.cell?
 simp only [h]
 exact ⟨trivial,trivial⟩
theorem Pf {nest:S→Sy.P Nat} (hn:∀s,dB s (nest s)) {ln:Nat} {s:S} (h:(nx s).k≠4) {y:Nd × S} (e:iR nest ln s=.ok y):y.2.2.length < s.2.length:=by
 rw [sR hn ln s h] at e
 obtain ⟨c,t,h1,e⟩:=cz e
 have k1:=bP hn false _ _ h1
 obtain ⟨_,u,h2,e⟩:=cz e
 have k2:=bS _ h2
 obtain ⟨b,w,h3,e⟩:=cz e
 have k3:=bP hn false _ _ h3
 have k4:=eJ h
 simp only at k1 k2 k3
 have fin:∀z,y.2.2.length≤z→z≤w.2.length→y.2.2.length < s.2.length:=fun z h1 h2=>by omega
 split at e
 ·
  obtain ⟨n,x,h4,e⟩:=cz e
  have k5:=tE hn _ _ _ _ h4
  injection e with e
  subst e
  exact fin _ (Nat.le_refl _) k5
 ·
  split at e
  ·
   obtain ⟨k,x,h4,e⟩:=cz e
   have k5:=bP hn false _ _ h4
   obtain ⟨_,z,h5,e⟩:=cz e
   have k6:=bS _ h5
   injection e with e
   subst e
   have:=mR w
   simp only at k5 k6
   exact fin _ (Nat.le_refl _) (by simp only;omega)
  ·
   obtain ⟨_,z,h5,e⟩:=cz e
   have k6:=bS _ h5
   injection e with e
   subst e
   exact fin _ (Nat.le_refl _) k6
theorem FH {nest:S→Sy.P Nat} (hn:Ih nest) (ln:Nat) (s:S) (h:(nx s).k≠4):Le 8 (ph s) (iR nest ln s):=tV hn _ ln s h
theorem KT (z:Int) (w:World):(Instr.build gv #[(7,.int .i64 z)]).run Tryz.prog w=.ok (.agg #[.int .i64 0,.string ⟨#[]⟩,.bool false,.slice none 0 0,.int .i64 0,.slice none 0 0,.slice none 0 0,.int .i64 z]) w:=by go_simp
theorem AJ {b B:Nat} {P:Nat→Prop} {v v':Value} {s:S} {d:Nat} {W W':World} (ht:aj b v W v' W') (hr:Rd W b B P v s d):∀(g:Nat) (X:Array Value) (t:TypeId),W.heap[g]? =some (.cells X t)→qp t→W'.heap[g]? =W.heap[g]?:=fun g X t hX hT=>by
 have hl:=(Array.getElem?_eq_some_iff.1 hX).1
 refine ht.block g hl (fun e=>?_) (fun e=>?_)
 ·
  subst e
  obtain ⟨u,fV,_⟩:=hr.box
  have:=ey hX fV
  rw [this] at hT
  exact fp.2.1 hT
 · exact hr.fg hX (fun e=>by rw [e] at hT;exact fp.1 hT) e
def Dw (X:Sy.P Nd) (b len:Nat) (x:World):Prop:=∃y8,X=.ok y8∧wm x b=y8.2.1.length+1∧kh x b < len
theorem Dw.keep {X:Sy.P Nd} {b len:Nat} {x y:World} (h:Dw X b len x) (hb:y.heap[b]? =x.heap[b]?):Dw X b len y:=by
 obtain ⟨y8,h1,h2,h3⟩:=h
 have:=MW hb
 exact ⟨y8,h1,by rw [this.1];exact h2,by rw [this.2];exact h3⟩
def OM (nest:S→Sy.P Nat) (d n:Nat):Prop:=∀(W:World) (b B:Nat) (P:Nat→Prop) (v:Value) (s:S),Rd W b B P v s d→(∀g,W.heap.size≤g→P g)→ph s≤80000→(nx s).k≠4→s.2.length < n→∀ln:Nat,
 Calls Tryz.prog 126 #[.pointer (some ⟨b,0,none⟩),.agg #[.int .i64 0,.string ⟨#[]⟩,.bool false,.slice none 0 0,.int .i64 0,.slice none 0 0,.slice none 0 0,.int .i64 (ln:Int)]] W (nW W b B P v d (iR nest ln s))
theorem KQ {nest:S→Sy.P Nat} {d:Nat} (E:Env nest d) (hL:jh nest d) (m:Nat) (hB:OM nest d m) (W:World) (b B:Nat) (P:Nat→Prop) (v:Value) (s:S) (h:Rd W b B P v s d) (hP:∀g,W.heap.size≤g→P g) (hF:ph s≤80000) (h4:(nx s).k≠4) (hm:s.2.length≤m) (ln:Nat):
 Calls Tryz.prog 126 #[.pointer (some ⟨b,0,none⟩),.agg #[.int .i64 0,.string ⟨#[]⟩,.bool false,.slice none 0 0,.int .i64 0,.slice none 0 0,.slice none 0 0,.int .i64 (ln:Int)]] W (nW W b B P v d (iR nest ln s)):=by
 have HR:=Lib.hid h
 have HE:Hid (Env nest d):=E
 have yE:Hid (jh nest d):=hL
 have S7:Hid (OM nest d m):=hB
 have HP:Hid (∀g,W.heap.size≤g→P g):=hP
 have rH:Hid (ph s+0≤80000):=hF
 have H4:=Lib.hid h4
 have HMm:Hid (s.2.length≤m):=hm
 have HV:Hid (∀g,v.ownBlock=some g→B≤g):=fun g hg=>(h.own g hg).1
 obtain ⟨n0,eP⟩:∃n0:Nd,n0={ k:=0,ln:=ln }:=⟨_,rfl⟩
 have oz:=Lib.hid eP
 obtain ⟨w1,w2,gZ,hw2,hz1,pP,hb2⟩:=fR.start h n0 (by rw [eP]) (by rw [eP]) (by rw [eP])
 obtain ⟨N,hN⟩:∃N,W.heap.size=N:=⟨_,rfl⟩
 have mU:W.alloc (.cells #[.int .i64 0,.string ⟨#[]⟩,.bool false,.slice none 0 0,.int .i64 0,.slice none 0 0,.slice none 0 0,.int .i64 (ln:Int)] gv)=w1:=by rw [eP] at gZ;exact gZ
 rw [hN] at pP hz1
 have qa:=Lib.hid mU
 have CY:=Lib.hid hw2
 have XC:=Lib.hid hz1
 have vy:=Lib.hid hN
 have xu:=Lib.hid pP
 obtain ⟨Z,hZ⟩:∃Z,iR nest ln s=Z:=⟨_,rfl⟩
 have E4:=Lib.hid hZ
 rw [hZ]
 clear h hP hF h4 hm E hL hB eP gZ mU hw2 hz1 hN pP hb2 hZ
 go_enter Tryz.func126,Tryz.ntmps126
 go_upto_region 1 with fail
 rw [qa.out,CY.out,vy.out]
 have nb:Hid (Z=bd (aO nest false (tk s)) fun c s=>bd (aP 1 [[116,104,101,110]] s) fun _ s=>bd (aO nest false s) fun b s=>if aV 1 [[101,108,105,102]] s then bd (iR nest (nx s).ln s) fun n s=>bd (Sy.bC n s) fun k s=>.ok ({ k:=6,ks:=[c,b,k],ln:=ln },s) else if aV 1 [[101,108,115,101]] s then bd (aO nest false (tk s)) fun k s=>bd (aP 1 [[102,105]] s) fun _ s=>.ok ({ k:=6,ks:=[c,b,k],ln:=ln },s) else bd (aP 1 [[102,105]] s) fun _ s=>.ok ({ k:=6,ks:=[c,b],ln:=ln },s)):=by show _=_;rw [←E4.out,sR HE.out.weak ln s H4.out]
 go_wp2_with fail
 refine (bm w2 b B _ v s d xu.out.bx.rd).mono ?_
 rintro r w4 ⟨rfl,lK,hr4⟩
 have qA:=Lib.hid (xu.out.step lK hr4)
 clear lK hr4
 have sj:Hid (ph (tk s)+8≤80000):=by have jN:=rH.out;have h8:=fS (s:=s) H4.out;show _≤_;omega
 obtain ⟨⟨x0,x1,x2,x3,x4,x5,x6,x7⟩,z0,z1,z2,z3,z4,z5,z6,z7⟩:=af qA.out.bx.box
 obtain ⟨n6,p7⟩:∃n1:Nd,n1={ n0 with k:=6 }:=⟨_,rfl⟩
 have sY:=Lib.hid p7
 obtain ⟨w6,xl,oo⟩:=qA.out.set 0 (.int .i64 6) n6 (by rw [p7];rfl) (by rw [p7]) (by rw [p7]) (by rw [p7])
 have qO:=Lib.hid oo
 clear oo p7
 go_wp2_with fail
 refine (yE.out w6 b B _ v (tk s) false qO.out.bx.rd (qO.out.free HP.out) (by have:=sj.out;omega)).mono ?_
 rintro r w7 hp
 rcases av hp with ⟨er,cy,rfl,df⟩ | ⟨y,u9,v7,aI,rfl,he,ht,hr⟩
 ·
  have hz:Z=.error er:=by rw [nb.out,cy];rfl
  exact ⟨rfl,aN hz ((qO.out.belowB HV.out).trans df)⟩
 have bX:u9=.int .i64 (y.1:Int):=he
 subst bX
 have nQ:=Lib.hid (qO.out.step ht hr)
 have HX7:=Lib.hid aI
 have Nv:Hid (Z=bd (aP 1 [[116,104,101,110]] y.2) fun _ s=>bd (aO nest false s) fun b s=>if aV 1 [[101,108,105,102]] s then bd (iR nest (nx s).ln s) fun n s=>bd (Sy.bC n s) fun k s=>.ok ({ k:=6,ks:=[y.1,b,k],ln:=ln },s) else if aV 1 [[101,108,115,101]] s then bd (aO nest false (tk s)) fun k s=>bd (aP 1 [[102,105]] s) fun _ s=>.ok ({ k:=6,ks:=[y.1,b,k],ln:=ln },s) else bd (aP 1 [[102,105]] s) fun _ s=>.ok ({ k:=6,ks:=[y.1,b],ln:=ln },s)):=by show _=_;rw [nb.out,aI];rfl
 have Hb:Hid (ph y.2+7≤80000):=by have jN:=sj.out;have h8:=cQ HE.out.cost false (tk s) y aI;show _≤_;omega
 clear hp he ht hr aI
 clear x0 x1 x2 x3 x4 x5 x6 x7 z0 z1 z2 z3 z4 z5 z6 z7
 obtain ⟨wL9,w9,DN,KF,my,fj⟩:=nQ.out.new_k y.1
 have Tv:w7.alloc (.cells #[.int .i64 (y.1:Int)] dU)=wL9:=DN
 obtain ⟨n9,bO⟩:∃n2:Nd,{ n6 with ks:=[y.1] }=n2:=⟨_,rfl⟩
 rw [bO] at fj
 have dA:=Lib.hid bO
 have pH:=Lib.hid fj
 obtain ⟨⟨x0,x1,x2,x3,x4,x5,x6,x7⟩,z0,z1,z2,z3,z4,z5,z6,z7⟩:=af my
 clear DN fj bO my
 have IB:=Lib.hid dA.out
 clear dA
 go_wp2_with fail
 refine (fc w9 b B _ v7 y.2 d pH.out.bx.rd 1 [[116,104,101,110]] (by decide)).mono ?_
 rintro r lq hp
 rcases av hp with ⟨er,cy,rfl,df⟩ | ⟨e,u9,v10,aI,rfl,he,ht,hr⟩
 ·
  have hz:Z=.error er:=by rw [Nv.out,cy];rfl
  exact ⟨rfl,aN hz ((pH.out.belowB HV.out).trans df)⟩
 have bX:u9=.tuple #[]:=he
 subst bX
 have jY:=Lib.hid (pH.out.step ht hr)
 have PY:=Lib.hid aI
 have B3:Hid (Z=bd (aO nest false e.2) fun b s=>if aV 1 [[101,108,105,102]] s then bd (iR nest (nx s).ln s) fun n s=>bd (Sy.bC n s) fun k s=>.ok ({ k:=6,ks:=[y.1,b,k],ln:=ln },s) else if aV 1 [[101,108,115,101]] s then bd (aO nest false (tk s)) fun k s=>bd (aP 1 [[102,105]] s) fun _ s=>.ok ({ k:=6,ks:=[y.1,b,k],ln:=ln },s) else bd (aP 1 [[102,105]] s) fun _ s=>.ok ({ k:=6,ks:=[y.1,b],ln:=ln },s)):=by show _=_;rw [Nv.out,aI];rfl
 have uN:Hid (ph e.2+15≤80000):=by have jN:=Hb.out;have h8:=bD (by decide) e aI;show _≤_;omega
 clear hp he ht hr aI
 clear x0 x1 x2 x3 x4 x5 x6 x7 z0 z1 z2 z3 z4 z5 z6 z7
 go_upto_region 5 with fail
 obtain ⟨PN,hX⟩:∃X,aO nest false e.2=X:=⟨_,rfl⟩
 have Zak:=Lib.hid hX
 have dO:Hid (n9.ks.length≤100000):=by show _≤_;rw [←IB.out,sY.out,oz.out];simp
 have et:Hid (∀x,Rd x b B (gG P N (.slice none 0 0) (.slice none 0 0) (.slice (some ⟨w7.heap.size,0,none⟩) 1 1)) v10 e.2 d→lq.heap.size≤x.heap.size→Calls Tryz.prog 23 #[.pointer (some ⟨b,0,none⟩),.bool false] x (Post eN x b B (gG P N (.slice none 0 0) (.slice none 0 0) (.slice (some ⟨w7.heap.size,0,none⟩) 1 1)) v10 d PN)):=fun x hr hs=>by
  rw [←hX]
  exact yE.out x b B _ v10 e.2 false hr (fun g hg=>jY.out.free HP.out g (Nat.le_trans hs hg)) (by have:=uN.out;omega)
 have sP:=hX
 clear hX
 have HM:=jY
 obtain ⟨i0,iy,hz0,hz1,hz2⟩:=info_parts jy
 have yL:Hid (∀g,Value.ownBlock ((.slice (some ⟨w7.heap.size,0,none⟩) 1 1))=some g→g < lq.heap.size):=fun g hg=>(HM.out.rows.k.lt g hg).2
 refine Rp.cq (fun ch x=>∃e,PN=.error e∧mI e.1 e.2=Ending.panicked ch∧Below B lq x) 6 [] [Rg.Is (.pointer (some ⟨N,6,none⟩)),Rg.Is ((.slice (some ⟨w7.heap.size,0,none⟩) 1 1)),Rg.Is (.pointer (some ⟨b,0,none⟩)),(fun u9 (x:World)=>∃y,PN=.ok y∧u9=iv y.1),(fun u9 x=>∃q,u9=.slice (some ⟨q,0,none⟩) 1 1∧lq.heap.size≤q∧(∃y,PN=.ok y∧x.heap[q]? =some (.cells #[iv y.1] dU))∧lq.heap.size < x.heap.size),(fun u9 x=>∃y v9,PN=.ok y∧iT W v x b B P v9 y.2 d N (n9) ({ n9 with ks:=n9.ks++[y.1] }) (.slice none 0 0) (.slice none 0 0) (.slice (some ⟨w7.heap.size,0,none⟩) 1 1) (.slice none 0 0) (.slice none 0 0) u9 (N+1)∧lq.heap.size < x.heap.size)] (fun _ _=>True) (fun ls x=>(ls 3=false→x.heap.size=lq.heap.size∧Below lq.heap.size lq x)∧(ls 3=true→ls 5=false→∃y v9,PN=.ok y∧fR W v x b B P v9 y.2 d N (n9) (.slice none 0 0) (.slice none 0 0) (.slice (some ⟨w7.heap.size,0,none⟩) 1 1) (N+1)∧lq.heap.size≤x.heap.size)) (fun k x y=>if k=3 then x.heap.size=lq.heap.size else if k=5 then x.grownBy y (Value.ownBlock ((.slice (some ⟨w7.heap.size,0,none⟩) 1 1))) else (Below x.heap.size x y∧(k=4∨y.heap.size=x.heap.size))) (by kernel_rfl) (by kernel_rfl) (of_decide_eq_true (by kernel_rfl)) (by kernel_rfl) (by kernel_rfl) trivial ⟨fun _=>⟨rfl,rfl,rfl,rfl,Nat.le_refl _,fun _ _=>rfl⟩,fun h=>by cases h⟩ (fun ls mC x e h1=>⟨fun h2=>h1.1 (by rw [e];exact h2),fun h2 h3=>h1.2 (by rw [e];exact h2) (by rw [e];exact h3)⟩) (fun _ _ _ _ _=>trivial) (fun i ls x _ h1=>by rw [show ([]:List Bool).getD i true=true from rfl] at h1;cases h1) ?_ ⟨rfl,rfl,rfl,rfl,rfl,rfl,trivial⟩ ⟨?_,?_,?_,?_,?_,?_,trivial⟩ ?_ ?_
 ·
  intro i k u8 x y9 hik _ h1 hK
  match i,h1,hik with
  | 0,h1,_=>exact h1
  | 1,h1,_=>exact h1
  | 2,h1,_=>exact h1
  | 3,h1,_=>exact h1
  | 4,h1,hik=>
    obtain ⟨q,hq,nj,⟨y,aI,iK⟩,hlt⟩:=h1
    have rB:=(Array.getElem?_eq_some_iff.1 iK).1
    by_cases k3:k=3
    · rw [if_pos k3] at hK;omega
    ·
     rw [if_neg k3] at hK
     by_cases k5:k=5
     ·
      rw [if_pos k5] at hK
      exact ⟨q,hq,nj,⟨y,aI,(hK.block q rB (fun e=>by have:=yL.out q e.symm;omega)).trans iK⟩,Nat.lt_of_lt_of_le hlt hK.size⟩
     ·
      rw [if_neg k5] at hK
      exact ⟨q,hq,nj,⟨y,aI,(hK.1.block q rB).trans iK⟩,Nat.lt_of_lt_of_le hlt hK.1.size⟩
  | 5,h1,hik=>
    obtain ⟨y,v9,aI,hA,hlt⟩:=h1
    by_cases k3:k=3
    · rw [if_pos k3] at hK;omega
    ·
     rw [if_neg k3,if_neg (fun e=>hik e.symm)] at hK
     exact ⟨y,v9,aI,hA.below hK.1,Nat.lt_of_lt_of_le hlt hK.1.size⟩
  | _+6,_,_=>trivial
 ·
  intro _ b9 x ls hR hS ai bI bf hk
  have h3:b9.eval (.tmp 3)=.pointer (some ⟨N,0,none⟩):=Eq.mp (by kernel_rfl) (hk 3 (by decide))
  refine Rp.ag ?_
  exact Rs.aR _ _ h3 (by have:=j6 N 0 6 (by decide) x;rw [Nat.zero_add] at this;exact this) ⟨by rw [if_neg (by decide),if_neg (by decide)];exact ⟨Below.refl _ _,.inr rfl⟩,rfl,⟨fun hh=>hS.1 hh,fun h2 h3=>hS.2 h2 h3⟩⟩
 ·
  intro _ b9 x ls hR hS ai bI bf hk
  have Dr:b9.eval (.tmp 15)=.pointer (some ⟨N,6,none⟩):=Eq.mp (by kernel_rfl) (hk 15 (by decide))
  have l5:ls 5=false:=bf [] 5 _ rfl (by kernel_rfl)
  have hc:x.cell? ⟨N,6,none⟩=some ((.slice (some ⟨w7.heap.size,0,none⟩) 1 1)):=by
   cases l3:ls 3 with
   | false=>have hm:=HM.out.below (hS.1 l3).2;simp [World.cell?,hm.bx.box]
   | true=>obtain ⟨y,v9,aI,hm,hsz⟩:=hS.2 l3 l5;simp [World.cell?,hm.bx.box]
  refine Rp.ag ?_
  exact Rg.aK _ _ Dr (Ap.aW (by simp [isAgg]) hc) ⟨by rw [if_neg (by decide),if_neg (by decide)];exact ⟨Below.refl _ _,.inr rfl⟩,rfl,⟨fun hh=>hS.1 hh,fun h2 h3=>hS.2 h2 h3⟩⟩
 ·
  intro _ b9 x ls hR hS ai bI bf hk
  have h0:b9.eval (.tmp 0)=.pointer (some ⟨b,0,none⟩):=Eq.mp (by kernel_rfl) (hk 0 (by decide))
  refine Rp.ag ?_
  exact Rg.az ⟨by rw [if_neg (by decide),if_neg (by decide)];exact ⟨Below.refl _ _,.inr rfl⟩,h0,⟨fun hh=>hS.1 hh,fun h2 h3=>hS.2 h2 h3⟩⟩
 ·
  intro _ b9 x ls hR hS ai bI bf hk
  have G1:b9.eval (.tmp 17)=.pointer (some ⟨b,0,none⟩):=Eq.mp (by kernel_rfl) (hk 17 (by decide))
  obtain ⟨hsz,hb⟩:=hS.1 ai
  have hm:=HM.out.below hb
  refine Rp.bW #[.pointer (some ⟨b,0,none⟩),.bool false] Tryz.func23 (by kernel_rfl) (by kernel_rfl) (by simp [G1,show ∀v,b9.eval (.const v)=v from fun _=>rfl]) (et.out x hm.bx.rd hb.size) ?_
  intro e w' hp
  rcases av hp with ⟨er,cy,rfl,df⟩ | ⟨y,u9,v9,aI,rfl,he,ht,hr⟩
  · exact .inr ⟨_,rfl,er,cy,rfl,(hb.mono HM.out.bx.rd.size).trans df⟩
  · exact .inl ⟨u9,rfl,by rw [if_pos rfl];exact hsz,⟨y,aI,he⟩,⟨fun hh=>by simp [Rs.upd] at hh,fun _ _=>⟨y,v9,aI,hm.step ht hr,by have:=ht.size;omega⟩⟩⟩
 ·
  intro _ b9 x ls hR hS ai bI bf hk
  have N5:(fun u9 (x:World)=>∃y,PN=.ok y∧u9=iv y.1) (b9.eval (.tmp 18)) x:=Eq.mp (by kernel_rfl) (hk 18 (by decide))
  have l3:ls 3=true:=bI [] 3 (by kernel_rfl)
  have l5:ls 5=false:=bf [] 5 _ rfl (by kernel_rfl)
  obtain ⟨y,v9,aI,hm,hsz⟩:=hS.2 l3 l5
  obtain ⟨y2,gi,he⟩:=N5
  have lC:y2=y:=Except.ok.inj (gi.symm.trans aI)
  subst lC
  have cU:=(Below.refl x.heap.size x).alloc (Nat.le_refl _) (.cells #[iv y2.1] dU)
  refine Rp.ag ?_
  exact Rg.di #[(0,iv y2.1)] _ (by simp [he]) (by go_simp;rfl) ⟨by rw [if_neg (by decide),if_neg (by decide)];exact ⟨cU,.inl rfl⟩,⟨x.heap.size,rfl,hsz,⟨y2,aI,heap_alloc_new x _⟩,by rw [World.size_alloc];omega⟩,⟨fun hh=>absurd (l3.symm.trans hh) (by decide),fun _ _=>⟨y2,v9,aI,hm.below cU,by rw [World.size_alloc];omega⟩⟩⟩
 ·
  intro _ b9 x ls hR hS ai bI bf hk
  have Fo:b9.eval (.tmp 16)=(.slice (some ⟨w7.heap.size,0,none⟩) 1 1):=Eq.mp (by kernel_rfl) (hk 16 (by decide))
  have VB:(fun u9 x=>∃q,u9=.slice (some ⟨q,0,none⟩) 1 1∧lq.heap.size≤q∧(∃y,PN=.ok y∧x.heap[q]? =some (.cells #[iv y.1] dU))∧lq.heap.size < x.heap.size) (b9.eval (.tmp 19)) x:=Eq.mp (by kernel_rfl) (hk 19 (by decide))
  have l3:ls 3=true:=bI [] 3 (by kernel_rfl)
  obtain ⟨y,v9,aI,hm,hsz⟩:=hS.2 l3 ai
  obtain ⟨q,hq,nj,⟨y2,gi,iK⟩,hlt⟩:=VB
  have lC:y2=y:=Except.ok.inj (gi.symm.trans aI)
  subst lC
  obtain ⟨u9,w',hrun,hown',hgr,hat⟩:=Ap.bR (P:=Tryz.prog) x 0 35 35 35 dU i0 _ 1 8 Tryz.underlying35 (bw Tryz.underlying35) iy hz0 hz1 hz2 rfl (by decide) (by decide) ((.slice (some ⟨w7.heap.size,0,none⟩) 1 1)) _ _ hm.rows.k (b9.eval (.tmp 19)) 1 ([iv y2.1]) (by rw [hq];exact cP (b:=q) (off:=0) rfl (by intro u hu;obtain rfl:=List.mem_singleton.1 hu;rfl) (.inr rfl) (fun i z hi=>by rw [Nat.zero_add];unfold World.cell?;simp only [iK];simpa using hi)) (by unfold maxLen;have:=dO.out;omega) (by have:=dO.out;omega) (Nat.zero_le _)
  refine Rp.ag ?_
  exact Ap.cR ((.slice (some ⟨w7.heap.size,0,none⟩) 1 1)) _ u9 w' Fo rfl hrun ⟨by rw [if_neg (by decide),if_pos rfl];exact hgr,⟨y2,v9,aI,hm.app_k y2.1 hgr hown' hat,Nat.lt_of_lt_of_le hlt hgr.size⟩,⟨fun hh=>absurd (l3.symm.trans hh) (by decide),fun _ hh=>by simp [Rs.upd] at hh⟩⟩
 ·
  intro ch a' w' yN hD
  obtain ⟨er,cy,A8,qU⟩:=hD
  refine ⟨yN,?_⟩
  rw [←A8]
  have hz:Z=.error er:=by rw [B3.out,sP,cy];rfl
  exact aN hz ((HM.out.belowB HV.out).trans qU)
 intro vals wD ls _ uj _ hL
 obtain ⟨g0,g1,g2,g3,g4,g5,_⟩:=hL
 obtain ⟨q,v12,aI,hA,_⟩:=(g5:(fun u9 x=>∃y v9,PN=.ok y∧iT W v x b B P v9 y.2 d N (n9) ({ n9 with ks:=n9.ks++[y.1] }) (.slice none 0 0) (.slice none 0 0) (.slice (some ⟨w7.heap.size,0,none⟩) 1 1) (.slice none 0 0) (.slice none 0 0) u9 (N+1)∧lq.heap.size < x.heap.size) (vals 5) wD)
 clear g0 g1 g2 g3 g4 uj
 obtain ⟨jc,bO⟩:∃n2:Nd,{ n9 with ks:=n9.ks++[q.1] }=n2:=⟨_,rfl⟩
 rw [bO] at hA
 have dA:=Lib.hid bO
 simp only [Rg.bh,List.take_succ_cons,List.take_zero,List.drop_succ_cons,List.drop_zero,List.setIfInBounds_toArray,List.set_cons_succ,List.set_cons_zero]
 generalize vals 0=g0 at *
 generalize vals 1=g1 at *
 generalize vals 2=g2 at *
 generalize vals 3=g3 at *
 generalize vals 4=g4 at *
 generalize vals 5=u9 at *
 obtain ⟨a12,c12,wq,_⟩:=aA hA.rows.k
 subst wq
 obtain ⟨EX,Zbg,fj⟩:=hA.set 6 (.slice a12 jc.ks.length c12) (by rw [←dA.out];rfl)
 obtain ⟨⟨x0,x1,x2,x3,x4,x5,x6,x7⟩,z0,z1,z2,z3,z4,z5,z6,z7⟩:=af hA.bx.box
 have o7:=Lib.hid fj
 have ox:=Lib.hid aI
 clear hA fj aI i0 iy hz0 hz1 hz2 bO
 have qL:aO nest false e.2=.ok q:=by rw [sP];exact ox.out
 have M3:Hid (Z=if aV 1 [[101,108,105,102]] q.2 then bd (iR nest (nx q.2).ln q.2) fun n s=>bd (Sy.bC n s) fun k s=>.ok ({ k:=6,ks:=[y.1,q.1,k],ln:=ln },s) else if aV 1 [[101,108,115,101]] q.2 then bd (aO nest false (tk q.2)) fun k s=>bd (aP 1 [[102,105]] s) fun _ s=>.ok ({ k:=6,ks:=[y.1,q.1,k],ln:=ln },s) else bd (aP 1 [[102,105]] q.2) fun _ s=>.ok ({ k:=6,ks:=[y.1,q.1],ln:=ln },s)):=by show _=_;rw [B3.out,qL];rfl
 have xL:=Lib.hid dA.out
 clear dA dO et HM sP
 have rZ:Hid (ph q.2+14≤80000):=by have jN:=uN.out;have h8:=cQ HE.out.cost false e.2 q qL;show _≤_;omega
 have Zm:=ox
 clear qL ox
 have HQm:Hid (q.2.2.length < s.2.length):=by
  have h1:=bP HE.out.weak false _ _ (show aO nest false (tk s)=.ok y from HX7.out)
  have h2:=bS _ (show aP 1 [[116,104,101,110]] y.2=.ok e from PY.out)
  have h3:=bP HE.out.weak false e.2 q (by rw [show aO nest false e.2=PN from Zak.out];exact Zm.out)
  have h4:=eJ H4.out
  show _ < _
  omega
 go_wp2_with fail
 refine (mH EX b B _ v12 q.2 d o7.out.bx.rd [[101,108,105,102]] (by decide)).mono ?_
 rintro r tu ⟨rfl,Ek⟩
 have su:=Lib.hid (o7.out.below ((Below.refl _ _).trans Ek))
 clear Ek
 obtain ⟨z14,Ud⟩:∃z,aV 1 [[101,108,105,102]] q.2=z:=⟨_,rfl⟩
 have N8:=Lib.hid Ud
 rw [Ud]
 clear Ud
 clear x0 x1 x2 x3 x4 x5 x6 x7 z0 z1 z2 z3 z4 z5 z6 z7
 cases z14 with
 | false=>
   have CV:Hid (Z=if aV 1 [[101,108,115,101]] q.2 then bd (aO nest false (tk q.2)) fun k s=>bd (aP 1 [[102,105]] s) fun _ s=>.ok ({ k:=6,ks:=[y.1,q.1,k],ln:=ln },s) else bd (aP 1 [[102,105]] q.2) fun _ s=>.ok ({ k:=6,ks:=[y.1,q.1],ln:=ln },s)):=by show _=_;rw [M3.out,if_neg (by rw [show aV 1 [[101,108,105,102]] q.2=false from N8.out];decide)]
   go_wp2_with fail
   refine (mH tu b B _ v12 q.2 d su.out.bx.rd [[101,108,115,101]] (by decide)).mono ?_
   rintro r w16 ⟨rfl,Zac⟩
   have F9:=Lib.hid (su.out.below ((Below.refl _ _).trans Zac))
   clear Zac
   obtain ⟨z16,VT⟩:∃z,aV 1 [[101,108,115,101]] q.2=z:=⟨_,rfl⟩
   have OE:=Lib.hid VT
   rw [VT]
   clear VT
   cases z16 with
   | false=>
     have Mb:Hid (Z=bd (aP 1 [[102,105]] q.2) fun _ s=>.ok ({ k:=6,ks:=[y.1,q.1],ln:=ln },s)):=by show _=_;rw [CV.out,if_neg (by rw [show aV 1 [[101,108,115,101]] q.2=false from OE.out];decide)]
     go_wp2_with fail
     refine (fc w16 b B _ v12 q.2 d F9.out.bx.rd 1 [[102,105]] (by decide)).mono ?_
     rintro r E5 hp
     rcases av hp with ⟨er,cy,rfl,df⟩ | ⟨f,u9,v18,aI,rfl,he,ht,hr⟩
     ·
      have hz:Z=.error er:=by rw [Mb.out,cy];rfl
      exact ⟨rfl,aN hz ((F9.out.belowB HV.out).trans df)⟩
     have bX:u9=.tuple #[]:=he
     subst bX
     have zf:=Lib.hid (F9.out.step ht hr)
     have ZcC:=Lib.hid aI
     have Gu:Hid (Z=.ok ({ k:=6,ks:=[y.1,q.1],ln:=ln },f.2)):=by show _=_;rw [Mb.out,aI];rfl
     have Mq:Hid (ph f.2+22≤80000):=by have jN:=rZ.out;have h8:=bD (by decide) f aI;show _≤_;omega
     clear hp he ht hr aI
     go_upto_region 13 with fail
     obtain ⟨⟨x0,x1,x2,x3,x4,x5,x6,x7⟩,z0,z1,z2,z3,z4,z5,z6,z7⟩:=af zf.out.bx.box
     have kF:Hid (Z=.ok (jc,f.2)):=by show _=_;(rw [Gu.out,←xL.out,←IB.out,sY.out,oz.out];try rfl)
     obtain ⟨wF,LD,fG,fJ,fO,fL⟩:=zf.out.fin
     have dH:Hid (Rows wF (fun g=>W.heap.size≤g) jc _ _ _∧aj b v W _ wF∧Rd wF b B P _ f.2 d):=⟨fJ,fO,fL⟩
     obtain ⟨⟨y0,y1,y2,y3,y4,y5,y6,y7⟩,_⟩:=af fG
     obtain ⟨⟨r0,r1,r2,r3,r4,r5,r6,r7⟩,q0,q1,q2,q3,q4,q5,q6,q7⟩:=af zf.out.res
     clear fG fJ fO fL
     go_wp2_with fail
     refine bodyPost_ret (v:=.agg (jO jc (.slice none 0 0) (.slice none 0 0) (.slice a12 jc.ks.length c12))) (by simp [results,Tryz.results126,go_sem,y0,y1,y2,y3,y4,y5,y6,y7,jO]) rfl ?_
     rw [show Z=.ok (jc,f.2) from kF.out]
     exact ⟨_,_,_,_,rfl,dH.out.1,dH.out.2.1,dH.out.2.2⟩
   | true=>
     have Mb:Hid (Z=bd (aO nest false (tk q.2)) fun k s=>bd (aP 1 [[102,105]] s) fun _ s=>.ok ({ k:=6,ks:=[y.1,q.1,k],ln:=ln },s)):=by show _=_;rw [CV.out,if_pos OE.out]
     go_wp2_with fail
     refine (bm w16 b B _ v12 q.2 d F9.out.bx.rd).mono ?_
     rintro r E5 ⟨rfl,ZM,XV⟩
     have zf:=Lib.hid (F9.out.step ZM XV)
     clear ZM XV
     have Mq:Hid (ph (tk q.2)+22≤80000):=by have jN:=rZ.out;have h8:=fS (s:=q.2) (by rw [dD OE.out];decide);show _≤_;omega
     go_upto_region 11 with fail
     obtain ⟨RN,hX⟩:∃X,aO nest false (tk q.2)=X:=⟨_,rfl⟩
     have ZcP:=Lib.hid hX
     have dO:Hid (jc.ks.length≤100000):=by show _≤_;rw [←xL.out,←IB.out,sY.out,oz.out];simp
     have et:Hid (∀x,Rd x b B (gG P N (.slice none 0 0) (.slice none 0 0) (.slice a12 jc.ks.length c12)) v12 (tk q.2) d→E5.heap.size≤x.heap.size→Calls Tryz.prog 23 #[.pointer (some ⟨b,0,none⟩),.bool false] x (Post eN x b B (gG P N (.slice none 0 0) (.slice none 0 0) (.slice a12 jc.ks.length c12)) v12 d RN)):=fun x hr hs=>by
      rw [←hX]
      exact yE.out x b B _ v12 (tk q.2) false hr (fun g hg=>zf.out.free HP.out g (Nat.le_trans hs hg)) (by have:=Mq.out;omega)
     have sP:=hX
     clear hX
     have HM:=zf
     obtain ⟨i0,iy,hz0,hz1,hz2⟩:=info_parts jy
     have yL:Hid (∀g,Value.ownBlock ((.slice a12 jc.ks.length c12))=some g→g < E5.heap.size):=fun g hg=>(HM.out.rows.k.lt g hg).2
     refine Rp.cq (fun ch x=>∃e,RN=.error e∧mI e.1 e.2=Ending.panicked ch∧Below B E5 x) 6 [] [Rg.Is (.pointer (some ⟨N,6,none⟩)),Rg.Is ((.slice a12 jc.ks.length c12)),Rg.Is (.pointer (some ⟨b,0,none⟩)),(fun u9 (x:World)=>∃y,RN=.ok y∧u9=iv y.1),(fun u9 x=>∃q,u9=.slice (some ⟨q,0,none⟩) 1 1∧E5.heap.size≤q∧(∃y,RN=.ok y∧x.heap[q]? =some (.cells #[iv y.1] dU))∧E5.heap.size < x.heap.size),(fun u9 x=>∃y v9,RN=.ok y∧iT W v x b B P v9 y.2 d N (jc) ({ jc with ks:=jc.ks++[y.1] }) (.slice none 0 0) (.slice none 0 0) (.slice a12 jc.ks.length c12) (.slice none 0 0) (.slice none 0 0) u9 (N+1)∧E5.heap.size < x.heap.size)] (fun _ _=>True) (fun ls x=>(ls 3=false→x.heap.size=E5.heap.size∧Below E5.heap.size E5 x)∧(ls 3=true→ls 5=false→∃y v9,RN=.ok y∧fR W v x b B P v9 y.2 d N (jc) (.slice none 0 0) (.slice none 0 0) (.slice a12 jc.ks.length c12) (N+1)∧E5.heap.size≤x.heap.size)) (fun k x y=>if k=3 then x.heap.size=E5.heap.size else if k=5 then x.grownBy y (Value.ownBlock ((.slice a12 jc.ks.length c12))) else (Below x.heap.size x y∧(k=4∨y.heap.size=x.heap.size))) (by kernel_rfl) (by kernel_rfl) (of_decide_eq_true (by kernel_rfl)) (by kernel_rfl) (by kernel_rfl) trivial ⟨fun _=>⟨rfl,rfl,rfl,rfl,Nat.le_refl _,fun _ _=>rfl⟩,fun h=>by cases h⟩ (fun ls mC x e h1=>⟨fun h2=>h1.1 (by rw [e];exact h2),fun h2 h3=>h1.2 (by rw [e];exact h2) (by rw [e];exact h3)⟩) (fun _ _ _ _ _=>trivial) (fun i ls x _ h1=>by rw [show ([]:List Bool).getD i true=true from rfl] at h1;cases h1) ?_ ⟨rfl,rfl,rfl,rfl,rfl,rfl,trivial⟩ ⟨?_,?_,?_,?_,?_,?_,trivial⟩ ?_ ?_
     ·
      intro i k u8 x y9 hik _ h1 hK
      match i,h1,hik with
      | 0,h1,_=>exact h1
      | 1,h1,_=>exact h1
      | 2,h1,_=>exact h1
      | 3,h1,_=>exact h1
      | 4,h1,hik=>
        obtain ⟨q,hq,nj,⟨y,aI,iK⟩,hlt⟩:=h1
        have rB:=(Array.getElem?_eq_some_iff.1 iK).1
        by_cases k3:k=3
        · rw [if_pos k3] at hK;omega
        ·
         rw [if_neg k3] at hK
         by_cases k5:k=5
         ·
          rw [if_pos k5] at hK
          exact ⟨q,hq,nj,⟨y,aI,(hK.block q rB (fun e=>by have:=yL.out q e.symm;omega)).trans iK⟩,Nat.lt_of_lt_of_le hlt hK.size⟩
         ·
          rw [if_neg k5] at hK
          exact ⟨q,hq,nj,⟨y,aI,(hK.1.block q rB).trans iK⟩,Nat.lt_of_lt_of_le hlt hK.1.size⟩
      | 5,h1,hik=>
        obtain ⟨y,v9,aI,hA,hlt⟩:=h1
        by_cases k3:k=3
        · rw [if_pos k3] at hK;omega
        ·
         rw [if_neg k3,if_neg (fun e=>hik e.symm)] at hK
         exact ⟨y,v9,aI,hA.below hK.1,Nat.lt_of_lt_of_le hlt hK.1.size⟩
      | _+6,_,_=>trivial
     ·
      intro _ b9 x ls hR hS ai bI bf hk
      have h3:b9.eval (.tmp 3)=.pointer (some ⟨N,0,none⟩):=Eq.mp (by kernel_rfl) (hk 3 (by decide))
      refine Rp.ag ?_
      exact Rs.aR _ _ h3 (by have:=j6 N 0 6 (by decide) x;rw [Nat.zero_add] at this;exact this) ⟨by rw [if_neg (by decide),if_neg (by decide)];exact ⟨Below.refl _ _,.inr rfl⟩,rfl,⟨fun hh=>hS.1 hh,fun h2 h3=>hS.2 h2 h3⟩⟩
     ·
      intro _ b9 x ls hR hS ai bI bf hk
      have Qb:b9.eval (.tmp 46)=.pointer (some ⟨N,6,none⟩):=Eq.mp (by kernel_rfl) (hk 46 (by decide))
      have l5:ls 5=false:=bf [] 5 _ rfl (by kernel_rfl)
      have hc:x.cell? ⟨N,6,none⟩=some ((.slice a12 jc.ks.length c12)):=by
       cases l3:ls 3 with
       | false=>have hm:=HM.out.below (hS.1 l3).2;simp [World.cell?,hm.bx.box]
       | true=>obtain ⟨y,v9,aI,hm,hsz⟩:=hS.2 l3 l5;simp [World.cell?,hm.bx.box]
      refine Rp.ag ?_
      exact Rg.aK _ _ Qb (Ap.aW (by simp [isAgg]) hc) ⟨by rw [if_neg (by decide),if_neg (by decide)];exact ⟨Below.refl _ _,.inr rfl⟩,rfl,⟨fun hh=>hS.1 hh,fun h2 h3=>hS.2 h2 h3⟩⟩
     ·
      intro _ b9 x ls hR hS ai bI bf hk
      have h0:b9.eval (.tmp 0)=.pointer (some ⟨b,0,none⟩):=Eq.mp (by kernel_rfl) (hk 0 (by decide))
      refine Rp.ag ?_
      exact Rg.az ⟨by rw [if_neg (by decide),if_neg (by decide)];exact ⟨Below.refl _ _,.inr rfl⟩,h0,⟨fun hh=>hS.1 hh,fun h2 h3=>hS.2 h2 h3⟩⟩
     ·
      intro _ b9 x ls hR hS ai bI bf hk
      have VS:b9.eval (.tmp 48)=.pointer (some ⟨b,0,none⟩):=Eq.mp (by kernel_rfl) (hk 48 (by decide))
      obtain ⟨hsz,hb⟩:=hS.1 ai
      have hm:=HM.out.below hb
      refine Rp.bW #[.pointer (some ⟨b,0,none⟩),.bool false] Tryz.func23 (by kernel_rfl) (by kernel_rfl) (by simp [VS,show ∀v,b9.eval (.const v)=v from fun _=>rfl]) (et.out x hm.bx.rd hb.size) ?_
      intro e w' hp
      rcases av hp with ⟨er,cy,rfl,df⟩ | ⟨y,u9,v9,aI,rfl,he,ht,hr⟩
      · exact .inr ⟨_,rfl,er,cy,rfl,(hb.mono HM.out.bx.rd.size).trans df⟩
      · exact .inl ⟨u9,rfl,by rw [if_pos rfl];exact hsz,⟨y,aI,he⟩,⟨fun hh=>by simp [Rs.upd] at hh,fun _ _=>⟨y,v9,aI,hm.step ht hr,by have:=ht.size;omega⟩⟩⟩
     ·
      intro _ b9 x ls hR hS ai bI bf hk
      have V2:(fun u9 (x:World)=>∃y,RN=.ok y∧u9=iv y.1) (b9.eval (.tmp 49)) x:=Eq.mp (by kernel_rfl) (hk 49 (by decide))
      have l3:ls 3=true:=bI [] 3 (by kernel_rfl)
      have l5:ls 5=false:=bf [] 5 _ rfl (by kernel_rfl)
      obtain ⟨y,v9,aI,hm,hsz⟩:=hS.2 l3 l5
      obtain ⟨y2,gi,he⟩:=V2
      have lC:y2=y:=Except.ok.inj (gi.symm.trans aI)
      subst lC
      have cU:=(Below.refl x.heap.size x).alloc (Nat.le_refl _) (.cells #[iv y2.1] dU)
      refine Rp.ag ?_
      exact Rg.di #[(0,iv y2.1)] _ (by simp [he]) (by go_simp;rfl) ⟨by rw [if_neg (by decide),if_neg (by decide)];exact ⟨cU,.inl rfl⟩,⟨x.heap.size,rfl,hsz,⟨y2,aI,heap_alloc_new x _⟩,by rw [World.size_alloc];omega⟩,⟨fun hh=>absurd (l3.symm.trans hh) (by decide),fun _ _=>⟨y2,v9,aI,hm.below cU,by rw [World.size_alloc];omega⟩⟩⟩
     ·
      intro _ b9 x ls hR hS ai bI bf hk
      have Qm:b9.eval (.tmp 47)=(.slice a12 jc.ks.length c12):=Eq.mp (by kernel_rfl) (hk 47 (by decide))
      have h50:(fun u9 x=>∃q,u9=.slice (some ⟨q,0,none⟩) 1 1∧E5.heap.size≤q∧(∃y,RN=.ok y∧x.heap[q]? =some (.cells #[iv y.1] dU))∧E5.heap.size < x.heap.size) (b9.eval (.tmp 50)) x:=Eq.mp (by kernel_rfl) (hk 50 (by decide))
      have l3:ls 3=true:=bI [] 3 (by kernel_rfl)
      obtain ⟨y,v9,aI,hm,hsz⟩:=hS.2 l3 ai
      obtain ⟨q,hq,nj,⟨y2,gi,iK⟩,hlt⟩:=h50
      have lC:y2=y:=Except.ok.inj (gi.symm.trans aI)
      subst lC
      obtain ⟨u9,w',hrun,hown',hgr,hat⟩:=Ap.bR (P:=Tryz.prog) x 0 35 35 35 dU i0 _ 1 8 Tryz.underlying35 (bw Tryz.underlying35) iy hz0 hz1 hz2 rfl (by decide) (by decide) ((.slice a12 jc.ks.length c12)) _ _ hm.rows.k (b9.eval (.tmp 50)) 1 ([iv y2.1]) (by rw [hq];exact cP (b:=q) (off:=0) rfl (by intro u hu;obtain rfl:=List.mem_singleton.1 hu;rfl) (.inr rfl) (fun i z hi=>by rw [Nat.zero_add];unfold World.cell?;simp only [iK];simpa using hi)) (by unfold maxLen;have:=dO.out;omega) (by have:=dO.out;omega) (Nat.zero_le _)
      refine Rp.ag ?_
      exact Ap.cR ((.slice a12 jc.ks.length c12)) _ u9 w' Qm rfl hrun ⟨by rw [if_neg (by decide),if_pos rfl];exact hgr,⟨y2,v9,aI,hm.app_k y2.1 hgr hown' hat,Nat.lt_of_lt_of_le hlt hgr.size⟩,⟨fun hh=>absurd (l3.symm.trans hh) (by decide),fun _ hh=>by simp [Rs.upd] at hh⟩⟩
     ·
      intro ch a' w' yN hD
      obtain ⟨er,cy,A8,qU⟩:=hD
      refine ⟨yN,?_⟩
      rw [←A8]
      have hz:Z=.error er:=by rw [Mb.out,sP,cy];rfl
      exact aN hz ((HM.out.belowB HV.out).trans qU)
     intro vals wD ls _ uj _ hL
     obtain ⟨g0,g1,g2,g3,g4,g5,_⟩:=hL
     obtain ⟨x9,v20,aI,hA,_⟩:=(g5:(fun u9 x=>∃y v9,RN=.ok y∧iT W v x b B P v9 y.2 d N (jc) ({ jc with ks:=jc.ks++[y.1] }) (.slice none 0 0) (.slice none 0 0) (.slice a12 jc.ks.length c12) (.slice none 0 0) (.slice none 0 0) u9 (N+1)∧E5.heap.size < x.heap.size) (vals 5) wD)
     clear g0 g1 g2 g3 g4 uj
     obtain ⟨XE,bO⟩:∃n2:Nd,{ jc with ks:=jc.ks++[x9.1] }=n2:=⟨_,rfl⟩
     rw [bO] at hA
     have dA:=Lib.hid bO
     simp only [Rg.bh,List.take_succ_cons,List.take_zero,List.drop_succ_cons,List.drop_zero,List.setIfInBounds_toArray,List.set_cons_succ,List.set_cons_zero]
     generalize vals 0=g0 at *
     generalize vals 1=g1 at *
     generalize vals 2=g2 at *
     generalize vals 3=g3 at *
     generalize vals 4=g4 at *
     generalize vals 5=u9 at *
     obtain ⟨a20,c20,wq,_⟩:=aA hA.rows.k
     subst wq
     obtain ⟨w20,ZcJ,fj⟩:=hA.set 6 (.slice a20 XE.ks.length c20) (by rw [←dA.out];rfl)
     obtain ⟨⟨x0,x1,x2,x3,x4,x5,x6,x7⟩,z0,z1,z2,z3,z4,z5,z6,z7⟩:=af hA.bx.box
     have UD:=Lib.hid fj
     have ox:=Lib.hid aI
     clear hA fj aI i0 iy hz0 hz1 hz2 bO
     have qL:aO nest false (tk q.2)=.ok x9:=by rw [sP];exact ox.out
     have X6:Hid (Z=bd (aP 1 [[102,105]] x9.2) fun _ s=>.ok ({ k:=6,ks:=[y.1,q.1,x9.1],ln:=ln },s)):=by show _=_;rw [Mb.out,qL];rfl
     have ZbX:=Lib.hid dA.out
     clear dA dO et HM sP
     have Yx:Hid (ph x9.2+21≤80000):=by have jN:=Mq.out;have h8:=cQ HE.out.cost false (tk q.2) x9 qL;show _≤_;omega
     have Zco:=ox
     clear qL ox
     go_wp2_with fail
     refine (fc w20 b B _ v20 x9.2 d UD.out.bx.rd 1 [[102,105]] (by decide)).mono ?_
     rintro r w22 hp
     rcases av hp with ⟨er,cy,rfl,df⟩ | ⟨f,u9,v22,aI,rfl,he,ht,hr⟩
     ·
      have hz:Z=.error er:=by rw [X6.out,cy];rfl
      exact ⟨rfl,aN hz ((UD.out.belowB HV.out).trans df)⟩
     have bX:u9=.tuple #[]:=he
     subst bX
     have VQ:=Lib.hid (UD.out.step ht hr)
     have Zcx:=Lib.hid aI
     have Zbp:Hid (Z=.ok ({ k:=6,ks:=[y.1,q.1,x9.1],ln:=ln },f.2)):=by show _=_;rw [X6.out,aI];rfl
     have Zcl:Hid (ph f.2+29≤80000):=by have jN:=Yx.out;have h8:=bD (by decide) f aI;show _≤_;omega
     clear hp he ht hr aI
     clear x0 x1 x2 x3 x4 x5 x6 x7 z0 z1 z2 z3 z4 z5 z6 z7
     go_upto_region 13 with fail
     obtain ⟨⟨x0,x1,x2,x3,x4,x5,x6,x7⟩,z0,z1,z2,z3,z4,z5,z6,z7⟩:=af VQ.out.bx.box
     have kF:Hid (Z=.ok (XE,f.2)):=by show _=_;(rw [Zbp.out,←ZbX.out,←xL.out,←IB.out,sY.out,oz.out];try rfl)
     obtain ⟨wF,LD,fG,fJ,fO,fL⟩:=VQ.out.fin
     have dH:Hid (Rows wF (fun g=>W.heap.size≤g) XE _ _ _∧aj b v W _ wF∧Rd wF b B P _ f.2 d):=⟨fJ,fO,fL⟩
     obtain ⟨⟨y0,y1,y2,y3,y4,y5,y6,y7⟩,_⟩:=af fG
     obtain ⟨⟨r0,r1,r2,r3,r4,r5,r6,r7⟩,q0,q1,q2,q3,q4,q5,q6,q7⟩:=af VQ.out.res
     clear fG fJ fO fL
     go_wp2_with fail
     refine bodyPost_ret (v:=.agg (jO XE (.slice none 0 0) (.slice none 0 0) (.slice a20 XE.ks.length c20))) (by simp [results,Tryz.results126,go_sem,y0,y1,y2,y3,y4,y5,y6,y7,jO]) rfl ?_
     rw [show Z=.ok (XE,f.2) from kF.out]
     exact ⟨_,_,_,_,rfl,dH.out.1,dH.out.2.1,dH.out.2.2⟩
 | true=>
   have CV:Hid (Z=bd (iR nest (nx q.2).ln q.2) fun n s=>bd (Sy.bC n s) fun k s=>.ok ({ k:=6,ks:=[y.1,q.1,k],ln:=ln },s)):=by show _=_;rw [M3.out,if_pos N8.out]
   go_upto_region 7 with fail
   obtain ⟨X,hX⟩:∃X,iR nest (nx q.2).ln q.2=X:=⟨_,rfl⟩
   have HXa:=Lib.hid hX
   have ZC:Hid ((nx q.2).k≠4):=by show _≠_;rw [dD N8.out];decide
   have dO:Hid (jc.ks.length≤100000):=by show _≤_;rw [←xL.out,←IB.out,sY.out,oz.out];simp
   have ZT:Hid (∀y8,X=.ok y8→y8.2.2.length < q.2.2.length∧ph y8.2+8≤ph q.2):=fun y8 h=>⟨Pf HE.out.weak ZC.out (by rw [hX];exact h),FH HE.out.cost _ _ ZC.out y8 (by rw [hX];exact h)⟩
   have HIa:Hid (∀x,Rd x b B (gG P N (.slice none 0 0) (.slice none 0 0) (.slice a12 jc.ks.length c12)) v12 q.2 d→tu.heap.size≤x.heap.size→Calls Tryz.prog 126 #[.pointer (some ⟨b,0,none⟩),.agg #[.int .i64 0,.string ⟨#[]⟩,.bool false,.slice none 0 0,.int .i64 0,.slice none 0 0,.slice none 0 0,.int .i64 ((nx q.2).ln:Int)]] x (nW x b B (gG P N (.slice none 0 0) (.slice none 0 0) (.slice a12 jc.ks.length c12)) v12 d X)):=fun x hr hs=>by
    rw [←hX]
    exact S7.out x b B _ v12 q.2 hr (fun g hg=>su.out.free HP.out g (Nat.le_trans hs hg)) (by have:=rZ.out;omega) ZC.out (by have:=HQm.out;have:=HMm.out;omega) _
   clear hX
   have HM:=su
   have yL:Hid (∀g,Value.ownBlock (.slice a12 jc.ks.length c12)=some g→g < tu.heap.size∧g≠b):=fun g hg=>⟨(HM.out.rows.k.lt g hg).2,(HM.out.toMid.rowB HM.out.rows.k (by unfold qp;decide) HM.out.rows.qk hg).2.1⟩
   have HbW:Hid (b < tu.heap.size):=HM.out.bx.rd.lt
   have HFr:Hid (∀g,tu.heap.size≤g→(gG P N (.slice none 0 0) (.slice none 0 0) (.slice a12 jc.ks.length c12)) g):=HM.out.free HP.out
   have HPq:Hid (ph q.2≤80000):=by have:=rZ.out;show _≤_;omega
   obtain ⟨i0,iy,hz0,hz1,hz2⟩:=info_parts jy
   refine Rp.cq (fun ch x=>∃e,X=.error e∧mI e.1 e.2=Ending.panicked ch∧Below B tu x) 12 [] [Rg.Is (.pointer (some ⟨N,6,none⟩)),Rg.Is ((.slice a12 jc.ks.length c12)),Rg.Is (.pointer (some ⟨b,0,none⟩)),Rg.Is (.pointer (some ⟨b,0,none⟩)),Rg.Is (.pointer (some ⟨b,0,none⟩)),Rg.Is (B9 (nx q.2)),Rg.Is (.int .i64 ((nx q.2).ln:Int)),Rg.Is (.agg #[.int .i64 0,.string ⟨#[]⟩,.bool false,.slice none 0 0,.int .i64 0,.slice none 0 0,.slice none 0 0,.int .i64 ((nx q.2).ln:Int)]),(fun u9 (x:World)=>∃y8 Lk LI LC,X=.ok y8∧u9=.agg (jO y8.1 Lk LI LC)∧Rows x (fun g=>tu.heap.size≤g) y8.1 Lk LI LC),(fun u9 (x:World)=>∃y8,X=.ok y8∧u9=iv y8.2.1.length),(fun u9 x=>∃q9,u9=.slice (some ⟨q9,0,none⟩) 1 1∧tu.heap.size≤q9∧(∃y8,X=.ok y8∧x.heap[q9]? =some (.cells #[iv y8.2.1.length] dU))∧Dw X b q.2.2.length x),(fun u9 x=>∃y8 v9,X=.ok y8∧iT W v x b B P v9 (y8.2.1++[y8.1],y8.2.2) d N jc { jc with ks:=jc.ks++[y8.2.1.length] } (.slice none 0 0) (.slice none 0 0) (.slice a12 jc.ks.length c12) (.slice none 0 0) (.slice none 0 0) u9 (N+1)∧Dw X b q.2.2.length x)] (fun _ _=>True) (fun ls x=>(ls 8=false→Below tu.heap.size tu x)∧(ls 8=true→ls 9=false→∃y8 v8,X=.ok y8∧fR W v x b B P v8 y8.2 d N jc (.slice none 0 0) (.slice none 0 0) (.slice a12 jc.ks.length c12) (N+1)∧tu.heap.size≤x.heap.size)∧(ls 9=true→ls 11=false→∃y8 v9,X=.ok y8∧fR W v x b B P v9 (y8.2.1++[y8.1],y8.2.2) d N jc (.slice none 0 0) (.slice none 0 0) (.slice a12 jc.ks.length c12) (N+1)∧tu.heap.size≤x.heap.size)) (fun k x y=>if k=8 then kh x b=q.2.2.length else if k=9 then (∃y8,X=.ok y8∧wm x b=y8.2.1.length)∧(∀(g:Nat) (Y:Array Value) (t:TypeId),x.heap[g]? =some (.cells Y t)→qp t→y.heap[g]? =x.heap[g]?) else if k=11 then x.grownBy y (Value.ownBlock (.slice a12 jc.ks.length c12)) else Below x.heap.size x y) (by kernel_rfl) (by kernel_rfl) (of_decide_eq_true (by kernel_rfl)) (by kernel_rfl) (by kernel_rfl) trivial ⟨fun _=>⟨rfl,rfl,rfl,Nat.le_refl _,fun _ _=>rfl⟩,fun h=>(by cases h),fun h=>(by cases h)⟩ (fun ls mC x e h1=>⟨fun h2=>h1.1 (by rw [e];exact h2),fun h2 h3=>h1.2.1 (by rw [e];exact h2) (by rw [e];exact h3),fun h2 h3=>h1.2.2 (by rw [e];exact h2) (by rw [e];exact h3)⟩) (fun _ _ _ _ _=>trivial) (fun i ls x _ h1=>by rw [show ([]:List Bool).getD i true=true from rfl] at h1;cases h1) ?_ ⟨rfl,rfl,rfl,rfl,rfl,rfl,rfl,rfl,rfl,rfl,rfl,rfl,trivial⟩ ⟨?_,?_,?_,?_,?_,?_,?_,?_,?_,?_,?_,?_,trivial⟩ ?_ ?_
   ·
    intro i k u8 x y9 hik _ h1 hK
    match i,h1,hik with
    | 0,h1,_=>exact h1
    | 1,h1,_=>exact h1
    | 2,h1,_=>exact h1
    | 3,h1,_=>exact h1
    | 4,h1,_=>exact h1
    | 5,h1,_=>exact h1
    | 6,h1,_=>exact h1
    | 7,h1,_=>exact h1
    | 8,h1,hik=>
      obtain ⟨y8,Lk,LI,LC,jv,hu8,ov⟩:=h1
      rw [if_neg (fun e=>hik e.symm)] at hK
      refine ⟨y8,Lk,LI,LC,jv,hu8,?_⟩
      by_cases k9:k=9
      ·
       rw [if_pos k9] at hK
       exact ov.keep (fun g Y t _ hY hT=>hK.2 g Y t hY hT)
      ·
       rw [if_neg k9] at hK
       by_cases YK:k=11
       ·
        rw [if_pos YK] at hK
        exact ov.keep (fun g Y t hg hY hT=>hK.block g (Array.getElem?_eq_some_iff.1 hY).1 (fun e=>by have:=(yL.out g e.symm).1;omega))
       ·
        rw [if_neg YK] at hK
        exact ov.below hK
    | 9,h1,_=>exact h1
    | 10,h1,hik=>
      obtain ⟨q9,hq,nj,⟨y8,jv,iK⟩,hp⟩:=h1
      have rB:=(Array.getElem?_eq_some_iff.1 iK).1
      have Pt:=HbW.out
      by_cases k8:k=8
      ·
       rw [if_pos k8] at hK
       obtain ⟨y7,h7,h71,h72⟩:=hp
       omega
      ·
       rw [if_neg k8] at hK
       by_cases k9:k=9
       ·
        rw [if_pos k9] at hK
        obtain ⟨y7,h7,h71,h72⟩:=hp
        obtain ⟨⟨y6,h6,h61⟩,_⟩:=hK
        have lC:y7=y6:=Except.ok.inj (h7.symm.trans h6)
        subst lC
        omega
       ·
        rw [if_neg k9] at hK
        by_cases YK:k=11
        ·
         rw [if_pos YK] at hK
         exact ⟨q9,hq,nj,⟨y8,jv,(hK.block q9 rB (fun e=>by have:=(yL.out q9 e.symm).1;omega)).trans iK⟩,hp.keep (hK.block b (by omega) (fun e=>(yL.out b e.symm).2 rfl))⟩
        ·
         rw [if_neg YK] at hK
         exact ⟨q9,hq,nj,⟨y8,jv,(hK.block q9 rB).trans iK⟩,hp.keep (hK.block b (by omega))⟩
    | 11,h1,hik=>
      obtain ⟨y8,v9,jv,hA,hp⟩:=h1
      by_cases k8:k=8
      ·
       rw [if_pos k8] at hK
       obtain ⟨y7,h7,h71,h72⟩:=hp
       omega
      ·
       rw [if_neg k8] at hK
       by_cases k9:k=9
       ·
        rw [if_pos k9] at hK
        obtain ⟨y7,h7,h71,h72⟩:=hp
        obtain ⟨⟨y6,h6,h61⟩,_⟩:=hK
        have lC:y7=y6:=Except.ok.inj (h7.symm.trans h6)
        subst lC
        omega
       ·
        rw [if_neg k9,if_neg (fun e=>hik e.symm)] at hK
        exact ⟨y8,v9,jv,hA.below hK,hp.keep (hK.block b hA.bx.rd.lt)⟩
    | _+12,_,_=>trivial
   ·
    intro _ b9 x ls hR hS ai bI bf hk
    have h3:b9.eval (.tmp 3)=.pointer (some ⟨N,0,none⟩):=Eq.mp (by kernel_rfl) (hk 3 (by decide))
    refine Rp.ag ?_
    exact Rs.aR _ _ h3 (by have:=j6 N 0 6 (by decide) x;rw [Nat.zero_add] at this;exact this) ⟨by rw [if_neg (by decide),if_neg (by decide),if_neg (by decide)];exact Below.refl _ _,rfl,⟨fun hh=>hS.1 hh,fun h1 h2=>hS.2.1 h1 h2,fun h1 h2=>hS.2.2 h1 h2⟩⟩
   ·
    intro _ b9 x ls hR hS ai bI bf hk
    have OU:b9.eval (.tmp 26)=.pointer (some ⟨N,6,none⟩):=Eq.mp (by kernel_rfl) (hk 26 (by decide))
    have l11:ls 11=false:=bf [] 11 _ rfl (by kernel_rfl)
    have hc:x.cell? ⟨N,6,none⟩=some ((.slice a12 jc.ks.length c12)):=by
     cases l8:ls 8 with
     | false=>have hm:=HM.out.below (hS.1 l8);simp [World.cell?,hm.bx.box]
     | true=>
       cases l9:ls 9 with
       | false=>obtain ⟨y8,v8,jv,hm,hsz⟩:=hS.2.1 l8 l9;simp [World.cell?,hm.bx.box]
       | true=>obtain ⟨y8,v8,jv,hm,hsz⟩:=hS.2.2 l9 l11;simp [World.cell?,hm.bx.box]
    refine Rp.ag ?_
    exact Rg.aK _ _ OU (Ap.aW (by simp [isAgg]) hc) ⟨by rw [if_neg (by decide),if_neg (by decide),if_neg (by decide)];exact Below.refl _ _,rfl,⟨fun hh=>hS.1 hh,fun h1 h2=>hS.2.1 h1 h2,fun h1 h2=>hS.2.2 h1 h2⟩⟩
   ·
    intro _ b9 x ls hR hS ai bI bf hk
    have h0:b9.eval (.tmp 0)=.pointer (some ⟨b,0,none⟩):=Eq.mp (by kernel_rfl) (hk 0 (by decide))
    refine Rp.ag ?_
    exact Rg.az ⟨by rw [if_neg (by decide),if_neg (by decide),if_neg (by decide)];exact Below.refl _ _,h0,⟨fun hh=>hS.1 hh,fun h1 h2=>hS.2.1 h1 h2,fun h1 h2=>hS.2.2 h1 h2⟩⟩
   ·
    intro _ b9 x ls hR hS ai bI bf hk
    have h0:b9.eval (.tmp 0)=.pointer (some ⟨b,0,none⟩):=Eq.mp (by kernel_rfl) (hk 0 (by decide))
    refine Rp.ag ?_
    exact Rg.az ⟨by rw [if_neg (by decide),if_neg (by decide),if_neg (by decide)];exact Below.refl _ _,h0,⟨fun hh=>hS.1 hh,fun h1 h2=>hS.2.1 h1 h2,fun h1 h2=>hS.2.2 h1 h2⟩⟩
   ·
    intro _ b9 x ls hR hS ai bI bf hk
    have h0:b9.eval (.tmp 0)=.pointer (some ⟨b,0,none⟩):=Eq.mp (by kernel_rfl) (hk 0 (by decide))
    refine Rp.ag ?_
    exact Rg.az ⟨by rw [if_neg (by decide),if_neg (by decide),if_neg (by decide)];exact Below.refl _ _,h0,⟨fun hh=>hS.1 hh,fun h1 h2=>hS.2.1 h1 h2,fun h1 h2=>hS.2.2 h1 h2⟩⟩
   ·
    intro _ b9 x ls hR hS ai bI bf hk
    have h30:b9.eval (.tmp 30)=.pointer (some ⟨b,0,none⟩):=Eq.mp (by kernel_rfl) (hk 30 (by decide))
    have l8:ls 8=false:=bf [] 8 _ rfl (by kernel_rfl)
    have l9:ls 9=false:=bf [8] 9 _ rfl (by kernel_rfl)
    have hb:=hS.1 l8
    have hm:=HM.out.below hb
    refine Rp.bW #[.pointer (some ⟨b,0,none⟩)] Tryz.func24 (by kernel_rfl) (by kernel_rfl) (by simp [h30]) (a8 x b B _ v12 q.2 d hm.bx.rd) ?_
    rintro e w' ⟨rfl,hb'⟩
    exact .inl ⟨_,rfl,by rw [if_neg (by decide),if_neg (by decide),if_neg (by decide)];exact hb',rfl,⟨fun _=>hb.trans (hb'.mono hb.size),fun hh=>absurd (l8.symm.trans hh) (by decide),fun hh=>absurd (l9.symm.trans hh) (by decide)⟩⟩
   ·
    intro _ b9 x ls hR hS ai bI bf hk
    have h31:b9.eval (.tmp 31)=B9 (nx q.2):=Eq.mp (by kernel_rfl) (hk 31 (by decide))
    refine Rp.ag ?_
    exact mW _ _ h31 (jD (nx q.2) x) ⟨by rw [if_neg (by decide),if_neg (by decide),if_neg (by decide)];exact Below.refl _ _,rfl,⟨fun hh=>hS.1 hh,fun h1 h2=>hS.2.1 h1 h2,fun h1 h2=>hS.2.2 h1 h2⟩⟩
   ·
    intro _ b9 x ls hR hS ai bI bf hk
    have h32:b9.eval (.tmp 32)=.int .i64 ((nx q.2).ln:Int):=Eq.mp (by kernel_rfl) (hk 32 (by decide))
    refine Rp.ag ?_
    exact Ap.jS #[(7,.int .i64 ((nx q.2).ln:Int))] _ (by simp [h32]) (KT _ x) ⟨by rw [if_neg (by decide),if_neg (by decide),if_neg (by decide)];exact Below.refl _ _,rfl,⟨fun hh=>hS.1 hh,fun h1 h2=>hS.2.1 h1 h2,fun h1 h2=>hS.2.2 h1 h2⟩⟩
   ·
    intro _ b9 x ls hR hS ai bI bf hk
    have YQ:b9.eval (.tmp 29)=.pointer (some ⟨b,0,none⟩):=Eq.mp (by kernel_rfl) (hk 29 (by decide))
    have h33:b9.eval (.tmp 33)=.agg #[.int .i64 0,.string ⟨#[]⟩,.bool false,.slice none 0 0,.int .i64 0,.slice none 0 0,.slice none 0 0,.int .i64 ((nx q.2).ln:Int)]:=Eq.mp (by kernel_rfl) (hk 33 (by decide))
    have l9:ls 9=false:=bf [] 9 _ rfl (by kernel_rfl)
    have hb:=hS.1 ai
    have hm:=HM.out.below hb
    refine Rp.bW #[.pointer (some ⟨b,0,none⟩),.agg #[.int .i64 0,.string ⟨#[]⟩,.bool false,.slice none 0 0,.int .i64 0,.slice none 0 0,.slice none 0 0,.int .i64 ((nx q.2).ln:Int)]] Tryz.func126 (by kernel_rfl) (by kernel_rfl) (by simp [YQ,h33]) (HIa.out x hm.bx.rd hb.size) ?_
    intro e w' hp
    rcases oD hp with ⟨er,cy,rfl,df⟩ | ⟨y8,Lk,LI,LC,v8,jv,rfl,ov,oM,hd8⟩
    · exact .inr ⟨_,rfl,er,cy,rfl,(hb.mono HM.out.bx.rd.size).trans df⟩
    · exact .inl ⟨_,rfl,by rw [if_pos rfl];exact cB hm.bx.rd,⟨y8,Lk,LI,LC,jv,rfl,ov.less (fun g hg _=>Nat.le_trans hb.size hg)⟩,⟨fun hh=>by simp [Rs.upd] at hh,fun _ _=>⟨y8,v8,jv,hm.step oM hd8,Nat.le_trans hb.size oM.size⟩,fun hh=>absurd (l9.symm.trans hh) (by decide)⟩⟩
   ·
    intro _ b9 x ls hR hS ai bI bf hk
    have UG:b9.eval (.tmp 28)=.pointer (some ⟨b,0,none⟩):=Eq.mp (by kernel_rfl) (hk 28 (by decide))
    have yX:(fun u9 (x:World)=>∃y8 Lk LI LC,X=.ok y8∧u9=.agg (jO y8.1 Lk LI LC)∧Rows x (fun g=>tu.heap.size≤g) y8.1 Lk LI LC) (b9.eval (.tmp 34)) x:=Eq.mp (by kernel_rfl) (hk 34 (by decide))
    have l8:ls 8=true:=bI [] 8 (by kernel_rfl)
    obtain ⟨y8,v8,jv,hm,hsz⟩:=hS.2.1 l8 ai
    obtain ⟨y7,Lk,LI,LC,hX7,hu8,ov⟩:=yX
    have lC:y7=y8:=Except.ok.inj (hX7.symm.trans jv)
    subst lC
    refine Rp.bW #[.pointer (some ⟨b,0,none⟩),.agg (jO y7.1 Lk LI LC)] Tryz.func55 (by kernel_rfl) (by kernel_rfl) (by simp [UG,hu8]) (bQ x b B _ v8 y7.2 d hm.bx.rd y7.1 Lk LI LC (ov.less (fun g hg _=>HFr.out g hg)) (by have:=(ZT.out y7 jv).2;have:=HPq.out;unfold ph at *;omega)) ?_
    rintro e w' ⟨u9,v9,rfl,wq,Af,hd9⟩
    exact .inl ⟨u9,rfl,by rw [if_neg (by decide),if_pos rfl];exact ⟨⟨y7,jv,Cs hm.bx.rd⟩,AJ Af hm.bx.rd⟩,⟨y7,jv,wq⟩,⟨fun hh=>absurd (l8.symm.trans hh) (by decide),fun _ hh=>by simp [Rs.upd] at hh,fun _ _=>⟨y7,v9,jv,hm.step Af hd9,Nat.le_trans hsz Af.size⟩⟩⟩
   ·
    intro _ b9 x ls hR hS ai bI bf hk
    have uR:(fun u9 (x:World)=>∃y8,X=.ok y8∧u9=iv y8.2.1.length) (b9.eval (.tmp 35)) x:=Eq.mp (by kernel_rfl) (hk 35 (by decide))
    have l9:ls 9=true:=bI [] 9 (by kernel_rfl)
    have l8:ls 8=true:=bI [9] 8 (by kernel_rfl)
    have l11:ls 11=false:=bf [] 11 _ rfl (by kernel_rfl)
    obtain ⟨y8,v9,jv,hm,hsz⟩:=hS.2.2 l9 l11
    obtain ⟨y7,hX7,he⟩:=uR
    have lC:y7=y8:=Except.ok.inj (hX7.symm.trans jv)
    subst lC
    have cU:=(Below.refl x.heap.size x).alloc (Nat.le_refl _) (.cells #[iv y7.2.1.length] dU)
    have hpp:Dw X b q.2.2.length x:=⟨y7,jv,by rw [Cs hm.bx.rd];simp,by rw [cB hm.bx.rd];exact (ZT.out y7 jv).1⟩
    refine Rp.ag ?_
    exact Rg.di #[(0,iv y7.2.1.length)] _ (by simp [he]) (by go_simp;rfl) ⟨by rw [if_neg (by decide),if_neg (by decide),if_neg (by decide)];exact cU,⟨x.heap.size,rfl,hsz,⟨y7,jv,heap_alloc_new x _⟩,hpp.keep (cU.block b hm.bx.rd.lt)⟩,⟨fun hh=>absurd (l8.symm.trans hh) (by decide),fun _ hh=>absurd (l9.symm.trans hh) (by decide),fun _ _=>⟨y7,v9,jv,hm.below cU,by rw [World.size_alloc];omega⟩⟩⟩
   ·
    intro _ b9 x ls hR hS ai bI bf hk
    have Vq:b9.eval (.tmp 27)=(.slice a12 jc.ks.length c12):=Eq.mp (by kernel_rfl) (hk 27 (by decide))
    have om:(fun u9 x=>∃q9,u9=.slice (some ⟨q9,0,none⟩) 1 1∧tu.heap.size≤q9∧(∃y8,X=.ok y8∧x.heap[q9]? =some (.cells #[iv y8.2.1.length] dU))∧Dw X b q.2.2.length x) (b9.eval (.tmp 36)) x:=Eq.mp (by kernel_rfl) (hk 36 (by decide))
    have l9:ls 9=true:=bI [10] 9 (by kernel_rfl)
    have l8:ls 8=true:=bI [10,9] 8 (by kernel_rfl)
    obtain ⟨y8,v9,jv,hm,hsz⟩:=hS.2.2 l9 ai
    obtain ⟨q9,hq,nj,⟨y7,hX7,iK⟩,hpp⟩:=om
    have lC:y7=y8:=Except.ok.inj (hX7.symm.trans jv)
    subst lC
    obtain ⟨u9,w',hrun,hown',hgr,hat⟩:=Ap.bR (P:=Tryz.prog) x 0 35 35 35 dU i0 _ 1 8 Tryz.underlying35 (bw Tryz.underlying35) iy hz0 hz1 hz2 rfl (by decide) (by decide) ((.slice a12 jc.ks.length c12)) _ _ hm.rows.k (b9.eval (.tmp 36)) 1 ([iv y7.2.1.length]) (by rw [hq];exact cP (b:=q9) (off:=0) rfl (by intro u hu;obtain rfl:=List.mem_singleton.1 hu;rfl) (.inr rfl) (fun i z hi=>by rw [Nat.zero_add];unfold World.cell?;simp only [iK];simpa using hi)) (by unfold maxLen;have:=dO.out;omega) (by have:=dO.out;omega) (Nat.zero_le _)
    refine Rp.ag ?_
    exact Ap.cR ((.slice a12 jc.ks.length c12)) _ u9 w' Vq rfl hrun ⟨by rw [if_neg (by decide),if_neg (by decide),if_pos rfl];exact hgr,⟨y7,v9,jv,hm.app_k y7.2.1.length hgr hown' hat,hpp.keep (hgr.block b hm.bx.rd.lt (fun e=>(yL.out b e.symm).2 rfl))⟩,⟨fun hh=>absurd (l8.symm.trans hh) (by decide),fun _ hh=>absurd (l9.symm.trans hh) (by decide),fun _ hh=>by simp [Rs.upd] at hh⟩⟩
   ·
    intro ch a' w' yN hD
    obtain ⟨er,cy,A8,qU⟩:=hD
    refine ⟨yN,?_⟩
    rw [←A8]
    have hz:Z=.error er:=by rw [CV.out,show iR nest (nx q.2).ln q.2=X from HXa.out,cy];rfl
    exact aN hz ((HM.out.belowB HV.out).trans qU)
   intro vals wD ls _ uj _ hL
   obtain ⟨g0,g1,g2,g3,g4,g5,g6,g7,g8,g9,g10,g11,_⟩:=hL
   obtain ⟨y8,v9,jv,hA,_⟩:=(g11:(fun u9 x=>∃y8 v9,X=.ok y8∧iT W v x b B P v9 (y8.2.1++[y8.1],y8.2.2) d N jc { jc with ks:=jc.ks++[y8.2.1.length] } (.slice none 0 0) (.slice none 0 0) (.slice a12 jc.ks.length c12) (.slice none 0 0) (.slice none 0 0) u9 (N+1)∧Dw X b q.2.2.length x) (vals 11) wD)
   clear g0 g1 g2 g3 g4 g5 g6 g7 g8 g9 g10 uj
   obtain ⟨nE,hnE⟩:∃n2:Nd,{ jc with ks:=jc.ks++[y8.2.1.length] }=n2:=⟨_,rfl⟩
   rw [hnE] at hA
   have HNE:=Lib.hid hnE
   simp only [Rg.bh,List.take_succ_cons,List.take_zero,List.drop_succ_cons,List.drop_zero,List.setIfInBounds_toArray,List.set_cons_succ,List.set_cons_zero]
   generalize vals 0=g0 at *
   generalize vals 1=g1 at *
   generalize vals 2=g2 at *
   generalize vals 3=g3 at *
   generalize vals 4=g4 at *
   generalize vals 5=g5 at *
   generalize vals 6=g6 at *
   generalize vals 7=g7 at *
   generalize vals 8=g8 at *
   generalize vals 9=g9 at *
   generalize vals 10=g10 at *
   generalize vals 11=u9 at *
   obtain ⟨a9,c9,wq,_⟩:=aA hA.rows.k
   subst wq
   obtain ⟨w99,ZcO,YI⟩:=hA.set 6 (.slice a9 nE.ks.length c9) (by rw [←HNE.out];rfl)
   obtain ⟨⟨x0,x1,x2,x3,x4,x5,x6,x7⟩,z0,z1,z2,z3,z4,z5,z6,z7⟩:=af hA.bx.box
   have VX:=Lib.hid YI
   have Zbl:Hid (Z=.ok ({ k:=6,ks:=[y.1,q.1,y8.2.1.length],ln:=ln },(y8.2.1++[y8.1],y8.2.2))):=by show _=_;rw [CV.out,show iR nest (nx q.2).ln q.2=X from HXa.out,jv];rfl
   clear hA YI jv i0 iy hz0 hz1 hz2 hnE
   go_upto_region 8 with fail
   clear x0 x1 x2 x3 x4 x5 x6 x7 z0 z1 z2 z3 z4 z5 z6 z7
   obtain ⟨⟨x0,x1,x2,x3,x4,x5,x6,x7⟩,z0,z1,z2,z3,z4,z5,z6,z7⟩:=af VX.out.bx.box
   have kF:Hid (Z=.ok (nE,(y8.2.1++[y8.1],y8.2.2))):=by show _=_;(rw [Zbl.out,←HNE.out,←xL.out,←IB.out,sY.out,oz.out];try rfl)
   obtain ⟨wF,LD,fG,fJ,fO,fL⟩:=VX.out.fin
   have dH:Hid (Rows wF (fun g=>W.heap.size≤g) nE _ _ _∧aj b v W _ wF∧Rd wF b B P _ (y8.2.1++[y8.1],y8.2.2) d):=⟨fJ,fO,fL⟩
   obtain ⟨⟨y0,y1,y2,y3,y4,y5,y6,y7⟩,_⟩:=af fG
   obtain ⟨⟨r0,r1,r2,r3,r4,r5,r6,r7⟩,q0,q1,q2,q3,q4,q5,q6,q7⟩:=af VX.out.res
   clear fG fJ fO fL
   go_wp2_with fail
   refine bodyPost_ret (v:=.agg (jO nE (.slice none 0 0) (.slice none 0 0) (.slice a9 nE.ks.length c9))) (by simp [results,Tryz.results126,go_sem,y0,y1,y2,y3,y4,y5,y6,y7,jO]) rfl ?_
   rw [show Z=.ok (nE,(y8.2.1++[y8.1],y8.2.2)) from kF.out]
   exact ⟨_,_,_,_,rfl,dH.out.1,dH.out.2.1,dH.out.2.2⟩
theorem Iy {nest:S→Sy.P Nat} {d:Nat} (E:Env nest d) (hL:jh nest d):∀m,OM nest d m
 | 0=>fun W b B P v s h hP hF h4 hm=>absurd hm (Nat.not_lt_zero _)
 | m+1=>fun W b B P v s h hP hF h4 hm ln=>KQ E hL m (Iy E hL m) W b B P v s h hP hF h4 (Nat.le_of_lt_succ hm) ln
end Go.Proofs.YtiklkhbfilbpeaaGreatDoor.Sx
