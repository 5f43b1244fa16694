import Derived.Test.YtiklkhbfilbpeaaGreatDoorTbGSyD
set_option maxRecDepth 100000
set_option maxHeartbeats 16000000
set_option linter.unusedVariables false
set_option linter.unusedSimpArgs false
namespace Go.Proofs.YtiklkhbfilbpeaaGreatDoor.Sx
open Go.RowKit Base Lx Sy
theorem U6 {g o n c:Nat} (j:Nat) (hj:j < n) (kd:IntKind) (w':World):(Instr.indexAt 35 (.slice (some ⟨g,o,none⟩) n c) (.int kd (j:Int))).run Tryz.prog w'=.ok (.pointer (some ⟨g,o+j,none⟩)) w':=by
 obtain ⟨i,hi,_,hs,_⟩:=info_parts jy
 have he:Tryz.prog.elem 35=dU:=by simp [Program.elem,Tryz.underlying35]
 rw [run_indexAt_slice w' 35 _ n c kd j (by rw [he];exact Tryz.underlying35),if_pos ⟨by omega,by omega⟩,he]
 simp [sizeOf,typeInfo,hi,hs,Result.andThen,Addr.add_lit]
theorem Om {W:World} {u:Value} {l:List Nat} {n:Nat} (h:W.ownsRow 0 dU 1 u n (l.map iv)) (hl:0 < n):∃g c,u=.slice (some ⟨g,0,none⟩) n c∧∀(j k:Nat),j < n→l[j]? =some k→W.cell? ⟨g,j,none⟩=some (.int .i64 (k:Int)):=by
 obtain ⟨g,cap,cur,rfl,hgb,hg,hcn,hcm,Vx,MF⟩:=Sl.vI h hl
 refine ⟨g,cap,rfl,fun j k hj hk=>?_⟩
 have h1:(l.map iv)[j]? =some (iv k):=by rw [List.getElem?_map,hk];rfl
 rw [←MF,List.getElem?_take,if_pos (by omega)] at h1
 unfold World.cell?
 simp only [hg]
 simp only [Nat.zero_add,List.getElem?_toArray]
 exact h1
abbrev ZZ (nest:S→Sy.P Nat) (d:Nat):Prop:=∀(W:World) (b B:Nat) (P:Nat→Prop) (v:Value) (s:S),Rd W b B P v s d→(∀g,W.heap.size≤g→P g)→ph s≤80000→
 Calls Tryz.prog 97 #[.pointer (some ⟨b,0,none⟩)] W (Post eN W b B P v d (gm nest s))
theorem xP {nest:S→Sy.P Nat} {d:Nat} (E:Env nest d) (hC:ZZ nest d) (W:World) (b B:Nat) (P:Nat→Prop) (v:Value) (s:S) (h:Rd W b B P v s d) (hP:∀g,W.heap.size≤g→P g) (hF:ph s≤80000):
 Calls Tryz.prog 72 #[.pointer (some ⟨b,0,none⟩)] W (Post eN W b B P v d (dt nest s)):=by
 have HR:=Lib.hid h
 have HE:Hid (Env nest d):=E
 have HCm:Hid (ZZ nest d):=hC
 have HP:Hid (∀g,W.heap.size≤g→P g):=hP
 have HF:Hid (ph s≤80000):=hF
 have HV:Hid (∀g,v.ownBlock=some g→B≤g):=fun g hg=>(h.own g hg).1
 obtain ⟨fl,ot⟩:∃fl,aV 1 [[33]] s=fl:=⟨_,rfl⟩
 have U3:=Lib.hid ot
 obtain ⟨s1,hs1⟩:∃s1,(if fl=true then tk s else s)=s1:=⟨_,rfl⟩
 have E2:=Lib.hid hs1
 have YG:Hid (ph s1≤80000):=by rw [←hs1];have:=gg s;split<;>(show _≤_;omega)
 obtain ⟨Z,hZ⟩:∃Z,dt nest s=Z:=⟨_,rfl⟩
 have HZ:Hid (Z=bd (gm nest s1) fun k s2=>bd (aB (aV 2 [[124]]) (ou nest) [k] s2) fun ks s3=>if fl=false∧ks.length=1 then .ok (k,s3) else Sy.bC { k:=2,fl:=fl,ks:=ks,ln:=(nx s).ln } s3):=by
  show _=_
  rw [←hZ,←hs1,←ot]
  rfl
 rw [hZ]
 clear h hP hF hZ E hC ot hs1
 go_enter Tryz.func72,Tryz.ntmps72
 go_wp2_with fail
 refine (a8 W b B P v s d HR.out).mono ?_
 rintro r w2 ⟨rfl,hb2⟩
 have gR:=Lib.hid (HR.out.below hb2)
 have LG:Hid (aj b v W v w2):=aj.of_below hb2
 have DA:Hid (Below B W w2):=hb2.mono HR.out.size
 have dp:Hid (∀g,w2.heap.size≤g→P g):=fun g hg=>HP.out g (Nat.le_trans hb2.size hg)
 clear hb2
 have F3:=jD (nx s)
 go_upto_region 2 with fail
 obtain ⟨n0,eP⟩:∃n0:Nd,n0={ k:=2,ln:=(nx s).ln }:=⟨_,rfl⟩
 obtain ⟨w3,hw3,E9,hb3⟩:=Mid.start gR.out n0 (by rw [eP]) (by rw [eP]) (by rw [eP])
 obtain ⟨N,hN⟩:∃N,w2.heap.size=N:=⟨_,rfl⟩
 have sJ:w2.alloc (.cells #[.int .i64 2,.string ⟨#[]⟩,.bool false,.slice none 0 0,.int .i64 0,.slice none 0 0,.slice none 0 0,.int .i64 ((nx s).ln:Int)] gv)=w3:=by rw [eP] at hw3;exact hw3
 rw [sJ,hN]
 rw [hN] at E9
 have Jz:=Lib.hid E9
 have oz:=Lib.hid eP
 clear hw3 E9 hb3 sJ hN F3 eP
 obtain ⟨n1,uz⟩:∃n1:Nd,n1={ n0 with fl:=fl }:=⟨_,rfl⟩
 have qB:=Lib.hid uz
 clear uz
 go_wp2_with fail
 refine (mH w3 b B _ v s d Jz.out.bx.rd [[33]] (by decide)).mono ?_
 rintro r w4 ⟨rfl,hb4⟩
 rw [show aV 1 [[33]] s=fl from U3.out]
 have qA:=Lib.hid (Jz.out.below ((Below.refl _ _).trans hb4))
 clear hb4
 go_upto_if 10 with fail
 go_cut [] (fun wx=>Mid w2 v wx b B P v s1 d N n1 (.slice none 0 0) (.slice none 0 0) (.slice none 0 0))
 case first=>
  cases fl with
  | false=>
    have h1:n1=n0:=by rw [qB.out,oz.out]
    have h2:s1=s:=by rw [←E2.out,if_neg (by decide)]
    go_wp2_with fail
    go_meet
    rw [h1,h2]
    exact qA.out
  | true=>
    have h2:tk s=s1:=by rw [←E2.out,if_pos rfl]
    go_wp2_with fail
    refine (bm w4 b B _ v s d qA.out.bx.rd).mono ?_
    rintro r w5 ⟨rfl,ES,Ch⟩
    have ve:=Lib.hid (qA.out.step ES Ch)
    clear ES Ch
    obtain ⟨⟨x0,x1,x2,x3,x4,x5,x6,x7⟩,z0,z1,z2,z3,z4,z5,z6,z7⟩:=af ve.out.bx.box
    obtain ⟨w6,xl,oo⟩:=ve.out.set 2 (.bool true) n1 (by rw [qB.out];rfl) (by rw [qB.out]) (by rw [qB.out]) (by rw [qB.out])
    rw [h2] at oo
    clear h2
    go_wp2_with fail
    go_meet
    exact oo
 case rest=>
  have N4:=Lib.hid hcut
  clear hcut Jz qA
  have hX:∃X,gm nest s1=X:=⟨_,rfl⟩
  obtain ⟨X,hX⟩:=hX
  have HX:=Lib.hid hX
  go_wp2_with fail
  refine (HCm.out wc b B _ v s1 N4.out.bx.rd (N4.out.free dp.out) YG.out).mono ?_
  rintro r w5 hp
  rw [hX] at hp
  rw [hX] at HZ
  rcases av hp with ⟨er,cy,rfl,df⟩ | ⟨y,u5,v5,aI,rfl,he,ht,hr⟩
  ·
   have hz:Z=.error er:=by rw [HZ.out,cy];rfl
   exact ⟨rfl,cg hz ((DA.out.trans (N4.out.belowB HV.out)).trans df)⟩
  have bX:u5=.int .i64 (y.1:Int):=he
  subst bX
  have ox:=Lib.hid aI
  have ve:=Lib.hid (N4.out.step ht hr)
  have VN:Hid (ph y.2+7≤ph s1):=sA HE.out.cost s1 y (by rw [hX,aI])
  have oy:Hid (Z=bd (aB (aV 2 [[124]]) (ou nest) [y.1] y.2) fun ks s3=>if fl=false∧ks.length=1 then .ok (y.1,s3) else Sy.bC { k:=2,fl:=fl,ks:=ks,ln:=(nx s).ln } s3):=by show _=_;rw [HZ.out,aI];rfl
  clear hp he ht hr hX aI HZ
  obtain ⟨w8,w9,ER,KF,my,fj⟩:=ve.out.new_k y.1
  have Zbo:w5.alloc (.cells #[.int .i64 (y.1:Int)] dU)=w8:=ER
  obtain ⟨n2,bO⟩:∃n2:Nd,{ n1 with ks:=[y.1] }=n2:=⟨_,rfl⟩
  rw [bO] at fj
  have dA:=Lib.hid bO
  have pH:=Lib.hid fj
  obtain ⟨⟨x0,x1,x2,x3,x4,x5,x6,x7⟩,z0,z1,z2,z3,z4,z5,z6,z7⟩:=af my
  clear ER fj bO my
  go_wp2_with fail
  have LS:Hid (n2={ n1 with ks:=[y.1] }):=dA.out.symm
  clear dA x0 x1 x2 x3 x4 x5 x6 x7 z0 z1 z2 z3 z4 z5 z6 z7 Zbo KF
  go_loopw [] (fun wr=>∃(s':S) (ks:List Nat) (v' uk:Value) (m:Nd),aB (aV 2 [[124]]) (ou nest) ks s'=aB (aV 2 [[124]]) (ou nest) [y.1] y.2∧m={ n1 with ks:=ks }∧Mid w2 v wr b B P v' s' d N m (.slice none 0 0) (.slice none 0 0) uk∧ph s'+ks.length≤80000∧∃kr,ks=y.1::kr) (fun wr=>kh wr b)
  case atStart=>exact ⟨y.2,[y.1],v5,_,n2,rfl,LS.out,pH.out,by have:=VN.out;have:=YG.out;simp only [List.length_singleton];omega,[],rfl⟩
  case round=>
   obtain ⟨s',ks,v',uk,m,hrun,tW,hm,zh,kr,hkr⟩:=hrel
   have je:=Lib.hid hrun
   have wU:=Lib.hid tW
   have lU:=Lib.hid hm
   have rH:=Lib.hid zh
   have HKr:=Lib.hid hkr
   clear hrun tW hm zh hkr pH LS
   go_wp2_with fail
   refine (jX wr b B _ v' s' d lU.out.bx.rd 2 [[124]] (by decide)).mono ?_
   rintro r w4 ⟨rfl,hb4⟩
   have HM:=Lib.hid (lU.out.below ((Below.refl _ _).trans hb4))
   clear hb4
   obtain ⟨z,hz⟩:∃z,aV 2 [[124]] s'=z:=⟨_,rfl⟩
   have K8:=Lib.hid hz
   rw [hz]
   clear hz
   cases z with
   | true=>
     go_wp2_with fail
     refine (bm w4 b B _ v' s' d HM.out.bx.rd).mono ?_
     rintro r w6 ⟨rfl,yP,Te⟩
     have qO:=Lib.hid (HM.out.step yP Te)
     clear yP Te
     go_wp2_with fail
     refine (cJ w6 b B _ v' (tk s') d qO.out.bx.rd).mono ?_
     rintro r w7 ⟨rfl,vF,La⟩
     have nQ:=Lib.hid (qO.out.step vF La)
     clear vF La
     go_upto_region 9 with fail
     obtain ⟨X,hX⟩:∃X,gm nest (bj (tk s'))=X:=⟨_,rfl⟩
     have R5:=Lib.hid hX
     have yO:Hid (ph (bj (tk s'))+8≤ph s'):=by have h1:=dG (tk s');have h2:=fS (s:=s') (by rw [dD K8.out];decide);show _≤_;omega
     have dO:Hid (m.ks.length≤100000):=by have:=rH.out;show _≤_;rw [wU.out];show ks.length≤_;omega
     have et:Hid (∀x,Rd x b B (gG P N (.slice none 0 0) (.slice none 0 0) uk) v' (bj (tk s')) d→w7.heap.size≤x.heap.size→Calls Tryz.prog 97 #[.pointer (some ⟨b,0,none⟩)] x (Post eN x b B (gG P N (.slice none 0 0) (.slice none 0 0) uk) v' d X)):=fun x hr hs=>by
      rw [←hX]
      exact HCm.out x b B _ v' _ hr (fun g hg=>nQ.out.free dp.out g (Nat.le_trans hs hg)) (by have:=rH.out;have:=yO.out;omega)
     have eO:Hid (aB (aV 2 [[124]]) (ou nest) [y.1] y.2=bd (bd X fun k s=>.ok (ks++[k],s)) (aB (aV 2 [[124]]) (ou nest))):=by
      show _=_
      rw [←je.out,bF (mS HE.out.weak) oL,if_pos K8.out,←hX]
     have HMp:=nQ
     clear hX je
     have HM:=nQ
     obtain ⟨i0,iy,hz0,hz1,hz2⟩:=info_parts jy
     have yL:Hid (∀g,Value.ownBlock (uk)=some g→g < w7.heap.size):=fun g hg=>(HM.out.rows.k.lt g hg).2
     refine Rp.cq (fun ch x=>∃e,X=.error e∧mI e.1 e.2=Ending.panicked ch∧Below B w7 x) 6 [] [Rg.Is (.pointer (some ⟨N,6,none⟩)),Rg.Is (uk),Rg.Is (.pointer (some ⟨b,0,none⟩)),(fun u9 (x:World)=>∃y,X=.ok y∧u9=iv y.1),(fun u9 x=>∃q,u9=.slice (some ⟨q,0,none⟩) 1 1∧w7.heap.size≤q∧(∃y,X=.ok y∧x.heap[q]? =some (.cells #[iv y.1] dU))∧w7.heap.size < x.heap.size),(fun u9 x=>∃y v9,X=.ok y∧MidA w2 v x b B P v9 y.2 d N (m) ({ m with ks:=m.ks++[y.1] }) (.slice none 0 0) (.slice none 0 0) uk (.slice none 0 0) (.slice none 0 0) u9∧w7.heap.size < x.heap.size)] (fun _ _=>True) (fun ls x=>(ls 3=false→x.heap.size=w7.heap.size∧Below w7.heap.size w7 x)∧(ls 3=true→ls 5=false→∃y v9,X=.ok y∧Mid w2 v x b B P v9 y.2 d N (m) (.slice none 0 0) (.slice none 0 0) uk∧w7.heap.size≤x.heap.size)) (fun k x y=>if k=3 then x.heap.size=w7.heap.size else if k=5 then x.grownBy y (Value.ownBlock (uk)) else (Below x.heap.size x y∧(k=4∨y.heap.size=x.heap.size))) (by kernel_rfl) (by kernel_rfl) (of_decide_eq_true (by kernel_rfl)) (by kernel_rfl) (by kernel_rfl) trivial ⟨fun _=>⟨rfl,rfl,rfl,rfl,Nat.le_refl _,fun _ _=>rfl⟩,fun h=>by cases h⟩ (fun ls mC x e h1=>⟨fun h2=>h1.1 (by rw [e];exact h2),fun h2 h3=>h1.2 (by rw [e];exact h2) (by rw [e];exact h3)⟩) (fun _ _ _ _ _=>trivial) (fun i ls x _ h1=>by rw [show ([]:List Bool).getD i true=true from rfl] at h1;cases h1) ?_ ⟨rfl,rfl,rfl,rfl,rfl,rfl,trivial⟩ ⟨?_,?_,?_,?_,?_,?_,trivial⟩ ?_ ?_
     ·
      intro i k u8 x y9 hik _ h1 hK
      match i,h1,hik with
      | 0,h1,_=>exact h1
      | 1,h1,_=>exact h1
      | 2,h1,_=>exact h1
      | 3,h1,_=>exact h1
      | 4,h1,hik=>
        obtain ⟨q,hq,nj,⟨y,aI,iK⟩,hlt⟩:=h1
        have rB:=(Array.getElem?_eq_some_iff.1 iK).1
        by_cases k3:k=3
        · rw [if_pos k3] at hK;omega
        ·
         rw [if_neg k3] at hK
         by_cases k5:k=5
         ·
          rw [if_pos k5] at hK
          exact ⟨q,hq,nj,⟨y,aI,(hK.block q rB (fun e=>by have:=yL.out q e.symm;omega)).trans iK⟩,Nat.lt_of_lt_of_le hlt hK.size⟩
         ·
          rw [if_neg k5] at hK
          exact ⟨q,hq,nj,⟨y,aI,(hK.1.block q rB).trans iK⟩,Nat.lt_of_lt_of_le hlt hK.1.size⟩
      | 5,h1,hik=>
        obtain ⟨y,v9,aI,hA,hlt⟩:=h1
        by_cases k3:k=3
        · rw [if_pos k3] at hK;omega
        ·
         rw [if_neg k3,if_neg (fun e=>hik e.symm)] at hK
         exact ⟨y,v9,aI,hA.below hK.1,Nat.lt_of_lt_of_le hlt hK.1.size⟩
      | _+6,_,_=>trivial
     ·
      intro _ b9 x ls hR hS ai bI bf hk
      have h3:b9.eval (.tmp 3)=.pointer (some ⟨N,0,none⟩):=Eq.mp (by kernel_rfl) (hk 3 (by decide))
      refine Rp.ag ?_
      exact Rs.aR _ _ h3 (by have:=j6 N 0 6 (by decide) x;rw [Nat.zero_add] at this;exact this) ⟨by rw [if_neg (by decide),if_neg (by decide)];exact ⟨Below.refl _ _,.inr rfl⟩,rfl,⟨fun hh=>hS.1 hh,fun h2 h3=>hS.2 h2 h3⟩⟩
     ·
      intro _ b9 x ls hR hS ai bI bf hk
      have Qp:b9.eval (.tmp 25)=.pointer (some ⟨N,6,none⟩):=Eq.mp (by kernel_rfl) (hk 25 (by decide))
      have l5:ls 5=false:=bf [] 5 _ rfl (by kernel_rfl)
      have hc:x.cell? ⟨N,6,none⟩=some (uk):=by
       cases l3:ls 3 with
       | false=>have hm:=HM.out.below (hS.1 l3).2;simp [World.cell?,hm.bx.box]
       | true=>obtain ⟨y,v9,aI,hm,hsz⟩:=hS.2 l3 l5;simp [World.cell?,hm.bx.box]
      refine Rp.ag ?_
      exact Rg.aK _ _ Qp (Ap.aW (by simp [isAgg]) hc) ⟨by rw [if_neg (by decide),if_neg (by decide)];exact ⟨Below.refl _ _,.inr rfl⟩,rfl,⟨fun hh=>hS.1 hh,fun h2 h3=>hS.2 h2 h3⟩⟩
     ·
      intro _ b9 x ls hR hS ai bI bf hk
      have h0:b9.eval (.tmp 0)=.pointer (some ⟨b,0,none⟩):=Eq.mp (by kernel_rfl) (hk 0 (by decide))
      refine Rp.ag ?_
      exact Rg.az ⟨by rw [if_neg (by decide),if_neg (by decide)];exact ⟨Below.refl _ _,.inr rfl⟩,h0,⟨fun hh=>hS.1 hh,fun h2 h3=>hS.2 h2 h3⟩⟩
     ·
      intro _ b9 x ls hR hS ai bI bf hk
      have Vq:b9.eval (.tmp 27)=.pointer (some ⟨b,0,none⟩):=Eq.mp (by kernel_rfl) (hk 27 (by decide))
      obtain ⟨hsz,hb⟩:=hS.1 ai
      have hm:=HM.out.below hb
      refine Rp.bW #[.pointer (some ⟨b,0,none⟩)] Tryz.func97 (by kernel_rfl) (by kernel_rfl) (by simp [Vq,show ∀v,b9.eval (.const v)=v from fun _=>rfl]) (et.out x hm.bx.rd hb.size) ?_
      intro e w' hp
      rcases av hp with ⟨er,cy,rfl,df⟩ | ⟨y,u9,v9,aI,rfl,he,ht,hr⟩
      · exact .inr ⟨_,rfl,er,cy,rfl,(hb.mono HM.out.bx.rd.size).trans df⟩
      · exact .inl ⟨u9,rfl,by rw [if_pos rfl];exact hsz,⟨y,aI,he⟩,⟨fun hh=>by simp [Rs.upd] at hh,fun _ _=>⟨y,v9,aI,hm.step ht hr,by have:=ht.size;omega⟩⟩⟩
     ·
      intro _ b9 x ls hR hS ai bI bf hk
      have UG:(fun u9 (x:World)=>∃y,X=.ok y∧u9=iv y.1) (b9.eval (.tmp 28)) x:=Eq.mp (by kernel_rfl) (hk 28 (by decide))
      have l3:ls 3=true:=bI [] 3 (by kernel_rfl)
      have l5:ls 5=false:=bf [] 5 _ rfl (by kernel_rfl)
      obtain ⟨y,v9,aI,hm,hsz⟩:=hS.2 l3 l5
      obtain ⟨y2,gi,he⟩:=UG
      have lC:y2=y:=Except.ok.inj (gi.symm.trans aI)
      subst lC
      have cU:=(Below.refl x.heap.size x).alloc (Nat.le_refl _) (.cells #[iv y2.1] dU)
      refine Rp.ag ?_
      exact Rg.di #[(0,iv y2.1)] _ (by simp [he]) (by go_simp;rfl) ⟨by rw [if_neg (by decide),if_neg (by decide)];exact ⟨cU,.inl rfl⟩,⟨x.heap.size,rfl,hsz,⟨y2,aI,heap_alloc_new x _⟩,by rw [World.size_alloc];omega⟩,⟨fun hh=>absurd (l3.symm.trans hh) (by decide),fun _ _=>⟨y2,v9,aI,hm.below cU,by rw [World.size_alloc];omega⟩⟩⟩
     ·
      intro _ b9 x ls hR hS ai bI bf hk
      have OU:b9.eval (.tmp 26)=uk:=Eq.mp (by kernel_rfl) (hk 26 (by decide))
      have YQ:(fun u9 x=>∃q,u9=.slice (some ⟨q,0,none⟩) 1 1∧w7.heap.size≤q∧(∃y,X=.ok y∧x.heap[q]? =some (.cells #[iv y.1] dU))∧w7.heap.size < x.heap.size) (b9.eval (.tmp 29)) x:=Eq.mp (by kernel_rfl) (hk 29 (by decide))
      have l3:ls 3=true:=bI [] 3 (by kernel_rfl)
      obtain ⟨y,v9,aI,hm,hsz⟩:=hS.2 l3 ai
      obtain ⟨q,hq,nj,⟨y2,gi,iK⟩,hlt⟩:=YQ
      have lC:y2=y:=Except.ok.inj (gi.symm.trans aI)
      subst lC
      obtain ⟨u9,w',hrun,hown',hgr,hat⟩:=Ap.bR (P:=Tryz.prog) x 0 35 35 35 dU i0 _ 1 8 Tryz.underlying35 (bw Tryz.underlying35) iy hz0 hz1 hz2 rfl (by decide) (by decide) (uk) _ _ hm.rows.k (b9.eval (.tmp 29)) 1 ([iv y2.1]) (by rw [hq];exact cP (b:=q) (off:=0) rfl (by intro u hu;obtain rfl:=List.mem_singleton.1 hu;rfl) (.inr rfl) (fun i z hi=>by rw [Nat.zero_add];unfold World.cell?;simp only [iK];simpa using hi)) (by unfold maxLen;have:=dO.out;omega) (by have:=dO.out;omega) (Nat.zero_le _)
      refine Rp.ag ?_
      exact Ap.cR (uk) _ u9 w' OU rfl hrun ⟨by rw [if_neg (by decide),if_pos rfl];exact hgr,⟨y2,v9,aI,hm.app_k y2.1 hgr hown' hat,Nat.lt_of_lt_of_le hlt hgr.size⟩,⟨fun hh=>absurd (l3.symm.trans hh) (by decide),fun _ hh=>by simp [Rs.upd] at hh⟩⟩
     ·
      intro ch a' w' yN hD
      obtain ⟨er,cy,A8,qU⟩:=hD
      refine ⟨yN,?_⟩
      rw [←A8]
      have hz:Z=.error er:=by rw [oy.out,eO.out,cy];rfl
      exact cg hz ((DA.out.trans (HM.out.belowB HV.out)).trans qU)
     intro vals wD ls _ uj _ hL
     obtain ⟨g0,g1,g2,g3,g4,g5,_⟩:=hL
     obtain ⟨q,v9,aI,hA,_⟩:=(g5:(fun u9 x=>∃y v9,X=.ok y∧MidA w2 v x b B P v9 y.2 d N (m) ({ m with ks:=m.ks++[y.1] }) (.slice none 0 0) (.slice none 0 0) uk (.slice none 0 0) (.slice none 0 0) u9∧w7.heap.size < x.heap.size) (vals 5) wD)
     clear g0 g1 g2 g3 g4 uj
     obtain ⟨m2,bO⟩:∃n2:Nd,{ m with ks:=m.ks++[q.1] }=n2:=⟨_,rfl⟩
     rw [bO] at hA
     have dA:=Lib.hid bO
     simp only [Rg.bh,List.take_succ_cons,List.take_zero,List.drop_succ_cons,List.drop_zero,List.setIfInBounds_toArray,List.set_cons_succ,List.set_cons_zero]
     generalize vals 0=g0 at *
     generalize vals 1=g1 at *
     generalize vals 2=g2 at *
     generalize vals 3=g3 at *
     generalize vals 4=g4 at *
     generalize vals 5=u9 at *
     obtain ⟨a9,c9,wq,_⟩:=aA hA.rows.k
     subst wq
     obtain ⟨w9,KF,fj⟩:=hA.set 6 (.slice a9 m2.ks.length c9) (by rw [←dA.out];rfl)
     obtain ⟨⟨x0,x1,x2,x3,x4,x5,x6,x7⟩,z0,z1,z2,z3,z4,z5,z6,z7⟩:=af hA.bx.box
     have pH:=Lib.hid fj
     have ox:=Lib.hid aI
     clear hA fj aI i0 iy hz0 hz1 hz2 bO
     have ED:Hid (m2={ n1 with ks:=ks++[q.1] }):=by show _=_;rw [←dA.out,wU.out]
     have iH:Hid (aB (aV 2 [[124]]) (ou nest) (ks++[q.1]) q.2=aB (aV 2 [[124]]) (ou nest) [y.1] y.2):=by show _=_;rw [eO.out,ox.out];rfl
     have FI:Hid (ph q.2+7≤ph (bj (tk s'))):=sA HE.out.cost _ q (by rw [R5.out,ox.out])
     have ru:Hid (q.2.2.length < s'.2.length):=by
      have h1:=sQ HE.out.weak (bj (tk s')) q (by rw [R5.out,ox.out])
      have h2:=ew (tk s')
      have h3:=eJ (s:=s') (by rw [dD K8.out];decide)
      show _ < _
      omega
     have Zbe:Hid (∃kr,ks++[q.1]=y.1::kr):=by rw [HKr.out];exact ⟨_,rfl⟩
     clear dA wU et dO eO
     go_wp2_with fail
     go_roundw
     case rel=>exact ⟨q.2,ks++[q.1],v9,_,m2,iH.out,ED.out,pH.out,by have:=rH.out;have:=yO.out;have:=FI.out;simp only [List.length_append,List.length_singleton];omega,Zbe.out⟩
     case measure=>rw [cB pH.out.bx.rd,cB lU.out.bx.rd];exact ru.out
   | false=>
     have nb:Hid (Z=if fl=false∧ks.length=1 then .ok (y.1,s') else Sy.bC { k:=2,fl:=fl,ks:=ks,ln:=(nx s).ln } s'):=by
      show _=_
      rw [oy.out,←je.out,bF (mS HE.out.weak) oL,if_neg (by rw [show aV 2 [[124]] s'=false from K8.out];decide)]
      rfl
     have HMp:Hid (m={ k:=2,fl:=fl,ks:=ks,ln:=(nx s).ln }):=by show _=_;rw [wU.out,qB.out,oz.out]
     have EY:Hid (s'.1.length≤100000):=by have:=rH.out;unfold ph at this;show _≤_;omega
     obtain ⟨⟨aw,cw,Dq⟩,⟨ar,cr,PT⟩,⟨ak,ck,mV⟩⟩:=HM.out.lens
     obtain ⟨L,hL⟩:∃L,m.ks.length=L:=⟨_,rfl⟩
     have Uq:=Lib.hid hL
     have XD:ks.length=L:=by rw [←hL,wU.out]
     have XJ:0 < L:=by rw [←XD,HKr.out];simp
     have hints:=Om HM.out.rows.k (by rw [hL];exact XJ)
     rw [hL] at mV
     rw [hL] at hints
     subst mV
     obtain ⟨⟨x0,x1,x2,x3,x4,x5,x6,x7⟩,z0,z1,z2,z3,z4,z5,z6,z7⟩:=af HM.out.bx.box
     have QU:m.fl=fl:=by rw [wU.out,qB.out]
     rw [QU] at x2
     have HMf:=Lib.hid QU
     clear Dq PT hL QU
     cases fl with
     | true=>
       have oJ:Hid (Z=Sy.bC m s'):=by show _=_;rw [nb.out,if_neg (fun h=>by cases h.1),HMp.out]
       clear hints XD XJ
       go_wp2_with fail
       have hput:=bQ w4 b B P _ s' d HM.out.rd m _ _ _ (HM.out.rowsP dp.out) EY.out
       rw [show m.fl=true from HMf.out] at hput
       refine hput.mono ?_
       clear hput
       rintro r w8 hp
       rw [←oJ.out] at hp
       have Ck:=Lib.hid hp
       clear hp
       rcases av Ck.out with ⟨er,cy,_,_⟩ | ⟨y8,u8,v8,jv,rfl,he,oM,ov⟩
       · exact absurd (oJ.out.symm.trans cy) (by intro h;cases h)
       ·
        have yF:Hid (aj b v W v8 w8∧Rd w8 b B P v8 y8.2 d):=⟨(LG.out.trans HM.out.bx.turn).trans oM,ov⟩
        have D1:=Lib.hid jv
        clear oM ov jv
        have bX:u8=.int .i64 (y8.1:Int):=he
        subst bX
        clear he
        go_wp2_with fail
        go_ret
        exact fy D1.out rfl yF.out.1 yF.out.2
     | false=>
       by_cases hL2:L=1
       ·
        obtain ⟨g,c,hgk,Vx⟩:=hints
        have hc0:=Vx 0 y.1 XJ (by rw [wU.out,HKr.out];rfl)
        injection hgk with q1 q2 q3
        subst q1 q3
        have XI:=fun w'=>U6 (g:=g) (o:=0) (n:=L) (c:=ck) 0 XJ .i64 w'
        simp only [Nat.zero_add,Int.cast_ofNat_Int] at XI
        have e1:((L:Int)==1)=true:=by rw [beq_iff_eq];omega
        have e3:decide ((L:Int)=1)=true:=decide_eq_true (by omega)
        have oJ:Hid (Z=.ok (y.1,s')):=by show _=_;rw [nb.out,if_pos ⟨rfl,by rw [XD];exact hL2⟩]
        have HF9:Hid (aj b v W v' w4∧Rd w4 b B P v' s' d):=⟨LG.out.trans HM.out.bx.turn,HM.out.rd⟩
        clear Vx hL2 XD XJ
        go_wp2_with fail
        go_ret
        exact fy oJ.out rfl HF9.out.1 HF9.out.2
       ·
        have e1:((L:Int)==1)=false:=by rw [beq_eq_false_iff_ne];omega
        have e3:decide ((L:Int)=1)=false:=decide_eq_false (by omega)
        have oJ:Hid (Z=Sy.bC m s'):=by show _=_;rw [nb.out,if_neg (fun h=>hL2 (by rw [←XD];exact h.2)),HMp.out]
        clear hints hL2 XD XJ
        go_wp2_with fail
        have hput:=bQ w4 b B P _ s' d HM.out.rd m _ _ _ (HM.out.rowsP dp.out) EY.out
        rw [show m.fl=false from HMf.out] at hput
        refine hput.mono ?_
        clear hput
        rintro r w8 hp
        rw [←oJ.out] at hp
        have Ck:=Lib.hid hp
        clear hp
        rcases av Ck.out with ⟨er,cy,_,_⟩ | ⟨y8,u8,v8,jv,rfl,he,oM,ov⟩
        · exact absurd (oJ.out.symm.trans cy) (by intro h;cases h)
        ·
         have yF:Hid (aj b v W v8 w8∧Rd w8 b B P v8 y8.2 d):=⟨(LG.out.trans HM.out.bx.turn).trans oM,ov⟩
         have D1:=Lib.hid jv
         clear oM ov jv
         have bX:u8=.int .i64 (y8.1:Int):=he
         subst bX
         clear he
         go_wp2_with fail
         go_ret
         exact fy D1.out rfl yF.out.1 yF.out.2
abbrev OD (nest:S→Sy.P Nat) (d:Nat):Prop:=∀(W:World) (b B:Nat) (P:Nat→Prop) (v:Value) (s:S),Rd W b B P v s d→(∀g,W.heap.size≤g→P g)→ph s≤80000→
 Calls Tryz.prog 72 #[.pointer (some ⟨b,0,none⟩)] W (Post eN W b B P v d (dt nest s))
theorem Tc (s:S) (h:aV 2 [[38,38],[124,124]] s=true):s.2≠[]:=tP h (by decide)
theorem OV (W:World) (Q:Nat→Prop) (hQ:Q W.heap.size) (n:Nd) (j k:Nat) (h1:n.ws=[]) (h2:n.rs=[]) (h3:n.ks=[j,k]):∃w1,W.alloc (.cells #[.int .i64 (j:Int),.int .i64 (k:Int)] dU)=w1∧Below W.heap.size W w1∧Rows w1 Q n (.slice none 0 0) (.slice none 0 0) (.slice (some ⟨W.heap.size,0,none⟩) 2 2):=by
 refine ⟨_,rfl,(Below.refl _ _).alloc (Nat.le_refl _) _,?_,?_,?_,fun g hg=>(by cases hg),fun g hg=>(by cases hg),fun g hg=>(by obtain rfl:=Option.some.inj hg;exact hQ)⟩
 · rw [h1];exact World.ownsRow_nil _ _ _ _
 · rw [h2];exact World.ownsRow_nil _ _ _ _
 ·
  rw [h3]
  exact ⟨rfl,.inr ⟨_,2,_,rfl,Nat.zero_le _,heap_alloc_new W _,Nat.le_refl _,by unfold maxLen;decide,rfl,rfl⟩⟩
theorem Cw {nest:S→Sy.P Nat} {d:Nat} (E:Env nest d) (hC:OD nest d) (W:World) (b B:Nat) (P:Nat→Prop) (v:Value) (s:S) (h:Rd W b B P v s d) (hP:∀g,W.heap.size≤g→P g) (hF:ph s≤80000):
 Calls Tryz.prog 52 #[.pointer (some ⟨b,0,none⟩)] W (Post eN W b B P v d (cx nest s)):=by
 have HR:=Lib.hid h
 have HE:Hid (Env nest d):=E
 have HPi:Hid (OD nest d):=hC
 have HP:Hid (∀g,W.heap.size≤g→P g):=hP
 have HF:Hid (ph s≤80000):=hF
 have HV:Hid (∀g,v.ownBlock=some g→B≤g):=fun g hg=>(h.own g hg).1
 have H6:Hid (B≤b∧B≤W.heap.size):=⟨h.bB,h.size⟩
 obtain ⟨Z,hZ⟩:∃Z,cx nest s=Z:=⟨_,rfl⟩
 have HZ:Hid (Z=bd (dt nest s) fun k s1=>aB (aV 2 [[38,38],[124,124]]) (yQ nest (nx s).ln) k s1):=hZ.symm
 rw [hZ]
 clear h hP hF hZ E hC
 obtain ⟨ln,vk⟩:∃ln,(nx s).ln=ln:=⟨_,rfl⟩
 have F3:=jD (nx s)
 rw [vk] at F3 HZ
 obtain ⟨X,hX⟩:∃X,dt nest s=X:=⟨_,rfl⟩
 have HX:=Lib.hid hX
 rw [hX] at HZ
 clear vk hX
 go_enter Tryz.func52,Tryz.ntmps52
 go_wp2_with fail
 refine (a8 W b B P v s d HR.out).mono ?_
 rintro r w2 ⟨rfl,hb2⟩
 have gR:=Lib.hid (HR.out.below hb2)
 have fK:Hid (aj b v W v w2):=aj.of_below hb2
 have dp:Hid (∀g,w2.heap.size≤g→P g):=fun g hg=>HP.out g (Nat.le_trans hb2.size hg)
 clear hb2
 go_wp2_with fail
 refine (HPi.out w2 b B P v s gR.out dp.out HF.out).mono ?_
 rintro r w3 hp
 rw [show dt nest s=X from HX.out] at hp
 rcases av hp with ⟨er,cy,rfl,df⟩ | ⟨y,u3,v3,aI,rfl,he,ht,hr⟩
 ·
  have hz:Z=.error er:=by rw [HZ.out,cy];rfl
  exact ⟨rfl,cg hz ((fK.out.below H6.out.1 HV.out H6.out.2).trans df)⟩
 have bX:u3=.int .i64 (y.1:Int):=he
 subst bX
 have l4:=Lib.hid hr
 have jf:=Lib.hid (fK.out.trans ht)
 have oy:Hid (Z=aB (aV 2 [[38,38],[124,124]]) (yQ nest ln) y.1 y.2):=by show _=_;rw [HZ.out,aI];rfl
 have rH:Hid (ph y.2≤80000):=by have:=qf HE.out.cost s y (by rw [HX.out,aI]);have:=HF.out;show _≤_;omega
 clear hp he ht hr aI HZ F3
 go_wp2_with fail
 go_loopw [4] (fun v4 wr=>∃(s':S) (k:Nat) (v':Value),v4=.int .i64 (k:Int)∧aB (aV 2 [[38,38],[124,124]]) (yQ nest ln) k s'=Z∧Rd wr b B P v' s' d∧aj b v W v' wr∧ph s'≤80000) (fun _ wr=>kh wr b)
 case atStart=>exact ⟨y.2,y.1,v3,rfl,oy.out.symm,l4.out,jf.out,rH.out⟩
 case round=>
  obtain ⟨s',k,v',rfl,hrun,hr,ht,zh⟩:=hrel
  have je:=Lib.hid hrun
  have Im:=Lib.hid hr
  have PF:=Lib.hid ht
  have Vt:=Lib.hid zh
  clear hrun hr ht zh l4 jf oy rH
  go_wp2_with fail
  refine (jX wr b B P v' s' d Im.out 2 [[38,38],[124,124]] (by decide)).mono ?_
  rintro r w5 ⟨rfl,ll⟩
  have Us:Below wr.heap.size wr w5:=(Below.refl _ _).trans ll
  have S1:=Lib.hid (Im.out.below Us)
  have Xe:=Lib.hid (PF.out.trans (aj.of_below Us))
  clear ll Us
  obtain ⟨z,hz⟩:∃z,aV 2 [[38,38],[124,124]] s'=z:=⟨_,rfl⟩
  have K8:=Lib.hid hz
  rw [hz]
  clear hz
  cases z with
  | false=>
    have oJ:Hid (Z=.ok (k,s')):=by show _=_;rw [←je.out,bF (mY HE.out.weak ln) Tc,if_neg (by rw [show aV 2 [[38,38],[124,124]] s'=false from K8.out];decide)]
    go_wp2_with fail
    go_ret
    exact fy oJ.out rfl Xe.out S1.out
  | true=>
    go_wp2_with fail
    refine (bm w5 b B P v' s' d S1.out).mono ?_
    rintro r w6 ⟨rfl,yP,Te⟩
    have HR6:=Lib.hid Te
    have Py:=Lib.hid (Xe.out.trans yP)
    clear yP Te
    obtain ⟨t,ht⟩:∃t,nx s'=t:=⟨_,rfl⟩
    have HT:=Lib.hid ht
    have F1:=jC t
    rw [ht]
    clear ht
    obtain ⟨kd,JY⟩:∃kd:Nat,kd=if t.t=[124,124] then 4 else 3:=⟨_,rfl⟩
    have Xc:=Lib.hid JY
    clear JY
    obtain ⟨zo,hzo⟩:∃zo,((str t.t).toList==[124,124])=zo:=⟨_,rfl⟩
    have HZo:Hid (kd=if zo=true then 4 else 3):=by
     show _=_
     rw [Xc.out,←hzo,eK]
     by_cases ho:t.t=[124,124]
     · rw [if_pos ho,ho];rfl
     · rw [if_neg ho,if_neg (by simpa using ho)]
    go_upto_if 17 with fail
    clear hzo
    go_cut [5] (fun s5 wx=>s5=.int .i64 (kd:Int)∧wx=w6)
    case first=>
     cases zo with
     | true=>
       have hk4:kd=4:=by rw [HZo.out];rfl
       go_wp2_with fail
       go_meet
       exact ⟨by rw [hk4];rfl,rfl⟩
     | false=>
       have hk3:kd=3:=by rw [HZo.out];rfl
       go_wp2_with fail
       go_meet
       exact ⟨by rw [hk3];rfl,rfl⟩
    case rest=>
     obtain ⟨rfl,hwc⟩:=hcut
     have WD:=hwc.symm
     subst WD
     clear hwc
     go_wp2_with fail
     refine (cJ w6 b B P v' (tk s') d HR6.out).mono ?_
     rintro r w7 ⟨rfl,vF,La⟩
     have HR7:=Lib.hid La
     have IV:=Lib.hid (Py.out.trans vF)
     clear vF La
     obtain ⟨Y,hY⟩:∃Y,dt nest (bj (tk s'))=Y:=⟨_,rfl⟩
     have HY:=Lib.hid hY
     have yO:Hid (ph (bj (tk s'))+8≤ph s'):=by have h1:=dG (tk s');have h2:=fS (s:=s') (by rw [dD K8.out];decide);show _≤_;omega
     have eO:Hid (Z=bd (bd Y fun k2 s3=>Sy.bC { k:=kd,ks:=[k,k2],ln:=ln } s3) (aB (aV 2 [[38,38],[124,124]]) (yQ nest ln))):=by
      show _=_
      rw [←je.out,bF (mY HE.out.weak ln) Tc,if_pos K8.out,←hY]
      show bd (bd (dt nest (bj (tk s'))) fun k2 s3=>Sy.bC { k:=if (nx s').t=[124,124] then 4 else 3,ks:=[k,k2],ln:=ln } s3) _=_
      rw [HT.out,←Xc.out]
     clear hY
     go_wp2_with fail
     refine (HPi.out w7 b B P v' _ HR7.out (fun g hg=>HP.out g (Nat.le_trans IV.out.size hg)) (by have:=yO.out;have:=Vt.out;omega)).mono ?_
     rintro r w8 hp
     rw [show dt nest (bj (tk s'))=Y from HY.out] at hp
     rcases av hp with ⟨er,cy,rfl,df⟩ | ⟨q,u8,v8,qL,rfl,he,oM,ov⟩
     ·
      have hz:Z=.error er:=by rw [eO.out,cy];rfl
      exact ⟨rfl,cg hz ((IV.out.below H6.out.1 HV.out H6.out.2).trans df)⟩
     have bX:u8=.int .i64 (q.1:Int):=he
     subst bX
     have VN:Hid (ph q.2+6≤ph (bj (tk s'))):=qf HE.out.cost _ q (by rw [HY.out,qL])
     have FI:Hid (q.2.2.length < s'.2.length):=by
      have h1:=pR HE.out.weak (bj (tk s')) q (by rw [HY.out,qL])
      have h2:=ew (tk s')
      have h3:=eJ (s:=s') (by rw [dD K8.out];decide)
      show _ < _
      omega
     have HT8:=Lib.hid (IV.out.trans oM)
     obtain ⟨n,hn⟩:∃n:Nd,n={ k:=kd,ks:=[k,q.1],ln:=ln }:=⟨_,rfl⟩
     obtain ⟨w9,KF,df,qH⟩:=OV w8 P (HP.out _ HT8.out.size) n k q.1 (by rw [hn]) (by rw [hn]) (by rw [hn])
     have YM:=ov.below df
     have HT9:=Lib.hid (HT8.out.trans (aj.of_below df))
     have FT:Hid (Z=bd (Sy.bC n q.2) (aB (aV 2 [[38,38],[124,124]]) (yQ nest ln))):=by show _=_;rw [eO.out,qL,hn];rfl
     have hput:=bQ w9 b B P v8 q.2 d YM n _ _ _ qH (by have:=VN.out;have:=yO.out;have:=Vt.out;unfold ph at *;omega)
     rw [hn] at hput
     have YU:=Lib.hid hput
     have HN:=Lib.hid hn
     clear hp he oM ov qL YM qH hput hn df eO
     go_wp2_with fail
     refine YU.out.mono ?_
     rintro r lq hp
     obtain ⟨ua,va,rfl,Xl,hta,Xp⟩:=hp
     have ZaR:ua=.int .i64 (q.2.1.length:Int):=Xl
     subst ZaR
     have Vv:=Lib.hid Xp
     have Q5:=Lib.hid (HT9.out.trans hta)
     have ZaN:Hid (ph ((q.2.1++[({ k:=kd,ks:=[k,q.1],ln:=ln }:Nd)],q.2.2):S)≤80000):=by
      have:=VN.out;have:=yO.out;have:=Vt.out
      unfold ph at *
      show _≤_
      simp only [List.length_append,List.length_singleton];omega
     have iH:Hid (aB (aV 2 [[38,38],[124,124]]) (yQ nest ln) q.2.1.length (q.2.1++[({ k:=kd,ks:=[k,q.1],ln:=ln }:Nd)],q.2.2)=Z):=by show _=_;rw [FT.out,HN.out];rfl
     clear Xl hta Xp YU
     go_wp2_with fail
     go_roundw
     case rel=>exact ⟨_,q.2.1.length,va,rfl,iH.out,Vv.out,Q5.out,ZaN.out⟩
     case measure=>rw [cB Vv.out,cB Im.out];exact FI.out
abbrev Z7:Array Value:=#[.int .i64 0,.string ⟨#[]⟩,.bool false,.slice none 0 0,.int .i64 0,.slice none 0 0,.slice none 0 0,.int .i64 0]
structure fR (W0:World) (v0:Value) (W:World) (b B:Nat) (P:Nat→Prop) (v:Value) (s:S) (d N:Nat) (n:Nd) (uw ur uk:Value) (M:Nat):Prop extends Mid W0 v0 W b B P v s d N n uw ur uk where
 res:W.heap[M]? =some (.cells Z7 gv)
 yo:W0.heap.size≤M
 Lp:M≠N
 wY:v.ownBlock≠some M
structure iT (W0:World) (v0:Value) (W:World) (b B:Nat) (P:Nat→Prop) (v:Value) (s:S) (d N:Nat) (n n':Nd) (uw ur uk CF Ei CK:Value) (M:Nat):Prop extends MidA W0 v0 W b B P v s d N n n' uw ur uk CF Ei CK where
 res:W.heap[M]? =some (.cells Z7 gv)
 yo:W0.heap.size≤M
 Lp:M≠N
 wY:v.ownBlock≠some M
section
variable {W0 W W':World} {b B:Nat} {P:Nat→Prop} {v0 v v':Value} {s s':S} {d N M:Nat} {n n':Nd} {uw ur uk CF Ei CK u:Value}
theorem fR.below (h:fR W0 v0 W b B P v s d N n uw ur uk M) (hb:Below W.heap.size W W'):fR W0 v0 W' b B P v s d N n uw ur uk M:=
 ⟨h.toMid.below hb,(hb.block M (Array.getElem?_eq_some_iff.1 h.res).1).trans h.res,h.yo,h.Lp,h.wY⟩
theorem iT.below (h:iT W0 v0 W b B P v s d N n n' uw ur uk CF Ei CK M) (hb:Below W.heap.size W W'):iT W0 v0 W' b B P v s d N n n' uw ur uk CF Ei CK M:=
 ⟨h.toMidA.below hb,(hb.block M (Array.getElem?_eq_some_iff.1 h.res).1).trans h.res,h.yo,h.Lp,h.wY⟩
theorem fR.step (h:fR W0 v0 W b B P v s d N n uw ur uk M) (ht:aj b v W v' W') (hr:Rd W' b B (gG P N uw ur uk) v' s' d):fR W0 v0 W' b B P v' s' d N n uw ur uk M:=by
 have hl:=(Array.getElem?_eq_some_iff.1 h.res).1
 exact ⟨h.toMid.step ht hr,(ht.block M hl (by have:=h.yo;have:=h.bx.old;omega) h.wY).trans h.res,h.yo,h.Lp,fun e=>h.wY (ht.own M e hl)⟩
theorem fR.set (h:fR W0 v0 W b B P v s d N n uw ur uk M) (i:Nat) (x:Value) (n':Nd) (he:(jO n uw ur uk).setIfInBounds i x=jO n' uw ur uk) (h1:n'.ws=n.ws) (h2:n'.rs=n.rs) (h3:n'.ks=n.ks):∃w',W.setCell ⟨N,i,none⟩ x=w'∧fR W0 v0 w' b B P v s d N n' uw ur uk M:=by
 obtain ⟨w',hw,hm⟩:=h.toMid.set i x n' he h1 h2 h3
 have hg:W.grownBy w' (some N):=by rw [←hw];exact Sl.aq N [x] i W
 exact ⟨w',hw,hm,(hg.block M (Array.getElem?_eq_some_iff.1 h.res).1 (fun e=>h.Lp (Option.some.inj e))).trans h.res,h.yo,h.Lp,h.wY⟩
theorem iT.set (h:iT W0 v0 W b B P v s d N n n' uw ur uk CF Ei CK M) (i:Nat) (x:Value) (he:(jO n uw ur uk).setIfInBounds i x=jO n' CF Ei CK):∃w',W.setCell ⟨N,i,none⟩ x=w'∧fR W0 v0 w' b B P v s d N n' CF Ei CK M:=by
 obtain ⟨w',hw,hm⟩:=h.toMidA.set i x he
 have hg:W.grownBy w' (some N):=by rw [←hw];exact Sl.aq N [x] i W
 exact ⟨w',hw,hm,(hg.block M (Array.getElem?_eq_some_iff.1 h.res).1 (fun e=>h.Lp (Option.some.inj e))).trans h.res,h.yo,h.Lp,h.wY⟩
theorem fR.app_w (h:fR W0 v0 W b B P v s d N n uw ur uk M) (x:Nm) (hg:W.grownBy W' uw.ownBlock) (ho:W'.ownsRow 0 eZ 1 u (n.ws.length+1) (n.ws.map sv++[sv x])) (hat:∀g,u.ownBlock=some g→g < W.heap.size→uw.ownBlock=some g):iT W0 v0 W' b B P v s d N n { n with ws:=n.ws++[x] } uw ur uk u ur uk M:=by
 refine ⟨h.toMid.app_w x hg ho hat,(hg.block M (Array.getElem?_eq_some_iff.1 h.res).1 (fun e=>?_)).trans h.res,h.yo,h.Lp,h.wY⟩
 obtain ⟨X,hX⟩:=mh h.rows.w e.symm
 exact absurd (ey hX h.res) (by decide)
theorem fR.app_k (h:fR W0 v0 W b B P v s d N n uw ur uk M) (x:Nat) (hg:W.grownBy W' uk.ownBlock) (ho:W'.ownsRow 0 dU 1 u (n.ks.length+1) (n.ks.map iv++[iv x])) (hat:∀g,u.ownBlock=some g→g < W.heap.size→uk.ownBlock=some g):iT W0 v0 W' b B P v s d N n { n with ks:=n.ks++[x] } uw ur uk uw ur u M:=by
 refine ⟨h.toMid.app_k x hg ho hat,(hg.block M (Array.getElem?_eq_some_iff.1 h.res).1 (fun e=>?_)).trans h.res,h.yo,h.Lp,h.wY⟩
 obtain ⟨X,hX⟩:=mh h.rows.k e.symm
 exact absurd (ey hX h.res) (by decide)
theorem fR.new_k (h:fR W0 v0 W b B P v s d N n uw ur uk M) (x:Nat):∃w1 w2,W.alloc (.cells #[iv x] dU)=w1∧w1.setCell ⟨N,6,none⟩ (.slice (some ⟨W.heap.size,0,none⟩) 1 1)=w2∧w1.heap[N]? =some (.cells (jO n uw ur uk) gv)∧fR W0 v0 w2 b B P v s d N { n with ks:=[x] } uw ur (.slice (some ⟨W.heap.size,0,none⟩) 1 1) M:=by
 obtain ⟨w1,w2,h1,h2,h3,h4⟩:=h.toMid.new_k x
 have cU:Below W.heap.size W w1:=by rw [←h1];exact (Below.refl _ _).alloc (Nat.le_refl _) _
 have hg:w1.grownBy w2 (some N):=by rw [←h2];exact Sl.aq N [_] 6 w1
 have hr1:=(h.below cU).res
 exact ⟨w1,w2,h1,h2,h3,h4,(hg.block M (Array.getElem?_eq_some_iff.1 hr1).1 (fun e=>h.Lp (Option.some.inj e))).trans hr1,h.yo,h.Lp,h.wY⟩
theorem fR.start (h:Rd W b B P v s d) (n:Nd) (h1:n.ws=[]) (h2:n.rs=[]) (h3:n.ks=[]):∃w1 w2,W.alloc (.cells (jO n (.slice none 0 0) (.slice none 0 0) (.slice none 0 0)) gv)=w1∧w1.alloc (.cells Z7 gv)=w2∧w1.heap.size=W.heap.size+1∧fR W v w2 b B P v s d W.heap.size n (.slice none 0 0) (.slice none 0 0) (.slice none 0 0) (W.heap.size+1)∧Below W.heap.size W w2:=by
 obtain ⟨w1,hw,hm,hb⟩:=Mid.start h n h1 h2 h3
 have hz:w1.heap.size=W.heap.size+1:=by rw [←hw];exact World.size_alloc _ _
 have cU:=(Below.refl w1.heap.size w1).alloc (Nat.le_refl _) (.cells Z7 gv)
 have ly:=heap_alloc_new w1 (.cells Z7 gv)
 rw [hz] at ly
 refine ⟨w1,_,hw,rfl,hz,⟨hm.below cU,ly,by omega,by omega,fun e=>?_⟩,hb.trans (cU.mono hb.size)⟩
 have:=(h.own _ e).2
 omega
theorem fR.fin (h:fR W0 v0 W b B P v s d N n uw ur uk M):∃w9,(((((((W.setCell ⟨M,0,none⟩ (.int .i64 (n.k:Int))).setCell ⟨M,1,none⟩ (.string (str n.t))).setCell ⟨M,2,none⟩ (.bool n.fl)).setCell ⟨M,3,none⟩ uw).setCell ⟨M,4,none⟩ (.int .i64 (n.st:Int))).setCell ⟨M,5,none⟩ ur).setCell ⟨M,6,none⟩ uk).setCell ⟨M,7,none⟩ (.int .i64 (n.ln:Int))=w9∧
 w9.heap[M]? =some (.cells (jO n uw ur uk) gv)∧Rows w9 (fun g=>W0.heap.size≤g) n uw ur uk∧aj b v0 W0 v w9∧Rd w9 b B P v s d:=by
 have hg:W.grownBy (W.setCells M 0 [.int .i64 (n.k:Int),.string (str n.t),.bool n.fl,uw,.int .i64 (n.st:Int),ur,uk,.int .i64 (n.ln:Int)]) (some M):=Sl.aq M _ 0 W
 have hx:(W.setCells M 0 [.int .i64 (n.k:Int),.string (str n.t),.bool n.fl,uw,.int .i64 (n.st:Int),ur,uk,.int .i64 (n.ln:Int)]).heap[M]? =some (.cells (jO n uw ur uk) gv):=Sl.gS M gv _ 0 W _ h.res (by simp)
 have hrow:∀(g:Nat) (X:Array Value) (t:TypeId),W.heap[g]? =some (.cells X t)→qp t→(W.setCells M 0 [.int .i64 (n.k:Int),.string (str n.t),.bool n.fl,uw,.int .i64 (n.st:Int),ur,uk,.int .i64 (n.ln:Int)]).heap[g]? =W.heap[g]?:=fun g X t hX hT=>hg.block g (Array.getElem?_eq_some_iff.1 hX).1 (fun e=>by
  obtain rfl:=Option.some.inj e
  have:=ey hX h.res
  rw [this] at hT
  exact fp.1 hT)
 have h1:=h.yo
 have h2:=h.bx.old
 have h3:=h.bx.rd.bB
 refine ⟨_,rfl,hx,h.rows.keep (fun g X t _ hX hT=>hrow g X t hX hT),aj.grown h.bx.turn hg (fun g e=>by obtain rfl:=Option.some.inj e;exact h1),?_⟩
 exact h.toMid.rd.turn hg (fun g e _=>by
  obtain rfl:=Option.some.inj e
  exact ⟨by omega,by omega,h.wY,fun _ X t hX hT=>by
   have:=ey hX h.res
   rw [this] at hT
   exact fp.1 hT⟩)
end
abbrev jh (nest:S→Sy.P Nat) (d:Nat):Prop:=∀(W:World) (b B:Nat) (P:Nat→Prop) (v:Value) (s:S) (em:Bool),Rd W b B P v s d→(∀g,W.heap.size≤g→P g)→ph s≤80000→
 Calls Tryz.prog 23 #[.pointer (some ⟨b,0,none⟩),.bool em] W (Post eN W b B P v d (aO nest em s))
abbrev rQ (nest:S→Sy.P Nat) (d:Nat):Prop:=∀(W:World) (b B:Nat) (P:Nat→Prop) (v:Value) (s:S),Rd W b B P v s d→(∀g,W.heap.size≤g→P g)→ph s≤80000→
 Calls Tryz.prog 152 #[.pointer (some ⟨b,0,none⟩)] W (Post eN W b B P v d (cv nest s))
theorem pG {nest:S→Sy.P Nat} {d:Nat} (E:Env nest d) (hL:jh nest d) (hB:rQ nest d) (W:World) (b B:Nat) (P:Nat→Prop) (v:Value) (s:S) (h:Rd W b B P v s d) (hP:∀g,W.heap.size≤g→P g) (hF:ph s≤80000) (h4:(nx s).k≠4) (ln:Nat):
 Calls Tryz.prog 125 #[.pointer (some ⟨b,0,none⟩),.agg #[.int .i64 0,.string ⟨#[]⟩,.bool false,.slice none 0 0,.int .i64 0,.slice none 0 0,.slice none 0 0,.int .i64 (ln:Int)]] W (nW W b B P v d (eV nest ln s)):=by
 have HR:=Lib.hid h
 have HE:Hid (Env nest d):=E
 have yE:Hid (jh nest d):=hL
 have S9:Hid (rQ nest d):=hB
 have HP:Hid (∀g,W.heap.size≤g→P g):=hP
 have rH:Hid (ph s+0≤80000):=hF
 have H4:=Lib.hid h4
 have HV:Hid (∀g,v.ownBlock=some g→B≤g):=fun g hg=>(h.own g hg).1
 obtain ⟨n0,eP⟩:∃n0:Nd,n0={ k:=0,ln:=ln }:=⟨_,rfl⟩
 have oz:=Lib.hid eP
 obtain ⟨w1,w2,gZ,hw2,hz1,pP,hb2⟩:=fR.start h n0 (by rw [eP]) (by rw [eP]) (by rw [eP])
 obtain ⟨N,hN⟩:∃N,W.heap.size=N:=⟨_,rfl⟩
 have mU:W.alloc (.cells #[.int .i64 0,.string ⟨#[]⟩,.bool false,.slice none 0 0,.int .i64 0,.slice none 0 0,.slice none 0 0,.int .i64 (ln:Int)] gv)=w1:=by rw [eP] at gZ;exact gZ
 rw [hN] at pP hz1
 have qa:=Lib.hid mU
 have CY:=Lib.hid hw2
 have XC:=Lib.hid hz1
 have vy:=Lib.hid hN
 have xu:=Lib.hid pP
 obtain ⟨Z,hZ⟩:∃Z,eV nest ln s=Z:=⟨_,rfl⟩
 have E4:=Lib.hid hZ
 rw [hZ]
 clear h hP hF h4 E hL hB eP gZ mU hw2 hz1 hN pP hb2 hZ
 go_enter Tryz.func125,Tryz.ntmps125
 go_upto_region 1 with fail
 rw [qa.out,CY.out,vy.out]
 have nb:Hid (Z=bd (aO nest false (tk s)) fun k s=>bd (aP 1 [[125]] s) fun _ s=>.ok ({ k:=11,ks:=[k],ln:=ln },s)):=E4.out.symm
 go_wp2_with fail
 refine (bm w2 b B _ v s d xu.out.bx.rd).mono ?_
 rintro r w4 ⟨rfl,lK,hr4⟩
 have qA:=Lib.hid (xu.out.step lK hr4)
 clear lK hr4
 have sj:Hid (ph (tk s)+8≤80000):=by have jN:=rH.out;have h8:=fS (s:=s) H4.out;show _≤_;omega
 obtain ⟨⟨x0,x1,x2,x3,x4,x5,x6,x7⟩,z0,z1,z2,z3,z4,z5,z6,z7⟩:=af qA.out.bx.box
 obtain ⟨n6,p7⟩:∃n1:Nd,n1={ n0 with k:=11 }:=⟨_,rfl⟩
 have sY:=Lib.hid p7
 obtain ⟨w6,xl,oo⟩:=qA.out.set 0 (.int .i64 11) n6 (by rw [p7];rfl) (by rw [p7]) (by rw [p7]) (by rw [p7])
 have qO:=Lib.hid oo
 clear oo p7
 go_wp2_with fail
 refine (yE.out w6 b B _ v (tk s) false qO.out.bx.rd (qO.out.free HP.out) (by have:=sj.out;omega)).mono ?_
 rintro r w7 hp
 rcases av hp with ⟨er,cy,rfl,df⟩ | ⟨y,u9,v7,aI,rfl,he,ht,hr⟩
 ·
  have hz:Z=.error er:=by rw [nb.out,cy];rfl
  exact ⟨rfl,aN hz ((qO.out.belowB HV.out).trans df)⟩
 have bX:u9=.int .i64 (y.1:Int):=he
 subst bX
 have nQ:=Lib.hid (qO.out.step ht hr)
 have HX7:=Lib.hid aI
 have Nv:Hid (Z=bd (aP 1 [[125]] y.2) fun _ s=>.ok ({ k:=11,ks:=[y.1],ln:=ln },s)):=by show _=_;rw [nb.out,aI];rfl
 have Hb:Hid (ph y.2+7≤80000):=by have jN:=sj.out;have h8:=cQ HE.out.cost false (tk s) y aI;show _≤_;omega
 clear hp he ht hr aI
 clear x0 x1 x2 x3 x4 x5 x6 x7 z0 z1 z2 z3 z4 z5 z6 z7
 obtain ⟨wL9,w9,DN,KF,my,fj⟩:=nQ.out.new_k y.1
 have Tv:w7.alloc (.cells #[.int .i64 (y.1:Int)] dU)=wL9:=DN
 obtain ⟨n9,bO⟩:∃n2:Nd,{ n6 with ks:=[y.1] }=n2:=⟨_,rfl⟩
 rw [bO] at fj
 have dA:=Lib.hid bO
 have pH:=Lib.hid fj
 obtain ⟨⟨x0,x1,x2,x3,x4,x5,x6,x7⟩,z0,z1,z2,z3,z4,z5,z6,z7⟩:=af my
 clear DN fj bO my
 have IB:=Lib.hid dA.out
 clear dA
 go_wp2_with fail
 refine (fc w9 b B _ v7 y.2 d pH.out.bx.rd 1 [[125]] (by decide)).mono ?_
 rintro r lq hp
 rcases av hp with ⟨er,cy,rfl,df⟩ | ⟨q,u9,v10,aI,rfl,he,ht,hr⟩
 ·
  have hz:Z=.error er:=by rw [Nv.out,cy];rfl
  exact ⟨rfl,aN hz ((pH.out.belowB HV.out).trans df)⟩
 have bX:u9=.tuple #[]:=he
 subst bX
 have jY:=Lib.hid (pH.out.step ht hr)
 have PY:=Lib.hid aI
 have B3:Hid (Z=.ok ({ k:=11,ks:=[y.1],ln:=ln },q.2)):=by show _=_;rw [Nv.out,aI];rfl
 have uN:Hid (ph q.2+15≤80000):=by have jN:=Hb.out;have h8:=bD (by decide) q aI;show _≤_;omega
 clear hp he ht hr aI
 clear x0 x1 x2 x3 x4 x5 x6 x7 z0 z1 z2 z3 z4 z5 z6 z7
 obtain ⟨⟨x0,x1,x2,x3,x4,x5,x6,x7⟩,z0,z1,z2,z3,z4,z5,z6,z7⟩:=af jY.out.bx.box
 have kF:Hid (Z=.ok (n9,q.2)):=by show _=_;(rw [B3.out,←IB.out,sY.out,oz.out];try rfl)
 obtain ⟨wF,LD,fG,fJ,fO,fL⟩:=jY.out.fin
 have dH:Hid (Rows wF (fun g=>W.heap.size≤g) n9 _ _ _∧aj b v W _ wF∧Rd wF b B P _ q.2 d):=⟨fJ,fO,fL⟩
 obtain ⟨⟨y0,y1,y2,y3,y4,y5,y6,y7⟩,_⟩:=af fG
 obtain ⟨⟨r0,r1,r2,r3,r4,r5,r6,r7⟩,q0,q1,q2,q3,q4,q5,q6,q7⟩:=af jY.out.res
 clear fG fJ fO fL
 go_wp2_with fail
 refine bodyPost_ret (v:=.agg (jO n9 (.slice none 0 0) (.slice none 0 0) (.slice (some ⟨w7.heap.size,0,none⟩) 1 1))) (by simp [results,Tryz.results125,go_sem,y0,y1,y2,y3,y4,y5,y6,y7,jO]) rfl ?_
 rw [show Z=.ok (n9,q.2) from kF.out]
 exact ⟨_,_,_,_,rfl,dH.out.1,dH.out.2.1,dH.out.2.2⟩
theorem uo {nest:S→Sy.P Nat} {d:Nat} (E:Env nest d) (hL:jh nest d) (hB:rQ nest d) (W:World) (b B:Nat) (P:Nat→Prop) (v:Value) (s:S) (h:Rd W b B P v s d) (hP:∀g,W.heap.size≤g→P g) (hF:ph s≤80000) (h4:(nx s).k≠4) (ln:Nat):
 Calls Tryz.prog 130 #[.pointer (some ⟨b,0,none⟩),.agg #[.int .i64 0,.string ⟨#[]⟩,.bool false,.slice none 0 0,.int .i64 0,.slice none 0 0,.slice none 0 0,.int .i64 (ln:Int)]] W (nW W b B P v d (mP nest ln s)):=by
 have HR:=Lib.hid h
 have HE:Hid (Env nest d):=E
 have yE:Hid (jh nest d):=hL
 have S9:Hid (rQ nest d):=hB
 have HP:Hid (∀g,W.heap.size≤g→P g):=hP
 have rH:Hid (ph s+0≤80000):=hF
 have H4:=Lib.hid h4
 have HV:Hid (∀g,v.ownBlock=some g→B≤g):=fun g hg=>(h.own g hg).1
 obtain ⟨n0,eP⟩:∃n0:Nd,n0={ k:=0,ln:=ln }:=⟨_,rfl⟩
 have oz:=Lib.hid eP
 obtain ⟨w1,w2,gZ,hw2,hz1,pP,hb2⟩:=fR.start h n0 (by rw [eP]) (by rw [eP]) (by rw [eP])
 obtain ⟨N,hN⟩:∃N,W.heap.size=N:=⟨_,rfl⟩
 have mU:W.alloc (.cells #[.int .i64 0,.string ⟨#[]⟩,.bool false,.slice none 0 0,.int .i64 0,.slice none 0 0,.slice none 0 0,.int .i64 (ln:Int)] gv)=w1:=by rw [eP] at gZ;exact gZ
 rw [hN] at pP hz1
 have qa:=Lib.hid mU
 have CY:=Lib.hid hw2
 have XC:=Lib.hid hz1
 have vy:=Lib.hid hN
 have xu:=Lib.hid pP
 obtain ⟨Z,hZ⟩:∃Z,mP nest ln s=Z:=⟨_,rfl⟩
 have E4:=Lib.hid hZ
 rw [hZ]
 clear h hP hF h4 E hL hB eP gZ mU hw2 hz1 hN pP hb2 hZ
 go_enter Tryz.func130,Tryz.ntmps130
 go_upto_region 1 with fail
 rw [qa.out,CY.out,vy.out]
 have nb:Hid (Z=bd (aO nest false (tk s)) fun k s=>bd (aP 2 [[41]] s) fun _ s=>.ok ({ k:=12,ks:=[k],ln:=ln },s)):=E4.out.symm
 go_wp2_with fail
 refine (bm w2 b B _ v s d xu.out.bx.rd).mono ?_
 rintro r w4 ⟨rfl,lK,hr4⟩
 have qA:=Lib.hid (xu.out.step lK hr4)
 clear lK hr4
 have sj:Hid (ph (tk s)+8≤80000):=by have jN:=rH.out;have h8:=fS (s:=s) H4.out;show _≤_;omega
 obtain ⟨⟨x0,x1,x2,x3,x4,x5,x6,x7⟩,z0,z1,z2,z3,z4,z5,z6,z7⟩:=af qA.out.bx.box
 obtain ⟨n6,p7⟩:∃n1:Nd,n1={ n0 with k:=12 }:=⟨_,rfl⟩
 have sY:=Lib.hid p7
 obtain ⟨w6,xl,oo⟩:=qA.out.set 0 (.int .i64 12) n6 (by rw [p7];rfl) (by rw [p7]) (by rw [p7]) (by rw [p7])
 have qO:=Lib.hid oo
 clear oo p7
 go_wp2_with fail
 refine (yE.out w6 b B _ v (tk s) false qO.out.bx.rd (qO.out.free HP.out) (by have:=sj.out;omega)).mono ?_
 rintro r w7 hp
 rcases av hp with ⟨er,cy,rfl,df⟩ | ⟨y,u9,v7,aI,rfl,he,ht,hr⟩
 ·
  have hz:Z=.error er:=by rw [nb.out,cy];rfl
  exact ⟨rfl,aN hz ((qO.out.belowB HV.out).trans df)⟩
 have bX:u9=.int .i64 (y.1:Int):=he
 subst bX
 have nQ:=Lib.hid (qO.out.step ht hr)
 have HX7:=Lib.hid aI
 have Nv:Hid (Z=bd (aP 2 [[41]] y.2) fun _ s=>.ok ({ k:=12,ks:=[y.1],ln:=ln },s)):=by show _=_;rw [nb.out,aI];rfl
 have Hb:Hid (ph y.2+7≤80000):=by have jN:=sj.out;have h8:=cQ HE.out.cost false (tk s) y aI;show _≤_;omega
 clear hp he ht hr aI
 clear x0 x1 x2 x3 x4 x5 x6 x7 z0 z1 z2 z3 z4 z5 z6 z7
 obtain ⟨wL9,w9,DN,KF,my,fj⟩:=nQ.out.new_k y.1
 have Tv:w7.alloc (.cells #[.int .i64 (y.1:Int)] dU)=wL9:=DN
 obtain ⟨n9,bO⟩:∃n2:Nd,{ n6 with ks:=[y.1] }=n2:=⟨_,rfl⟩
 rw [bO] at fj
 have dA:=Lib.hid bO
 have pH:=Lib.hid fj
 obtain ⟨⟨x0,x1,x2,x3,x4,x5,x6,x7⟩,z0,z1,z2,z3,z4,z5,z6,z7⟩:=af my
 clear DN fj bO my
 have IB:=Lib.hid dA.out
 clear dA
 go_wp2_with fail
 refine (fc w9 b B _ v7 y.2 d pH.out.bx.rd 2 [[41]] (by decide)).mono ?_
 rintro r lq hp
 rcases av hp with ⟨er,cy,rfl,df⟩ | ⟨q,u9,v10,aI,rfl,he,ht,hr⟩
 ·
  have hz:Z=.error er:=by rw [Nv.out,cy];rfl
  exact ⟨rfl,aN hz ((pH.out.belowB HV.out).trans df)⟩
 have bX:u9=.tuple #[]:=he
 subst bX
 have jY:=Lib.hid (pH.out.step ht hr)
 have PY:=Lib.hid aI
 have B3:Hid (Z=.ok ({ k:=12,ks:=[y.1],ln:=ln },q.2)):=by show _=_;rw [Nv.out,aI];rfl
 have uN:Hid (ph q.2+15≤80000):=by have jN:=Hb.out;have h8:=bD (by decide) q aI;show _≤_;omega
 clear hp he ht hr aI
 clear x0 x1 x2 x3 x4 x5 x6 x7 z0 z1 z2 z3 z4 z5 z6 z7
 obtain ⟨⟨x0,x1,x2,x3,x4,x5,x6,x7⟩,z0,z1,z2,z3,z4,z5,z6,z7⟩:=af jY.out.bx.box
 have kF:Hid (Z=.ok (n9,q.2)):=by show _=_;(rw [B3.out,←IB.out,sY.out,oz.out];try rfl)
 obtain ⟨wF,LD,fG,fJ,fO,fL⟩:=jY.out.fin
 have dH:Hid (Rows wF (fun g=>W.heap.size≤g) n9 _ _ _∧aj b v W _ wF∧Rd wF b B P _ q.2 d):=⟨fJ,fO,fL⟩
 obtain ⟨⟨y0,y1,y2,y3,y4,y5,y6,y7⟩,_⟩:=af fG
 obtain ⟨⟨r0,r1,r2,r3,r4,r5,r6,r7⟩,q0,q1,q2,q3,q4,q5,q6,q7⟩:=af jY.out.res
 clear fG fJ fO fL
 go_wp2_with fail
 refine bodyPost_ret (v:=.agg (jO n9 (.slice none 0 0) (.slice none 0 0) (.slice (some ⟨w7.heap.size,0,none⟩) 1 1))) (by simp [results,Tryz.results130,go_sem,y0,y1,y2,y3,y4,y5,y6,y7,jO]) rfl ?_
 rw [show Z=.ok (n9,q.2) from kF.out]
 exact ⟨_,_,_,_,rfl,dH.out.1,dH.out.2.1,dH.out.2.2⟩
theorem nM {nest:S→Sy.P Nat} {d:Nat} (E:Env nest d) (hL:jh nest d) (hB:rQ nest d) (W:World) (b B:Nat) (P:Nat→Prop) (v:Value) (s:S) (h:Rd W b B P v s d) (hP:∀g,W.heap.size≤g→P g) (hF:ph s≤80000) (h4:(nx s).k≠4) (ln:Nat):
 Calls Tryz.prog 127 #[.pointer (some ⟨b,0,none⟩),.agg #[.int .i64 0,.string ⟨#[]⟩,.bool false,.slice none 0 0,.int .i64 0,.slice none 0 0,.slice none 0 0,.int .i64 (ln:Int)]] W (nW W b B P v d (iw nest ln s)):=by
 have HR:=Lib.hid h
 have HE:Hid (Env nest d):=E
 have yE:Hid (jh nest d):=hL
 have S9:Hid (rQ nest d):=hB
 have HP:Hid (∀g,W.heap.size≤g→P g):=hP
 have rH:Hid (ph s+0≤80000):=hF
 have H4:=Lib.hid h4
 have HV:Hid (∀g,v.ownBlock=some g→B≤g):=fun g hg=>(h.own g hg).1
 obtain ⟨n0,eP⟩:∃n0:Nd,n0={ k:=0,ln:=ln }:=⟨_,rfl⟩
 have oz:=Lib.hid eP
 obtain ⟨w1,w2,gZ,hw2,hz1,pP,hb2⟩:=fR.start h n0 (by rw [eP]) (by rw [eP]) (by rw [eP])
 obtain ⟨N,hN⟩:∃N,W.heap.size=N:=⟨_,rfl⟩
 have mU:W.alloc (.cells #[.int .i64 0,.string ⟨#[]⟩,.bool false,.slice none 0 0,.int .i64 0,.slice none 0 0,.slice none 0 0,.int .i64 (ln:Int)] gv)=w1:=by rw [eP] at gZ;exact gZ
 rw [hN] at pP hz1
 have qa:=Lib.hid mU
 have CY:=Lib.hid hw2
 have XC:=Lib.hid hz1
 have vy:=Lib.hid hN
 have xu:=Lib.hid pP
 obtain ⟨Z,hZ⟩:∃Z,iw nest ln s=Z:=⟨_,rfl⟩
 have E4:=Lib.hid hZ
 rw [hZ]
 clear h hP hF h4 E hL hB eP gZ mU hw2 hz1 hN pP hb2 hZ
 go_enter Tryz.func127,Tryz.ntmps127
 go_upto_region 1 with fail
 rw [qa.out,CY.out,vy.out]
 obtain ⟨fl,ot⟩:∃fl,((str (nx s).t).toList==[117,110,116,105,108])=fl:=⟨_,rfl⟩
 have Zai:decide ((nx s).t=[117,110,116,105,108])=fl:=by rw [←ot,eK,Bool.eq_iff_iff];simp
 have nb:Hid (Z=bd (aO nest false (tk s)) fun c s1=>bd (cv nest s1) fun b s2=>.ok ({ k:=7,fl:=fl,ks:=[c,b],ln:=ln },s2)):=by show _=_;rw [←E4.out,←Zai];rfl
 have F1:=jC (nx s)
 clear Zai
 obtain ⟨⟨x0,x1,x2,x3,x4,x5,x6,x7⟩,z0,z1,z2,z3,z4,z5,z6,z7⟩:=af xu.out.bx.box
 obtain ⟨n4,Lc⟩:∃n1:Nd,n1={ n0 with k:=7 }:=⟨_,rfl⟩
 have WM:=Lib.hid Lc
 obtain ⟨w4,hw4,YT⟩:=xu.out.set 0 (.int .i64 7) n4 (by rw [Lc];rfl) (by rw [Lc]) (by rw [Lc]) (by rw [Lc])
 have qA:=Lib.hid YT
 clear YT Lc
 go_wp2_with fail
 refine (bm w4 b B _ v s d qA.out.bx.rd).mono ?_
 rintro r w5 ⟨rfl,ES,Ch⟩
 have ve:=Lib.hid (qA.out.step ES Ch)
 clear ES Ch
 clear x0 x1 x2 x3 x4 x5 x6 x7 z0 z1 z2 z3 z4 z5 z6 z7
 have Ri:Hid (ph (tk s)+8≤80000):=by have jN:=rH.out;have h8:=fS (s:=s) H4.out;show _≤_;omega
 obtain ⟨⟨x0,x1,x2,x3,x4,x5,x6,x7⟩,z0,z1,z2,z3,z4,z5,z6,z7⟩:=af ve.out.bx.box
 obtain ⟨n7,J9⟩:∃n1:Nd,n1={ n4 with fl:=fl }:=⟨_,rfl⟩
 have HN7:=Lib.hid J9
 obtain ⟨w7,Ro,TC⟩:=ve.out.set 2 (.bool fl) n7 (by rw [J9];rfl) (by rw [J9]) (by rw [J9]) (by rw [J9])
 have nQ:=Lib.hid TC
 clear TC J9
 go_wp2_with fail
 refine (yE.out w7 b B _ v (tk s) false nQ.out.bx.rd (nQ.out.free HP.out) (by have:=Ri.out;omega)).mono ?_
 rintro r w8 hp
 rcases av hp with ⟨er,cy,rfl,df⟩ | ⟨y,u9,v8,aI,rfl,he,ht,hr⟩
 ·
  have hz:Z=.error er:=by rw [nb.out,cy];rfl
  exact ⟨rfl,aN hz ((nQ.out.belowB HV.out).trans df)⟩
 have bX:u9=.int .i64 (y.1:Int):=he
 subst bX
 have Pu:=Lib.hid (nQ.out.step ht hr)
 have D1:=Lib.hid aI
 have S5:Hid (Z=bd (cv nest y.2) fun b s2=>.ok ({ k:=7,fl:=fl,ks:=[y.1,b],ln:=ln },s2)):=by show _=_;rw [nb.out,aI];rfl
 have K4:Hid (ph y.2+7≤80000):=by have jN:=Ri.out;have h8:=cQ HE.out.cost false (tk s) y aI;show _≤_;omega
 clear hp he ht hr aI
 clear x0 x1 x2 x3 x4 x5 x6 x7 z0 z1 z2 z3 z4 z5 z6 z7
 obtain ⟨ZbT,lq,Tg,ZcF,my,fj⟩:=Pu.out.new_k y.1
 have ZbD:w8.alloc (.cells #[.int .i64 (y.1:Int)] dU)=ZbT:=Tg
 obtain ⟨n10,bO⟩:∃n2:Nd,{ n7 with ks:=[y.1] }=n2:=⟨_,rfl⟩
 rw [bO] at fj
 have dA:=Lib.hid bO
 have jY:=Lib.hid fj
 obtain ⟨⟨x0,x1,x2,x3,x4,x5,x6,x7⟩,z0,z1,z2,z3,z4,z5,z6,z7⟩:=af my
 clear Tg fj bO my
 have Za:=Lib.hid dA.out
 clear dA
 go_upto_region 4 with fail
 clear x0 x1 x2 x3 x4 x5 x6 x7 z0 z1 z2 z3 z4 z5 z6 z7
 obtain ⟨Rf,hX⟩:∃X,cv nest y.2=X:=⟨_,rfl⟩
 have ZcI:=Lib.hid hX
 have dO:Hid (n10.ks.length≤100000):=by show _≤_;rw [←Za.out,HN7.out,WM.out,oz.out];simp
 have et:Hid (∀x,Rd x b B (gG P N (.slice none 0 0) (.slice none 0 0) (.slice (some ⟨w8.heap.size,0,none⟩) 1 1)) v8 y.2 d→lq.heap.size≤x.heap.size→Calls Tryz.prog 152 #[.pointer (some ⟨b,0,none⟩)] x (Post eN x b B (gG P N (.slice none 0 0) (.slice none 0 0) (.slice (some ⟨w8.heap.size,0,none⟩) 1 1)) v8 d Rf)):=fun x hr hs=>by
  rw [←hX]
  exact S9.out x b B _ v8 y.2 hr (fun g hg=>jY.out.free HP.out g (Nat.le_trans hs hg)) (by have:=K4.out;omega)
 have sP:=hX
 clear hX
 have HM:=jY
 obtain ⟨i0,iy,hz0,hz1,hz2⟩:=info_parts jy
 have yL:Hid (∀g,Value.ownBlock ((.slice (some ⟨w8.heap.size,0,none⟩) 1 1))=some g→g < lq.heap.size):=fun g hg=>(HM.out.rows.k.lt g hg).2
 refine Rp.cq (fun ch x=>∃e,Rf=.error e∧mI e.1 e.2=Ending.panicked ch∧Below B lq x) 6 [] [Rg.Is (.pointer (some ⟨N,6,none⟩)),Rg.Is ((.slice (some ⟨w8.heap.size,0,none⟩) 1 1)),Rg.Is (.pointer (some ⟨b,0,none⟩)),(fun u9 (x:World)=>∃y,Rf=.ok y∧u9=iv y.1),(fun u9 x=>∃q,u9=.slice (some ⟨q,0,none⟩) 1 1∧lq.heap.size≤q∧(∃y,Rf=.ok y∧x.heap[q]? =some (.cells #[iv y.1] dU))∧lq.heap.size < x.heap.size),(fun u9 x=>∃y v9,Rf=.ok y∧iT W v x b B P v9 y.2 d N (n10) ({ n10 with ks:=n10.ks++[y.1] }) (.slice none 0 0) (.slice none 0 0) (.slice (some ⟨w8.heap.size,0,none⟩) 1 1) (.slice none 0 0) (.slice none 0 0) u9 (N+1)∧lq.heap.size < x.heap.size)] (fun _ _=>True) (fun ls x=>(ls 3=false→x.heap.size=lq.heap.size∧Below lq.heap.size lq x)∧(ls 3=true→ls 5=false→∃y v9,Rf=.ok y∧fR W v x b B P v9 y.2 d N (n10) (.slice none 0 0) (.slice none 0 0) (.slice (some ⟨w8.heap.size,0,none⟩) 1 1) (N+1)∧lq.heap.size≤x.heap.size)) (fun k x y=>if k=3 then x.heap.size=lq.heap.size else if k=5 then x.grownBy y (Value.ownBlock ((.slice (some ⟨w8.heap.size,0,none⟩) 1 1))) else (Below x.heap.size x y∧(k=4∨y.heap.size=x.heap.size))) (by kernel_rfl) (by kernel_rfl) (of_decide_eq_true (by kernel_rfl)) (by kernel_rfl) (by kernel_rfl) trivial ⟨fun _=>⟨rfl,rfl,rfl,rfl,Nat.le_refl _,fun _ _=>rfl⟩,fun h=>by cases h⟩ (fun ls mC x e h1=>⟨fun h2=>h1.1 (by rw [e];exact h2),fun h2 h3=>h1.2 (by rw [e];exact h2) (by rw [e];exact h3)⟩) (fun _ _ _ _ _=>trivial) (fun i ls x _ h1=>by rw [show ([]:List Bool).getD i true=true from rfl] at h1;cases h1) ?_ ⟨rfl,rfl,rfl,rfl,rfl,rfl,trivial⟩ ⟨?_,?_,?_,?_,?_,?_,trivial⟩ ?_ ?_
 ·
  intro i k u8 x y9 hik _ h1 hK
  match i,h1,hik with
  | 0,h1,_=>exact h1
  | 1,h1,_=>exact h1
  | 2,h1,_=>exact h1
  | 3,h1,_=>exact h1
  | 4,h1,hik=>
    obtain ⟨q,hq,nj,⟨y,aI,iK⟩,hlt⟩:=h1
    have rB:=(Array.getElem?_eq_some_iff.1 iK).1
    by_cases k3:k=3
    · rw [if_pos k3] at hK;omega
    ·
     rw [if_neg k3] at hK
     by_cases k5:k=5
     ·
      rw [if_pos k5] at hK
      exact ⟨q,hq,nj,⟨y,aI,(hK.block q rB (fun e=>by have:=yL.out q e.symm;omega)).trans iK⟩,Nat.lt_of_lt_of_le hlt hK.size⟩
     ·
      rw [if_neg k5] at hK
      exact ⟨q,hq,nj,⟨y,aI,(hK.1.block q rB).trans iK⟩,Nat.lt_of_lt_of_le hlt hK.1.size⟩
  | 5,h1,hik=>
    obtain ⟨y,v9,aI,hA,hlt⟩:=h1
    by_cases k3:k=3
    · rw [if_pos k3] at hK;omega
    ·
     rw [if_neg k3,if_neg (fun e=>hik e.symm)] at hK
     exact ⟨y,v9,aI,hA.below hK.1,Nat.lt_of_lt_of_le hlt hK.1.size⟩
  | _+6,_,_=>trivial
 ·
  intro _ b9 x ls hR hS ai bI bf hk
  have h3:b9.eval (.tmp 3)=.pointer (some ⟨N,0,none⟩):=Eq.mp (by kernel_rfl) (hk 3 (by decide))
  refine Rp.ag ?_
  exact Rs.aR _ _ h3 (by have:=j6 N 0 6 (by decide) x;rw [Nat.zero_add] at this;exact this) ⟨by rw [if_neg (by decide),if_neg (by decide)];exact ⟨Below.refl _ _,.inr rfl⟩,rfl,⟨fun hh=>hS.1 hh,fun h2 h3=>hS.2 h2 h3⟩⟩
 ·
  intro _ b9 x ls hR hS ai bI bf hk
  have Dr:b9.eval (.tmp 15)=.pointer (some ⟨N,6,none⟩):=Eq.mp (by kernel_rfl) (hk 15 (by decide))
  have l5:ls 5=false:=bf [] 5 _ rfl (by kernel_rfl)
  have hc:x.cell? ⟨N,6,none⟩=some ((.slice (some ⟨w8.heap.size,0,none⟩) 1 1)):=by
   cases l3:ls 3 with
   | false=>have hm:=HM.out.below (hS.1 l3).2;simp [World.cell?,hm.bx.box]
   | true=>obtain ⟨y,v9,aI,hm,hsz⟩:=hS.2 l3 l5;simp [World.cell?,hm.bx.box]
  refine Rp.ag ?_
  exact Rg.aK _ _ Dr (Ap.aW (by simp [isAgg]) hc) ⟨by rw [if_neg (by decide),if_neg (by decide)];exact ⟨Below.refl _ _,.inr rfl⟩,rfl,⟨fun hh=>hS.1 hh,fun h2 h3=>hS.2 h2 h3⟩⟩
 ·
  intro _ b9 x ls hR hS ai bI bf hk
  have h0:b9.eval (.tmp 0)=.pointer (some ⟨b,0,none⟩):=Eq.mp (by kernel_rfl) (hk 0 (by decide))
  refine Rp.ag ?_
  exact Rg.az ⟨by rw [if_neg (by decide),if_neg (by decide)];exact ⟨Below.refl _ _,.inr rfl⟩,h0,⟨fun hh=>hS.1 hh,fun h2 h3=>hS.2 h2 h3⟩⟩
 ·
  intro _ b9 x ls hR hS ai bI bf hk
  have G1:b9.eval (.tmp 17)=.pointer (some ⟨b,0,none⟩):=Eq.mp (by kernel_rfl) (hk 17 (by decide))
  obtain ⟨hsz,hb⟩:=hS.1 ai
  have hm:=HM.out.below hb
  refine Rp.bW #[.pointer (some ⟨b,0,none⟩)] Tryz.func152 (by kernel_rfl) (by kernel_rfl) (by simp [G1,show ∀v,b9.eval (.const v)=v from fun _=>rfl]) (et.out x hm.bx.rd hb.size) ?_
  intro e w' hp
  rcases av hp with ⟨er,cy,rfl,df⟩ | ⟨y,u9,v9,aI,rfl,he,ht,hr⟩
  · exact .inr ⟨_,rfl,er,cy,rfl,(hb.mono HM.out.bx.rd.size).trans df⟩
  · exact .inl ⟨u9,rfl,by rw [if_pos rfl];exact hsz,⟨y,aI,he⟩,⟨fun hh=>by simp [Rs.upd] at hh,fun _ _=>⟨y,v9,aI,hm.step ht hr,by have:=ht.size;omega⟩⟩⟩
 ·
  intro _ b9 x ls hR hS ai bI bf hk
  have N5:(fun u9 (x:World)=>∃y,Rf=.ok y∧u9=iv y.1) (b9.eval (.tmp 18)) x:=Eq.mp (by kernel_rfl) (hk 18 (by decide))
  have l3:ls 3=true:=bI [] 3 (by kernel_rfl)
  have l5:ls 5=false:=bf [] 5 _ rfl (by kernel_rfl)
  obtain ⟨y,v9,aI,hm,hsz⟩:=hS.2 l3 l5
  obtain ⟨y2,gi,he⟩:=N5
  have lC:y2=y:=Except.ok.inj (gi.symm.trans aI)
  subst lC
  have cU:=(Below.refl x.heap.size x).alloc (Nat.le_refl _) (.cells #[iv y2.1] dU)
  refine Rp.ag ?_
  exact Rg.di #[(0,iv y2.1)] _ (by simp [he]) (by go_simp;rfl) ⟨by rw [if_neg (by decide),if_neg (by decide)];exact ⟨cU,.inl rfl⟩,⟨x.heap.size,rfl,hsz,⟨y2,aI,heap_alloc_new x _⟩,by rw [World.size_alloc];omega⟩,⟨fun hh=>absurd (l3.symm.trans hh) (by decide),fun _ _=>⟨y2,v9,aI,hm.below cU,by rw [World.size_alloc];omega⟩⟩⟩
 ·
  intro _ b9 x ls hR hS ai bI bf hk
  have Fo:b9.eval (.tmp 16)=(.slice (some ⟨w8.heap.size,0,none⟩) 1 1):=Eq.mp (by kernel_rfl) (hk 16 (by decide))
  have VB:(fun u9 x=>∃q,u9=.slice (some ⟨q,0,none⟩) 1 1∧lq.heap.size≤q∧(∃y,Rf=.ok y∧x.heap[q]? =some (.cells #[iv y.1] dU))∧lq.heap.size < x.heap.size) (b9.eval (.tmp 19)) x:=Eq.mp (by kernel_rfl) (hk 19 (by decide))
  have l3:ls 3=true:=bI [] 3 (by kernel_rfl)
  obtain ⟨y,v9,aI,hm,hsz⟩:=hS.2 l3 ai
  obtain ⟨q,hq,nj,⟨y2,gi,iK⟩,hlt⟩:=VB
  have lC:y2=y:=Except.ok.inj (gi.symm.trans aI)
  subst lC
  obtain ⟨u9,w',hrun,hown',hgr,hat⟩:=Ap.bR (P:=Tryz.prog) x 0 35 35 35 dU i0 _ 1 8 Tryz.underlying35 (bw Tryz.underlying35) iy hz0 hz1 hz2 rfl (by decide) (by decide) ((.slice (some ⟨w8.heap.size,0,none⟩) 1 1)) _ _ hm.rows.k (b9.eval (.tmp 19)) 1 ([iv y2.1]) (by rw [hq];exact cP (b:=q) (off:=0) rfl (by intro u hu;obtain rfl:=List.mem_singleton.1 hu;rfl) (.inr rfl) (fun i z hi=>by rw [Nat.zero_add];unfold World.cell?;simp only [iK];simpa using hi)) (by unfold maxLen;have:=dO.out;omega) (by have:=dO.out;omega) (Nat.zero_le _)
  refine Rp.ag ?_
  exact Ap.cR ((.slice (some ⟨w8.heap.size,0,none⟩) 1 1)) _ u9 w' Fo rfl hrun ⟨by rw [if_neg (by decide),if_pos rfl];exact hgr,⟨y2,v9,aI,hm.app_k y2.1 hgr hown' hat,Nat.lt_of_lt_of_le hlt hgr.size⟩,⟨fun hh=>absurd (l3.symm.trans hh) (by decide),fun _ hh=>by simp [Rs.upd] at hh⟩⟩
 ·
  intro ch a' w' yN hD
  obtain ⟨er,cy,A8,qU⟩:=hD
  refine ⟨yN,?_⟩
  rw [←A8]
  have hz:Z=.error er:=by rw [S5.out,sP,cy];rfl
  exact aN hz ((HM.out.belowB HV.out).trans qU)
 intro vals wD ls _ uj _ hL
 obtain ⟨g0,g1,g2,g3,g4,g5,_⟩:=hL
 obtain ⟨q,v11,aI,hA,_⟩:=(g5:(fun u9 x=>∃y v9,Rf=.ok y∧iT W v x b B P v9 y.2 d N (n10) ({ n10 with ks:=n10.ks++[y.1] }) (.slice none 0 0) (.slice none 0 0) (.slice (some ⟨w8.heap.size,0,none⟩) 1 1) (.slice none 0 0) (.slice none 0 0) u9 (N+1)∧lq.heap.size < x.heap.size) (vals 5) wD)
 clear g0 g1 g2 g3 g4 uj
 obtain ⟨n11,bO⟩:∃n2:Nd,{ n10 with ks:=n10.ks++[q.1] }=n2:=⟨_,rfl⟩
 rw [bO] at hA
 have dA:=Lib.hid bO
 simp only [Rg.bh,List.take_succ_cons,List.take_zero,List.drop_succ_cons,List.drop_zero,List.setIfInBounds_toArray,List.set_cons_succ,List.set_cons_zero]
 generalize vals 0=g0 at *
 generalize vals 1=g1 at *
 generalize vals 2=g2 at *
 generalize vals 3=g3 at *
 generalize vals 4=g4 at *
 generalize vals 5=u9 at *
 obtain ⟨a11,c11,wq,_⟩:=aA hA.rows.k
 subst wq
 obtain ⟨Lj,ZaK,fj⟩:=hA.set 6 (.slice a11 n11.ks.length c11) (by rw [←dA.out];rfl)
 obtain ⟨⟨x0,x1,x2,x3,x4,x5,x6,x7⟩,z0,z1,z2,z3,z4,z5,z6,z7⟩:=af hA.bx.box
 have vq:=Lib.hid fj
 have ox:=Lib.hid aI
 clear hA fj aI i0 iy hz0 hz1 hz2 bO
 have qL:cv nest y.2=.ok q:=by rw [sP];exact ox.out
 have Zbv:Hid (Z=.ok ({ k:=7,fl:=fl,ks:=[y.1,q.1],ln:=ln },q.2)):=by show _=_;rw [S5.out,qL];rfl
 have Ga:=Lib.hid dA.out
 clear dA dO et HM sP
 have Zcr:Hid (ph q.2+15≤80000):=by have jN:=K4.out;have h8:=gC HE.out.cost y.2 q qL;show _≤_;omega
 have Zcn:=ox
 clear qL ox
 go_upto_region 5 with fail
 clear x0 x1 x2 x3 x4 x5 x6 x7 z0 z1 z2 z3 z4 z5 z6 z7
 obtain ⟨⟨x0,x1,x2,x3,x4,x5,x6,x7⟩,z0,z1,z2,z3,z4,z5,z6,z7⟩:=af vq.out.bx.box
 have kF:Hid (Z=.ok (n11,q.2)):=by show _=_;(rw [Zbv.out,←Ga.out,←Za.out,HN7.out,WM.out,oz.out];try rfl)
 obtain ⟨wF,LD,fG,fJ,fO,fL⟩:=vq.out.fin
 have dH:Hid (Rows wF (fun g=>W.heap.size≤g) n11 _ _ _∧aj b v W _ wF∧Rd wF b B P _ q.2 d):=⟨fJ,fO,fL⟩
 obtain ⟨⟨y0,y1,y2,y3,y4,y5,y6,y7⟩,_⟩:=af fG
 obtain ⟨⟨r0,r1,r2,r3,r4,r5,r6,r7⟩,q0,q1,q2,q3,q4,q5,q6,q7⟩:=af vq.out.res
 clear fG fJ fO fL
 go_wp2_with fail
 refine bodyPost_ret (v:=.agg (jO n11 (.slice none 0 0) (.slice none 0 0) (.slice a11 n11.ks.length c11))) (by simp [results,Tryz.results127,go_sem,y0,y1,y2,y3,y4,y5,y6,y7,jO]) rfl ?_
 rw [show Z=.ok (n11,q.2) from kF.out]
 exact ⟨_,_,_,_,rfl,dH.out.1,dH.out.2.1,dH.out.2.2⟩
theorem Gf {nest:S→Sy.P Nat} {d:Nat} (E:Env nest d) (hL:jh nest d) (W:World) (b B:Nat) (P:Nat→Prop) (v:Value) (s:S) (h:Rd W b B P v s d) (hP:∀g,W.heap.size≤g→P g) (hF:ph s≤80000):
 Calls Tryz.prog 152 #[.pointer (some ⟨b,0,none⟩)] W (Post eN W b B P v d (cv nest s)):=by
 have HR:=Lib.hid h
 have yE:Hid (jh nest d):=hL
 have HP:Hid (∀g,W.heap.size≤g→P g):=hP
 have HF:Hid (ph s≤80000):=hF
 have HV:Hid (∀g,v.ownBlock=some g→B≤g):=fun g hg=>(h.own g hg).1
 have H6:Hid (B≤b∧B≤W.heap.size):=⟨h.bB,h.size⟩
 obtain ⟨Z,hZ⟩:∃Z,cv nest s=Z:=⟨_,rfl⟩
 have HZ:Hid (Z=bd (aP 1 [[100,111]] s) fun _ s=>bd (aO nest false s) fun k s=>bd (aP 1 [[100,111,110,101]] s) fun _ s=>.ok (k,s)):=hZ.symm
 rw [hZ]
 clear h hP hF hZ E hL
 go_enter Tryz.func152,Tryz.ntmps152
 go_wp2_with fail
 refine (fc W b B P v s d HR.out 1 [[100,111]] (by decide)).mono ?_
 rintro r w2 hp
 rcases av hp with ⟨er,cy,rfl,df⟩ | ⟨y,u2,v2,aI,rfl,he,ht,hr⟩
 ·
  have hz:Z=.error er:=by rw [HZ.out,cy];rfl
  exact ⟨rfl,cg hz df⟩
 have bX:u2=.tuple #[]:=he
 subst bX
 have gR:=Lib.hid hr
 have fK:=Lib.hid ht
 have oy:Hid (Z=bd (aO nest false y.2) fun k s=>bd (aP 1 [[100,111,110,101]] s) fun _ s=>.ok (k,s)):=by show _=_;rw [HZ.out,aI];rfl
 have Qz:Hid (ph y.2≤80000):=by have:=bD (by decide) y aI;have:=HF.out;show _≤_;omega
 clear hp he ht hr aI
 go_wp2_with fail
 refine (yE.out w2 b B P v2 y.2 false gR.out (fun g hg=>HP.out g (Nat.le_trans fK.out.size hg)) Qz.out).mono ?_
 rintro r w3 hp
 rcases av hp with ⟨er,cy,rfl,df⟩ | ⟨q,u3,v3,aI,rfl,he,ht,hr⟩
 ·
  have hz:Z=.error er:=by rw [oy.out,cy];rfl
  exact ⟨rfl,cg hz ((fK.out.below H6.out.1 HV.out H6.out.2).trans df)⟩
 have bX:u3=.int .i64 (q.1:Int):=he
 subst bX
 have l4:=Lib.hid hr
 have jf:=Lib.hid (fK.out.trans ht)
 have nb:Hid (Z=bd (aP 1 [[100,111,110,101]] q.2) fun _ s=>.ok (q.1,s)):=by show _=_;rw [oy.out,aI];rfl
 clear hp he ht hr aI
 go_wp2_with fail
 refine (fc w3 b B P v3 q.2 d l4.out 1 [[100,111,110,101]] (by decide)).mono ?_
 rintro r w4 hp
 rcases av hp with ⟨er,cy,rfl,df⟩ | ⟨x,u4,v4,aI,rfl,he,ht,hr⟩
 ·
  have hz:Z=.error er:=by rw [nb.out,cy];rfl
  exact ⟨rfl,cg hz ((jf.out.below H6.out.1 HV.out H6.out.2).trans df)⟩
 have bX:u4=.tuple #[]:=he
 subst bX
 have HF4:Hid (aj b v W v4 w4∧Rd w4 b B P v4 x.2 d):=⟨jf.out.trans ht,hr⟩
 have W7:Hid (Z=.ok (q.1,x.2)):=by show _=_;rw [nb.out,aI];rfl
 clear hp he ht hr aI
 go_wp2_with fail
 go_ret
 exact fy W7.out rfl HF4.out.1 HF4.out.2
theorem FK {nest:S→Sy.P Nat} {d:Nat} (E:Env nest d) (hL:jh nest d) (hB:rQ nest d) (W:World) (b B:Nat) (P:Nat→Prop) (v:Value) (s:S) (h:Rd W b B P v s d) (hP:∀g,W.heap.size≤g→P g) (hF:ph s≤80000) (h4:(nx s).k≠4) (ln:Nat):
 Calls Tryz.prog 128 #[.pointer (some ⟨b,0,none⟩),.agg #[.int .i64 0,.string ⟨#[]⟩,.bool false,.slice none 0 0,.int .i64 0,.slice none 0 0,.slice none 0 0,.int .i64 (ln:Int)]] W (nW W b B P v d (eT nest ln s)):=by
 have HR:=Lib.hid h
 have HE:Hid (Env nest d):=E
 have yE:Hid (jh nest d):=hL
 have S9:Hid (rQ nest d):=hB
 have HP:Hid (∀g,W.heap.size≤g→P g):=hP
 have rH:Hid (ph s+0≤80000):=hF
 have H4:=Lib.hid h4
 have HV:Hid (∀g,v.ownBlock=some g→B≤g):=fun g hg=>(h.own g hg).1
 obtain ⟨n0,eP⟩:∃n0:Nd,n0={ k:=0,ln:=ln }:=⟨_,rfl⟩
 have oz:=Lib.hid eP
 obtain ⟨w1,w2,gZ,hw2,hz1,pP,hb2⟩:=fR.start h n0 (by rw [eP]) (by rw [eP]) (by rw [eP])
 obtain ⟨N,hN⟩:∃N,W.heap.size=N:=⟨_,rfl⟩
 have mU:W.alloc (.cells #[.int .i64 0,.string ⟨#[]⟩,.bool false,.slice none 0 0,.int .i64 0,.slice none 0 0,.slice none 0 0,.int .i64 (ln:Int)] gv)=w1:=by rw [eP] at gZ;exact gZ
 rw [hN] at pP hz1
 have qa:=Lib.hid mU
 have CY:=Lib.hid hw2
 have XC:=Lib.hid hz1
 have vy:=Lib.hid hN
 have xu:=Lib.hid pP
 obtain ⟨Z,hZ⟩:∃Z,eT nest ln s=Z:=⟨_,rfl⟩
 have E4:=Lib.hid hZ
 rw [hZ]
 clear h hP hF h4 E hL hB eP gZ mU hw2 hz1 hN pP hb2 hZ
 go_enter Tryz.func128,Tryz.ntmps128
 go_upto_region 1 with fail
 rw [qa.out,CY.out,vy.out]
 have nb:Hid (Z=eT nest ln s):=E4.out.symm
 go_wp2_with fail
 refine (bm w2 b B _ v s d xu.out.bx.rd).mono ?_
 rintro r w4 ⟨rfl,lK,hr4⟩
 have qA:=Lib.hid (xu.out.step lK hr4)
 clear lK hr4
 have sj:Hid (ph (tk s)+8≤80000):=by have jN:=rH.out;have h8:=fS (s:=s) H4.out;show _≤_;omega
 obtain ⟨⟨x0,x1,x2,x3,x4,x5,x6,x7⟩,z0,z1,z2,z3,z4,z5,z6,z7⟩:=af qA.out.bx.box
 obtain ⟨n6,p7⟩:∃n1:Nd,n1={ n0 with k:=8 }:=⟨_,rfl⟩
 have sY:=Lib.hid p7
 obtain ⟨w6,xl,oo⟩:=qA.out.set 0 (.int .i64 8) n6 (by rw [p7];rfl) (by rw [p7]) (by rw [p7]) (by rw [p7])
 have qO:=Lib.hid oo
 clear oo p7
 obtain ⟨t7,vF⟩:∃t,nx (tk s)=t:=⟨_,rfl⟩
 have IV:=Lib.hid vF
 clear vF
 have F71:=jC t7
 go_wp2_with fail
 refine (a8 w6 b B _ v (tk s) d qO.out.bx.rd).mono ?_
 rintro r w7 ⟨rfl,zE⟩
 rw [show nx (tk s)=t7 from IV.out]
 have nQ:=Lib.hid (qO.out.below zE)
 clear zE
 clear x0 x1 x2 x3 x4 x5 x6 x7 z0 z1 z2 z3 z4 z5 z6 z7
 have yM:t7.t.length≤100000:=by
  obtain ⟨t',l',hs⟩:=List.exists_cons_of_ne_nil nQ.out.bx.rd.ok.ne
  have:=nQ.out.bx.rd.ok.each t' (by rw [hs];exact List.mem_cons_self)
  rw [←IV.out,Cp hs]
  exact this.1
 go_wp2_with fail
 refine (ry w7 t7.t (by omega)).mono ?_
 rintro r wn ⟨rfl,bu⟩
 obtain rfl:=bu
 obtain ⟨zn,hzn⟩:∃z,eG t7.t=z:=⟨_,rfl⟩
 have Hzn:=Lib.hid hzn
 rw [hzn]
 clear hzn yM
 cases zn with
 | false=>
   go_wp2_with fail
   have HE8:Hid (Z=er 20 (tk s)):=by show _=_;rw [nb.out];unfold eT;simp only;rw [if_pos (by rw [show nx (tk s)=t7 from IV.out];exact Hzn.out)]
   refine (bq w7 b B _ v (tk s) d nQ.out.bx.rd 20).mono ?_
   rintro r w8 ⟨rfl,qC⟩
   exact ⟨rfl,aN HE8.out ((nQ.out.belowB HV.out).trans (qC.mono nQ.out.bx.rd.size))⟩
 | true=>
   have S5:Hid (Z=bd (cC (tk s)) fun t s=>if aV 2 [[59]] s=true then bd (cv nest (bj (tk s))) fun b s=>.ok ({ k:=8,t:=t,fl:=true,ks:=[b],ln:=ln },s) else if aV 1 [[105,110]] (bj s)=true then bd (aB lv nD [] (tk (bj s))) fun ws s=>if aV 2 [[59]] s=false∧(nx s).k≠3 then er 20 s else bd (cv nest (bj (tk s))) fun b s=>.ok ({ k:=8,t:=t,ws:=ws,ks:=[b],ln:=ln },s) else bd (cv nest (bj s)) fun b s=>.ok ({ k:=8,t:=t,fl:=true,ks:=[b],ln:=ln },s)):=by show _=_;rw [nb.out];unfold eT;simp only;rw [if_neg (by rw [show nx (tk s)=t7 from IV.out,show eG t7.t=true from Hzn.out];decide)]
   go_wp2_with fail
   refine (iA w7 b B _ v (tk s) d nQ.out.bx.rd).mono ?_
   rintro r w9 hp
   rcases av hp with ⟨er,cy,rfl,df⟩ | ⟨y,u9,v9,aI,rfl,he,ht,hr⟩
   ·
    have hz:Z=.error er:=by rw [S5.out,cy];rfl
    exact ⟨rfl,aN hz ((nQ.out.belowB HV.out).trans df)⟩
   have bX:u9=.string (str y.1):=he
   subst bX
   have pH:=Lib.hid (nQ.out.step ht hr)
   have oJ:=Lib.hid aI
   have HZ9:Hid (Z=if aV 2 [[59]] y.2=true then bd (cv nest (bj (tk y.2))) fun b s=>.ok ({ k:=8,t:=y.1,fl:=true,ks:=[b],ln:=ln },s) else if aV 1 [[105,110]] (bj y.2)=true then bd (aB lv nD [] (tk (bj y.2))) fun ws s=>if aV 2 [[59]] s=false∧(nx s).k≠3 then er 20 s else bd (cv nest (bj (tk s))) fun b s=>.ok ({ k:=8,t:=y.1,ws:=ws,ks:=[b],ln:=ln },s) else bd (cv nest (bj y.2)) fun b s=>.ok ({ k:=8,t:=y.1,fl:=true,ks:=[b],ln:=ln },s)):=by show _=_;rw [S5.out,aI];rfl
   have S8:Hid (ph y.2+16≤80000):=by have jN:=sj.out;have h8:=eH y aI;show _≤_;omega
   clear hp he ht hr aI
   obtain ⟨⟨x0,x1,x2,x3,x4,x5,x6,x7⟩,z0,z1,z2,z3,z4,z5,z6,z7⟩:=af pH.out.bx.box
   obtain ⟨n11,Kb⟩:∃n1:Nd,n1={ n6 with t:=y.1 }:=⟨_,rfl⟩
   have Ga:=Lib.hid Kb
   obtain ⟨Lj,ZaK,XY⟩:=pH.out.set 1 (.string (str y.1)) n11 (by rw [Kb];rfl) (by rw [Kb]) (by rw [Kb]) (by rw [Kb])
   have vq:=Lib.hid XY
   clear XY Kb
   go_upto_region 6 with fail
   clear x0 x1 x2 x3 x4 x5 x6 x7 z0 z1 z2 z3 z4 z5 z6 z7
   obtain ⟨⟨x0,x1,x2,x3,x4,x5,x6,x7⟩,z0,z1,z2,z3,z4,z5,z6,z7⟩:=af vq.out.bx.box
   obtain ⟨jc,JX⟩:∃n1:Nd,n1={ n11 with fl:=true }:=⟨_,rfl⟩
   have xL:=Lib.hid JX
   obtain ⟨EX,Zbg,Zp⟩:=vq.out.set 2 (.bool true) jc (by rw [JX];rfl) (by rw [JX]) (by rw [JX]) (by rw [JX])
   have o7:=Lib.hid Zp
   clear Zp JX
   go_upto_region 7 with fail
   clear x0 x1 x2 x3 x4 x5 x6 x7 z0 z1 z2 z3 z4 z5 z6 z7
   go_wp2_with fail
   refine (jX EX b B _ v9 y.2 d o7.out.bx.rd 2 [[59]] (by decide)).mono ?_
   rintro r GQ ⟨rfl,CH⟩
   have AW:=Lib.hid (o7.out.below ((Below.refl _ _).trans CH))
   clear CH
   obtain ⟨z13,Wd⟩:∃z,aV 2 [[59]] y.2=z:=⟨_,rfl⟩
   have Ti:=Lib.hid Wd
   rw [Wd]
   clear Wd
   cases z13 with
   | true=>
     have Nb:Hid (Z=bd (cv nest (bj (tk y.2))) fun b s=>.ok ({ k:=8,t:=y.1,fl:=true,ks:=[b],ln:=ln },s)):=by show _=_;rw [HZ9.out,if_pos Ti.out]
     go_wp2_with fail
     refine (bm GQ b B _ v9 y.2 d AW.out.bx.rd).mono ?_
     rintro r PE ⟨rfl,Np,Ny⟩
     have ME:=Lib.hid (AW.out.step Np Ny)
     clear Np Ny
     have DY:Hid (ph (tk y.2)+16≤80000):=by have jN:=S8.out;have h8:=gg y.2;show _≤_;omega
     go_wp2_with fail
     refine (cJ PE b B _ v9 (tk y.2) d ME.out.bx.rd).mono ?_
     rintro r w17 ⟨rfl,YH,Ya⟩
     have yH:=Lib.hid (ME.out.step YH Ya)
     clear YH Ya
     have SS:Hid (ph (bj (tk y.2))+16≤80000):=by have jN:=DY.out;have h8:=dG (tk y.2);show _≤_;omega
     go_wp2_with fail
     refine (S9.out w17 b B _ v9 (bj (tk y.2)) yH.out.bx.rd (yH.out.free HP.out) (by have:=SS.out;omega)).mono ?_
     rintro r XG hp
     rcases av hp with ⟨er,cy,rfl,df⟩ | ⟨q,u9,v19,aI,rfl,he,ht,hr⟩
     ·
      have hz:Z=.error er:=by rw [Nb.out,cy];rfl
      exact ⟨rfl,aN hz ((yH.out.belowB HV.out).trans df)⟩
     have bX:u9=.int .i64 (q.1:Int):=he
     subst bX
     have K7:=Lib.hid (yH.out.step ht hr)
     have Zcg:=Lib.hid aI
     have WA:Hid (Z=.ok ({ k:=8,t:=y.1,fl:=true,ks:=[q.1],ln:=ln },q.2)):=by show _=_;rw [Nb.out,aI];rfl
     have Pc:Hid (ph q.2+24≤80000):=by have jN:=SS.out;have h8:=gC HE.out.cost (bj (tk y.2)) q aI;show _≤_;omega
     clear hp he ht hr aI
     obtain ⟨UW,w21,Ct,YS,my,fj⟩:=K7.out.new_k q.1
     have Vk:XG.alloc (.cells #[.int .i64 (q.1:Int)] dU)=UW:=Ct
     obtain ⟨FQ,bO⟩:∃n2:Nd,{ jc with ks:=[q.1] }=n2:=⟨_,rfl⟩
     rw [bO] at fj
     have dA:=Lib.hid bO
     have yZ:=Lib.hid fj
     obtain ⟨⟨x0,x1,x2,x3,x4,x5,x6,x7⟩,z0,z1,z2,z3,z4,z5,z6,z7⟩:=af my
     clear Ct fj bO my
     have Gd:=Lib.hid dA.out
     clear dA
     go_upto_region 11 with fail
     clear x0 x1 x2 x3 x4 x5 x6 x7 z0 z1 z2 z3 z4 z5 z6 z7
     obtain ⟨⟨x0,x1,x2,x3,x4,x5,x6,x7⟩,z0,z1,z2,z3,z4,z5,z6,z7⟩:=af yZ.out.bx.box
     have kF:Hid (Z=.ok (FQ,q.2)):=by show _=_;(rw [WA.out,←Gd.out,xL.out,Ga.out,sY.out,oz.out];try rfl)
     obtain ⟨wF,LD,fG,fJ,fO,fL⟩:=yZ.out.fin
     have dH:Hid (Rows wF (fun g=>W.heap.size≤g) FQ _ _ _∧aj b v W _ wF∧Rd wF b B P _ q.2 d):=⟨fJ,fO,fL⟩
     obtain ⟨⟨y0,y1,y2,y3,y4,y5,y6,y7⟩,_⟩:=af fG
     obtain ⟨⟨r0,r1,r2,r3,r4,r5,r6,r7⟩,q0,q1,q2,q3,q4,q5,q6,q7⟩:=af yZ.out.res
     clear fG fJ fO fL
     go_wp2_with fail
     refine bodyPost_ret (v:=.agg (jO FQ (.slice none 0 0) (.slice none 0 0) (.slice (some ⟨XG.heap.size,0,none⟩) 1 1))) (by simp [results,Tryz.results128,go_sem,y0,y1,y2,y3,y4,y5,y6,y7,jO]) rfl ?_
     rw [show Z=.ok (FQ,q.2) from kF.out]
     exact ⟨_,_,_,_,rfl,dH.out.1,dH.out.2.1,dH.out.2.2⟩
   | false=>
     have Nb:Hid (Z=if aV 1 [[105,110]] (bj y.2)=true then bd (aB lv nD [] (tk (bj y.2))) fun ws s=>if aV 2 [[59]] s=false∧(nx s).k≠3 then er 20 s else bd (cv nest (bj (tk s))) fun b s=>.ok ({ k:=8,t:=y.1,ws:=ws,ks:=[b],ln:=ln },s) else bd (cv nest (bj y.2)) fun b s=>.ok ({ k:=8,t:=y.1,fl:=true,ks:=[b],ln:=ln },s)):=by show _=_;rw [HZ9.out,if_neg (by rw [show aV 2 [[59]] y.2=false from Ti.out];decide)]
     go_wp2_with fail
     refine (cJ GQ b B _ v9 y.2 d AW.out.bx.rd).mono ?_
     rintro r PE ⟨rfl,Np,Ny⟩
     have ME:=Lib.hid (AW.out.step Np Ny)
     clear Np Ny
     have DY:Hid (ph (bj y.2)+16≤80000):=by have jN:=S8.out;have h8:=dG y.2;show _≤_;omega
     go_wp2_with fail
     refine (mH PE b B _ v9 (bj y.2) d ME.out.bx.rd [[105,110]] (by decide)).mono ?_
     rintro r w17 ⟨rfl,Zar⟩
     have yH:=Lib.hid (ME.out.below ((Below.refl _ _).trans Zar))
     clear Zar
     obtain ⟨z17,UK⟩:∃z,aV 1 [[105,110]] (bj y.2)=z:=⟨_,rfl⟩
     have TL:=Lib.hid UK
     rw [UK]
     clear UK
     cases z17 with
     | false=>
       have Gu:Hid (Z=bd (cv nest (bj y.2)) fun b s=>.ok ({ k:=8,t:=y.1,fl:=true,ks:=[b],ln:=ln },s)):=by show _=_;rw [Nb.out,if_neg (by rw [show aV 1 [[105,110]] (bj y.2)=false from TL.out];decide)]
       go_wp2_with fail
       refine (S9.out w17 b B _ v9 (bj y.2) yH.out.bx.rd (yH.out.free HP.out) (by have:=DY.out;omega)).mono ?_
       rintro r XG hp
       rcases av hp with ⟨er,cy,rfl,df⟩ | ⟨q,u9,v19,aI,rfl,he,ht,hr⟩
       ·
        have hz:Z=.error er:=by rw [Gu.out,cy];rfl
        exact ⟨rfl,aN hz ((yH.out.belowB HV.out).trans df)⟩
       have bX:u9=.int .i64 (q.1:Int):=he
       subst bX
       have K7:=Lib.hid (yH.out.step ht hr)
       have Zcg:=Lib.hid aI
       have WA:Hid (Z=.ok ({ k:=8,t:=y.1,fl:=true,ks:=[q.1],ln:=ln },q.2)):=by show _=_;rw [Gu.out,aI];rfl
       have Pc:Hid (ph q.2+24≤80000):=by have jN:=DY.out;have h8:=gC HE.out.cost (bj y.2) q aI;show _≤_;omega
       clear hp he ht hr aI
       obtain ⟨UW,w21,Ct,YS,my,fj⟩:=K7.out.new_k q.1
       have Vk:XG.alloc (.cells #[.int .i64 (q.1:Int)] dU)=UW:=Ct
       obtain ⟨FQ,bO⟩:∃n2:Nd,{ jc with ks:=[q.1] }=n2:=⟨_,rfl⟩
       rw [bO] at fj
       have dA:=Lib.hid bO
       have yZ:=Lib.hid fj
       obtain ⟨⟨x0,x1,x2,x3,x4,x5,x6,x7⟩,z0,z1,z2,z3,z4,z5,z6,z7⟩:=af my
       clear Ct fj bO my
       have Gd:=Lib.hid dA.out
       clear dA
       go_upto_region 23 with fail
       clear x0 x1 x2 x3 x4 x5 x6 x7 z0 z1 z2 z3 z4 z5 z6 z7
       obtain ⟨⟨x0,x1,x2,x3,x4,x5,x6,x7⟩,z0,z1,z2,z3,z4,z5,z6,z7⟩:=af yZ.out.bx.box
       have kF:Hid (Z=.ok (FQ,q.2)):=by show _=_;(rw [WA.out,←Gd.out,xL.out,Ga.out,sY.out,oz.out];try rfl)
       obtain ⟨wF,LD,fG,fJ,fO,fL⟩:=yZ.out.fin
       have dH:Hid (Rows wF (fun g=>W.heap.size≤g) FQ _ _ _∧aj b v W _ wF∧Rd wF b B P _ q.2 d):=⟨fJ,fO,fL⟩
       obtain ⟨⟨y0,y1,y2,y3,y4,y5,y6,y7⟩,_⟩:=af fG
       obtain ⟨⟨r0,r1,r2,r3,r4,r5,r6,r7⟩,q0,q1,q2,q3,q4,q5,q6,q7⟩:=af yZ.out.res
       clear fG fJ fO fL
       go_wp2_with fail
       refine bodyPost_ret (v:=.agg (jO FQ (.slice none 0 0) (.slice none 0 0) (.slice (some ⟨XG.heap.size,0,none⟩) 1 1))) (by simp [results,Tryz.results128,go_sem,y0,y1,y2,y3,y4,y5,y6,y7,jO]) rfl ?_
       rw [show Z=.ok (FQ,q.2) from kF.out]
       exact ⟨_,_,_,_,rfl,dH.out.1,dH.out.2.1,dH.out.2.2⟩
     | true=>
       have Gu:Hid (Z=bd (aB lv nD [] (tk (bj y.2))) fun ws s=>if aV 2 [[59]] s=false∧(nx s).k≠3 then er 20 s else bd (cv nest (bj (tk s))) fun b s=>.ok ({ k:=8,t:=y.1,ws:=ws,ks:=[b],ln:=ln },s)):=by show _=_;rw [Nb.out,if_pos TL.out]
       go_wp2_with fail
       refine (bm w17 b B _ v9 (bj y.2) d yH.out.bx.rd).mono ?_
       rintro r XG ⟨rfl,Zah,YE⟩
       have K7:=Lib.hid (yH.out.step Zah YE)
       clear Zah YE
       have Pc:Hid (ph (tk (bj y.2))+16≤80000):=by have jN:=DY.out;have h8:=gg (bj y.2);show _≤_;omega
       obtain ⟨⟨x0,x1,x2,x3,x4,x5,x6,x7⟩,z0,z1,z2,z3,z4,z5,z6,z7⟩:=af K7.out.bx.box
       obtain ⟨FQ,KM⟩:∃n1:Nd,n1={ jc with fl:=false }:=⟨_,rfl⟩
       have Gd:=Lib.hid KM
       obtain ⟨w21,YS,YV⟩:=K7.out.set 2 (.bool false) FQ (by rw [KM];rfl) (by rw [KM]) (by rw [KM]) (by rw [KM])
       have yZ:=Lib.hid YV
       clear YV KM
       go_wp2_with fail
       clear x0 x1 x2 x3 x4 x5 x6 x7 z0 z1 z2 z3 z4 z5 z6 z7
       have X9:Hid (FQ={ FQ with ws:=[] }):=by show _=_;rw [Gd.out,xL.out,Ga.out,sY.out,oz.out]
       obtain ⟨n1,uz⟩:∃n1:Nd,n1=FQ:=⟨_,rfl⟩
       have qB:=Lib.hid uz
       have LZ:=Lib.hid yZ.out.bx.rd.ok.few
       have EY:Hid (ph (tk (bj y.2))≤80000):=by have:=Pc.out;show _≤_;omega
       clear uz
       go_loopw [] (fun wr=>∃(s':S) (ws:List Nm) (v' uw:Value) (m:Nd),aB lv nD ws s'=aB lv nD [] (tk (bj y.2))∧m={ n1 with ws:=ws }∧fR W v wr b B P v' s' d N m uw (.slice none 0 0) (.slice none 0 0) (N+1)∧ph s'≤80000∧ws.length+s'.2.length≤10000) (fun wr=>kh wr b)
       case atStart=>exact ⟨_,[],_,_,FQ,rfl,by rw [qB.out];exact X9.out,yZ.out,EY.out,by have:=LZ.out;simpa using this⟩
       case round=>
        obtain ⟨s',ws,v',uw,m,hrun,tW,hm,zh,hfw⟩:=hrel
        have je:=Lib.hid hrun
        have wU:=Lib.hid tW
        have lU:=Lib.hid hm
        have ZcH:=Lib.hid zh
        have Zk:=Lib.hid hfw
        have qJ:Hid (ph s'+0≤80000):=zh
        clear hrun tW hm zh hfw
        obtain ⟨t31,Zas⟩:∃t,nx s'=t:=⟨_,rfl⟩
        have Uo:=Lib.hid Zas
        clear Zas
        have ZcM:=gj t31
        go_wp2_with fail
        refine (a8 wr b B _ v' s' d lU.out.bx.rd).mono ?_
        rintro r ql ⟨rfl,D7⟩
        rw [show nx s'=t31 from Uo.out]
        have oh:=Lib.hid (lU.out.below D7)
        clear D7
        by_cases hk:t31.k=1
        ·
         have e1:((t31.k:Int)==1)=true:=by simp;omega
         have e3:decide ((t31.k:Int)=1)=true:=by simp;omega
         have HC:Hid (lv s'=true):=by show decide ((nx s').k=1)=true;rw [Uo.out];exact decide_eq_true hk
         clear hk
         have eO:Hid (aB lv nD [] (tk (bj y.2))=bd (bd (cC s') fun w s=>.ok (ws++[w],s)) (aB lv nD)):=by show _=_;rw [←je.out,bF mD yz,if_pos HC.out]
         have oq:Hid (Z=bd (bd (bd (cC s') fun w s=>.ok (ws++[w],s)) (aB lv nD)) fun ws s=>if aV 2 [[59]] s=false∧(nx s).k≠3 then er 20 s else bd (cv nest (bj (tk s))) fun b s=>.ok ({ k:=8,t:=y.1,ws:=ws,ks:=[b],ln:=ln },s)):=by show _=_;rw [Gu.out,eO.out]
         go_upto_region 17 with fail
         obtain ⟨za,hX⟩:∃X,cC s'=X:=⟨_,rfl⟩
         have N0:=Lib.hid hX
         have dO:Hid (m.ws.length≤100000):=by show _≤_;rw [wU.out];show ws.length≤_;have:=Zk.out;omega
         have et:Hid (∀x,Rd x b B (gG P N uw (.slice none 0 0) (.slice none 0 0)) v' s' d→ql.heap.size≤x.heap.size→Calls Tryz.prog 134 #[.pointer (some ⟨b,0,none⟩)] x (Post eS x b B (gG P N uw (.slice none 0 0) (.slice none 0 0)) v' d za)):=fun x hr hs=>by
          rw [←hX]
          exact iA x b B _ v' s' d hr
         have sP:=hX
         clear hX
         have HM:=oh
         obtain ⟨i0,iy,hz0,hz1,hz2⟩:=info_parts pS
         have yL:Hid (∀g,Value.ownBlock (uw)=some g→g < ql.heap.size):=fun g hg=>(HM.out.rows.w.lt g hg).2
         refine Rp.cq (fun ch x=>∃e,za=.error e∧mI e.1 e.2=Ending.panicked ch∧Below B ql x) 6 [] [Rg.Is (.pointer (some ⟨N,3,none⟩)),Rg.Is (uw),Rg.Is (.pointer (some ⟨b,0,none⟩)),(fun u9 (x:World)=>∃y,za=.ok y∧u9=sv y.1),(fun u9 x=>∃q,u9=.slice (some ⟨q,0,none⟩) 1 1∧ql.heap.size≤q∧(∃y,za=.ok y∧x.heap[q]? =some (.cells #[sv y.1] eZ))∧ql.heap.size < x.heap.size),(fun u9 x=>∃y v9,za=.ok y∧iT W v x b B P v9 y.2 d N (m) ({ m with ws:=m.ws++[y.1] }) uw (.slice none 0 0) (.slice none 0 0) u9 (.slice none 0 0) (.slice none 0 0) (N+1)∧ql.heap.size < x.heap.size)] (fun _ _=>True) (fun ls x=>(ls 3=false→x.heap.size=ql.heap.size∧Below ql.heap.size ql x)∧(ls 3=true→ls 5=false→∃y v9,za=.ok y∧fR W v x b B P v9 y.2 d N (m) uw (.slice none 0 0) (.slice none 0 0) (N+1)∧ql.heap.size≤x.heap.size)) (fun k x y=>if k=3 then x.heap.size=ql.heap.size else if k=5 then x.grownBy y (Value.ownBlock (uw)) else (Below x.heap.size x y∧(k=4∨y.heap.size=x.heap.size))) (by kernel_rfl) (by kernel_rfl) (of_decide_eq_true (by kernel_rfl)) (by kernel_rfl) (by kernel_rfl) trivial ⟨fun _=>⟨rfl,rfl,rfl,rfl,Nat.le_refl _,fun _ _=>rfl⟩,fun h=>by cases h⟩ (fun ls mC x e h1=>⟨fun h2=>h1.1 (by rw [e];exact h2),fun h2 h3=>h1.2 (by rw [e];exact h2) (by rw [e];exact h3)⟩) (fun _ _ _ _ _=>trivial) (fun i ls x _ h1=>by rw [show ([]:List Bool).getD i true=true from rfl] at h1;cases h1) ?_ ⟨rfl,rfl,rfl,rfl,rfl,rfl,trivial⟩ ⟨?_,?_,?_,?_,?_,?_,trivial⟩ ?_ ?_
         ·
          intro i k u8 x y9 hik _ h1 hK
          match i,h1,hik with
          | 0,h1,_=>exact h1
          | 1,h1,_=>exact h1
          | 2,h1,_=>exact h1
          | 3,h1,_=>exact h1
          | 4,h1,hik=>
            obtain ⟨q,hq,nj,⟨y,aI,iK⟩,hlt⟩:=h1
            have rB:=(Array.getElem?_eq_some_iff.1 iK).1
            by_cases k3:k=3
            · rw [if_pos k3] at hK;omega
            ·
             rw [if_neg k3] at hK
             by_cases k5:k=5
             ·
              rw [if_pos k5] at hK
              exact ⟨q,hq,nj,⟨y,aI,(hK.block q rB (fun e=>by have:=yL.out q e.symm;omega)).trans iK⟩,Nat.lt_of_lt_of_le hlt hK.size⟩
             ·
              rw [if_neg k5] at hK
              exact ⟨q,hq,nj,⟨y,aI,(hK.1.block q rB).trans iK⟩,Nat.lt_of_lt_of_le hlt hK.1.size⟩
          | 5,h1,hik=>
            obtain ⟨y,v9,aI,hA,hlt⟩:=h1
            by_cases k3:k=3
            · rw [if_pos k3] at hK;omega
            ·
             rw [if_neg k3,if_neg (fun e=>hik e.symm)] at hK
             exact ⟨y,v9,aI,hA.below hK.1,Nat.lt_of_lt_of_le hlt hK.1.size⟩
          | _+6,_,_=>trivial
         ·
          intro _ b9 x ls hR hS ai bI bf hk
          have h3:b9.eval (.tmp 3)=.pointer (some ⟨N,0,none⟩):=Eq.mp (by kernel_rfl) (hk 3 (by decide))
          refine Rp.ag ?_
          exact Rs.aR _ _ h3 (by have:=j6 N 0 3 (by decide) x;rw [Nat.zero_add] at this;exact this) ⟨by rw [if_neg (by decide),if_neg (by decide)];exact ⟨Below.refl _ _,.inr rfl⟩,rfl,⟨fun hh=>hS.1 hh,fun h2 h3=>hS.2 h2 h3⟩⟩
         ·
          intro _ b9 x ls hR hS ai bI bf hk
          have T9:b9.eval (.tmp 43)=.pointer (some ⟨N,3,none⟩):=Eq.mp (by kernel_rfl) (hk 43 (by decide))
          have l5:ls 5=false:=bf [] 5 _ rfl (by kernel_rfl)
          have hc:x.cell? ⟨N,3,none⟩=some (uw):=by
           cases l3:ls 3 with
           | false=>have hm:=HM.out.below (hS.1 l3).2;simp [World.cell?,hm.bx.box]
           | true=>obtain ⟨y,v9,aI,hm,hsz⟩:=hS.2 l3 l5;simp [World.cell?,hm.bx.box]
          refine Rp.ag ?_
          exact Rg.aK _ _ T9 (Ap.aW (by simp [isAgg]) hc) ⟨by rw [if_neg (by decide),if_neg (by decide)];exact ⟨Below.refl _ _,.inr rfl⟩,rfl,⟨fun hh=>hS.1 hh,fun h2 h3=>hS.2 h2 h3⟩⟩
         ·
          intro _ b9 x ls hR hS ai bI bf hk
          have h0:b9.eval (.tmp 0)=.pointer (some ⟨b,0,none⟩):=Eq.mp (by kernel_rfl) (hk 0 (by decide))
          refine Rp.ag ?_
          exact Rg.az ⟨by rw [if_neg (by decide),if_neg (by decide)];exact ⟨Below.refl _ _,.inr rfl⟩,h0,⟨fun hh=>hS.1 hh,fun h2 h3=>hS.2 h2 h3⟩⟩
         ·
          intro _ b9 x ls hR hS ai bI bf hk
          have Wu:b9.eval (.tmp 45)=.pointer (some ⟨b,0,none⟩):=Eq.mp (by kernel_rfl) (hk 45 (by decide))
          obtain ⟨hsz,hb⟩:=hS.1 ai
          have hm:=HM.out.below hb
          refine Rp.bW #[.pointer (some ⟨b,0,none⟩)] Tryz.func134 (by kernel_rfl) (by kernel_rfl) (by simp [Wu,show ∀v,b9.eval (.const v)=v from fun _=>rfl]) (et.out x hm.bx.rd hb.size) ?_
          intro e w' hp
          rcases av hp with ⟨er,cy,rfl,df⟩ | ⟨y,u9,v9,aI,rfl,he,ht,hr⟩
          · exact .inr ⟨_,rfl,er,cy,rfl,(hb.mono HM.out.bx.rd.size).trans df⟩
          · exact .inl ⟨u9,rfl,by rw [if_pos rfl];exact hsz,⟨y,aI,he⟩,⟨fun hh=>by simp [Rs.upd] at hh,fun _ _=>⟨y,v9,aI,hm.step ht hr,by have:=ht.size;omega⟩⟩⟩
         ·
          intro _ b9 x ls hR hS ai bI bf hk
          have Qb:(fun u9 (x:World)=>∃y,za=.ok y∧u9=sv y.1) (b9.eval (.tmp 46)) x:=Eq.mp (by kernel_rfl) (hk 46 (by decide))
          have l3:ls 3=true:=bI [] 3 (by kernel_rfl)
          have l5:ls 5=false:=bf [] 5 _ rfl (by kernel_rfl)
          obtain ⟨y,v9,aI,hm,hsz⟩:=hS.2 l3 l5
          obtain ⟨y2,gi,he⟩:=Qb
          have lC:y2=y:=Except.ok.inj (gi.symm.trans aI)
          subst lC
          have cU:=(Below.refl x.heap.size x).alloc (Nat.le_refl _) (.cells #[sv y2.1] eZ)
          refine Rp.ag ?_
          exact Rg.di #[(0,sv y2.1)] _ (by simp [he]) (by go_simp;rfl) ⟨by rw [if_neg (by decide),if_neg (by decide)];exact ⟨cU,.inl rfl⟩,⟨x.heap.size,rfl,hsz,⟨y2,aI,heap_alloc_new x _⟩,by rw [World.size_alloc];omega⟩,⟨fun hh=>absurd (l3.symm.trans hh) (by decide),fun _ _=>⟨y2,v9,aI,hm.below cU,by rw [World.size_alloc];omega⟩⟩⟩
         ·
          intro _ b9 x ls hR hS ai bI bf hk
          have UH:b9.eval (.tmp 44)=uw:=Eq.mp (by kernel_rfl) (hk 44 (by decide))
          have Qm:(fun u9 x=>∃q,u9=.slice (some ⟨q,0,none⟩) 1 1∧ql.heap.size≤q∧(∃y,za=.ok y∧x.heap[q]? =some (.cells #[sv y.1] eZ))∧ql.heap.size < x.heap.size) (b9.eval (.tmp 47)) x:=Eq.mp (by kernel_rfl) (hk 47 (by decide))
          have l3:ls 3=true:=bI [] 3 (by kernel_rfl)
          obtain ⟨y,v9,aI,hm,hsz⟩:=hS.2 l3 ai
          obtain ⟨q,hq,nj,⟨y2,gi,iK⟩,hlt⟩:=Qm
          have lC:y2=y:=Except.ok.inj (gi.symm.trans aI)
          subst lC
          obtain ⟨u9,w',hrun,hown',hgr,hat⟩:=Ap.bR (P:=Tryz.prog) x 0 33 33 33 eZ i0 _ 1 16 Tryz.underlying33 (bw Tryz.underlying33) iy hz0 hz1 hz2 rfl (by decide) (by decide) (uw) _ _ hm.rows.w (b9.eval (.tmp 47)) 1 ([sv y2.1]) (by rw [hq];exact cP (b:=q) (off:=0) rfl (by intro u hu;obtain rfl:=List.mem_singleton.1 hu;rfl) (.inr rfl) (fun i z hi=>by rw [Nat.zero_add];unfold World.cell?;simp only [iK];simpa using hi)) (by unfold maxLen;have:=dO.out;omega) (by have:=dO.out;omega) (Nat.zero_le _)
          refine Rp.ag ?_
          exact Ap.cR (uw) _ u9 w' UH rfl hrun ⟨by rw [if_neg (by decide),if_pos rfl];exact hgr,⟨y2,v9,aI,hm.app_w y2.1 hgr hown' hat,Nat.lt_of_lt_of_le hlt hgr.size⟩,⟨fun hh=>absurd (l3.symm.trans hh) (by decide),fun _ hh=>by simp [Rs.upd] at hh⟩⟩
         ·
          intro ch a' w' yN hD
          obtain ⟨er,cy,A8,qU⟩:=hD
          refine ⟨yN,?_⟩
          rw [←A8]
          have hz:Z=.error er:=by rw [oq.out,sP,cy];rfl
          exact aN hz ((HM.out.belowB HV.out).trans qU)
         intro vals wD ls _ uj _ hL
         obtain ⟨g0,g1,g2,g3,g4,g5,_⟩:=hL
         obtain ⟨q,v33,aI,hA,_⟩:=(g5:(fun u9 x=>∃y v9,za=.ok y∧iT W v x b B P v9 y.2 d N (m) ({ m with ws:=m.ws++[y.1] }) uw (.slice none 0 0) (.slice none 0 0) u9 (.slice none 0 0) (.slice none 0 0) (N+1)∧ql.heap.size < x.heap.size) (vals 5) wD)
         clear g0 g1 g2 g3 g4 uj
         obtain ⟨Lq,bO⟩:∃n2:Nd,{ m with ws:=m.ws++[q.1] }=n2:=⟨_,rfl⟩
         rw [bO] at hA
         have dA:=Lib.hid bO
         simp only [Rg.bh,List.take_succ_cons,List.take_zero,List.drop_succ_cons,List.drop_zero,List.setIfInBounds_toArray,List.set_cons_succ,List.set_cons_zero]
         generalize vals 0=g0 at *
         generalize vals 1=g1 at *
         generalize vals 2=g2 at *
         generalize vals 3=g3 at *
         generalize vals 4=g4 at *
         generalize vals 5=u9 at *
         obtain ⟨a33,c33,wq,_⟩:=aA hA.rows.w
         subst wq
         obtain ⟨yG,ZaC,fj⟩:=hA.set 3 (.slice a33 Lq.ws.length c33) (by rw [←dA.out];rfl)
         obtain ⟨⟨x0,x1,x2,x3,x4,x5,x6,x7⟩,z0,z1,z2,z3,z4,z5,z6,z7⟩:=af hA.bx.box
         have mj:=Lib.hid fj
         have ox:=Lib.hid aI
         clear hA fj aI i0 iy hz0 hz1 hz2 bO
         have qL:cC s'=.ok q:=by rw [sP];exact ox.out
         have FM:Hid (Z=bd (aB lv nD (ws++[q.1]) q.2) fun ws s=>if aV 2 [[59]] s=false∧(nx s).k≠3 then er 20 s else bd (cv nest (bj (tk s))) fun b s=>.ok ({ k:=8,t:=y.1,ws:=ws,ks:=[b],ln:=ln },s)):=by show _=_;rw [oq.out,qL];rfl
         have WZ:=Lib.hid dA.out
         clear dA dO et HM sP
         have qE:Hid (ph q.2+8≤80000):=by have jN:=qJ.out;have h8:=eH q qL;show _≤_;omega
         have Nl:=ox
         clear qL ox
         have Lu:cC s'=.ok q:=by rw [show cC s'=za from N0.out];exact Nl.out
         have iH:Hid (aB lv nD (ws++[q.1]) q.2=aB lv nD [] (tk (bj y.2))):=by show _=_;rw [eO.out,Lu];rfl
         have ru:Hid (q.2.2.length < s'.2.length):=l7 Lu
         have ED:Hid (Lq={ n1 with ws:=ws++[q.1] }):=by show _=_;rw [←WZ.out,wU.out]
         clear Lu
         go_wp2_with fail
         go_roundw
         case rel=>exact ⟨q.2,ws++[q.1],_,_,Lq,iH.out,ED.out,mj.out,by have:=qE.out;omega,by have:=Zk.out;have:=ru.out;simp only [List.length_append,List.length_singleton];omega⟩
         case measure=>rw [cB mj.out.bx.rd,cB lU.out.bx.rd];exact ru.out
        ·
         have e1:((t31.k:Int)==1)=false:=by simp;omega
         have e3:decide ((t31.k:Int)=1)=false:=by simp;omega
         have HC:Hid (lv s'=false):=by show decide ((nx s').k=1)=false;rw [Uo.out];exact decide_eq_false hk
         clear hk
         have oq:Hid (Z=if aV 2 [[59]] s'=false∧(nx s').k≠3 then er 20 s' else bd (cv nest (bj (tk s'))) fun b s=>.ok ({ k:=8,t:=y.1,ws:=ws,ks:=[b],ln:=ln },s)):=by show _=_;rw [Gu.out,←je.out,bF mD yz,if_neg (by rw [show lv s'=false from HC.out];decide)];rfl
         obtain ⟨⟨aw,cw,Dq⟩,_⟩:=oh.out.lens
         subst Dq
         go_wp2_with fail
         refine (jX ql b B _ v' s' d oh.out.bx.rd 2 [[59]] (by decide)).mono ?_
         rintro r yG ⟨rfl,Zaa⟩
         have mj:=Lib.hid (oh.out.below ((Below.refl _ _).trans Zaa))
         clear Zaa
         obtain ⟨z33,V1⟩:∃z,aV 2 [[59]] s'=z:=⟨_,rfl⟩
         have Ty:=Lib.hid V1
         rw [V1]
         clear V1
         cases z33 with
         | true=>
           have Zad:Hid (Z=bd (cv nest (bj (tk s'))) fun b s=>.ok ({ k:=8,t:=y.1,ws:=ws,ks:=[b],ln:=ln },s)):=by show _=_;rw [oq.out,if_neg (fun h=>absurd (Ty.out.symm.trans h.1) (by decide))]
           go_wp2_with fail
           refine (bm yG b B _ v' s' d mj.out.bx.rd).mono ?_
           rintro r Tx ⟨rfl,Zi,Zaf⟩
           have tS:=Lib.hid (mj.out.step Zi Zaf)
           clear Zi Zaf
           have C6:Hid (ph (tk s')+0≤80000):=by have jN:=qJ.out;have h8:=gg s';show _≤_;omega
           go_wp2_with fail
           refine (cJ Tx b B _ v' (tk s') d tS.out.bx.rd).mono ?_
           rintro r w37 ⟨rfl,Zb,Yh⟩
           have tq:=Lib.hid (tS.out.step Zb Yh)
           clear Zb Yh
           have Pe:Hid (ph (bj (tk s'))+0≤80000):=by have jN:=C6.out;have h8:=dG (tk s');show _≤_;omega
           go_wp2_with fail
           refine (S9.out w37 b B _ v' (bj (tk s')) tq.out.bx.rd (tq.out.free HP.out) (by have:=Pe.out;omega)).mono ?_
           rintro r w39 hp
           rcases av hp with ⟨er,cy,rfl,df⟩ | ⟨x,u9,v39,aI,rfl,he,ht,hr⟩
           ·
            have hz:Z=.error er:=by rw [Zad.out,cy];rfl
            exact ⟨rfl,aN hz ((tq.out.belowB HV.out).trans df)⟩
           have bX:u9=.int .i64 (x.1:Int):=he
           subst bX
           have Zax:=Lib.hid (tq.out.step ht hr)
           have ZcA:=Lib.hid aI
           have Zau:Hid (Z=.ok ({ k:=8,t:=y.1,ws:=ws,ks:=[x.1],ln:=ln },x.2)):=by show _=_;rw [Zad.out,aI];rfl
           have Zcs:Hid (ph x.2+8≤80000):=by have jN:=Pe.out;have h8:=gC HE.out.cost (bj (tk s')) x aI;show _≤_;omega
           clear hp he ht hr aI
           obtain ⟨Zba,w41,TW,Zcy,my,fj⟩:=Zax.out.new_k x.1
           have ZaT:w39.alloc (.cells #[.int .i64 (x.1:Int)] dU)=Zba:=TW
           obtain ⟨Ol,bO⟩:∃n2:Nd,{ m with ks:=[x.1] }=n2:=⟨_,rfl⟩
           rw [bO] at fj
           have dA:=Lib.hid bO
           have U5:=Lib.hid fj
           obtain ⟨⟨x0,x1,x2,x3,x4,x5,x6,x7⟩,z0,z1,z2,z3,z4,z5,z6,z7⟩:=af my
           clear TW fj bO my
           have Zbk:=Lib.hid dA.out
           clear dA
           go_upto_region 23 with fail
           clear x0 x1 x2 x3 x4 x5 x6 x7 z0 z1 z2 z3 z4 z5 z6 z7
           obtain ⟨⟨x0,x1,x2,x3,x4,x5,x6,x7⟩,z0,z1,z2,z3,z4,z5,z6,z7⟩:=af U5.out.bx.box
           have kF:Hid (Z=.ok (Ol,x.2)):=by show _=_;(rw [Zau.out,←Zbk.out,wU.out,qB.out,Gd.out,xL.out,Ga.out,sY.out,oz.out];try rfl)
           obtain ⟨wF,LD,fG,fJ,fO,fL⟩:=U5.out.fin
           have dH:Hid (Rows wF (fun g=>W.heap.size≤g) Ol _ _ _∧aj b v W _ wF∧Rd wF b B P _ x.2 d):=⟨fJ,fO,fL⟩
           obtain ⟨⟨y0,y1,y2,y3,y4,y5,y6,y7⟩,_⟩:=af fG
           obtain ⟨⟨r0,r1,r2,r3,r4,r5,r6,r7⟩,q0,q1,q2,q3,q4,q5,q6,q7⟩:=af U5.out.res
           clear fG fJ fO fL
           go_wp2_with fail
           refine bodyPost_ret (v:=.agg (jO Ol (.slice aw m.ws.length cw) (.slice none 0 0) (.slice (some ⟨w39.heap.size,0,none⟩) 1 1))) (by simp [results,Tryz.results128,go_sem,y0,y1,y2,y3,y4,y5,y6,y7,jO]) rfl ?_
           rw [show Z=.ok (Ol,x.2) from kF.out]
           exact ⟨_,_,_,_,rfl,dH.out.1,dH.out.2.1,dH.out.2.2⟩
         | false=>
           obtain ⟨t34,Zj⟩:∃t,nx s'=t:=⟨_,rfl⟩
           have Uk:=Lib.hid Zj
           clear Zj
           have Zcu:=gj t34
           go_wp2_with fail
           refine (a8 yG b B _ v' s' d mj.out.bx.rd).mono ?_
           rintro r w34 ⟨rfl,Y0⟩
           rw [show nx s'=t34 from Uk.out]
           have Ma:=Lib.hid (mj.out.below Y0)
           clear Y0
           by_cases hk:t34.k=3
           ·
            have e1:((t34.k:Int)==3)=true:=by simp;omega
            have e2:((t34.k:Int) != 3)=false:=by simp;omega
            have e3:decide ((t34.k:Int)=3)=true:=by simp;omega
            have HK:Hid ((nx s').k=3):=by show _=_;rw [Uk.out];exact hk
            clear hk
            have Mn:Hid (Z=bd (cv nest (bj (tk s'))) fun b s=>.ok ({ k:=8,t:=y.1,ws:=ws,ks:=[b],ln:=ln },s)):=by show _=_;rw [oq.out,if_neg (fun h=>h.2 HK.out)]
            go_wp2_with fail
            refine (bm w34 b B _ v' s' d Ma.out.bx.rd).mono ?_
            rintro r w36 ⟨rfl,NF,LX⟩
            have Mk:=Lib.hid (Ma.out.step NF LX)
            clear NF LX
            have Oh:Hid (ph (tk s')+0≤80000):=by have jN:=qJ.out;have h8:=gg s';show _≤_;omega
            go_wp2_with fail
            refine (cJ w36 b B _ v' (tk s') d Mk.out.bx.rd).mono ?_
            rintro r w38 ⟨rfl,L0,NJ⟩
            have GD:=Lib.hid (Mk.out.step L0 NJ)
            clear L0 NJ
            have LR:Hid (ph (bj (tk s'))+0≤80000):=by have jN:=Oh.out;have h8:=dG (tk s');show _≤_;omega
            go_wp2_with fail
            refine (S9.out w38 b B _ v' (bj (tk s')) GD.out.bx.rd (GD.out.free HP.out) (by have:=LR.out;omega)).mono ?_
            rintro r w40 hp
            rcases av hp with ⟨er,cy,rfl,df⟩ | ⟨x,u9,v40,aI,rfl,he,ht,hr⟩
            ·
             have hz:Z=.error er:=by rw [Mn.out,cy];rfl
             exact ⟨rfl,aN hz ((GD.out.belowB HV.out).trans df)⟩
            have bX:u9=.int .i64 (x.1:Int):=he
            subst bX
            have ZbO:=Lib.hid (GD.out.step ht hr)
            have Zcw:=Lib.hid aI
            have ZbB:Hid (Z=.ok ({ k:=8,t:=y.1,ws:=ws,ks:=[x.1],ln:=ln },x.2)):=by show _=_;rw [Mn.out,aI];rfl
            have Zck:Hid (ph x.2+8≤80000):=by have jN:=LR.out;have h8:=gC HE.out.cost (bj (tk s')) x aI;show _≤_;omega
            clear hp he ht hr aI
            obtain ⟨Zbi,w42,T3,ZcG,my,fj⟩:=ZbO.out.new_k x.1
            have ZbH:w40.alloc (.cells #[.int .i64 (x.1:Int)] dU)=Zbi:=T3
            obtain ⟨n42,bO⟩:∃n2:Nd,{ m with ks:=[x.1] }=n2:=⟨_,rfl⟩
            rw [bO] at fj
            have dA:=Lib.hid bO
            have Uv:=Lib.hid fj
            obtain ⟨⟨x0,x1,x2,x3,x4,x5,x6,x7⟩,z0,z1,z2,z3,z4,z5,z6,z7⟩:=af my
            clear T3 fj bO my
            have ZaA:=Lib.hid dA.out
            clear dA
            go_upto_region 23 with fail
            clear x0 x1 x2 x3 x4 x5 x6 x7 z0 z1 z2 z3 z4 z5 z6 z7
            obtain ⟨⟨x0,x1,x2,x3,x4,x5,x6,x7⟩,z0,z1,z2,z3,z4,z5,z6,z7⟩:=af Uv.out.bx.box
            have kF:Hid (Z=.ok (n42,x.2)):=by show _=_;(rw [ZbB.out,←ZaA.out,wU.out,qB.out,Gd.out,xL.out,Ga.out,sY.out,oz.out];try rfl)
            obtain ⟨wF,LD,fG,fJ,fO,fL⟩:=Uv.out.fin
            have dH:Hid (Rows wF (fun g=>W.heap.size≤g) n42 _ _ _∧aj b v W _ wF∧Rd wF b B P _ x.2 d):=⟨fJ,fO,fL⟩
            obtain ⟨⟨y0,y1,y2,y3,y4,y5,y6,y7⟩,_⟩:=af fG
            obtain ⟨⟨r0,r1,r2,r3,r4,r5,r6,r7⟩,q0,q1,q2,q3,q4,q5,q6,q7⟩:=af Uv.out.res
            clear fG fJ fO fL
            go_wp2_with fail
            refine bodyPost_ret (v:=.agg (jO n42 (.slice aw m.ws.length cw) (.slice none 0 0) (.slice (some ⟨w40.heap.size,0,none⟩) 1 1))) (by simp [results,Tryz.results128,go_sem,y0,y1,y2,y3,y4,y5,y6,y7,jO]) rfl ?_
            rw [show Z=.ok (n42,x.2) from kF.out]
            exact ⟨_,_,_,_,rfl,dH.out.1,dH.out.2.1,dH.out.2.2⟩
           ·
            have e1:((t34.k:Int)==3)=false:=by simp;omega
            have e2:((t34.k:Int) != 3)=true:=by simp;omega
            have e3:decide ((t34.k:Int)=3)=false:=by simp;omega
            have HK:Hid ((nx s').k≠3):=by show _≠_;rw [Uk.out];exact hk
            clear hk
            go_wp2_with fail
            have ZbC:Hid (Z=er 20 s'):=by show _=_;rw [oq.out,if_pos ⟨Ty.out,HK.out⟩]
            refine (bq w34 b B _ v' s' d Ma.out.bx.rd 20).mono ?_
            rintro r Tx ⟨rfl,Q8⟩
            exact ⟨rfl,aN ZbC.out ((Ma.out.belowB HV.out).trans (Q8.mono Ma.out.bx.rd.size))⟩
end Go.Proofs.YtiklkhbfilbpeaaGreatDoor.Sx
