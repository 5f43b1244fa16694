import Derived.Test.YtiklkhbfilbpeaaGreatDoorTbGSyF
import Derived.Test.YtiklkhbfilbpeaaGreatDoorTbGSyD
import Derived.Test.YtiklkhbfilbpeaaGreatDoorTbGSyE
import Derived.Test.YtiklkhbfilbpeaaGreatDoorTbGSyB
set_option maxRecDepth 100000
set_option maxHeartbeats 16000000
set_option linter.unusedVariables false
set_option linter.unusedSimpArgs false
namespace Go.Proofs.YtiklkhbfilbpeaaGreatDoor.Sx
open Go.RowKit Base Lx Sy
theorem lj {nest:S→Sy.P Nat} {d:Nat} (E:Env nest d) (W:World) (b B:Nat) (P:Nat→Prop) (v:Value) (s:S) (h:Rd W b B P v s d) (hP:∀g,W.heap.size≤g→P g) (hF:ph s≤80000) (ln:Nat):
 Calls Tryz.prog 137 #[.pointer (some ⟨b,0,none⟩),.agg #[.int .i64 0,.string ⟨#[]⟩,.bool false,.slice none 0 0,.int .i64 0,.slice none 0 0,.slice none 0 0,.int .i64 (ln:Int)]] W (nW W b B P v d (fU nest ln s)):=by
 have HR:=Lib.hid h
 have HE:Hid (Env nest d):=E
 have HP:Hid (∀g,W.heap.size≤g→P g):=hP
 have rH:Hid (ph s+0≤80000):=hF
 have HV:Hid (∀g,v.ownBlock=some g→B≤g):=fun g hg=>(h.own g hg).1
 obtain ⟨n0,eP⟩:∃n0:Nd,n0={ k:=0,ln:=ln }:=⟨_,rfl⟩
 have oz:=Lib.hid eP
 obtain ⟨w1,w2,gZ,hw2,hz1,pP,hb2⟩:=fR.start h n0 (by rw [eP]) (by rw [eP]) (by rw [eP])
 obtain ⟨N,hN⟩:∃N,W.heap.size=N:=⟨_,rfl⟩
 have mU:W.alloc (.cells #[.int .i64 0,.string ⟨#[]⟩,.bool false,.slice none 0 0,.int .i64 0,.slice none 0 0,.slice none 0 0,.int .i64 (ln:Int)] gv)=w1:=by rw [eP] at gZ;exact gZ
 rw [hN] at pP hz1
 have qa:=Lib.hid mU
 have CY:=Lib.hid hw2
 have XC:=Lib.hid hz1
 have vy:=Lib.hid hN
 have xu:=Lib.hid pP
 obtain ⟨Z,hZ⟩:∃Z,fU nest ln s=Z:=⟨_,rfl⟩
 have E4:=Lib.hid hZ
 rw [hZ]
 clear h hP hF E eP gZ mU hw2 hz1 hN pP hb2 hZ
 go_enter Tryz.func137,Tryz.ntmps137
 go_upto_region 1 with fail
 rw [qa.out,CY.out,vy.out]
 have nb:Hid (Z=bd (cC s) fun t s=>bd (aP 2 [[40]] s) fun _ s=>bd (aP 2 [[41]] s) fun _ s=>let s:=bj s;if aL s=false then er 20 s else bd (nest s) fun k s=>.ok ({ k:=13,t:=t,ks:=[k],ln:=ln },s)):=E4.out.symm
 obtain ⟨⟨x0,x1,x2,x3,x4,x5,x6,x7⟩,z0,z1,z2,z3,z4,z5,z6,z7⟩:=af xu.out.bx.box
 obtain ⟨n4,Lc⟩:∃n1:Nd,n1={ n0 with k:=13 }:=⟨_,rfl⟩
 have WM:=Lib.hid Lc
 obtain ⟨w4,hw4,YT⟩:=xu.out.set 0 (.int .i64 13) n4 (by rw [Lc];rfl) (by rw [Lc]) (by rw [Lc]) (by rw [Lc])
 have qA:=Lib.hid YT
 clear YT Lc
 go_wp2_with fail
 refine (iA w4 b B _ v s d qA.out.bx.rd).mono ?_
 rintro r w5 hp
 rcases av hp with ⟨er,cy,rfl,df⟩ | ⟨y,u9,v5,aI,rfl,he,ht,hr⟩
 ·
  have hz:Z=.error er:=by rw [nb.out,cy];rfl
  exact ⟨rfl,aN hz ((qA.out.belowB HV.out).trans df)⟩
 have bX:u9=.string (str y.1):=he
 subst bX
 have ve:=Lib.hid (qA.out.step ht hr)
 have XW:=Lib.hid aI
 have HZ5:Hid (Z=bd (aP 2 [[40]] y.2) fun _ s=>bd (aP 2 [[41]] s) fun _ s=>let s:=bj s;if aL s=false then er 20 s else bd (nest s) fun k s=>.ok ({ k:=13,t:=y.1,ks:=[k],ln:=ln },s)):=by show _=_;rw [nb.out,aI];rfl
 have Ri:Hid (ph y.2+8≤80000):=by have jN:=rH.out;have h8:=eH y aI;show _≤_;omega
 clear hp he ht hr aI
 clear x0 x1 x2 x3 x4 x5 x6 x7 z0 z1 z2 z3 z4 z5 z6 z7
 obtain ⟨⟨x0,x1,x2,x3,x4,x5,x6,x7⟩,z0,z1,z2,z3,z4,z5,z6,z7⟩:=af ve.out.bx.box
 obtain ⟨n7,J9⟩:∃n1:Nd,n1={ n4 with t:=y.1 }:=⟨_,rfl⟩
 have HN7:=Lib.hid J9
 obtain ⟨w7,Ro,TC⟩:=ve.out.set 1 (.string (str y.1)) n7 (by rw [J9];rfl) (by rw [J9]) (by rw [J9]) (by rw [J9])
 have nQ:=Lib.hid TC
 clear TC J9
 go_wp2_with fail
 refine (fc w7 b B _ v5 y.2 d nQ.out.bx.rd 2 [[40]] (by decide)).mono ?_
 rintro r w8 hp
 rcases av hp with ⟨er,cy,rfl,df⟩ | ⟨e,u9,v8,aI,rfl,he,ht,hr⟩
 ·
  have hz:Z=.error er:=by rw [HZ5.out,cy];rfl
  exact ⟨rfl,aN hz ((nQ.out.belowB HV.out).trans df)⟩
 have bX:u9=.tuple #[]:=he
 subst bX
 have Pu:=Lib.hid (nQ.out.step ht hr)
 have D1:=Lib.hid aI
 have S5:Hid (Z=bd (aP 2 [[41]] e.2) fun _ s=>let s:=bj s;if aL s=false then er 20 s else bd (nest s) fun k s=>.ok ({ k:=13,t:=y.1,ks:=[k],ln:=ln },s)):=by show _=_;rw [HZ5.out,aI];rfl
 have K4:Hid (ph e.2+16≤80000):=by have jN:=Ri.out;have h8:=bD (by decide) e aI;show _≤_;omega
 clear hp he ht hr aI
 clear x0 x1 x2 x3 x4 x5 x6 x7 z0 z1 z2 z3 z4 z5 z6 z7
 go_wp2_with fail
 refine (fc w8 b B _ v8 e.2 d Pu.out.bx.rd 2 [[41]] (by decide)).mono ?_
 rintro r lq hp
 rcases av hp with ⟨er,cy,rfl,df⟩ | ⟨f,u9,v10,aI,rfl,he,ht,hr⟩
 ·
  have hz:Z=.error er:=by rw [S5.out,cy];rfl
  exact ⟨rfl,aN hz ((Pu.out.belowB HV.out).trans df)⟩
 have bX:u9=.tuple #[]:=he
 subst bX
 have jY:=Lib.hid (Pu.out.step ht hr)
 have PY:=Lib.hid aI
 have B3:Hid (Z=if aL (bj f.2)=false then er 20 (bj f.2) else bd (nest (bj f.2)) fun k s=>.ok ({ k:=13,t:=y.1,ks:=[k],ln:=ln },s)):=by show _=_;rw [S5.out,aI];rfl
 have uN:Hid (ph f.2+24≤80000):=by have jN:=K4.out;have h8:=bD (by decide) f aI;show _≤_;omega
 clear hp he ht hr aI
 go_wp2_with fail
 refine (cJ lq b B _ v10 f.2 d jY.out.bx.rd).mono ?_
 rintro r EX ⟨rfl,Dm,D4⟩
 have o7:=Lib.hid (jY.out.step Dm D4)
 clear Dm D4
 have rZ:Hid (ph (bj f.2)+24≤80000):=by have jN:=uN.out;have h8:=dG f.2;show _≤_;omega
 go_wp2_with fail
 refine (jZ EX b B _ v10 (bj f.2) d o7.out.bx.rd).mono ?_
 rintro r tu ⟨rfl,Ek⟩
 have su:=Lib.hid (o7.out.below Ek)
 clear Ek
 obtain ⟨V,hV⟩:∃V,kI (bj f.2)=V:=⟨_,rfl⟩
 rw [hV]
 clear hV
 obtain ⟨zc,R9⟩:∃z,aL (bj f.2)=z:=⟨_,rfl⟩
 have Jq:=Lib.hid R9
 rw [R9]
 clear R9
 cases zc with
 | false=>
   go_wp2_with fail
   have ZbE:Hid (Z=er 20 (bj f.2)):=by show _=_;rw [B3.out,if_pos Jq.out]
   refine (bq tu b B _ v10 (bj f.2) d su.out.bx.rd 20).mono ?_
   rintro r PE ⟨rfl,Zce⟩
   exact ⟨rfl,aN ZbE.out ((su.out.belowB HV.out).trans (Zce.mono su.out.bx.rd.size))⟩
 | true=>
   have CV:Hid (Z=bd (nest (bj f.2)) fun k s=>.ok ({ k:=13,t:=y.1,ks:=[k],ln:=ln },s)):=by show _=_;rw [B3.out,if_neg (by rw [show aL (bj f.2)=true from Jq.out];decide)]
   go_wp2_with fail
   refine (HE.out.ih tu b B _ v10 (bj f.2) su.out.bx.rd (su.out.free HP.out) (by have:=rZ.out;omega) (.inl Jq.out)).mono ?_
   rintro r w16 hp
   rcases av hp with ⟨er,cy,rfl,df⟩ | ⟨x,u9,v16,aI,rfl,he,ht,hr⟩
   ·
    have hz:Z=.error er:=by rw [CV.out,cy];rfl
    exact ⟨rfl,aN hz ((su.out.belowB HV.out).trans df)⟩
   have bX:u9=.int .i64 (x.1:Int):=he
   subst bX
   have F9:=Lib.hid (su.out.step ht hr)
   have ZcQ:=Lib.hid aI
   have ZbV:Hid (Z=.ok ({ k:=13,t:=y.1,ks:=[x.1],ln:=ln },x.2)):=by show _=_;rw [CV.out,aI];rfl
   have Zcp:Hid (ph x.2+0≤80000):=by have jN:=rZ.out;have h8:=HE.out.cost (bj f.2) (.inl Jq.out) x aI;show _≤_;omega
   clear hp he ht hr aI
   obtain ⟨Zav,E5,Tk,ZcE,my,fj⟩:=F9.out.new_k x.1
   have Zaz:w16.alloc (.cells #[.int .i64 (x.1:Int)] dU)=Zav:=Tk
   obtain ⟨n18,bO⟩:∃n2:Nd,{ n7 with ks:=[x.1] }=n2:=⟨_,rfl⟩
   rw [bO] at fj
   have dA:=Lib.hid bO
   have zf:=Lib.hid fj
   obtain ⟨⟨x0,x1,x2,x3,x4,x5,x6,x7⟩,z0,z1,z2,z3,z4,z5,z6,z7⟩:=af my
   clear Tk fj bO my
   have ZaZ:=Lib.hid dA.out
   clear dA
   go_upto_region 10 with fail
   clear x0 x1 x2 x3 x4 x5 x6 x7 z0 z1 z2 z3 z4 z5 z6 z7
   obtain ⟨⟨x0,x1,x2,x3,x4,x5,x6,x7⟩,z0,z1,z2,z3,z4,z5,z6,z7⟩:=af zf.out.bx.box
   have kF:Hid (Z=.ok (n18,x.2)):=by show _=_;(rw [ZbV.out,←ZaZ.out,HN7.out,WM.out,oz.out];try rfl)
   obtain ⟨wF,LD,fG,fJ,fO,fL⟩:=zf.out.fin
   have dH:Hid (Rows wF (fun g=>W.heap.size≤g) n18 _ _ _∧aj b v W _ wF∧Rd wF b B P _ x.2 d):=⟨fJ,fO,fL⟩
   obtain ⟨⟨y0,y1,y2,y3,y4,y5,y6,y7⟩,_⟩:=af fG
   obtain ⟨⟨r0,r1,r2,r3,r4,r5,r6,r7⟩,q0,q1,q2,q3,q4,q5,q6,q7⟩:=af zf.out.res
   clear fG fJ fO fL
   go_wp2_with fail
   refine bodyPost_ret (v:=.agg (jO n18 (.slice none 0 0) (.slice none 0 0) (.slice (some ⟨w16.heap.size,0,none⟩) 1 1))) (by simp [results,Tryz.results137,go_sem,y0,y1,y2,y3,y4,y5,y6,y7,jO]) rfl ?_
   rw [show Z=.ok (n18,x.2) from kF.out]
   exact ⟨_,_,_,_,rfl,dH.out.1,dH.out.2.1,dH.out.2.2⟩
abbrev agN (ln:Nat):Value:=.agg #[.int .i64 0,.string ⟨#[]⟩,.bool false,.slice none 0 0,.int .i64 0,.slice none 0 0,.slice none 0 0,.int .i64 (ln:Int)]
theorem Vo {nest:S→Sy.P Nat} {d:Nat} (E:Env nest d):OD nest d:=fun W b B P v s h hP hF=>xP E (fun W b B P v s h hP hF=>zt E W b B P v s h hP hF) W b B P v s h hP hF
theorem RM {nest:S→Sy.P Nat} {d:Nat} (E:Env nest d):Hj nest d:=fun W b B P v s h hP hF=>Cw E (Vo E) W b B P v s h hP hF
theorem mm {nest:S→Sy.P Nat} {d:Nat} (E:Env nest d):jh nest d:=fun W b B P v s em h hP hF=>FA E (RM E) W b B P v s h hP hF em
theorem xJ {nest:S→Sy.P Nat} {d:Nat} (E:Env nest d):rQ nest d:=fun W b B P v s h hP hF=>Gf E (mm E) W b B P v s h hP hF
theorem Uu {nest:S→Sy.P Nat} {d:Nat} (E:Env nest d):OH nest d:=fun W b B P v s h hP hF=>ri E (mm E) W b B P v s h hP hF
theorem G4 {nest:S→Sy.P Nat} {d:Nat} (E:Env nest d) (W:World) (b B:Nat) (P:Nat→Prop) (v:Value) (s:S) (h:Rd W b B P v s d) (hP:∀g,W.heap.size≤g→P g) (hF:ph s≤80000) (hc:aL s=true) (ln:Nat):
 ∃f,kI s=vE f∧(∃fn,Tryz.prog.funcs[f]? =some fn∧(fn.name== "runtime.NumGoroutine")=false∧fn.body.isNone=false)∧Calls Tryz.prog f #[.pointer (some ⟨b,0,none⟩),agN ln] W (nW W b B P v d (dF nest ln s)):=by
 have h4:=FN hc
 unfold kI dF
 by_cases h0:aV 2 [[40]] s=true
 ·
  rw [if_pos h0,if_pos h0]
  exact ⟨_,rfl,⟨_,Tryz.func130,by kernel_rfl,by kernel_rfl⟩,uo E (mm E) (xJ E) W b B P v s h hP hF h4 ln⟩
 ·
  rw [if_neg h0,if_neg h0]
  have hk:([[123],[105,102],[119,104,105,108,101],[117,110,116,105,108],[102,111,114],[99,97,115,101]]:List Nm).contains (nx s).t=true:=by
   unfold aL at hc
   rw [Bool.or_eq_true,Bool.and_eq_true] at hc
   rcases hc with hc | hc
   · exact absurd hc h0
   · exact hc.1
  simp only [List.contains_cons,List.contains_nil,Bool.or_false,Bool.or_eq_true,beq_iff_eq] at hk
  rcases hk with e | e | e | e | e | e<;>rw [e]
  · exact ⟨_,rfl,⟨_,Tryz.func125,by kernel_rfl,by kernel_rfl⟩,pG E (mm E) (xJ E) W b B P v s h hP hF h4 ln⟩
  · exact ⟨_,rfl,⟨_,Tryz.func126,by kernel_rfl,by kernel_rfl⟩,Iy E (mm E) (s.2.length+1) W b B P v s h hP hF h4 (Nat.lt_succ_self _) ln⟩
  · exact ⟨_,rfl,⟨_,Tryz.func127,by kernel_rfl,by kernel_rfl⟩,nM E (mm E) (xJ E) W b B P v s h hP hF h4 ln⟩
  · exact ⟨_,rfl,⟨_,Tryz.func127,by kernel_rfl,by kernel_rfl⟩,nM E (mm E) (xJ E) W b B P v s h hP hF h4 ln⟩
  · exact ⟨_,rfl,⟨_,Tryz.func128,by kernel_rfl,by kernel_rfl⟩,FK E (mm E) (xJ E) W b B P v s h hP hF h4 ln⟩
  · exact ⟨_,rfl,⟨_,Tryz.func129,by kernel_rfl,by kernel_rfl⟩,pC E (mm E) (Uu E) W b B P v s h hP hF h4 ln⟩
theorem Rd.deep {W:World} {b B:Nat} {P:Nat→Prop} {v:Value} {s:S} {d:Nat} (h:Rd W b B P v s d) (e:Nat) (he:e≤40):Rd (W.setCell ⟨b,2,none⟩ (.int .i64 (e:Int))) b B P v s e∧aj b v W v (W.setCell ⟨b,2,none⟩ (.int .i64 (e:Int))):=by
 obtain ⟨u,fV,uU⟩:=h.box
 have hs:=heap_setCell_same W b 2 _ _ (.int .i64 (e:Int)) fV
 have hg:W.grownBy (W.setCell ⟨b,2,none⟩ (.int .i64 (e:Int))) (some b):=Sl.aq b [_] 2 W
 have ht:aj b v W v (W.setCell ⟨b,2,none⟩ (.int .i64 (e:Int))):=aj.of_box hg
 have hbl:=ht.belowB h
 refine ⟨⟨⟨u,hs,uU.below hbl⟩,h.bB,h.row.keep (fun g X hv hX=>?_) (fun g X t _ hX hT=>AJ ht h g X t hX hT),h.ok,he,h.gl.below hbl⟩,ht⟩
 refine hg.block g (Array.getElem?_eq_some_iff.1 hX).1 (fun e'=>?_)
 obtain rfl:=Option.some.inj e'
 exact absurd (ey hX fV) (by decide)
theorem EA:GG (nestD 0) 40:=fun W b B P v s h hP hF hc=>by
 have HR:=Lib.hid h
 have HW:Hid (B≤W.heap.size):=h.size
 obtain ⟨u,fV,_⟩:=h.box
 obtain ⟨⟨c0,c1,c2⟩,f0,f1,f2⟩:=fC fV
 clear h hP hF hc fV
 go_enter Tryz.func113,Tryz.ntmps113
 go_wp2_with fail
 refine (bq W b B P v s 40 HR.out 21).mono ?_
 rintro r w2 ⟨rfl,hb2⟩
 exact ⟨rfl,kW rfl (hb2.mono HW.out)⟩
theorem Yc (w:World) (N:Nat) (n:Nd) (uw ur uk:Value) (X:Array Value) (hX:X.size=8) (h:w.heap[N]? =some (.cells X gv)):∃w9,(((((((w.setCell ⟨N,0,none⟩ (.int .i64 (n.k:Int))).setCell ⟨N,1,none⟩ (.string (str n.t))).setCell ⟨N,2,none⟩ (.bool n.fl)).setCell ⟨N,3,none⟩ uw).setCell ⟨N,4,none⟩ (.int .i64 (n.st:Int))).setCell ⟨N,5,none⟩ ur).setCell ⟨N,6,none⟩ uk).setCell ⟨N,7,none⟩ (.int .i64 (n.ln:Int))=w9∧
 w9.heap[N]? =some (.cells (jO n uw ur uk) gv)∧w.grownBy w9 (some N):=by
 refine ⟨_,rfl,?_,Sl.aq N [.int .i64 (n.k:Int),.string (str n.t),.bool n.fl,uw,.int .i64 (n.st:Int),ur,uk,.int .i64 (n.ln:Int)] 0 w⟩
 have:=Sl.gS N gv [.int .i64 (n.k:Int),.string (str n.t),.bool n.fl,uw,.int .i64 (n.st:Int),ur,uk,.int .i64 (n.ln:Int)] 0 w X.toList (by simpa using h) (by simp [hX])
 refine this.trans ?_
 unfold splice
 simp [hX]
def Q7 (Z:Sy.P Nat) (w4:World) (v:Value) (b B:Nat) (P:Nat→Prop) (d N:Nat) (wx:World):Prop:=
 ∃(y:Nd × S) (v' uw ur uk:Value),Z=Sy.bC y.1 y.2∧kL w4 v wx b B P v' y.2 (d+1) N (jO y.1 uw ur uk) gv∧Rows wx (fun g=>w4.heap.size≤g) y.1 uw ur uk∧ph y.2≤80000
theorem BH {w:World} {N:Nat} {X:Array Value} (h:w.heap[N]? =some (.cells X gv)) {Q:Nat→Prop} {n:Nd} {uw ur uk:Value} (hr:Rows w Q n uw ur uk) {w':World} (hg:w.grownBy w' (some N)):Rows w' Q n uw ur uk:=
 hr.keep (fun g Y t _ hY hT=>hg.block g (Array.getElem?_eq_some_iff.1 hY).1 (fun e=>by
  obtain rfl:=Option.some.inj e
  have:=ey hY h
  rw [this] at hT
  exact fp.1 hT))
theorem D9 {nest:S→Sy.P Nat} {d:Nat} (E:Env nest (d+1)) (hd:d≤39) (Pq:S→Sy.P Nat) (hn:∀s,Pq s=if aL s then bd (dF nest (nx s).ln s) fun x s=>bd (eA s) fun rs s=>Sy.bC { x with rs:=rs } s else bd (fU nest (nx s).ln s) Sy.bC):GG Pq d:=fun W b B P v s h hP hF hc=>by
 have HR:=Lib.hid h
 have HE:Hid (Env nest (d+1)):=E
 have HP:Hid (∀g,W.heap.size≤g→P g):=hP
 have HF:Hid (ph s≤80000):=hF
 have HV:Hid (∀g,v.ownBlock=some g→B≤g):=fun g hg=>(h.own g hg).1
 have H6:Hid (B≤b∧B≤W.heap.size):=⟨h.bB,h.size⟩
 obtain ⟨ln,vk⟩:∃ln,(nx s).ln=ln:=⟨_,rfl⟩
 obtain ⟨Z,hZ⟩:∃Z,Pq s=Z:=⟨_,rfl⟩
 have HZ:Hid (Z=if aL s then bd (dF nest ln s) fun x s=>bd (eA s) fun rs s=>Sy.bC { x with rs:=rs } s else bd (fU nest ln s) Sy.bC):=by show _=_;rw [←hZ,hn,vk]
 have F3:=jD (nx s)
 rw [vk] at F3
 rw [hZ]
 obtain ⟨hr3,gI⟩:=h.deep (d+1) (by omega)
 obtain ⟨w3,hw3⟩:∃w3,W.setCell ⟨b,2,none⟩ (.int .i64 ((d:Int)+1))=w3:=⟨_,rfl⟩
 have sJ:W.setCell ⟨b,2,none⟩ (.int .i64 (((d+1:Nat)):Int))=w3:=by rw [←hw3];congr 2
 rw [sJ] at hr3 gI
 have l4:=Lib.hid hr3
 have jf:=Lib.hid gI
 have HD:=Lib.hid hd
 obtain ⟨u,fV,_⟩:=h.box
 obtain ⟨⟨c0,c1,c2⟩,f0,f1,f2⟩:=fC fV
 have e1:((d:Int)==40)=false:=by rw [beq_eq_false_iff_ne];omega
 have e3:decide ((d:Int)=40)=false:=decide_eq_false (by omega)
 have XK:(d:Int)≤39:=by omega
 clear h hP hF hc fV vk hZ hn E hr3 gI sJ hd
 go_enter Tryz.func113,Tryz.ntmps113
 go_wp2_with fail
 refine (a8 w3 b B P v s (d+1) l4.out).mono ?_
 rintro r w4 ⟨rfl,hb4⟩
 have Im:=Lib.hid (l4.out.below hb4)
 have PF:=Lib.hid (jf.out.trans (aj.of_below hb4))
 clear hb4 c0 c1 c2 f0 f1 f2 e1 e3 hw3
 go_upto_region 5 with fail
 obtain ⟨n0,eP⟩:∃n0:Nd,n0={ k:=0,ln:=ln }:=⟨_,rfl⟩
 obtain ⟨w5,rF,Rz⟩:=kL.start Im.out (jO n0 (.slice none 0 0) (.slice none 0 0) (.slice none 0 0)) gv
 obtain ⟨N,hN⟩:∃N,w4.heap.size=N:=⟨_,rfl⟩
 have Zaq:w4.alloc (.cells #[.int .i64 0,.string ⟨#[]⟩,.bool false,.slice none 0 0,.int .i64 0,.slice none 0 0,.slice none 0 0,.int .i64 (ln:Int)] gv)=w5:=by rw [eP] at rF;exact rF
 rw [Zaq,hN]
 rw [hN] at Rz
 have UR:Hid (kL w4 v w5 b B (fun g=>P g∧g≠N) v s (d+1) N #[.int .i64 0,.string ⟨#[]⟩,.bool false,.slice none 0 0,.int .i64 0,.slice none 0 0,.slice none 0 0,.int .i64 (ln:Int)] gv):=by rw [eP] at Rz;exact Rz
 have vy:=Lib.hid hN
 have HP4:Hid (∀g,w4.heap.size≤g→P g):=fun g hg=>HP.out g (Nat.le_trans PF.out.size hg)
 clear rF Rz Zaq hN eP F3
 go_wp2_with fail
 refine (jZ w5 b B _ v s (d+1) UR.out.rd).mono ?_
 rintro r w6 ⟨rfl,iY⟩
 have qW:=Lib.hid (UR.out.below iY)
 clear iY
 obtain ⟨V,hV⟩:∃V,kI s=V:=⟨_,rfl⟩
 have HV9:=Lib.hid hV
 rw [hV]
 clear hV
 obtain ⟨zc,R9⟩:∃z,aL s=z:=⟨_,rfl⟩
 have Jq:=Lib.hid R9
 rw [R9]
 clear R9
 have Tp:Hid (∀x:World,N < x.heap.size→w4.heap.size≤x.heap.size→∀g,x.heap.size≤g→P g∧g≠N):=fun x h1 h2 g hg=>⟨HP4.out g (Nat.le_trans h2 hg),by omega⟩
 have UB:Hid (∀(x:World) (v':Value),aj b v w4 v' x→Below B W x):=fun x v' h=>(PF.out.trans h).below H6.out.1 HV.out H6.out.2
 go_upto_if 29 with fail
 go_cut [] (fun wx=>Q7 Z w4 v b B (fun g=>P g∧g≠N) d N wx)
 case first=>
  cases zc with
  | true=>
    obtain ⟨f,hf,⟨fn,YR,hf2,hf3⟩,Tq⟩:=G4 HE.out w6 b B _ v s qW.out.rd (Tp.out w6 qW.out.lt qW.out.turn.size) HF.out Jq.out ln
    have hVf:V=vE f:=by rw [←HV9.out];exact hf
    subst hVf
    have et:=Lib.hid Tq
    have oy:Hid (Z=bd (dF nest ln s) fun x s=>bd (eA s) fun rs s=>Sy.bC { x with rs:=rs } s):=by show _=_;rw [HZ.out,if_pos Jq.out]
    clear Tq hf
    obtain ⟨⟨x0,x1,x2,x3,x4,x5,x6,x7⟩,z0,z1,z2,z3,z4,z5,z6,z7⟩:=af qW.out.box
    unfold vE
    have hcf:=fun w'=>Rg.kE YR hf2 hf3 #[.pointer (some ⟨b,0,none⟩),.agg #[.int .i64 0,.string ⟨#[]⟩,.bool false,.slice none 0 0,.int .i64 0,.slice none 0 0,.slice none 0 0,.int .i64 (ln:Int)]] w'
    go_wp2_with fail
    refine et.out.mono ?_
    rintro r w7 hp
    rcases oD hp with ⟨er,cy,rfl,df⟩ | ⟨y,uw,ur,uk,v7,aI,rfl,La,vF,Vp⟩
    ·
     have hz:Z=.error er:=by rw [oy.out,cy];rfl
     exact ⟨rfl,cg hz ((UB.out w6 v qW.out.turn).trans df)⟩
    obtain ⟨⟨aw,cw,rfl⟩,⟨ar,cr,rfl⟩,⟨ak,ck,rfl⟩⟩:=xM La
    have A6:=Lib.hid (qW.out.step vF Vp)
    have V0:=Lib.hid (La.less (Q':=fun g=>w4.heap.size≤g) (fun g hg _=>Nat.le_trans qW.out.turn.size hg))
    have nb:Hid (Z=bd (eA y.2) fun rs s=>Sy.bC { y.1 with rs:=rs } s):=by show _=_;rw [oy.out,aI];rfl
    have yO:Hid (ph y.2+8≤ph s):=Ai HE.out.cost ln s (FN Jq.out) y aI
    clear hp vF La Vp aI hcf YR hf2 hf3 x0 x1 x2 x3 x4 x5 x6 x7 z0 z1 z2 z3 z4 z5 z6 z7
    obtain ⟨⟨x0,x1,x2,x3,x4,x5,x6,x7⟩,z0,z1,z2,z3,z4,z5,z6,z7⟩:=af A6.out.box
    obtain ⟨w8,ER,my,Xi⟩:=Yc w7 N y.1 (.slice aw y.1.ws.length cw) (.slice ar y.1.rs.length cr) (.slice ak y.1.ks.length ck) _ rfl A6.out.box
    have FJ:=Lib.hid (A6.out.grown Xi my)
    have Up:=Lib.hid (BH A6.out.box V0.out Xi)
    go_upto_region 8 with fail
    clear x0 x1 x2 x3 x4 x5 x6 x7 z0 z1 z2 z3 z4 z5 z6 z7 ER my Xi
    go_wp2_with fail
    refine (A5 w8 b B _ v7 y.2 (d+1) FJ.out.rd).mono ?_
    rintro r w9 hp
    rcases B8 hp with ⟨er,cy,rfl,df⟩ | ⟨q,u9,v9,qL,rfl,hrow,ly,Af,hd9⟩
    ·
     have hz:Z=.error er:=by rw [nb.out,cy];rfl
     exact ⟨rfl,cg hz ((UB.out w8 v7 FJ.out.turn).trans df)⟩
    obtain ⟨a9,c9,rfl,_⟩:=aA hrow
    have QO:=Lib.hid (FJ.out.step Af hd9)
    have Zbd:=Lib.hid (Af.keep FJ.out.rd Up.out)
    have Zae:=Lib.hid hrow
    have XZ:Hid (∀g,Value.ownBlock (.slice a9 q.1.length c9)=some g→w4.heap.size≤g):=fun g hg=>Nat.le_trans FJ.out.turn.size (ly g hg)
    have W7:Hid (Z=Sy.bC { y.1 with rs:=q.1 } q.2):=by show _=_;rw [nb.out,qL];rfl
    have K4:Hid (ph q.2≤ph y.2):=uI y.2 q qL
    clear hp Af hd9 qL hrow ly
    obtain ⟨⟨x0,x1,x2,x3,x4,x5,x6,x7⟩,z0,z1,z2,z3,z4,z5,z6,z7⟩:=af QO.out.box
    obtain ⟨wa,Xm,Lf⟩:=QO.out.set 5 (.slice a9 q.1.length c9)
    have hga:w9.grownBy wa (some N):=by rw [←Xm];exact Sl.aq N [_] 5 w9
    have Vv:=Lib.hid (BH QO.out.box Zbd.out hga)
    have TG:wa.ownsRow 0 gO 4 (.slice a9 q.1.length c9) q.1.length (q.1.flatMap lr):=bG Zae.out (fun g X hg hX=>hga.block g (Array.getElem?_eq_some_iff.1 hX).1 (fun e=>by
     obtain rfl:=Option.some.inj e
     exact absurd (ey hX QO.out.box) (by decide)))
    have Zs:=Lib.hid TG
    have ZK:Hid (kL w4 v wa b B (fun g=>P g∧g≠N) v9 q.2 (d+1) N (jO { y.1 with rs:=q.1 } (.slice aw y.1.ws.length cw) (.slice a9 q.1.length c9) (.slice ak y.1.ks.length ck)) gv):=Lf
    clear Lf hga TG
    go_wp2_with fail
    go_meet
    exact ⟨({ y.1 with rs:=q.1 },q.2),v9,_,_,_,W7.out,ZK.out,⟨Vv.out.w,Zs.out,Vv.out.k,Vv.out.qw,XZ.out,Vv.out.qk⟩,by have:=yO.out;have:=K4.out;have:=HF.out;show ph q.2≤_;omega⟩
  | false=>
    have oy:Hid (Z=bd (fU nest ln s) Sy.bC):=by show _=_;rw [HZ.out,if_neg (by rw [show aL s=false from Jq.out];decide)]
    obtain ⟨⟨x0,x1,x2,x3,x4,x5,x6,x7⟩,z0,z1,z2,z3,z4,z5,z6,z7⟩:=af qW.out.box
    go_wp2_with fail
    refine (lj HE.out w6 b B _ v s qW.out.rd (Tp.out w6 qW.out.lt qW.out.turn.size) HF.out ln).mono ?_
    rintro r w7 hp
    rcases oD hp with ⟨er,cy,rfl,df⟩ | ⟨y,uw,ur,uk,v7,aI,rfl,La,vF,Vp⟩
    ·
     have hz:Z=.error er:=by rw [oy.out,cy];rfl
     exact ⟨rfl,cg hz ((UB.out w6 v qW.out.turn).trans df)⟩
    obtain ⟨⟨aw,cw,rfl⟩,⟨ar,cr,rfl⟩,⟨ak,ck,rfl⟩⟩:=xM La
    have A6:=Lib.hid (qW.out.step vF Vp)
    have V0:=Lib.hid (La.less (Q':=fun g=>w4.heap.size≤g) (fun g hg _=>Nat.le_trans qW.out.turn.size hg))
    have nb:Hid (Z=Sy.bC y.1 y.2):=by show _=_;rw [oy.out,aI];rfl
    have yO:Hid (ph y.2+8≤ph s):=Aq HE.out.cost ln s y aI
    clear hp vF La Vp aI x0 x1 x2 x3 x4 x5 x6 x7 z0 z1 z2 z3 z4 z5 z6 z7
    obtain ⟨⟨x0,x1,x2,x3,x4,x5,x6,x7⟩,z0,z1,z2,z3,z4,z5,z6,z7⟩:=af A6.out.box
    obtain ⟨w8,ER,my,Xi⟩:=Yc w7 N y.1 (.slice aw y.1.ws.length cw) (.slice ar y.1.rs.length cr) (.slice ak y.1.ks.length ck) _ rfl A6.out.box
    have FJ:=Lib.hid (A6.out.grown Xi my)
    have Up:=Lib.hid (BH A6.out.box V0.out Xi)
    go_wp2_with fail
    go_meet
    exact ⟨y,v7,_,_,_,nb.out,FJ.out,Up.out,by have:=yO.out;have:=HF.out;omega⟩
 case rest=>
  obtain ⟨y,v',uw,ur,uk,hz,fV,hrw,zh⟩:=hcut
  obtain ⟨⟨aw,cw,rfl⟩,⟨ar,cr,rfl⟩,⟨ak,ck,rfl⟩⟩:=xM hrw
  have oJ:=Lib.hid hz
  have Zo:=Lib.hid fV
  have HRc:=Lib.hid hrw
  have HPc:=Lib.hid zh
  obtain ⟨sZ,htd⟩:=fV.rd.deep d (by have:=HD.out;omega)
  obtain ⟨wd,hwd⟩:∃wd,wc.setCell ⟨b,2,none⟩ (.int .i64 (d:Int))=wd:=⟨_,rfl⟩
  rw [hwd] at sZ htd
  have hgd:wc.grownBy wd (some b):=by rw [←hwd];exact Sl.aq b [_] 2 wc
  have Li:N≠b:=by have h1:=Zo.out.new;have h2:=Zo.out.old;omega
  have hNd:=(hgd.block N Zo.out.lt (fun e=>Li (Option.some.inj e))).trans Zo.out.box
  have Tz:Hid (Rd wd b B P v' y.2 d):=sZ.less (fun g hg _=>hg.1)
  have HTd:=Lib.hid ((PF.out.trans Zo.out.turn).trans htd)
  have Zbx:Hid (Rows wd P y.1 (.slice aw y.1.ws.length cw) (.slice ar y.1.rs.length cr) (.slice ak y.1.ks.length ck)):=(htd.keep fV.rd hrw).less (fun g hg _=>HP4.out g hg)
  obtain ⟨u,Nt,_⟩:=fV.rd.box
  obtain ⟨⟨c0,c1,c2⟩,f0,f1,f2⟩:=fC Nt
  obtain ⟨⟨x0,x1,x2,x3,x4,x5,x6,x7⟩,_⟩:=af hNd
  have Ye:((d+1:Nat):Int)=(d:Int)+1:=by omega
  rw [Ye] at c2
  have e4:(d:Int)+1 - 1=(d:Int):=by omega
  clear hz fV hrw zh sZ htd hgd hNd Nt Ye UR qW HZ
  go_wp2_with fail
  have hput:=bQ wd b B P v' y.2 d Tz.out y.1 _ _ _ Zbx.out (by have:=HPc.out;unfold ph at this;omega)
  refine hput.mono ?_
  clear hput
  rintro r w8 hp
  rw [←oJ.out] at hp
  have Ck:=Lib.hid (p9 HTd.out (HTd.out.below H6.out.1 HV.out H6.out.2) hp)
  clear hp
  rcases av Ck.out with ⟨er,cy,_,_⟩ | ⟨y8,u8,v8,jv,rfl,he,oM,ov⟩
  · exact absurd (oJ.out.symm.trans cy) (by intro h;cases h)
  ·
   have bX:u8=.int .i64 (y8.1:Int):=he
   subst bX
   clear he jv oM ov
   go_wp2_with fail
   go_ret
   exact Ck.out
theorem Ji:∀k,k≤40→Env (nestD k) (40 - k)
 | 0,_=>⟨EA,dh 0,mX 0⟩
 | k+1,hk=>by
   have ih:=Ji k (by omega)
   rw [show 40 - k=(40 - (k+1))+1 by omega] at ih
   exact ⟨D9 ih (by omega) _ (fun s=>rfl),dh (k+1),mX (k+1)⟩
theorem Qy:Env (nestD 40) 0:=Ji 40 (Nat.le_refl _)
def sx (s:S):Sy.P Unit:=bd (aO (nestD 40) true s) fun _ s1=>if (nx s1).k≠4 then er 20 s1 else .ok ((),s1)
theorem Br (W:World) (b B:Nat) (P:Nat→Prop) (v:Value) (s:S) (h:Rd W b B P v s 0) (hP:∀g,W.heap.size≤g→P g) (hF:ph s≤80000):
 Calls Tryz.prog 13 #[.pointer (some ⟨b,0,none⟩)] W (Post eU W b B P v 0 (sx s)):=by
 obtain ⟨Z,hZ⟩:∃Z,sx s=Z:=⟨_,rfl⟩
 have HZ:Hid (Z=bd (aO (nestD 40) true s) fun _ s1=>if (nx s1).k≠4 then er 20 s1 else .ok ((),s1)):=hZ.symm
 rw [hZ]
 have HC:=Lib.hid (mm Qy W b B P v s true h hP hF)
 have HR:=Lib.hid h
 clear h hP hF hZ
 go_enter Tryz.func13,Tryz.ntmps13
 go_wp2_with fail
 refine HC.out.mono ?_
 rintro r w1 hp
 rcases av hp with ⟨er,cy,rfl,hb⟩ | ⟨y,u,v1,aI,rfl,he,nX,hr1⟩
 ·
  have hz:Z=.error er:=by rw [HZ.out,cy];rfl
  exact ⟨rfl,cg hz hb⟩
 have bX:u=.int .i64 (y.1:Int):=he
 subst bX
 have J8:=Lib.hid hr1
 have wK:=Lib.hid nX
 have oy:Hid (Z=if (nx y.2).k≠4 then er 20 y.2 else .ok ((),y.2)):=by show _=_;rw [HZ.out,aI];rfl
 clear he hp aI nX hr1
 go_wp2_with fail
 obtain ⟨t,ht⟩:∃t,nx y.2=t:=⟨_,rfl⟩
 have HT:=Lib.hid ht
 have F0:=gj t
 refine (a8 w1 b B P v1 y.2 0 J8.out).mono ?_
 rintro r w2 ⟨rfl,hb2⟩
 have gR:=Lib.hid (J8.out.below hb2)
 have fK:=Lib.hid (wK.out.trans (aj.of_below hb2))
 rw [ht]
 clear hb2 ht
 by_cases hk:t.k=4
 ·
  have e1:((t.k:Int)==4)=true:=by simp;omega
  have e2:((t.k:Int) != 4)=false:=by simp;omega
  have e3:decide ((t.k:Int)=4)=true:=by simp;omega
  have HX:Hid (Z=.ok ((),y.2)):=by show _=_;rw [oy.out,HT.out,if_neg (fun h=>h hk)]
  clear hk
  go_wp2_with fail
  refine bodyPost_end (v:=.tuple #[]) (results_none rfl _ _ _) rfl ?_
  exact fy HX.out rfl fK.out gR.out
 ·
  have e1:((t.k:Int)==4)=false:=by simp;omega
  have e2:((t.k:Int) != 4)=true:=by simp;omega
  have e3:decide ((t.k:Int)=4)=false:=by simp;omega
  have HX:Hid (Z=er 20 y.2):=by show _=_;rw [oy.out,HT.out,if_pos hk]
  clear hk
  go_wp2_with fail
  refine (bq w2 b B P v1 y.2 0 gR.out 20).mono ?_
  rintro r w3 ⟨rfl,hb3⟩
  exact ⟨rfl,kW HX.out ((fK.out.belowB HR.out).trans (hb3.mono gR.out.size))⟩
abbrev BJ:TypeId:=25
abbrev Bc (e:Int) (g:Nat):Value:=.agg #[.int .i64 e,.int .i64 (g:Int)]
theorem zY (s:TypeId) (e:Int) (g:Nat) (w:World):(Instr.typeAssert (.iface EO (Bc e g)) s EO false).run Tryz.prog w=.ok (Bc e g) w:=by
 simp [Instr.typeAssert,run_underlying Tryz.underlying43,Result.andThen]
theorem PU (e:Int) (g:Nat) (w:World):(Instr.field EO (Bc e g) 0).run Tryz.prog w=.ok (.int .i64 e) w:=by rfl
theorem RB (e:Int) (g:Nat) (w:World):(Instr.field EO (Bc e g) 1).run Tryz.prog w=.ok (.int .i64 (g:Int)) w:=by rfl
theorem yy {a:Act} {w:World} {post:Value→World→Prop} {dst:Option Tmp} {ty:TypeId} {pos:String} {after:Array Edge} {guard:Option (Nat × Bool)} (hp:post (.agg #[.slice none 0 0]) w):Rg.does Tryz.prog { dst,op:=.build BJ #[],type:=ty,pos,after,guard } a w post:=
 Ap.jS #[] _ (by simp) (by go_simp) hp
structure br (w w':World) (p q r:Nat) (x y z:Value):Prop where
 hp:w'.heap[p]? =some (.cells #[x] BJ)
 hq:w'.heap[q]? =some (.cells #[y] uy)
 hr:w'.heap[r]? =some (.cells #[z] dU)
 os:w'.os=w.os
 tape:w'.tape=w.tape
 output:w'.output=w.output
 size:w'.heap.size=w.heap.size
 block:∀k,k < w.heap.size→k≠p→k≠q→k≠r→w'.heap[k]? =w.heap[k]?
theorem br.setp {w w':World} {p q r:Nat} {x y z:Value} (h:br w w' p q r x y z) (u:Value):br w (w'.setCell ⟨p,0,none⟩ u) p q r u y z:=by
 have hg:w'.grownBy (w'.setCell ⟨p,0,none⟩ u) (some p):=Sl.aq p [u] 0 w'
 have hs:=heap_setCell_same w' p 0 _ _ u h.hp
 have n1:=ie h.hp h.hq (by decide)
 have n2:=ie h.hp h.hr (by decide)
 exact ⟨by simpa using hs,(hg.block q (Array.getElem?_eq_some_iff.1 h.hq).1 (fun e=>n1 (Option.some.inj e).symm)).trans h.hq,(hg.block r (Array.getElem?_eq_some_iff.1 h.hr).1 (fun e=>n2 (Option.some.inj e).symm)).trans h.hr,hg.os.trans h.os,hg.tape.trans h.tape,hg.output.trans h.output,(Sl.dv p [u] 0 w').trans h.size,fun k hk h1 h2 h3=>(hg.block k (by rw [h.size];exact hk) (fun e=>h1 (Option.some.inj e))).trans (h.block k hk h1 h2 h3)⟩
theorem br.setq {w w':World} {p q r:Nat} {x y z:Value} (h:br w w' p q r x y z) (u:Value):br w (w'.setCell ⟨q,0,none⟩ u) p q r x u z:=by
 have hg:w'.grownBy (w'.setCell ⟨q,0,none⟩ u) (some q):=Sl.aq q [u] 0 w'
 have hs:=heap_setCell_same w' q 0 _ _ u h.hq
 have n1:=ie h.hp h.hq (by decide)
 have n2:=ie h.hq h.hr (by decide)
 exact ⟨(hg.block p (Array.getElem?_eq_some_iff.1 h.hp).1 (fun e=>n1 (Option.some.inj e))).trans h.hp,by simpa using hs,(hg.block r (Array.getElem?_eq_some_iff.1 h.hr).1 (fun e=>n2 (Option.some.inj e).symm)).trans h.hr,hg.os.trans h.os,hg.tape.trans h.tape,hg.output.trans h.output,(Sl.dv q [u] 0 w').trans h.size,fun k hk h1 h2 h3=>(hg.block k (by rw [h.size];exact hk) (fun e=>h2 (Option.some.inj e))).trans (h.block k hk h1 h2 h3)⟩
theorem br.setr {w w':World} {p q r:Nat} {x y z:Value} (h:br w w' p q r x y z) (u:Value):br w (w'.setCell ⟨r,0,none⟩ u) p q r x y u:=by
 have hg:w'.grownBy (w'.setCell ⟨r,0,none⟩ u) (some r):=Sl.aq r [u] 0 w'
 have hs:=heap_setCell_same w' r 0 _ _ u h.hr
 have n1:=ie h.hp h.hr (by decide)
 have n2:=ie h.hq h.hr (by decide)
 exact ⟨(hg.block p (Array.getElem?_eq_some_iff.1 h.hp).1 (fun e=>n1 (Option.some.inj e))).trans h.hp,(hg.block q (Array.getElem?_eq_some_iff.1 h.hq).1 (fun e=>n2 (Option.some.inj e))).trans h.hq,by simpa using hs,hg.os.trans h.os,hg.tape.trans h.tape,hg.output.trans h.output,(Sl.dv r [u] 0 w').trans h.size,fun k hk h1 h2 h3=>(hg.block k (by rw [h.size];exact hk) (fun e=>h3 (Option.some.inj e))).trans (h.block k hk h1 h2 h3)⟩
theorem br.below {w w':World} {p q r:Nat} {x y z:Value} {B:Nat} (h:br w w' p q r x y z) (hp:B≤p) (hq:B≤q) (hr:B≤r) (hs:B≤w.heap.size):Below B w w':=
 ⟨h.os,h.tape,h.output,Nat.le_of_eq h.size.symm,fun k hk=>h.block k (by omega) (by omega) (by omega) (by omega)⟩
theorem lM (p q r:Nat) (x y z:Value) (e:Int) (g:Nat) (Ej:List PanicEntry) (w:World) (hp:w.heap[p]? =some (.cells #[x] BJ)) (hq:w.heap[q]? =some (.cells #[y] uy)) (hr:w.heap[r]? =some (.cells #[z] dU)):
 CallsD Tryz.prog 12 #[.pointer (some ⟨p,0,none⟩),.pointer (some ⟨q,0,none⟩),.pointer (some ⟨r,0,none⟩)] (.panicking ({ v:=.iface EO (Bc e g),recovered:=false }::Ej)) w fun rr u' w'=>
  rr=.returned (.tuple #[])∧u'=.panicking ({ v:=.iface EO (Bc e g),recovered:=true }::Ej)∧br w w' p q r (.slice none 0 0) (.int .i64 e) (.int .i64 (g:Int)):=by
 refine callsD_of_wpS Tryz.func12 rfl fun c₀ cs hu=>?_
 apply wpS_seq
 apply wpS_region
 simp [wpOpsS,go_sem,recoverD,hu,Tryz.ntmps12,Exit.thenS]
 apply wpS_seq
 apply wpS_region
 simp [wpOpsS,go_sem,Exit.thenS]
 refine wpS_cond (t:=true) (by simp [Act.eval,Array.replicate]) ?_
 simp only [if_true]
 apply wpS_of_wp
 change Code.wp _ _ _ ({ tmps:=#[.pointer (some ⟨p,0,none⟩),.pointer (some ⟨q,0,none⟩),.pointer (some ⟨r,0,none⟩),.iface EO (Bc e g),.iface EO (Bc e g),.iface EO (Bc e g),.bool true,undef,undef,undef,undef,undef,undef,undef],defers:=[] }:Act) w
 apply iO (by kernel_rfl)
 have HC:Hid (br w w.drew p q r x y z):=⟨hp,hq,hr,rfl,rfl,rfl,rfl,fun _ _ _ _ _=>rfl⟩
 refine Rq.pZ 0 [] [Rg.Is (.agg #[.slice none 0 0]),Rg.Is (.iface EO (Bc e g)),Rg.Is (Bc e g),Rg.Is (.int .i64 e),Rg.Is (.iface EO (Bc e g)),Rg.Is (Bc e g),Rg.Is (.int .i64 (g:Int)),(fun _ _=>True),(fun _ _=>True),(fun _ _=>True)] (fun _ _=>True) (fun ls x'=>br w x' p q r (if ls 7 then .slice none 0 0 else x) (if ls 8 then .int .i64 e else y) (if ls 9 then .int .i64 (g:Int) else z)) (fun _ _ _=>True) (by kernel_rfl) (of_decide_eq_true (by kernel_rfl)) (by kernel_rfl) (by kernel_rfl) trivial ?_ ?_ (fun _ _ _ _ _=>trivial) ⟨?_,?_,?_,?_,?_,?_,?_,?_,?_,?_,trivial⟩ ?_ ?_ trivial ?_
 ·
  intro i hi
  match i,hi with
  | j+0,hi=>exact absurd hi (by omega)
 ·
  intro i k u x y _ _ h1 _
  match i,h1 with
  | 0,h1=>exact h1
  | 1,h1=>exact h1
  | 2,h1=>exact h1
  | 3,h1=>exact h1
  | 4,h1=>exact h1
  | 5,h1=>exact h1
  | 6,h1=>exact h1
  | 7,h1=>exact h1
  | 8,h1=>exact h1
  | 9,h1=>exact h1
  | _+10,_=>trivial
 ·
  intro b9 x ls _ hS ai bI bf hk
  exact Rp.ag (yy ⟨trivial,rfl,hS⟩)
 ·
  intro b9 x ls _ hS ai bI bf hk
  have h3:b9.eval (.tmp 3)=.iface EO (Bc e g):=Eq.mp (by kernel_rfl) (hk 3 (by decide))
  exact Rp.ag (Rg.az ⟨trivial,h3,hS⟩)
 ·
  intro b9 x ls _ hS ai bI bf hk
  have h8:b9.eval (.tmp 8)=.iface EO (Bc e g):=Eq.mp (by kernel_rfl) (hk 8 (by decide))
  exact Rp.ag (lS _ _ h8 (zY _ e g _) ⟨trivial,rfl,hS⟩)
 ·
  intro b9 x ls _ hS ai bI bf hk
  have h9:b9.eval (.tmp 9)=Bc e g:=Eq.mp (by kernel_rfl) (hk 9 (by decide))
  exact Rp.ag (mW _ _ h9 (PU e g _) ⟨trivial,rfl,hS⟩)
 ·
  intro b9 x ls _ hS ai bI bf hk
  have h3:b9.eval (.tmp 3)=.iface EO (Bc e g):=Eq.mp (by kernel_rfl) (hk 3 (by decide))
  exact Rp.ag (Rg.az ⟨trivial,h3,hS⟩)
 ·
  intro b9 x ls _ hS ai bI bf hk
  have h11:b9.eval (.tmp 11)=.iface EO (Bc e g):=Eq.mp (by kernel_rfl) (hk 11 (by decide))
  exact Rp.ag (lS _ _ h11 (zY _ e g _) ⟨trivial,rfl,hS⟩)
 ·
  intro b9 x ls _ hS ai bI bf hk
  have zL:b9.eval (.tmp 12)=Bc e g:=Eq.mp (by kernel_rfl) (hk 12 (by decide))
  exact Rp.ag (mW _ _ zL (RB e g _) ⟨trivial,rfl,hS⟩)
 ·
  intro b9 x ls _ hS ai bI bf hk
  have h0:b9.eval (.tmp 0)=.pointer (some ⟨p,0,none⟩):=Eq.mp (by kernel_rfl) (hk 0 (by decide))
  have h7:b9.eval (.tmp 7)=.agg #[.slice none 0 0]:=Eq.mp (by kernel_rfl) (hk 7 (by decide))
  exact Rq.kY p 0 #[.slice none 0 0] h0 h7 (ez hS.hp) (by kernel_rfl) (by kernel_rfl) ⟨trivial,trivial,hS.setp _⟩
 ·
  intro b9 x ls _ hS ai bI bf hk
  have h1:b9.eval (.tmp 1)=.pointer (some ⟨q,0,none⟩):=Eq.mp (by kernel_rfl) (hk 1 (by decide))
  have h10:b9.eval (.tmp 10)=.int .i64 e:=Eq.mp (by kernel_rfl) (hk 10 (by decide))
  exact Rq.cN q 0 _ h1 h10 rfl rfl (ez hS.hq) (by kernel_rfl) ⟨trivial,trivial,hS.setq _⟩
 ·
  intro b9 x ls _ hS ai bI bf hk
  have h2:b9.eval (.tmp 2)=.pointer (some ⟨r,0,none⟩):=Eq.mp (by kernel_rfl) (hk 2 (by decide))
  have E0:b9.eval (.tmp 13)=.int .i64 (g:Int):=Eq.mp (by kernel_rfl) (hk 13 (by decide))
  exact Rq.cN r 0 _ h2 E0 rfl rfl (ez hS.hr) (by kernel_rfl) ⟨trivial,trivial,hS.setr _⟩
 · exact fun ls mC x' h hS=>by rw [←h 7,←h 8,←h 9];exact hS
 ·
  intro vals wE ls _ hS hall hL
  rw [hall 7 (by decide),hall 8 (by decide),hall 9 (by decide)] at hS
  have hS2:br w wE p q r (.slice none 0 0) (.int .i64 e) (.int .i64 (g:Int)):=hS
  simp [bodyPostS,results,Tryz.results12]
  exact hS2
 · exact HC.out
theorem qR (p q r:Nat) (w:World):
 CallsD Tryz.prog 12 #[.pointer (some ⟨p,0,none⟩),.pointer (some ⟨q,0,none⟩),.pointer (some ⟨r,0,none⟩)] .returning w fun rr u' w'=>rr=.returned (.tuple #[])∧u'=.returning∧w'=w:=by
 refine callsD_of_wpS Tryz.func12 rfl fun c₀ cs hu=>?_
 apply wpS_seq
 apply wpS_region
 simp [wpOpsS,go_sem,recoverD,hu,Tryz.ntmps12,Exit.thenS]
 apply wpS_seq
 apply wpS_region
 simp [wpOpsS,go_sem,Exit.thenS]
 refine wpS_cond (t:=false) (by simp [Act.eval,Array.replicate]) ?_
 simp only [Bool.false_eq_true,if_false]
 refine wpS_of_wp (wp_skip ?_)
 cases c₀
 simp_all [bodyPostS,results,Tryz.results12]
def Er {α:Type} (x:Except Int α):Prop:=∀e,x=.error e→e≠0
theorem vp {α:Type}:Er (α:=α) (.error 20):=fun e h=>by injection h with h;subst h;decide
theorem Zbm {α:Type}:Er (α:=α) (.error 21):=fun e h=>by injection h with h;subst h;decide
theorem iV {α:Type} {a:α}:Er (α:=α) (.ok a):=fun e h=>by cases h
theorem pE {α β:Type} {x:Except Int α} {f:α→Except Int β} (hx:Er x) (hf:∀a,x=.ok a→Er (f a)):Er (lz x f):=fun e h=>by
 cases x with
 | error e'=>exact hx e (by rw [Bh] at h;injection h with h;rw [h])
 | ok a=>exact hf a rfl e h
theorem Bb {o:Nm} {x:R} (hx:Er x):Er (pre o x):=pE hx fun a _=>iV
theorem Hc:∀(s:Nm) (d:Nat),Er (fz d s)
 | [],d=>vp
 | c::r,d=>by
   have h1:=fun d=>Hc r d
   unfold fz
   repeat' split
   all_goals first | exact vp | exact iV | exact Bb (h1 _)
theorem sH {step:Nm→R} {stop:Nm→Bool} (hs:∀s,Er (step s)):∀f s,Er (fM step stop f s)
 | 0,s=>by unfold fM;split;exact iV;exact vp
 | f+1,s=>by
   unfold fM
   split
   · exact iV
   · exact pE (hs s) fun a _=>Bb (sH hs f _)
theorem UT {inner:Nm→R} (hi:∀s,Er (inner s)) (deep:Nat) (s:Nm):Er (ld inner deep s):=by
 unfold ld
 repeat' split
 all_goals first | exact vp | exact Zbm | exact iV | exact Bb (Hc _ _) | exact pE (hi _) fun a _=>iV | exact pE (Hc _ _) fun a _=>iV
theorem Wy {vw:Nm→R} (hd:∀s,Er (vw s)):∀s,Er (ze vw s)
 | []=>vp
 | c::r=>by
   unfold ze
   repeat' split
   all_goals first | exact vp | exact iV | exact hd _
theorem WE {vw:Nm→R} (hd:∀s,Er (vw s)) (f:Nat):∀s,Er (vx vw f s)
 | []=>vp
 | c::r=>by
   unfold vx
   repeat' split
   all_goals first | exact vp | exact iV | exact hd _ | exact pE (sH (Wy hd) _ _) fun a _=>iV
theorem Hv:∀f deep s,Er (nZ f deep s)
 | 0,_,_=>vp
 | f+1,deep,s=>WE (fun s=>UT (fun s=>sH (fun s=>Hv f (deep+1) s) _ _) _ _) _ _
theorem RX (s:Nm):Er (fe s):=sH (fun s=>Hv _ _ _) _ _
theorem IY (e:Nm):∀f s,Er (ji e f s)
 | 0,s=>vp
 | f+1,s=>by
   unfold ji
   split
   · exact vp
   ·
    split
    · exact iV
    · exact Bb (IY e f _)
theorem AO:∀hh l s,Er (cX hh l s)
 | [],l,s=>iV
 | i::is,l,s=>pE (IY _ _ _) fun x _=>AO is _ _
theorem Wn (g:Nat) (l:List Tok) (h:List Nat) (s:Nm):Er (eY g l h s):=by
 cases s with
 | nil=>exact iV
 | cons c r=>
   unfold eY
   simp only
   split
   · exact pE (AO _ _ _) fun a _=>iV
   split
   · exact iV
   split
   · exact iV
   split
   · exact iV
   split
   · exact iV
   split
   · exact vp
   ·
    refine pE (RX _) fun a _=>?_
    split<;>exact iV
def GV (t:Tok):Prop:=t.k=5→t.t≠[]∧∀c∈t.t,48≤c.toNat∧c.toNat≤57
theorem z8:∀(hh:List Nat) (l:List Tok) (s:Nm) (x:List Tok × Nm),cX hh l s=.ok x→(∀t∈l,GV t)→∀t∈x.1,GV t
 | [],l,s,x,e,hl=>by injection e with e;subst e;exact hl
 | i::is,l,s,x,e,hl=>by
   obtain ⟨y,h1,h2⟩:=aZ (x:=gW (ed l i) s) e
   refine z8 is _ _ _ h2 (fun t ht=>?_)
   obtain ⟨j,hj,rfl⟩:=List.getElem_of_mem ht
   rw [List.getElem_modify]
   rw [List.length_modify] at hj
   split
   · exact hl l[j] (List.getElem_mem hj)
   · exact hl l[j] (List.getElem_mem hj)
theorem F5 {g:Nat} {l:List Tok} {hh:List Nat} {c:UInt8} {s:Nm} {x:St} (e:eY g l hh (c::s)=.ok x) (hl:∀t∈l,GV t):∀t∈x.1,GV t:=by
 have add:∀(u:Tok),GV u→∀t∈l++[u],GV t:=fun u hu t ht=>by
  rcases List.mem_append.1 ht with ht | ht
  · exact hl t ht
  · obtain rfl:=List.mem_singleton.1 ht;exact hu
 unfold eY at e
 simp only at e
 split at e
 ·
  obtain ⟨y,h1,h2⟩:=aZ e
  injection h2 with h2;subst h2
  exact z8 _ _ _ _ h1 (add _ (fun h=>by cases h))
 ·
  rename_i h10
  split at e
  · injection e with e;subst e;exact hl
  ·
   split at e
   · injection e with e;subst e;exact hl
   ·
    split at e
    · injection e with e;subst e;exact hl
    ·
     rename_i hb
     split at e
     ·
      injection e with e;subst e
      exact add _ (fun h=>by cases h)
     ·
      rename_i hn
      split at e
      · cases e
      ·
       rename_i ET
       obtain ⟨y,h1,h2⟩:=aZ e
       have h3:=yj (vM h10 hb hn ET) h1
       split at h2
       ·
        rename_i rb
        injection h2 with h2;subst h2
        refine add _ (fun _=>?_)
        unfold kR at rb
        simp only [Bool.and_eq_true,decide_eq_true_eq,List.all_eq_true] at rb
        refine ⟨fun h0=>?_,fun c hc=>?_⟩
        ·
         have:=rb.1.1
         simp only at h0
         rw [h0] at this
         simp at this h3
         omega
        ·
         have:=rb.1.2 c hc
         unfold oG at this
         simp only [Bool.and_eq_true,decide_eq_true_eq] at this
         exact this
       ·
        injection h2 with h2;subst h2
        exact add _ (fun h=>by cases h)
theorem Fg (K:Nat):∀(n:Nat) (l:List Tok) (hh:List Nat) (q:Nm),q.length≤n→MK l hh q→(∀t∈l,GV t)→(∀L,mF K (l,hh,q)=.ok L→Bf L∧L.length≤5001)∧(∀y,mF K (l,hh,q)=.error y→y.1≠0):=by
 intro n
 induction n with
 | zero=>
   intro l hh q hq hst rb
   obtain rfl:=List.length_eq_zero_iff.1 (Nat.le_zero.1 hq)
   rw [oC]
   split
   ·
    refine ⟨fun L hL=>?_,fun y hy=>(by cases hy)⟩
    injection hL with hL;subst hL
    have:=hst.len
    refine ⟨⟨⟨l,_,rfl,rfl⟩,fun t ht=>?_,by simp at this ⊢;omega⟩,by simp at this ⊢;omega⟩
    rcases List.mem_append.1 ht with ht | ht
    · exact ⟨(hst.bd t ht).2,rb t ht⟩
    ·
     obtain rfl:=List.mem_singleton.1 ht
     exact ⟨by simp,fun h=>by cases h⟩
   ·
    refine ⟨fun L hL=>(by cases hL),fun y hy=>?_⟩
    injection hy with hy;subst hy
    exact (by decide:(20:Int)≠0)
 | succ n ih=>
   intro l hh q hq hst rb
   cases q with
   | nil=>exact ih l hh [] (by simp) hst rb
   | cons c q=>
     rw [dn K l hh (by simp)]
     cases hc:eY (K - nl (c::q)) l hh (c::q) with
     | error e=>
       refine ⟨fun L hL=>(by cases hL),fun y hy=>?_⟩
       injection hy with hy;subst hy
       exact Wn _ _ _ _ e hc
     | ok x=>
       have hlt:x.2.2.length < (c::q).length:=one_len (by simp) hc
       exact ih x.1 x.2.1 x.2.2 (by simp at hq hlt;omega) (NG hst hc) (F5 hc rb)
theorem oN {s:Nm} (hs:s.length≤4096):(∀L,allM s=.ok L→Bf L∧L.length≤5001)∧(∀y,allM s=.error y→y.1≠0):=
 Fg (1+nl s) s.length [] [] s (Nat.le_refl _) ⟨fun i hi=>absurd hi List.not_mem_nil,Nat.le_refl _,by simp;omega,fun t ht=>absurd ht List.not_mem_nil⟩ (fun t ht=>absurd ht List.not_mem_nil)
def nV (W:World) (x:Except (Int × Nat) (List Nd)) (r:Ending) (W':World):Prop:=
 Below W.heap.size W W'∧match x with
  | .error y=>r=.returned (.tuple #[.agg #[.slice none 0 0],.int .i64 y.1,.int .i64 (y.2:Int)])
  | .ok l=>∃v,r=.returned (.tuple #[.agg #[v],.int .i64 0,.int .i64 0])∧lu W' W.heap.size (fun g=>W.heap.size≤g) v l
theorem lu.mono {W:World} {B B':Nat} {P:Nat→Prop} {v:Value} {l:List Nd} (h:lu W B P v l) (hb:B'≤B):lu W B' P v l:=by
 obtain ⟨zs,h1,h2,h3⟩:=h
 exact ⟨zs,h1,sM h2 hb,h3⟩
theorem vO {W:World} {B:Nat} {v:Value} {L:List Tok} (hL:L≠[]) (h:W.ownsRow B mK 4 v L.length (L.flatMap rT)):ug W W.heap.size v L:=by
 obtain ⟨g,cap,cur,rfl,hgb,hg,hcn,hcm,Vx,MF⟩:=Sl.vI h (List.length_pos_iff.2 hL)
 refine ⟨g,0,cap,rfl,hcn,hcm,(Array.getElem?_eq_some_iff.1 hg).1,fun j x hx=>?_⟩
 rw [←MF,List.getElem?_take] at hx
 split at hx
 ·
  unfold World.cell?
  rw [hg]
  simpa using hx
 · cases hx
theorem Cb {s:Nm} {L:List Tok} (h:allM s=.ok L):cI s=match sx ([],L) with
  | .error e=>.error e
  | .ok x=>.ok x.2.1:=by
 unfold cI sx
 rw [h]
 simp only
 cases aO (nestD 40) true ([],L) with
 | error e=>rfl
 | ok x=>
   by_cases hk:(nx x.2).k=4<;>simp [bd,hk,er]
theorem I9 {w:World} {ad:Addr} {v:Value} (h:w.cell? ad=some v):(Instr.loadAt uy (.pointer (some ad))).run Tryz.prog w=.ok v w:=Ap.aW (by simp [isAgg]) h
theorem zR (W:World):∃w1,((W.alloc (.cells #[.slice none 0 0] BJ)).alloc (.cells #[.int .i64 0] uy)).alloc (.cells #[.int .i64 0] dU)=w1∧
 w1.heap[W.heap.size]? =some (.cells #[.slice none 0 0] BJ)∧w1.heap[W.heap.size+1]? =some (.cells #[.int .i64 0] uy)∧w1.heap[W.heap.size+1+1]? =some (.cells #[.int .i64 0] dU)∧
 Below W.heap.size W w1∧w1.heap.size=W.heap.size+1+1+1:=by
 obtain ⟨h0,h1,h2⟩:=Ap.Jg W (.cells #[.slice none 0 0] BJ) (.cells #[.int .i64 0] uy) (.cells #[.int .i64 0] dU)
 have hB:=(((Below.refl W.heap.size W).alloc (Nat.le_refl _) (.cells #[.slice none 0 0] BJ)).alloc (by simp only [World.size_alloc];omega) (.cells #[.int .i64 0] uy)).alloc (by simp only [World.size_alloc];omega) (.cells #[.int .i64 0] dU)
 exact ⟨_,rfl,h0,h1,h2,hB,by simp only [World.size_alloc]⟩
theorem pn (W:World) (s:Nm) (hs:s.length≤4096) (hO:sB W) (hG:M4 W W.heap.size):Calls Tryz.prog 6 #[.string (str s)] W (nV W (cI s)):=by
 have QU:∀(fn:Fn) (first cap:Array Value) (w:World),(Instr.makeFunc fn first cap).run Tryz.prog w=.ok (.func fn first cap) w:=fun _ _ _ _=>rfl
 obtain ⟨w1,gZ,hp,hq,hr,hb,hsz⟩:=zR W
 have qa:Hid (((W.alloc (.cells #[.slice none 0 0] BJ)).alloc (.cells #[.int .i64 0] uy)).alloc (.cells #[.int .i64 0] dU)=w1):=gZ
 have HP:=Lib.hid hp
 have HQ:=Lib.hid hq
 have HR:=Lib.hid hr
 have HB:=Lib.hid hb
 have HZ:=Lib.hid hsz
 have Cz:Hid (sB w1):=hO.below hb hO.lt
 have X3:Hid (M4 w1 W.heap.size):=hG.below hb
 have HS:Hid (s.length≤4096):=hs
 clear gZ hp hq hr hb hsz hO hG hs
 obtain ⟨N,hN⟩:∃N,W.heap.size=N:=⟨_,rfl⟩
 have HN:=Lib.hid hN
 rw [hN] at HP HQ HR HZ X3 HB
 clear hN
 obtain ⟨Z,hZ⟩:∃Z,cI s=Z:=⟨_,rfl⟩
 have E4:=Lib.hid hZ
 rw [hZ]
 clear hZ
 go_enter_defers Tryz.func6,Tryz.ntmps6
 go_wp2_with fail
 rw [qa.out,HN.out]
 refine (JO w1 s HS.out Cz.out).mono ?_
 rintro r w2 ⟨hb2,hr⟩
 have dp:Hid (Below (N+1+1+1) w1 w2):=by show Below _ _ _;rw [←HZ.out];exact hb2
 have oy:Hid (N+1+1+1≤w2.heap.size):=by have:=dp.out.size;have:=HZ.out;show _≤_;omega
 have fh:w2.heap[N]? =some (.cells #[.slice none 0 0] BJ):=(dp.out.block N (by omega)).trans HP.out
 have sK:w2.heap[N+1]? =some (.cells #[.int .i64 0] uy):=(dp.out.block (N+1) (by omega)).trans HQ.out
 have hr2:w2.heap[N+1+1]? =some (.cells #[.int .i64 0] dU):=(dp.out.block (N+1+1) (by omega)).trans HR.out
 obtain ⟨m0,n0⟩:=cell_of fh
 obtain ⟨m1,n1⟩:=cell_of sK
 obtain ⟨m2,n2⟩:=cell_of hr2
 have hc0:br w2 w2 N (N+1) (N+1+1) (.slice none 0 0) (.int .i64 0) (.int .i64 0):=⟨fh,sK,hr2,rfl,rfl,rfl,rfl,fun _ _ _ _ _=>rfl⟩
 have e01:¬N+1=N:=by omega
 have e02:¬N+1+1=N:=by omega
 have zg:¬N+1+1=N+1:=by omega
 have HT:=Lib.hid (oN HS.out)
 have QG:Hid (Below N W w2):=by
  have h0:Below N W w1:=HB.out
  exact h0.trans (dp.out.mono (by omega))
 clear hb2 fh sK hr2
 obtain ⟨Y,hY⟩:∃Y,allM s=Y:=⟨_,rfl⟩
 have HY:=Lib.hid hY
 rw [hY] at hr
 clear hY
 cases Y with
 | error y=>
   obtain rfl:=hr
   have hne:=HT.out.2 y HY.out
   have e1:(y.1==0)=false:=by rw [beq_eq_false_iff_ne];exact hne
   have e2:(y.1 != 0)=true:=by rw [bne_iff_ne];exact hne
   have e3:decide (y.1=0)=false:=decide_eq_false hne
   have hc1:=(hc0.setq (.int .i64 y.1)).setr (.int .i64 (y.2:Int))
   obtain ⟨w3,hw3⟩:∃w3,(w2.setCell ⟨N+1,0,none⟩ (.int .i64 y.1)).setCell ⟨N+1+1,0,none⟩ (.int .i64 (y.2:Int))=w3:=⟨_,rfl⟩
   rw [hw3] at hc1
   have vg:=Lib.hid hc1
   have hq3:=cell_of hc1.hq
   obtain ⟨k1,l1⟩:=hq3
   clear hc0 hc1 hne
   go_upto_region 3 with fail
   apply iO (by kernel_rfl)
   have HCd:Hid (br w2 w3.drew N (N+1) (N+1+1) (.slice none 0 0) (.int .i64 y.1) (.int .i64 (y.2:Int))):=⟨vg.out.hp,vg.out.hq,vg.out.hr,vg.out.os,vg.out.tape,vg.out.output,vg.out.size,vg.out.block⟩
   refine Rq.pZ 0 [] [Rg.Is (.agg #[.slice none 0 0]),Rg.Is (.int .i64 y.1),Rg.Is (.int .i64 (y.2:Int)),(fun _ _=>True),(fun _ _=>True),(fun _ _=>True)] (fun _ _=>True) (fun ls x'=>br w2 x' N (N+1) (N+1+1) (.slice none 0 0) (.int .i64 y.1) (.int .i64 (y.2:Int))) (fun _ _ _=>True) (by kernel_rfl) (of_decide_eq_true (by kernel_rfl)) (by kernel_rfl) (by kernel_rfl) trivial ?_ ?_ (fun _ _ _ _ _=>trivial) ⟨?_,?_,?_,?_,?_,?_,trivial⟩ ?_ ?_ trivial ?_
   ·
    intro i hi
    match i,hi with
    | j+0,hi=>exact absurd hi (by omega)
   ·
    intro i k u x y _ _ h1 _
    match i,h1 with
    | 0,h1=>exact h1
    | 1,h1=>exact h1
    | 2,h1=>exact h1
    | 3,h1=>exact h1
    | 4,h1=>exact h1
    | 5,h1=>exact h1
    | _+6,_=>trivial
   ·
    intro b9 x ls _ hS ai bI bf hk
    exact Rp.ag (yy ⟨trivial,rfl,hS⟩)
   ·
    intro b9 x ls _ hS ai bI bf hk
    have h3:b9.eval (.tmp 3)=.pointer (some ⟨N+1,0,none⟩):=Eq.mp (by kernel_rfl) (hk 3 (by decide))
    exact Rp.ag (Rg.aK _ _ h3 (I9 (cell_of hS.hq).1) ⟨trivial,rfl,hS⟩)
   ·
    intro b9 x ls _ hS ai bI bf hk
    have h4:b9.eval (.tmp 4)=.pointer (some ⟨N+1+1,0,none⟩):=Eq.mp (by kernel_rfl) (hk 4 (by decide))
    exact Rp.ag (Rg.aK _ _ h4 (mE (cell_of hS.hr).1) ⟨trivial,rfl,hS⟩)
   ·
    intro b9 x ls _ hS ai bI bf hk
    have h2:b9.eval (.tmp 2)=.pointer (some ⟨N,0,none⟩):=Eq.mp (by kernel_rfl) (hk 2 (by decide))
    have Dr:b9.eval (.tmp 15)=.agg #[.slice none 0 0]:=Eq.mp (by kernel_rfl) (hk 15 (by decide))
    exact Rq.kY N 0 #[.slice none 0 0] h2 Dr (ez hS.hp) (by kernel_rfl) (by kernel_rfl) ⟨trivial,trivial,hS.setp _⟩
   ·
    intro b9 x ls _ hS ai bI bf hk
    have h3:b9.eval (.tmp 3)=.pointer (some ⟨N+1,0,none⟩):=Eq.mp (by kernel_rfl) (hk 3 (by decide))
    have Fo:b9.eval (.tmp 16)=.int .i64 y.1:=Eq.mp (by kernel_rfl) (hk 16 (by decide))
    exact Rq.cN (N+1) 0 _ h3 Fo rfl rfl (ez hS.hq) (by kernel_rfl) ⟨trivial,trivial,hS.setq _⟩
   ·
    intro b9 x ls _ hS ai bI bf hk
    have h4:b9.eval (.tmp 4)=.pointer (some ⟨N+1+1,0,none⟩):=Eq.mp (by kernel_rfl) (hk 4 (by decide))
    have G1:b9.eval (.tmp 17)=.int .i64 (y.2:Int):=Eq.mp (by kernel_rfl) (hk 17 (by decide))
    exact Rq.cN (N+1+1) 0 _ h4 G1 rfl rfl (ez hS.hr) (by kernel_rfl) ⟨trivial,trivial,hS.setr _⟩
   · exact fun ls mC x' h hS=>hS
   ·
    intro vals wE ls _ hS hall hL
    have hc:br w2 wE N (N+1) (N+1+1) (.slice none 0 0) (.int .i64 y.1) (.int .i64 (y.2:Int)):=hS
    have k0:=(cell_of hc.hp).1
    have k1:=(cell_of hc.hq).1
    have k2:=(cell_of hc.hr).1
    have hb3:Below N w2 wE:=hc.below (Nat.le_refl _) (by omega) (by omega) (by have:=oy.out;omega)
    have HF:Hid (nV W Z (.returned (.tuple #[.agg #[.slice none 0 0],.int .i64 y.1,.int .i64 (y.2:Int)])) wE):=by
     show nV _ _ _ _
     have hz:Z=.error y:=by rw [←E4.out];unfold cI;rw [HY.out]
     rw [hz]
     exact ⟨by rw [HN.out];exact QG.out.trans hb3,rfl⟩
    clear hc hb3 hS
    go_wp2_with fail
    simp [Rg.bh,bodyPostD,Leaves,settle,results,Tryz.results6,go_sem,k0,k1,k2]
    exact HF.out
   · exact HCd.out
 | ok L=>
   obtain ⟨vL,rfl,hown⟩:=hr
   have uU:=HT.out.1 L HY.out
   have hc1:=(hc0.setq (.int .i64 0)).setr (.int .i64 0)
   obtain ⟨w3,hw3⟩:∃w3,(w2.setCell ⟨N+1,0,none⟩ (.int .i64 0)).setCell ⟨N+1+1,0,none⟩ (.int .i64 0)=w3:=⟨_,rfl⟩
   rw [hw3] at hc1
   have vg:=Lib.hid hc1
   rw [HZ.out] at hown
   have Eu:w3.ownsRow (N+1+1+1) mK 4 vL L.length (L.flatMap rT):=bG hown (fun j X hj hX=>by
    have:=(hown.lt j hj).1
    exact hc1.block j (Array.getElem?_eq_some_iff.1 hX).1 (by omega) (by omega) (by omega))
   have T2:L≠[]:=by obtain ⟨l,t,h,_⟩:=uU.1.last;rw [h];simp
   have gI:=vO T2 Eu
   have lK:=gI
   obtain ⟨gT,oT,cT,hvL,_⟩:=lK
   subst hvL
   obtain ⟨M,hM⟩:∃M,w3.heap.size=M:=⟨_,rfl⟩
   have hM3:N+1+1+1≤M:=by rw [←hM,hc1.size];exact oy.out
   obtain ⟨w4,hw4⟩:∃w4,w3.alloc (.cells #[.slice none 0 0,.slice (some ⟨gT,oT,none⟩) L.length cT,.int .i64 0] PK)=w4:=⟨_,rfl⟩
   have hb4:Below M w3 w4:=by rw [←hw4,←hM];exact (Below.refl _ _).alloc (Nat.le_refl _) _
   have SV:w4.heap[M]? =some (.cells #[.slice none 0 0,.slice (some ⟨gT,oT,none⟩) L.length cT,.int .i64 ((0:Nat):Int)] PK):=by rw [←hw4,←hM];exact heap_alloc_new _ _
   have B4:w4.heap.size=M+1:=by rw [←hw4,World.size_alloc,hM]
   rw [hM] at gI
   have CH:Below N w1 w3:=(dp.out.mono (by omega)).trans (hc1.below (Nat.le_refl _) (by omega) (by omega) (by have:=oy.out;omega))
   have Im:Hid (Rd w4 M M (fun g=>N+1+1+1≤g) (.slice none 0 0) ([],L) 0):=
    ⟨⟨_,SV,gI.below hb4⟩,Nat.le_refl _,⟨[],rfl,World.ownsRow_nil _ _ _ _,fun x hx=>absurd hx List.not_mem_nil⟩,uU.1,Nat.zero_le _,(X3.out.below (CH.trans (hb4.mono (by omega)))).less (by omega)⟩
   have et:=Lib.hid (Br w4 M M (fun g=>N+1+1+1≤g) (.slice none 0 0) ([],L) Im.out (fun g hg=>by omega) (by have:=uU.2;unfold ph;simp;omega))
   have HZp:Hid (Z=match sx ([],L) with | .error e=>.error e | .ok x=>.ok x.2.1):=by show _=_;rw [←E4.out];exact Cb HY.out
   have iE:Hid (Below N w2 w3∧Below M w3 w4∧w4.heap.size=M+1∧N+1+1+1≤M):=⟨hc1.below (Nat.le_refl _) (by omega) (by omega) (by have:=oy.out;omega),hb4,B4,hM3⟩
   have k1:=(cell_of hc1.hq).1
   clear hc0 hc1 hown Eu T2 gI uU hb4 SV B4 hM3 CH
   go_wp2_with fail
   refine et.out.mono ?_
   rintro r w5 hp
   have XR:Below M w4 w5:=by
    rcases av hp with ⟨er,_,_,hb⟩ | ⟨y,u,v',_,_,_,ht,_⟩
    · exact hb
    · exact ht.below (Nat.le_refl _) (fun g hg=>by cases hg) (by have:=iE.out.2.2.1;omega)
   have jw:Hid (Below M w3 w5):=iE.out.2.1.trans XR
   have hM3:=iE.out.2.2.2
   have Ho:w5.heap[N]? =some (.cells #[.slice none 0 0] BJ):=(jw.out.block N (by omega)).trans vg.out.hp
   have Wb:w5.heap[N+1]? =some (.cells #[.int .i64 0] uy):=(jw.out.block (N+1) (by omega)).trans vg.out.hq
   have Ch:w5.heap[N+1+1]? =some (.cells #[.int .i64 0] dU):=(jw.out.block (N+1+1) (by omega)).trans vg.out.hr
   have ZY:Hid (Below N W w5):=(QG.out.trans iE.out.1).trans (jw.out.mono (by omega))
   have hs5:N+1+1+1≤w5.heap.size:=by have:=jw.out.size;have:=vg.out.size;have:=oy.out;omega
   have Io:=Lib.hid hs5
   clear XR hs5 k1 m0 m1 m2 n0 n1 n2
   rcases av hp with ⟨er,cy,rfl,hb⟩ | ⟨y,u,v',aI,rfl,he,ht,sZ⟩
   ·
    have HZe:Hid (Z=.error er):=by show _=_;rw [HZp.out,cy]
    clear hp cy hb
    refine leaves_cons (f:=12) (args:=#[.pointer (some ⟨N,0,none⟩),.pointer (some ⟨N+1,0,none⟩),.pointer (some ⟨N+1+1,0,none⟩)]) (by simp) (by simp [go_sem]) ?_
    refine (lM N (N+1) (N+1+1) _ _ _ er.1 er.2 [] w5 Ho Wb Ch).mono ?_
    rintro r u' w6 ⟨rfl,rfl,hc⟩
    have k0:=(cell_of hc.hp).1
    have k1:=(cell_of hc.hq).1
    have k2:=(cell_of hc.hr).1
    have iY:Below N w5 w6:=hc.below (Nat.le_refl _) (by omega) (by omega) (by have:=Io.out;omega)
    have HF:Hid (nV W Z (.returned (.tuple #[.agg #[.slice none 0 0],.int .i64 er.1,.int .i64 (er.2:Int)])) w6):=by
     show nV _ _ _ _
     rw [HZe.out]
     exact ⟨by rw [HN.out];exact ZY.out.trans iY,rfl⟩
    clear hc iY Ho Wb Ch
    simp [Leaves,settle,results,Tryz.results6,go_sem,k0,k1,k2]
    exact HF.out
   ·
    have HZo:Hid (Z=.ok y.2.1):=by show _=_;rw [HZp.out,aI]
    have bX:u=.tuple #[]:=he
    subst bX
    have Tz:=Lib.hid sZ
    have hrow:=sZ.row
    obtain ⟨zs,_,hown,_⟩:=hrow
    obtain ⟨a9,c9,hv9,_⟩:=aA hown
    obtain ⟨L9,hL9⟩:∃L9,y.2.1.length=L9:=⟨_,rfl⟩
    rw [hL9] at hv9
    subst hv9
    obtain ⟨u9,fV,_⟩:=sZ.box
    obtain ⟨⟨c0,c1,c2⟩,f0,f1,f2⟩:=fC fV
    obtain ⟨m0,n0⟩:=cell_of Ho
    obtain ⟨m1,n1⟩:=cell_of Wb
    obtain ⟨m2,n2⟩:=cell_of Ch
    have hc0:br w5 w5 N (N+1) (N+1+1) (.slice none 0 0) (.int .i64 0) (.int .i64 0):=⟨Ho,Wb,Ch,rfl,rfl,rfl,rfl,fun _ _ _ _ _=>rfl⟩
    have Xg:=((hc0.setp (.slice a9 L9 c9)).setq (.int .i64 0)).setr (.int .i64 0)
    obtain ⟨w6,xl⟩:∃w6,((w5.setCell ⟨N,0,none⟩ (.slice a9 L9 c9)).setCell ⟨N+1,0,none⟩ (.int .i64 0)).setCell ⟨N+1+1,0,none⟩ (.int .i64 0)=w6:=⟨_,rfl⟩
    rw [xl] at Xg
    have HC6:=Lib.hid Xg
    clear hp he aI ht sZ hown fV Ho Wb Ch hc0 Xg hL9
    go_wp2_with fail
    refine leaves_cons (f:=12) (args:=#[.pointer (some ⟨N,0,none⟩),.pointer (some ⟨N+1,0,none⟩),.pointer (some ⟨N+1+1,0,none⟩)]) (by simp) (by simp [go_sem]) ?_
    refine (qR N (N+1) (N+1+1) _).mono ?_
    rintro r u' w7 ⟨rfl,rfl,Ro⟩
    have W4:Hid (br w5 w7 N (N+1) (N+1+1) (.slice a9 L9 c9) (.int .i64 0) (.int .i64 0)):=by show br _ _ _ _ _ _ _ _;rw [Ro];exact HC6.out
    clear Ro m0 m1 m2 n0 n1 n2 c0 c1 c2 f0 f1 f2 xl HC6
    have k0:=(cell_of W4.out.hp).1
    have k1:=(cell_of W4.out.hq).1
    have k2:=(cell_of W4.out.hr).1
    have zE:Below N w5 w7:=W4.out.below (Nat.le_refl _) (by omega) (by omega) (by have:=Io.out;omega)
    have HF:Hid (nV W Z (.returned (.tuple #[.agg #[.slice a9 L9 c9],.int .i64 0,.int .i64 0])) w7):=by
     show nV _ _ _ _
     rw [HZo.out]
     refine ⟨by rw [HN.out];exact ZY.out.trans zE,_,rfl,?_⟩
     rw [HN.out]
     have hown:=Tz.out.own
     refine ((Tz.out.row.mono (B':=N) (by omega)).keep (fun g X hg hX=>?_) (fun g X t hg hX _=>?_)).less (fun g hg _=>by omega)
     ·
      have:=(hown g hg).1
      exact W4.out.block g (Array.getElem?_eq_some_iff.1 hX).1 (by omega) (by omega) (by omega)
     · exact W4.out.block g (Array.getElem?_eq_some_iff.1 hX).1 (by omega) (by omega) (by omega)
    clear zE
    simp [Leaves,settle,results,Tryz.results6,go_sem,k0,k1,k2]
    exact HF.out
structure Jr (W:World) (P:Nat→Prop) (b1 o:Nat) (n:Nd) (uw ur uk:Value):Prop where
 cells:∀(j:Nat) (x:Value),(BW n uw ur uk)[j]? =some x→W.cell? ⟨b1,o+j,none⟩=some x
 rows:Rows W P n uw ur uk
theorem Jr.below {W W':World} {P:Nat→Prop} {b1 o:Nat} {n:Nd} {uw ur uk:Value} (h:Jr W P b1 o n uw ur uk) (hb:Below W.heap.size W W'):Jr W' P b1 o n uw ur uk:=
 ⟨fun j x hx=>a7 hb (Nat.le_refl _) (h.cells j x hx),h.rows.below hb⟩
theorem fZ {W:World} {B:Nat} {P:Nat→Prop} {v:Value} {l:List Nd} (h:lu W B P v l):∃a c,v=.slice a l.length c∧∃b1 off,(∀(k:Nat) (n:Nd),l[k]? =some n→∃uw ur uk,Jr W P b1 (off+k * 8) n uw ur uk)∧
 ∀(k:Nat) (w':World),k < l.length→(Instr.indexAt 23 (.slice a l.length c) (.int .i64 (k:Int))).run Tryz.prog w'=.ok (.pointer (some ⟨b1,off+k * 8,none⟩)) w':=by
 obtain ⟨i0,iy,hz0,hz1,hz2⟩:=info_parts Hm
 obtain ⟨zs,rfl,hown,hrow⟩:=h
 have hl:(zs.map (·.1)).length=zs.length:=List.length_map _
 rw [hl] at hown ⊢
 obtain ⟨a,c,rfl,hr⟩:=Ap.tR (by decide) Ve hown
 obtain ⟨b1,off,h1,h2⟩:=hr.at (P:=Tryz.prog)
 refine ⟨a,c,rfl,b1,off,fun k n hk=>?_,fun k w' hk=>h2 23 gv i0 Tryz.underlying23 iy hz1 .i64 k w' hk⟩
 rw [List.getElem?_map] at hk
 cases hz:zs[k]? with
 | none=>rw [hz] at hk;cases hk
 | some z=>
   rw [hz] at hk
   injection hk with hk
   subst hk
   obtain ⟨hk,rfl⟩:=List.getElem?_eq_some_iff.1 hz
   exact ⟨_,_,_,fun j x hx=>h1 k hk j x hx,hrow _ (List.getElem_mem hk)⟩
theorem Dv {W:World} {B:Nat} {v:Value} {l:List Nm} (h:W.ownsRow B eZ 1 v l.length (l.map sv)):∃a c,v=.slice a l.length c∧∃b1 off,(∀(k:Nat) (x:Nm),l[k]? =some x→W.cell? ⟨b1,off+k,none⟩=some (.string (str x)))∧∀(k:Nat) (w':World),k < l.length→(Instr.indexAt 33 (.slice a l.length c) (.int .i64 (k:Int))).run Tryz.prog w'=.ok (.pointer (some ⟨b1,off+k,none⟩)) w':=by
 obtain ⟨i0,iy,hz0,hz1,hz2⟩:=info_parts pS
 obtain ⟨a,c,rfl,hr⟩:=iC (R:=fun w b o (n:Nm)=>w.cell? ⟨b,o,none⟩=some (.string (str n))) h (fun _ _ _ h=>h)
 obtain ⟨b1,off,h1,h2⟩:=hr.at (P:=Tryz.prog)
 exact ⟨a,c,rfl,b1,off,fun k x hx=>by obtain ⟨hk,rfl⟩:=List.getElem?_eq_some_iff.1 hx;simpa using h1 k hk,fun k w' hk=>by simpa using h2 33 eZ i0 Tryz.underlying33 iy hz1 .i64 k w' hk⟩
theorem Ag {W:World} {B:Nat} {v:Value} {l:List dZ} (h:W.ownsRow B gO 4 v l.length (l.flatMap lr)):∃a c,v=.slice a l.length c∧∃b1 off,(∀(k:Nat) (x:dZ),l[k]? =some x→Ap.sW lr W b1 (off+k * 4) x)∧∀(k:Nat) (w':World),k < l.length→(Instr.indexAt 34 (.slice a l.length c) (.int .i64 (k:Int))).run Tryz.prog w'=.ok (.pointer (some ⟨b1,off+k * 4,none⟩)) w':=by
 obtain ⟨i0,iy,hz0,hz1,hz2⟩:=info_parts vS
 obtain ⟨a,c,rfl,hr⟩:=Ap.tR (by decide) B6 h
 obtain ⟨b1,off,h1,h2⟩:=hr.at (P:=Tryz.prog)
 exact ⟨a,c,rfl,b1,off,fun k x hx=>by obtain ⟨hk,rfl⟩:=List.getElem?_eq_some_iff.1 hx;exact h1 k hk,fun k w' hk=>h2 34 gO i0 Tryz.underlying34 iy hz1 .i64 k w' hk⟩
structure Gl (W:World):Prop where
 sig:sB W
 glb:M4 W W.heap.size
theorem Gl.below {W W':World} (h:Gl W) (hb:Below W.heap.size W W'):Gl W':=⟨h.sig.below hb h.sig.lt,(h.glb.below hb).less hb.size⟩
end Go.Proofs.YtiklkhbfilbpeaaGreatDoor.Sx
