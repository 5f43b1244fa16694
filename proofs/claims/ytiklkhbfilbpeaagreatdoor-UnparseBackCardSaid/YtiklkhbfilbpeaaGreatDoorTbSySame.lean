import Derived.Test.YtiklkhbfilbpeaaGreatDoorTbGSyG
import Derived.Laws.StructEq
set_option maxRecDepth 100000
set_option maxHeartbeats 16000000
set_option linter.unusedVariables false
set_option linter.unusedSimpArgs false
namespace Go.Proofs.YtiklkhbfilbpeaaGreatDoor.Sx
open Go.RowKit Base Lx Sy
def vQ:Value→Nat
 | .int _ z=>z.toNat
 | _=>0
theorem tU {α:Type} {l m:List α} {i:Nat} (h:l.take i=m.take i) (hl:i < l.length) (hm:i < m.length) (e:l[i]=m[i]):l.take (i+1)=m.take (i+1):=by
 rw [List.take_succ_eq_append_getElem hl,List.take_succ_eq_append_getElem hm,h,e]
theorem Eh (W:World) (B1 B2:Nat) (u1 u2:Value) (l1 l2:List Nm) (h1:W.ownsRow B1 eZ 1 u1 l1.length (l1.map sv)) (h2:W.ownsRow B2 eZ 1 u2 l2.length (l2.map sv)):
 Calls Tryz.prog 41 #[u1,u2] W fun r W'=>r=.returned (.bool (decide (l1=l2)))∧Below W.heap.size W W':=by
 have hm:l1.length≤9223372036854775807:=by
  obtain ⟨_,_,_,h3,h4,_⟩:=aA h1
  have:maxLen=9223372036854775807:=rfl
  omega
 obtain ⟨a1,c1,rfl,b1,o1,hc1,VP⟩:=Dv h1
 obtain ⟨a2,c2,rfl,b2,o2,hc2,LH⟩:=Dv h2
 obtain ⟨n1,uz⟩:∃n,l1.length=n:=⟨_,rfl⟩
 obtain ⟨n2,bO⟩:∃n,l2.length=n:=⟨_,rfl⟩
 rw [uz] at VP hm ⊢
 rw [bO] at LH ⊢
 have vg:=Lib.hid hc1
 have X8:=Lib.hid hc2
 have Sp:=Lib.hid VP
 have FL:=Lib.hid LH
 have qB:=Lib.hid uz
 have dA:=Lib.hid bO
 clear h1 h2 hc1 hc2 VP LH uz bO
 go_enter Tryz.func41,Tryz.ntmps41
 by_cases hl:n1=n2
 case neg=>
  have hf:decide (l1=l2)=false:=decide_eq_false fun e=>hl (by rw [←qB.out,←dA.out,e])
  have t1:((n1:Int)==(n2:Int))=false:=by rw [beq_eq_false_iff_ne];omega
  have t2:((n1:Int) != (n2:Int))=true:=by rw [bne_iff_ne];omega
  have t3:decide ((n1:Int)=(n2:Int))=false:=decide_eq_false (by omega)
  rw [hf]
  go_wp2_with fail
  go_ret
  exact ⟨rfl,Below.refl _ _⟩
 case pos=>
  subst hl
  have t1:((n1:Int)==(n1:Int))=true:=by simp
  have t2:((n1:Int) != (n1:Int))=false:=by simp
  go_upto_region 4 with fail
  clear t1 t2
  go_loopw [5] (fun v5 wr=>∃i:Nat,i≤n1∧v5=.int .i64 (i:Int)∧l1.take i=l2.take i∧Below W.heap.size W wr) (fun v5 _=>n1 - vQ v5)
  case atStart=>exact ⟨0,Nat.zero_le _,rfl,by simp,Below.refl _ _⟩
  case round=>
   obtain ⟨i,hi,rfl,ht,hb⟩:=hrel
   have HT:=Lib.hid ht
   have HB:=Lib.hid hb
   by_cases hlt:i < n1
   case pos=>
    have p3:decide (i < n1)=true:=decide_eq_true (by omega)
    have p1:decide ((i:Int) < (n1:Int))=true:=decide_eq_true (by omega)
    have p2:(i:Int) < (n1:Int):=by omega
    have x1:i < l1.length:=by rw [qB.out];exact hlt
    have x2:i < l2.length:=by rw [dA.out];exact hlt
    have j1:∀w,(Instr.indexAt 33 (.slice a1 n1 c1) (.int .i64 (i:Int))).run Tryz.prog w=.ok (.pointer (some ⟨b1,o1+i,none⟩)) w:=fun w=>Sp.out i w hlt
    have j2:∀w,(Instr.indexAt 33 (.slice a2 n1 c2) (.int .i64 (i:Int))).run Tryz.prog w=.ok (.pointer (some ⟨b2,o2+i,none⟩)) w:=fun w=>FL.out i w hlt
    have g1:=a7 hb (Nat.le_refl _) (vg.out i _ (List.getElem?_eq_getElem x1))
    have g2:=a7 hb (Nat.le_refl _) (X8.out i _ (List.getElem?_eq_getElem x2))
    by_cases he:l1[i]=l2[i]
    ·
     have HE:Hid (l1.take (i+1)=l2.take (i+1)):=tU ht x1 x2 he
     rw [he] at g1
     obtain ⟨y,hy⟩:∃y,l2[i]=y:=⟨_,rfl⟩
     rw [hy] at g1 g2
     have t1:((str y).toList==(str y).toList)=true:=by simp
     have t2:((str y).toList != (str y).toList)=false:=by simp
     clear he hy ht hb x1 x2
     go_upto_region 6 with fail
     go_quiet (fail)
     go_wp2_with fail
     go_roundw
     case rel=>exact ⟨i+1,by omega,by go_num,HE.out,HB.out.trans ((cS _ _).mono HB.out.size)⟩
     case measure=>simp [vQ];omega
    ·
     have HF:Hid (decide (l1=l2)=false):=decide_eq_false fun e=>he (by subst e;rfl)
     obtain ⟨y,hy⟩:∃y,l2[i]=y:=⟨_,rfl⟩
     obtain ⟨x,hx⟩:∃x,l1[i]=x:=⟨_,rfl⟩
     rw [hy] at g2 he
     rw [hx] at g1 he
     have t1:((str x).toList==(str y).toList)=false:=by rw [dx,dx];simpa using he
     have t2:((str x).toList != (str y).toList)=true:=by rw [dx,dx];simpa using he
     clear he hy hx ht hb x1 x2
     go_upto_region 6 with fail
     go_quiet (fail)
     go_wp2_with fail
     go_ret
     exact ⟨by rw [HF.out];rfl,HB.out.trans ((cS _ _).mono HB.out.size)⟩
   case neg=>
    obtain rfl:i=n1:=by omega
    have p3:decide (i < i)=false:=decide_eq_false (by omega)
    have p1:decide ((i:Int) < (i:Int))=false:=decide_eq_false (by omega)
    have p2:¬((i:Int) < (i:Int)):=by omega
    have HF:Hid (decide (l1=l2)=true):=decide_eq_true (by
     have:=HT.out
     rw [List.take_of_length_le (by rw [qB.out];exact Nat.le_refl _),List.take_of_length_le (by rw [dA.out];exact Nat.le_refl _)] at this
     exact this)
    clear ht hb
    go_wp2_with fail
    go_ret
    exact ⟨by rw [HF.out];rfl,HB.out⟩
def yr (x:dZ):Value:=.agg (lr x).toArray
theorem vK {w:World} {b o:Nat} {x:dZ} (hc:Ap.sW lr w b o x):(Instr.loadAt gO (.pointer (some ⟨b,o,none⟩))).run Tryz.prog w=.ok (yr x) w:=by
 obtain ⟨d,hu,hr⟩:=Option.map_eq_some_iff.1 WB
 exact run_loadAt_mid w b o gO (lr x) d hc hu hr (by rw [B6];exact N7)
theorem IG (x y:dZ) (w:World):(binOp .neq gO (yr x) (yr y)).run Tryz.prog w=.ok (.bool (decide (x≠y))) w:=by
 obtain ⟨k,a,b,n⟩:=x
 obtain ⟨k2,c,d,n2⟩:=y
 have u9:=Tryz.underlying9
 have u3:=Tryz.underlying3
 have hS:Tryz.prog.underlying gO=some (.struct (Tryz.prog.fieldsOf gO)):=by kernel_rfl
 have hp:Tryz.prog.stoodInHeld gO=false:=by kernel_rfl
 have key:(Op.equalIn 10000 gO (yr ⟨k,a,b,n⟩) (yr ⟨k2,c,d,n2⟩)).run Tryz.prog w=.ok (decide ((⟨k,a,b,n⟩:dZ)=⟨k2,c,d,n2⟩)) w:=by
  unfold yr lr
  rw [show (10000:Nat)=9999+1 from rfl,run_equalIn_agg w 9999 gO _ _ hS hp]
  simp only [Program.fieldsOf,Tryz.underlying75]
  go_simp
  simp only [dx]
  have hz:((k:Int)=(k2:Int))=(k=k2):=by simp only [eq_iff_iff];omega
  have hz2:((k:Int)==(k2:Int))=(k==k2):=by rw [Bool.eq_iff_iff,beq_iff_eq,beq_iff_eq];omega
  by_cases h0:k=k2<;>by_cases h1:a=c<;>by_cases h2:b=d<;>by_cases h3:n=n2<;>simp [h0,h1,h2,h3,hz,hz2]
 have e:=run_neq_struct (P:=Tryz.prog) (t:=gO) (w:=w) (xs:=#[.int .i64 (k:Int),.string (str a),.string (str b),.string (str n)]) (ys:=#[.int .i64 (k2:Int),.string (str c),.string (str d),.string (str n2)])
 refine e.trans ?_
 refine (congrArg (fun z=>Result.andThen z _) key).trans ?_
 by_cases e:(⟨k,a,b,n⟩:dZ)=⟨k2,c,d,n2⟩<;>simp [Result.andThen,e]
theorem uB {a:Act} {w:World} {post:Value→World→Prop} {dst:Option Tmp} {x y:Operand} {u:TypeId} {ty:TypeId} {pos:String} {after:Array Edge} {guard:Option (Nat × Bool)} (X Y:dZ) (b:Bool)
 (hx:a.eval x=yr X) (hy:a.eval y=yr Y) (hr:∀w,(binOp .neq gO (yr X) (yr Y)).run Tryz.prog w=.ok (.bool b) w) (hp:post (.bool b) w):Rg.does Tryz.prog { dst,op:=.binOp .neq gO x y u,type:=ty,pos,after,guard } a w post:=by
 refine Rg.bA (v:=.bool b) ?_ hp
 have hg:=run_eqGuard_agg (P:=Tryz.prog) (w:=w) .neq gO x y (lr X).toArray (lr Y).toArray (by kernel_rfl)
 have h:=hr w
 unfold yr at h hx hy
 simp [execOp,hx,hy,hg,h,Result.andThen]
theorem LN (a b:Nd):Sy.bare a=Sy.bare b↔a.ws=b.ws∧a.k=b.k∧a.t=b.t∧a.fl=b.fl∧a.st=b.st∧a.ks=b.ks∧a.rs=b.rs:=by
 obtain ⟨k,t,f,w,s,r,q,l⟩:=a
 obtain ⟨k',t',f',w',s',r',q',l'⟩:=b
 unfold Sy.bare
 simp only [Nd.mk.injEq]
 constructor
 · rintro ⟨h1,h2,h3,h4,h5,h6,h7,_⟩;exact ⟨h4,h1,h2,h3,h5,h7,h6⟩
 · rintro ⟨h1,h2,h3,h4,h5,h6,h7⟩;exact ⟨h2,h3,h4,h1,h5,h7,h6,trivial⟩
theorem Na (w:World) (o0 o1:Obj):((w.alloc o0).alloc o1).heap[w.heap.size]? =some o0∧((w.alloc o0).alloc o1).heap[w.heap.size+1]? =some o1:=by
 obtain ⟨h0,h1,_⟩:=Ap.Jg w o0 o1 o1
 have hb:=(Below.refl ((w.alloc o0).alloc o1).heap.size ((w.alloc o0).alloc o1)).alloc (Nat.le_refl _) o1
 have hs:((w.alloc o0).alloc o1).heap.size=w.heap.size+1+1:=by simp only [World.size_alloc]
 exact ⟨by rw [←hb.block _ (by omega)];exact h0,by rw [←hb.block _ (by omega)];exact h1⟩
theorem BP {W:World} {B:Nat} {t:TypeId} {k n:Nat} {v:Value} {cs:List Value} (h:W.ownsRow B t k v n cs):n≤9223372036854775807:=by
 obtain ⟨_,_,_,h3,h4,_⟩:=aA h
 have:maxLen=9223372036854775807:=rfl
 omega
theorem DK {W:World} {B:Nat} {v:Value} {l:List Nat} (h:W.ownsRow B dU 1 v l.length (l.map iv)):∃a c,v=.slice a l.length c∧∃b1 off,(∀(k:Nat) (x:Nat),l[k]? =some x→W.cell? ⟨b1,off+k,none⟩=some (.int .i64 (x:Int)))∧∀(k:Nat) (w':World),k < l.length→(Instr.indexAt 35 (.slice a l.length c) (.int .i64 (k:Int))).run Tryz.prog w'=.ok (.pointer (some ⟨b1,off+k,none⟩)) w':=ints_at (hh:=l) h
theorem rp (W:World) (P1 P2:Nat→Prop) (a b:Nd) (Ws Vg Va Wv U7 Vj:Value) (h1:Rows W P1 a Ws Vg Va) (h2:Rows W P2 b Wv U7 Vj):
 Calls Tryz.prog 17 #[.agg #[.int .i64 (a.k:Int),.string (str a.t),.bool a.fl,Ws,.int .i64 (a.st:Int),Vg,Va,.int .i64 (a.ln:Int)],.agg #[.int .i64 (b.k:Int),.string (str b.t),.bool b.fl,Wv,.int .i64 (b.st:Int),U7,Vj,.int .i64 (b.ln:Int)]] W fun r W'=>r=.returned (.bool (decide (Sy.bare a=Sy.bare b)))∧Below W.heap.size W W':=by
 have Zl:=BP h1.k
 have Zab:=BP h1.r
 have H1:=Lib.hid h1
 have H2:=Lib.hid h2
 obtain ⟨aw1,cw1,hv1,_⟩:=aA h1.w
 obtain ⟨aw2,cw2,hv2,_⟩:=aA h2.w
 obtain ⟨Um,V7,rfl,YC,Yq,T8,R3⟩:=Ag h1.r
 obtain ⟨WK,UL,rfl,ZA,ZX,WN,QX⟩:=Ag h2.r
 obtain ⟨ak1,ck1,rfl,bk1,ok1,Vi,QV⟩:=DK h1.k
 obtain ⟨ak2,ck2,rfl,bk2,ok2,Vm,Qn⟩:=DK h2.k
 subst hv1 hv2
 have zr:=Lib.hid (LN a b)
 have qa:Hid (W.ownsRow 0 eZ 1 (.slice aw1 a.ws.length cw1) a.ws.length (a.ws.map sv)):=h1.w
 have CY:Hid (W.ownsRow 0 eZ 1 (.slice aw2 b.ws.length cw2) b.ws.length (b.ws.map sv)):=h2.w
 clear h1 h2 H1 H2
 obtain ⟨k1,t1,f1,w1,s1,r1,q1,g1⟩:=a
 obtain ⟨k2,t2,f2,w2,s2,r2,q2,g2⟩:=b
 simp only at T8 WN R3 QX Vi Vm QV Qn Zl Zab zr qa CY ⊢
 obtain ⟨D,hD⟩:∃D,decide (Sy.bare (⟨k1,t1,f1,w1,s1,r1,q1,g1⟩:Nd)=Sy.bare (⟨k2,t2,f2,w2,s2,r2,q2,g2⟩:Nd))=D:=⟨_,rfl⟩
 have HD:Hid (D=decide (w1=w2∧k1=k2∧t1=t2∧f1=f2∧s1=s2∧q1=q2∧r1=r2)):=by show _=_;rw [←hD];exact decide_eq_decide.2 zr.out
 rw [hD]
 obtain ⟨G3,VY⟩:∃n,q1.length=n:=⟨_,rfl⟩
 obtain ⟨Xa,VF⟩:∃n,q2.length=n:=⟨_,rfl⟩
 obtain ⟨wO,VV⟩:∃n,r1.length=n:=⟨_,rfl⟩
 obtain ⟨Xb,VE⟩:∃n,r2.length=n:=⟨_,rfl⟩
 rw [VY] at QV Zl ⊢
 rw [VF] at Qn ⊢
 rw [VV] at R3 Zab ⊢
 rw [VE] at QX ⊢
 have Zat:=Lib.hid T8
 have ZaX:=Lib.hid WN
 have Zbn:=Lib.hid R3
 have Zbs:=Lib.hid QX
 have ZaM:=Lib.hid Vi
 have Zcc:=Lib.hid Vm
 have Zbq:=Lib.hid QV
 have Zcf:=Lib.hid Qn
 have Vc:=Lib.hid VY
 have JQ:=Lib.hid VF
 have J8:=Lib.hid VV
 have gR:=Lib.hid VE
 clear T8 WN R3 QX Vi Vm QV Qn VY VF VV VE hD zr
 go_enter Tryz.func17,Tryz.ntmps17
 go_upto_region 1 with fail
 obtain ⟨N,hN⟩:∃N,W.heap.size=N:=⟨_,rfl⟩
 obtain ⟨wA,hwA⟩:∃wA,(W.alloc (.cells #[.int .i64 (k1:Int),.string (str t1),.bool f1,.slice aw1 w1.length cw1,.int .i64 (s1:Int),.slice Um wO V7,.slice ak1 G3 ck1,.int .i64 (g1:Int)] gv)).alloc (.cells #[.int .i64 (k2:Int),.string (str t2),.bool f2,.slice aw2 w2.length cw2,.int .i64 (s2:Int),.slice WK Xb UL,.slice ak2 Xa ck2,.int .i64 (g2:Int)] gv)=wA:=⟨_,rfl⟩
 obtain ⟨hx1,hx2⟩:=Na W (.cells #[.int .i64 (k1:Int),.string (str t1),.bool f1,.slice aw1 w1.length cw1,.int .i64 (s1:Int),.slice Um wO V7,.slice ak1 G3 ck1,.int .i64 (g1:Int)] gv) (.cells #[.int .i64 (k2:Int),.string (str t2),.bool f2,.slice aw2 w2.length cw2,.int .i64 (s2:Int),.slice WK Xb UL,.slice ak2 Xa ck2,.int .i64 (g2:Int)] gv)
 have hbA:Below W.heap.size W wA:=by rw [←hwA];exact ((Below.refl _ _).alloc (Nat.le_refl _) _).alloc (by simp only [World.size_alloc];omega) _
 rw [hwA] at hx1 hx2
 rw [hN] at hx1 hx2
 rw [hwA,hN]
 obtain ⟨⟨y0,y1,y2,y3,y4,y5,y6,y7⟩,_⟩:=af hx1
 obtain ⟨⟨z0,z1,z2,z3,z4,z5,z6,z7⟩,_⟩:=af hx2
 have R5:=Lib.hid hx1
 have Ed:=Lib.hid hx2
 have HBA:=Lib.hid hbA
 have HN:=Lib.hid hN
 have HWa:=Lib.hid (bz qa.out hbA)
 have HWb:=Lib.hid (bz CY.out hbA)
 clear hx1 hx2 hbA hwA hN
 go_wp2_with fail
 refine (Eh wA 0 0 _ _ w1 w2 HWa.out HWb.out).mono ?_
 rintro r wB ⟨rfl,XB⟩
 have Bz:Hid (wB.heap[N]? =_):=(XB.block N (Array.getElem?_eq_some_iff.1 R5.out).1).trans R5.out
 have BF:Hid (wB.heap[N+1]? =_):=(XB.block (N+1) (Array.getElem?_eq_some_iff.1 Ed.out).1).trans Ed.out
 have BZ:Hid (Below W.heap.size W wB):=HBA.out.trans (XB.mono HBA.out.size)
 clear y0 y1 y2 y3 y4 y5 y6 y7 z0 z1 z2 z3 z4 z5 z6 z7 XB
 obtain ⟨⟨y0,y1,y2,y3,y4,y5,y6,y7⟩,_⟩:=af Bz.out
 obtain ⟨⟨z0,z1,z2,z3,z4,z5,z6,z7⟩,_⟩:=af BF.out
 by_cases c0:w1=w2
 case neg=>
  have HF:Hid (D=false):=by show _=_;rw [HD.out];exact decide_eq_false fun e=>c0 e.1
  have e0:decide (w1=w2)=false:=decide_eq_false c0
  rw [e0]
  clear c0
  go_wp2_with fail
  go_ret
  exact ⟨by rw [HF.out];rfl,BZ.out⟩
 have e0:decide (w1=w2)=true:=decide_eq_true c0
 rw [e0]
 by_cases c1:k1=k2
 case neg=>
  have HF:Hid (D=false):=by show _=_;rw [HD.out];exact decide_eq_false fun e=>c1 (e.2.1)
  have v1:((k1:Int)==(k2:Int))=false:=by rw [beq_eq_false_iff_ne];omega
  have v2:((k1:Int) != (k2:Int))=true:=by rw [bne_iff_ne];omega
  have v3:decide ((k1:Int)=(k2:Int))=false:=decide_eq_false (by omega)
  clear c1
  go_wp2_with fail
  go_ret
  exact ⟨by rw [HF.out];rfl,BZ.out⟩
 subst c1
 by_cases c2:t1=t2
 case neg=>
  have HF:Hid (D=false):=by show _=_;rw [HD.out];exact decide_eq_false fun e=>c2 (e.2.2.1)
  have v1:((str t1).toList==(str t2).toList)=false:=by rw [dx,dx];simpa using c2
  have v2:((str t1).toList != (str t2).toList)=true:=by rw [dx,dx];simpa using c2
  clear c2
  go_wp2_with fail
  go_ret
  exact ⟨by rw [HF.out];rfl,BZ.out⟩
 subst c2
 by_cases c3:f1=f2
 case neg=>
  have HF:Hid (D=false):=by show _=_;rw [HD.out];exact decide_eq_false fun e=>c3 (e.2.2.2.1)
  have v1:(f1==f2)=false:=by simpa using c3
  have v2:(f1 != f2)=true:=by simpa using c3
  clear c3
  go_wp2_with fail
  go_ret
  exact ⟨by rw [HF.out];rfl,BZ.out⟩
 subst c3
 by_cases c4:s1=s2
 case neg=>
  have HF:Hid (D=false):=by show _=_;rw [HD.out];exact decide_eq_false fun e=>c4 (e.2.2.2.2.1)
  have v1:((s1:Int)==(s2:Int))=false:=by rw [beq_eq_false_iff_ne];omega
  have v2:((s1:Int) != (s2:Int))=true:=by rw [bne_iff_ne];omega
  have v3:decide ((s1:Int)=(s2:Int))=false:=decide_eq_false (by omega)
  clear c4
  go_wp2_with fail
  go_ret
  exact ⟨by rw [HF.out];rfl,BZ.out⟩
 subst c4
 by_cases c5:G3=Xa
 case neg=>
  have HF:Hid (D=false):=by show _=_;rw [HD.out];exact decide_eq_false fun e=>c5 (by rw [←Vc.out,←JQ.out,e.2.2.2.2.2.1])
  have v1:((G3:Int)==(Xa:Int))=false:=by rw [beq_eq_false_iff_ne];omega
  have v2:((G3:Int) != (Xa:Int))=true:=by rw [bne_iff_ne];omega
  have v3:decide ((G3:Int)=(Xa:Int))=false:=decide_eq_false (by omega)
  clear c5
  go_wp2_with fail
  go_ret
  exact ⟨by rw [HF.out];rfl,BZ.out⟩
 subst c5
 by_cases c6:wO=Xb
 case neg=>
  have HF:Hid (D=false):=by show _=_;rw [HD.out];exact decide_eq_false fun e=>c6 (by rw [←J8.out,←gR.out,e.2.2.2.2.2.2])
  have v1:((wO:Int)==(Xb:Int))=false:=by rw [beq_eq_false_iff_ne];omega
  have v2:((wO:Int) != (Xb:Int))=true:=by rw [bne_iff_ne];omega
  have v3:decide ((wO:Int)=(Xb:Int))=false:=decide_eq_false (by omega)
  clear c6
  go_wp2_with fail
  go_ret
  exact ⟨by rw [HF.out];rfl,BZ.out⟩
 subst c6
 have HC0:=Lib.hid c0
 clear c0
 go_upto_region 5 with fail
 clear e0
 go_loopw [6] (fun v wr=>∃i:Nat,i≤G3∧v=.int .i64 (i:Int)∧q1.take i=q2.take i∧Below wB.heap.size wB wr) (fun v _=>G3 - vQ v)
 case atStart=>exact ⟨0,Nat.zero_le _,rfl,by simp,Below.refl _ _⟩
 case round=>
  obtain ⟨i,hi,rfl,ht,hb⟩:=hrel
  have HT:=Lib.hid ht
  have HB:Hid (Below W.heap.size W wr):=BZ.out.trans (hb.mono BZ.out.size)
  have Tf:=Lib.hid hb
  obtain ⟨⟨y0,y1,y2,y3,y4,y5,y6,y7⟩,_⟩:=af ((hb.block N (Array.getElem?_eq_some_iff.1 Bz.out).1).trans Bz.out)
  obtain ⟨⟨z0,z1,z2,z3,z4,z5,z6,z7⟩,_⟩:=af ((hb.block (N+1) (Array.getElem?_eq_some_iff.1 BF.out).1).trans BF.out)
  by_cases hlt:i < G3
  case pos=>
   have p3:decide (i < G3)=true:=decide_eq_true (by omega)
   have p1:decide ((i:Int) < (G3:Int))=true:=decide_eq_true (by omega)
   have p2:(i:Int) < (G3:Int):=by omega
   have x1:i < q1.length:=by rw [Vc.out];exact hlt
   have x2:i < q2.length:=by rw [JQ.out];exact hlt
   have j1:∀w,(Instr.indexAt 35 (.slice ak1 G3 ck1) (.int .i64 (i:Int))).run Tryz.prog w=.ok (.pointer (some ⟨bk1,ok1+i,none⟩)) w:=fun w=>Zbq.out i w hlt
   have j2:∀w,(Instr.indexAt 35 (.slice ak2 G3 ck2) (.int .i64 (i:Int))).run Tryz.prog w=.ok (.pointer (some ⟨bk2,ok2+i,none⟩)) w:=fun w=>Zcf.out i w hlt
   have g5:=a7 (BZ.out.trans (hb.mono BZ.out.size)) (Nat.le_refl _) (ZaM.out i _ (List.getElem?_eq_getElem x1))
   have g6:=a7 (BZ.out.trans (hb.mono BZ.out.size)) (Nat.le_refl _) (Zcc.out i _ (List.getElem?_eq_getElem x2))
   by_cases he:q1[i]=q2[i]
   ·
    have HE:Hid (q1.take (i+1)=q2.take (i+1)):=tU ht x1 x2 he
    rw [he] at g5
    obtain ⟨y,hy⟩:∃y,q2[i]=y:=⟨_,rfl⟩
    rw [hy] at g5 g6
    clear hy
    have v1:((y:Int)==(y:Int))=true:=by simp
    have v2:((y:Int) != (y:Int))=false:=by simp
    clear he ht hb x1 x2
    go_upto_region 7 with fail
    go_quiet (fail)
    go_wp2_with fail
    go_roundw
    case rel=>exact ⟨i+1,by omega,by go_num,HE.out,Tf.out.trans ((cS _ _).mono Tf.out.size)⟩
    case measure=>simp [vQ];omega
   ·
    have HF:Hid (D=false):=by show _=_;rw [HD.out];exact decide_eq_false fun e=>he (by have e2:=e.2.2.2.2.2.1;subst e2;rfl)
    obtain ⟨y,hy⟩:∃y,q2[i]=y:=⟨_,rfl⟩
    obtain ⟨x,hx⟩:∃x,q1[i]=x:=⟨_,rfl⟩
    rw [hy] at g6 he
    rw [hx] at g5 he
    have v1:((x:Int)==(y:Int))=false:=by rw [beq_eq_false_iff_ne];omega
    have v2:((x:Int) != (y:Int))=true:=by rw [bne_iff_ne];omega
    have v3:decide ((x:Int)=(y:Int))=false:=decide_eq_false (by omega)
    clear hy hx
    clear he ht hb x1 x2
    go_upto_region 7 with fail
    go_quiet (fail)
    go_wp2_with fail
    go_ret
    exact ⟨by rw [HF.out];rfl,HB.out.trans ((cS _ _).mono HB.out.size)⟩
  case neg=>
   obtain rfl:i=G3:=by omega
   have p3:decide (i < i)=false:=decide_eq_false (by omega)
   have p1:decide ((i:Int) < (i:Int))=false:=decide_eq_false (by omega)
   have p2:¬((i:Int) < (i:Int)):=by omega
   have HE:Hid (q1=q2):=by
    have:=HT.out
    rw [List.take_of_length_le (by rw [Vc.out];exact Nat.le_refl _),List.take_of_length_le (by rw [JQ.out];exact Nat.le_refl _)] at this
    exact this
   clear ht hb
   have HEq:=HE
   clear HE HT
   have Yu:=HB
   have X7:Hid (wr.heap[N]? =_):=(Tf.out.block N (Array.getElem?_eq_some_iff.1 Bz.out).1).trans Bz.out
   have ZO:Hid (wr.heap[N+1]? =_):=(Tf.out.block (N+1) (Array.getElem?_eq_some_iff.1 BF.out).1).trans BF.out
   obtain ⟨wC,hwC⟩:∃wC,wC=wr:=⟨_,rfl⟩
   subst hwC
   clear Bz BF BZ Tf HB
   have Bz:=X7
   have BF:=ZO
   have BZ:=Yu
   clear X7 ZO Yu
   go_upto_region 10 with fail
   clear y0 y1 y2 y3 y4 y5 y6 y7 z0 z1 z2 z3 z4 z5 z6 z7 p1 p2
   go_loopw [7] (fun v wr=>∃i:Nat,i≤wO∧v=.int .i64 (i:Int)∧r1.take i=r2.take i∧Below wC.heap.size wC wr) (fun v _=>wO - vQ v)
   case atStart=>exact ⟨0,Nat.zero_le _,rfl,by simp,Below.refl _ _⟩
   case round=>
    obtain ⟨i,hi,rfl,ht,hb⟩:=hrel
    have HT:=Lib.hid ht
    have HB:Hid (Below W.heap.size W wr):=BZ.out.trans (hb.mono BZ.out.size)
    have Tf:=Lib.hid hb
    obtain ⟨⟨y0,y1,y2,y3,y4,y5,y6,y7⟩,_⟩:=af ((hb.block N (Array.getElem?_eq_some_iff.1 Bz.out).1).trans Bz.out)
    obtain ⟨⟨z0,z1,z2,z3,z4,z5,z6,z7⟩,_⟩:=af ((hb.block (N+1) (Array.getElem?_eq_some_iff.1 BF.out).1).trans BF.out)
    by_cases hlt:i < wO
    case pos=>
     have p3:decide (i < wO)=true:=decide_eq_true (by omega)
     have p1:decide ((i:Int) < (wO:Int))=true:=decide_eq_true (by omega)
     have p2:(i:Int) < (wO:Int):=by omega
     have x1:i < r1.length:=by rw [J8.out];exact hlt
     have x2:i < r2.length:=by rw [gR.out];exact hlt
     have j1:∀w,(Instr.indexAt 34 (.slice Um wO V7) (.int .i64 (i:Int))).run Tryz.prog w=.ok (.pointer (some ⟨YC,Yq+i * 4,none⟩)) w:=fun w=>Zbn.out i w hlt
     have j2:∀w,(Instr.indexAt 34 (.slice WK wO UL) (.int .i64 (i:Int))).run Tryz.prog w=.ok (.pointer (some ⟨ZA,ZX+i * 4,none⟩)) w:=fun w=>Zbs.out i w hlt
     have k5:=Zat.out i _ (List.getElem?_eq_getElem x1)
     have k6:=ZaX.out i _ (List.getElem?_eq_getElem x2)
     have Pt:=BZ.out.trans (hb.mono BZ.out.size)
     by_cases he:r1[i]=r2[i]
     ·
      have HE:Hid (r1.take (i+1)=r2.take (i+1)):=tU ht x1 x2 he
      rw [he] at k5
      obtain ⟨y,hy⟩:∃y,r2[i]=y:=⟨_,rfl⟩
      rw [hy] at k5 k6
      have jn:∀w,(binOp .neq gO (yr y) (yr y)).run Tryz.prog w=.ok (.bool false) w:=fun w=>by rw [IG];simp
      clear hy he ht hb x1 x2
      go_upto_region 12 with fail
      refine Rg.mq [] [Rg.Is (.pointer (some ⟨N,5,none⟩)),Rg.Is (.slice Um wO V7),Rg.Is (.int .i64 (i:Int)),Rg.Is (.pointer (some ⟨YC,Yq+i * 4,none⟩)),Rg.Is (yr y),Rg.Is (.pointer (some ⟨N+1,5,none⟩)),Rg.Is (.slice WK wO UL),Rg.Is (.int .i64 (i:Int)),Rg.Is (.pointer (some ⟨ZA,ZX+i * 4,none⟩)),Rg.Is (yr y),Rg.Is (.bool false)] (by kernel_rfl) (by kernel_rfl) (by kernel_rfl) ⟨Rg.aH _,Rg.aH _,Rg.aH _,Rg.aH _,Rg.aH _,Rg.aH _,Rg.aH _,Rg.aH _,Rg.aH _,Rg.aH _,Rg.aH _,trivial⟩ ⟨rfl,rfl,rfl,rfl,rfl,rfl,rfl,rfl,rfl,rfl,rfl,trivial⟩ ⟨?_,?_,?_,?_,?_,?_,?_,?_,?_,?_,?_,trivial⟩ ?_
      ·
       intro _ a wx hb hk
       have h2:a.eval (.tmp 2)=.pointer (some ⟨N,0,none⟩):=Eq.mp (by kernel_rfl) (hk 2 (by decide))
       exact Rs.aR _ _ h2 (by go_simp) ⟨Below.refl _ _,rfl⟩
      ·
       intro _ a wx hb hk
       have h86:a.eval (.tmp 86)=.pointer (some ⟨N,5,none⟩):=Eq.mp (by kernel_rfl) (hk 86 (by decide))
       exact Rg.aK _ _ h86 (Ap.aW (by simp [isAgg]) (a7 hb (Nat.le_refl _) y5)) ⟨Below.refl _ _,rfl⟩
      ·
       intro _ a wx hb hk
       have h7:a.eval (.tmp 7)=.int .i64 (i:Int):=Eq.mp (by kernel_rfl) (hk 7 (by decide))
       exact Rg.az ⟨Below.refl _ _,h7⟩
      ·
       intro _ a wx hb hk
       have h87:a.eval (.tmp 87)=.slice Um wO V7:=Eq.mp (by kernel_rfl) (hk 87 (by decide))
       have h88:a.eval (.tmp 88)=.int .i64 (i:Int):=Eq.mp (by kernel_rfl) (hk 88 (by decide))
       exact Rg.dI _ _ _ h87 h88 (j1 wx) ⟨Below.refl _ _,rfl⟩
      ·
       intro _ a wx hb hk
       have h89:a.eval (.tmp 89)=.pointer (some ⟨YC,Yq+i * 4,none⟩):=Eq.mp (by kernel_rfl) (hk 89 (by decide))
       exact Rg.aK _ _ h89 (vK (Ap.dy lr _ _ _ _ _ hb (Ap.dy lr _ _ _ _ _ Pt k5))) ⟨Below.refl _ _,rfl⟩
      ·
       intro _ a wx hb hk
       have h3:a.eval (.tmp 3)=.pointer (some ⟨N+1,0,none⟩):=Eq.mp (by kernel_rfl) (hk 3 (by decide))
       exact Rs.aR _ _ h3 (by go_simp) ⟨Below.refl _ _,rfl⟩
      ·
       intro _ a wx hb hk
       have h91:a.eval (.tmp 91)=.pointer (some ⟨N+1,5,none⟩):=Eq.mp (by kernel_rfl) (hk 91 (by decide))
       exact Rg.aK _ _ h91 (Ap.aW (by simp [isAgg]) (a7 hb (Nat.le_refl _) z5)) ⟨Below.refl _ _,rfl⟩
      ·
       intro _ a wx hb hk
       have h7:a.eval (.tmp 7)=.int .i64 (i:Int):=Eq.mp (by kernel_rfl) (hk 7 (by decide))
       exact Rg.az ⟨Below.refl _ _,h7⟩
      ·
       intro _ a wx hb hk
       have kg:a.eval (.tmp 92)=.slice WK wO UL:=Eq.mp (by kernel_rfl) (hk 92 (by decide))
       have h93:a.eval (.tmp 93)=.int .i64 (i:Int):=Eq.mp (by kernel_rfl) (hk 93 (by decide))
       exact Rg.dI _ _ _ kg h93 (j2 wx) ⟨Below.refl _ _,rfl⟩
      ·
       intro _ a wx hb hk
       have h94:a.eval (.tmp 94)=.pointer (some ⟨ZA,ZX+i * 4,none⟩):=Eq.mp (by kernel_rfl) (hk 94 (by decide))
       exact Rg.aK _ _ h94 (vK (Ap.dy lr _ _ _ _ _ hb (Ap.dy lr _ _ _ _ _ Pt k6))) ⟨Below.refl _ _,rfl⟩
      ·
       intro _ a wx hb hk
       have h90:a.eval (.tmp 90)=yr y:=Eq.mp (by kernel_rfl) (hk 90 (by decide))
       have h95:a.eval (.tmp 95)=yr y:=Eq.mp (by kernel_rfl) (hk 95 (by decide))
       exact uB _ _ _ h90 h95 jn ⟨Below.refl _ _,rfl⟩
      intro vals wD pL hL
      obtain ⟨g0,g1,g2,g3,g4,g5,g6,g7,g8,g9,g10,_⟩:=hL
      have uW:vals 10=.bool false:=g10
      simp only [Rg.bh,List.take_succ_cons,List.take_zero,List.drop_succ_cons,List.drop_zero,List.setIfInBounds_toArray,List.set_cons_succ,List.set_cons_zero,uW]
      have T4:Hid (Below wr.heap.size wr wD):=pL
      clear g0 g1 g2 g3 g4 g5 g6 g7 g8 g9 g10 uW pL k5 k6 Pt
      go_wp2_with fail
      go_roundw
      case rel=>exact ⟨i+1,by omega,by go_num,HE.out,Tf.out.trans (T4.out.mono Tf.out.size)⟩
      case measure=>simp [vQ];omega
     ·
      have HF:Hid (D=false):=by show _=_;rw [HD.out];exact decide_eq_false fun e=>he (by have e2:=e.2.2.2.2.2.2;subst e2;rfl)
      obtain ⟨y,hy⟩:∃y,r2[i]=y:=⟨_,rfl⟩
      obtain ⟨x,hx⟩:∃x,r1[i]=x:=⟨_,rfl⟩
      rw [hy] at k6 he
      rw [hx] at k5 he
      have jn:∀w,(binOp .neq gO (yr x) (yr y)).run Tryz.prog w=.ok (.bool true) w:=fun w=>by rw [IG];simp [he]
      clear hy hx he ht hb x1 x2
      go_upto_region 12 with fail
      refine Rg.mq [] [Rg.Is (.pointer (some ⟨N,5,none⟩)),Rg.Is (.slice Um wO V7),Rg.Is (.int .i64 (i:Int)),Rg.Is (.pointer (some ⟨YC,Yq+i * 4,none⟩)),Rg.Is (yr x),Rg.Is (.pointer (some ⟨N+1,5,none⟩)),Rg.Is (.slice WK wO UL),Rg.Is (.int .i64 (i:Int)),Rg.Is (.pointer (some ⟨ZA,ZX+i * 4,none⟩)),Rg.Is (yr y),Rg.Is (.bool true)] (by kernel_rfl) (by kernel_rfl) (by kernel_rfl) ⟨Rg.aH _,Rg.aH _,Rg.aH _,Rg.aH _,Rg.aH _,Rg.aH _,Rg.aH _,Rg.aH _,Rg.aH _,Rg.aH _,Rg.aH _,trivial⟩ ⟨rfl,rfl,rfl,rfl,rfl,rfl,rfl,rfl,rfl,rfl,rfl,trivial⟩ ⟨?_,?_,?_,?_,?_,?_,?_,?_,?_,?_,?_,trivial⟩ ?_
      ·
       intro _ a wx hb hk
       have h2:a.eval (.tmp 2)=.pointer (some ⟨N,0,none⟩):=Eq.mp (by kernel_rfl) (hk 2 (by decide))
       exact Rs.aR _ _ h2 (by go_simp) ⟨Below.refl _ _,rfl⟩
      ·
       intro _ a wx hb hk
       have h86:a.eval (.tmp 86)=.pointer (some ⟨N,5,none⟩):=Eq.mp (by kernel_rfl) (hk 86 (by decide))
       exact Rg.aK _ _ h86 (Ap.aW (by simp [isAgg]) (a7 hb (Nat.le_refl _) y5)) ⟨Below.refl _ _,rfl⟩
      ·
       intro _ a wx hb hk
       have h7:a.eval (.tmp 7)=.int .i64 (i:Int):=Eq.mp (by kernel_rfl) (hk 7 (by decide))
       exact Rg.az ⟨Below.refl _ _,h7⟩
      ·
       intro _ a wx hb hk
       have h87:a.eval (.tmp 87)=.slice Um wO V7:=Eq.mp (by kernel_rfl) (hk 87 (by decide))
       have h88:a.eval (.tmp 88)=.int .i64 (i:Int):=Eq.mp (by kernel_rfl) (hk 88 (by decide))
       exact Rg.dI _ _ _ h87 h88 (j1 wx) ⟨Below.refl _ _,rfl⟩
      ·
       intro _ a wx hb hk
       have h89:a.eval (.tmp 89)=.pointer (some ⟨YC,Yq+i * 4,none⟩):=Eq.mp (by kernel_rfl) (hk 89 (by decide))
       exact Rg.aK _ _ h89 (vK (Ap.dy lr _ _ _ _ _ hb (Ap.dy lr _ _ _ _ _ Pt k5))) ⟨Below.refl _ _,rfl⟩
      ·
       intro _ a wx hb hk
       have h3:a.eval (.tmp 3)=.pointer (some ⟨N+1,0,none⟩):=Eq.mp (by kernel_rfl) (hk 3 (by decide))
       exact Rs.aR _ _ h3 (by go_simp) ⟨Below.refl _ _,rfl⟩
      ·
       intro _ a wx hb hk
       have h91:a.eval (.tmp 91)=.pointer (some ⟨N+1,5,none⟩):=Eq.mp (by kernel_rfl) (hk 91 (by decide))
       exact Rg.aK _ _ h91 (Ap.aW (by simp [isAgg]) (a7 hb (Nat.le_refl _) z5)) ⟨Below.refl _ _,rfl⟩
      ·
       intro _ a wx hb hk
       have h7:a.eval (.tmp 7)=.int .i64 (i:Int):=Eq.mp (by kernel_rfl) (hk 7 (by decide))
       exact Rg.az ⟨Below.refl _ _,h7⟩
      ·
       intro _ a wx hb hk
       have kg:a.eval (.tmp 92)=.slice WK wO UL:=Eq.mp (by kernel_rfl) (hk 92 (by decide))
       have h93:a.eval (.tmp 93)=.int .i64 (i:Int):=Eq.mp (by kernel_rfl) (hk 93 (by decide))
       exact Rg.dI _ _ _ kg h93 (j2 wx) ⟨Below.refl _ _,rfl⟩
      ·
       intro _ a wx hb hk
       have h94:a.eval (.tmp 94)=.pointer (some ⟨ZA,ZX+i * 4,none⟩):=Eq.mp (by kernel_rfl) (hk 94 (by decide))
       exact Rg.aK _ _ h94 (vK (Ap.dy lr _ _ _ _ _ hb (Ap.dy lr _ _ _ _ _ Pt k6))) ⟨Below.refl _ _,rfl⟩
      ·
       intro _ a wx hb hk
       have h90:a.eval (.tmp 90)=yr x:=Eq.mp (by kernel_rfl) (hk 90 (by decide))
       have h95:a.eval (.tmp 95)=yr y:=Eq.mp (by kernel_rfl) (hk 95 (by decide))
       exact uB _ _ _ h90 h95 jn ⟨Below.refl _ _,rfl⟩
      intro vals wD pL hL
      obtain ⟨g0,g1,g2,g3,g4,g5,g6,g7,g8,g9,g10,_⟩:=hL
      have uW:vals 10=.bool true:=g10
      simp only [Rg.bh,List.take_succ_cons,List.take_zero,List.drop_succ_cons,List.drop_zero,List.setIfInBounds_toArray,List.set_cons_succ,List.set_cons_zero,uW]
      have T4:Hid (Below wr.heap.size wr wD):=pL
      clear g0 g1 g2 g3 g4 g5 g6 g7 g8 g9 g10 uW pL k5 k6 Pt
      go_wp2_with fail
      go_ret
      exact ⟨by rw [HF.out];rfl,HB.out.trans (T4.out.mono HB.out.size)⟩
    case neg=>
     obtain rfl:i=wO:=by omega
     have p3:decide (i < i)=false:=decide_eq_false (by omega)
     have p1:decide ((i:Int) < (i:Int))=false:=decide_eq_false (by omega)
     have p2:¬((i:Int) < (i:Int)):=by omega
     have HE:Hid (r1=r2):=by
      have:=HT.out
      rw [List.take_of_length_le (by rw [J8.out];exact Nat.le_refl _),List.take_of_length_le (by rw [gR.out];exact Nat.le_refl _)] at this
      exact this
     clear ht hb
     have HF:Hid (D=true):=by show _=_;rw [HD.out];simp [HC0.out,HEq.out,HE.out]
     go_wp2_with fail
     go_ret
     exact ⟨by rw [HF.out];rfl,HB.out⟩
theorem zj {l m:List Nd} {i:Nat} (h:(l.take i).map Sy.bare=(m.take i).map Sy.bare) (hl:i < l.length) (hm:i < m.length) (e:Sy.bare l[i]=Sy.bare m[i]):(l.take (i+1)).map Sy.bare=(m.take (i+1)).map Sy.bare:=by
 rw [List.take_succ_eq_append_getElem hl,List.take_succ_eq_append_getElem hm,List.map_append,List.map_append,h]
 simp [e]
theorem AH {W w:World} {P:Nat→Prop} {b o:Nat} {n:Nd} {uw ur uk:Value} (h:Jr W P b o n uw ur uk) (hb:Below W.heap.size W w):(Instr.loadAt gv (.pointer (some ⟨b,o,none⟩))).run Tryz.prog w=.ok (.agg (BW n uw ur uk).toArray) w:=Ic (fun j v hj=>a7 hb (Nat.le_refl _) (h.cells j v hj)) rfl
theorem GM (W:World) (B1 B2:Nat) (P1 P2:Nat→Prop) (v1 v2:Value) (l m:List Nd) (h1:lu W B1 P1 v1 l) (h2:lu W B2 P2 v2 m):
 Calls Tryz.prog 9 #[v1,v2,.bool false] W fun r W'=>r=.returned (.bool (decide (l.map Sy.bare=m.map Sy.bare)))∧Below W.heap.size W W':=by
 have hmx:l.length≤9223372036854775807:=by
  obtain ⟨zs,rfl,hown,_⟩:=h1
  exact BP hown
 obtain ⟨a1,c1,rfl,b1,o1,hc1,VP⟩:=fZ h1
 obtain ⟨a2,c2,rfl,b2,o2,hc2,LH⟩:=fZ h2
 obtain ⟨D,hD⟩:∃D,decide (l.map Sy.bare=m.map Sy.bare)=D:=⟨_,rfl⟩
 rw [hD]
 obtain ⟨n1,uz⟩:∃n,l.length=n:=⟨_,rfl⟩
 obtain ⟨n2,bO⟩:∃n,m.length=n:=⟨_,rfl⟩
 rw [uz] at VP hmx ⊢
 rw [bO] at LH ⊢
 have HD:=Lib.hid hD
 have vg:=Lib.hid hc1
 have X8:=Lib.hid hc2
 have Sp:=Lib.hid VP
 have FL:=Lib.hid LH
 have qB:=Lib.hid uz
 have dA:=Lib.hid bO
 clear h1 h2 hc1 hc2 VP LH uz bO hD
 go_enter Tryz.func9,Tryz.ntmps9
 by_cases hl:n1=n2
 case neg=>
  have HF:Hid (D=false):=by
   show _=_
   rw [←HD.out]
   exact decide_eq_false fun e=>hl (by
    have:=congrArg List.length e
    rw [List.length_map,List.length_map] at this
    rw [←qB.out,←dA.out,this])
  have t1:((n1:Int)==(n2:Int))=false:=by rw [beq_eq_false_iff_ne];omega
  have t2:((n1:Int) != (n2:Int))=true:=by rw [bne_iff_ne];omega
  have t3:decide ((n1:Int)=(n2:Int))=false:=decide_eq_false (by omega)
  go_wp2_with fail
  go_ret
  exact ⟨by rw [HF.out];rfl,Below.refl _ _⟩
 case pos=>
  subst hl
  have t1:((n1:Int)==(n1:Int))=true:=by simp
  have t2:((n1:Int) != (n1:Int))=false:=by simp
  go_upto_region 4 with fail
  clear t1 t2
  go_loopw [7] (fun v wr=>∃i:Nat,i≤n1∧v=.int .i64 (i:Int)∧(l.take i).map Sy.bare=(m.take i).map Sy.bare∧Below W.heap.size W wr) (fun v _=>n1 - vQ v)
  case atStart=>exact ⟨0,Nat.zero_le _,rfl,by simp,Below.refl _ _⟩
  case round=>
   obtain ⟨i,hi,rfl,ht,hb0⟩:=hrel
   have HT:=Lib.hid ht
   have HB:=Lib.hid hb0
   clear hb0 ht
   by_cases hlt:i < n1
   case pos=>
    have p3:decide (i < n1)=true:=decide_eq_true (by omega)
    have p1:decide ((i:Int) < (n1:Int))=true:=decide_eq_true (by omega)
    have p2:(i:Int) < (n1:Int):=by omega
    have x1:i < l.length:=by rw [qB.out];exact hlt
    have x2:i < m.length:=by rw [dA.out];exact hlt
    have j1:∀w,(Instr.indexAt 23 (.slice a1 n1 c1) (.int .i64 (i:Int))).run Tryz.prog w=.ok (.pointer (some ⟨b1,o1+i * 8,none⟩)) w:=fun w=>Sp.out i w hlt
    have j2:∀w,(Instr.indexAt 23 (.slice a2 n1 c2) (.int .i64 (i:Int))).run Tryz.prog w=.ok (.pointer (some ⟨b2,o2+i * 8,none⟩)) w:=fun w=>FL.out i w hlt
    obtain ⟨Ws,Vg,Va,k1⟩:=vg.out i _ (List.getElem?_eq_getElem x1)
    obtain ⟨Wv,U7,Vj,k2⟩:=X8.out i _ (List.getElem?_eq_getElem x2)
    have HE:Hid (Sy.bare l[i]=Sy.bare m[i]→(l.take (i+1)).map Sy.bare=(m.take (i+1)).map Sy.bare):=zj HT.out x1 x2
    have HG:Hid (Sy.bare l[i]≠Sy.bare m[i]→D=false):=fun e=>by
     rw [←HD.out]
     exact decide_eq_false fun h=>e (by
      have h3:=congrArg (fun z=>z[i]?) h
      simp only [List.getElem?_map,List.getElem?_eq_getElem x1,List.getElem?_eq_getElem x2,Option.map_some] at h3
      exact Option.some.inj h3)
    obtain ⟨x,hx⟩:∃x,l[i]=x:=⟨_,rfl⟩
    obtain ⟨y,hy⟩:∃y,m[i]=y:=⟨_,rfl⟩
    rw [hx] at k1 HE HG
    rw [hy] at k2 HE HG
    have k1r:=(k1.below HB.out)
    have k2r:=(k2.below HB.out)
    have K1:=Lib.hid k1r
    have K2:=Lib.hid k2r
    clear hx hy x1 x2 k1 k2 k1r k2r
    go_upto_region 6 with fail
    refine Rg.mq [] [Rg.Is (.slice a1 n1 c1),Rg.Is (.int .i64 (i:Int)),Rg.Is (.pointer (some ⟨b1,o1+i * 8,none⟩)),Rg.Is (.agg (BW x Ws Vg Va).toArray),Rg.Is (.slice a2 n1 c2),Rg.Is (.int .i64 (i:Int)),Rg.Is (.pointer (some ⟨b2,o2+i * 8,none⟩)),Rg.Is (.agg (BW y Wv U7 Vj).toArray),Rg.Is (.bool (decide (Sy.bare x=Sy.bare y))),Rg.Is (.bool (decide (Sy.bare x=Sy.bare y)))] (by kernel_rfl) (by kernel_rfl) (by kernel_rfl) ⟨Rg.aH _,Rg.aH _,Rg.aH _,Rg.aH _,Rg.aH _,Rg.aH _,Rg.aH _,Rg.aH _,Rg.aH _,Rg.aH _,trivial⟩ ⟨rfl,rfl,rfl,rfl,rfl,rfl,rfl,rfl,rfl,rfl,trivial⟩ ⟨?_,?_,?_,?_,?_,?_,?_,?_,?_,?_,trivial⟩ ?_
    ·
     intro _ a wx hb hk
     have h0:a.eval (.tmp 0)=.slice a1 n1 c1:=Eq.mp (by kernel_rfl) (hk 0 (by decide))
     exact Rg.az ⟨Below.refl _ _,h0⟩
    ·
     intro _ a wx hb hk
     have h7:a.eval (.tmp 7)=.int .i64 (i:Int):=Eq.mp (by kernel_rfl) (hk 7 (by decide))
     exact Rg.az ⟨Below.refl _ _,h7⟩
    ·
     intro _ a wx hb hk
     have h20:a.eval (.tmp 20)=.slice a1 n1 c1:=Eq.mp (by kernel_rfl) (hk 20 (by decide))
     have h21:a.eval (.tmp 21)=.int .i64 (i:Int):=Eq.mp (by kernel_rfl) (hk 21 (by decide))
     exact Rg.dI _ _ _ h20 h21 (j1 wx) ⟨Below.refl _ _,rfl⟩
    ·
     intro _ a wx hb hk
     have Ua:a.eval (.tmp 22)=.pointer (some ⟨b1,o1+i * 8,none⟩):=Eq.mp (by kernel_rfl) (hk 22 (by decide))
     exact Rg.aK _ _ Ua (AH K1.out hb) ⟨Below.refl _ _,rfl⟩
    ·
     intro _ a wx hb hk
     have h1:a.eval (.tmp 1)=.slice a2 n1 c2:=Eq.mp (by kernel_rfl) (hk 1 (by decide))
     exact Rg.az ⟨Below.refl _ _,h1⟩
    ·
     intro _ a wx hb hk
     have h7:a.eval (.tmp 7)=.int .i64 (i:Int):=Eq.mp (by kernel_rfl) (hk 7 (by decide))
     exact Rg.az ⟨Below.refl _ _,h7⟩
    ·
     intro _ a wx hb hk
     have UZ:a.eval (.tmp 24)=.slice a2 n1 c2:=Eq.mp (by kernel_rfl) (hk 24 (by decide))
     have Qp:a.eval (.tmp 25)=.int .i64 (i:Int):=Eq.mp (by kernel_rfl) (hk 25 (by decide))
     exact Rg.dI _ _ _ UZ Qp (j2 wx) ⟨Below.refl _ _,rfl⟩
    ·
     intro _ a wx hb hk
     have OU:a.eval (.tmp 26)=.pointer (some ⟨b2,o2+i * 8,none⟩):=Eq.mp (by kernel_rfl) (hk 26 (by decide))
     exact Rg.aK _ _ OU (AH K2.out hb) ⟨Below.refl _ _,rfl⟩
    ·
     intro _ a wx hb hk
     have UY:a.eval (.tmp 23)=.agg (BW x Ws Vg Va).toArray:=Eq.mp (by kernel_rfl) (hk 23 (by decide))
     have Vq:a.eval (.tmp 27)=.agg (BW y Wv U7 Vj).toArray:=Eq.mp (by kernel_rfl) (hk 27 (by decide))
     refine Rg.bW #[.agg (BW x Ws Vg Va).toArray,.agg (BW y Wv U7 Vj).toArray] Tryz.func17 (by kernel_rfl) (by kernel_rfl) (by simp [UY,Vq]) (rp wx P1 P2 x y Ws Vg Va Wv U7 Vj (K1.out.rows.below hb) (K2.out.rows.below hb)) ?_
     rintro e w' ⟨rfl,hb'⟩
     exact ⟨_,rfl,hb',rfl⟩
    ·
     intro _ a wx hb hk
     have UG:a.eval (.tmp 28)=.bool (decide (Sy.bare x=Sy.bare y)):=Eq.mp (by kernel_rfl) (hk 28 (by decide))
     exact Rg.CO ⟨Below.refl _ _,UG⟩
    intro vals wD pL hL
    obtain ⟨g0,g1,g2,g3,g4,g5,g6,g7,g8,g9,_⟩:=hL
    have e9:vals 9=.bool (decide (Sy.bare x=Sy.bare y)):=g9
    simp only [Rg.bh,List.take_succ_cons,List.take_zero,List.drop_succ_cons,List.drop_zero,List.setIfInBounds_toArray,List.set_cons_succ,List.set_cons_zero,e9]
    have T4:Hid (Below W.heap.size W wD):=HB.out.trans (pL.mono HB.out.size)
    clear g0 g1 g2 g3 g4 g5 g6 g7 g8 g9 e9 pL K1 K2
    by_cases he:Sy.bare x=Sy.bare y
    ·
     have h1:decide (Sy.bare x=Sy.bare y)=true:=decide_eq_true he
     rw [h1]
     have HE2:=Lib.hid (HE.out he)
     clear he h1 HE HG
     go_upto_region 7 with fail
     go_quiet (fail)
     go_wp2_with fail
     go_roundw
     case rel=>exact ⟨i+1,by omega,by go_num,HE2.out,T4.out.trans ((cS _ _).mono T4.out.size)⟩
     case measure=>simp [vQ];omega
    ·
     have h1:decide (Sy.bare x=Sy.bare y)=false:=decide_eq_false he
     rw [h1]
     have HF:Hid (D=false):=HG.out he
     clear he h1 HE HG
     go_upto_region 7 with fail
     go_quiet (fail)
     go_wp2_with fail
     go_ret
     exact ⟨by rw [HF.out];rfl,T4.out.trans ((cS _ _).mono T4.out.size)⟩
   case neg=>
    obtain rfl:i=n1:=by omega
    have p3:decide (i < i)=false:=decide_eq_false (by omega)
    have p1:decide ((i:Int) < (i:Int))=false:=decide_eq_false (by omega)
    have p2:¬((i:Int) < (i:Int)):=by omega
    have HF:Hid (D=true):=by
     show _=_
     rw [←HD.out]
     refine decide_eq_true ?_
     have:=HT.out
     rw [List.take_of_length_le (by rw [qB.out];exact Nat.le_refl _),List.take_of_length_le (by rw [dA.out];exact Nat.le_refl _)] at this
     exact this
    go_wp2_with fail
    go_ret
    exact ⟨by rw [HF.out];rfl,HB.out⟩
end Go.Proofs.YtiklkhbfilbpeaaGreatDoor.Sx
