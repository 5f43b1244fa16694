import Derived.Test.YtiklkhbfilbpeaaGreatDoorTbGSyB
import Derived.Test.YtiklkhbfilbpeaaGreatDoorTbLxOne
import Derived.MapKept
import Derived.Test.YtiklkhbfilbpeaaGreatDoorShelf
import Derived.Lib.AtoiAll
import Derived.Test.YtiklkhbfilbpeaaGreatDoorTbAppendAt
set_option maxRecDepth 100000
set_option maxHeartbeats 16000000
set_option linter.unusedVariables false
set_option linter.unusedSimpArgs false
namespace Go.Proofs.YtiklkhbfilbpeaaGreatDoor.Sx
open Go.RowKit Base Lx Sy
theorem Rm (x y:Nm):(str x==str y)=decide (x=y):=by
 show ByteArray.beq _ _=_
 unfold ByteArray.beq str
 rw [Bool.eq_iff_iff]
 simp
abbrev Ls:TypeId:=157
theorem GF:Tryz.prog.underlying Ls=some (.map eZ 143):=by rfl
theorem x8 (e:Bool) (c:ByteArray) (w:World):(Instr.checkKey e 10000 eZ (.string c)).run Tryz.prog w=.ok () w:=MapKept.run_checkKey (n:=9999) (k:=.string c) Tryz.underlying9 trivial e
def rS (x:Nm):List (Nm × Value)→Option Value
 | []=>none
 | p::r=>if x=p.1 then some p.2 else rS x r
def Ld (l:List (Nm × Value)) (es:List MapEntry):Prop:=es.map (fun e=>(e.key,e.val))=l.map fun p=>(Value.string (str p.1),p.2)
theorem yh (x:Nm):∀(l:List (Nm × Value)) (es:List MapEntry) (i:Nat),Ld l es→∃r,Instr.findNow .string (.string (str x)) es i=some r∧r.map (·.2)=rS x l
 | [],es,i,h=>by
   have:es=[]:=by simpa [Ld] using h
   subst this
   exact ⟨none,rfl,rfl⟩
 | p::r,es,i,h=>by
   cases es with
   | nil=>exact absurd h (by simp [Ld])
   | cons e es=>
     unfold Ld at h
     rw [List.map_cons,List.map_cons] at h
     injection h with h1 h2
     injection h1 with h1 h3
     obtain ⟨q,PI,sK⟩:=yh x r es (i+1) h2
     unfold Instr.findNow rS
     rw [h1]
     unfold Instr.sameNow
     simp only
     rw [Rm]
     by_cases hx:x=p.1
     ·
      rw [decide_eq_true hx,if_pos hx]
      exact ⟨_,rfl,by rw [←h3];rfl⟩
     ·
      rw [decide_eq_false hx,if_neg hx]
      exact ⟨q,PI,sK⟩
def lkV:Option Value→Value
 | some f=>.tuple #[f,.bool true]
 | none=>.tuple #[.nilFunc,.bool false]
def uS (w:World) (m:Nat) (l:List (Nm × Value)):Prop:=∃es c,w.heap[m]? =some (.map es c)∧Ld l es.toList
theorem pY {w:World} {m:Nat} {l:List (Nm × Value)} (h:uS w m l) (k:Nm) (v:Value) (hk:rS k l=none):∃w',(Instr.mapUpdate Ls (.map (some m)) (.string (str k)) v).run Tryz.prog w=.ok () w'∧uS w' m (l++[(k,v)])∧w.grownBy w' (some m)∧w'.heap.size=w.heap.size:=by
 obtain ⟨es,c,h1,h2⟩:=h
 obtain ⟨r,hr1,hr2⟩:=yh k l es.toList 0 h2
 have hr:r=none:=by
  cases r with
  | none=>rfl
  | some q=>rw [hk] at hr2;cases hr2
 subst hr
 refine ⟨bC w m (es.push { key:=.string (str k),val:=v,born:=c }) (c+1),?_,⟨_,_,wk h1,?_⟩,nO,by simp [bC]⟩
 · simp [Instr.mapUpdate,run_underlying GF,MapKept.run_getObj_map h1,x8,Instr.findKey,run_underlying Tryz.underlying9,hr1,MapKept.run_setObj_map _ h1,Result.andThen,bC]
 ·
  unfold Ld at h2 ⊢
  simp [h2]
theorem C0 {w:World} {m:Nat} {l:List (Nm × Value)} (h:uS w m l) (k:Nm):(Instr.lookup Ls (.map (some m)) (.string (str k)) true).run Tryz.prog w=.ok (lkV (rS k l)) w:=by
 obtain ⟨es,c,h1,h2⟩:=h
 obtain ⟨r,hr1,hr2⟩:=yh k l es.toList 0 h2
 rw [←hr2]
 have hz:(zeroValue 143).run Tryz.prog w=.ok .nilFunc w:=by rfl
 cases r with
 | none=>simp [Instr.lookup,run_underlying GF,MapKept.run_getObj_map h1,x8,Instr.findKey,run_underlying Tryz.underlying9,hr1,hz,Result.andThen,lkV]
 | some x=>simp [Instr.lookup,run_underlying GF,MapKept.run_getObj_map h1,x8,Instr.findKey,run_underlying Tryz.underlying9,hr1,Result.andThen,lkV]
abbrev vE (f:FuncId):Value:=.func (.func f) #[] #[]
abbrev pO:List (Nm × Value):=[([123],vE 125),([105,102],vE 126),([119,104,105,108,101],vE 127),([117,110,116,105,108],vE 127),([102,111,114],vE 128),([99,97,115,101],vE 129)]
theorem RI (w:World):∃w1 w2 w3 w4 w5 w6,(Instr.mapUpdate Ls (.map (some w.heap.size)) (.string ⟨#[123]⟩) (vE 125)).run Tryz.prog (w.alloc (.map #[] 0))=.ok () w1∧(Instr.mapUpdate Ls (.map (some w.heap.size)) (.string ⟨#[105,102]⟩) (vE 126)).run Tryz.prog w1=.ok () w2∧(Instr.mapUpdate Ls (.map (some w.heap.size)) (.string ⟨#[119,104,105,108,101]⟩) (vE 127)).run Tryz.prog w2=.ok () w3∧(Instr.mapUpdate Ls (.map (some w.heap.size)) (.string ⟨#[117,110,116,105,108]⟩) (vE 127)).run Tryz.prog w3=.ok () w4∧(Instr.mapUpdate Ls (.map (some w.heap.size)) (.string ⟨#[102,111,114]⟩) (vE 128)).run Tryz.prog w4=.ok () w5∧(Instr.mapUpdate Ls (.map (some w.heap.size)) (.string ⟨#[99,97,115,101]⟩) (vE 129)).run Tryz.prog w5=.ok () w6∧Below w.heap.size w w6∧uS w6 w.heap.size pO:=by
 have h0:uS (w.alloc (.map #[] 0)) w.heap.size []:=⟨#[],0,(MapKept.heap_alloc w _).1,rfl⟩
 have hb0:=(Below.refl w.heap.size w).alloc (Nat.le_refl _) (.map #[] 0)
 have hz0:w.heap.size≤(w.alloc (.map #[] 0)).heap.size:=by rw [World.size_alloc];omega
 obtain ⟨w1,u1,h1,g1,z1⟩:=pY h0 [123] (vE 125) (by rfl)
 have hb1:=hb0.grown g1 hz0 (fun j hj=>by obtain rfl:=Option.some.inj hj;exact Nat.le_refl _)
 have hz1:w.heap.size≤w1.heap.size:=by omega
 obtain ⟨w2,u2,h2,g2,z2⟩:=pY h1 [105,102] (vE 126) (by rfl)
 have hb2:=hb1.grown g2 hz1 (fun j hj=>by obtain rfl:=Option.some.inj hj;exact Nat.le_refl _)
 have hz2:w.heap.size≤w2.heap.size:=by omega
 obtain ⟨w3,u3,h3,g3,z3⟩:=pY h2 [119,104,105,108,101] (vE 127) (by rfl)
 have hb3:=hb2.grown g3 hz2 (fun j hj=>by obtain rfl:=Option.some.inj hj;exact Nat.le_refl _)
 have hz3:w.heap.size≤w3.heap.size:=by omega
 obtain ⟨w4,u4,h4,g4,z4⟩:=pY h3 [117,110,116,105,108] (vE 127) (by rfl)
 have hb4:=hb3.grown g4 hz3 (fun j hj=>by obtain rfl:=Option.some.inj hj;exact Nat.le_refl _)
 have hz4:w.heap.size≤w4.heap.size:=by omega
 obtain ⟨w5,u5,h5,g5,z5⟩:=pY h4 [102,111,114] (vE 128) (by rfl)
 have ll:=hb4.grown g5 hz4 (fun j hj=>by obtain rfl:=Option.some.inj hj;exact Nat.le_refl _)
 have hz5:w.heap.size≤w5.heap.size:=by omega
 obtain ⟨w6,u6,h6,g6,z6⟩:=pY h5 [99,97,115,101] (vE 129) (by rfl)
 have iY:=ll.grown g6 hz5 (fun j hj=>by obtain rfl:=Option.some.inj hj;exact Nat.le_refl _)
 have hz6:w.heap.size≤w6.heap.size:=by omega
 exact ⟨w1,w2,w3,w4,w5,w6,u1,u2,u3,u4,u5,u6,iY,h6⟩
def kI (s:S):Value:=if aV 2 [[40]] s=true then vE 130 else (rS (nx s).t pO).getD .nilFunc
theorem qN (x:Nm):∀l:List (Nm × Value),(rS x l).isSome=(l.map (·.1)).contains x
 | []=>rfl
 | p::r=>by
   unfold rS
   rw [List.map_cons,List.contains_cons]
   by_cases h:x=p.1
   · subst h;simp
   · rw [if_neg h,qN x r,beq_eq_false_iff_ne.2 h,Bool.false_or]
theorem jZ (W:World) (b B:Nat) (P:Nat→Prop) (v:Value) (s:S) (d:Nat) (h:Rd W b B P v s d):Calls Tryz.prog 110 #[.pointer (some ⟨b,0,none⟩)] W fun r W'=>r=.returned (.tuple #[kI s,.bool (aL s)])∧Below W.heap.size W W':=by
 obtain ⟨w1,w2,w3,w4,w5,w6,u1,u2,u3,u4,u5,u6,hbm,WU⟩:=RI W
 have HR:=Lib.hid (h.below hbm)
 have HB:=Lib.hid hbm
 have HL:=Lib.hid (C0 WU (nx s).t)
 have Yt:=Lib.hid WU
 obtain ⟨m,hm⟩:∃m,W.heap.size=m:=⟨_,rfl⟩
 obtain ⟨V,hV⟩:∃V,kI s=V:=⟨_,rfl⟩
 obtain ⟨z,hz⟩:∃z,aL s=z:=⟨_,rfl⟩
 have HV:=Lib.hid hV
 have HZ:=Lib.hid hz
 have HM:=Lib.hid hm
 rw [hV,hz]
 rw [hm] at HL Yt
 clear h hbm WU hV hz
 have mk:(Instr.makeMap Ls none).run Tryz.prog W=.ok (.map (some m)) (W.alloc (.map #[] 0)):=by rw [←hm];exact run_makeMap _ W
 simp only [hm] at u1 u2 u3 u4 u5 u6
 clear hm
 go_enter Tryz.func110,Tryz.ntmps110
 go_wp2_with fail
 refine (jX w6 b B P v s d HR.out 2 [[40]] (by decide)).mono ?_
 rintro r w7 ⟨rfl,zE⟩
 have HR7:=Lib.hid (HR.out.below ((Below.refl _ _).trans zE))
 have Sn:=Lib.hid (HB.out.trans (zE.mono HB.out.size))
 have hT7:uS w7 m pO:=by
  obtain ⟨es,c,h1,h2⟩:=Yt.out
  exact ⟨es,c,(zE.block m (Array.getElem?_eq_some_iff.1 h1).1).trans h1,h2⟩
 have IV:=Lib.hid hT7
 obtain ⟨t,ht⟩:∃t,nx s=t:=⟨_,rfl⟩
 have HT:=Lib.hid ht
 clear zE hT7 u1 u2 u3 u4 u5 u6 mk ht
 obtain ⟨y,hy⟩:∃y,aV 2 [[40]] s=y:=⟨_,rfl⟩
 have HY:=Lib.hid hy
 rw [hy]
 clear hy
 cases y with
 | true=>
   have HF:Hid (V=vE 130∧z=true):=⟨by rw [←HV.out];unfold kI;rw [if_pos HY.out],by rw [←HZ.out];unfold aL;rw [show aV 2 [[40]] s=true from HY.out];rfl⟩
   go_wp2_with fail
   refine bodyPost_ret (v:=.tuple #[vE 130,.bool true]) (by simp [results,Tryz.results110,go_sem]) rfl ?_
   exact ⟨by rw [HF.out.1,HF.out.2],Sn.out⟩
 | false=>
   have F0:=gj t
   have F1:=jC t
   have hlk:=fun w' (hw':uS w' m pO)=>C0 hw' t.t
   obtain ⟨o,ho⟩:∃o,rS t.t pO=o:=⟨_,rfl⟩
   have hz2:z=(o.isSome && decide (t.k=1)):=by
    rw [←HZ.out,←ho,qN]
    unfold aL
    rw [show aV 2 [[40]] s=false from HY.out,HT.out,Bool.false_or]
    rfl
   have hv2:V=o.getD .nilFunc:=by
    rw [←HV.out,←ho]
    unfold kI
    rw [show aV 2 [[40]] s=false from HY.out,HT.out,if_neg (by decide)]
   rw [ho] at hlk
   have HLk:=Lib.hid hlk
   have oy:=Lib.hid hz2
   have HV2:=Lib.hid hv2
   clear hlk ho hz2 hv2
   go_wp2_with fail
   refine (a8 w7 b B P v s d HR7.out).mono ?_
   rintro r w8 ⟨rfl,qC⟩
   rw [show nx s=t from HT.out]
   have HR8:=Lib.hid (HR7.out.below qC)
   have Cl:=Lib.hid (Sn.out.trans (qC.mono Sn.out.size))
   have hl8:uS w8 m pO:=by
    obtain ⟨es,c,h1,h2⟩:=IV.out
    exact ⟨es,c,(qC.block m (Array.getElem?_eq_some_iff.1 h1).1).trans h1,h2⟩
   have SF:=HLk.out w8 hl8
   clear qC hl8
   cases o with
   | none=>
     have HF:Hid (V=.nilFunc∧z=false):=⟨HV2.out,oy.out⟩
     have Zbj:(Instr.lookup Ls (.map (some m)) (.string (str t.t)) true).run Tryz.prog w8=.ok (.tuple #[.nilFunc,.bool false]) w8:=SF
     clear SF
     go_wp2_with fail
     refine bodyPost_ret (v:=.tuple #[.nilFunc,.bool false]) (by simp [results,Tryz.results110,go_sem]) rfl ?_
     exact ⟨by rw [HF.out.1,HF.out.2],Cl.out⟩
   | some f=>
     have HF:Hid (V=f∧z=decide (t.k=1)):=⟨HV2.out,by rw [oy.out];rfl⟩
     have Zbj:(Instr.lookup Ls (.map (some m)) (.string (str t.t)) true).run Tryz.prog w8=.ok (.tuple #[f,.bool true]) w8:=SF
     clear SF
     go_wp2_with fail
     refine (a8 w8 b B P v s d HR8.out).mono ?_
     rintro r w9 ⟨rfl,df⟩
     rw [show nx s=t from HT.out]
     have HB9:=Lib.hid (Cl.out.trans (df.mono Cl.out.size))
     clear df
     have e1:=SJ t.k 1
     obtain ⟨y,hy⟩:∃y,decide (t.k=1)=y:=⟨_,rfl⟩
     rw [hy] at HF e1
     have e1:((t.k:Int)==1)=y:=e1
     have e3:decide ((t.k:Int)=1)=y:=by rw [←hy];simp;omega
     clear hy
     go_wp2_with fail
     refine bodyPost_ret (v:=.tuple #[f,.bool y]) (by simp [results,Tryz.results110,go_sem]) rfl ?_
     exact ⟨by rw [HF.out.1,HF.out.2],HB9.out⟩
theorem CR (W:World) (b B:Nat) (P:Nat→Prop) (v:Value) (s:S) (d:Nat) (h:Rd W b B P v s d):Calls Tryz.prog 111 #[.pointer (some ⟨b,0,none⟩)] W (isPost W (names s)):=by
 have HC:=Lib.hid (a8 W b B P v s d h)
 have HR:=Lib.hid h
 obtain ⟨t,ht⟩:∃t,nx s=t:=⟨_,rfl⟩
 have HT:=Lib.hid ht
 rw [ht] at HC
 obtain ⟨z,hz⟩:∃z,names s=z:=⟨_,rfl⟩
 have HZ:=Lib.hid hz
 rw [hz]
 clear ht hz h
 have F0:=gj t
 have F1:=jC t
 go_enter Tryz.func111,Tryz.ntmps111
 go_wp2_with fail
 refine HC.out.mono ?_
 rintro r w2 ⟨rfl,hb⟩
 have gR:=Lib.hid (HR.out.below hb)
 have dp:=Lib.hid hb
 clear hb
 by_cases hk:t.k=1
 case neg=>
  have e1:((t.k:Int)==1)=false:=by simp;omega
  have e3:decide ((t.k:Int)=1)=false:=by simp;omega
  have HF:Hid (z=false):=by show _=_;rw [←HZ.out];unfold names;rw [HT.out,decide_eq_false hk];rfl
  clear hk
  go_wp2_with fail
  go_ret
  exact ⟨by rw [HF.out];rfl,dp.out⟩
 have e1:((t.k:Int)==1)=true:=by simp;omega
 have e3:decide ((t.k:Int)=1)=true:=by simp;omega
 have yM:t.t.length≤100000:=by
  obtain ⟨t',l',hs⟩:=List.exists_cons_of_ne_nil HR.out.ok.ne
  have:=HR.out.ok.each t' (by rw [hs];exact List.mem_cons_self)
  rw [←HT.out,Cp hs]
  exact this.1
 obtain ⟨g,o,c,U8,hle,hcm,hat⟩:∃g o c,w2.heap[b]? =some (.cells #[v,.slice (some ⟨g,o,none⟩) s.2.length c,.int .i64 (d:Int)] PK)∧s.2.length≤c∧c≤maxLen∧∀j (hj:j < s.2.length),VK w2 g (o+j * 4) s.2[j]:=by
  obtain ⟨u,fV,uU⟩:=gR.out.box
  obtain ⟨g,o,c,rfl,hle,hcm,hat⟩:=IE uU
  exact ⟨g,o,c,fV,hle,hcm,hat⟩
 have HAt:=Lib.hid hat
 obtain ⟨n,hn⟩:∃n,s.2.length=n:=⟨_,rfl⟩
 have HN:=Lib.hid hn
 have uz:n≤10000:=by have:=HR.out.ok.few;omega
 rw [hn] at U8 hle
 clear hat hn
 obtain ⟨⟨c0,c1,c2⟩,f0,f1,f2⟩:=fC U8
 clear U8
 by_cases bO:2 < n
 case neg=>
  have a1:decide ((2:Int) < (n:Int))=false:=decide_eq_false (by omega)
  have a2:¬((2:Int) < (n:Int)):=by omega
  have HF:Hid (z=false):=by
   show _=_
   rw [←HZ.out];unfold names
   have hl:s.2.length≤2:=by have:=HN.out;omega
   match h:s.2,hl with
   | [],_=>simp
   | [_],_=>simp
   | [_,_],_=>simp
  clear hk bO
  go_wp2_with fail
  go_ret
  exact ⟨by rw [HF.out];rfl,dp.out⟩
 have a1:decide ((2:Int) < (n:Int))=true:=decide_eq_true (by omega)
 have a2:(2:Int) < (n:Int):=by omega
 obtain ⟨u,x,y,l,hs⟩:∃u x y l,s.2=u::x::y::l:=by
  have hl:2 < s.2.length:=by have:=HN.out;omega
  match h:s.2,hl with
  | u::x::y::l,_=>exact ⟨u,x,y,l,rfl⟩
 have hz2:z=(decide (x.k=2) && decide (x.t=[40]) && eG t.t):=by
  rw [←HZ.out];unfold names;rw [HT.out,hs,decide_eq_true hk,Bool.true_and]
 have hx0:=HAt.out 1 (by rw [hs];simp)
 have hx1:s.2[1]'(by rw [hs];simp)=x:=by simp [hs]
 rw [hx1] at hx0
 obtain ⟨k0,k1,k2,k3⟩:=hx0
 simp only [Nat.one_mul] at k0 k1 k2 k3
 have XI:=fun w'=>NU (g:=g) (o:=o) (n:=n) (c:=c) 1 (by omega) .i64 w'
 simp only [Nat.one_mul,Int.cast_ofNat_Int] at XI
 have oy:=Lib.hid hz2
 clear hx1 hs hz2 hk
 by_cases hk2:x.k=2
 case neg=>
  have e4:((x.k:Int)==2)=false:=by simp;omega
  have e6:decide ((x.k:Int)=2)=false:=by simp;omega
  have HF:Hid (z=false):=by show _=_;rw [oy.out,decide_eq_false hk2];rfl
  clear hk2
  go_wp2_with fail
  go_ret
  exact ⟨by rw [HF.out];rfl,dp.out⟩
 have e4:((x.k:Int)==2)=true:=by simp;omega
 have e6:decide ((x.k:Int)=2)=true:=by simp;omega
 by_cases hx:x.t=[40]
 case neg=>
  have t1:((str x.t).toList==[40])=false:=by rw [eK];simpa using hx
  have HF:Hid (z=false):=by show _=_;rw [oy.out,decide_eq_false hx];simp
  clear hk2 hx
  go_wp2_with fail
  go_ret
  exact ⟨by rw [HF.out];rfl,dp.out⟩
 have t1:((str x.t).toList==[40])=true:=by rw [eK,hx];rfl
 have HF:Hid (eG t.t=z):=by show _=_;rw [oy.out,decide_eq_true hx,decide_eq_true hk2];rfl
 clear hk2 hx
 go_wp2_with fail
 refine (a8 w2 b B P v s d gR.out).mono ?_
 rintro r w3 ⟨rfl,hb3⟩
 rw [show nx s=t from HT.out]
 have ku:=Lib.hid (dp.out.trans (hb3.mono dp.out.size))
 clear hb3
 go_wp2_with fail
 refine (ry w3 t.t (by omega)).mono ?_
 rintro r w4 ⟨rfl,hw4⟩
 obtain rfl:=hw4
 rw [show eG t.t=z from HF.out]
 go_wp2_with fail
 go_ret
 exact ⟨rfl,ku.out⟩
def Bl (a:Nat) (l:Nm):Nat:=l.foldl (fun n c=>n * 10+(c.toNat - 48)) a
theorem Hs:∀(l:Nm) (a:Nat),a≤Bl a l
 | [],a=>Nat.le_refl _
 | c::r,a=>by
   have:=Hs r (a * 10+(c.toNat - 48))
   show a≤Bl (a * 10+(c.toNat - 48)) r
   omega
theorem AA:∀(l:Nm) (a:Nat),(∀c∈l,48≤c.toNat∧c.toNat≤57)→a < 18446744073709551616→Lib.parseUint10 a l=if Bl a l < 18446744073709551616 then .ok (Bl a l) else .range
 | [],a,_,ha=>by show _=if a < _ then _ else _;rw [if_pos ha];rfl
 | c::r,a,h,ha=>by
   have h1:=h c List.mem_cons_self
   have h2:=Hs r (a * 10+(c.toNat - 48))
   have e:Bl a (c::r)=Bl (a * 10+(c.toNat - 48)) r:=rfl
   unfold Lib.parseUint10
   rw [if_pos h1,e]
   by_cases h3:1844674407370955162≤a
   · rw [if_pos h3,if_neg (by omega)]
   ·
    rw [if_neg h3]
    by_cases h4:18446744073709551616≤a * 10+(c.toNat - 48)
    · rw [if_pos h4,if_neg (by omega)]
    ·
     rw [if_neg h4]
     exact AA r _ (fun x hx=>h x (List.mem_cons_of_mem _ hx)) (by omega)
theorem Ni {l:Nm} (h0:l≠[]) (h:∀c∈l,48≤c.toNat∧c.toNat≤57):(num l≤9223372036854775807∧Lib.atoiAll l=.ok (num l:Int))∨(9223372036854775807 < num l∧Lib.atoiAll l=.range):=by
 cases l with
 | nil=>exact absurd rfl h0
 | cons c r=>
   have h1:=h c List.mem_cons_self
   have hp:=AA (c::r) 0 h (by decide)
   have e:num (c::r)=Bl 0 (c::r):=rfl
   have n43:¬(c.toNat=43∨c.toNat=45):=by omega
   have n45:¬c.toNat=45:=by omega
   have e43:(if c.toNat=43∨c.toNat=45 then r else c::r)=c::r:=if_neg n43
   unfold Lib.atoiAll
   simp only [e43]
   simp only [n45,if_false,false_and,not_false_eq_true,true_and,Lib.parseMag,reduceCtorEq]
   rw [hp,e]
   by_cases h2:Bl 0 (c::r) < 18446744073709551616
   ·
    rw [if_pos h2]
    simp only
    by_cases h3:9223372036854775808≤Bl 0 (c::r)
    · rw [if_pos h3];exact .inr ⟨by omega,rfl⟩
    · rw [if_neg h3];exact .inl ⟨by omega,rfl⟩
   ·
    rw [if_neg h2]
    exact .inr ⟨by omega,rfl⟩
theorem Ds (w:World) (e:TypeId) (s:ByteArray):Below w.heap.size w (Lib.bytesWorld w e s):=
 ⟨rfl,rfl,rfl,by rw [Lib.bytesWorld_size];omega,fun j hj=>Lib.bytesWorld_at_old w e s j hj⟩
def Sc (n:Nat) (z:Int) (err:Value):Prop:=(n≤9223372036854775807∧z=(n:Int)∧err=.nilIface)∨(9223372036854775807 < n∧∃(t:TypeId) (p:Value),err=.iface t p)
theorem G5 (W:World) (B:Nat) (l:Nm) (hl:l.length≤100000) (h0:l≠[]) (h:∀c∈l,48≤c.toNat∧c.toNat≤57) (hG:M4 W B):Calls Tryz.prog 155 #[.string (str l)] W fun e w'=>∃z err,e=.returned (.tuple #[.int .i64 z,err])∧Sc (num l) z err∧Below W.heap.size W w':=by
 have hsz:(str l).size=l.length:=rfl
 rcases Ni h0 h with ⟨h1,h2⟩ | ⟨h1,h2⟩
 ·
  refine (Tryz.strconv_Atoi_ok (str l) (by omega) (num l:Int) (by rw [mZ];exact h2) W).mono ?_
  rintro e w' ⟨rfl,hw⟩
  refine ⟨_,_,rfl,.inl ⟨h1,rfl,rfl⟩,?_⟩
  rcases hw with rfl | ⟨t,rfl⟩
  · exact Below.refl _ _
  · exact Ds W _ t
 ·
  obtain ⟨tp,p,hv⟩:=hG.rng
  refine (Tryz.strconv_Atoi_range_var (str l) (by omega) (by rw [mZ];exact h2) tp p W hv).mono ?_
  rintro e w' ⟨N,rfl,_,_,hb⟩
  exact ⟨_,_,rfl,.inr ⟨h1,_,_,rfl⟩,hb⟩
theorem Hh (b o k:Nat) (hk:k < 4) (w:World):(Instr.fieldAt gO (.pointer (some ⟨b,o,none⟩)) k).run Tryz.prog w=.ok (.pointer (some ⟨b,o+k,none⟩)) w:=by
 match k,hk with
 | 0,_=>rfl
 | 1,_=>rfl
 | 2,_=>rfl
 | 3,_=>rfl
theorem bE {W:World} {b:Nat} {c0 c1 c2 c3:Value} (h:W.heap[b]? =some (.cells #[c0,c1,c2,c3] gO)):
 (W.cell? ⟨b,0,none⟩=some c0∧W.cell? ⟨b,1,none⟩=some c1∧W.cell? ⟨b,2,none⟩=some c2∧W.cell? ⟨b,3,none⟩=some c3)∧
 W.frozen? ⟨b,0,none⟩=false∧W.frozen? ⟨b,1,none⟩=false∧W.frozen? ⟨b,2,none⟩=false∧W.frozen? ⟨b,3,none⟩=false:=by
 simp [World.cell?,World.frozen?,h]
def SL (r:dZ):Value:=.agg #[.int .i64 (r.fd:Int),.string (str r.o),.string (str r.w),.string (str r.b)]
abbrev eR (r:dZ) (u:Value):Prop:=u=SL r
abbrev zRr:Array Value:=#[.int .i64 0,.string ⟨#[]⟩,.string ⟨#[]⟩,.string ⟨#[]⟩]
structure kL (W0:World) (v0:Value) (W:World) (b B:Nat) (P:Nat→Prop) (v:Value) (s:S) (d N:Nat) (X:Array Value) (t:TypeId):Prop where
 rd:Rd W b B P v s d
 turn:aj b v0 W0 v W
 box:W.heap[N]? =some (.cells X t)
 new:W0.heap.size≤N
 old:b < W0.heap.size
 no:¬P N
 own:v.ownBlock≠some N
section
variable {W0 W W':World} {b B:Nat} {P:Nat→Prop} {v0 v v':Value} {s s':S} {d N:Nat} {X X':Array Value} {t:TypeId}
theorem kL.lt (h:kL W0 v0 W b B P v s d N X t):N < W.heap.size:=(Array.getElem?_eq_some_iff.1 h.box).1
theorem kL.below (h:kL W0 v0 W b B P v s d N X t) (hb:Below W.heap.size W W'):kL W0 v0 W' b B P v s d N X t:=
 ⟨h.rd.below hb,h.turn.trans (aj.of_below hb),(hb.block N h.lt).trans h.box,h.new,h.old,h.no,h.own⟩
theorem kL.step (h:kL W0 v0 W b B P v s d N X t) (ht:aj b v W v' W') (hr:Rd W' b B P v' s' d):kL W0 v0 W' b B P v' s' d N X t:=
 ⟨hr,h.turn.trans ht,(ht.block N h.lt (by have:=h.new;have:=h.old;omega) h.own).trans h.box,h.new,h.old,h.no,fun e=>h.own (ht.own N e h.lt)⟩
theorem kL.grown (h:kL W0 v0 W b B P v s d N X t) (hg:W.grownBy W' (some N)) (hx:W'.heap[N]? =some (.cells X' t)):kL W0 v0 W' b B P v s d N X' t:=by
 have h1:=h.new
 have h2:=h.old
 have h3:=h.rd.bB
 refine ⟨h.rd.turn hg (fun g e _=>?_),aj.grown h.turn hg (fun g e=>by obtain rfl:=Option.some.inj e;exact h1),hx,h1,h2,h.no,h.own⟩
 obtain rfl:=Option.some.inj e
 exact ⟨by omega,by omega,h.own,fun hP=>absurd hP h.no⟩
theorem kL.set (h:kL W0 v0 W b B P v s d N X t) (i:Nat) (u:Value):∃w',W.setCell ⟨N,i,none⟩ u=w'∧kL W0 v0 w' b B P v s d N (X.setIfInBounds i u) t:=by
 obtain ⟨w2,h1,h2,h3,_⟩:=P9 W N i t u X h.box
 exact ⟨w2,h1,h.grown h3 h2⟩
theorem kL.start (h:Rd W b B P v s d) (X:Array Value) (t:TypeId):∃w1,W.alloc (.cells X t)=w1∧kL W v w1 b B (fun g=>P g∧g≠W.heap.size) v s d W.heap.size X t:=by
 have cU:=(Below.refl W.heap.size W).alloc (Nat.le_refl _) (.cells X t)
 refine ⟨_,rfl,⟨(h.less (fun g hg hl=>⟨hg,by omega⟩)).below cU,aj.of_below cU,heap_alloc_new W _,Nat.le_refl _,h.lt,fun hh=>hh.2 rfl,fun e=>?_⟩⟩
 have:=(h.own _ e).2
 omega
theorem kL.start0 (h:Rd W b B P v s d) (X:Array Value) (t:TypeId):∃w1,W.alloc (.cells X t)=w1∧kL W v w1 b B (fun g=>P g∧g < W.heap.size) v s d W.heap.size X t:=by
 have cU:=(Below.refl W.heap.size W).alloc (Nat.le_refl _) (.cells X t)
 refine ⟨_,rfl,⟨(h.less (fun g hg hl=>⟨hg,hl⟩)).below cU,aj.of_below cU,heap_alloc_new W _,Nat.le_refl _,h.lt,fun hh=>absurd hh.2 (Nat.lt_irrefl _),fun e=>?_⟩⟩
 have:=(h.own _ e).2
 omega
theorem kL.add (h:kL W0 v0 W b B P v s d N X t) (hP:¬P W.heap.size) (Y:Array Value) (u:TypeId):∃w1,W.alloc (.cells Y u)=w1∧kL W0 v0 w1 b B P v s d N X t∧kL W0 v0 w1 b B P v s d W.heap.size Y u∧N≠W.heap.size:=by
 have cU:=(Below.refl W.heap.size W).alloc (Nat.le_refl _) (.cells Y u)
 have h1:=h.below cU
 refine ⟨_,rfl,h1,⟨h1.rd,h1.turn,heap_alloc_new W _,h.turn.size,h.old,hP,fun e=>?_⟩,Nat.ne_of_lt h.lt⟩
 have:=(h.rd.own _ e).2
 omega
theorem kL.other {M:Nat} {Y Y':Array Value} {u:TypeId} (h:kL W0 v0 W b B P v s d N X t) (h2:kL W0 v0 W b B P v s d M Y u) (hne:N≠M) (hg:W.grownBy W' (some M)) (hx:W'.heap[M]? =some (.cells Y' u)):kL W0 v0 W' b B P v s d N X t∧kL W0 v0 W' b B P v s d M Y' u:=by
 have h3:=h2.grown hg hx
 exact ⟨⟨h3.rd,h3.turn,(hg.block N h.lt (fun e=>hne (Option.some.inj e))).trans h.box,h.new,h.old,h.no,h.own⟩,h3⟩
theorem kL.set2 {M:Nat} {Y:Array Value} {u:TypeId} (h:kL W0 v0 W b B P v s d N X t) (h2:kL W0 v0 W b B P v s d M Y u) (hne:N≠M) (i:Nat) (x:Value):∃w',W.setCell ⟨M,i,none⟩ x=w'∧kL W0 v0 w' b B P v s d N X t∧kL W0 v0 w' b B P v s d M (Y.setIfInBounds i x) u:=by
 obtain ⟨w2,h4,h5,h6,_⟩:=P9 W M i u x Y h2.box
 exact ⟨w2,h4,h.other h2 hne h6 h5⟩
end
def Vy (W:World) (b B:Nat) (P:Nat→Prop) (v:Value) (s:S) (d N:Nat) (t:Tok) (u:Value) (wx:World):Prop:=
 ∃s1,((t.k=5∧s1=tk s∧u=.int .i64 ((min (num t.t) 99:Nat):Int))∨(t.k≠5∧s1=s∧u=.int .i64 (-1)))∧kL W v wx b B P v s1 d N zRr gO
theorem iB (W:World) (b B:Nat) (P:Nat→Prop) (v:Value) (s:S) (d:Nat) (h:Rd W b B P v s d) (hr:aF s=true):Calls Tryz.prog 133 #[.pointer (some ⟨b,0,none⟩)] W (Post eR W b B P v d (cF s)):=by
 obtain ⟨w1,gZ,fV⟩:=kL.start0 h zRr gO
 obtain ⟨N,hN⟩:∃N,W.heap.size=N:=⟨_,rfl⟩
 rw [hN] at fV
 have V3:=Lib.hid fV
 have qa:=Lib.hid gZ
 have HN:=Lib.hid hN
 have Lt:=Lib.hid hr
 obtain ⟨X,hX⟩:∃X,cF s=X:=⟨_,rfl⟩
 have HX:=Lib.hid hX
 rw [hX]
 obtain ⟨t,ht⟩:∃t,nx s=t:=⟨_,rfl⟩
 have HT:=Lib.hid ht
 have XQ:T6 t:=by
  obtain ⟨t',l',hs⟩:=List.exists_cons_of_ne_nil h.ok.ne
  rw [←ht,Cp hs]
  exact h.ok.each t' (by rw [hs];exact List.mem_cons_self)
 have HTo:=Lib.hid XQ
 clear h gZ hN fV hX ht hr XQ
 have F0:=gj t
 have F1:=jC t
 go_enter Tryz.func133,Tryz.ntmps133
 go_upto_region 1 with fail
 rw [qa.out,HN.out]
 go_upto_region 2 with fail
 go_wp2_with fail
 refine (a8 w1 b B _ v s d V3.out.rd).mono ?_
 rintro r w2 ⟨rfl,hb2⟩
 rw [show nx s=t from HT.out]
 have SE:=Lib.hid (V3.out.below hb2)
 clear hb2
 go_upto_if 10 with fail
 go_cut [3] (fun s3 wx=>Vy W b B (fun g=>P g∧g < N) v s d N t s3 wx)
 case first=>
  by_cases hk:t.k=5
  ·
   have e1:((t.k:Int)==5)=true:=by simp;omega
   have e3:decide ((t.k:Int)=5)=true:=by simp;omega
   go_wp2_with fail
   refine (bm w2 b B _ v s d SE.out.rd).mono ?_
   rintro r w3 ⟨rfl,gI,hr3⟩
   rw [show nx s=t from HT.out]
   have Od:=Lib.hid (SE.out.step gI hr3)
   clear gI hr3
   go_wp2_with fail
   refine (G5 w3 B t.t HTo.out.1 (HTo.out.2 hk).1 (HTo.out.2 hk).2 Od.out.rd.gl).mono ?_
   rintro r w4 ⟨z,err,rfl,hz,hb4⟩
   have My:=Lib.hid (Od.out.below hb4)
   have HK:=Lib.hid hk
   clear hb4 hk e1 e3
   obtain ⟨m,hm⟩:∃m,num t.t=m:=⟨_,rfl⟩
   have HM:=Lib.hid hm
   rw [hm] at hz
   clear hm
   rcases hz with ⟨tW,rfl,rfl⟩ | ⟨tW,ty,p,rfl⟩
   ·
    go_wp2_with fail
    go_meet
    exact ⟨tk s,.inl ⟨HK.out,rfl,by rw [HM.out];exact congrArg _ (by omega)⟩,My.out⟩
   ·
    go_wp2_with fail
    go_meet
    exact ⟨tk s,.inl ⟨HK.out,rfl,by rw [HM.out,show min m 99=99 by omega];rfl⟩,My.out⟩
  ·
   have e1:((t.k:Int)==5)=false:=by simp;omega
   have e3:decide ((t.k:Int)=5)=false:=by simp;omega
   have HK:=Lib.hid hk
   clear hk
   go_wp2_with fail
   go_meet
   exact ⟨s,.inr ⟨HK.out,rfl,rfl⟩,SE.out⟩
 case rest=>
  obtain ⟨s1,hs1,fV⟩:=hcut
  have Od:=Lib.hid fV
  clear V3 SE fV
  obtain ⟨fd,F,o,hfd,ho,hX,hF⟩:∃(fd:Int) (F:Nat) (o:Nm),u3=.int .i64 fd∧(nx s1).t=o∧X=bd (cC (tk s1)) (fun w s3=>.ok (⟨F,o,w,(nx (tk s1)).b⟩,s3))∧((0≤fd∧fd=(F:Int))∨(fd=-1∧((o=[60]∧F=0)∨(o=[60,60]∧F=0)∨(o=[62]∧F=1)∨(o=[62,62]∧F=1)))):=by
   rcases hs1 with ⟨hk,rfl,hu⟩ | ⟨hk,rfl,hu⟩
   ·
    refine ⟨_,min (num t.t) 99,_,hu,rfl,?_,.inl ⟨by omega,rfl⟩⟩
    rw [←HX.out];unfold cF;simp only [HT.out,hk,decide_true,if_true]
   ·
    have hr:=Lt.out
    unfold aF at hr
    rw [HT.out,decide_eq_false hk,Bool.false_or] at hr
    have hr2:([[60],[62],[60,60],[62,62]]:List Nm).contains t.t=true:=by
     unfold aV at hr
     rw [HT.out] at hr
     simp only [Bool.and_eq_true] at hr
     exact hr.2
    have hX2:X=bd (cC (tk s1)) (fun w s3=>.ok (⟨if t.t.head? =some 60 then 0 else 1,t.t,w,(nx (tk s1)).b⟩,s3)):=by rw [←HX.out];unfold cF;simp only [HT.out,hk,decide_false,Bool.false_eq_true,if_false]
    refine ⟨-1,if t.t.head? =some 60 then 0 else 1,t.t,hu,by rw [HT.out],hX2,.inr ⟨rfl,?_⟩⟩
    simp only [List.contains_cons,List.contains_nil,Bool.or_false,Bool.or_eq_true,beq_iff_eq] at hr2
    rcases hr2 with h | h | h | h
    · exact .inl ⟨h,by rw [h];rfl⟩
    · exact .inr (.inr (.inl ⟨h,by rw [h];rfl⟩))
    · exact .inr (.inl ⟨h,by rw [h];rfl⟩)
    · exact .inr (.inr (.inr ⟨h,by rw [h];rfl⟩))
  have T7:=Lib.hid hX
  have HO:=Lib.hid ho
  subst hfd
  clear hs1 hX ho F0 F1
  go_wp2_with fail
  refine (bm wc b B _ v s1 d Od.out.rd).mono ?_
  rintro r w4 ⟨rfl,lK,hr4⟩
  have My:=Lib.hid (Od.out.step lK hr4)
  clear lK hr4
  obtain ⟨t1,nX⟩:∃t1,nx s1=t1:=⟨_,rfl⟩
  have wK:=Lib.hid nX
  have F1:=jC t1
  have e1:t1.t=o:=by rw [←nX,HO.out]
  rw [e1] at F1
  rw [nX]
  clear nX e1
  go_upto_region 8 with fail
  obtain ⟨w5,rF,ll,hm5,hne⟩:=My.out.add (fun hh=>by have:=My.out.turn.size;have:=HN.out;have:=hh.2;omega) #[.int .i64 fd,.string (str o),.string ⟨#[]⟩,.string ⟨#[]⟩] gO
  obtain ⟨M,hM⟩:∃M,w4.heap.size=M:=⟨_,rfl⟩
  rw [hM] at hm5 hne
  rw [rF,hM]
  have jw:=Lib.hid ll
  have ve:=Lib.hid hm5
  have W8:=Lib.hid hne
  obtain ⟨⟨m0,m1,m2,m3⟩,q0,q1,q2,q3⟩:=bE hm5.box
  clear rF ll hm5 hne hM
  go_upto_if 28 with fail
  go_cut [] (fun wx=>kL W v wx b B (fun g=>P g∧g < N) v (tk s1) d N zRr gO∧kL W v wx b B (fun g=>P g∧g < N) v (tk s1) d M #[.int .i64 (F:Int),.string (str o),.string ⟨#[]⟩,.string ⟨#[]⟩] gO)
  case first=>
   rcases hF with ⟨h0,rfl⟩ | ⟨rfl,hF⟩
   ·
    have a1:decide ((F:Int) < (0:Int))=false:=decide_eq_false (by omega)
    have a2:¬((F:Int) < (0:Int)):=by omega
    go_wp2_with fail
    go_meet
    exact ⟨jw.out,ve.out⟩
   ·
    obtain ⟨w6,xl,iY,oo⟩:=jw.out.set2 ve.out W8.out 0 (.int .i64 1)
    obtain ⟨w7,Ro,zE,TC⟩:=iY.set2 oo W8.out 0 (.int .i64 0)
    rcases hF with ⟨rfl,rfl⟩ | ⟨rfl,rfl⟩ | ⟨rfl,rfl⟩ | ⟨rfl,rfl⟩
    ·
     have XI:∀w:World,(Instr.index 9 (.string (str [60])) (.int .i64 0)).run Tryz.prog w=.ok (.int .u8 60) w:=fun w=>Sw.mg Tryz.underlying9 [60] .i64 0 (by decide)
     have k1:w6.cell? ⟨M,1,none⟩=some (.string (str [60])):=(bE (show w6.heap[M]? =some (.cells #[.int .i64 1,.string (str [60]),.string ⟨#[]⟩,.string ⟨#[]⟩] gO) from oo.box)).1.2.1
     have k0:w6.cell? ⟨M,0,none⟩=some (.int .i64 1):=(bE (show w6.heap[M]? =some (.cells #[.int .i64 1,.string (str [60]),.string ⟨#[]⟩,.string ⟨#[]⟩] gO) from oo.box)).1.1
     have kf:w6.frozen? ⟨M,0,none⟩=false:=(bE (show w6.heap[M]? =some (.cells #[.int .i64 1,.string (str [60]),.string ⟨#[]⟩,.string ⟨#[]⟩] gO) from oo.box)).2.1
     go_wp2_with fail
     go_meet
     exact ⟨zE,TC⟩
    ·
     have XI:∀w:World,(Instr.index 9 (.string (str [60,60])) (.int .i64 0)).run Tryz.prog w=.ok (.int .u8 60) w:=fun w=>Sw.mg Tryz.underlying9 [60,60] .i64 0 (by decide)
     have k1:w6.cell? ⟨M,1,none⟩=some (.string (str [60,60])):=(bE (show w6.heap[M]? =some (.cells #[.int .i64 1,.string (str [60,60]),.string ⟨#[]⟩,.string ⟨#[]⟩] gO) from oo.box)).1.2.1
     have k0:w6.cell? ⟨M,0,none⟩=some (.int .i64 1):=(bE (show w6.heap[M]? =some (.cells #[.int .i64 1,.string (str [60,60]),.string ⟨#[]⟩,.string ⟨#[]⟩] gO) from oo.box)).1.1
     have kf:w6.frozen? ⟨M,0,none⟩=false:=(bE (show w6.heap[M]? =some (.cells #[.int .i64 1,.string (str [60,60]),.string ⟨#[]⟩,.string ⟨#[]⟩] gO) from oo.box)).2.1
     go_wp2_with fail
     go_meet
     exact ⟨zE,TC⟩
    ·
     have XI:∀w:World,(Instr.index 9 (.string (str [62])) (.int .i64 0)).run Tryz.prog w=.ok (.int .u8 62) w:=fun w=>Sw.mg Tryz.underlying9 [62] .i64 0 (by decide)
     have k1:w6.cell? ⟨M,1,none⟩=some (.string (str [62])):=(bE (show w6.heap[M]? =some (.cells #[.int .i64 1,.string (str [62]),.string ⟨#[]⟩,.string ⟨#[]⟩] gO) from oo.box)).1.2.1
     have k0:w6.cell? ⟨M,0,none⟩=some (.int .i64 1):=(bE (show w6.heap[M]? =some (.cells #[.int .i64 1,.string (str [62]),.string ⟨#[]⟩,.string ⟨#[]⟩] gO) from oo.box)).1.1
     have kf:w6.frozen? ⟨M,0,none⟩=false:=(bE (show w6.heap[M]? =some (.cells #[.int .i64 1,.string (str [62]),.string ⟨#[]⟩,.string ⟨#[]⟩] gO) from oo.box)).2.1
     go_wp2_with fail
     go_meet
     exact ⟨iY,oo⟩
    ·
     have XI:∀w:World,(Instr.index 9 (.string (str [62,62])) (.int .i64 0)).run Tryz.prog w=.ok (.int .u8 62) w:=fun w=>Sw.mg Tryz.underlying9 [62,62] .i64 0 (by decide)
     have k1:w6.cell? ⟨M,1,none⟩=some (.string (str [62,62])):=(bE (show w6.heap[M]? =some (.cells #[.int .i64 1,.string (str [62,62]),.string ⟨#[]⟩,.string ⟨#[]⟩] gO) from oo.box)).1.2.1
     have k0:w6.cell? ⟨M,0,none⟩=some (.int .i64 1):=(bE (show w6.heap[M]? =some (.cells #[.int .i64 1,.string (str [62,62]),.string ⟨#[]⟩,.string ⟨#[]⟩] gO) from oo.box)).1.1
     have kf:w6.frozen? ⟨M,0,none⟩=false:=(bE (show w6.heap[M]? =some (.cells #[.int .i64 1,.string (str [62,62]),.string ⟨#[]⟩,.string ⟨#[]⟩] gO) from oo.box)).2.1
     go_wp2_with fail
     go_meet
     exact ⟨iY,oo⟩
  case rest=>
   obtain ⟨iY,oo⟩:=hcut
   clear m0 m1 m2 m3 q0 q1 q2 q3 jw ve hF
   obtain ⟨⟨m0,m1,m2,m3⟩,q0,q1,q2,q3⟩:=bE oo.box
   have Bv:=Lib.hid iY
   have qO:=Lib.hid oo
   clear iY oo
   obtain ⟨t2,ep⟩:∃t2,nx (tk s1)=t2:=⟨_,rfl⟩
   have fK:=Lib.hid ep
   have G2:=Og t2
   clear ep
   clear m0 m1 m2 m3 q0 q1 q2 q3
   go_wp2_with fail
   refine (a8 wc b B _ v (tk s1) d Bv.out.rd).mono ?_
   rintro r w7 ⟨rfl,zE⟩
   rw [show nx (tk s1)=t2 from fK.out]
   have Sn:=Lib.hid (Bv.out.below zE)
   have nQ:=Lib.hid (qO.out.below zE)
   clear zE
   obtain ⟨⟨m0,m1,m2,m3⟩,q0,q1,q2,q3⟩:=bE nQ.out.box
   obtain ⟨w8,ER,qC,hm8⟩:=Sn.out.set2 nQ.out W8.out 3 (.string (str t2.b))
   have Cl:=Lib.hid qC
   have Pu:Hid (kL W v w8 b B (fun g=>P g∧g < N) v (tk s1) d M #[.int .i64 (F:Int),.string (str o),.string ⟨#[]⟩,.string (str t2.b)] gO):=hm8
   clear qC hm8
   go_wp2_with fail
   refine (iA w8 b B _ v (tk s1) d Cl.out.rd).mono ?_
   rintro r w9 hp
   have hst:∀(Y:Sy.P Nm),cC (tk s1)=Y→X=bd Y (fun w s3=>.ok (⟨F,o,w,t2.b⟩,s3)):=fun Y hY=>by rw [T7.out,hY,fK.out]
   cases hY:cC (tk s1) with
   | error e=>
     rw [hY] at hp
     obtain ⟨rfl,df⟩:=hp
     have hbl:=Cl.out.turn.below (B:=B) (by have:=Cl.out.rd.bB;exact this) (fun g hg=>(Cl.out.rd.own g hg).1) (by have:=Cl.out.rd.bB;have:=Cl.out.old;omega)
     refine ⟨rfl,?_⟩
     rw [hst _ hY]
     exact ⟨rfl,hbl.trans df⟩
   | ok y=>
     rw [hY] at hp
     obtain ⟨_,v9,rfl,rfl,Af,Qq⟩:=hp
     have HB9:=Lib.hid (Cl.out.step Af Qq)
     have pH:=Lib.hid (Pu.out.step Af Qq)
     have HXF:=Lib.hid (hst _ hY)
     clear hst hY Af Qq m0 m1 m2 m3 q0 q1 q2 q3 ER
     obtain ⟨⟨m0,m1,m2,m3⟩,q0,q1,q2,q3⟩:=bE pH.out.box
     obtain ⟨wa,Xm,Lf,hma⟩:=HB9.out.set2 pH.out W8.out 2 (.string (str y.1))
     have ZK:=Lib.hid Lf
     have HMa:Hid (kL W v wa b B (fun g=>P g∧g < N) v9 y.2 d M #[.int .i64 (F:Int),.string (str o),.string (str y.1),.string (str t2.b)] gO):=hma
     obtain ⟨⟨x0,x1,x2,x3⟩,_⟩:=bE HMa.out.box
     obtain ⟨⟨z0,z1,z2,z3⟩,f0,f1,f2,f3⟩:=bE ZK.out.box
     clear Lf hma
     go_wp2_with fail
     obtain ⟨wb,hwb,h5,Xd,_⟩:=P3 wa N gO (.int .i64 (F:Int)) (.string (str o)) (.string (str y.1)) (.string (str t2.b)) _ _ _ _ ZK.out.box
     rw [hwb]
     have xh:=ZK.out.grown Xd h5
     obtain ⟨⟨y0,y1,y2,y3⟩,_⟩:=bE h5
     refine bodyPost_ret (v:=SL ⟨F,o,y.1,t2.b⟩) (by simp [results,Tryz.results133,go_sem,y0,y1,y2,y3,SL]) rfl ?_
     exact fy HXF.out rfl xh.turn (xh.rd.less (fun g hg _=>hg.1))
theorem NC (b o:Nat) (w:World):(Instr.fieldAt 25 (.pointer (some ⟨b,o,none⟩)) 0).run Tryz.prog w=.ok (.pointer (some ⟨b,o,none⟩)) w:=by rfl
theorem MO {w:World} {ad:Addr} {v:Value} (h:w.cell? ad=some v):(Instr.loadAt 23 (.pointer (some ad))).run Tryz.prog w=.ok v w:=Ap.aW (by simp [isAgg]) h
theorem Ic {w:World} {b o:Nat} {cs:List Value} (hc:∀j v,cs[j]? =some v→w.cell? ⟨b,o+j,none⟩=some v) (hl:cs.length=8):(Instr.loadAt gv (.pointer (some ⟨b,o,none⟩))).run Tryz.prog w=.ok (.agg cs.toArray) w:=by
 obtain ⟨d,hu,hr⟩:=Option.map_eq_some_iff.1 WO
 exact run_loadAt_mid w b o gv cs d hc hu hr (by rw [hl];exact Po)
theorem xM {W:World} {Q:Nat→Prop} {n:Nd} {uw ur uk:Value} (h:Rows W Q n uw ur uk):(∃a c,uw=.slice a n.ws.length c)∧(∃a c,ur=.slice a n.rs.length c)∧(∃a c,uk=.slice a n.ks.length c):=by
 have h1:=aA h.w
 have h2:=aA h.r
 have h3:=aA h.k
 obtain ⟨a1,c1,e1,_⟩:=h1
 obtain ⟨a2,c2,e2,_⟩:=h2
 obtain ⟨a3,c3,e3,_⟩:=h3
 exact ⟨⟨a1,c1,e1⟩,⟨a2,c2,e2⟩,⟨a3,c3,e3⟩⟩
theorem P6 {n:Nd} {uw ur uk:Value} (h1:∃a m c,uw=.slice a m c) (h2:∃a m c,ur=.slice a m c) (h3:∃a m c,uk=.slice a m c):∀u∈BW n uw ur uk,u.oneCell'=true:=by
 obtain ⟨_,_,_,rfl⟩:=h1
 obtain ⟨_,_,_,rfl⟩:=h2
 obtain ⟨_,_,_,rfl⟩:=h3
 intro u hu
 simp only [BW,List.mem_cons,List.not_mem_nil,or_false] at hu
 rcases hu with rfl | rfl | rfl | rfl | rfl | rfl | rfl | rfl<;>rfl
theorem xd (W:World) (a:Option Addr) (n c:Nat) (hn:n≤1000000000):Calls Tryz.prog 15 #[.agg #[.slice a n c]] W fun r W'=>r=.returned (.int .i64 ((n:Int) - 1))∧Below W.heap.size W W':=by
 obtain ⟨w1,N,gZ,hN,hx,hb,_⟩:=ei W #[.slice a n c] 25
 have HB:Hid (Below W.heap.size W w1):=by show Below _ _ _;rw [hN];exact hb
 have qa:=Lib.hid gZ
 have HN:=Lib.hid hN
 have k0:w1.cell? ⟨N,0,none⟩=some (.slice a n c):=by simp [World.cell?,hx]
 clear hb gZ hN hx
 go_enter Tryz.func15,Tryz.ntmps15
 go_upto_region 1 with fail
 rw [qa.out,HN.out]
 go_wp2_with fail
 go_ret
 exact ⟨rfl,HB.out⟩
theorem Rd.put {W W1:World} {b B:Nat} {P:Nat→Prop} {v v':Value} {s:S} {d:Nat} {n:Nd} {uw ur uk:Value} {zs:List NV} (h:Rd W b B P v s d) (hzs:zs.map (·.1)=s.1) (hz:∀x∈zs,Rows W P x.1 x.2.1 x.2.2.1 x.2.2.2) (hr:Rows W P n uw ur uk) (hg:W.grownBy W1 v.ownBlock)
 (ho:W1.ownsRow B gv 8 v' (s.1.length+1) (zs.flatMap nz++nz (n,uw,ur,uk))) (hat:∀g,v'.ownBlock=some g→g < W.heap.size→v.ownBlock=some g):
 Rd (W1.setCell ⟨b,0,none⟩ v') b B P v' (s.1++[n],s.2) d∧aj b v W v' (W1.setCell ⟨b,0,none⟩ v'):=by
 obtain ⟨u,fV,uU⟩:=h.box
 have hvb:v.ownBlock≠some b:=h.fg fV (by decide)
 have YF:W1.heap[b]? =some (.cells #[v,u,.int .i64 (d:Int)] PK):=(hg.block b h.lt (fun e=>hvb e.symm)).trans fV
 have hs:=heap_setCell_same W1 b 0 _ _ v' YF
 have hgr:W1.grownBy (W1.setCell ⟨b,0,none⟩ v') (some b):=Sl.aq b [v'] 0 W1
 have hB:=h.bB
 have hlt:=h.lt
 have ht:aj b v W v' (W1.setCell ⟨b,0,none⟩ v'):=⟨hgr.os.trans hg.os,hgr.tape.trans hg.tape,hgr.output.trans hg.output,Nat.le_trans hg.size hgr.size,fun k hk h1 h2=>(hgr.block k (Nat.lt_of_lt_of_le hk hg.size) (fun e=>h1 (Option.some.inj e))).trans (hg.block k hk (fun e=>h2 e.symm)),hat⟩
 have hbl:=ht.belowB h
 have hrow:∀(g:Nat) (X:Array Value) (t:TypeId),W.heap[g]? =some (.cells X t)→qp t→(W1.setCell ⟨b,0,none⟩ v').heap[g]? =W.heap[g]?:=fun g X t hX hT=>by
  have hl:=(Array.getElem?_eq_some_iff.1 hX).1
  refine ht.block g hl (fun e=>?_) (fun e=>?_)
  ·
   subst e
   rw [fV] at hX
   injection hX with hX
   injection hX with _ PA _
   rw [←PA] at hT
   exact fp.2.1 hT
  · exact h.fg hX (fun e=>by rw [e] at hT;exact fp.1 hT) e
 refine ⟨⟨⟨u,hs,uU.below hbl⟩,hB,⟨zs++[(n,uw,ur,uk)],?_,?_,fun x hx=>?_⟩,h.ok,h.dd,h.gl.below hbl⟩,ht⟩
 · rw [List.map_append,hzs];rfl
 ·
  rw [List.length_append,List.flatMap_append,List.flatMap_cons,List.flatMap_nil,List.append_nil]
  refine bG ho (fun g X _ hX=>hgr.block g (Array.getElem?_eq_some_iff.1 hX).1 (fun e=>?_))
  obtain rfl:=Option.some.inj e
  rw [YF] at hX
  injection hX with hX
  injection hX with _ hT _
  exact absurd hT (by decide)
 ·
  rcases List.mem_append.1 hx with hx | hx
  · exact (hz x hx).keep (fun g X t _ hX hT=>hrow g X t hX hT)
  ·
   obtain rfl:=List.mem_singleton.1 hx
   exact hr.keep (fun g X t _ hX hT=>hrow g X t hX hT)
theorem bQ (W:World) (b B:Nat) (P:Nat→Prop) (v:Value) (s:S) (d:Nat) (h:Rd W b B P v s d) (n:Nd) (uw ur uk:Value) (hr:Rows W P n uw ur uk) (hl:s.1.length≤100000):
 Calls Tryz.prog 55 #[.pointer (some ⟨b,0,none⟩),.agg #[.int .i64 (n.k:Int),.string (str n.t),.bool n.fl,uw,.int .i64 (n.st:Int),ur,uk,.int .i64 (n.ln:Int)]] W (Post eN W b B P v d (Sy.bC n s)):=by
 obtain ⟨i0,iy,hz0,hz1,hz2⟩:=info_parts Hm
 obtain ⟨w1,N,gZ,hN,hn,hb,hz⟩:=ei W (BW n uw ur uk).toArray gv
 have hb':Below W.heap.size W w1:=by rw [hN];exact hb
 have HR:=Lib.hid (h.below hb')
 have HRo:=Lib.hid (hr.below hb')
 have HB:=Lib.hid hb'
 have HN:Hid (w1.heap[N]? =some (.cells (BW n uw ur uk).toArray gv)):=hn
 have qa:Hid (W.alloc (.cells #[.int .i64 (n.k:Int),.string (str n.t),.bool n.fl,uw,.int .i64 (n.st:Int),ur,uk,.int .i64 (n.ln:Int)] gv)=w1):=gZ
 have W8:=Lib.hid hN
 obtain ⟨zs,hzs,hrow,hro⟩:=(h.below hb').row
 have HZs:=Lib.hid hzs
 have Yk:=Lib.hid hrow
 have J0:=Lib.hid hro
 have PJ:Hid (∀j,v.ownBlock=some j→B≤j∧j < w1.heap.size):=fun j hj=>HR.out.own j hj
 have hsz:=(h.below hb').size
 have Yj:∀u∈nz (n,uw,ur,uk),u.oneCell'=true:=by
  obtain ⟨⟨a1,c1,e1⟩,⟨a2,c2,e2⟩,⟨a3,c3,e3⟩⟩:=xM hr
  exact P6 ⟨a1,_,c1,e1⟩ ⟨a2,_,c2,e2⟩ ⟨a3,_,c3,e3⟩
 have ZaI:=Lib.hid Yj
 obtain ⟨u,fV,_⟩:=(h.below hb').box
 have V3:=Lib.hid fV
 have hNv:v.ownBlock≠some N:=fun e=>by have:=(h.own _ e).2;omega
 have HNv:=Lib.hid hNv
 have HbN:Hid (b≠N∧N < w1.heap.size):=by have:=h.lt;show _∧_;omega
 clear h hr hb hb' hn gZ hN hzs hrow hro Yj fV hNv
 obtain ⟨L,hL⟩:∃L,s.1.length=L:=⟨_,rfl⟩
 have HL:=Lib.hid hL
 rw [hL] at Yk hl
 clear hL
 go_enter Tryz.func55,Tryz.ntmps55
 go_upto_region 1 with fail
 rw [qa.out,W8.out]
 refine Rt.qF 9 [] [Rg.Is (.pointer (some ⟨b,0,none⟩)),Rg.Is (.pointer (some ⟨b,0,none⟩)),Rg.Is (.pointer (some ⟨b,0,none⟩)),Rg.Is (.pointer (some ⟨b,0,none⟩)),Rg.Is (.pointer (some ⟨b,0,none⟩)),Rg.Is (v),Rg.Is (.agg (BW n uw ur uk).toArray),(fun y x=>∃j,y=.slice (some ⟨j,0,none⟩) 1 1∧w1.heap.size≤j∧x.heap[j]? =some (.cells (nz (n,uw,ur,uk)).toArray gv)),(fun y x=>x.ownsRow B gv 8 y (L+1) (zs.flatMap nz++nz (n,uw,ur,uk))∧w1.grownBy x v.ownBlock∧∀g,y.ownBlock=some g→g < w1.heap.size→v.ownBlock=some g)] (fun _ _=>True) (fun ls x=>ls 8=false→Below w1.heap.size w1 x) (fun k x y=>if k=8 then x.grownBy y (Value.ownBlock (v)) else Below x.heap.size x y) (by kernel_rfl) (by kernel_rfl) (of_decide_eq_true (by kernel_rfl)) (by kernel_rfl) (by kernel_rfl) trivial (fun _=>⟨rfl,rfl,rfl,Nat.le_refl _,fun _ _=>rfl⟩) (fun ls mC x e h1 h2=>h1 (by rw [e];exact h2)) (fun _ _ _ _ _=>trivial) (fun i ls x _ h1=>by rw [show ([]:List Bool).getD i true=true from rfl] at h1;cases h1) ?_ ⟨rfl,rfl,rfl,rfl,rfl,rfl,rfl,rfl,rfl,trivial⟩ ⟨?_,?_,?_,?_,?_,?_,?_,?_,?_,trivial⟩ ?_
 ·
  intro i k u x y hik _ h1 hK
  match i,h1,hik with
  | 0,h1,_=>exact h1
  | 1,h1,_=>exact h1
  | 2,h1,_=>exact h1
  | 3,h1,_=>exact h1
  | 4,h1,_=>exact h1
  | 5,h1,_=>exact h1
  | 6,h1,_=>exact h1
  | 7,h1,hik=>
    obtain ⟨j,h2,h3,h4⟩:=h1
    refine ⟨j,h2,h3,?_⟩
    have hg:=(Array.getElem?_eq_some_iff.1 h4).1
    by_cases hk:k=8
    ·
     subst hk
     rw [if_pos rfl] at hK
     exact (hK.block j hg (fun e=>by have:=(PJ.out _ e.symm).2;omega)).trans h4
    ·
     rw [if_neg hk] at hK
     exact (hK.block j hg).trans h4
  | 8,h1,hik=>
    rw [if_neg (fun e=>hik e.symm)] at hK
    exact ⟨bz h1.1 hK,Sl.lO h1.2.1 (Sl.lT hK _),h1.2.2⟩
  | _+9,_,_=>trivial
 ·
  intro _ b9 x ls hR hS ai bI bf hk
  have h0:b9.eval (.tmp 0)=.pointer (some ⟨b,0,none⟩):=Eq.mp (by kernel_rfl) (hk 0 (by decide))
  exact Rg.az ⟨by rw [if_neg (by decide)];exact Below.refl _ _,h0,fun hh=>hS hh⟩
 ·
  intro _ b9 x ls hR hS ai bI bf hk
  have h0:b9.eval (.tmp 0)=.pointer (some ⟨b,0,none⟩):=Eq.mp (by kernel_rfl) (hk 0 (by decide))
  have lA:ls 8=false:=bf [5,4,3,2] 8 _ rfl (by kernel_rfl)
  have hb:=hS lA
  exact Rg.az ⟨by rw [if_neg (by decide)];exact Below.refl _ _,h0,fun hh=>hS hh⟩
 ·
  intro _ b9 x ls hR hS ai bI bf hk
  have h6:b9.eval (.tmp 6)=.pointer (some ⟨b,0,none⟩):=Eq.mp (by kernel_rfl) (hk 6 (by decide))
  have lA:ls 8=false:=bf [5,4,3] 8 _ rfl (by kernel_rfl)
  have hb:=hS lA
  exact Ap.fN _ h6 ⟨by rw [if_neg (by decide)];exact Below.refl _ _,rfl,fun hh=>hS hh⟩
 ·
  intro _ b9 x ls hR hS ai bI bf hk
  have h7:b9.eval (.tmp 7)=.pointer (some ⟨b,0,none⟩):=Eq.mp (by kernel_rfl) (hk 7 (by decide))
  have lA:ls 8=false:=bf [5,4] 8 _ rfl (by kernel_rfl)
  have hb:=hS lA
  exact Rs.aR _ _ h7 (Uz b 0 0 (by decide) x) ⟨by rw [if_neg (by decide)];exact Below.refl _ _,rfl,fun hh=>hS hh⟩
 ·
  intro _ b9 x ls hR hS ai bI bf hk
  have h8:b9.eval (.tmp 8)=.pointer (some ⟨b,0,none⟩):=Eq.mp (by kernel_rfl) (hk 8 (by decide))
  have lA:ls 8=false:=bf [5] 8 _ rfl (by kernel_rfl)
  have hb:=hS lA
  exact Rs.aR _ _ h8 (NC b 0 x) ⟨by rw [if_neg (by decide)];exact Below.refl _ _,rfl,fun hh=>hS hh⟩
 ·
  intro _ b9 x ls hR hS ai bI bf hk
  have h9:b9.eval (.tmp 9)=.pointer (some ⟨b,0,none⟩):=Eq.mp (by kernel_rfl) (hk 9 (by decide))
  have lA:ls 8=false:=bf [] 8 _ rfl (by kernel_rfl)
  have hb:=hS lA
  exact Rg.aK _ _ h9 (MO (fC ((hb.block b HR.out.lt).trans V3.out)).1.1) ⟨by rw [if_neg (by decide)];exact Below.refl _ _,rfl,fun hh=>hS hh⟩
 ·
  intro _ b9 x ls hR hS ai bI bf hk
  have h3:b9.eval (.tmp 3)=.pointer (some ⟨N,0,none⟩):=Eq.mp (by kernel_rfl) (hk 3 (by decide))
  have lA:ls 8=false:=bf [7] 8 _ rfl (by kernel_rfl)
  have hb:=hS lA
  exact Rg.aK _ _ h3 (Ic (cs:=(BW n uw ur uk)) (fun j y hy=>by rw [Nat.zero_add];have h2:=(hb.block N HbN.out.2).trans HN.out;unfold World.cell?;simp only [h2];simpa using hy) rfl) ⟨by rw [if_neg (by decide)];exact Below.refl _ _,rfl,fun hh=>hS hh⟩
 ·
  intro _ b9 x ls hR hS ai bI bf hk
  have h11:b9.eval (.tmp 11)=.agg (BW n uw ur uk).toArray:=Eq.mp (by kernel_rfl) (hk 11 (by decide))
  have lA:ls 8=false:=bf [] 8 _ rfl (by kernel_rfl)
  have hb:=hS lA
  have cU:=(Below.refl x.heap.size x).alloc (Nat.le_refl _) (.cells (nz (n,uw,ur,uk)).toArray gv)
  exact Rg.di #[(0,.agg (BW n uw ur uk).toArray)] _ (by simp [h11]) (by go_simp;rfl) ⟨by rw [if_neg (by decide)];exact cU,⟨x.heap.size,rfl,hb.size,heap_alloc_new x _⟩,fun hh=>hb.trans (cU.mono hb.size)⟩
 ·
  intro _ b9 x ls hR hS ai bI bf hk
  have h10:b9.eval (.tmp 10)=v:=Eq.mp (by kernel_rfl) (hk 10 (by decide))
  have zL:(fun y x=>∃j,y=.slice (some ⟨j,0,none⟩) 1 1∧w1.heap.size≤j∧x.heap[j]? =some (.cells (nz (n,uw,ur,uk)).toArray gv)) (b9.eval (.tmp 12)) x:=Eq.mp (by kernel_rfl) (hk 12 (by decide))
  have hb:=hS ai
  obtain ⟨j,h2,h3,h4⟩:=zL
  have hown:x.ownsRow B gv 8 v L (zs.flatMap nz):=bz Yk.out hb
  obtain ⟨v',w',hrun,hown',hgr,hat⟩:=Ap.bR (P:=Tryz.prog) x B 23 23 23 gv i0 _ 8 120 Tryz.underlying23 (bw Tryz.underlying23) iy hz0 hz1 hz2 rfl (by omega) (by omega) v _ _ hown (b9.eval (.tmp 12)) 1 (nz (n,uw,ur,uk)) (by rw [h2];exact cP (b:=j) (off:=0) rfl ZaI.out (.inr rfl) (fun i y hi=>by rw [Nat.zero_add];unfold World.cell?;simp only [h4];simpa using hi)) (by unfold maxLen;omega) (by omega) (by have:=hb.size;omega)
  exact Ap.cR v _ v' w' h10 rfl hrun ⟨by rw [if_pos rfl];exact hgr,⟨hown',Sl.lO (Sl.lT hb _) hgr,fun g hg hlt=>hat g hg (Nat.lt_of_lt_of_le hlt hb.size)⟩,fun hh=>by simp [Rs.upd] at hh⟩
 ·
  intro vals wD ls _ uj _ hL
  obtain ⟨g0,g1,g2,g3,g4,g5,g6,g7,g8,_⟩:=hL
  obtain ⟨hown,hgr,hat⟩:wD.ownsRow B gv 8 (vals 8) (L+1) (zs.flatMap nz++nz (n,uw,ur,uk))∧w1.grownBy wD v.ownBlock∧∀g,(vals 8).ownBlock=some g→g < w1.heap.size→v.ownBlock=some g:=g8
  have Yp:vals 0=.pointer (some ⟨b,0,none⟩):=g0
  clear g0 g1 g2 g3 g4 g5 g6 g7
  simp only [Rg.bh,List.take_succ_cons,List.take_zero,List.drop_succ_cons,List.drop_zero,List.setIfInBounds_toArray,List.set_cons_succ,List.set_cons_zero,Yp]
  clear Yp
  generalize vals 8=y at *
  have fV:wD.heap[b]? =w1.heap[b]?:=hgr.block b HR.out.lt (fun e=>HR.out.fg V3.out (by decide) e.symm)
  obtain ⟨⟨c0,c1,c2⟩,f0,f1,f2⟩:=fC (fV.trans V3.out)
  have HF:=Lib.hid (HR.out.put HZs.out J0.out HRo.out hgr (by rw [HL.out];exact hown) hat)
  obtain ⟨au,cu,rfl,_,_,_,_⟩:=aA hown
  obtain ⟨w2,hw2⟩:∃w2,wD.setCell ⟨b,0,none⟩ (.slice au (L+1) cu)=w2:=⟨_,rfl⟩
  rw [hw2] at HF
  obtain ⟨u2,Nt,_⟩:=HF.out.1.box
  obtain ⟨⟨d0,d1,d2⟩,_⟩:=fC Nt
  clear hown hgr fV hat Nt d1 d2
  have CY:=Lib.hid hw2
  go_wp2_with fail
  refine (xd w2 au (L+1) cu (by omega)).mono ?_
  rintro r w3 ⟨rfl,hb3⟩
  have HF3:Hid (Rd w3 b B P (.slice au (L+1) cu) (s.1++[n],s.2) d):=HF.out.1.below hb3
  have jf:Hid (aj b v W (.slice au (L+1) cu) w3):=((aj.of_below HB.out).trans HF.out.2).trans (aj.of_below hb3)
  clear hb3
  go_wp2_with fail
  go_ret
  refine fy rfl ?_ jf.out HF3.out
  show _=Value.int .i64 _
  rw [HL.out]
  simp
end Go.Proofs.YtiklkhbfilbpeaaGreatDoor.Sx
