import Derived.Test.YtiklkhbfilbpeaaGreatDoorTbGSyA
import Derived.Test.YtiklkhbfilbpeaaGreatDoorTbGUnI
import Derived.Test.YtiklkhbfilbpeaaGreatDoorTbGUnE
import Derived.Test.YtiklkhbfilbpeaaGreatDoorTbSySame
import Derived.Test.YtiklkhbfilbpeaaGreatDoorTbBase
import Derived.OpenShut
import Derived.ChangeOld
import Derived.Below
import Derived.ChangeSame
import Derived.SliceStrings
import Derived.Test.YtiklkhbfilbpeaaGreatDoorTbGSyG
import Derived.Test.YtiklkhbfilbpeaaGreatDoorRows
import Derived.Lib.LaidTab
import Derived.WalkKit
import Derived.ProofKit
import Derived.ShutString
import Derived.LaidSub
import Derived.Stop.LaidErr
set_option maxRecDepth 100000
set_option maxHeartbeats 16000000
set_option linter.unusedVariables false
set_option linter.unusedSimpArgs false
namespace Go.Proofs.YtiklkhbfilbpeaaGreatDoor.Sy
open Lx
def qi {α:Type} (x:P α):Prop:=∀e,x=.error e→e.1≠0
theorem bK {α β:Type} {x:P α} {f:α→S→P β} (h:qi x) (hf:∀a t,qi (f a t)):qi (bd x f):=by
 cases x with
 | error e=>exact fun y hy=>by injection hy with hy;subst hy;exact h e rfl
 | ok y=>exact hf y.1 y.2
theorem De {α:Type} {s:S}:qi (α:=α) (er 20 s):=fun e h=>by injection h with h;subst h;simp
theorem Zbt {α:Type} {s:S}:qi (α:=α) (er 21 s):=fun e h=>by injection h with h;subst h;simp
theorem dV {α:Type} {a:α} {s:S}:qi (.ok (a,s)):=fun e h=>by cases h
theorem ia {k:Nat} {ts:List Nm} {s:S}:qi (aP k ts s):=by
 unfold aP
 split
 · exact dV
 · exact De
theorem oF {s:S}:qi (cC s):=by
 unfold cC
 split
 · exact dV
 · exact De
theorem po {n:Nd} {s:S}:qi (bC n s):=dV
theorem II {α:Type} {cond:S→Bool} {step:α→S→P α} (h:∀a s,qi (step a s)):∀(f:Nat) (a:α) (s:S),qi (cV cond step f a s)
 | 0,a,s=>dV
 | f+1,a,s=>by
   unfold cV
   split
   · exact bK (h a s) fun a t=>II h f a t
   · exact dV
theorem mO {α:Type} {cond:S→Bool} {step:α→S→P α} (h:∀a s,qi (step a s)) (a:α) (s:S):qi (aB cond step a s):=II h _ a s
theorem DV (s:S):qi (cF s):=by
 unfold cF
 exact bK oF fun w t=>dV
theorem Fz (s:S):qi (eA s):=mO (fun l s=>bK (DV s) fun x t=>dV) _ s
theorem K3 (s:S):qi (cG s):=by
 unfold cG
 refine bK (mO (fun n s=>?_) _ s) fun n t=>po
 split
 · exact bK (DV s) fun x t=>dV
 · exact bK oF fun x t=>dV
section
variable {nest:S→P Nat} (hn:∀s,qi (nest s))
include hn
theorem Pg (s:S):qi (gm nest s):=by
 unfold gm
 split
 · exact De
 ·
  split
  · exact K3 s
  · exact hn s
theorem I1 (s:S):qi (dt nest s):=by
 unfold dt
 refine bK (Pg hn _) fun k t=>bK (mO (fun l u=>bK (Pg hn _) fun k v=>dV) _ _) fun ks u=>?_
 split
 · exact dV
 · exact po
theorem Mf (s:S):qi (cx nest s):=by
 unfold cx
 exact bK (I1 hn s) fun k t=>mO (fun l u=>bK (I1 hn _) fun k v=>po) _ _
theorem EI:∀(f:Nat) (ks:List Nat) (s:S),qi (eD nest f ks s)
 | 0,ks,s=>dV
 | f+1,ks,s=>by
   unfold eD
   split
   ·
    refine bK (Mf hn s) fun k t=>?_
    split
    · exact dV
    · exact EI f _ _
   · exact dV
theorem kA (em:Bool) (s:S):qi (aO nest em s):=by
 unfold aO
 refine bK (EI hn _ _ _) fun ks t=>?_
 split
 · exact De
 · exact po
theorem vX (s:S):qi (cv nest s):=bK ia fun _ t=>bK (kA hn false t) fun k u=>bK ia fun _ v=>dV
theorem M5 (ln:Nat) (s:S):qi (eV nest ln s):=bK (kA hn false _) fun k u=>bK ia fun _ v=>dV
theorem Vl (ln:Nat) (s:S):qi (mP nest ln s):=bK (kA hn false _) fun k u=>bK ia fun _ v=>dV
theorem IZ:∀(f ln:Nat) (s:S),qi (eW nest f ln s)
 | 0,ln,s=>De
 | f+1,ln,s=>by
   unfold eW
   refine bK (kA hn false _) fun c t=>bK ia fun _ u=>bK (kA hn false _) fun b v=>?_
   split
   · exact bK (IZ f _ v) fun n w=>bK po fun k x=>dV
   ·
    split
    · exact bK (kA hn false _) fun k w=>bK ia fun _ x=>dV
    · exact bK ia fun _ x=>dV
theorem Sh (ln:Nat) (s:S):qi (iw nest ln s):=bK (kA hn false _) fun c t=>bK (vX hn t) fun b u=>dV
theorem Rk (ln:Nat) (s:S):qi (eT nest ln s):=by
 unfold eT
 simp only
 split
 · exact De
 ·
  refine bK oF fun t u=>?_
  split
  · exact bK (vX hn _) fun b v=>dV
  ·
   split
   ·
    refine bK (mO (fun l u=>bK oF fun w v=>dV) _ _) fun ws v=>?_
    split
    · exact De
    · exact bK (vX hn _) fun b v=>dV
   · exact bK (vX hn _) fun b v=>dV
theorem Rl (s:S):qi (cA nest s):=bK oF fun w t=>bK (mO (fun l u=>bK oF fun w v=>dV) _ _) fun ws u=>bK ia fun _ v=>bK (kA hn true v) fun k w=>po
theorem Du:∀(f:Nat) (ks:List Nat) (s:S),qi (dL nest f ks s)
 | 0,ks,s=>dV
 | f+1,ks,s=>by
   unfold dL
   split
   · exact dV
   ·
    refine bK (Rl hn s) fun k t=>?_
    split
    · exact Du f _ _
    · exact dV
theorem OA (ln:Nat) (s:S):qi (eQ nest ln s):=bK oF fun t u=>bK ia fun _ v=>bK (Du hn _ _ _) fun ks w=>bK ia fun _ x=>dV
theorem Ql (ln:Nat) (s:S):qi (fU nest ln s):=by
 unfold fU
 refine bK oF fun t u=>bK ia fun _ v=>bK ia fun _ w=>?_
 simp only
 split
 · exact De
 · exact bK (hn _) fun k x=>dV
theorem Ss (ln:Nat) (s:S):qi (dF nest ln s):=by
 unfold dF
 split
 · exact Vl hn ln s
 ·
  split
  · exact M5 hn ln s
  ·
   split
   · exact IZ hn _ ln s
   ·
    split
    · exact Rk hn ln s
    ·
     split
     · exact OA hn ln s
     · exact Sh hn ln s
end
theorem A2:∀(n:Nat) (s:S),qi (nestD n s)
 | 0,s=>Zbt
 | n+1,s=>by
   unfold nestD
   split
   · exact bK (Ss (A2 n) _ s) fun x t=>bK (Fz t) fun rs u=>po
   · exact bK (Ql (A2 n) _ s) fun x t=>po
theorem MX {s:Nm} {y:Int × Nat} (h0:∀y,allM s=.error y→y.1≠0) (h:cI s=.error y):y.1≠0:=by
 unfold cI at h
 cases hl:allM s with
 | error x=>rw [hl] at h;injection h with h;subst h;exact h0 x hl
 | ok l=>
   rw [hl] at h
   simp only at h
   cases hr:aO (nestD 40) true ([],l) with
   | error x=>rw [hr] at h;injection h with h;subst h;exact kA (A2 40) true _ x hr
   | ok x=>
     rw [hr] at h
     simp only at h
     split at h
     · injection h with h;subst h;exact by simp
     · cases h
end Go.Proofs.YtiklkhbfilbpeaaGreatDoor.Sy
namespace Go.Proofs.YtiklkhbfilbpeaaGreatDoor.Ux
open Go.RowKit Base Lx Sy Sx Un
theorem BO {W:World} {B:Nat} {P:Nat→Prop} {v:Value} {l:List Nd} (h:lu W B P v l):dX W W.heap.size v l:=by
 refine ⟨(h.mono (Nat.zero_le _)).less (fun g h1 h2=>h2),fun g hg=>?_⟩
 obtain ⟨zs,_,h2,_⟩:=h
 exact (h2.lt g hg).2
theorem iu {W W':World} {v:Value} {l:List Nd} (h:dX W W.heap.size v l) (hb:Below W.heap.size W W'):dX W' W'.heap.size v l:=BO (h.below hb).row
theorem IJ (W:World) (v:Value) (l:List Nd) (h:dX W W.heap.size v l) (hl:tJ l):Calls Tryz.prog 7 #[.agg #[v]] W fun r W'=>r=.returned (.string (str (gK l)))∧Below W.heap.size W W':=rq W 0 _ v l h.row (fun g h=>h) hl
theorem He {s:Nm} {l:List Nd} (hs:s.length≤4096) (h:cI s=.ok l) (ha:(gK l).length≤4096):(∃g,cI (gK l)=.error (21,g)∧Cj l=true)∨∃u,cI (gK l)=.ok u∧tJ u∧gK u=gK l∧(Cj l=false→l.map Sy.bare=u.map Sy.bare):=by
 obtain ⟨h1,_⟩:=BQ hs h
 rcases Gh h h1.tr with ⟨g,h2,h3⟩ | ⟨u,k,h2,h3,h4,h5⟩
 · exact .inl ⟨g,h2,h3⟩
 ·
  obtain ⟨h6,_⟩:=BQ ha h2
  refine .inr ⟨u,h2,h6,?_,fun he=>(h5 he).symm⟩
  rw [AK h6.tr h3]
  exact h4
theorem Gp (W:World) (s:Nm) (hO:Gl W):Calls Tryz.prog 3 #[.string (str s)] W fun r W'=>r=.returned (.bool true)∧Below W.heap.size W W':=by
 have HO:=Lib.hid hO
 clear hO
 have e1:(str s).size=s.length:=rfl
 go_enter Tryz.func3,Tryz.ntmps3
 go_wp2_with fail
 refine (Bp W HO.out).mono ?_
 rintro r w1 ⟨rfl,hb1⟩
 have zr:=Lib.hid hb1
 have Cz:=Lib.hid (HO.out.below hb1)
 clear hb1
 by_cases Yy:1500 < s.length
 ·
  have a1:decide ((1500:Int) < ((str s).size:Int))=true:=decide_eq_true (by omega)
  have a2:(1500:Int) < ((str s).size:Int):=by omega
  go_wp2_with fail
  go_ret
  exact ⟨rfl,zr.out⟩
 have a1:decide ((1500:Int) < ((str s).size:Int))=false:=decide_eq_false (by omega)
 have a2:¬((1500:Int) < ((str s).size:Int)):=by omega
 have hs:s.length≤1500:=by omega
 have HS:Hid (s.length≤4096):=by show _≤_;omega
 go_wp2_with fail
 refine (pn w1 s (by omega) Cz.out.sig Cz.out.glb).mono ?_
 rintro r w2 ⟨hb2,hr⟩
 obtain ⟨X,hX⟩:∃X,cI s=X:=⟨_,rfl⟩
 have HX:=Lib.hid hX
 rw [hX] at hr
 clear a1 a2 e1 Yy hX
 cases X with
 | error y=>
   have hr:r=.returned (.tuple #[.agg #[.slice none 0 0],.int .i64 y.1,.int .i64 (y.2:Int)]):=hr
   subst hr
   have hne:y.1≠0:=MX (fun y hy=>(oN HS.out).2 y hy) HX.out
   have e1:(y.1==0)=false:=by rw [beq_eq_false_iff_ne];exact hne
   have e2:(y.1 != 0)=true:=by rw [bne_iff_ne];exact hne
   have e3:decide (y.1=0)=false:=decide_eq_false hne
   go_upto_region 7 with fail
   obtain ⟨w3,hw3⟩:∃w3,w2.alloc (.cells #[.slice none 0 0] BJ)=w3:=⟨_,rfl⟩
   have hb3:Below w1.heap.size w1 w3:=by rw [←hw3];exact hb2.alloc hb2.size _
   have ku:Hid (Below W.heap.size W w3):=zr.out.trans (hb3.mono zr.out.size)
   rw [hw3]
   clear hb2 hb3 hw3
   go_wp2_with fail
   go_ret
   exact ⟨rfl,ku.out⟩
 | ok l=>
   obtain ⟨v,rfl,hrow⟩:=hr
   obtain ⟨ta,tc,hv,_⟩:=fZ hrow
   obtain ⟨L,hL⟩:∃L,l.length=L:=⟨_,rfl⟩
   rw [hL] at hv
   subst hv
   obtain ⟨Cg,hlen⟩:=BQ HS.out HX.out
   have kF:=Lib.hid Cg
   have HBk:=Lib.hid (He HS.out HX.out)
   obtain ⟨w3,T,hw3,hT,hx3,hb3,hs3⟩:=ei w2 #[.slice ta L tc] BJ
   obtain ⟨m3,n3⟩:=cell_of hx3
   have Kv:=Lib.hid (iu (BO hrow) (by rw [hT];exact hb3))
   have ku:Hid (Below W.heap.size W w3):=zr.out.trans ((hb2.trans (hb3.mono (by have:=hb2.size;omega))).mono zr.out.size)
   have T7:=Lib.hid hx3
   have HO3:Hid (Gl w3):=Cz.out.below (hb2.trans (hb3.mono (by have:=hb2.size;omega)))
   have HSh:=Lib.hid (IJ w3 _ l Kv.out kF.out)
   have Wf:=Lib.hid hL
   clear hrow hb2 hx3 hb3 hL Cg hlen
   go_wp2_with fail
   refine HSh.out.mono ?_
   rintro r w4 ⟨rfl,hb4⟩
   have SV:=(hb4.block T (Array.getElem?_eq_some_iff.1 T7.out).1).trans T7.out
   have HX4:=Lib.hid SV
   have ZbZ:=Lib.hid (iu Kv.out hb4)
   have HO4:=Lib.hid (HO3.out.below hb4)
   have iE:Hid (Below W.heap.size W w4):=ku.out.trans (hb4.mono ku.out.size)
   obtain ⟨A,hA⟩:∃A,gK l=A:=⟨_,rfl⟩
   have HA:=Lib.hid hA
   rw [hA] at HBk ⊢
   have e1:(str A).size=A.length:=rfl
   clear hb4 SV hA m3 n3 hw3 hT hs3
   by_cases MC:4096 < A.length
   ·
    have HPb:=Lib.hid (Kl w4 A MC)
    have a1:decide ((4096:Int) < ((str A).size:Int))=true:=decide_eq_true (by omega)
    have a2:(4096:Int) < ((str A).size:Int):=by omega
    clear MC
    go_wp2_with fail
    refine HPb.out.mono ?_
    rintro r w5 ⟨rfl,ll⟩
    have jw:Hid (Below W.heap.size W w5):=iE.out.trans (ll.mono iE.out.size)
    clear ll
    go_upto_region 11 with fail
    obtain ⟨w6,xl⟩:∃w6,w5.alloc (.cells #[.slice none 0 0] BJ)=w6:=⟨_,rfl⟩
    have Bv:Hid (Below W.heap.size W w6):=by show Below _ _ _;rw [←xl];exact jw.out.alloc jw.out.size _
    rw [xl]
    clear xl
    go_wp2_with fail
    go_ret
    exact ⟨rfl,Bv.out⟩
   have a1:decide ((4096:Int) < ((str A).size:Int))=false:=decide_eq_false (by omega)
   have a2:¬((4096:Int) < ((str A).size:Int)):=by omega
   have hAl:A.length≤4096:=by omega
   have HPp:=Lib.hid (pn w4 A hAl HO4.out.sig HO4.out.glb)
   have HBq:=Lib.hid (HBk.out hAl)
   clear MC
   go_wp2_with fail
   refine HPp.out.mono ?_
   rintro r w5 ⟨ll,hr⟩
   have HO5:=Lib.hid (HO4.out.below ll)
   have jw:Hid (Below W.heap.size W w5):=iE.out.trans (ll.mono iE.out.size)
   have XW:Hid (w5.heap[T]? =some (.cells #[.slice ta L tc] BJ)):=(ll.block T (Array.getElem?_eq_some_iff.1 HX4.out).1).trans HX4.out
   have ZP:=Lib.hid (iu ZbZ.out ll)
   clear ll
   rcases HBq.out with ⟨g,hp,Nf⟩ | ⟨u,hp,mV,hsu,sN⟩
   ·
    rw [hp] at hr
    have hr:r=.returned (.tuple #[.agg #[.slice none 0 0],.int .i64 21,.int .i64 (g:Int)]):=hr
    subst hr
    have Xo:=Lib.hid Nf
    clear hp Nf
    go_upto_region 11 with fail
    obtain ⟨w6,N6,xl,hN6,RH,iY,Ps⟩:=ei w5 #[.slice none 0 0] BJ
    have iY:Below w5.heap.size w5 w6:=by rw [hN6];exact iY
    have Bv:Hid (Below W.heap.size W w6):=jw.out.trans (iY.mono jw.out.size)
    have Xk:=(iY.block T (Array.getElem?_eq_some_iff.1 XW.out).1).trans XW.out
    obtain ⟨m6,n6⟩:=cell_of Xk
    have DR:=Lib.hid (iu ZP.out iY)
    have Xy:=Lib.hid (yw w6 0 _ _ l DR.out.row kF.out.tr kF.out.few)
    rw [Xo.out] at Xy
    clear iY Xk RH
    go_wp2_with fail
    refine Xy.out.mono ?_
    rintro r w7 ⟨rfl,Ro⟩
    obtain rfl:=Ro.symm
    go_wp2
    go_ret
    exact ⟨rfl,Bv.out⟩
   ·
    rw [hp] at hr
    obtain ⟨vu,hr,hrow⟩:=hr
    have hr:r=.returned (.tuple #[.agg #[vu],.int .i64 0,.int .i64 0]):=hr
    subst hr
    obtain ⟨ua,uc,hvu,_⟩:=fZ hrow
    obtain ⟨M,hM⟩:∃M,u.length=M:=⟨_,rfl⟩
    rw [hM] at hvu
    subst hvu
    have HUk:=Lib.hid mV
    have HSu:=Lib.hid hsu
    have SY:=Lib.hid sN
    have ZbL:=Lib.hid (BO hrow)
    clear hp hrow mV hsu sN hM
    go_upto_region 11 with fail
    obtain ⟨w6,N6,xl,hN6,RH,iY,Ps⟩:=ei w5 #[.slice ua M uc] BJ
    rw [xl,hN6]
    have iY:Below w5.heap.size w5 w6:=by rw [hN6];exact iY
    have Bv:Hid (Below W.heap.size W w6):=jw.out.trans (iY.mono jw.out.size)
    have Xk:=(iY.block T (Array.getElem?_eq_some_iff.1 XW.out).1).trans XW.out
    obtain ⟨m6,n6⟩:=cell_of Xk
    obtain ⟨p6,q6⟩:=cell_of RH
    have DR:=Lib.hid (iu ZP.out iY)
    have XN:=Lib.hid (iu ZbL.out iY)
    have Py:=Lib.hid Xk
    have HX6:=Lib.hid RH
    have Xy:=Lib.hid (yw w6 0 _ _ l DR.out.row kF.out.tr kF.out.few)
    have Qk:=Lib.hid (IJ w6 _ u XN.out HUk.out)
    rw [HSu.out] at Qk
    obtain ⟨eb,heb⟩:∃b,Cj l=b:=⟨_,rfl⟩
    rw [heb] at Xy SY
    have t1:((str A).toList==A)=true:=by rw [lX];exact beq_self_eq_true _
    clear iY Xk RH heb
    go_wp2_with fail
    refine Xy.out.mono ?_
    rintro r w7 ⟨rfl,Ro⟩
    obtain rfl:=Ro.symm
    clear Xy
    cases eb with
    | true=>
      go_wp2_with fail
      refine Qk.out.mono ?_
      rintro r w8 ⟨rfl,qC⟩
      have Cl:Hid (Below W.heap.size W w8):=Bv.out.trans (qC.mono Bv.out.size)
      clear qC
      go_wp2
      go_ret
      exact ⟨rfl,Cl.out⟩
    | false=>
      go_wp2_with fail
      refine Qk.out.mono ?_
      rintro r w8 ⟨rfl,qC⟩
      have Cl:Hid (Below W.heap.size W w8):=Bv.out.trans (qC.mono Bv.out.size)
      have hT8:=(qC.block T (Array.getElem?_eq_some_iff.1 Py.out).1).trans Py.out
      have my:=(qC.block N6 (Array.getElem?_eq_some_iff.1 HX6.out).1).trans HX6.out
      obtain ⟨m8,n8⟩:=cell_of hT8
      obtain ⟨p8,q8⟩:=cell_of my
      have ZaV:=Lib.hid (iu DR.out qC)
      have ZaD:=Lib.hid (iu XN.out qC)
      have hsm:=GM w8 0 0 _ _ _ _ l u ZaV.out.row ZaD.out.row
      rw [decide_eq_true (SY.out trivial)] at hsm
      have HSm:=Lib.hid hsm
      clear qC hT8 my hsm
      go_wp2_with fail
      refine HSm.out.mono ?_
      rintro r w9 ⟨rfl,df⟩
      have HB9:Hid (Below W.heap.size W w9):=Cl.out.trans (df.mono Cl.out.size)
      clear df
      go_wp2
      go_ret
      exact ⟨rfl,HB9.out⟩
end Go.Proofs.YtiklkhbfilbpeaaGreatDoor.Ux
namespace Go.Proofs.YtiklkhbfilbpeaaGreatDoor.Opn
open Go.ChangeShapes Go.WideShapes Go.ChangeAt Go.RowKit Base
section
variable {H:Type} {enc:TypeId × Value→H} {P:Program} {w:World}
theorem LO {ad:Addr} {n:Nat} {cs:List Value} (h:w.cells? 0 ad n=some cs) (hn:0 < n):ad.spot=none∧cs.length=n∧∀j (hj:j < cs.length),w.cell? ⟨ad.block,ad.off+j,none⟩=some cs[j]:=by
 obtain ⟨h1,h2,h3⟩:=World.cells?_some h
 have hl:cs.length=n:=by first | exact h2 | omega
 have h0:=h3 0 (by omega)
 have hs:ad.spot=none:=by
  have e:ad.add 0=ad:=by simp [Addr.add]
  rw [e] at h0
  have:∃v,w.cell? ad=some v:=⟨cs[0]'(by omega),by rw [h0];simp⟩
  obtain ⟨v,hv⟩:=this
  exact World.cell?_spot hv
 refine ⟨hs,hl,fun j hj=>?_⟩
 have hj':=h3 j (by omega)
 obtain ⟨b,o,sp⟩:=ad
 simp only at hs
 subst hs
 rw [Addr.add_lit] at hj'
 rw [hj']
 simp [hj]
end
end Go.Proofs.YtiklkhbfilbpeaaGreatDoor.Opn
namespace Go.Proofs.YtiklkhbfilbpeaaGreatDoor.UnOpen
open Go.RowKit Base Lx Opn Sx Sy
open Go.ChangeShapes Go.WideShapes Go.ChangeAt
theorem yl:Tryz.prog.cellsOf 9=1:=by kernel_rfl
theorem Mj:Tryz.prog.cellsOf 96=11:=by kernel_rfl
theorem Be (s:ByteArray):str s.data.toList=s:=by obtain ⟨⟨l⟩⟩:=s;rfl
theorem J5 {H:Type} {enc:TypeId × Value→H} {w:World} {base:Nat} {sp:Nat→Bool} {held:Bool} {fuel:Nat} {cs:List Value} {ls:List Nm} {p:List MemPlace}
 (h:DataW.trod enc Tryz.prog w base sp held fuel 96 cs=some (.agg (ls.map fun l=>.lit (.string l)),p)):cs=ls.map fun l=>Value.string (str l):=by
 obtain ⟨xs,m,_,hx,hl,hn,hf⟩:=DataW.trod_array Tryz.underlying96 h
 rw [Mj] at hl
 have Xh:xs.map (·.1)=ls.map fun l=>(DataW.lit (.string l):DataW H):=by
  have:=congrArg Prod.fst hx
  simp only [DataW.agg.injEq] at this
  exact this.symm
 have hzl:ls.length=11:=by have:=congrArg List.length Xh;simp at this;omega
 apply List.ext_getElem?
 intro i
 by_cases hi:i < 11
 ·
  have h0:=hf i hi
  rw [yl] at h0
  rw [List.getElem?_eq_getElem (by omega)] at h0
  obtain ⟨s,hc,hs,_⟩:=DataW.trod_string Tryz.underlying9 h0
  have h1:cs[i]? =some (.string s):=by
   have:=congrArg (·[0]?) hc
   simpa [List.getElem?_take,List.getElem?_drop] using this
  have h2:(xs.map (·.1))[i]? =some (DataW.lit (.string s.data.toList):DataW H):=by rw [List.getElem?_map,List.getElem?_eq_getElem (by omega),hs];rfl
  rw [Xh,List.getElem?_map,List.getElem?_eq_getElem (by omega)] at h2
  simp only [Option.map_some,Option.some.injEq,DataW.lit.injEq,Lit.string.injEq] at h2
  rw [h1,List.getElem?_map,List.getElem?_eq_getElem (by omega),Option.map_some,h2,Be]
 · rw [List.getElem?_eq_none (by omega),List.getElem?_eq_none (by simp;omega)]
theorem Uf {W:World} (h:laidMetH Tryz.prog Rows.unparseFewRow.laid W):sB W:=by
 have h2:=h.filter fun x=>x.1== "kinetoscope/lexer.signs"
 have h3:laidMet Tryz.prog (("kinetoscope/lexer.signs",.agg (jk.map fun l=>.lit (.string l)))::[]) W:=h2
 obtain ⟨ps,⟨g',t',cs,fuel,p,q,Ns,WC,hvar,hd,_,_⟩,_⟩:=h3
 obtain rfl:=Option.some.inj ((show Tryz.prog.globalNamed "kinetoscope/lexer.signs"=some DL by kernel_rfl).symm.trans Ns)
 obtain rfl:=Option.some.inj ((show (Tryz.prog.globals[DL]?).map (·.type)=some 96 by kernel_rfl).symm.trans WC)
 have hc:=J5 hd
 simp only [World.var?,Ns,Option.bind_some] at hvar
 split at hvar
 ·
  rename_i cs' t fr hh
  injection hvar with e
  subst e
  refine ⟨t,fr,?_⟩
  rw [hh,←hc]
 · cases hvar
theorem KD {w:World} {sp:Nat→Bool} {held:Bool} {fuel:Nat} {cs:List Value} {ls:List Nm} {r:List (DataW Unit)} {p:List MemPlace} (h:DataW.trod (fun _=>()) Tryz.prog w 0 sp held fuel 33 cs=some (.slice (ls.map fun l=>.lit (.string l)) r,p)) (h0:0 < ls.length):
 ∃g o c,cs=[.slice (some ⟨g,o,none⟩) ls.length c]∧∀j (hj:j < ls.length),w.cell? ⟨g,o+j,none⟩=some (.string (str ls[j])):=by
 rcases DataW.trod_slice Tryz.underlying33 h with ⟨_,hx⟩ | ⟨ad,len,cap,elems,rest,n,_,hcs,hx,_,_,_,hlen,Nf,_,_⟩
 · exact absurd (congrArg Prod.fst hx) (by intro h;cases h)
 ·
  have hxe:ls.map (fun l=>(DataW.lit (.string l):DataW Unit))=elems.map (·.1):=by
   have:=congrArg Prod.fst hx
   simp only [DataW.slice.injEq] at this
   exact this.1
  have hl:ls.length=len:=by have:=congrArg List.length hxe;simp at this;omega
  have at_:∀j (hj:j < ls.length),(j * 1=0→ad.spot=none)∧(ad.add (j * 1)).spot=none∧w.cell? ⟨(ad.add (j * 1)).block,(ad.add (j * 1)).off,none⟩=some (.string (str ls[j])):=by
   intro j hj
   have h1:=Nf j (by omega)
   rw [yl] at h1
   rw [List.getElem?_eq_getElem (by omega),Option.bind_eq_some_iff] at h1
   obtain ⟨cs2,hc2,XK⟩:=h1
   obtain ⟨hs1,hs2,hs3⟩:=LO hc2 (by decide)
   obtain ⟨s,hc,hs,_⟩:=DataW.trod_string Tryz.underlying9 XK
   subst hc
   have h2:(elems.map (·.1))[j]? =some (DataW.lit (.string s.data.toList):DataW Unit):=by rw [List.getElem?_map,List.getElem?_eq_getElem (by omega),hs];rfl
   rw [←hxe,List.getElem?_map,List.getElem?_eq_getElem hj] at h2
   simp only [Option.map_some,Option.some.injEq,DataW.lit.injEq,Lit.string.injEq] at h2
   have h3:=hs3 0 (by simp)
   refine ⟨fun h0=>?_,hs1,?_⟩
   · rw [h0] at hs1;simpa [Addr.add] using hs1
   ·
    rw [h2,Be]
    simpa using h3
  obtain ⟨b,o,sp⟩:=ad
  have hsp:sp=none:=(at_ 0 h0).1 (by decide)
  subst hsp
  refine ⟨b,o,cap,by rw [hcs,hl],fun j hj=>?_⟩
  have h4:=(at_ j hj).2.2
  rw [Addr.add_lit] at h4
  simpa using h4
theorem Vb {W:World} (h:laidMetH Tryz.prog Rows.unparseFewRow.laid W):∃g o c,W.cell? ⟨Pa,0,none⟩=some (.slice (some ⟨g,o,none⟩) mr.length c)∧g < W.heap.size∧∀j (hj:j < mr.length),W.cell? ⟨g,o+j,none⟩=some (.string (str mr[j])):=by
 have h2:=h.filter fun x=>x.1== "kinetoscope/syntax.reserved"
 have h3:laidMet Tryz.prog (("kinetoscope/syntax.reserved",.slice (mr.map fun l=>.lit (.string l)) [])::[]) W:=h2
 obtain ⟨ps,⟨g',t',cs,fuel,p,q,Ns,WC,hvar,hd,_,_⟩,_⟩:=h3
 obtain rfl:=Option.some.inj ((show Tryz.prog.globalNamed "kinetoscope/syntax.reserved"=some Pa by kernel_rfl).symm.trans Ns)
 obtain rfl:=Option.some.inj ((show (Tryz.prog.globals[Pa]?).map (·.type)=some 33 by kernel_rfl).symm.trans WC)
 obtain ⟨g,o,c,hcs,hc⟩:=KD hd (by decide)
 refine ⟨g,o,c,?_,?_,hc⟩
 ·
  have h4:=World.var?_cell Ns hvar 0
  rw [h4]
  have:cs[0]? =cs.toList[0]?:=by simp
  rw [this,hcs]
  rfl
 ·
  have h5:=hc 0 (by decide)
  unfold World.cell? at h5
  rcases Nat.lt_or_ge g W.heap.size with h6 | h6
  · exact h6
  · simp [Array.getElem?_eq_none h6] at h5
theorem QJ:Tryz.prog.cellsOf 230=1:=by kernel_rfl
theorem star: "*"++ "errors.errorString"= "*errors.errorString":=by decide
theorem U0 (u:TypeId) (h:Tryz.prog.typeName? 3 u=some "*errors.errorString"):u=228:=
 typeName_ptr_named (nm:= "errors.errorString") (by rw [star];kernel_rfl) (by kernel_rfl) (by decide) u (by rw [star];exact h)
theorem WV {W:World} (h:laidMetH Tryz.prog Rows.unparseFewRow.laid W):∃tp p,W.var? Tryz.prog "strconv.ErrRange"=some #[.iface tp p]:=by
 have h2:=h.filter fun x=>x.1== "strconv.ErrRange"
 have h3:laidMet Tryz.prog (("strconv.ErrRange",.iface "*errors.errorString" (.ptr (.agg [.lit (.string [118,97,108,117,101,32,111,117,116,32,111,102,32,114,97,110,103,101])])))::[]) W:=h2
 obtain ⟨a0,s0,hv0,_,_,_⟩:=laid_sentinel h3 (g:=9) (by kernel_rfl) (ti:=90) (by kernel_rfl) Tryz.underlying90 U0 Tryz.underlying228 Tryz.underlying230 rfl rfl Tryz.underlying9 QJ yl
 exact ⟨_,_,hv0⟩
theorem lt_of_cell {W:World} {g o:Nat} {v:Value} (h:W.cell? ⟨g,o,none⟩=some v):g < W.heap.size:=by
 unfold World.cell? at h
 rcases Nat.lt_or_ge g W.heap.size with h6 | h6
 · exact h6
 · simp [Array.getElem?_eq_none h6] at h
theorem X0 {W:World} (h:laidMetH Tryz.prog Rows.unparseFewRow.laid W):Gl W:=by
 obtain ⟨g,o,c,h1,h2,h3⟩:=Vb h
 obtain ⟨tp,p,h4⟩:=WV h
 refine ⟨Uf h,⟨⟨g,o,c,h1,h2,h3⟩,⟨tp,p,h4⟩,lt_of_cell h1,?_⟩⟩
 have h5:W.cell? ⟨UX,0,none⟩=some (.iface tp p):=by
  rw [World.var?_cell Ib h4 0]
  rfl
 exact lt_of_cell h5
end Go.Proofs.YtiklkhbfilbpeaaGreatDoor.UnOpen
