import Derived.Test.YtiklkhbfilbpeaaGreatDoorTbGUnG
import Derived.Test.YtiklkhbfilbpeaaGreatDoorTbGSyA
import Derived.Test.YtiklkhbfilbpeaaGreatDoorTbSySim2
set_option maxRecDepth 100000
set_option maxHeartbeats 16000000
set_option linter.unusedVariables false
set_option linter.unusedSimpArgs false
namespace Go.Proofs.YtiklkhbfilbpeaaGreatDoor.Un
open Lx Sy
theorem MD:∀f g:F,(f.app g).wf↔f.wf∧g.wf
 | .nil,g=>⟨fun h=>⟨trivial,h⟩,fun h=>h.2⟩
 | .cons x k r,g=>by
   show (KZ x k∧k.wf∧(r.app g).wf)↔(KZ x k∧k.wf∧r.wf)∧g.wf
   rw [MD r g]
   exact ⟨fun ⟨a,b,c,d⟩=>⟨⟨a,b,c⟩,d⟩,fun ⟨⟨a,b,c⟩,d⟩=>⟨a,b,c,d⟩⟩
theorem Au:∀f g:F,(f.app g).plain↔f.plain∧g.plain
 | .nil,g=>⟨fun h=>⟨trivial,h⟩,fun h=>h.2⟩
 | .cons x k r,g=>by
   show (_∧k.plain∧(r.app g).plain)↔(_∧k.plain∧r.plain)∧g.plain
   rw [Au r g]
   exact ⟨fun ⟨a,b,c,d⟩=>⟨⟨a,b,c⟩,d⟩,fun ⟨⟨a,b,c⟩,d⟩=>⟨a,b,c,d⟩⟩
theorem IX:∀f g:F,(f.app g).dep=max f.dep g.dep
 | .nil,g=>by show g.dep=max 0 g.dep;omega
 | .cons x k r,g=>by
   show max _ (r.app g).dep=max (max _ r.dep) g.dep
   rw [IX r g];omega
def Ext (ns PD:List Nd) (f:F):Prop:=∃m,PD=ns++m∧m.map Sy.bare=f.flat ns.length
theorem ext_nil (ns:List Nd):Ext ns ns .nil:=⟨[],(List.append_nil _).symm,rfl⟩
theorem hE {ns PD:List Nd} {f:F} (h:Ext ns PD f):PD.length=ns.length+f.len:=by
 obtain ⟨m,rfl,h2⟩:=h
 have:=congrArg List.length h2
 rw [List.length_map,F.eh] at this
 rw [List.length_append,this]
theorem RU {ns PD XM:List Nd} {f g:F} (h:Ext ns PD f) (h2:Ext PD XM g):Ext ns XM (f.app g):=by
 have hl:=hE h
 obtain ⟨m,rfl,h1⟩:=h
 obtain ⟨m',rfl,h3⟩:=h2
 rw [hl] at h3
 exact ⟨m++m',List.append_assoc _ _ _,by rw [List.map_append,h1,h3,F.ye]⟩
theorem vP {ns PD:List Nd} {f:F} {n:Nd} {x:Lb} (h:Ext ns PD f) (hn:Sy.bare n=nd x (f.roots ns.length)):Ext ns (PD++[n]) (one x f):=by
 obtain ⟨m,rfl,h1⟩:=h
 exact ⟨m++[n],List.append_assoc _ _ _,by rw [List.map_append,h1,List.map_singleton,hn];rfl⟩
theorem MG {f:F} (h:f.aJ.length=1):∃x k,f=one x k:=by
 cases f with
 | nil=>cases h
 | cons x k r=>cases r with
   | nil=>exact ⟨x,k,rfl⟩
   | cons y ky r=>cases h
section
variable {L:List Tok} (hL:LOk L)
structure Got0 (L:List Tok) (s:S) (f:F) (t:S):Prop where
 ext:Ext s.1 t.1 f
 uF:t.2 <:+L
 wf:f.wf
structure uA (L:List Tok) (n:Nat) (s:S) (f:F) (t:S):Prop extends Got0 L s f t where
 dep:f.plain→f.dep≤n
theorem BK {n:Nat} {s t:S} (h:t.1=s.1) (hs:t.2 <:+L):uA L n s .nil t:=⟨⟨by rw [h];exact ext_nil _,hs,trivial⟩,fun _=>Nat.zero_le _⟩
theorem Got0.app {s t t' u:S} {f g:F} (h:Got0 L s f t) (e:t'.1=t.1) (h2:Got0 L t' g u):Got0 L s (f.app g) u:=
 ⟨RU h.ext (by rw [←e];exact h2.ext),h2.uF,(MD f g).2 ⟨h.wf,h2.wf⟩⟩
theorem uA.app {n:Nat} {s t t' u:S} {f g:F} (h:uA L n s f t) (e:t'.1=t.1) (h2:uA L n t' g u):uA L n s (f.app g) u:=
 ⟨h.toGot0.app e h2.toGot0,fun hp=>by
  have h3:=(Au f g).1 hp
  rw [IX]
  exact Nat.max_le.2 ⟨h.dep h3.1,h2.dep h3.2⟩⟩
theorem uA.move {n:Nat} {s t t':S} {f:F} (h:uA L n s f t) (e:t'.1=t.1) (hs:t'.2 <:+L):uA L n s f t':=⟨⟨by rw [e];exact h.ext,hs,h.wf⟩,h.dep⟩
theorem uA.from {n:Nat} {s s' t:S} {f:F} (h:uA L n s f t) (e:s.1=s'.1):uA L n s' f t:=⟨⟨by rw [←e];exact h.ext,h.uF,h.wf⟩,h.dep⟩
def SN (L:List Tok) (n:Nat) (s:S) (x:P Nat) (C:Lb→F→Prop):Prop:=∀y,x=.ok y→∃lb k,uA L n s (one lb k) y.2∧y.1=s.1.length+k.len∧C lb k
theorem S0 {n:Nat} {s t:S} {e:Int} {C:Lb→F→Prop}:SN L n s (er e t) C:=fun y h=>by cases h
theorem H7 {n:Nat} {s:S} {x:P Nat} {C C':Lb→F→Prop} (h:SN L n s x C) (hc:∀lb k,C lb k→C' lb k):SN L n s x C':=fun y hy=>by
 obtain ⟨lb,k,h1,h2,h3⟩:=h y hy
 exact ⟨lb,k,h1,h2,hc lb k h3⟩
theorem Il {x:Lb} {k:F} (h:x.isNest=false):(one x k).dep=k.dep:=by
 show max ((if x.isNest=true then 1 else 0)+k.dep) 0=_
 rw [h];simp
theorem Em {x:Lb} {k:F} (h:x.isNest=true):(one x k).dep=1+k.dep:=by
 show max ((if x.isNest=true then 1 else 0)+k.dep) 0=_
 rw [h];simp
theorem BX {x:Lb} {k:F} (h:KZ x k) (hk:k.wf):(one x k).wf:=⟨h,hk,trivial⟩
theorem rN {x:Lb} {k:F} (h:(one x k).plain):k.plain:=h.2.1
theorem pN {n:Nat} {s t:S} {f:F} {x:Lb} {m:Nd} (h:uA L n s f t) (hx:x.isNest=false) (ho:KZ x f) (hm:Sy.bare m=nd x (f.roots s.1.length)):∀y,bC m t=.ok y→uA L n s (one x f) y.2∧y.1=s.1.length+f.len:=by
 intro y e
 injection e with e
 subst e
 exact ⟨⟨⟨vP h.ext hm,h.uF,BX ho h.wf⟩,fun hp=>by rw [Il hx];exact h.dep (rN hp)⟩,hE h.ext⟩
include hL
omit hL in
theorem xn {t:Tok} {l:List Tok} (h:(t::l) <:+L):l <:+L:=(List.suffix_cons t l).trans h
omit hL in
theorem fx {s:S} (h:s.2 <:+L):(tk s).2 <:+L:=by
 unfold tk
 split
 · exact h
 · exact (List.tail_suffix _).trans h
omit hL in
theorem EK:∀{l:List Tok},l <:+L→dJ l <:+L
 | [],h=>h
 | t::l,h=>by
   unfold dJ
   split
   · exact EK (xn h)
   · exact h
omit hL in
theorem ic {s:S} (h:s.2 <:+L):(bj s).2 <:+L:=EK h
omit hL in
theorem vN {s:S} (h:(nx s).k≠4):∃l,s.2=nx s::l:=by
 unfold nx at h ⊢
 cases hs:s.2 with
 | nil=>rw [hs] at h;exact absurd rfl h
 | cons t l=>exact ⟨l,rfl⟩
theorem Rn {s:S} (h:s.2 <:+L) (h4:(nx s).k≠4):TK (nx s):=by
 obtain ⟨l,hl⟩:=vN h4
 rw [hl] at h
 exact hL.kind _ (h.mem List.mem_cons_self)
theorem lI {s:S} (h:s.2 <:+L) {y:Nm × S} (e:cC s=.ok y):y.2.1=s.1∧y.2.2 <:+L∧WG y.1∧(nx s).k=1∧y.1=(nx s).t∧y.2=tk s:=by
 unfold cC at e
 split at e
 ·
  rename_i hk
  injection e with e
  subst e
  refine ⟨cE s,fx h,?_,hk,rfl,rfl⟩
  rcases Rn hL h (by rw [hk];decide) with h1 | h1 | h1 | h1 | h1
  · exact h1.2
  all_goals (have:=h1.1;omega)
 · cases e
omit hL in
theorem fA {k:Nat} {ts:List Nm} {s:S} (h:s.2 <:+L) {y:Unit × S} (e:aP k ts s=.ok y):y.2.1=s.1∧y.2.2 <:+L∧aV k ts s=true:=by
 unfold aP at e
 split at e
 ·
  rename_i hi
  injection e with e
  subst e
  exact ⟨cE s,fx h,hi⟩
 · cases e
theorem zz {s:S} (h:s.2 <:+L) (hr:aF s=true) {y:dZ × S} (e:cF s=.ok y):y.2.1=s.1∧y.2.2 <:+L∧RG y.1:=by
 have key:∀(s1:S) (fd:Nat) (u:Tok) (l:List Tok),s1.1=s.1→s1.2=u::l→s1.2 <:+L→u.k=2→u.t∈vv→fd≤99→(bd (cC (tk s1)) fun w s3=>(.ok (⟨fd,u.t,w,(nx (tk s1)).b⟩,s3):P dZ))=.ok y→y.2.1=s.1∧y.2.2 <:+L∧RG y.1:=by
  intro s1 fd u l rG hl Vf hk hu hfd e
  have uU:tk s1=(s1.1,l):=by
   unfold tk
   have:(nx s1).k=2:=by unfold nx;rw [hl];exact hk
   rw [if_neg (by omega),hl]
   rfl
  rw [uU] at e
  obtain ⟨w,t,h1,h2⟩:=aM e
  injection h2 with h2
  subst h2
  have qZ:l <:+L:=by rw [hl] at Vf;exact xn Vf
  obtain ⟨r1,r2,r3,r4,r5,r6⟩:=lI hL (s:=(s1.1,l)) qZ h1
  obtain ⟨l2,hl2⟩:=vN (s:=(s1.1,l)) (by rw [r4];decide)
  have hl2:l=nx (s1.1,l)::l2:=hl2
  obtain ⟨pre,Dj⟩:=Vf
  rw [hl,hl2] at Dj
  have hp:=hL.pair pre u _ l2 Dj.symm r4
  have hop:u.t=[60]∨u.t=[62]∨u.t=[60,60]∨u.t=[62,62]:=by simpa [vv] using hu
  refine ⟨r1.trans rG,r2,⟨hfd,hop,r3,fun ho=>?_,fun ho=>?_⟩⟩
  ·
   rw [if_pos (by unfold sf;rw [decide_eq_true hk,decide_eq_true ho];rfl)] at hp
   have e1:w=(nx (s1.1,l)).t:=r5
   show qQ w _
   rw [e1]
   exact hp
  ·
   rw [if_neg (by unfold sf;rw [decide_eq_false ho];simp)] at hp
   exact hp
 unfold cF at e
 simp only at e
 by_cases hk:(nx s).k=5
 ·
  simp only [hk,decide_true,if_true] at e
  obtain ⟨l,hl⟩:=vN (s:=s) (by rw [hk];decide)
  have uU:tk s=(s.1,l):=by
   unfold tk
   rw [if_neg (by rw [hk];decide),hl];rfl
  rw [uU] at e
  have qZ:l <:+L:=by rw [hl] at h;exact xn h
  cases l with
  | nil=>
    exfalso
    obtain ⟨pre,Dj⟩:=h
    rw [hl] at Dj
    have:=hL.last pre _ Dj.symm
    omega
  | cons u l2=>
    obtain ⟨pre,Dj⟩:=h
    rw [hl] at Dj
    have rb:=hL.io pre _ u l2 Dj.symm hk
    have hu2:u.k=2:=by
     rcases hL.kind u (qZ.mem List.mem_cons_self) with h1 | h1 | h1 | h1 | h1
     ·
      have h2:=h1.2.nob []
      rw [List.append_nil] at h2
      have h3:u.t=[60]∨u.t=[62]∨u.t=[60,60]∨u.t=[62,62]:=by simpa [vv] using rb
      rcases h3 with h3 | h3 | h3 | h3<;>(rw [h3] at h2;cases h2)
     · exact h1.1
     · rw [h1.2] at rb;simp [vv] at rb
     · rw [h1.2] at rb;simp [vv] at rb
     ·
      have h2:=h1.2
      have h3:u.t=[60]∨u.t=[62]∨u.t=[60,60]∨u.t=[62,62]:=by simpa [vv] using rb
      rcases h3 with h3 | h3 | h3 | h3<;>(rw [h3] at h2;exact absurd h2 (by decide))
    exact key (s.1,u::l2) _ u l2 rfl rfl qZ hu2 rb (Nat.min_le_right _ _) e
 ·
  simp only [hk,decide_false,if_false,Bool.false_eq_true] at e
  unfold aF at hr
  simp only [hk,decide_false,Bool.false_or] at hr
  have hk2:=dD hr
  obtain ⟨l,hl⟩:=vN (s:=s) (by rw [hk2];decide)
  unfold aV at hr
  rw [Bool.and_eq_true] at hr
  have hm:(nx s).t∈vv:=List.contains_iff_mem.1 hr.2
  exact key s _ (nx s) l rfl hl h hk2 hm (by split<;>omega) e
theorem FE {s:S} (h:s.2 <:+L) {y:List dZ × S} (e:eA s=.ok y):y.2.1=s.1∧y.2.2 <:+L∧o8 y.1:=
 fE (I:=fun (a:List dZ) (t:S)=>t.1=s.1∧t.2 <:+L∧o8 a) (fun a t y hi hc e=>by
  obtain ⟨x,u,h1,h2⟩:=aM e
  injection h2 with h2
  subst h2
  obtain ⟨r1,r2,r3⟩:=zz hL hi.2.1 hc h1
  refine ⟨r1.trans hi.1,r2,fun z hz=>?_⟩
  rcases List.mem_append.1 hz with hz | hz
  · exact hi.2.2 z hz
  · rw [List.mem_singleton.1 hz];exact r3) _ [] s y ⟨rfl,h,fun z hz=>absurd hz List.not_mem_nil⟩ e
omit hL in
theorem KJ (ws:List Nm) (w:Nm) {n:Nd} (h1:n.st=Mr ws) (h2:n.ws=ws):(fk n w).st=Mr (ws++[w]):=by
 unfold Mr
 rw [List.foldl_append]
 have h3:=(Bj ws ({ k:=1,ln:=0 }:Nd)).1
 show (if (k7 w).2.2=true∧n.st=n.ws.length then n.st+1 else n.st)=(fk (ws.foldl fk ({ k:=1,ln:=0 }:Nd)) w).st
 unfold fk
 simp only
 rw [h1,h2]
 have h4:(ws.foldl fk ({ k:=1,ln:=0 }:Nd)).ws=ws:=h3
 unfold fk at h4
 rw [h4]
 rfl
structure Dt (L:List Tok) (s:S) (n:Nd) (t:S):Prop where
 ns:t.1=s.1
 uF:t.2 <:+L
 shape:n.k=1∧n.t=[]∧n.fl=false∧n.ks=[]
 st:n.st=Mr n.ws
 wg:∀w∈n.ws,WG w
 rg:∀x∈n.rs,RG x
 head:n.rs=[]→(n.ws=[]∧t=s)∨((nx s).k=1∧n.ws.head? =some (nx s).t)
omit hL in
theorem DX {α:Type} {cond:S→Bool} {step:α→S→P α} (h:pA cond step) (h0:∀s,cond s=true→s.2≠[]):∀(N:Nat) (a:α) (s:S),s.2.length≤N→∀y,aB cond step a s=.ok y→cond y.2=false
 | 0,a,s,hN,y,e=>by
   rw [bF h h0] at e
   split at e
   ·
    rename_i hc
    exact absurd (List.length_eq_zero_iff.1 (Nat.le_zero.1 hN)) (h0 s hc)
   ·
    rename_i hc
    injection e with e
    subst e
    simpa using hc
 | N+1,a,s,hN,y,e=>by
   rw [bF h h0] at e
   split at e
   ·
    rename_i hc
    obtain ⟨b,t,h1,h2⟩:=aM e
    have:=h a s _ hc h1
    exact DX h h0 N b t (by simp only at this;omega) y h2
   ·
    rename_i hc
    injection e with e
    subst e
    simpa using hc
theorem Ha {n:Nat} {s:S} (h:s.2 <:+L) (hb:begins s=true) (hm:aV 1 [[33]] s=false) (NW:aL s=false):SN L n s (cG s) (fun lb k=>lb.isCmd=true∧lb.isNest=false):=by
 intro y e
 unfold cG at e
 obtain ⟨m,t,e1,e2⟩:=aM e
 have e1:aB gA gX ({ k:=1,ln:=(nx s).ln }:Nd) s=.ok (m,t):=e1
 have hI:Dt L s m t:=fE (I:=fun m t=>Dt L s m t) (fun a u z hi hc e=>by
  have e:(if aF u then bd (cF u) fun x s=>.ok ({ a with rs:=a.rs++[x] },s) else bd (cC u) fun w s=>.ok (fk a w,s))=.ok z:=e
  split at e
  ·
   rename_i hr
   obtain ⟨x,v,h1,h2⟩:=aM e
   injection h2 with h2
   subst h2
   obtain ⟨r1,r2,r3⟩:=zz hL hi.uF hr h1
   exact ⟨r1.trans hi.ns,r2,hi.shape,hi.st,hi.wg,fun z hz=>(List.mem_append.1 hz).elim (hi.rg z) (fun hz=>by rw [List.mem_singleton.1 hz];exact r3),fun hn=>absurd hn (by simp)⟩
  ·
   obtain ⟨w,v,h1,h2⟩:=aM e
   injection h2 with h2
   subst h2
   obtain ⟨r1,r2,r3,r4,r5,_⟩:=lI hL hi.uF h1
   refine ⟨r1.trans hi.ns,r2,hi.shape,KJ _ _ hi.st rfl,fun z hz=>?_,hi.rg,fun hn=>.inr ?_⟩
   ·
    have hz:z∈a.ws++[w]:=hz
    rcases List.mem_append.1 hz with hz | hz
    · exact hi.wg z hz
    · rw [List.mem_singleton.1 hz];exact r3
   ·
    rcases hi.head hn with ⟨h3,h4⟩ | ⟨h3,h4⟩
    ·
     subst h4
     refine ⟨r4,?_⟩
     show (a.ws++[w]).head? =_
     rw [h3,←r5];rfl
    ·
     refine ⟨h3,?_⟩
     show (a.ws++[w]).head? =_
     cases hw:a.ws with
     | nil=>rw [hw] at h4;cases h4
     | cons v vs=>rw [hw] at h4;exact h4) _ _ s (m,t) ⟨rfl,h,⟨rfl,rfl,rfl,rfl⟩,rfl,fun w hw=>absurd hw List.not_mem_nil,fun w hw=>absurd hw List.not_mem_nil,fun _=>.inl ⟨rfl,rfl⟩⟩ e1
 have hend:=DX ix nJ _ _ s (Nat.le_refl _) _ e1
 have Kj:=xt hb NW
 have Zca:m.ws≠[]∨m.rs≠[]:=by
  by_cases hr:m.rs=[]
  ·
   rcases hI.head hr with ⟨h3,h4⟩ | ⟨h3,h4⟩
   ·
    exfalso
    have h5:gA s=true:=Kj
    have h6:gA t=false:=hend
    rw [h4,h5] at h6
    cases h6
   · exact .inl (fun hw=>by rw [hw] at h4;cases h4)
  · exact .inr hr
 have Cg:KZ (.uQ m.ws m.rs) .nil:=by
  refine ⟨rfl,Zca,hI.wg,hI.rg,fun hr w hw=>?_⟩
  rcases hI.head hr with ⟨h3,_⟩ | ⟨h3,h4⟩
  · rw [h3] at hw;cases hw
  ·
   rw [h4] at hw
   injection hw with hw
   rw [←hw]
   rw [←Bool.not_eq_true]
   intro hres
   unfold begins at hb
   rw [if_pos h3,hres,Bool.not_true,Bool.false_or] at hb
   unfold aV at hm
   rw [decide_eq_true h3,Bool.true_and] at hm
   unfold aL at NW
   rw [Bool.or_eq_false_iff,decide_eq_true h3,Bool.and_true] at NW
   have h5:=NW.2
   have h6:=List.contains_iff_mem.1 hb
   simp only [List.mem_cons,List.not_mem_nil,or_false] at h6
   rcases h6 with h6 | h6 | h6 | h6 | h6 | h6 | h6<;>(rw [h6] at hm h5;revert hm h5;decide)
 have Z1:Sy.bare m=nd (.uQ m.ws m.rs) []:=NT hI.shape.1 hI.shape.2.1 hI.shape.2.2.1 rfl hI.st rfl hI.shape.2.2.2 rfl
 obtain ⟨g1,g2⟩:=pN (L:=L) (n:=n) (x:=.uQ m.ws m.rs) (m:=m) (BK hI.ns hI.uF) rfl Cg Z1 y e2
 exact ⟨.uQ m.ws m.rs,.nil,g1,g2,rfl,rfl⟩
end
def NR (s:S):Prop:=eG (nx s).t=true∧mr.contains (nx s).t=false∧(nx s).k=1
theorem QW {s:S} (hb:begins s=true) (hm:aV 1 [[33]] s=false) (NW:aL s=false) (h3:(nx s).k=1):mr.contains (nx s).t=false:=by
 rw [←Bool.not_eq_true]
 intro hres
 unfold begins at hb
 rw [if_pos h3,hres,Bool.not_true,Bool.false_or] at hb
 unfold aV at hm
 rw [decide_eq_true h3,Bool.true_and] at hm
 unfold aL at NW
 rw [Bool.or_eq_false_iff,decide_eq_true h3,Bool.and_true] at NW
 have h5:=NW.2
 have h6:=List.contains_iff_mem.1 hb
 simp only [List.mem_cons,List.not_mem_nil,or_false] at h6
 rcases h6 with h6 | h6 | h6 | h6 | h6 | h6 | h6<;>(rw [h6] at hm h5;revert hm h5;decide)
theorem Me {x:Lb} (h:x.isNest=true):x.isCmd=true:=by cases x<;>first | rfl | cases h
theorem tY {x:Lb} (h:x.isPip=true):x.isAo=true:=by cases x<;>first | rfl | exact h
section
variable {L:List Tok} (hL:LOk L) {n:Nat} {nest:S→P Nat}
 (hn:∀s:S,s.2 <:+L→(aL s=true∨NR s)→SN L n s (nest s) (fun lb k=>lb.isNest=true∧(aL s=true→lb.aL=true)))
include hL hn
theorem Hz {s:S} (h:s.2 <:+L):SN L n s (gm nest s) (fun lb k=>lb.isCmd=true):=by
 unfold gm
 split
 · exact S0
 ·
  rename_i hb
  have hb1:begins s=true:=by
   cases h1:begins s with
   | true=>rfl
   | false=>exact absurd (.inl h1) hb
  have tW:aV 1 [[33]] s=false:=by
   cases h1:aV 1 [[33]] s with
   | false=>rfl
   | true=>exact absurd (.inr h1) hb
  split
  ·
   rename_i hc
   exact H7 (Ha hL h hb1 tW hc.1) fun lb k hc=>hc.1
  ·
   rename_i hc
   refine H7 (hn s h ?_) fun lb k hc=>Me hc.1
   cases h2:aL s with
   | true=>exact .inl rfl
   | false=>
     cases h3:names s with
     | false=>exact absurd ⟨h2,h3⟩ hc
     | true=>
       unfold names at h3
       rw [Bool.and_eq_true,Bool.and_eq_true] at h3
       have hk:=of_decide_eq_true h3.1.1
       exact .inr ⟨h3.2,QW hb1 tW h2 hk,hk⟩
theorem DG {s:S} (h:s.2 <:+L):SN L n s (dt nest s) (fun lb k=>lb.isPip=true):=by
 intro y e
 unfold dt at e
 simp only at e
 obtain ⟨s1,hs1⟩:∃s1,(if aV 1 [[33]] s=true then tk s else s)=s1:=⟨_,rfl⟩
 have rG:s1.1=s.1:=by rw [←hs1];split;exact cE s;rfl
 have Vf:s1.2 <:+L:=by rw [←hs1];split;exact fx h;exact h
 rw [hs1] at e
 obtain ⟨k,t,e1,e2⟩:=aM e
 obtain ⟨lb,k0,g1,g2,g3⟩:=Hz hL hn Vf _ e1
 have g1:uA L n s (one lb k0) t:=g1.from rG
 have g2:k=s.1.length+k0.len:=by rw [←rG];exact g2
 obtain ⟨ks,u,e3,e4⟩:=aM e2
 have e3:aB (aV 2 [[124]]) (ou nest) [k] t=.ok (ks,u):=e3
 have hI:∃f,uA L n s f u∧ks=f.roots s.1.length∧(∀x∈f.aJ,x.isCmd=true)∧ks.head? =some k:=fE (I:=fun (a:List Nat) (u:S)=>∃f,uA L n s f u∧a=f.roots s.1.length∧(∀x∈f.aJ,x.isCmd=true)∧a.head? =some k) (fun a u z hi hc e=>by
  obtain ⟨f,i1,i2,i3,i4⟩:=hi
  obtain ⟨k2,v,h1,h2⟩:=aM e
  injection h2 with h2
  subst h2
  obtain ⟨Uy,k3,j1,j2,j3⟩:=Hz hL hn (s:=bj (tk u)) (ic (fx i1.uF)) _ h1
  have Mp:(bj (tk u)).1=u.1:=by rw [dM,cE]
  refine ⟨f.app (one Uy k3),i1.app Mp j1,?_,fun x hx=>?_,?_⟩
  ·
   rw [F.p5,←i2]
   have j2:k2=(bj (tk u)).1.length+k3.len:=j2
   rw [j2,Mp,hE i1.ext];rfl
  ·
   rw [F.r8] at hx
   rcases List.mem_append.1 hx with hx | hx
   · exact i3 x hx
   · rw [List.mem_singleton.1 hx];exact j3
  ·
   cases a with
   | nil=>cases i4
   | cons b bs=>exact i4) _ _ t (ks,u) ⟨one lb k0,g1,by rw [g2];rfl,fun x hx=>by rw [List.mem_singleton.1 hx];exact g3,rfl⟩ e3
 obtain ⟨f,i1,i2,i3,i4⟩:=hI
 split at e4
 ·
  rename_i hc
  injection e4 with e4
  subst e4
  have P7:f.aJ.length=1:=by rw [←F.mM f s.1.length,←i2];exact hc.2
  obtain ⟨x,kx,rfl⟩:=MG P7
  refine ⟨x,kx,i1,?_,rI (i3 x List.mem_cons_self)⟩
  rw [i2] at i4
  injection i4 with i4
  exact i4.symm
 ·
  rename_i hc
  have hne:ks≠[]:=fun e=>by rw [e] at i4;cases i4
  have hlen:f.aJ.length=ks.length:=by rw [i2,F.mM]
  have vz:=List.length_pos_iff.2 hne
  have Cg:KZ (.pipe (aV 1 [[33]] s)) f:=by
   refine ⟨i3,?_⟩
   rw [hlen]
   by_cases h1:ks.length=1
   ·
    refine .inr ⟨h1,?_⟩
    cases hf:aV 1 [[33]] s with
    | true=>rfl
    | false=>exact absurd ⟨hf,h1⟩ hc
   · exact .inl (by omega)
  obtain ⟨p1,p2⟩:=pN (x:=.pipe (aV 1 [[33]] s)) i1 rfl Cg (by rw [i2];rfl) y e4
  exact ⟨_,f,p1,p2,rfl⟩
theorem Ks {s:S} (h:s.2 <:+L):SN L n s (cx nest s) (fun lb k=>lb.isAo=true):=by
 intro y e
 unfold cx at e
 obtain ⟨k,t,e1,e2⟩:=aM e
 obtain ⟨lb,k0,g1,g2,g3⟩:=DG hL hn h _ e1
 have hI:∃lb k,uA L n s (one lb k) y.2∧y.1=s.1.length+k.len∧lb.isAo=true:=fE (I:=fun (a:Nat) (u:S)=>∃lb k,uA L n s (one lb k) u∧a=s.1.length+k.len∧lb.isAo=true) (fun a u z hi hc e=>by
  obtain ⟨lb,k,i1,i2,i3⟩:=hi
  obtain ⟨k2,v,h1,h2⟩:=aM e
  obtain ⟨Uy,k3,j1,j2,j3⟩:=DG hL hn (s:=bj (tk u)) (ic (fx i1.uF)) _ h1
  have Mp:(bj (tk u)).1=u.1:=by rw [dM,cE]
  have hg:=i1.app Mp j1
  have hr:[a,k2]=(F.cons lb k (one Uy k3)).roots s.1.length:=by
   have j2:k2=(bj (tk u)).1.length+k3.len:=j2
   rw [i2,j2,Mp,hE i1.ext];rfl
  by_cases h4:(nx u).t=[124,124]
  ·
   obtain ⟨p1,p2⟩:=pN (x:=.EW) hg rfl ⟨lb,k,Uy,k3,rfl,i3,j3⟩ (by
    rw [if_pos h4,hr];rfl) z h2
   exact ⟨.EW,_,p1,p2,rfl⟩
  ·
   obtain ⟨p1,p2⟩:=pN (x:=.qz) hg rfl ⟨lb,k,Uy,k3,rfl,i3,j3⟩ (by
    rw [if_neg h4,hr];rfl) z h2
   exact ⟨.qz,_,p1,p2,rfl⟩) _ _ t y ⟨lb,k0,g1,g2,tY g3⟩ e2
 exact hI
theorem AQ {s:S}:∀(f:Nat) (ks:List Nat) (t:S) (F0:F),uA L n s F0 t→ks=F0.roots s.1.length→(∀x∈F0.aJ,x.isAo=true)→∀y,eD nest f ks t=.ok y→∃F1,uA L n s F1 y.2∧y.1=F1.roots s.1.length∧∀x∈F1.aJ,x.isAo=true
 | 0,ks,t,F0,g,hk,ha,y,e=>by injection e with e;subst e;exact ⟨F0,g,hk,ha⟩
 | f+1,ks,t,F0,g,hk,ha,y,e=>by
   unfold eD at e
   split at e
   ·
    obtain ⟨k,u,h1,h2⟩:=aM e
    obtain ⟨lb,k0,j1,j2,j3⟩:=Ks hL hn g.uF _ h1
    have hg:=g.app rfl j1
    have eo:ks++[k]=(F0.app (one lb k0)).roots s.1.length:=by
     have j2:k=t.1.length+k0.len:=j2
     rw [F.p5,←hk,j2,hE g.ext];rfl
    have Z4:∀x∈(F0.app (one lb k0)).aJ,x.isAo=true:=fun x hx=>by
     rw [F.r8] at hx
     rcases List.mem_append.1 hx with hx | hx
     · exact ha x hx
     · rw [List.mem_singleton.1 hx];exact j3
    split at h2
    ·
     injection h2 with h2
     subst h2
     exact ⟨_,hg,eo,Z4⟩
    · exact AQ f _ _ _ (hg.move (t':=bj (tk u)) (by rw [dM,cE]) (ic (fx hg.uF))) eo Z4 y h2
   ·
    injection e with e
    subst e
    exact ⟨F0,g,hk,ha⟩
theorem iI (em:Bool) {s:S} (h:s.2 <:+L):SN L n s (aO nest em s) (fun lb k=>lb=.seq∧(em=false→k≠.nil)):=by
 intro y e
 unfold aO at e
 obtain ⟨ks,t,e1,e2⟩:=aM e
 obtain ⟨F1,g1,g2,g3⟩:=AQ hL hn (s:=s) _ [] (bj s) .nil (BK (dM s) (ic h)) rfl (fun x hx=>absurd hx List.not_mem_nil) _ e1
 simp only at g2
 split at e2
 · cases e2
 ·
  rename_i hc
  obtain ⟨p1,p2⟩:=pN (x:=.seq) g1 rfl g3 (by rw [g2];rfl) y e2
  refine ⟨.seq,F1,p1,p2,rfl,fun Vz hn=>hc ⟨?_,Vz⟩⟩
  rw [g2,hn];rfl
theorem sk {s:S} (h:s.2 <:+L):SN L n s (cv nest s) (fun lb k=>lb=.seq∧k≠.nil):=by
 intro y e
 unfold cv at e
 obtain ⟨_,t,e1,e2⟩:=aM e
 obtain ⟨r1,r2,_⟩:=fA (L:=L) h e1
 obtain ⟨k,u,e3,e4⟩:=aM e2
 obtain ⟨lb,k0,j1,j2,j3,j4⟩:=iI hL hn false (s:=t) r2 _ e3
 obtain ⟨_,v,e5,e6⟩:=aM e4
 obtain ⟨q1,q2,_⟩:=fA (L:=L) (s:=u) j1.uF e5
 injection e6 with e6
 subst e6
 exact ⟨lb,k0,(j1.move q1 q2).from r1,by rw [←r1];exact j2,j3,j4 rfl⟩
def SC (L:List Tok) (n:Nat) (s:S) (x:P Nd):Prop:=∀y,x=.ok y→∃(g:List dZ→Lb) (k:F),Got0 L s k y.2∧(∀rs,Sy.bare { y.1 with rs:=rs }=nd (g rs) (k.roots s.1.length))∧(∀rs,o8 rs→KZ (g rs) k)∧(∀rs,(g rs).aL=true)∧∀rs,(one (g rs) k).plain→k.dep≤n
omit hL hn in
theorem xQ {s t:S} {k:F} {m:Nd} (g:List dZ→Lb) (hg:uA L n s k t) (h1:∀rs,Sy.bare { m with rs:=rs }=nd (g rs) (k.roots s.1.length)) (h2:∀rs,o8 rs→KZ (g rs) k) (h3:∀rs,(g rs).aL=true):SC L n s (.ok (m,t)):=fun y e=>by
 injection e with e
 subst e
 exact ⟨g,k,hg.toGot0,h1,h2,h3,fun rs hp=>hg.dep (rN hp)⟩
theorem J4 (ln:Nat) {s:S} (h:s.2 <:+L):SC L n s (eV nest ln s):=by
 intro y e
 unfold eV at e
 obtain ⟨k,t,e1,e2⟩:=aM e
 obtain ⟨lb,k0,j1,j2,j3,j4⟩:=iI hL hn false (s:=tk s) (fx h) _ e1
 obtain ⟨_,u,e3,e4⟩:=aM e2
 obtain ⟨q1,q2,_⟩:=fA (L:=L) (s:=t) j1.uF e3
 subst j3
 have rG:=cE s
 have j2:k=s.1.length+k0.len:=by rw [←rG];exact j2
 exact xQ (fun rs=>.group rs) ((j1.move q1 q2).from rG) (fun rs=>by rw [j2];rfl) (fun rs hr=>⟨hr,k0,rfl,j4 rfl⟩) (fun rs=>rfl) y e4
theorem SM (ln:Nat) {s:S} (h:s.2 <:+L):SC L n s (mP nest ln s):=by
 intro y e
 unfold mP at e
 obtain ⟨k,t,e1,e2⟩:=aM e
 obtain ⟨lb,k0,j1,j2,j3,j4⟩:=iI hL hn false (s:=tk s) (fx h) _ e1
 obtain ⟨_,u,e3,e4⟩:=aM e2
 obtain ⟨q1,q2,_⟩:=fA (L:=L) (s:=t) j1.uF e3
 subst j3
 have rG:=cE s
 have j2:k=s.1.length+k0.len:=by rw [←rG];exact j2
 exact xQ (fun rs=>.sub rs) ((j1.move q1 q2).from rG) (fun rs=>by rw [j2];rfl) (fun rs hr=>⟨hr,k0,rfl,j4 rfl⟩) (fun rs=>rfl) y e4
theorem O8 (ln:Nat) {s:S} (h:s.2 <:+L):SC L n s (iw nest ln s):=by
 intro y e
 unfold iw at e
 obtain ⟨k,t,e1,e2⟩:=aM e
 obtain ⟨lb,k0,j1,j2,j3,j4⟩:=iI hL hn false (s:=tk s) (fx h) _ e1
 obtain ⟨b,u,e3,e4⟩:=aM e2
 obtain ⟨Uy,k1,q1,q2,q3,q4⟩:=sk hL hn (s:=t) j1.uF _ e3
 subst j3 q3
 have rG:=cE s
 have hj:=j1.from rG
 have j2:k=s.1.length+k0.len:=by rw [←rG];exact j2
 have q2:b=t.1.length+k1.len:=q2
 have hr:[k,b]=(F.cons .seq k0 (one .seq k1)).roots s.1.length:=by
  rw [j2,q2,hE hj.ext];rfl
 exact xQ (fun rs=>.loop _ rs) (hj.app rfl q1) (fun rs=>by rw [hr];rfl) (fun rs hr=>⟨hr,k0,k1,rfl,j4 rfl,q4⟩) (fun rs=>rfl) y e4
def SA (L:List Tok) (n:Nat) (s:S) (x:P Nd):Prop:=∀y,x=.ok y→∃k:F,Got0 L s k y.2∧(∀rs,Sy.bare { y.1 with rs:=rs }=nd (.asks rs) (k.roots s.1.length))∧y.1.rs=[]∧(∀rs,o8 rs→KZ (.asks rs) k)∧∀rs,(one (.asks rs) k).plain→k.dep≤n
theorem CM:∀(f ln:Nat) (s:S),s.2 <:+L→SA L n s (eW nest f ln s)
 | 0,ln,s,h=>fun y e=>by cases e
 | f+1,ln,s,h=>by
   intro y e
   unfold eW at e
   obtain ⟨k,t,e1,e2⟩:=aM e
   obtain ⟨lb,k0,j1,j2,j3,j4⟩:=iI hL hn false (s:=tk s) (fx h) _ e1
   have rG:=cE s
   have hj:=j1.from rG
   have j2:k=s.1.length+k0.len:=by rw [←rG];exact j2
   obtain ⟨_,t1,e3,e4⟩:=aM e2
   obtain ⟨q1,q2,_⟩:=fA (L:=L) (s:=t) j1.uF e3
   obtain ⟨b,u,e5,e6⟩:=aM e4
   obtain ⟨Uy,k1,r1,r2,r3,r4⟩:=iI hL hn false (s:=t1) q2 _ e5
   subst j3 r3
   have r2:b=t1.1.length+k1.len:=r2
   have hb:uA L n s (F.cons .seq k0 (one .seq k1)) u:=hj.app q1 r1
   have P7:t1.1.length=s.1.length+(k0.len+1):=by rw [q1];exact hE hj.ext
   have hl2:u.1.length=s.1.length+(k0.len+1+(k1.len+1+0)):=hE hb.ext
   split at e6
   ·
    obtain ⟨m,v,e7,e8⟩:=aM e6
    obtain ⟨k2,a1,a2,a3,a4,a5⟩:=CM f _ u hb.uF _ e7
    obtain ⟨c,w,e9,uW⟩:=aM e8
    injection e9 with e9
    injection e9 with e9 e9'
    subst e9 e9'
    injection uW with uW
    subst uW
    have ha2:Sy.bare m=nd (.asks []) (k2.roots u.1.length):=by
     have:=a2 []
     rw [←this]
     show Sy.bare m=Sy.bare { m with rs:=[] }
     have a3:m.rs=[]:=a3
     rw [←a3]
    have hx:Got0 L u (one (.asks []) k2) (v.1++[m],v.2):=⟨vP a1.ext ha2,a1.uF,BX (a4 [] (fun x hx=>absurd hx List.not_mem_nil)) a1.wf⟩
    have hg:=hb.toGot0.app rfl hx
    have hv:v.1.length=u.1.length+k2.len:=hE a1.ext
    refine ⟨F.cons .seq k0 (.cons .seq k1 (one (.asks []) k2)),hg,fun rs=>?_,rfl,fun rs hr=>⟨hr,k0,k1,one (.asks []) k2,rfl,j4 rfl,r4 rfl,.inr (.inr ⟨k2,rfl⟩)⟩,fun rs hp=>?_⟩
    ·
     have hr:[k,b,v.1.length]=(F.cons .seq k0 (.cons .seq k1 (one (.asks []) k2))).roots s.1.length:=by
      rw [j2,r2,hv,P7,hl2]
      show [s.1.length+k0.len,s.1.length+(k0.len+1)+k1.len,s.1.length+(k0.len+1+(k1.len+1+0))+k2.len]=[s.1.length+k0.len,s.1.length+k0.len+1+k1.len,s.1.length+k0.len+1+k1.len+1+k2.len]
      congr 2
      congr 1
      omega
     rw [hr];rfl
    · exact absurd rfl (hp.1 rs [] rfl)
   ·
    split at e6
    ·
     obtain ⟨c,v,e7,e8⟩:=aM e6
     obtain ⟨lb3,k2,a1,a2,a3,a4⟩:=iI hL hn false (s:=tk u) (fx hb.uF) _ e7
     subst a3
     have a2:c=(tk u).1.length+k2.len:=a2
     obtain ⟨_,w,e9,uW⟩:=aM e8
     obtain ⟨d1,d2,_⟩:=fA (L:=L) (s:=v) a1.uF e9
     injection uW with uW
     subst uW
     have hg:=hb.app (cE u) (a1.move d1 d2)
     refine ⟨F.cons .seq k0 (.cons .seq k1 (one .seq k2)),hg.toGot0,fun rs=>?_,rfl,fun rs hr=>⟨hr,k0,k1,one .seq k2,rfl,j4 rfl,r4 rfl,.inr (.inl ⟨k2,rfl,a4 rfl⟩)⟩,fun rs hp=>hg.dep (rN hp)⟩
     have hr:[k,b,c]=(F.cons .seq k0 (.cons .seq k1 (one .seq k2))).roots s.1.length:=by
      rw [j2,r2,a2,cE,P7,hl2]
      show [s.1.length+k0.len,s.1.length+(k0.len+1)+k1.len,s.1.length+(k0.len+1+(k1.len+1+0))+k2.len]=[s.1.length+k0.len,s.1.length+k0.len+1+k1.len,s.1.length+k0.len+1+k1.len+1+k2.len]
      congr 2
      congr 1
      omega
     rw [hr];rfl
    ·
     obtain ⟨_,w,e9,uW⟩:=aM e6
     obtain ⟨d1,d2,_⟩:=fA (L:=L) (s:=u) hb.uF e9
     injection uW with uW
     subst uW
     have hg:=hb.move d1 d2
     refine ⟨F.cons .seq k0 (one .seq k1),hg.toGot0,fun rs=>?_,rfl,fun rs hr=>⟨hr,k0,k1,.nil,rfl,j4 rfl,r4 rfl,.inl rfl⟩,fun rs hp=>hg.dep (rN hp)⟩
     have hr:[k,b]=(F.cons .seq k0 (one .seq k1)).roots s.1.length:=by
      rw [j2,r2,P7];rfl
     rw [hr];rfl
theorem O9 (ln:Nat) {s:S} (h:s.2 <:+L):SC L n s (eT nest ln s):=by
 intro y e
 unfold eT at e
 simp only at e
 have rG:=cE s
 split at e
 · cases e
 ·
  rename_i Wk
  obtain ⟨t,u,e1,e2⟩:=aM e
  obtain ⟨r1,r2,r3,r4,r5,_⟩:=lI hL (s:=tk s) (fx h) e1
  have r1:u.1=(tk s).1:=r1
  have r5:t=(nx (tk s)).t:=r5
  have hname:eG t=true:=by
   rw [r5]
   simpa using Wk
  have hu:u.1=s.1:=r1.trans rG
  split at e2
  ·
   obtain ⟨b,v,e3,e4⟩:=aM e2
   obtain ⟨lb,k0,j1,j2,j3,j4⟩:=sk hL hn (s:=bj (tk u)) (ic (fx r2)) _ e3
   subst j3
   have bO:(bj (tk u)).1=s.1:=by rw [dM,cE,hu]
   have j2:b=s.1.length+k0.len:=by rw [←bO];exact j2
   exact xQ (fun rs=>.each t none rs) (j1.from bO) (fun rs=>by rw [j2];rfl) (fun rs hr=>⟨hr,hname,(fun l h=>by cases h),k0,rfl,j4⟩) (fun rs=>rfl) y e4
  ·
   split at e2
   ·
    obtain ⟨ws,v,e3,e4⟩:=aM e2
    have e3:aB lv nD [] (tk (bj u))=.ok (ws,v):=e3
    have hI:v.1=s.1∧v.2 <:+L∧∀w∈ws,WG w:=fE (I:=fun (a:List Nm) (v:S)=>v.1=s.1∧v.2 <:+L∧∀w∈a,WG w) (fun a v z hi hc e=>by
     obtain ⟨w,x,h1,h2⟩:=aM e
     injection h2 with h2
     subst h2
     obtain ⟨q1,q2,q3,_⟩:=lI hL hi.2.1 h1
     refine ⟨q1.trans hi.1,q2,fun w' hw=>?_⟩
     rcases List.mem_append.1 hw with hw | hw
     · exact hi.2.2 w' hw
     · rw [List.mem_singleton.1 hw];exact q3) _ _ _ (ws,v) ⟨by rw [cE,dM,hu],fx (ic r2),fun w hw=>absurd hw List.not_mem_nil⟩ e3
    obtain ⟨i1,i2,i3⟩:=hI
    split at e4
    · cases e4
    ·
     obtain ⟨b,x,e5,e6⟩:=aM e4
     obtain ⟨lb,k0,j1,j2,j3,j4⟩:=sk hL hn (s:=bj (tk v)) (ic (fx i2)) _ e5
     subst j3
     have bO:(bj (tk v)).1=s.1:=by rw [dM,cE,i1]
     have j2:b=s.1.length+k0.len:=by rw [←bO];exact j2
     exact xQ (fun rs=>.each t (some ws) rs) (j1.from bO) (fun rs=>by rw [j2];rfl) (fun rs hr=>⟨hr,hname,(fun l h=>by injection h with h;subst h;exact i3),k0,rfl,j4⟩) (fun rs=>rfl) y e6
   ·
    obtain ⟨b,v,e3,e4⟩:=aM e2
    obtain ⟨lb,k0,j1,j2,j3,j4⟩:=sk hL hn (s:=bj u) (ic r2) _ e3
    subst j3
    have bO:(bj u).1=s.1:=by rw [dM,hu]
    have j2:b=s.1.length+k0.len:=by rw [←bO];exact j2
    exact xQ (fun rs=>.each t none rs) (j1.from bO) (fun rs=>by rw [j2];rfl) (fun rs hr=>⟨hr,hname,(fun l h=>by cases h),k0,rfl,j4⟩) (fun rs=>rfl) y e4
theorem LM {s:S} (h:s.2 <:+L):SN L n s (cA nest s) (fun lb k=>∃ws,lb=.item ws):=by
 intro y e
 unfold cA at e
 obtain ⟨s1,hs1⟩:∃s1,(if aV 2 [[40]] s=true then tk s else s)=s1:=⟨_,rfl⟩
 have rG:s1.1=s.1:=by rw [←hs1];split;exact cE s;rfl
 have Vf:s1.2 <:+L:=by rw [←hs1];split;exact fx h;exact h
 rw [hs1] at e
 obtain ⟨w,t,e1,e2⟩:=aM e
 obtain ⟨r1,r2,r3,_⟩:=lI hL Vf e1
 obtain ⟨ws,u,e3,e4⟩:=aM e2
 have e3:aB (aV 2 [[124]]) qy [w] t=.ok (ws,u):=e3
 have hI:u.1=s.1∧u.2 <:+L∧(∀w∈ws,WG w)∧ws≠[]:=fE (I:=fun (a:List Nm) (v:S)=>v.1=s.1∧v.2 <:+L∧(∀w∈a,WG w)∧a≠[]) (fun a v z hi hc e=>by
  obtain ⟨w,x,h1,h2⟩:=aM e
  injection h2 with h2
  subst h2
  obtain ⟨q1,q2,q3,_⟩:=lI hL (s:=tk v) (fx hi.2.1) h1
  refine ⟨(q1.trans (cE v)).trans hi.1,q2,fun w' hw=>?_,by simp⟩
  rcases List.mem_append.1 hw with hw | hw
  · exact hi.2.2.1 w' hw
  · rw [List.mem_singleton.1 hw];exact q3) _ _ _ (ws,u) ⟨r1.trans rG,r2,fun w' hw=>by rw [List.mem_singleton.1 hw];exact r3,by simp⟩ e3
 obtain ⟨i1,i2,i3,i4⟩:=hI
 obtain ⟨_,v,e5,e6⟩:=aM e4
 obtain ⟨q1,q2,_⟩:=fA (L:=L) (s:=u) i2 e5
 obtain ⟨k,x,e7,e8⟩:=aM e6
 obtain ⟨lb,k0,j1,j2,j3,_⟩:=iI hL hn true (s:=v) q2 _ e7
 subst j3
 have bO:v.1=s.1:=by rw [←i1];exact q1
 have j2:k=s.1.length+k0.len:=by rw [←bO];exact j2
 obtain ⟨p1,p2⟩:=pN (x:=.item ws) (j1.from bO) rfl ⟨i3,i4,k0,rfl⟩ (by rw [j2];rfl) y e8
 exact ⟨.item ws,_,p1,p2,ws,rfl⟩
theorem Ae {s:S}:∀(f:Nat) (ks:List Nat) (t:S) (F0:F),uA L n s F0 t→ks=F0.roots s.1.length→(∀x∈F0.aJ,∃ws,x=.item ws)→∀y,dL nest f ks t=.ok y→∃F1,uA L n s F1 y.2∧y.1=F1.roots s.1.length∧∀x∈F1.aJ,∃ws,x=.item ws
 | 0,ks,t,F0,g,hk,ha,y,e=>by injection e with e;subst e;exact ⟨F0,g,hk,ha⟩
 | f+1,ks,t,F0,g,hk,ha,y,e=>by
   unfold dL at e
   split at e
   ·
    injection e with e
    subst e
    exact ⟨F0,g,hk,ha⟩
   ·
    obtain ⟨k,u,h1,h2⟩:=aM e
    obtain ⟨lb,k0,j1,j2,j3⟩:=LM hL hn g.uF _ h1
    have hg:=g.app rfl j1
    have eo:ks++[k]=(F0.app (one lb k0)).roots s.1.length:=by
     have j2:k=t.1.length+k0.len:=j2
     rw [F.p5,←hk,j2,hE g.ext];rfl
    have Z4:∀x∈(F0.app (one lb k0)).aJ,∃ws,x=.item ws:=fun x hx=>by
     rw [F.r8] at hx
     rcases List.mem_append.1 hx with hx | hx
     · exact ha x hx
     · rw [List.mem_singleton.1 hx];exact j3
    split at h2
    · exact Ae f _ _ _ (hg.move (t':=bj (tk u)) (by rw [dM,cE]) (ic (fx hg.uF))) eo Z4 y h2
    ·
     injection h2 with h2
     subst h2
     exact ⟨_,hg,eo,Z4⟩
theorem Kd (ln:Nat) {s:S} (h:s.2 <:+L):SC L n s (eQ nest ln s):=by
 intro y e
 unfold eQ at e
 have rG:=cE s
 obtain ⟨t,u,e1,e2⟩:=aM e
 obtain ⟨r1,r2,r3,_⟩:=lI hL (s:=tk s) (fx h) e1
 obtain ⟨_,v,e3,e4⟩:=aM e2
 obtain ⟨q1,q2,_⟩:=fA (L:=L) (s:=bj u) (ic r2) e3
 obtain ⟨ks,w,e5,e6⟩:=aM e4
 have hv:(bj v).1=s.1:=by rw [dM];exact q1.trans ((dM u).trans (r1.trans rG))
 obtain ⟨F1,g1,g2,g3⟩:=Ae hL hn (s:=s) _ [] (bj v) .nil (BK hv (ic q2)) rfl (fun x hx=>absurd hx List.not_mem_nil) _ e5
 simp only at g2
 obtain ⟨_,x,e7,e8⟩:=aM e6
 obtain ⟨d1,d2,_⟩:=fA (L:=L) (s:=w) g1.uF e7
 exact xQ (fun rs=>.cases t rs) (g1.move d1 d2) (fun rs=>by rw [g2];rfl) (fun rs hr=>⟨hr,r3,g3⟩) (fun rs=>rfl) y e8
theorem Nx (ln:Nat) {s:S} (h:s.2 <:+L):SC L n s (dF nest ln s):=by
 unfold dF
 split
 · exact SM hL hn ln h
 ·
  split
  · exact J4 hL hn ln h
  ·
   split
   ·
    intro y e
    obtain ⟨k,a1,a2,a3,a4,a5⟩:=CM hL hn _ ln s h y e
    exact ⟨fun rs=>.asks rs,k,a1,a2,a4,fun rs=>rfl,a5⟩
   ·
    split
    · exact O9 hL hn ln h
    ·
     split
     · exact Kd hL hn ln h
     · exact O8 hL hn ln h
theorem Nz (ln:Nat) {s:S} (h:s.2 <:+L) (hr:NR s):∀y,fU nest ln s=.ok y→∃t k,uA L n s k y.2∧Sy.bare y.1=nd (.func t) (k.roots s.1.length)∧KZ (.func t) k:=by
 intro y e
 unfold fU at e
 obtain ⟨t,u,e1,e2⟩:=aM e
 obtain ⟨r1,r2,r3,r4,r5,_⟩:=lI hL h e1
 have r5:t=(nx s).t:=r5
 obtain ⟨_,v,e3,e4⟩:=aM e2
 obtain ⟨q1,q2,_⟩:=fA (L:=L) (s:=u) r2 e3
 obtain ⟨_,w,e5,e6⟩:=aM e4
 obtain ⟨d1,d2,_⟩:=fA (L:=L) (s:=v) q2 e5
 simp only at e6
 split at e6
 · cases e6
 ·
  rename_i hc
  have hc:aL (bj w)=true:=by simpa using hc
  obtain ⟨k,x,e7,e8⟩:=aM e6
  obtain ⟨lb,k0,j1,j2,j3,j4⟩:=hn (bj w) (ic d2) (.inl hc) _ e7
  have rG:(bj w).1=s.1:=by rw [dM];exact d1.trans (q1.trans r1)
  have j2:k=s.1.length+k0.len:=by rw [←rG];exact j2
  injection e8 with e8
  subst e8
  refine ⟨t,one lb k0,j1.from rG,by rw [j2];rfl,?_,?_,lb,k0,rfl,j4 hc⟩
  · rw [r5];exact hr.1
  · rw [r5];exact hr.2.1
end
theorem DW {L:List Tok} (hL:LOk L):∀(n:Nat) (s:S),s.2 <:+L→(aL s=true∨NR s)→SN L n s (nestD n s) (fun lb k=>lb.isNest=true∧(aL s=true→lb.aL=true))
 | 0,s,_,_=>S0
 | n+1,s,h,hor=>by
   have ih:=DW hL n
   intro y e
   unfold nestD at e
   split at e
   ·
    rename_i hc
    obtain ⟨x,t,e1,e2⟩:=aM e
    obtain ⟨g,k,g1,g2,g3,g4,g5⟩:=Nx hL ih _ h _ e1
    obtain ⟨rs,u,e3,e4⟩:=aM e2
    obtain ⟨r1,r2,r3⟩:=FE hL (s:=t) g1.uF e3
    have r1:u.1=t.1:=r1
    have vd:(g rs).isNest=true:=by have:=g4 rs;revert this;cases g rs<;>first | exact fun _=>rfl | exact fun h=>by cases h
    injection e4 with e4
    subst e4
    have lB:Ext s.1 (u.1++[{ x with rs:=rs }]) (one (g rs) k):=vP (by rw [r1];exact g1.ext) (g2 rs)
    refine ⟨g rs,k,⟨⟨lB,r2,BX (g3 rs r3) g1.wf⟩,fun hp=>?_⟩,?_,vd,fun _=>g4 rs⟩
    ·
     rw [Em vd]
     have:=g5 rs hp
     omega
    ·
     show u.1.length=_
     rw [r1]
     exact hE g1.ext
   ·
    rename_i hc
    have hr:NR s:=hor.elim (fun h=>absurd h hc) id
    obtain ⟨x,t,e1,e2⟩:=aM e
    obtain ⟨tt,k,g1,g2,g3⟩:=Nz hL ih _ h hr _ e1
    injection e2 with e2
    subst e2
    have lB:Ext s.1 (t.1++[x]) (one (.func tt) k):=vP g1.ext g2
    refine ⟨.func tt,k,⟨⟨lB,g1.uF,BX g3 g1.wf⟩,fun hp=>?_⟩,hE g1.ext,rfl,fun h=>absurd h hc⟩
    rw [Em rfl]
    have:=g1.dep (rN hp)
    omega
theorem Mm {s:Nm} {l:List Nd} (h:cI s=.ok l):∃k:F,l.map Sy.bare=(one .seq k).flat 0∧(one .seq k).wf∧((one .seq k).plain→k.dep≤40):=by
 unfold cI at h
 split at h
 · cases h
 ·
  rename_i L hA
  have hL:=VZ hA
  split at h
  · cases h
  ·
   rename_i x hx
   obtain ⟨lb,k,g1,g2,g3,_⟩:=iI hL (DW hL 40) true (s:=([],L)) List.suffix_rfl _ hx
   subst g3
   split at h
   · cases h
   ·
    injection h with h
    subst h
    obtain ⟨m,h1,h2⟩:=g1.ext
    rw [List.nil_append] at h1
    exact ⟨k,by rw [h1];exact h2,g1.wf,fun hp=>by have:=g1.dep hp;rw [Il rfl] at this;exact this⟩
theorem DF {w:Nm} (h:Q6 w):WG w where
 ne:=h.ne
 nob T:=by
  cases w with
  | nil=>exact absurd rfl h.ne
  | cons c r=>
    have:=h.plain
    rw [List.all_cons,Bool.and_eq_true] at this
    exact (oO this.1).1
 Zn:=h.Zn
 noj T:=by
  cases w with
  | nil=>exact absurd rfl h.ne
  | cons c r=>
    have:=h.plain
    rw [List.all_cons,Bool.and_eq_true] at this
    exact iN (oO this.1).2.1
 again T hT _:=wM h.plain hT
theorem fT {w:Nm} (h1:w≠[]) (h2:w.all jm=true) (h3:w.head?≠some 35):WG w:=DF ⟨h1,h2,h3⟩
theorem jV:∀(rs:List dZ) (a:List Ac),o8 rs→jb a→ki a→ki (bU rs++a)∧jb (bU rs++a)
 | [],a,_,hn,ha=>⟨ha,hn⟩
 | x::rs,a,h,hn,ha=>by
   obtain ⟨h1,h2⟩:=jV rs a (fun y hy=>h y (List.mem_cons_of_mem _ hy)) hn ha
   exact ⟨⟨h x List.mem_cons_self,h2,h1⟩,trivial⟩
theorem A0:∀(ws:List Nm) (a:List Ac),(∀w∈ws,WG w)→jb a→ki a→ki (lg [.sp] ws++a)∧jb (lg [.sp] ws++a)
 | [],a,_,hn,ha=>⟨ha,hn⟩
 | w::ws,a,h,hn,ha=>by
   obtain ⟨h1,h2⟩:=A0 ws a (fun y hy=>h y (List.mem_cons_of_mem _ hy)) hn ha
   exact ⟨⟨h w List.mem_cons_self,h2,h1⟩,trivial⟩
theorem EG:∀(ws:List Nm) (a:List Ac),(∀w∈ws,WG w)→jb a→ki a→ki (lg [.op [124]] ws++a)∧jb (lg [.op [124]] ws++a)
 | [],a,_,hn,ha=>⟨ha,hn⟩
 | w::ws,a,h,hn,ha=>by
   obtain ⟨h1,h2⟩:=EG ws a (fun y hy=>h y (List.mem_cons_of_mem _ hy)) hn ha
   exact ⟨⟨by decide,fun _=>trivial,h w List.mem_cons_self,h2,h1⟩,.inl rfl⟩
def GN (x:Lb) (k:F):Prop:=(x.isAo=true→∀a,ki a→jb a→ki (aD x k.aJ k.acts++a))∧((x=.seq∨∃ws,x=.item ws)→∀a,ki a→ki (aD x k.aJ k.acts++a))
theorem sI (o:Nm) (ho:o∈opsL):∀(r:F),(∀p∈r.tops,GN p.1 p.2)→(∀x∈r.aJ,x.isAo=true)→∀a,ki a→jb a→ki ((r.acts.flatMap fun b=>[.sp,.op o,.sp]++b)++a)∧jb ((r.acts.flatMap fun b=>[.sp,.op o,.sp]++b)++a)
 | .nil,_,_,a,ha,hn=>⟨ha,hn⟩
 | .cons x k r,hc,hx,a,ha,hn=>by
   obtain ⟨h1,h2⟩:=sI o ho r (fun p hp=>hc p (List.mem_cons_of_mem _ hp)) (fun y hy=>hx y (List.mem_cons_of_mem _ hy)) a ha hn
   have h3:=(hc (x,k) List.mem_cons_self).1 (hx x List.mem_cons_self) _ h1 h2
   have e:((F.cons x k r).acts.flatMap fun b=>[.sp,.op o,.sp]++b)++a=.sp::.op o::.sp::(aD x k.aJ k.acts++((r.acts.flatMap fun b=>[.sp,.op o,.sp]++b)++a)):=by
    show (([.sp,.op o,.sp]++aD x k.aJ k.acts)++(r.acts.flatMap fun b=>[.sp,.op o,.sp]++b))++a=_
    simp
   rw [e]
   exact ⟨⟨ho,fun _=>trivial,h3⟩,trivial⟩
theorem Iu:∀(r:F),(∀p∈r.tops,GN p.1 p.2)→(∀x∈r.aJ,x.isAo=true)→∀a,ki a→ki (gH r.acts++a)
 | .nil,_,_,a,ha=>ha
 | .cons x k r,hc,hx,a,ha=>by
   have h1:=Iu r (fun p hp=>hc p (List.mem_cons_of_mem _ hp)) (fun y hy=>hx y (List.mem_cons_of_mem _ hy)) a ha
   have e:gH (F.cons x k r).acts++a=aD x k.aJ k.acts++.nl::(gH r.acts++a):=by
    show ((aD x k.aJ k.acts++[.nl])++gH r.acts)++a=_
    simp
   rw [e]
   exact (hc (x,k) List.mem_cons_self).1 (hx x List.mem_cons_self) _ h1 trivial
theorem zN:∀(r:F),(∀p∈r.tops,GN p.1 p.2)→(∀x∈r.aJ,∃ws,x=.item ws)→∀a,ki a→ki (r.acts.flatten++a)
 | .nil,_,_,a,ha=>ha
 | .cons x k r,hc,hx,a,ha=>by
   have h1:=zN r (fun p hp=>hc p (List.mem_cons_of_mem _ hp)) (fun y hy=>hx y (List.mem_cons_of_mem _ hy)) a ha
   have e:(F.cons x k r).acts.flatten++a=aD x k.aJ k.acts++(r.acts.flatten++a):=by
    show (aD x k.aJ k.acts++r.acts.flatten)++a=_
    simp
   rw [e]
   exact (hc (x,k) List.mem_cons_self).2 (.inr (hx x List.mem_cons_self)) _ h1
theorem kX {w:Nm} {k:F} {a:List Ac} (hw:WG w) (hk:GN .seq k) (ha:ki a):ki (.wd w::.nl::(aD .seq k.aJ k.acts++a)):=⟨hw,trivial,hk.2 (.inl rfl) a ha⟩
theorem Bt:∀f:F,f.wf→∀x k,(x,k)∈f.tops→GN x k
 | .nil,_,x,k,h=>absurd h List.not_mem_nil
 | .cons y ky r,hw,x,k,h=>by
   obtain ⟨ho,hk,hr⟩:=hw
   rcases List.mem_cons.1 h with e | h
   ·
    injection e with e1 e2
    subst e1 e2
    have ih:∀p∈k.tops,GN p.1 p.2:=fun p hp=>Bt k hk p.1 p.2 hp
    have ao:∀{x:Lb} {k:F},x≠.seq→(∀ws,x≠.item ws)→(∀a,ki a→jb a→ki (aD x k.aJ k.acts++a))→GN x k:=fun h1 h2 h3=>⟨fun _=>h3,fun h=>by
     rcases h with h | ⟨ws,h⟩
     · exact absurd h h1
     · exact absurd h (h2 ws)⟩
    cases x with
    | uQ ws rs=>
      refine ao (fun h=>by cases h) (fun ws h=>by cases h) fun a ha hn=>?_
      obtain ⟨rfl,hs⟩:=ho
      show ki ((zy rs++((if 0 < rs.length∧0 < ws.length then [.sp] else [])++oW [.sp] ws))++a)
      have hj:∀w SX,ws=w::SX→ki (oW [.sp] ws++a):=fun w SX e=>by
       subst e
       obtain ⟨h1,h2⟩:=A0 SX a (fun y hy=>hs.wg y (List.mem_cons_of_mem _ hy)) hn ha
       exact ⟨hs.wg w List.mem_cons_self,h2,h1⟩
      cases rs with
      | nil=>
        cases ws with
        | nil=>exact ha
        | cons w ws=>exact hj w ws rfl
      | cons x rs=>
        have hB:ki ((if 0 < (x::rs).length∧0 < ws.length then [.sp] else [])++oW [.sp] ws++a)∧jb ((if 0 < (x::rs).length∧0 < ws.length then [.sp] else [])++oW [.sp] ws++a):=by
         cases ws with
         | nil=>exact ⟨ha,hn⟩
         | cons w ws=>exact ⟨hj w ws rfl,trivial⟩
        have ht:=jV rs _ (fun y hy=>hs.rg y (List.mem_cons_of_mem _ hy)) hB.2 hB.1
        rw [List.append_assoc]
        exact ⟨hs.rg x List.mem_cons_self,ht.2,ht.1⟩
    | pipe fl=>
      refine ao (fun h=>by cases h) (fun ws h=>by cases h) fun a ha hn=>?_
      show ki (((if fl then [.wd [33],.sp] else [])++Gg [.sp,.op [124],.sp] k.acts)++a)
      have hS:ki (Gg [.sp,.op [124],.sp] k.acts++a):=by
       cases k with
       | nil=>exact ha
       | cons z kz rz=>
         have hb:=sI [124] (by decide) rz (fun p hp=>ih p (List.mem_cons_of_mem _ hp)) (fun y hy=>tY (rI (ho.1 y (List.mem_cons_of_mem _ hy)))) a ha hn
         have:=(ih (z,kz) List.mem_cons_self).1 (tY (rI (ho.1 z List.mem_cons_self))) _ hb.1 hb.2
         show ki ((aD z kz.aJ kz.acts++rz.acts.flatMap fun b=>[.sp,.op [124],.sp]++b)++a)
         rw [List.append_assoc]
         exact this
      rw [List.append_assoc]
      cases fl with
      | false=>exact hS
      | true=>exact ⟨fT (by decide) (by decide) (by decide),trivial,hS⟩
    | qz=>
      refine ao (fun h=>by cases h) (fun ws h=>by cases h) fun a ha hn=>?_
      obtain ⟨z,kz,v,kv,rfl,hz,hv⟩:=ho
      have hb:=sI [38,38] (by decide) (one v kv) (fun p hp=>ih p (List.mem_cons_of_mem _ hp)) (fun y hy=>by rw [List.mem_singleton.1 hy];exact tY hv) a ha hn
      have:=(ih (z,kz) List.mem_cons_self).1 hz _ hb.1 hb.2
      show ki ((aD z kz.aJ kz.acts++(one v kv).acts.flatMap fun b=>[.sp,.op [38,38],.sp]++b)++a)
      rw [List.append_assoc]
      exact this
    | EW=>
      refine ao (fun h=>by cases h) (fun ws h=>by cases h) fun a ha hn=>?_
      obtain ⟨z,kz,v,kv,rfl,hz,hv⟩:=ho
      have hb:=sI [124,124] (by decide) (one v kv) (fun p hp=>ih p (List.mem_cons_of_mem _ hp)) (fun y hy=>by rw [List.mem_singleton.1 hy];exact tY hv) a ha hn
      have:=(ih (z,kz) List.mem_cons_self).1 hz _ hb.1 hb.2
      show ki ((aD z kz.aJ kz.acts++(one v kv).acts.flatMap fun b=>[.sp,.op [124,124],.sp]++b)++a)
      rw [List.append_assoc]
      exact this
    | seq=>exact ⟨fun h=>(by cases h),fun _ a ha=>Iu k ih ho a ha⟩
    | asks rs=>
      refine ao (fun h=>by cases h) (fun ws h=>by cases h) fun a ha hn=>?_
      obtain ⟨jG,kc,kb,r3,rfl,_,_,h3⟩:=ho
      have hc:=ih (.seq,kc) List.mem_cons_self
      have hb:=ih (.seq,kb) (List.mem_cons_of_mem _ List.mem_cons_self)
      have ht:=jV rs a jG hn ha
      have JH:ki (.wd [102,105]::(bU rs++a)):=⟨fT (by decide) (by decide) (by decide),ht.2,ht.1⟩
      have Nf:∀M,ki (M++.wd [102,105]::(bU rs++a))→ki (aD (.asks rs) (F.cons .seq kc (.cons .seq kb r3)).aJ (F.cons .seq kc (.cons .seq kb r3)).acts++a)→True:=fun _ _ _=>trivial
      have key:∀M,ki (M++.wd [102,105]::(bU rs++a))→ki ((.wd [105,102]::.nl::(aD .seq kc.aJ kc.acts++.wd [116,104,101,110]::.nl::(aD .seq kb.aJ kb.acts++(M++.wd [102,105]::bU rs))))++a):=fun M hM=>by
       have e:(.wd [105,102]::.nl::(aD .seq kc.aJ kc.acts++.wd [116,104,101,110]::.nl::(aD .seq kb.aJ kb.acts++(M++.wd [102,105]::bU rs))))++a=.wd [105,102]::.nl::(aD .seq kc.aJ kc.acts++(.wd [116,104,101,110]::.nl::(aD .seq kb.aJ kb.acts++(M++.wd [102,105]::(bU rs++a))))):=by simp
       rw [e]
       exact kX (fT (by decide) (by decide) (by decide)) hc (kX (fT (by decide) (by decide) (by decide)) hb hM)
      rcases h3 with rfl | ⟨ke,rfl,_⟩ | ⟨ke,rfl⟩
      · exact key [] JH
      ·
       have he:=ih (.seq,ke) (List.mem_cons_of_mem _ (List.mem_cons_of_mem _ List.mem_cons_self))
       refine key (.wd [101,108,115,101]::.nl::(aD .seq ke.aJ ke.acts++[])) ?_
       rw [List.append_nil]
       exact kX (fT (by decide) (by decide) (by decide)) he JH
      ·
       have he:=ih (.asks [],ke) (List.mem_cons_of_mem _ (List.mem_cons_of_mem _ List.mem_cons_self))
       refine key (.wd [101,108,115,101]::.nl::(aD (.asks []) ke.aJ ke.acts++[.nl])) ?_
       have e:(.wd [101,108,115,101]::.nl::(aD (.asks []) ke.aJ ke.acts++[.nl]))++.wd [102,105]::(bU rs++a)=.wd [101,108,115,101]::.nl::(aD (.asks []) ke.aJ ke.acts++.nl::.wd [102,105]::(bU rs++a)):=by simp
       rw [e]
       exact ⟨fT (by decide) (by decide) (by decide),trivial,he.1 rfl _ JH trivial⟩
    | loop fl rs=>
      refine ao (fun h=>by cases h) (fun ws h=>by cases h) fun a ha hn=>?_
      obtain ⟨jG,kc,kb,rfl,_,_⟩:=ho
      have hc:=ih (.seq,kc) List.mem_cons_self
      have hb:=ih (.seq,kb) (List.mem_cons_of_mem _ List.mem_cons_self)
      have ht:=jV rs a jG hn ha
      have JH:ki (.wd [100,111,110,101]::(bU rs++a)):=⟨fT (by decide) (by decide) (by decide),ht.2,ht.1⟩
      have hwl:WG (if fl then [117,110,116,105,108] else [119,104,105,108,101]):=by cases fl<;>exact fT (by decide) (by decide) (by decide)
      have e:aD (.loop fl rs) (F.cons .seq kc (.cons .seq kb .nil)).aJ (F.cons .seq kc (.cons .seq kb .nil)).acts++a=.wd (if fl then [117,110,116,105,108] else [119,104,105,108,101])::.nl::(aD .seq kc.aJ kc.acts++(.wd [100,111]::.nl::(aD .seq kb.aJ kb.acts++.wd [100,111,110,101]::(bU rs++a)))):=by
       show (.wd _::.nl::(aD .seq kc.aJ kc.acts++.wd [100,111]::.nl::(aD .seq kb.aJ kb.acts++.wd [100,111,110,101]::bU rs)))++a=_
       simp
      rw [e]
      exact kX hwl hc (kX (fT (by decide) (by decide) (by decide)) hb JH)
    | each t ws rs=>
      refine ao (fun h=>by cases h) (fun ws h=>by cases h) fun a ha hn=>?_
      obtain ⟨jG,Wk,Jn,kb,rfl,_⟩:=ho
      have hb:=ih (.seq,kb) List.mem_cons_self
      have ht:=jV rs a jG hn ha
      have JH:ki (.wd [100,111,110,101]::(bU rs++a)):=⟨fT (by decide) (by decide) (by decide),ht.2,ht.1⟩
      have hdo:=kX (w:=[100,111]) (fT (by decide) (by decide) (by decide)) hb JH
      have hwt:WG t:=DF (Dn Wk)
      have Zao:WG [102,111,114]:=fT (by decide) (by decide) (by decide)
      cases ws with
      | none=>
        have e:aD (.each t none rs) (F.cons .seq kb .nil).aJ (F.cons .seq kb .nil).acts++a=.wd [102,111,114]::.sp::.wd t::.nl::(.wd [100,111]::.nl::(aD .seq kb.aJ kb.acts++.wd [100,111,110,101]::(bU rs++a))):=by
         show (.wd [102,111,114]::.sp::.wd t::([]++.nl::.wd [100,111]::.nl::(aD .seq kb.aJ kb.acts++.wd [100,111,110,101]::bU rs)))++a=_
         simp
        rw [e]
        exact ⟨Zao,trivial,hwt,trivial,hdo⟩
      | some ws=>
        have e:aD (.each t (some ws) rs) (F.cons .seq kb .nil).aJ (F.cons .seq kb .nil).acts++a=.wd [102,111,114]::.sp::.wd t::.sp::.wd [105,110]::(lg [.sp] ws++.nl::(.wd [100,111]::.nl::(aD .seq kb.aJ kb.acts++.wd [100,111,110,101]::(bU rs++a)))):=by
         show (.wd [102,111,114]::.sp::.wd t::((.sp::.wd [105,110]::lg [.sp] ws)++.nl::.wd [100,111]::.nl::(aD .seq kb.aJ kb.acts++.wd [100,111,110,101]::bU rs)))++a=_
         simp
        have hw2:=A0 ws (.nl::(.wd [100,111]::.nl::(aD .seq kb.aJ kb.acts++.wd [100,111,110,101]::(bU rs++a)))) (Jn ws rfl) trivial hdo
        rw [e]
        exact ⟨Zao,trivial,hwt,trivial,fT (by decide) (by decide) (by decide),hw2.2,hw2.1⟩
    | cases t rs=>
      refine ao (fun h=>by cases h) (fun ws h=>by cases h) fun a ha hn=>?_
      obtain ⟨jG,hwt,hit⟩:=ho
      have ht:=jV rs a jG hn ha
      have JH:ki (.wd [101,115,97,99]::(bU rs++a)):=⟨fT (by decide) (by decide) (by decide),ht.2,ht.1⟩
      have e:aD (.cases t rs) k.aJ k.acts++a=.wd [99,97,115,101]::.sp::.wd t::.sp::.wd [105,110]::.nl::(k.acts.flatten++.wd [101,115,97,99]::(bU rs++a)):=by
       show (.wd [99,97,115,101]::.sp::.wd t::.sp::.wd [105,110]::.nl::(k.acts.flatten++.wd [101,115,97,99]::bU rs))++a=_
       simp
      rw [e]
      exact ⟨fT (by decide) (by decide) (by decide),trivial,hwt,trivial,fT (by decide) (by decide) (by decide),trivial,zN k ih hit _ JH⟩
    | item ws=>
      refine ⟨fun h=>(by cases h),fun _ a ha=>?_⟩
      obtain ⟨hwg,hne,kb,rfl⟩:=ho
      have hb:=ih (.seq,kb) List.mem_cons_self
      cases ws with
      | nil=>exact absurd rfl hne
      | cons w ws=>
        have e:aD (.item (w::ws)) (F.cons .seq kb .nil).aJ (F.cons .seq kb .nil).acts++a=.op [40]::.wd w::(lg [.op [124]] ws++.op [41]::.nl::(aD .seq kb.aJ kb.acts++.op [59,59]::.nl::a)):=by
         show (.op [40]::((.wd w::lg [.op [124]] ws)++.op [41]::.nl::(aD .seq kb.aJ kb.acts++[.op [59,59],.nl])))++a=_
         simp
        have h1:ki (.op [41]::.nl::(aD .seq kb.aJ kb.acts++.op [59,59]::.nl::a)):=⟨by decide,fun h=>(by cases h),hb.2 (.inl rfl) _ ⟨by decide,fun h=>(by cases h),ha⟩⟩
        have hw2:=EG ws (.op [41]::.nl::(aD .seq kb.aJ kb.acts++.op [59,59]::.nl::a)) (fun y hy=>hwg y (List.mem_cons_of_mem _ hy)) (Or.inr rfl) h1
        rw [e]
        exact ⟨by decide,fun h=>(by cases h),hwg w List.mem_cons_self,hw2.2,hw2.1⟩
    | group rs=>
      refine ao (fun h=>by cases h) (fun ws h=>by cases h) fun a ha hn=>?_
      obtain ⟨jG,kb,rfl,_⟩:=ho
      have hb:=ih (.seq,kb) List.mem_cons_self
      have ht:=jV rs a jG hn ha
      have JH:ki (.wd [125]::(bU rs++a)):=⟨fT (by decide) (by decide) (by decide),ht.2,ht.1⟩
      have e:aD (.group rs) (F.cons .seq kb .nil).aJ (F.cons .seq kb .nil).acts++a=.wd [123]::.nl::(aD .seq kb.aJ kb.acts++.wd [125]::(bU rs++a)):=by
       show (.wd [123]::.nl::(aD .seq kb.aJ kb.acts++.wd [125]::bU rs))++a=_
       simp
      rw [e]
      exact kX (fT (by decide) (by decide) (by decide)) hb JH
    | sub rs=>
      refine ao (fun h=>by cases h) (fun ws h=>by cases h) fun a ha hn=>?_
      obtain ⟨jG,kb,rfl,_⟩:=ho
      have hb:=ih (.seq,kb) List.mem_cons_self
      have ht:=jV rs a jG hn ha
      have JH:ki (.op [41]::(bU rs++a)):=⟨by decide,fun h=>(by cases h),ht.1⟩
      have e:aD (.sub rs) (F.cons .seq kb .nil).aJ (F.cons .seq kb .nil).acts++a=.op [40]::.nl::(aD .seq kb.aJ kb.acts++.op [41]::(bU rs++a)):=by
       show (.op [40]::.nl::(aD .seq kb.aJ kb.acts++.op [41]::bU rs))++a=_
       simp
      rw [e]
      exact ⟨by decide,fun h=>(by cases h),hb.2 (.inl rfl) _ JH⟩
    | func t=>
      refine ao (fun h=>by cases h) (fun ws h=>by cases h) fun a ha hn=>?_
      obtain ⟨Wk,_,z,kz,rfl,hz⟩:=ho
      have R9:=(ih (z,kz) List.mem_cons_self).1 (tY (rI (pD hz).1)) a ha hn
      exact ⟨Dn Wk,R9⟩
   · exact Bt r hr x k h
def xA:F→F
 | .cons c kc (.cons b kb (.cons (.asks rs) ke r))=>.cons c kc (.cons b kb (.cons .seq (.cons (.asks rs) ke .nil) r))
 | f=>f
def qD:Lb→F→F
 | .asks _,k=>xA k
 | _,k=>k
def F.norm:F→F
 | .nil=>.nil
 | .cons x k r=>.cons x (qD x k.norm) r.norm
theorem kO:∀f:F,f.norm.aJ=f.aJ
 | .nil=>rfl
 | .cons x k r=>by show x::r.norm.aJ=x::r.aJ;rw [kO r]
theorem KV (rs:List dZ) (k:F):aD (.asks rs) (xA k).aJ (xA k).acts=aD (.asks rs) k.aJ k.acts:=by
 unfold xA
 split
 ·
  rename_i c kc b kb rs' ke r
  show .wd [105,102]::.nl::(aD c kc.aJ kc.acts++.wd [116,104,101,110]::.nl::(aD b kb.aJ kb.acts++((if 2 < (r.acts.length+1+1+1) then .wd [101,108,115,101]::.nl::(((aD (.asks rs') ke.aJ ke.acts++[.nl])++[])++[]) else [])++.wd [102,105]::bU rs)))=.wd [105,102]::.nl::(aD c kc.aJ kc.acts++.wd [116,104,101,110]::.nl::(aD b kb.aJ kb.acts++((if 2 < (r.acts.length+1+1+1) then .wd [101,108,115,101]::.nl::(aD (.asks rs') ke.aJ ke.acts++[.nl]) else [])++.wd [102,105]::bU rs)))
  rw [if_pos (by omega),if_pos (by omega)]
  simp
 · rfl
theorem uv:∀f:F,f.norm.acts=f.acts
 | .nil=>rfl
 | .cons x k r=>by
   have hk:aD x (qD x k.norm).aJ (qD x k.norm).acts=aD x k.aJ k.acts:=by
    have h0:aD x k.norm.aJ k.norm.acts=aD x k.aJ k.acts:=by rw [kO,uv k]
    rw [←h0]
    cases x with
    | asks rs=>exact KV rs k.norm
    | _=>rfl
   show aD x (qD x k.norm).aJ (qD x k.norm).acts::r.norm.acts=aD x k.aJ k.acts::r.acts
   rw [hk,uv r]
theorem lL {f:F} (h:f≠.nil):f.norm≠.nil:=by
 cases f with
 | nil=>exact absurd rfl h
 | cons x k r=>exact fun e=>by cases e
theorem Bq:∀f:F,f.wf→f.norm.wf∧f.norm.plain
 | .nil,_=>⟨trivial,trivial⟩
 | .cons x k r,h=>by
   obtain ⟨ho,hk,hr⟩:=h
   obtain ⟨w1,p1⟩:=Bq k hk
   obtain ⟨w2,p2⟩:=Bq r hr
   have key:KZ x (qD x k.norm)∧(qD x k.norm).wf∧(∀rs rs',x=.asks rs→(qD x k.norm).aJ[2]?≠some (.asks rs'))∧(qD x k.norm).plain:=by
    cases x with
    | uQ ws rs=>obtain ⟨rfl,hs⟩:=ho;exact ⟨⟨rfl,hs⟩,w1,(fun _ _ h=>(by cases h)),p1⟩
    | pipe fl=>exact ⟨⟨by show ∀x∈k.norm.aJ,_;rw [kO];exact ho.1,by show 2≤k.norm.aJ.length∨(k.norm.aJ.length=1∧_);rw [kO];exact ho.2⟩,w1,(fun _ _ h=>(by cases h)),p1⟩
    | qz=>obtain ⟨z,kz,v,kv,rfl,a,b⟩:=ho;exact ⟨⟨z,_,v,_,rfl,a,b⟩,w1,(fun _ _ h=>(by cases h)),p1⟩
    | EW=>obtain ⟨z,kz,v,kv,rfl,a,b⟩:=ho;exact ⟨⟨z,_,v,_,rfl,a,b⟩,w1,(fun _ _ h=>(by cases h)),p1⟩
    | seq=>exact ⟨by show ∀x∈k.norm.aJ,_;rw [kO];exact ho,w1,(fun _ _ h=>(by cases h)),p1⟩
    | asks rs=>
      obtain ⟨jG,kc,kb,r3,rfl,hc,hb,h3⟩:=ho
      have hc:=lL hc
      have hb:=lL hb
      rcases h3 with rfl | ⟨ke,rfl,he⟩ | ⟨ke,rfl⟩
      · exact ⟨⟨jG,kc.norm,kb.norm,.nil,rfl,hc,hb,.inl rfl⟩,w1,(fun _ _ _ h=>(by cases h)),p1⟩
      · exact ⟨⟨jG,kc.norm,kb.norm,_,rfl,hc,hb,.inr (.inl ⟨ke.norm,rfl,lL he⟩)⟩,w1,(fun _ _ _ h=>(by injection h with h;cases h)),p1⟩
      ·
       obtain ⟨a1,a2,a3,a4,a5⟩:=w1
       obtain ⟨b1,b2,b3,b4,b5⟩:=p1
       refine ⟨⟨jG,kc.norm,kb.norm,.cons .seq (.cons (.asks []) (xA ke.norm) .nil) .nil,rfl,hc,hb,.inr (.inl ⟨_,rfl,fun e=>by cases e⟩)⟩,⟨a1,a2,a3,a4,fun x hx=>?_,a5,trivial⟩,fun _ _ _ h=>(by injection h with h;cases h),⟨b1,b2,b3,b4,fun _ _ h=>(by cases h),b5,trivial⟩⟩
       rw [List.mem_singleton.1 hx];rfl
    | loop fl rs=>obtain ⟨jG,kc,kb,rfl,hc,hb⟩:=ho;exact ⟨⟨jG,kc.norm,kb.norm,rfl,lL hc,lL hb⟩,w1,(fun _ _ h=>(by cases h)),p1⟩
    | each t ws rs=>obtain ⟨jG,hn,hw,kb,rfl,hb⟩:=ho;exact ⟨⟨jG,hn,hw,kb.norm,rfl,lL hb⟩,w1,(fun _ _ h=>(by cases h)),p1⟩
    | cases t rs=>obtain ⟨jG,ht,hi⟩:=ho;exact ⟨⟨jG,ht,by show ∀x∈k.norm.aJ,_;rw [kO];exact hi⟩,w1,(fun _ _ h=>(by cases h)),p1⟩
    | item ws=>obtain ⟨hw,hne,kb,rfl⟩:=ho;exact ⟨⟨hw,hne,kb.norm,rfl⟩,w1,(fun _ _ h=>(by cases h)),p1⟩
    | group rs=>obtain ⟨jG,kb,rfl,hb⟩:=ho;exact ⟨⟨jG,kb.norm,rfl,lL hb⟩,w1,(fun _ _ h=>(by cases h)),p1⟩
    | sub rs=>obtain ⟨jG,kb,rfl,hb⟩:=ho;exact ⟨⟨jG,kb.norm,rfl,lL hb⟩,w1,(fun _ _ h=>(by cases h)),p1⟩
    | func t=>obtain ⟨hn,hr,z,kz,rfl,hz⟩:=ho;exact ⟨⟨hn,hr,z,_,rfl,hz⟩,w1,(fun _ _ h=>(by cases h)),p1⟩
   exact ⟨⟨key.1,key.2.1,w2⟩,key.2.2.1,key.2.2.2,p2⟩
theorem vZ:∀f:F,f.plain→f.norm=f
 | .nil,_=>rfl
 | .cons x k r,h=>by
   obtain ⟨h1,h2,h3⟩:=h
   show F.cons x (qD x k.norm) r.norm=F.cons x k r
   rw [vZ k h2,vZ r h3]
   congr 1
   cases x with
   | asks rs=>
     show xA k=k
     unfold xA
     split
     · exact absurd rfl (h1 rs _ rfl)
     · rfl
   | _=>rfl
def KR (l:List Nd) (n:Nd):Bool:=decide (n.k=6) && decide (n.ks.length=3) && decide (en l (n.ks.getD 2 0)=6)
def Cj (l:List Nd):Bool:=l.any (KR l)
theorem Mi (l:List Nd):Cj (l.map Sy.bare)=Cj l:=by
 unfold Cj
 rw [List.any_map]
 congr 1
 funext n
 show (decide (n.k=6) && decide (n.ks.length=3) && decide (en (l.map Sy.bare) (n.ks.getD 2 0)=6))=_
 rw [Hx]
 rfl
theorem pz {l:List Nd} (hl:∀n∈l,KR l n=false):∀(f:F) (pre post:List Nd),l=pre++(f.flat pre.length++post)→(∀x k,(x,k)∈f.tops→True)→f.wf→f.plain
 | .nil,_,_,_,_,_=>trivial
 | .cons x k r,pre,post,h,_,hw=>by
   have e2:(pre++(k.flat pre.length++[nd x (k.roots pre.length)])).length=pre.length+k.len+1:=by
    simp only [List.length_append,F.eh,List.length_singleton];omega
   have e:l=(pre++(k.flat pre.length++[nd x (k.roots pre.length)]))++(r.flat (pre++(k.flat pre.length++[nd x (k.roots pre.length)])).length++post):=by
    rw [e2,h]
    show pre++((k.flat pre.length++nd x (k.roots pre.length)::r.flat (pre.length+k.len+1))++post)=_
    simp
   have ek:l=pre++(k.flat pre.length++(nd x (k.roots pre.length)::r.flat (pre.length+k.len+1)++post)):=by
    rw [h]
    show pre++((k.flat pre.length++nd x (k.roots pre.length)::r.flat (pre.length+k.len+1))++post)=_
    simp
   refine ⟨fun rs rs' hx hc=>?_,pz hl k pre _ ek (fun _ _ _=>trivial) hw.2.1,pz hl r _ post e (fun _ _ _=>trivial) hw.2.2⟩
   subst hx
   have JY:=xU k l pre _ ek
   have gQ:nd (.asks rs) (k.roots pre.length)∈l:=by rw [ek];simp
   have h1:=hl _ gQ
   obtain ⟨_,kc,kb,r3,rfl,_,_,h3⟩:=hw.1
   rcases h3 with rfl | ⟨ke,rfl,_⟩ | ⟨ke,rfl⟩
   · cases hc
   · injection hc with hc;cases hc
   ·
    obtain ⟨a,b,c,hr⟩:∃a b c,(F.cons .seq kc (.cons .seq kb (.cons (.asks []) ke .nil))).roots pre.length=[a,b,c]:=⟨_,_,_,rfl⟩
    rw [hr] at JY h1
    have JY:[en l a,en l b,en l c]=[5,5,6]:=JY
    injection JY with _ JY
    injection JY with _ JY
    injection JY with h5 _
    unfold KR at h1
    rw [Bool.and_eq_false_iff,Bool.and_eq_false_iff] at h1
    rcases h1 with (h1 | h1) | h1
    · exact absurd rfl (of_decide_eq_false h1)
    · exact absurd rfl (of_decide_eq_false h1)
    · exact absurd h5 (of_decide_eq_false h1)
def RZ (l l':List Tok):Prop:=l.map z0=l'.map z0
theorem OT:wo RZ where
 head {l l'} h:=by
  unfold RZ at h
  cases l with
  | nil=>cases l' with
    | nil=>exact ⟨rfl,rfl,rfl⟩
    | cons t' l'=>cases h
  | cons t l=>cases l' with
    | nil=>cases h
    | cons t' l'=>
      rw [List.map_cons,List.map_cons] at h
      injection h with h1 h2
      unfold z0 at h1
      injection h1 with a b c d
      exact ⟨a,b,c⟩
 nil {l l'} h:=by
  unfold RZ at h
  cases l<;>cases l'<;>simp_all
 tail {t t' l l'} h _:=by
  unfold RZ at h ⊢
  rw [List.map_cons,List.map_cons] at h
  injection h
 bj {l l'} h:=by
  unfold RZ at h ⊢
  induction l generalizing l' with
  | nil=>cases l' with
    | nil=>rfl
    | cons t' l'=>cases h
  | cons t l ih=>cases l' with
    | nil=>cases h
    | cons t' l'=>
      have h0:=h
      rw [List.map_cons,List.map_cons] at h
      injection h with h1 h2
      have hk:(z0 t).k=(z0 t').k:=congrArg Tok.k h1
      have hk:t.k=t'.k:=hk
      unfold dJ
      rw [hk]
      split
      · exact ih h2
      · exact h0
 over {t t' l l'} h:=by
  unfold RZ at h ⊢
  rw [List.map_cons,List.map_cons] at h
  injection h with h1 h2
  clear h1
  induction l generalizing l' with
  | nil=>cases l' with
    | nil=>rfl
    | cons t' l'=>cases h2
  | cons t l ih=>cases l' with
    | nil=>cases h2
    | cons t' l'=>
      have h0:=h2
      rw [List.map_cons,List.map_cons] at h2
      injection h2 with h1 h2
      have hk:(z0 t).k=(z0 t').k:=congrArg Tok.k h1
      have hk:t.k=t'.k:=hk
      unfold dJ
      rw [hk]
      split
      · exact ih h2
      · exact h0
 io {t t' u u' l l'} h _:=by
  unfold RZ at h ⊢
  rw [List.map_cons,List.map_cons,List.map_cons,List.map_cons] at h
  injection h with h1 h2
  injection h2
theorem zQ:∀(A:List (List Ac)) (s:PS),s.2=[]→(dz (gH A) s).2=[]
 | [],s,h=>h
 | a::A,s,h=>by
   have e:gH (a::A)=a++(.nl::gH A):=by
    show (a++[.nl])++gH A=_
    simp
   rw [e,cM,bt]
   exact zQ A _ rfl
theorem Gh {s:Nm} {l:List Nd} (h:cI s=.ok l) (ht:Tr l):(∃g,cI (gK l)=.error (21,g)∧Cj l=true)∨∃u k,cI (gK l)=.ok u∧u.map Sy.bare=(one .seq k).flat 0∧(dz (aD .seq k.aJ k.acts) ([],[])).1=gK l∧(Cj l=false→u.map Sy.bare=l.map Sy.bare):=by
 obtain ⟨k,h1,h2,h3⟩:=Mm h
 have lV:=AK ht h1
 obtain ⟨w,p⟩:=Bq _ h2
 have hna:aD .seq k.norm.aJ k.norm.acts=aD .seq k.aJ k.acts:=by
  show gH k.norm.acts=gH k.acts
  rw [uv]
 have ZbY:ki (aD .seq k.aJ k.acts):=by
  have:=(Bt _ h2 .seq k List.mem_cons_self).2 (.inl rfl) [] trivial
  rwa [List.append_nil] at this
 have hend:(dz (aD .seq k.aJ k.acts) ([],[])).2=[]:=zQ k.acts _ rfl
 obtain ⟨L,P7,hl2⟩:=QY ZbY hend
 rw [←lV] at P7
 have TD:=OZ (k:=k.norm) w p 40
 have uU:cY .seq k.norm=aX (aD .seq k.aJ k.acts):=by show aX (aD .seq k.norm.aJ k.norm.acts)=_;rw [hna]
 rw [uU] at TD
 have hrz:RZ L (aX (aD .seq k.aJ k.acts)++[⟨4,[],[],0⟩]):=by
  unfold RZ
  rw [hl2,oP]
  have hz:∀a:List Ac,(aX a).map z0=aX a:=fun a=>by
   induction a with
   | nil=>rfl
   | cons x a ih=>rw [aC,List.map_append,ih];congr 1;cases x<;>rfl
  rw [hz]
  rfl
 have tB:=JT OT hrz
 rw [TD] at tB
 have Nf:Cj l=false→(one .seq k).plain:=fun he=>by
  rw [←Mi,h1] at he
  have YJ:∀n∈(one .seq k).flat 0,KR ((one .seq k).flat 0) n=false:=fun n hn=>by
   unfold Cj at he
   rw [List.any_eq_false] at he
   simpa using he n hn
  exact pz YJ (one .seq k) [] [] (by simp) (fun _ _ _=>trivial) h2
 by_cases hd:k.norm.dep≤40
 ·
  right
  unfold jd at tB
  rw [if_pos hd] at tB
  cases hr:aO (nestD 40) true ([],L) with
  | error e=>rw [hr] at tB;exact tB.elim
  | ok y=>
    rw [hr] at tB
    obtain ⟨_,rG,Yi⟩:=tB
    obtain ⟨m,tW,pP⟩:=rG
    simp only [List.nil_append,List.length_nil] at tW pP
    have Zch:∀l:List Nd,l.map (Sy.sh 0)=l.map Sy.bare:=fun l=>List.map_congr_left fun x _=>by
     unfold Sy.sh Sy.bare
     simp
    rw [Zch,←tW] at pP
    have hfb:((one .seq k.norm).flat 0).map Sy.bare=(one .seq k.norm).flat 0:=by
     have key:∀(f:F) (b:Nat),(f.flat b).map Sy.bare=f.flat b:=fun f=>by
      induction f with
      | nil=>intro b;rfl
      | cons x k r ih1 ih2=>
        intro b
        show (k.flat b++nd x (k.roots b)::r.flat (b+k.len+1)).map Sy.bare=_
        rw [List.map_append,List.map_cons,ih1,ih2,Qj];rfl
     exact key _ _
    rw [hfb] at pP
    have hk4:(nx y.2).k=4:=by
     have:=(OT.head Yi).1
     exact this
    refine ⟨y.2.1,k.norm,?_,pP.symm,by rw [hna,←lV],fun he=>?_⟩
    ·
     unfold cI
     rw [P7]
     simp only
     rw [hr]
     simp only
     rw [if_neg (by rw [hk4];decide)]
    ·
     have hid:=vZ _ (Nf he)
     have V6:k.norm=k:=by
      have:F.cons .seq k.norm .nil=F.cons .seq k .nil:=hid
      injection this
     rw [←pP,V6,h1]
 ·
  left
  unfold jd at tB
  rw [if_neg hd] at tB
  cases hr:aO (nestD 40) true ([],L) with
  | ok y=>rw [hr] at tB;exact tB.elim
  | error e=>
    rw [hr] at tB
    have he:e.1=21:=tB
    refine ⟨e.2,?_,?_⟩
    ·
     unfold cI
     rw [P7]
     simp only
     rw [hr]
     show Except.error e=_
     rw [←he]
    ·
     cases YJ:Cj l with
     | true=>rfl
     | false=>
       have hp:=Nf YJ
       have hid:=vZ _ hp
       have V6:k.norm=k:=by
        have:F.cons .seq k.norm .nil=F.cons .seq k .nil:=hid
        injection this
       rw [V6] at hd
       exact absurd (h3 hp) hd
end Go.Proofs.YtiklkhbfilbpeaaGreatDoor.Un
