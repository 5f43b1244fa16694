import Derived.Test.YtiklkhbfilbpeaaGreatDoorTbGSyA
import Derived.Test.YtiklkhbfilbpeaaGreatDoorTbLxPlain
import Derived.Test.YtiklkhbfilbpeaaGreatDoorTbUnFew
set_option maxRecDepth 100000
set_option maxHeartbeats 16000000
set_option linter.unusedVariables false
set_option linter.unusedSimpArgs false
namespace Go.Proofs.YtiklkhbfilbpeaaGreatDoor.Sy
open Lx
abbrev sg4:List Nm:=[[60],[62],[60,60],[62,62]]
structure Pv (M:Nat) (Q:List Tok→Prop) (T:Tok→Prop):Prop where
 head:∀{t l},Q (t::l)→T t
 tail:∀{t l},Q (t::l)→Q l
 io:∀{t u l},Q (t::u::l)→t.k=5→u.t∈sg4
 last:∀{t},Q [t]→t.k≠5
def WP (T:Tok→Prop) (w:Nm):Prop:=∃t,T t∧t.k=1∧t.t=w
def RP (T:Tok→Prop) (r:dZ):Prop:=r.fd≤99∧r.o∈sg4∧∃t,T t∧t.k=1∧r.w=t.t∧r.b=t.b
structure NP (M:Nat) (T:Tok→Prop) (n:Nd):Prop where
 wl:n.ws.length≤M
 ws:∀w∈n.ws,WP T w
 rl:n.rs.length≤M
 rs:∀r∈n.rs,RP T r
 t:n.t=[]∨WP T n.t
structure SP (M:Nat) (Q:List Tok→Prop) (T:Tok→Prop) (s:S):Prop where
 few:s.2.length≤M
 q:Q s.2
 nodes:∀n∈s.1,NP M T n
def Hp {α:Type} (M:Nat) (Q:List Tok→Prop) (T:Tok→Prop) (C:α→Prop) (x:P α):Prop:=∀y,x=.ok y→SP M Q T y.2∧C y.1
section
variable {M:Nat} {Q:List Tok→Prop} {T:Tok→Prop} (hv:Pv M Q T)
theorem sy {α:Type} {C:α→Prop} {e:Int} {s:S}:Hp M Q T C (er e s):=fun y h=>by cases h
theorem eM {α:Type} {C:α→Prop} {a:α} {s:S} (h:SP M Q T s) (hc:C a):Hp M Q T C (.ok (a,s)):=fun y e=>by injection e with e;subst e;exact ⟨h,hc⟩
theorem bT {α β:Type} {C:α→Prop} {C':β→Prop} {x:P α} {f:α→S→P β} (h:Hp M Q T C x) (hf:∀a t,SP M Q T t→C a→Hp M Q T C' (f a t)):Hp M Q T C' (bd x f):=fun y hy=>by
 obtain ⟨a,t,h1,h2⟩:=aM hy
 exact hf a t (h _ h1).1 (h _ h1).2 y h2
theorem pI {n:Nd} {s:S} (h:SP M Q T s) (hn:NP M T n):Hp M Q T (fun _=>True) (bC n s):=eM ⟨h.few,h.q,fun m hm=>by
 rcases List.mem_append.1 hm with hm | hm
 · exact h.nodes m hm
 · obtain rfl:=List.mem_singleton.1 hm;exact hn⟩ trivial
include hv
theorem gL {s:S} (h:SP M Q T s):SP M Q T (tk s):=by
 unfold tk
 split
 · exact h
 ·
  refine ⟨by have:=h.few;simp;omega,?_,h.nodes⟩
  show Q s.2.tail
  have hq:=h.q
  cases hs:s.2 with
  | nil=>rw [hs] at hq;exact hq
  | cons t l=>rw [hs] at hq;exact hv.tail hq
theorem L1:∀{l:List Tok},Q l→Q (dJ l)
 | [],h=>h
 | t::l,h=>by
   unfold dJ
   split
   · exact L1 (hv.tail h)
   · exact h
theorem j7 {s:S} (h:SP M Q T s):SP M Q T (bj s):=⟨Nat.le_trans (ew s) h.few,L1 hv h.q,h.nodes⟩
theorem Td {s:S} (h:SP M Q T s) (h4:(nx s).k≠4):T (nx s):=by
 have hq:=h.q
 unfold nx at h4 ⊢
 cases hs:s.2 with
 | nil=>rw [hs] at h4;exact absurd rfl h4
 | cons t l=>rw [hs] at hq;exact hv.head hq
theorem ig {k:Nat} {ts:List Nm} {s:S} (h:SP M Q T s):Hp M Q T (fun _=>True) (aP k ts s):=by
 unfold aP
 split
 · exact eM (gL hv h) trivial
 · exact sy
theorem oQ {s:S} (h:SP M Q T s):Hp M Q T (WP T) (cC s):=by
 unfold cC
 split
 ·
  rename_i hk
  exact eM (gL hv h) ⟨nx s,Td hv h (by rw [hk];decide),hk,rfl⟩
 · exact sy
theorem CQ {s:S} (h:SP M Q T s) (hr:aF s=true):Hp M Q T (RP T) (cF s):=by
 unfold cF
 simp only
 have key:∀(t:S) (fd:Nat) (op:Nm),SP M Q T t→fd≤99→op∈sg4→Hp M Q T (RP T) (bd (cC t) fun w s3=>.ok ((⟨fd,op,w,(nx t).b⟩:dZ),s3)):=fun t fd op ht hf ho y hy=>by
  obtain ⟨w,u,h1,h2⟩:=aM hy
  injection h2 with h2
  subst h2
  have h3:=oQ hv ht _ h1
  refine ⟨h3.1,hf,ho,nx t,?_⟩
  unfold cC at h1
  split at h1
  ·
   rename_i hk
   injection h1 with h1
   injection h1 with h1 _
   exact ⟨Td hv ht (by rw [hk];decide),hk,h1.symm,rfl⟩
  · cases h1
 by_cases hk:(nx s).k=5
 ·
  simp only [hk,decide_true,if_true]
  have h1:=gL hv h
  refine key _ _ _ (gL hv h1) (Nat.min_le_right _ _) ?_
  have hq:=h.q
  have h4:(nx s).k≠4:=by rw [hk];decide
  unfold tk
  rw [if_neg h4]
  unfold nx at hk ⊢
  cases hs:s.2 with
  | nil=>rw [hs] at hk;cases hk
  | cons t l=>
    rw [hs] at hq hk
    cases l with
    | nil=>exact absurd hk (hv.last hq)
    | cons u l=>exact hv.io hq hk
 ·
  simp only [hk,decide_false,if_false,Bool.false_eq_true]
  refine key _ _ _ (gL hv h) (by split<;>omega) ?_
  unfold aF at hr
  simp only [hk,decide_false,Bool.false_or] at hr
  unfold aV at hr
  rw [Bool.and_eq_true] at hr
  exact List.contains_iff_mem.1 hr.2
omit hv in
theorem Ie {α:Type} {C:α→Prop} {cond:S→Bool} {step:α→S→P α} (h:∀a s,SP M Q T s→cond s=true→C a→Hp M Q T C (step a s)) (a:α) (s:S) (hs:SP M Q T s) (ha:C a):Hp M Q T C (aB cond step a s):=fun y e=>
 fE (I:=fun a s=>SP M Q T s∧C a) (fun a s y hi hc e=>h a s hi.1 hc hi.2 y e) _ _ _ _ ⟨hs,ha⟩ e
omit hv in
theorem si {α:Type} {C:α→Prop} {m:α→Nat} {cond:S→Bool} {step:α→S→P α} (h:∀a s,SP M Q T s→cond s=true→C a→Hp M Q T C (step a s)) (hm:∀a s y,cond s=true→step a s=.ok y→m y.1+y.2.2.length≤m a+s.2.length) (N:Nat) (a:α) (s:S) (hs:SP M Q T s) (ha:C a) (hN:m a+s.2.length≤N):Hp M Q T (fun a=>C a∧m a≤N) (aB cond step a s):=fun y e=>by
 have:=fE (I:=fun a s=>SP M Q T s∧C a∧m a+s.2.length≤N) (fun a s y hi hc e=>⟨(h a s hi.1 hc hi.2.1 y e).1,(h a s hi.1 hc hi.2.1 y e).2,by have:=hm a s y hc e;omega⟩) _ _ _ _ ⟨hs,ha,hN⟩ e
 exact ⟨this.1,this.2.1,by omega⟩
theorem K0 {s:S} (h:SP M Q T s):Hp M Q T (fun rs:List dZ=>(∀r∈rs,RP T r)∧rs.length≤M) (eA s):=by
 refine si (C:=fun rs:List dZ=>∀r∈rs,RP T r) (m:=List.length) (fun a s hs hc ha=>bT (CQ hv hs hc) fun x t ht hx=>eM ht fun r hr=>?_) (fun a s y hc e=>?_) M [] s h (fun r hr=>absurd hr List.not_mem_nil) (by simpa using h.few)
 ·
  rcases List.mem_append.1 hr with hr | hr
  · exact ha r hr
  · rw [List.mem_singleton.1 hr];exact hx
 ·
  obtain ⟨x,v,h1,h2⟩:=aM e
  injection h2 with h2
  subst h2
  have:=kZ hc h1
  simp at this ⊢;omega
theorem Nj {s:S} (h:SP M Q T s):Hp M Q T (fun ws:List Nm=>(∀w∈ws,WP T w)∧ws.length≤M) (aB lv nD [] s):=by
 refine si (C:=fun ws:List Nm=>∀w∈ws,WP T w) (m:=List.length) (fun a s hs hc ha=>bT (oQ hv hs) fun x t ht hx=>eM ht fun r hr=>?_) (fun a s y hc e=>?_) M [] s h (fun r hr=>absurd hr List.not_mem_nil) (by simpa using h.few)
 ·
  rcases List.mem_append.1 hr with hr | hr
  · exact ha r hr
  · rw [List.mem_singleton.1 hr];exact hx
 ·
  obtain ⟨x,v,h1,h2⟩:=aM e
  injection h2 with h2
  subst h2
  have:=l7 h1
  simp at this ⊢;omega
theorem P4 {s:S} {w:Nm} (hw:WP T w) (h:SP M Q T s) (hl:1+s.2.length≤M):Hp M Q T (fun ws:List Nm=>(∀w∈ws,WP T w)∧ws.length≤M) (aB (aV 2 [[124]]) qy [w] s):=by
 refine si (C:=fun ws:List Nm=>∀w∈ws,WP T w) (m:=List.length) (fun a s hs hc ha=>bT (oQ hv (gL hv hs)) fun x t ht hx=>eM ht fun r hr=>?_) (fun a s y hc e=>?_) M [w] s h (fun r hr=>by rw [List.mem_singleton.1 hr];exact hw) (by simpa [Nat.add_comm] using hl)
 ·
  rcases List.mem_append.1 hr with hr | hr
  · exact ha r hr
  · rw [List.mem_singleton.1 hr];exact hx
 ·
  obtain ⟨x,v,h1,h2⟩:=aM e
  injection h2 with h2
  subst h2
  have h3:=l7 h1
  have h4:=mR s
  simp at h3 h4 ⊢;omega
omit hv in
theorem ko {n:Nd} (h1:n.ws=[]) (h2:n.rs=[]) (h3:n.t=[]):NP M T n:=⟨by simp [h1],fun w hw=>(by rw [h1] at hw;cases hw),by simp [h2],fun r hr=>(by rw [h2] at hr;cases hr),.inl h3⟩
theorem Ke {s:S} (h:SP M Q T s):Hp M Q T (fun _=>True) (cG s):=by
 unfold cG
 have hl:=si (C:=fun n:Nd=>(∀w∈n.ws,WP T w)∧(∀r∈n.rs,RP T r)∧n.t=[]) (m:=fun n:Nd=>n.ws.length+n.rs.length) (cond:=gA) (step:=gX) (fun a s hs hc ha=>?_) (fun a s y hc e=>?_) M ({ k:=1,ln:=(nx s).ln }:Nd) s h ⟨fun w hw=>absurd hw List.not_mem_nil,fun r hr=>absurd hr List.not_mem_nil,rfl⟩ (by simpa using h.few)
 · exact bT hl fun n t ht hn=>pI ht ⟨by have:=hn.2;omega,hn.1.1,by have:=hn.2;omega,hn.1.2.1,.inl hn.1.2.2⟩
 ·
  unfold gX
  split
  ·
   rename_i hr
   refine bT (CQ hv hs hr) fun x t ht hx=>eM ht ⟨ha.1,fun r hr=>?_,ha.2.2⟩
   rcases List.mem_append.1 hr with hr | hr
   · exact ha.2.1 r hr
   · rw [List.mem_singleton.1 hr];exact hx
  ·
   refine bT (oQ hv hs) fun x t ht hx=>eM ht ⟨fun w hw=>?_,ha.2.1,ha.2.2⟩
   rcases List.mem_append.1 hw with hw | hw
   · exact ha.1 w hw
   · rw [List.mem_singleton.1 hw];exact hx
 ·
  unfold gX at e
  split at e
  ·
   rename_i hr
   obtain ⟨x,v,h1,h2⟩:=aM e
   injection h2 with h2
   subst h2
   have:=kZ hr h1
   simp at this ⊢;omega
  ·
   obtain ⟨x,v,h1,h2⟩:=aM e
   injection h2 with h2
   subst h2
   have:=l7 h1
   unfold fk
   simp at this ⊢;omega
section
variable {nest:S→P Nat} (hn:∀s,SP M Q T s→Hp M Q T (fun _=>True) (nest s))
include hn
theorem Md {s:S} (h:SP M Q T s):Hp M Q T (fun _=>True) (gm nest s):=by
 unfold gm
 split
 · exact sy
 ·
  split
  · exact Ke hv h
  · exact hn s h
theorem Hq {s:S} (h:SP M Q T s):Hp M Q T (fun _=>True) (dt nest s):=by
 unfold dt
 simp only
 have h0:SP M Q T (if aV 1 [[33]] s=true then tk s else s):=by
  split
  · exact gL hv h
  · exact h
 refine bT (Md hv hn h0) fun k t ht _=>bT (Ie (C:=(fun _=>True)) (fun l u hu _ _=>bT (Md hv hn (j7 hv (gL hv hu))) fun k v hw _=>eM hw trivial) _ _ ht trivial) fun ks u hu _=>?_
 split
 · exact eM hu trivial
 · exact pI hu (ko rfl rfl rfl)
theorem OP {s:S} (h:SP M Q T s):Hp M Q T (fun _=>True) (cx nest s):=by
 unfold cx
 exact bT (Hq hv hn h) fun k t ht _=>Ie (C:=(fun _=>True)) (fun l u hu _ _=>bT (Hq hv hn (j7 hv (gL hv hu))) fun k v hw _=>pI hw (ko rfl rfl rfl)) _ _ ht trivial
theorem Cq:∀(f:Nat) (ks:List Nat) (s:S),SP M Q T s→Hp M Q T (fun _=>True) (eD nest f ks s)
 | 0,ks,s,h=>eM h trivial
 | f+1,ks,s,h=>by
   unfold eD
   split
   ·
    refine bT (OP hv hn h) fun k t ht _=>?_
    split
    · exact eM ht trivial
    · exact Cq f _ _ (j7 hv (gL hv ht))
   · exact eM h trivial
theorem kB (em:Bool) {s:S} (h:SP M Q T s):Hp M Q T (fun _=>True) (aO nest em s):=by
 unfold aO
 refine bT (Cq hv hn _ _ _ (j7 hv h)) fun ks t ht _=>?_
 split
 · exact sy
 · exact pI ht (ko rfl rfl rfl)
theorem vG {s:S} (h:SP M Q T s):Hp M Q T (fun _=>True) (cv nest s):=by
 unfold cv
 exact bT (ig hv h) fun _ t ht _=>bT (kB hv hn false ht) fun k u hu _=>bT (ig hv hu) fun _ v hw _=>eM hw trivial
abbrev CP (M:Nat) (T:Tok→Prop):Nd→Prop:=fun n=>NP M T n
theorem OY (ln:Nat) {s:S} (h:SP M Q T s):Hp M Q T (CP M T) (eV nest ln s):=by
 unfold eV
 exact bT (kB hv hn false (gL hv h)) fun k u hu _=>bT (ig hv hu) fun _ v hw _=>eM hw (ko rfl rfl rfl)
theorem U4 (ln:Nat) {s:S} (h:SP M Q T s):Hp M Q T (CP M T) (mP nest ln s):=by
 unfold mP
 exact bT (kB hv hn false (gL hv h)) fun k u hu _=>bT (ig hv hu) fun _ v hw _=>eM hw (ko rfl rfl rfl)
theorem IM:∀(f ln:Nat) (s:S),SP M Q T s→Hp M Q T (CP M T) (eW nest f ln s)
 | 0,ln,s,_=>sy
 | f+1,ln,s,h=>by
   unfold eW
   refine bT (kB hv hn false (gL hv h)) fun c t ht _=>bT (ig hv ht) fun _ u hu _=>bT (kB hv hn false hu) fun b v hw _=>?_
   split
   · exact bT (IM f _ v hw) fun n w hx hc=>bT (pI hx hc) fun k x hy _=>eM hy (ko rfl rfl rfl)
   ·
    split
    · exact bT (kB hv hn false (gL hv hw)) fun k w hx _=>bT (ig hv hx) fun _ x hy _=>eM hy (ko rfl rfl rfl)
    · exact bT (ig hv hw) fun _ x hy _=>eM hy (ko rfl rfl rfl)
theorem RF (ln:Nat) {s:S} (h:SP M Q T s):Hp M Q T (CP M T) (iw nest ln s):=by
 unfold iw
 exact bT (kB hv hn false (gL hv h)) fun c t ht _=>bT (vG hv hn ht) fun b u hu _=>eM hu (ko rfl rfl rfl)
theorem SK (ln:Nat) {s:S} (h:SP M Q T s):Hp M Q T (CP M T) (eT nest ln s):=by
 unfold eT
 simp only
 split
 · exact sy
 ·
  refine bT (oQ hv (gL hv h)) fun t u hu ht=>?_
  have np:∀(ws:List Nm) (fl:Bool) (ks:List Nat),(∀w∈ws,WP T w)→ws.length≤M→NP M T { k:=8,t:=t,fl:=fl,ws:=ws,ks:=ks,ln:=ln }:=fun ws fl ks h1 h2=>⟨h2,h1,Nat.zero_le _,fun r hr=>absurd hr List.not_mem_nil,.inr ht⟩
  split
  · exact bT (vG hv hn (j7 hv (gL hv hu))) fun b v hw _=>eM hw (np [] true [b] (fun w hw=>absurd hw List.not_mem_nil) (Nat.zero_le _))
  ·
   split
   ·
    refine bT (Nj hv (gL hv (j7 hv hu))) fun ws v hw Jn=>?_
    split
    · exact sy
    · exact bT (vG hv hn (j7 hv (gL hv hw))) fun b w hx _=>eM hx (np ws false [b] Jn.1 Jn.2)
   · exact bT (vG hv hn (j7 hv hu)) fun b v hw _=>eM hw (np [] true [b] (fun w hw=>absurd hw List.not_mem_nil) (Nat.zero_le _))
theorem Sv {s:S} (h:SP M Q T s):Hp M Q T (fun _=>True) (cA nest s):=by
 unfold cA
 have h0:SP M Q T (if aV 2 [[40]] s=true then tk s else s):=by
  split
  · exact gL hv h
  · exact h
 intro y hy
 obtain ⟨w,t,h1,h2⟩:=aM hy
 have h3:=oQ hv h0 _ h1
 have h4:=l7 h1
 have h5:=h0.few
 exact bT (P4 hv h3.2 h3.1 (by simp only at h4 ⊢;omega)) (fun ws u hu Jn=>bT (ig hv hu) fun _ v hw _=>bT (kB hv hn true hw) fun k x hx _=>pI hx ⟨Jn.2,Jn.1,Nat.zero_le _,fun r hr=>absurd hr List.not_mem_nil,.inl rfl⟩) y h2
theorem Ec:∀(f:Nat) (ks:List Nat) (s:S),SP M Q T s→Hp M Q T (fun _=>True) (dL nest f ks s)
 | 0,ks,s,h=>eM h trivial
 | f+1,ks,s,h=>by
   unfold dL
   split
   · exact eM h trivial
   ·
    refine bT (Sv hv hn h) fun k t ht _=>?_
    split
    · exact Ec f _ _ (j7 hv (gL hv ht))
    · exact eM ht trivial
theorem L6 (ln:Nat) {s:S} (h:SP M Q T s):Hp M Q T (CP M T) (eQ nest ln s):=by
 unfold eQ
 exact bT (oQ hv (gL hv h)) fun t u hu Wz=>bT (ig hv (j7 hv hu)) fun _ v hw _=>bT (Ec hv hn _ _ _ (j7 hv hw)) fun ks w hx _=>bT (ig hv hx) fun _ x hy _=>eM hy ⟨Nat.zero_le _,fun w hw=>absurd hw List.not_mem_nil,Nat.zero_le _,fun r hr=>absurd hr List.not_mem_nil,.inr Wz⟩
theorem SH (ln:Nat) {s:S} (h:SP M Q T s):Hp M Q T (CP M T) (dF nest ln s):=by
 unfold dF
 split
 · exact U4 hv hn ln h
 ·
  split
  · exact OY hv hn ln h
  ·
   split
   · exact IM hv hn _ ln s h
   ·
    split
    · exact SK hv hn ln h
    ·
     split
     · exact L6 hv hn ln h
     · exact RF hv hn ln h
theorem Qh (ln:Nat) {s:S} (h:SP M Q T s):Hp M Q T (CP M T) (fU nest ln s):=by
 unfold fU
 refine bT (oQ hv h) fun t u hu Wz=>bT (ig hv hu) fun _ v hw _=>bT (ig hv hw) fun _ w hx _=>?_
 simp only
 split
 · exact sy
 · exact bT (hn _ (j7 hv hx)) fun k x hy _=>eM hy ⟨Nat.zero_le _,fun w hw=>absurd hw List.not_mem_nil,Nat.zero_le _,fun r hr=>absurd hr List.not_mem_nil,.inr Wz⟩
end
theorem Bg:∀(n:Nat) (s:S),SP M Q T s→Hp M Q T (fun _=>True) (nestD n s)
 | 0,s,_=>sy
 | n+1,s,h=>by
   unfold nestD
   split
   · exact bT (SH hv (Bg n) _ h) fun x t ht hc=>bT (K0 hv ht) fun rs u hu jG=>pI hu ⟨hc.wl,hc.ws,jG.2,jG.1,hc.t⟩
   · exact bT (Qh hv (Bg n) _ h) fun x t ht hc=>pI ht hc
theorem Fm {s:Nm} {L:List Tok} {l:List Nd} (hL:allM s=.ok L) (hq:Q L) (hM:L.length≤M) (h:cI s=.ok l):∀n∈l,NP M T n:=by
 unfold cI at h
 rw [hL] at h
 simp only at h
 cases hr:aO (nestD 40) true ([],L) with
 | error x=>rw [hr] at h;cases h
 | ok x=>
   rw [hr] at h
   simp only at h
   split at h
   · cases h
   ·
    injection h with h
    subst h
    exact (kB hv (Bg hv 40) true ⟨hM,hq,fun n hn=>absurd hn List.not_mem_nil⟩ x hr).1.nodes
end
end Go.Proofs.YtiklkhbfilbpeaaGreatDoor.Sy
namespace Go.Proofs.YtiklkhbfilbpeaaGreatDoor.Lx
def gN (l:List Tok):Nat:=(l.map fun t=>t.t.length+t.b.length).sum
theorem kS (l:List Tok) (t:Tok):gN (l++[t])=gN l+(t.t.length+t.b.length):=by unfold gN;rw [List.map_append,List.sum_append];simp
theorem xS (x:Nm):∀(l:List Tok) (i:Nat),gN (l.modify i (dC x))≤gN l+x.length
 | [],i=>by cases i<;>exact Nat.zero_le _
 | t::l,0=>by
   show gN (dC x t::l)≤_
   unfold gN dC
   simp only [List.map_cons,List.sum_cons,List.length_append]
   omega
 | t::l,i+1=>by
   have:=xS x l i
   show gN (t::l.modify i (dC x))≤_
   unfold gN at this ⊢
   simp only [List.map_cons,List.sum_cons]
   omega
theorem Fv {l:List Tok} {t:Tok} (h:t∈l):t.t.length+t.b.length≤gN l:=by
 induction l with
 | nil=>cases h
 | cons u l ih=>
   unfold gN at ih ⊢
   simp only [List.map_cons,List.sum_cons]
   rcases List.mem_cons.1 h with rfl | h
   · omega
   · have:=ih h;omega
theorem KY (s:Nm):(cD s).1.length+(cD s).2.length≤s.length∧(s≠[]→(cD s).2≠[]→(cD s).1.length+1+(cD s).2.length≤s.length):=by
 unfold cD
 cases h:cutAt 10 s with
 | none=>exact ⟨by simp,fun _ hn=>absurd rfl hn⟩
 | some x=>
   have:=congrArg List.length (kC h)
   simp at this
   exact ⟨by simp only;omega,fun _ _=>by simp only;omega⟩
theorem Ak (e:Nm):∀f s x,ji e f s=.ok x→x.1.length+x.2.length≤s.length
 | 0,s,x,h=>by cases h
 | f+1,s,x,h=>by
   unfold ji at h
   split at h
   · cases h
   ·
    rename_i hs
    have h1:=KY s
    split at h
    ·
     injection h with h
     subst h
     have:=h1.1
     simp;omega
    ·
     obtain ⟨p,h2,h3⟩:=cH h
     have h4:=Ak e f _ (p,x.2) h2
     have hn:(cD s).2≠[]:=fun e0=>by
      rw [e0] at h2
      cases f with
      | zero=>cases h2
      | succ f=>unfold ji at h2;rw [if_pos rfl] at h2;cases h2
     have:=h1.2 hs hn
     rw [h3]
     simp only [List.length_append,List.length_cons,List.length_nil] at h4 ⊢
     omega
theorem xG {s:Nm} {x:Nm × Nm} (h:fe s=.ok x):x.1.length+x.2.length≤s.length:=kJ (oU 0) _ _ _ h
theorem yf:∀(hh:List Nat) (l:List Tok) (s:Nm) (x:List Tok × Nm),cX hh l s=.ok x→gN x.1+x.2.length≤gN l+s.length
 | [],l,s,x,e=>by injection e with e;subst e;exact Nat.le_refl _
 | i::is,l,s,x,e=>by
   obtain ⟨y,h1,h2⟩:=aZ (x:=gW (ed l i) s) e
   have h3:=yf is _ _ x h2
   have h4:=Ak _ _ _ _ h1
   have h5:=xS y.1 l i
   omega
abbrev vv:List Nm:=[[60],[62],[60,60],[62,62]]
def Pd:List Tok→Prop
 | []=>True
 | [_]=>True
 | t::u::l=>(t.k=5→u.t∈vv)∧Pd (u::l)
theorem qh:∀{l:List Tok} {u:Tok},Pd l→(∀l0 t,l=l0++[t]→t.k=5→u.t∈vv)→Pd (l++[u])
 | [],u,_,_=>trivial
 | [t],u,_,h=>⟨fun hk=>h [] t rfl hk,trivial⟩
 | t::v::l,u,hl,h=>⟨hl.1,qh hl.2 fun l0 x e hk=>h (t::l0) x (by rw [e];rfl) hk⟩
theorem BN (x:Nm):∀(l:List Tok) (i:Nat),Pd l→Pd (l.modify i (dC x))
 | [],i,_=>by cases i<;>trivial
 | [t],0,_=>trivial
 | [t],1,_=>trivial
 | [t],i+2,_=>trivial
 | t::u::l,0,h=>h
 | t::u::l,1,h=>⟨h.1,BN x (u::l) 0 h.2⟩
 | t::u::l,i+2,h=>by
   have h2:=BN x (u::l) (i+1) h.2
   exact ⟨h.1,h2⟩
theorem xY:∀(hh:List Nat) (l:List Tok) (s:Nm) (x:List Tok × Nm),cX hh l s=.ok x→Pd l→Pd x.1∧x.1.map Tok.k=l.map Tok.k
 | [],l,s,x,e,h=>by injection e with e;subst e;exact ⟨h,rfl⟩
 | i::is,l,s,x,e,h=>by
   obtain ⟨y,h1,h2⟩:=aZ (x:=gW (ed l i) s) e
   have h3:=xY is _ _ x h2 (BN _ l i h)
   refine ⟨h3.1,h3.2.trans ?_⟩
   have key:∀(l:List Tok) (i:Nat),(l.modify i (dC y.1)).map Tok.k=l.map Tok.k:=fun l=>by
    induction l with
    | nil=>intro i;cases i<;>rfl
    | cons t l ih=>
      intro i
      cases i with
      | zero=>rfl
      | succ i=>show t.k::(l.modify i (dC y.1)).map Tok.k=t.k::l.map Tok.k;rw [ih i]
   exact key l i
structure Zx (N:Nat) (l:List Tok) (q:Nm):Prop where
 len:gN l+q.length≤N
 io:Pd l
 last:∀l0 t,l=l0++[t]→t.k=5→has [60] q=true∨has [62] q=true
theorem H5 {l l0:List Tok} {t u:Tok} (h:l++[u]=l0++[t]):u=t:=by
 have:=(List.append_inj' h rfl).2
 injection this
theorem PV {N g:Nat} {l:List Tok} {hh:List Nat} {c:UInt8} {r:Nm} {x:St} (e:eY g l hh (c::r)=.ok x) (h:Zx N l (c::r)):Zx N x.1 x.2.2:=by
 have Ms:∀l0 t,l=l0++[t]→t.k=5→c=60∨c=62:=fun l0 t e hk=>by
  rcases h.last l0 t e hk with h1 | h1
  · rw [cm] at h1;exact .inl (of_decide_eq_true h1).symm
  · rw [cm] at h1;exact .inr (of_decide_eq_true h1).symm
 have hlen:=h.len
 unfold eY at e
 simp only at e
 split at e
 ·
  rename_i h10
  obtain ⟨y,h1,h2⟩:=aZ e
  injection h2 with h2;subst h2
  have hno:∀l0 t,l=l0++[t]→t.k=5→False:=fun l0 t e hk=>by
   rcases Ms l0 t e hk with h | h<;>(subst h10;cases h)
  have h3:=xY _ _ _ _ h1 (qh h.io fun l0 t e hk=>(hno l0 t e hk).elim)
  have h4:=yf _ _ _ _ h1
  rw [kS] at h4
  refine ⟨?_,h3.1,fun l0 t e hk=>?_⟩
  · simp at hlen h4 ⊢;omega
  ·
   exfalso
   have h5:=h3.2
   rw [e,List.map_append,List.map_append] at h5
   have:=(List.append_inj' h5 rfl).2
   injection this with this
   rw [hk] at this
   cases this
 ·
  rename_i h10
  have keep:∀(q:Nm),(∀l0 t,l=l0++[t]→t.k=5→False)→q.length≤(c::r).length→Zx N l q:=fun q hno hq=>⟨by omega,h.io,fun l0 t e hk=>(hno l0 t e hk).elim⟩
  have hno:c≠60→c≠62→∀l0 t,l=l0++[t]→t.k=5→False:=fun h1 h2 l0 t e hk=>(Ms l0 t e hk).elim h1 h2
  split at e
  ·
   rename_i uR
   injection e with e;subst e
   exact keep _ (hno (by rw [uR];decide) (by rw [uR];decide)) (by rw [List.length_drop];omega)
  ·
   split at e
   ·
    rename_i hj
    injection e with e;subst e
    have kg:c=92:=by
     cases r with
     | nil=>simp [has,List.isPrefixOf] at hj
     | cons d r=>simp only [has,List.isPrefixOf,Bool.and_true,Bool.and_eq_true,beq_iff_eq] at hj;exact hj.1.symm
    exact keep _ (hno (by rw [kg];decide) (by rw [kg];decide)) (by simp;omega)
   ·
    split at e
    ·
     rename_i hb
     injection e with e;subst e
     refine keep _ (hno ?_ ?_) (by simp)
     · rintro rfl;rcases hb with h | h<;>cases h
     · rintro rfl;rcases hb with h | h<;>cases h
    ·
     rename_i hb
     split at e
     ·
      rename_i o ho
      injection e with e;subst e
      have hs:=rL ho
      have hl:=eE hs.1
      have hp:=xq hs.2
      refine ⟨?_,qh h.io fun l0 t e hk=>?_,fun l0 t e hk=>?_⟩
      ·
       rw [kS,List.length_drop]
       simp only [List.length_nil]
       omega
      ·
       have hc:=Ms l0 t e hk
       have h2:=hs.1
       have h3:=hs.2
       show o∈vv
       clear hl hp hs ho
       simp [jk] at h3
       rcases h3 with rfl | rfl | rfl | rfl | rfl | rfl | rfl | rfl | rfl | rfl | rfl<;>first | decide | (exfalso;simp only [has,List.isPrefixOf,Bool.and_eq_true,beq_iff_eq] at h2;rcases hc with rfl | rfl<;>(have:=h2.1;cases this))
      ·
       have:=H5 e
       subst this
       cases hk
     ·
      rename_i hn
      split at e
      · cases e
      ·
       rename_i ET
       have hsn:=Ay hn
       have X4:=hno hsn.2.2.2.2.1 hsn.2.2.2.2.2
       obtain ⟨y,h1,h2⟩:=aZ e
       have h3:=xG h1
       split at h2
       ·
        rename_i rb
        injection h2 with h2;subst h2
        refine ⟨?_,qh h.io fun l0 t e hk=>(X4 l0 t e hk).elim,fun l0 t e hk=>?_⟩
        · rw [kS];simp only [List.length_nil];omega
        ·
         unfold kR at rb
         simp only [Bool.and_eq_true,Bool.or_eq_true] at rb
         exact rb.2
       ·
        injection h2 with h2;subst h2
        refine ⟨?_,qh h.io fun l0 t e hk=>(X4 l0 t e hk).elim,fun l0 t e hk=>?_⟩
        · rw [kS];simp only [List.length_nil];omega
        ·
         have:=H5 e
         subst this
         cases hk
theorem IH (K N:Nat):∀(n:Nat) (l:List Tok) (hh:List Nat) (q:Nm) (L:List Tok),q.length≤n→Zx N l q→mF K (l,hh,q)=.ok L→∃l0,L=l0++[⟨4,[],[],K⟩]∧Zx N l0 []
 | n,l,hh,[],L,_,h,e=>by
   rw [oC] at e
   split at e
   · injection e with e;exact ⟨l,e.symm,h⟩
   · cases e
 | 0,l,hh,c::r,L,hl,_,_=>absurd hl (by simp)
 | n+1,l,hh,c::r,L,hl,h,e=>by
   rw [dn K l hh (by simp)] at e
   cases ho:eY (K - nl (c::r)) l hh (c::r) with
   | error z=>rw [ho] at e;cases e
   | ok x=>
     rw [ho] at e
     have:=one_len (by simp) ho
     exact IH K N n x.1 x.2.1 x.2.2 L (by simp at hl this;omega) (PV ho h) e
theorem Hy {s:Nm} {L:List Tok} (h:allM s=.ok L):gN L≤s.length∧Pd L∧∃l0 t,L=l0++[t]∧t.k=4∧∀l1 u,l0=l1++[u]→u.k≠5:=by
 obtain ⟨l0,rfl,h1⟩:=IH _ s.length _ [] [] s L (Nat.le_refl _) ⟨by unfold gN;simp,trivial,fun l0 t e=>by simp at e⟩ h
 have hno:∀l1 u,l0=l1++[u]→u.k≠5:=fun l1 u e hk=>by
  rcases h1.last l1 u e hk with h | h<;>cases h
 refine ⟨?_,qh h1.io fun l1 u e hk=>absurd hk (hno l1 u e),l0,_,rfl,rfl,hno⟩
 rw [kS]
 have:=h1.len
 simpa using this
end Go.Proofs.YtiklkhbfilbpeaaGreatDoor.Lx
namespace Go.Proofs.YtiklkhbfilbpeaaGreatDoor.Un
open Lx Sy
theorem th (sep:Nm) (N:Nat):∀ws:List Nm,(∀w∈ws,w.length≤N)→(Lib.join ws sep).length≤ws.length * (N+sep.length)
 | [],_=>by simp [Lib.join]
 | [w],h=>by
   have:=h w List.mem_cons_self
   simp [Lib.join];omega
 | w::v::ws,h=>by
   have h1:=h w List.mem_cons_self
   have h2:=th sep N (v::ws) fun x hx=>h x (List.mem_cons_of_mem _ hx)
   have e:Lib.join (w::v::ws) sep=w++sep++Lib.join (v::ws) sep:=by simp [Lib.join,List.intercalate_cons_cons]
   rw [e,List.length_append,List.length_append,List.length_cons,Nat.succ_mul]
   omega
theorem Ph:∀n:Nat,n≤99→(Lib.itoa (n:Int)).length≤2:=by
 have h:∀n:Fin 100,(Lib.itoa ((n.val:Nat):Int)).length≤2:=by decide+kernel
 exact fun n hn=>h ⟨n,by omega⟩
theorem uq {α:Type} (F:α→Nat) (c:Nat):∀l:List α,(∀x∈l,F x≤c)→(l.map F).sum≤l.length * c
 | [],_=>by simp
 | x::l,h=>by
   rw [List.map_cons,List.sum_cons,List.length_cons,Nat.succ_mul]
   have h1:=h x List.mem_cons_self
   have h2:=uq F c l fun y hy=>h y (List.mem_cons_of_mem _ hy)
   omega
theorem o6:∀(n:Nat) (l:List Nat),l.Nodup→(∀y∈l,y < n)→l.length≤n
 | 0,[],_,_=>Nat.le_refl _
 | 0,y::l,_,h=>absurd (h y List.mem_cons_self) (Nat.not_lt_zero _)
 | n+1,l,hn,h=>by
   by_cases hm:n∈l
   ·
    have h1:=o6 n (l.erase n) (hn.erase n) fun y hy=>by
     have h2:=(hn.mem_erase_iff).1 hy
     have:=h y h2.2
     have:=h2.1
     omega
    rw [List.length_erase_of_mem hm] at h1
    omega
   ·
    have:=o6 n l hn fun y hy=>by
     have h2:=h y hy
     have:y≠n:=fun e=>hm (by rw [←e];exact hy)
     omega
    omega
theorem Db {l:List Nd} (ht:Tr l) {n:Nd} (hn:n∈l):n.ks.length≤l.length:=by
 obtain ⟨i,hi,rfl⟩:=List.mem_iff_getElem.1 hn
 refine o6 _ _ ?_ fun y hy=>by have:=ht.kids i hi y hy;omega
 rw [List.nodup_iff_count]
 intro q
 by_cases hq:q < l.length
 ·
  have h1:=ht.one q hq
  have h2:l[i].ks.count q≤(l.flatMap (·.ks)).count q:=by
   have h3:l[i].ks.Sublist (l.flatMap (·.ks)):=by
    have:l=l.take i++l[i]::l.drop (i+1):=by rw [List.getElem_cons_drop,List.take_append_drop]
    conv=>rhs;rw [this]
    rw [List.flatMap_append,List.flatMap_cons]
    exact (List.sublist_append_left _ _).trans (List.sublist_append_right _ _)
   exact h3.count_le q
  split at h1<;>omega
 ·
  rw [List.count_eq_zero.2 (fun h=>by have:=ht.kids i hi q h;omega)]
  omega
section
variable {M N:Nat} {T:Tok→Prop} (hT:∀t,T t→t.t.length+t.b.length≤N) (hM:M≤5001) (hN:N≤4096)
include hT hM hN
omit hM in
theorem Co {n:Nd} (h:NP M T n):∀w∈n.ws,w.length≤4096:=fun w hw=>by
 obtain ⟨t,h1,_,rfl⟩:=h.ws w hw
 have:=hT t h1
 omega
omit hM in
theorem Qg {n:Nd} (h:NP M T n):n.t.length≤4096:=by
 rcases h.t with h | ⟨t,h1,_,h2⟩
 · rw [h];simp
 ·
  have:=hT t h1
  rw [←h2];omega
omit hM in
theorem D8 {n:Nd} (h:NP M T n):∀r∈n.rs,gV r≤12295∧r.fd≤99∧r.o.length≤2∧r.w.length≤4096∧r.b.length≤4096:=fun r hr=>by
 obtain ⟨h1,h2,t,h3,_,h4,h5⟩:=h.rs r hr
 have h6:=hT t h3
 have h7:=Ph r.fd h1
 have h8:r.o.length≤2:=by
  simp [sg4] at h2
  rcases h2 with h | h | h | h<;>rw [h]<;>decide
 unfold gV
 rw [h4,h5]
 exact ⟨by omega,h1,h8,by omega,by omega⟩
theorem yb {n:Nd} (h:NP M T n):bN.dW n.rs≤5001 * 12296:=by
 unfold Acc.dW
 have h1:=uq (fun x=>bN.p [32]+bN.rc x) 12296 n.rs fun r hr=>by
  have:=(D8 hT hN h r hr).1
  show 1+gV r≤_
  omega
 have h2:=h.rl
 have h3:n.rs.length * 12296≤5001 * 12296:=Nat.mul_le_mul_right _ (by omega)
 omega
theorem GH {n:Nd} (h:NP M T n):bN.uX n.rs≤5001 * 12296:=by
 have h1:=yb hT hM hN h
 cases hr:n.rs with
 | nil=>simp [Acc.uX]
 | cons x rs=>
   rw [hr] at h1
   unfold Acc.dW at h1
   rw [List.map_cons,List.sum_cons] at h1
   show bN.rc x+(rs.map fun x=>bN.p [32]+bN.rc x).sum≤_
   omega
theorem yD {n:Nd} (h:NP M T n) (c:UInt8):(Lib.join n.ws [c]).length≤5001 * 4097:=by
 have h1:=th [c] 4096 n.ws (Co hT hN h)
 have e:4096+[c].length=4097:=rfl
 rw [e] at h1
 have h2:n.ws.length * 4097≤5001 * 4097:=Nat.mul_le_mul_right _ (by have:=h.wl;omega)
 omega
theorem Ex {n:Nd} (h:NP M T n):(Lib.join ([32,105,110]::n.ws) [32]).length≤20493194:=by
 have h3:=h.wl
 have hb:=Co hT hN h
 generalize n.ws=ws at *
 have h1:=th [32] 4096 ([32,105,110]::ws) (fun w hw=>(List.mem_cons.1 hw).elim (fun e=>e ▸ (by simp:([32,105,110]:Nm).length≤4096)) (hb w))
 simp only [List.length_cons,List.length_nil] at h1
 omega
omit hT hM hN in
theorem j9 {c:Prop} [Decidable c] {a b m:Nat} (h1:a≤m) (h2:b≤m):(if c then a else b)≤m:=by split;exact h1;exact h2
theorem Dd {l:List Nd} (ht:Tr l) (hl:l.length≤50000) {n:Nd} (hn:n∈l) (h:NP M T n):bN.fB l n≤160000000:=by
 have hk:=Db ht hn
 have h1:=yb hT hM hN h
 have h2:=GH hT hM hN h
 have h3:=yD hT hM hN h 32
 have h4:=yD hT hM hN h 124
 have h5:=Ex hT hM hN h
 have h6:=Qg hT hN h
 have h7:((if n.fl then [117,110,116,105,108] else [119,104,105,108,101]:Nm)).length≤5:=by split<;>simp
 unfold Acc.fB
 have hb:bN.dr (en l) n≤28000000+5001 * 12296:=by
  unfold Acc.dr Acc.ui
  simp only [show ∀t,bN.p t=t.length from fun _=>rfl,List.length_append,List.length_cons,List.length_nil]
  generalize ((if n.fl then [117,110,116,105,108] else [119,104,105,108,101]:Nm)).length=W at *
  generalize bN.uX n.rs=R at *
  generalize (Lib.join n.ws [32]).length=J at *
  generalize (Lib.join n.ws [124]).length=J2 at *
  generalize (Lib.join ([32,105,110]::n.ws) [32]).length=J3 at *
  generalize n.ks.length=K at *
  generalize n.t.length=L at *
  refine j9 ?_ (j9 ?_ (j9 ?_ (j9 ?_ (j9 ?_ (j9 ?_ (j9 ?_ (j9 ?_ (j9 ?_ (j9 ?_ (j9 ?_ (j9 ?_ ?_)))))))))))
  all_goals (repeat' split)
  all_goals omega
 split<;>omega
theorem El {l:List Nd} (ht:Tr l) (hl:l.length≤50000) (hp:∀n∈l,NP M T n):(l.map (bN.fB l)).sum≤8000000000000:=by
 have h1:=uq (bN.fB l) 160000000 l fun n hn=>Dd hT hM hN ht hl hn (hp n hn)
 have h2:l.length * 160000000≤50000 * 160000000:=Nat.mul_le_mul_right _ hl
 omega
end
def QT (N:Nat) (l:List Tok):Prop:=(∀t∈l,t.t.length+t.b.length≤N)∧Pd l∧∀l0 t,l=l0++[t]→t.k≠5
def TT (N:Nat) (t:Tok):Prop:=t.t.length+t.b.length≤N
theorem ZV (M N:Nat):Pv M (QT N) (TT N) where
 head h:=h.1 _ List.mem_cons_self
 tail {t l} h:=⟨fun u hu=>h.1 u (List.mem_cons_of_mem _ hu),by
  have h2:=h.2.1
  cases l with
  | nil=>trivial
  | cons u l=>exact h2.2,fun l0 u e=>h.2.2 (t::l0) u (by rw [e];rfl)⟩
 io h hk:=h.2.1.1 hk
 last h:=h.2.2 [] _ rfl
theorem YD {s:Nm} {L:List Tok} (h:allM s=.ok L):QT s.length L:=by
 obtain ⟨h1,h2,l0,t,rfl,h4,h5⟩:=Hy h
 refine ⟨fun u hu=>Nat.le_trans (Fv hu) h1,h2,fun l1 u e=>?_⟩
 have:=(List.append_inj' e rfl).2
 injection this with this
 rw [←this,h4];decide
theorem MJ {s:Nm} {L:List Tok} {l:List Nd} (hL:allM s=.ok L) (h:cI s=.ok l):∀n∈l,NP L.length (TT s.length) n:=Fm (ZV _ _) hL (YD hL) (Nat.le_refl _) h
end Go.Proofs.YtiklkhbfilbpeaaGreatDoor.Un
