import Derived.Test.YtiklkhbfilbpeaaGreatDoorTbGSyA
import Derived.Test.YtiklkhbfilbpeaaGreatDoorTbGSyG
import Derived.Laws.MakeOwn
set_option maxRecDepth 100000
set_option maxHeartbeats 16000000
set_option linter.unusedVariables false
set_option linter.unusedSimpArgs false
namespace Go.Proofs.YtiklkhbfilbpeaaGreatDoor.Sy
open Base Lx
structure SI (s:S):Prop where
 few:s.2.length≤10000
 small:∀n∈s.1,n.k=1→n.ws.length+n.rs.length≤100000
def Hd {α:Type} (C:α→Prop) (x:P α):Prop:=∀y,x=.ok y→SI y.2∧C y.1
abbrev CT {α:Type}:α→Prop:=fun _=>True
abbrev CN:Nd→Prop:=fun n=>n.k≠1
theorem xv {α:Type} {C:α→Prop} {e:Int} {s:S}:Hd C (er e s):=fun y h=>by cases h
theorem fH {α:Type} {C:α→Prop} {a:α} {s:S} (h:SI s) (hc:C a):Hd C (.ok (a,s)):=fun y e=>by injection e with e;subst e;exact ⟨h,hc⟩
theorem bY {α β:Type} {C:α→Prop} {C':β→Prop} {x:P α} {f:α→S→P β} (h:Hd C x) (hf:∀a t,SI t→C a→Hd C' (f a t)):Hd C' (bd x f):=fun y hy=>by
 obtain ⟨a,t,h1,h2⟩:=aM hy
 exact hf a t (h _ h1).1 (h _ h1).2 y h2
theorem IU {s t:S} (h:SI s) (h1:t.1=s.1) (h2:t.2.length≤s.2.length):SI t:=⟨by have:=h.few;omega,by rw [h1];exact h.small⟩
theorem BG {α:Type} {s:S} {x:P α} (h:SI s) (h1:Idle s x) (h2:dB s x):Hd CT x:=fun y hy=>⟨IU h (h1 y hy) (h2 y hy),trivial⟩
theorem jL {s:S} (h:SI s):SI (tk s):=IU h (cE s) (by unfold tk;split;exact Nat.le_refl _;simp)
theorem jW {s:S} (h:SI s):SI (bj s):=IU h (dM s) (ew s)
theorem pq {n:Nd} {s:S} (h:SI s) (hn:n.k=1→n.ws.length+n.rs.length≤100000):Hd CT (bC n s):=fH ⟨h.few,fun m hm=>by
 rcases List.mem_append.1 hm with hm | hm
 · exact h.small m hm
 · obtain rfl:=List.mem_singleton.1 hm;exact hn⟩ trivial
theorem ib {k:Nat} {ts:List Nm} {s:S} (h:SI s):Hd CT (aP k ts s):=BG h dS bS
theorem tD {s:S} (h:SI s):Hd CT (cC s):=BG h gU gP
theorem KN {s:S} (h:SI s):Hd CT (eA s):=BG h (uV s) (uH s)
theorem sT {α:Type} {cond:S→Bool} {step:α→S→P α} (h:∀a s,SI s→Hd CT (step a s)):∀(f:Nat) (a:α) (s:S),SI s→Hd CT (cV cond step f a s)
 | 0,a,s,hs=>fH hs trivial
 | f+1,a,s,hs=>by
   unfold cV
   split
   · exact bY (h a s hs) fun a t ht _=>sT h f a t ht
   · exact fH hs trivial
theorem Ju {s:S} (h:SI s):Hd CT (cG s):=by
 intro y e
 unfold cG at e
 obtain ⟨n,t,e1,e2⟩:=aM e
 have hI:(t.1=s.1∧n.ws.length+n.rs.length+t.2.length≤s.2.length):=by
  unfold aB at e1
  refine fE (I:=fun (a:Nd) (u:S)=>u.1=s.1∧a.ws.length+a.rs.length+u.2.length≤s.2.length) (fun a u y hi hc e=>?_) _ _ _ (n,t) ⟨rfl,by simp⟩ e1
  split at e
  ·
   rename_i hr
   obtain ⟨x,v,h1,h2⟩:=aM e
   injection h2 with h2
   subst h2
   have h3:=kZ hr h1
   have h4:=nN _ _ h1
   simp only [List.length_append,List.length_singleton] at h3 h4 ⊢
   exact ⟨h4.trans hi.1,by omega⟩
  ·
   obtain ⟨x,v,h1,h2⟩:=aM e
   injection h2 with h2
   subst h2
   have h3:=l7 h1
   have h4:=gU _ h1
   unfold fk
   simp only [List.length_append,List.length_singleton] at h3 h4 ⊢
   exact ⟨h4.trans hi.1,by omega⟩
 have hf:=h.few
 exact pq (IU h hI.1 (by omega)) (fun _=>by omega) y e2
def S3 (nest:S→P Nat):Prop:=∀s,SI s→Hd CT (nest s)
section
variable {nest:S→P Nat} (hn:S3 nest)
include hn
theorem MP {s:S} (h:SI s):Hd CT (gm nest s):=by
 unfold gm
 split
 · exact xv
 ·
  split
  · exact Ju h
  · exact hn s h
theorem IL {s:S} (h:SI s):Hd CT (dt nest s):=by
 unfold dt
 simp only
 have h0:SI (if aV 1 [[33]] s=true then tk s else s):=by
  split
  · exact jL h
  · exact h
 refine bY (MP hn h0) fun k t ht _=>bY (sT (fun l u hu=>bY (MP hn (jW (jL hu))) fun k v hv _=>fH hv trivial) _ _ _ ht) fun ks u hu _=>?_
 split
 · exact fH hu trivial
 · exact pq hu (fun h=>by cases h)
theorem OO {s:S} (h:SI s):Hd CT (cx nest s):=by
 unfold cx
 refine bY (IL hn h) fun k t ht _=>sT (fun l u hu=>bY (IL hn (jW (jL hu))) fun k v hv _=>pq hv ?_) _ _ _ ht
 intro hk
 simp only at hk
 split at hk<;>cases hk
theorem Dy:∀(f:Nat) (ks:List Nat) (s:S),SI s→Hd CT (eD nest f ks s)
 | 0,ks,s,h=>fH h trivial
 | f+1,ks,s,h=>by
   unfold eD
   split
   ·
    refine bY (OO hn h) fun k t ht _=>?_
    split
    · exact fH ht trivial
    · exact Dy f _ _ (jW (jL ht))
   · exact fH h trivial
theorem kH (em:Bool) {s:S} (h:SI s):Hd CT (aO nest em s):=by
 unfold aO
 refine bY (Dy hn _ _ _ (jW h)) fun ks t ht _=>?_
 split
 · exact xv
 · exact pq ht (fun h=>by cases h)
theorem vJ {s:S} (h:SI s):Hd CT (cv nest s):=by
 unfold cv
 exact bY (ib h) fun _ t ht _=>bY (kH hn false ht) fun k u hu _=>bY (ib hu) fun _ v hv _=>fH hv trivial
theorem Ov (ln:Nat) {s:S} (h:SI s):Hd CN (eV nest ln s):=by
 unfold eV
 exact bY (kH hn false (jL h)) fun k u hu _=>bY (ib hu) fun _ v hv _=>fH hv (by intro h;cases h)
theorem VU (ln:Nat) {s:S} (h:SI s):Hd CN (mP nest ln s):=by
 unfold mP
 exact bY (kH hn false (jL h)) fun k u hu _=>bY (ib hu) fun _ v hv _=>fH hv (by intro h;cases h)
theorem Jh:∀(f ln:Nat) (s:S),SI s→Hd CN (eW nest f ln s)
 | 0,ln,s,_=>xv
 | f+1,ln,s,h=>by
   unfold eW
   refine bY (kH hn false (jL h)) fun c t ht _=>bY (ib ht) fun _ u hu _=>bY (kH hn false hu) fun b v hv _=>?_
   split
   · exact bY (Jh f _ v hv) fun n w hw hc=>bY (pq hw (fun h=>absurd h hc)) fun k x hx _=>fH hx (by intro h;cases h)
   ·
    split
    · exact bY (kH hn false (jL hv)) fun k w hw _=>bY (ib hw) fun _ x hx _=>fH hx (by intro h;cases h)
    · exact bY (ib hv) fun _ x hx _=>fH hx (by intro h;cases h)
theorem P8 (ln:Nat) {s:S} (h:SI s):Hd CN (iw nest ln s):=by
 unfold iw
 exact bY (kH hn false (jL h)) fun c t ht _=>bY (vJ hn ht) fun b u hu _=>fH hu (by intro h;cases h)
theorem RT (ln:Nat) {s:S} (h:SI s):Hd CN (eT nest ln s):=by
 unfold eT
 simp only
 split
 · exact xv
 ·
  refine bY (tD (jL h)) fun t u hu _=>?_
  split
  · exact bY (vJ hn (jW (jL hu))) fun b v hv _=>fH hv (by intro h;cases h)
  ·
   split
   ·
    refine bY (sT (fun l u hu=>bY (tD hu) fun w v hv _=>fH hv trivial) _ _ _ (jL (jW hu))) fun ws v hv _=>?_
    split
    · exact xv
    · exact bY (vJ hn (jW (jL hv))) fun b w hw _=>fH hw (by intro h;cases h)
   · exact bY (vJ hn (jW hu)) fun b v hv _=>fH hv (by intro h;cases h)
theorem QP {s:S} (h:SI s):Hd CT (cA nest s):=by
 unfold cA
 have h0:SI (if aV 2 [[40]] s=true then tk s else s):=by
  split
  · exact jL h
  · exact h
 exact bY (tD h0) fun w t ht _=>bY (sT (fun l u hu=>bY (tD (jL hu)) fun w v hv _=>fH hv trivial) _ _ _ ht) fun ws u hu _=>bY (ib hu) fun _ v hv _=>bY (kH hn true hv) fun k w hw _=>pq hw (fun h=>by cases h)
theorem CG:∀(f:Nat) (ks:List Nat) (s:S),SI s→Hd CT (dL nest f ks s)
 | 0,ks,s,h=>fH h trivial
 | f+1,ks,s,h=>by
   unfold dL
   split
   · exact fH h trivial
   ·
    refine bY (QP hn h) fun k t ht _=>?_
    split
    · exact CG f _ _ (jW (jL ht))
    · exact fH ht trivial
theorem OC (ln:Nat) {s:S} (h:SI s):Hd CN (eQ nest ln s):=by
 unfold eQ
 exact bY (tD (jL h)) fun t u hu _=>bY (ib (jW hu)) fun _ v hv _=>bY (CG hn _ _ _ (jW hv)) fun ks w hw _=>bY (ib hw) fun _ x hx _=>fH hx (by intro h;cases h)
theorem Q9 (ln:Nat) {s:S} (h:SI s):Hd CN (dF nest ln s):=by
 unfold dF
 split
 · exact VU hn ln h
 ·
  split
  · exact Ov hn ln h
  ·
   split
   · exact Jh hn _ ln s h
   ·
    split
    · exact RT hn ln h
    ·
     split
     · exact OC hn ln h
     · exact P8 hn ln h
theorem Sq (ln:Nat) {s:S} (h:SI s):Hd CN (fU nest ln s):=by
 unfold fU
 refine bY (tD h) fun t u hu _=>bY (ib hu) fun _ v hv _=>bY (ib hv) fun _ w hw _=>?_
 simp only
 split
 · exact xv
 · exact bY (hn _ (jW hw)) fun k x hx _=>fH hx (by intro h;cases h)
end
theorem Bu:∀n:Nat,S3 (nestD n)
 | 0=>fun s _=>xv
 | n+1=>fun s h=>by
   unfold nestD
   split
   · exact bY (Q9 (Bu n) _ h) fun x t ht hc=>bY (KN ht) fun rs u hu _=>pq hu (fun h=>absurd h hc)
   · exact bY (Sq (Bu n) _ h) fun x t ht hc=>pq ht (fun h=>absurd h hc)
end Go.Proofs.YtiklkhbfilbpeaaGreatDoor.Sy
namespace Go.Proofs.YtiklkhbfilbpeaaGreatDoor.Sx
open Go.RowKit Base Lx Sy
theorem C9 {s:Nm} {l:List Nd} (hs:s.length≤4096) (h:cI s=.ok l):∀n∈l,n.k=1→n.ws.length+n.rs.length≤100000:=by
 unfold cI at h
 split at h
 · cases h
 ·
  rename_i L hL
  have hlen:=((oN hs).1 L hL).2
  split at h
  · cases h
  ·
   rename_i x hx
   have h1:=kH (Bu 40) true (s:=([],L)) ⟨by simp;omega,fun n hn=>absurd hn List.not_mem_nil⟩ x hx
   split at h
   · cases h
   ·
    injection h with h
    subst h
    exact h1.1.small
structure Good (l:List Nd):Prop where
 small:∀n∈l,n.k=1→n.ws.length+n.rs.length≤100000
 kids:∀(j:Nat) (h:j < l.length),∀k∈l[j].ks,k < j
 fits:∀n∈l,Fits n
 one:∀i,i < l.length→(l.flatMap (·.ks)).count i=if i+1=l.length then 0 else 1
 last:∀(i:Nat) (h:i < l.length),i+1=l.length→l[i].k=5
theorem Gt {s:Nm} {l:List Nd} (hs:s.length≤4096) (h:cI s=.ok l):Good l:=by
 have hsm:=C9 hs h
 obtain ⟨ns,n,rfl,hn,hi⟩:=Gk h
 refine ⟨hsm,hi.kids,hi.fits,fun i hl=>?_,fun i hl he=>?_⟩
 ·
  have h1:=hi.one i
  unfold cnt at h1
  rw [if_pos hl] at h1
  rw [List.count_flatMap]
  have h2:((ns++[n]).map (List.count i ∘ fun x=>x.ks)).sum=((ns++[n]).map fun n=>n.ks.count i).sum:=rfl
  rw [h2]
  by_cases he:i=ns.length
  ·
   subst he
   rw [if_pos (by simp)]
   rw [List.count_singleton,if_pos (by simp)] at h1
   omega
  ·
   rw [if_neg (by simp;omega)]
   rw [List.count_singleton,if_neg (by simp;omega)] at h1
   omega
 ·
  have:i=ns.length:=by simp at he;omega
  subst this
  simp [hn]
theorem K9 {s:Nm} {l:List Nd} (hs:s.length≤4096) (h:cI s=.ok l):l.length≤50000:=by
 unfold cI at h
 split at h
 · cases h
 ·
  rename_i L hL
  have hlen:=((oN hs).1 L hL).2
  split at h
  · cases h
  ·
   rename_i x hx
   have h1:=cQ (mX 40) true ([],L) x hx
   split at h
   · cases h
   ·
    injection h with h
    subst h
    unfold ph at h1
    simp only [List.length_nil] at h1
    omega
end Go.Proofs.YtiklkhbfilbpeaaGreatDoor.Sx
