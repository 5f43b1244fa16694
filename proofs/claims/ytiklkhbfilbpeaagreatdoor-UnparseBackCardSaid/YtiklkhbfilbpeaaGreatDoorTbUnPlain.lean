import Derived.Test.YtiklkhbfilbpeaaGreatDoorTbGSyA
import Derived.Lib.ItoaNum
import Derived.Lib.Join
set_option maxRecDepth 100000
set_option maxHeartbeats 16000000
set_option linter.unusedVariables false
set_option linter.unusedSimpArgs false
namespace Go.Proofs.YtiklkhbfilbpeaaGreatDoor.Un
open Lx Sy
abbrev PS:=Nm × Nm
def aG (t:Nm) (s:PS):PS:=(s.1++t,s.2)
def mA (s:PS):PS:=(s.1++10::s.2,[])
def fX (x:dZ) (s:PS):PS:=(s.1++(Lib.itoa (x.fd:Int)++(x.o++x.w)),if x.o=[60,60] then s.2++(x.b++(Lx.bare x.w++[10])) else s.2)
def iz:List dZ→PS→PS
 | [],s=>s
 | x::rs,s=>iz rs (fX x (aG [32] s))
def Ad:List dZ→PS→PS
 | [],s=>s
 | x::rs,s=>iz rs (fX x s)
def tK (n:Nd) (s:PS):PS:=
 let s1:=Ad n.rs s
 let s2:=if 0 < n.rs.length∧0 < n.ws.length then aG [32] s1 else s1
 aG (Lib.join n.ws [32]) s2
def rE (sep:Nm) (f:Nat→PS→PS):List Nat→PS→PS
 | [],s=>s
 | k::ks,s=>rE sep f ks (f k (aG sep s))
def iD (sep:Nm) (f:Nat→PS→PS):List Nat→PS→PS
 | [],s=>s
 | k::ks,s=>rE sep f ks (f k s)
def rj (f:Nat→PS→PS):List Nat→PS→PS
 | [],s=>s
 | k::ks,s=>rj f ks (mA (f k s))
def aQ (w:Nm) (f:PS→PS) (s:PS):PS:=f (mA (aG w s))
def kid (n:Nd) (i:Nat):Nat:=n.ks.getD i 0
def pd (kd:Nat→Nat) (f:Nat→PS→PS) (n:Nd) (s:PS):PS:=
 let s2:=aQ [116,104,101,110] (f (kid n 1)) (aQ [105,102] (f (kid n 0)) s)
 let s3:=if 2 < n.ks.length then (let s:=aQ [101,108,115,101] (f (kid n 2)) s2;if kd (kid n 2)=6 then mA s else s) else s2
 aG [102,105] s3
def yu (f:Nat→PS→PS) (n:Nd) (s:PS):PS:=
 aG [100,111,110,101] (aQ [100,111] (f (kid n 1)) (aQ (if n.fl then [117,110,116,105,108] else [119,104,105,108,101]) (f (kid n 0)) s))
def px (f:Nat→PS→PS) (n:Nd) (s:PS):PS:=
 let s1:=aG ([102,111,114,32]++n.t) s
 let s2:=if n.fl then s1 else aG (Lib.join ([32,105,110]::n.ws) [32]) s1
 aG [100,111,110,101] (aQ [100,111] (f (kid n 0)) (mA s2))
def xe (f:Nat→PS→PS) (n:Nd) (s:PS):PS:=aG [101,115,97,99] (iD [] f n.ks (mA (aG ([99,97,115,101,32]++n.t++[32,105,110]) s)))
def xf (f:Nat→PS→PS) (n:Nd) (s:PS):PS:=mA (aG [59,59] (aQ ([40]++Lib.join n.ws [124]++[41]) (f (kid n 0)) s))
def cZ (kd:Nat→Nat) (f:Nat→PS→PS) (n:Nd) (s:PS):PS:=
 if n.k=1 then tK n s
 else if n.k=2 then iD [32,124,32] f n.ks (if n.fl then aG [33,32] s else s)
 else if n.k=3 then iD [32,38,38,32] f n.ks s
 else if n.k=4 then iD [32,124,124,32] f n.ks s
 else if n.k=5 then rj f n.ks s
 else if n.k=6 then pd kd f n s
 else if n.k=7 then yu f n s
 else if n.k=8 then px f n s
 else if n.k=9 then xe f n s
 else if n.k=10 then xf f n s
 else if n.k=11 then aG [125] (aQ [123] (f (kid n 0)) s)
 else if n.k=12 then aG [41] (aQ [40] (f (kid n 0)) s)
 else f (kid n 0) (aG (n.t++[40,41,32]) s)
def en (l:List Nd) (j:Nat):Nat:=((l[j]?).map Nd.k).getD 0
def oc (l:List Nd) (f:Nat→PS→PS) (n:Nd) (s:PS):PS:=if n.k=1 then cZ (en l) f n s else iz n.rs (cZ (en l) f n s)
def jJ (l:List Nd):Nat→Nat→PS→PS
 | 0,_,s=>s
 | f+1,k,s=>match l[k]? with
   | none=>s
   | some n=>if 1≤n.k∧n.k≤13 then oc l (jJ l f) n s else s
def cL (l:List Nd) (k:Nat) (s:PS):PS:=jJ l (k+1) k s
def gK (l:List Nd):Nm:=if l=[] then [] else (cL l (l.length - 1) ([],[])).1
def Gy (n:Nd):Prop:=(n.k=6→n.ks.length=2∨n.ks.length=3)∧(n.k=7→n.ks.length=2)∧(n.k=8∨10≤n.k→n.ks.length=1)∧(1≤n.k∧(n.k=1→n.ks=[]))∧n.k≤13
structure Tr (l:List Nd):Prop where
 kids:∀(j:Nat) (h:j < l.length),∀k∈l[j].ks,k < j
 fits:∀n∈l,Gy n
 one:∀i,i < l.length→(l.flatMap (·.ks)).count i=if i+1=l.length then 0 else 1
theorem bV {n:Nd} {i:Nat} (h:i < n.ks.length):kid n i∈n.ks:=by
 unfold kid
 rw [List.getD_eq_getElem?_getD,List.getElem?_eq_getElem h]
 exact List.getElem_mem h
theorem wy {sep:Nm} {f g:Nat→PS→PS}:∀{ks:List Nat} (h:∀k∈ks,∀s,f k s=g k s) (s:PS),rE sep f ks s=rE sep g ks s
 | [],_,s=>rfl
 | k::ks,h,s=>by
   unfold rE
   rw [h k List.mem_cons_self,wy fun j hj=>h j (List.mem_cons_of_mem _ hj)]
theorem nh {sep:Nm} {f g:Nat→PS→PS} {ks:List Nat} (h:∀k∈ks,∀s,f k s=g k s) (s:PS):iD sep f ks s=iD sep g ks s:=by
 cases ks with
 | nil=>rfl
 | cons k ks=>
   show rE sep f ks (f k s)=rE sep g ks (g k s)
   rw [h k List.mem_cons_self,wy fun j hj=>h j (List.mem_cons_of_mem _ hj)]
theorem yt {f g:Nat→PS→PS}:∀{ks:List Nat} (h:∀k∈ks,∀s,f k s=g k s) (s:PS),rj f ks s=rj g ks s
 | [],_,s=>rfl
 | k::ks,h,s=>by
   unfold rj
   rw [h k List.mem_cons_self,yt fun j hj=>h j (List.mem_cons_of_mem _ hj)]
theorem xi {kd:Nat→Nat} {f g:Nat→PS→PS} {n:Nd} (hn:Gy n) (h:∀k∈n.ks,∀s,f k s=g k s) (s:PS):cZ kd f n s=cZ kd g n s:=by
 obtain ⟨h6,h7,h8,_,_⟩:=hn
 unfold cZ
 by_cases e1:n.k=1
 · rw [if_pos e1,if_pos e1]
 rw [if_neg e1,if_neg e1]
 by_cases e2:n.k=2
 · rw [if_pos e2,if_pos e2,nh h]
 rw [if_neg e2,if_neg e2]
 by_cases e3:n.k=3
 · rw [if_pos e3,if_pos e3,nh h]
 rw [if_neg e3,if_neg e3]
 by_cases e4:n.k=4
 · rw [if_pos e4,if_pos e4,nh h]
 rw [if_neg e4,if_neg e4]
 by_cases e5:n.k=5
 · rw [if_pos e5,if_pos e5,yt h]
 rw [if_neg e5,if_neg e5]
 by_cases e6:n.k=6
 ·
  rw [if_pos e6,if_pos e6]
  have hl:=h6 e6
  unfold pd aQ
  simp only
  rw [h _ (bV (i:=0) (by omega)),h _ (bV (i:=1) (by omega))]
  by_cases h2:2 < n.ks.length
  · rw [if_pos h2,if_pos h2,h _ (bV h2)]
  · rw [if_neg h2,if_neg h2]
 rw [if_neg e6,if_neg e6]
 by_cases e7:n.k=7
 ·
  rw [if_pos e7,if_pos e7]
  have hl:=h7 e7
  unfold yu aQ
  rw [h _ (bV (i:=0) (by omega)),h _ (bV (i:=1) (by omega))]
 rw [if_neg e7,if_neg e7]
 by_cases e9:n.k=9
 ·
  rw [if_neg (by omega),if_pos e9,if_neg (by omega),if_pos e9]
  unfold xe
  rw [nh h]
 have hl:=h8 (by omega)
 have h0:=h _ (bV (i:=0) (by omega))
 unfold px xf aQ
 simp only [h0,if_neg e9]
theorem Nq {l:List Nd} (ht:Tr l):∀(k f g:Nat) (s:PS),k < f→k < g→jJ l f k s=jJ l g k s:=by
 intro k
 induction k using Nat.strongRecOn with
 | _ k ih=>
   intro f g s hf hg
   obtain ⟨f,rfl⟩:∃f',f=f'+1:=⟨f - 1,by omega⟩
   obtain ⟨g,rfl⟩:∃g',g=g'+1:=⟨g - 1,by omega⟩
   unfold jJ
   cases hn:l[k]? with
   | none=>rfl
   | some n=>
     obtain ⟨hk,rfl⟩:=List.getElem?_eq_some_iff.1 hn
     have hc:=fun s=>xi (kd:=en l) (ht.fits l[k] (List.getElem_mem hk)) (f:=jJ l f) (g:=jJ l g) (fun j hj s=>ih j (ht.kids k hk j hj) f g s (by have:=ht.kids k hk j hj;omega) (by have:=ht.kids k hk j hj;omega)) s
     simp only
     unfold oc
     rw [hc]
theorem tA {l:List Nd} (ht:Tr l) {k:Nat} {n:Nd} (hn:l[k]? =some n) (s:PS):cL l k s=oc l (cL l) n s:=by
 obtain ⟨hk,rfl⟩:=List.getElem?_eq_some_iff.1 hn
 have hf:=ht.fits l[k] (List.getElem_mem hk)
 unfold cL
 rw [jJ,hn]
 simp only
 rw [if_pos ⟨hf.2.2.2.1.1,hf.2.2.2.2⟩]
 unfold oc
 have hc:=xi (kd:=en l) hf (f:=jJ l k) (g:=fun k s=>jJ l (k+1) k s) (fun j hj s=>Nq ht j _ _ s (ht.kids k hk j hj) (Nat.lt_succ_self _)) s
 rw [hc]
def wF (c:Nd→Nat) (l:List Nd):Nat→Nat→Nat
 | 0,_=>0
 | f+1,k=>match l[k]? with
   | none=>0
   | some n=>c n+(n.ks.map (wF c l f)).sum
def qo (c:Nd→Nat) (l:List Nd) (k:Nat):Nat:=wF c l (k+1) k
theorem ZL {c:Nd→Nat} {l:List Nd} (ht:Tr l):∀(k f g:Nat),k < f→k < g→wF c l f k=wF c l g k:=by
 intro k
 induction k using Nat.strongRecOn with
 | _ k ih=>
   intro f g hf hg
   obtain ⟨f,rfl⟩:∃f',f=f'+1:=⟨f - 1,by omega⟩
   obtain ⟨g,rfl⟩:∃g',g=g'+1:=⟨g - 1,by omega⟩
   unfold wF
   cases hn:l[k]? with
   | none=>rfl
   | some n=>
     obtain ⟨hk,rfl⟩:=List.getElem?_eq_some_iff.1 hn
     simp only
     congr 2
     exact List.map_congr_left fun j hj=>ih j (ht.kids k hk j hj) f g (by have:=ht.kids k hk j hj;omega) (by have:=ht.kids k hk j hj;omega)
theorem Fa {c:Nd→Nat} {l:List Nd} (ht:Tr l) {k:Nat} {n:Nd} (hn:l[k]? =some n):qo c l k=c n+(n.ks.map (qo c l)).sum:=by
 obtain ⟨hk,rfl⟩:=List.getElem?_eq_some_iff.1 hn
 unfold qo
 rw [wF,hn]
 simp only
 congr 2
 exact List.map_congr_left fun j hj=>ZL ht j _ _ (ht.kids k hk j hj) (Nat.lt_succ_self _)
def sumTo (f:Nat→Nat):Nat→Nat
 | 0=>0
 | n+1=>sumTo f n+f n
theorem tH (f g:Nat→Nat):∀n,sumTo (fun i=>f i+g i) n=sumTo f n+sumTo g n
 | 0=>rfl
 | n+1=>by unfold sumTo;rw [tH f g n];omega
theorem jU {f g:Nat→Nat}:∀{n},(∀i,i < n→f i=g i)→sumTo f n=sumTo g n
 | 0,_=>rfl
 | n+1,h=>by unfold sumTo;rw [jU fun i hi=>h i (by omega),h n (by omega)]
theorem Aa (x:Nat) (W:Nat→Nat):∀n,x < n→sumTo (fun j=>(if x=j then 1 else 0) * W j) n=W x
 | 0,h=>absurd h (Nat.not_lt_zero _)
 | n+1,h=>by
   unfold sumTo
   by_cases e:x=n
   ·
    subst e
    rw [if_pos rfl,Nat.one_mul]
    have:sumTo (fun j=>(if x=j then 1 else 0) * W j) x=sumTo (fun _=>0) x:=jU fun i hi=>by rw [if_neg (by omega),Nat.zero_mul]
    rw [this]
    have h0:∀m,sumTo (fun _=>0) m=0:=fun m=>by
     induction m with
     | zero=>rfl
     | succ m ih=>unfold sumTo;rw [ih]
    rw [h0];omega
   · rw [if_neg e,Aa x W n (by omega)];omega
theorem AB (W:Nat→Nat) (n:Nat):∀L:List Nat,(∀x∈L,x < n)→(L.map W).sum=sumTo (fun j=>L.count j * W j) n
 | [],_=>by
   have h0:∀m,sumTo (fun j=>([]:List Nat).count j * W j) m=0:=fun m=>by
    induction m with
    | zero=>rfl
    | succ m ih=>unfold sumTo;rw [ih];simp
   rw [h0];rfl
 | x::L,h=>by
   rw [List.map_cons,List.sum_cons,AB W n L fun y hy=>h y (List.mem_cons_of_mem _ hy)]
   have h1:sumTo (fun j=>(x::L).count j * W j) n=sumTo (fun j=>(if x=j then 1 else 0) * W j+L.count j * W j) n:=jU fun j hj=>by
    rw [List.count_cons,Nat.add_mul,Nat.add_comm]
    congr 1
    by_cases e:x=j<;>simp [e]
   rw [h1,tH,Aa x W n (h x List.mem_cons_self)]
theorem uM (f:Nat→Nat):∀n,sumTo f (n+1)=f 0+sumTo (fun i=>f (i+1)) n
 | 0=>by show 0+f 0=f 0+0;omega
 | n+1=>by
   show sumTo f (n+1)+f (n+1)=f 0+(sumTo (fun i=>f (i+1)) n+f (n+1))
   rw [uM f n];omega
theorem qY (F:Nd→Nat):∀l:List Nd,(l.map F).sum=sumTo (fun i=>((l[i]?).map F).getD 0) l.length
 | []=>rfl
 | x::l=>by
   rw [List.map_cons,List.sum_cons,qY F l,List.length_cons,uM]
   rfl
theorem Dg {c:Nd→Nat} {l:List Nd} (ht:Tr l) (hl:l≠[]):qo c l (l.length - 1)=(l.map c).sum:=by
 have vz:=List.length_pos_iff.2 hl
 obtain ⟨n,hn⟩:∃n,l.length=n+1:=⟨l.length - 1,by omega⟩
 have hW:sumTo (qo c l) (n+1)=sumTo (fun i=>((l[i]?).map c).getD 0+((l[i]?).map fun x=>(x.ks.map (qo c l)).sum).getD 0) (n+1):=jU fun i hi=>by
  have LH:i < l.length:=by omega
  rw [Fa ht (List.getElem?_eq_getElem LH),List.getElem?_eq_getElem LH]
  rfl
 rw [tH] at hW
 have h1:sumTo (fun i=>((l[i]?).map c).getD 0) (n+1)=(l.map c).sum:=by rw [qY,hn]
 have h2:sumTo (fun i=>((l[i]?).map fun x=>(x.ks.map (qo c l)).sum).getD 0) (n+1)=((l.flatMap (·.ks)).map (qo c l)).sum:=by
  have:=qY (fun x=>(x.ks.map (qo c l)).sum) l
  rw [hn] at this
  rw [←this]
  clear this hW h1 hn vz hl ht
  generalize qo c l=W
  induction l with
  | nil=>rfl
  | cons x l ih=>rw [List.map_cons,List.sum_cons,List.flatMap_cons,List.map_append,List.sum_append,ih]
 have h3:((l.flatMap (·.ks)).map (qo c l)).sum=sumTo (fun j=>(l.flatMap (·.ks)).count j * qo c l j) (n+1):=AB _ _ _ fun x hx=>by
  obtain ⟨m,hm,hx⟩:=List.mem_flatMap.1 hx
  obtain ⟨i,hi,rfl⟩:=List.mem_iff_getElem.1 hm
  have:=ht.kids i hi x hx
  omega
 have h4:sumTo (fun j=>(l.flatMap (·.ks)).count j * qo c l j) (n+1)=sumTo (qo c l) n:=by
  show sumTo (fun j=>(l.flatMap (·.ks)).count j * qo c l j) n+(l.flatMap (·.ks)).count n * qo c l n=_
  rw [ht.one n (by omega),if_pos (by omega),Nat.zero_mul,Nat.add_zero]
  exact jU fun j hj=>by rw [ht.one j (by omega),if_neg (by omega),Nat.one_mul]
 rw [h1,h2,h3,h4] at hW
 have h5:sumTo (qo c l) (n+1)=sumTo (qo c l) n+qo c l n:=rfl
 rw [h5] at hW
 have h6:l.length - 1=n:=by omega
 rw [h6]
 omega
end Go.Proofs.YtiklkhbfilbpeaaGreatDoor.Un
