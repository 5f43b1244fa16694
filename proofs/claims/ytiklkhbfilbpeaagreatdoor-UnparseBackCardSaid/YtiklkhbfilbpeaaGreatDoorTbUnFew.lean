import Derived.Test.YtiklkhbfilbpeaaGreatDoorTbLxShort
import Derived.Test.YtiklkhbfilbpeaaGreatDoorTbUnPlain
set_option maxRecDepth 100000
set_option maxHeartbeats 16000000
set_option linter.unusedVariables false
set_option linter.unusedSimpArgs false
namespace Go.Proofs.YtiklkhbfilbpeaaGreatDoor.Lx
theorem qK (f:Tok→Tok):∀(P l:List Tok) (i:Nat),(P++l).modify (P.length+i) f=P++l.modify i f
 | [],l,i=>by rw [List.nil_append,List.nil_append,List.length_nil,Nat.zero_add]
 | t::P,l,i=>by
   rw [List.length_cons,Nat.add_right_comm]
   show t::(P++l).modify (P.length+i) f=t::(P++l.modify i f)
   rw [qK f P l i]
def od:List Nm→Nm
 | []=>[]
 | x::r=>x++10::od r
theorem xa (e more:Nm) (he:(10:UInt8)∉e):∀(xs:List Nm),(∀x∈xs,(10:UInt8)∉x∧x≠e)→gW e (od xs++(e++10::more))=.ok (od xs,more)
 | [],_=>by
   have hc:cD (e++10::more)=(e,more):=by unfold cD;rw [Bw e more he]
   show gW e ([]++(e++10::more))=_
   rw [List.nil_append,wL e _ (by simp),hc,if_pos rfl]
   rfl
 | x::xs,h=>by
   have hx:=h x List.mem_cons_self
   have hc:cD (x++10::(od xs++(e++10::more)))=(x,od xs++(e++10::more)):=by unfold cD;rw [Bw x _ hx.1]
   have e1:od (x::xs)++(e++10::more)=x++10::(od xs++(e++10::more)):=by simp [od]
   rw [e1,wL e _ (by simp),hc,if_neg hx.2,xa e more he xs (fun y hy=>h y (List.mem_cons_of_mem _ hy))]
   simp [od]
end Go.Proofs.YtiklkhbfilbpeaaGreatDoor.Lx
namespace Go.Proofs.YtiklkhbfilbpeaaGreatDoor.Un
open Lx Sy
structure Acc where
 R:PS→PS→Nat→Prop
 p:Nm→Nat
 rc:dZ→Nat
 zero:∀s,R s s 0
 tr:∀{s s' s'' a b},R s s' a→R s' s'' b→R s s'' (a+b)
 put:∀t s,R s (aG t s) (p t)
 ln:∀s,R s (mA s) 1
 rd:∀x s,R s (fX x s) (rc x)
namespace Acc
variable (A:Acc)
def dW (rs:List dZ):Nat:=(rs.map fun x=>A.p [32]+A.rc x).sum
def uX:List dZ→Nat
 | []=>0
 | x::rs=>A.rc x+A.dW rs
def ui (n:Nd):Nat:=A.uX n.rs+(if 0 < n.rs.length∧0 < n.ws.length then A.p [32] else 0)+A.p (Lib.join n.ws [32])
def dr (kd:Nat→Nat) (n:Nd):Nat:=
 if n.k=1 then A.ui n
 else if n.k=2 then (if n.fl then A.p [33,32] else 0)+(n.ks.length - 1) * A.p [32,124,32]
 else if n.k=3 then (n.ks.length - 1) * A.p [32,38,38,32]
 else if n.k=4 then (n.ks.length - 1) * A.p [32,124,124,32]
 else if n.k=5 then n.ks.length
 else if n.k=6 then A.p [105,102]+1+(A.p [116,104,101,110]+1)+(if 2 < n.ks.length then A.p [101,108,115,101]+1+(if kd (kid n 2)=6 then 1 else 0) else 0)+A.p [102,105]
 else if n.k=7 then A.p (if n.fl then [117,110,116,105,108] else [119,104,105,108,101])+1+(A.p [100,111]+1)+A.p [100,111,110,101]
 else if n.k=8 then A.p ([102,111,114,32]++n.t)+(if n.fl then 0 else A.p (Lib.join ([32,105,110]::n.ws) [32]))+1+(A.p [100,111]+1)+A.p [100,111,110,101]
 else if n.k=9 then A.p ([99,97,115,101,32]++n.t++[32,105,110])+1+(n.ks.length - 1) * A.p []+A.p [101,115,97,99]
 else if n.k=10 then A.p ([40]++Lib.join n.ws [124]++[41])+1+A.p [59,59]+1
 else if n.k=11 then A.p [123]+1+A.p [125]
 else if n.k=12 then A.p [40]+1+A.p [41]
 else A.p (n.t++[40,41,32])
def fB (l:List Nd) (n:Nd):Nat:=A.dr (en l) n+(if n.k=1 then 0 else A.dW n.rs)
theorem cast {s s':PS} {a b:Nat} (h:A.R s s' a) (e:a=b):A.R s s' b:=e ▸ h
theorem tail:∀(rs:List dZ) (s:PS),A.R s (iz rs s) (A.dW rs)
 | [],s=>A.zero s
 | x::rs,s=>A.cast (A.tr (A.tr (A.put [32] s) (A.rd x _)) (tail rs _)) (by unfold dW;rw [List.map_cons,List.sum_cons])
theorem Zw (rs:List dZ) (s:PS):A.R s (Ad rs s) (A.uX rs):=by
 cases rs with
 | nil=>exact A.zero s
 | cons x rs=>exact A.tr (A.rd x s) (A.tail rs _)
theorem uQ (n:Nd) (s:PS):A.R s (tK n s) (A.ui n):=by
 unfold tK ui
 refine A.tr (A.tr (A.Zw n.rs s) ?_) (A.put _ _)
 split
 · exact A.put _ _
 · exact A.zero _
variable {f:Nat→PS→PS} {w:Nat→Nat}
theorem rE (sep:Nm):∀{ks:List Nat} (h:∀k∈ks,∀s,A.R s (f k s) (w k)) (s:PS),A.R s (rE sep f ks s) (ks.length * A.p sep+(ks.map w).sum)
 | [],_,s=>A.cast (A.zero s) (by simp)
 | k::ks,h,s=>A.cast (A.tr (A.tr (A.put sep s) (h k List.mem_cons_self _)) (rE sep (fun j hj=>h j (List.mem_cons_of_mem _ hj)) _)) (by
   rw [List.map_cons,List.sum_cons,List.length_cons,Nat.succ_mul];omega)
theorem iD (sep:Nm) {ks:List Nat} (h:∀k∈ks,∀s,A.R s (f k s) (w k)) (s:PS):A.R s (iD sep f ks s) ((ks.length - 1) * A.p sep+(ks.map w).sum):=by
 cases ks with
 | nil=>exact A.cast (A.zero s) (by simp)
 | cons k ks=>
   exact A.cast (A.tr (h k List.mem_cons_self s) (A.rE sep (fun j hj=>h j (List.mem_cons_of_mem _ hj)) _)) (by
    rw [List.map_cons,List.sum_cons,List.length_cons,Nat.add_sub_cancel];omega)
theorem rj:∀{ks:List Nat} (h:∀k∈ks,∀s,A.R s (f k s) (w k)) (s:PS),A.R s (rj f ks s) (ks.length+(ks.map w).sum)
 | [],_,s=>A.cast (A.zero s) (by simp)
 | k::ks,h,s=>A.cast (A.tr (A.tr (h k List.mem_cons_self s) (A.ln _)) (rj (fun j hj=>h j (List.mem_cons_of_mem _ hj)) _)) (by
   rw [List.map_cons,List.sum_cons,List.length_cons];omega)
theorem aQ (t:Nm) {g:PS→PS} {c:Nat} (h:∀s,A.R s (g s) c) (s:PS):A.R s (aQ t g s) (A.p t+1+c):=A.tr (A.tr (A.put t s) (A.ln _)) (h _)
theorem body (kd:Nat→Nat) {n:Nd} (hn:Gy n) (h:∀k∈n.ks,∀s,A.R s (f k s) (w k)) (s:PS):A.R s (cZ kd f n s) (A.dr kd n+(n.ks.map w).sum):=by
 obtain ⟨h6,h7,h8,⟨_,h1⟩,_⟩:=hn
 unfold cZ dr
 by_cases e1:n.k=1
 ·
  rw [if_pos e1,if_pos e1]
  rw [h1 e1]
  exact A.cast (A.uQ n s) (by simp)
 rw [if_neg e1,if_neg e1]
 by_cases e2:n.k=2
 ·
  rw [if_pos e2,if_pos e2]
  refine A.cast (A.tr (s':=if n.fl then aG [33,32] s else s) (a:=if n.fl then A.p [33,32] else 0) ?_ (A.iD _ h _)) (by omega)
  split
  · exact A.put _ _
  · exact A.zero _
 rw [if_neg e2,if_neg e2]
 by_cases e3:n.k=3
 · rw [if_pos e3,if_pos e3];exact A.iD _ h _
 rw [if_neg e3,if_neg e3]
 by_cases e4:n.k=4
 · rw [if_pos e4,if_pos e4];exact A.iD _ h _
 rw [if_neg e4,if_neg e4]
 by_cases e5:n.k=5
 · rw [if_pos e5,if_pos e5];exact A.rj h _
 rw [if_neg e5,if_neg e5]
 by_cases e6:n.k=6
 ·
  rw [if_pos e6,if_pos e6]
  have hl:=h6 e6
  have h0:=h _ (bV (n:=n) (i:=0) (by omega))
  have h1:=h _ (bV (n:=n) (i:=1) (by omega))
  unfold pd
  simp only
  by_cases hc:2 < n.ks.length
  ·
   rw [if_pos hc,if_pos hc]
   have h2:=h _ (bV hc)
   have hs:(n.ks.map w).sum=w (kid n 0)+w (kid n 1)+w (kid n 2):=by
    unfold kid
    match hk:n.ks with
    | [a,b,c]=>simp;omega
    | []=>rw [hk] at hc;simp at hc
    | [_]=>rw [hk] at hc;simp at hc
    | [_,_]=>rw [hk] at hc;simp at hc
    | _::_::_::_::_=>rw [hk] at hl;simp at hl
   rw [hs]
   by_cases hd:kd (kid n 2)=6
   ·
    rw [if_pos hd,if_pos hd]
    exact A.cast (A.tr (A.tr (A.tr (A.tr (A.aQ [105,102] h0 s) (A.aQ [116,104,101,110] h1 _)) (A.aQ [101,108,115,101] h2 _)) (A.ln _)) (A.put _ _)) (by omega)
   ·
    rw [if_neg hd,if_neg hd]
    exact A.cast (A.tr (A.tr (A.tr (A.aQ [105,102] h0 s) (A.aQ [116,104,101,110] h1 _)) (A.aQ [101,108,115,101] h2 _)) (A.put _ _)) (by omega)
  ·
   rw [if_neg hc,if_neg hc]
   have hs:(n.ks.map w).sum=w (kid n 0)+w (kid n 1):=by
    unfold kid
    match hk:n.ks with
    | [a,b]=>simp
    | []=>rw [hk] at hl;simp at hl
    | [_]=>rw [hk] at hl;simp at hl
    | _::_::_::_=>rw [hk] at hc;simp at hc
   rw [hs]
   exact A.cast (A.tr (A.tr (A.aQ [105,102] h0 s) (A.aQ [116,104,101,110] h1 _)) (A.put _ _)) (by omega)
 rw [if_neg e6,if_neg e6]
 by_cases e7:n.k=7
 ·
  rw [if_pos e7,if_pos e7]
  have hl:=h7 e7
  have h0:=h _ (bV (n:=n) (i:=0) (by omega))
  have h1:=h _ (bV (n:=n) (i:=1) (by omega))
  have hs:(n.ks.map w).sum=w (kid n 0)+w (kid n 1):=by
   unfold kid
   match hk:n.ks with
   | [a,b]=>simp
   | []=>rw [hk] at hl;simp at hl
   | [_]=>rw [hk] at hl;simp at hl
   | _::_::_::_=>rw [hk] at hl;simp at hl
  rw [hs]
  unfold yu
  exact A.cast (A.tr (A.tr (A.aQ _ h0 s) (A.aQ _ h1 _)) (A.put _ _)) (by omega)
 rw [if_neg e7,if_neg e7]
 by_cases e9:n.k=9
 ·
  rw [if_neg (by omega),if_pos e9,if_neg (by omega),if_pos e9]
  unfold xe
  exact A.cast (A.tr (A.tr (A.tr (A.put _ _) (A.ln _)) (A.iD _ h _)) (A.put _ _)) (by omega)
 rw [if_neg e9,if_neg e9]
 have hl:=h8 (by omega)
 have h0:=h _ (bV (n:=n) (i:=0) (by omega))
 have hs:(n.ks.map w).sum=w (kid n 0):=by
  unfold kid
  match hk:n.ks with
  | [a]=>simp
  | []=>rw [hk] at hl;simp at hl
  | _::_::_=>rw [hk] at hl;simp at hl
 rw [hs]
 by_cases e8:n.k=8
 ·
  rw [if_pos e8,if_pos e8]
  unfold px
  simp only
  refine A.cast (A.tr (A.tr (A.tr (A.tr (A.put ([102,111,114,32]++n.t) s) (s'':=if n.fl then _ else aG (Lib.join ([32,105,110]::n.ws) [32]) _) (b:=if n.fl then 0 else A.p (Lib.join ([32,105,110]::n.ws) [32])) ?_) (A.ln _)) (A.aQ _ h0 _)) (A.put _ _)) (by omega)
  split
  · exact A.zero _
  · exact A.put _ _
 rw [if_neg e8,if_neg e8]
 by_cases uW:n.k=10
 ·
  rw [if_pos uW,if_pos uW]
  unfold xf
  exact A.cast (A.tr (A.tr (A.aQ _ h0 _) (A.put _ _)) (A.ln _)) (by omega)
 rw [if_neg uW,if_neg uW]
 by_cases e11:n.k=11
 ·
  rw [if_pos e11,if_pos e11]
  exact A.cast (A.tr (A.aQ _ h0 _) (A.put _ _)) (by omega)
 rw [if_neg e11,if_neg e11]
 by_cases zg:n.k=12
 ·
  rw [if_pos zg,if_pos zg]
  exact A.cast (A.tr (A.aQ _ h0 _) (A.put _ _)) (by omega)
 rw [if_neg zg,if_neg zg]
 exact A.tr (A.put _ _) (h0 _)
theorem cL {l:List Nd} (ht:Tr l):∀(k:Nat),k < l.length→∀s,A.R s (cL l k s) (qo (A.fB l) l k):=by
 intro k
 induction k using Nat.strongRecOn with
 | _ k ih=>
   intro hk s
   have hn:=List.getElem?_eq_getElem hk
   rw [tA ht hn,Fa ht hn]
   have hb:=fun s=>A.body (en l) (ht.fits _ (List.getElem_mem hk)) (f:=Un.cL l) (w:=qo (A.fB l) l) (fun j hj s=>ih j (ht.kids k hk j hj) (by have:=ht.kids k hk j hj;omega) s) s
   have hc:A.fB l l[k]=A.dr (en l) l[k]+(if l[k].k=1 then 0 else A.dW l[k].rs):=rfl
   rw [hc]
   unfold oc
   by_cases e1:l[k].k=1
   · rw [if_pos e1,if_pos e1];exact A.cast (hb s) (by omega)
   · rw [if_neg e1,if_neg e1];exact A.cast (A.tr (hb s) (A.tail _ _)) (by omega)
theorem whole {l:List Nd} (ht:Tr l) (hl:l≠[]) (s:PS):A.R s (Un.cL l (l.length - 1) s) ((l.map (A.fB l)).sum):=by
 have:=A.cL ht (l.length - 1) (by have:=List.length_pos_iff.2 hl;omega) s
 rw [Dg ht hl] at this
 exact this
end Acc
def aT (s:PS):Nat:=s.1.length+s.2.length
def gV (x:dZ):Nat:=(Lib.itoa (x.fd:Int)).length+x.o.length+2 * x.w.length+x.b.length+1
def bN:Acc where
 R s s' c:=aT s'≤aT s+c
 p t:=t.length
 rc:=gV
 zero s:=Nat.le_refl _
 tr h1 h2:=by omega
 put t s:=by show (s.1++t).length+s.2.length≤_;rw [List.length_append];show _≤(s.1.length+s.2.length)+_;omega
 ln s:=by show (s.1++10::s.2).length+0≤(s.1.length+s.2.length)+1;rw [List.length_append,List.length_cons];omega
 rd x s:=by
  have hb:(Lx.bare x.w).length≤x.w.length:=List.length_filter_le _ _
  show (s.1++(Lib.itoa (x.fd:Int)++(x.o++x.w))).length+(if x.o=[60,60] then s.2++(x.b++(Lx.bare x.w++[10])) else s.2).length≤(s.1.length+s.2.length)+gV x
  unfold gV
  split
  · simp only [List.length_append,List.length_cons,List.length_nil];omega
  · simp only [List.length_append];omega
end Go.Proofs.YtiklkhbfilbpeaaGreatDoor.Un
