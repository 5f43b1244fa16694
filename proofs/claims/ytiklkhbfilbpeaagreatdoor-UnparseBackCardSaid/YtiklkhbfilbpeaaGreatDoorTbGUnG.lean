import Derived.Test.YtiklkhbfilbpeaaGreatDoorTbGUnF
import Derived.Test.YtiklkhbfilbpeaaGreatDoorTbGSyA
set_option maxRecDepth 100000
set_option maxHeartbeats 16000000
set_option linter.unusedVariables false
set_option linter.unusedSimpArgs false
namespace Go.Proofs.YtiklkhbfilbpeaaGreatDoor.Un
open Lx Sy
def Lb.isCmd:Lb→Bool
 | .pipe _=>false
 | .qz=>false
 | .EW=>false
 | .seq=>false
 | .item _=>false
 | _=>true
def Lb.aL:Lb→Bool
 | .asks _=>true
 | .loop _ _=>true
 | .each _ _ _=>true
 | .cases _ _=>true
 | .group _=>true
 | .sub _=>true
 | _=>false
def Lb.isNest:Lb→Bool
 | .func _=>true
 | x=>x.aL
def Lb.isPip:Lb→Bool
 | .pipe _=>true
 | x=>x.isCmd
def Lb.isAo:Lb→Bool
 | .qz=>true
 | .EW=>true
 | x=>x.isPip
structure O7 (ws:List Nm) (rs:List dZ):Prop where
 any:ws≠[]∨rs≠[]
 wg:∀w∈ws,WG w
 rg:∀x∈rs,RG x
 head:rs=[]→∀w,ws.head? =Option.some w→mr.contains w=false
def o8 (rs:List dZ):Prop:=∀x∈rs,RG x
def KZ:Lb→F→Prop
 | .uQ ws rs,k=>k=.nil∧O7 ws rs
 | .pipe fl,k=>(∀x∈k.aJ,x.isCmd=true)∧(2≤k.aJ.length∨(k.aJ.length=1∧fl=true))
 | .qz,k=>∃x kx y ky,k=.cons x kx (.cons y ky .nil)∧x.isAo=true∧y.isPip=true
 | .EW,k=>∃x kx y ky,k=.cons x kx (.cons y ky .nil)∧x.isAo=true∧y.isPip=true
 | .seq,k=>∀x∈k.aJ,x.isAo=true
 | .asks rs,k=>o8 rs∧∃kc kb r,k=.cons .seq kc (.cons .seq kb r)∧kc≠.nil∧kb≠.nil∧(r=.nil∨(∃ke,r=.cons .seq ke .nil∧ke≠.nil)∨∃ke,r=.cons (.asks []) ke .nil)
 | .loop fl rs,k=>o8 rs∧∃kc kb,k=.cons .seq kc (.cons .seq kb .nil)∧kc≠.nil∧kb≠.nil
 | .each t ws rs,k=>o8 rs∧eG t=true∧(∀l,ws=some l→∀w∈l,WG w)∧∃kb,k=.cons .seq kb .nil∧kb≠.nil
 | .cases t rs,k=>o8 rs∧WG t∧∀x∈k.aJ,∃ws,x=.item ws
 | .item ws,k=>(∀w∈ws,WG w)∧ws≠[]∧∃kb,k=.cons .seq kb .nil
 | .group rs,k=>o8 rs∧∃kb,k=.cons .seq kb .nil∧kb≠.nil
 | .sub rs,k=>o8 rs∧∃kb,k=.cons .seq kb .nil∧kb≠.nil
 | .func t,k=>eG t=true∧mr.contains t=false∧∃x kx,k=.cons x kx .nil∧x.aL=true
def F.wf:F→Prop
 | .nil=>True
 | .cons x k r=>KZ x k∧k.wf∧r.wf
def F.plain:F→Prop
 | .nil=>True
 | .cons x k r=>(∀rs rs',x=.asks rs→k.aJ[2]?≠some (.asks rs'))∧k.plain∧r.plain
def F.dep:F→Nat
 | .nil=>0
 | .cons x k r=>max ((if x.isNest then 1 else 0)+k.dep) r.dep
def jd {α:Type} (d n:Nat) (a:α) (s:S):P α:=if d≤n then .ok (a,s) else .error (21,0)
theorem oY {α:Type} (n:Nat) (a:α) (s:S):jd 0 n a s=.ok (a,s):=if_pos (Nat.zero_le n)
theorem pj {α β:Type} {d1 d2 n:Nat} {a:α} {s:S} {f:α→S→P β} {b:β} {t:S} (h:f a s=jd d2 n b t):bd (jd d1 n a s) f=jd (max d1 d2) n b t:=by
 unfold jd at h ⊢
 by_cases h1:d1≤n
 ·
  rw [if_pos h1,bJ,h]
  by_cases h2:d2≤n
  · rw [if_pos h2,if_pos (by omega)]
  · rw [if_neg h2,if_neg (by omega)]
 · rw [if_neg h1,GI,if_neg (by omega)]
theorem dE {α β:Type} {d n:Nat} {a:α} {s:S} {f:α→S→P β} {b:β} {t:S} (h:f a s=.ok (b,t)):bd (jd d n a s) f=jd d n b t:=by
 have:=pj (d1:=d) (d2:=0) (n:=n) (a:=a) (s:=s) (f:=f) (b:=b) (t:=t) (by rw [oY];exact h)
 rw [this]
 congr 1
 omega
theorem EN {α:Type} (d n:Nat) (a:α) (s:S):jd (1+d) (n+1) a s=jd d n a s:=by
 unfold jd
 by_cases h:d≤n
 · rw [if_pos h,if_pos (by omega)]
 · rw [if_neg h,if_neg (by omega)]
theorem bp (a b:List Ac):aX (a++b)=aX a++aX b:=List.flatMap_append
theorem tok_nil:aX []=[]:=rfl
theorem aC (x:Ac) (a:List Ac):aX (x::a)=xX x++aX a:=List.flatMap_cons
abbrev W1 (w:Nm):Tok:=⟨1,w,[],0⟩
abbrev O2 (o:Nm):Tok:=⟨2,o,[],0⟩
abbrev L3:Tok:=⟨3,[],[],0⟩
def NS (R:List Tok):Prop:=∃R',R=L3::R'
def ju (R:List Tok):Prop:=∃t R',R=t::R'∧(t=L3∨t=O2 [38,38]∨t=O2 [124,124])
def fQ (R:List Tok):Prop:=∃t R',R=t::R'∧(t=L3∨t=O2 [38,38]∨t=O2 [124,124]∨t=O2 [124])
theorem NS.pip {R:List Tok} (h:NS R):ju R:=by obtain ⟨R',rfl⟩:=h;exact ⟨_,_,rfl,.inl rfl⟩
theorem ju.cmd {R:List Tok} (h:ju R):fQ R:=by
 obtain ⟨t,R',rfl,h⟩:=h
 exact ⟨t,R',rfl,by rcases h with h | h | h;exact .inl h;exact .inr (.inl h);exact .inr (.inr (.inl h))⟩
theorem Ig {R:List Tok} (h:fQ R) (ns:List Nd):aF (ns,R)=false∧(nx (ns,R)).k≠1∧(nx (ns,R)).ln=0:=by
 obtain ⟨t,R',rfl,h⟩:=h
 rcases h with rfl | rfl | rfl | rfl<;>(refine ⟨rfl,fun e=>?_,rfl⟩;cases e)
abbrev nc (x:dZ):List Tok:=[⟨5,Lib.itoa (x.fd:Int),[],0⟩,⟨2,x.o,[],0⟩,⟨1,x.w,x.b,0⟩]
theorem jE:∀rs:List dZ,aX (bU rs)=rs.flatMap nc
 | []=>rfl
 | x::rs=>by
   show aX (.sp::.rd x::bU rs)=_
   rw [aC,aC,jE rs,List.flatMap_cons]
   rfl
theorem Ok (rs:List dZ):aX (zy rs)=rs.flatMap nc:=by
 cases rs with
 | nil=>rfl
 | cons x rs=>
   show aX (.rd x::bU rs)=_
   rw [aC,jE,List.flatMap_cons]
   rfl
theorem BB:∀ws:List Nm,aX (lg [.sp] ws)=ws.map W1
 | []=>rfl
 | w::ws=>by
   show aX (.sp::.wd w::lg [.sp] ws)=_
   rw [aC,aC,BB ws]
   rfl
theorem Pj (ws:List Nm):aX (oW [.sp] ws)=ws.map W1:=by
 cases ws with
 | nil=>rfl
 | cons w ws=>
   show aX (.wd w::lg [.sp] ws)=_
   rw [aC,BB]
   rfl
theorem zV {x:dZ} (h:RG x) (ns:List Nd) (R:List Tok):cF (ns,nc x++R)=.ok (x,(ns,R)):=by
 have hn:=(BL x.fd h.fd).2.2.2.2
 show Except.ok ((⟨min (num (Lib.itoa (x.fd:Int))) 99,x.o,x.w,x.b⟩:dZ),(ns,R))=_
 rw [hn,Nat.min_eq_left h.fd]
theorem Ix (x:dZ) (ns:List Nd) (R:List Tok):aF (ns,nc x++R)=true:=rfl
theorem zA {R:List Tok} (hR:fQ R) (ns:List Nd):∀(rs acc:List dZ),o8 rs→aB aF KB acc (ns,rs.flatMap nc++R)=.ok (acc++rs,(ns,R))
 | [],acc,_=>by
   rw [bF iF kP]
   show (if aF (ns,R)=true then _ else _)=_
   rw [(Ig hR ns).1,List.append_nil]
   rfl
 | x::rs,acc,h=>by
   rw [bF iF kP,List.flatMap_cons,List.append_assoc,if_pos (Ix x ns _)]
   show bd (bd (cF (ns,nc x++(rs.flatMap nc++R))) fun y s=>.ok (acc++[y],s)) _=_
   rw [zV (h x List.mem_cons_self),bJ,bJ,zA hR ns rs _ fun y hy=>h y (List.mem_cons_of_mem _ hy)]
   simp
theorem Ff {R:List Tok} (hR:fQ R) (ns:List Nd) {rs:List dZ} (h:o8 rs):eA (ns,rs.flatMap nc++R)=.ok (rs,(ns,R)):=zA hR ns rs [] h
theorem DC {R:List Tok} (ns:List Nd):∀(rs:List dZ) (n:Nd),o8 rs→aB gA gX n (ns,rs.flatMap nc++R)=aB gA gX { n with rs:=n.rs++rs } (ns,R)
 | [],n,_=>by rw [List.append_nil];rfl
 | x::rs,n,h=>by
   rw [bF ix nJ,List.flatMap_cons,List.append_assoc,if_pos (by rfl)]
   show bd (if aF (ns,nc x++(rs.flatMap nc++R)) then bd (cF (ns,nc x++(rs.flatMap nc++R))) fun y s=>.ok ({ n with rs:=n.rs++[y] },s) else _) _=_
   rw [if_pos (Ix x ns _),zV (h x List.mem_cons_self),bJ,bJ,DC ns rs _ fun y hy=>h y (List.mem_cons_of_mem _ hy)]
   simp
theorem Ab {R:List Tok} (ns:List Nd):∀(ws:List Nm) (n:Nd),aB gA gX n (ns,ws.map W1++R)=aB gA gX (ws.foldl fk n) (ns,R)
 | [],n=>rfl
 | w::ws,n=>by
   rw [bF ix nJ,List.map_cons,List.cons_append,if_pos (by rfl)]
   show bd (.ok (fk n w,(ns,ws.map W1++R))) _=_
   rw [bJ,Ab ns ws]
   rfl
theorem Bj:∀(ws:List Nm) (n:Nd),(ws.foldl fk n).ws=n.ws++ws∧(ws.foldl fk n).rs=n.rs∧(ws.foldl fk n).k=n.k∧(ws.foldl fk n).t=n.t∧(ws.foldl fk n).fl=n.fl∧(ws.foldl fk n).ks=n.ks∧(ws.foldl fk n).ln=n.ln
 | [],n=>⟨(List.append_nil _).symm,rfl,rfl,rfl,rfl,rfl,rfl⟩
 | w::ws,n=>by
   obtain ⟨h1,h2,h3,h4,h5,h6,h7⟩:=Bj ws (fk n w)
   refine ⟨?_,h2,h3,h4,h5,h6,h7⟩
   show (ws.foldl fk (fk n w)).ws=_
   rw [h1]
   show (n.ws++[w])++ws=_
   simp
theorem I3:∀(ws:List Nm) (n m:Nd),n.st=m.st→n.ws=m.ws→(ws.foldl fk n).st=(ws.foldl fk m).st
 | [],n,m,h,_=>h
 | w::ws,n,m,h1,h2=>I3 ws (fk n w) (fk m w) (by unfold fk;simp only;rw [h1,h2]) (by unfold fk;simp only;rw [h2])
theorem NT {a b:Nd} (h1:a.k=b.k) (h2:a.t=b.t) (h3:a.fl=b.fl) (h4:a.ws=b.ws) (h5:a.st=b.st) (h6:a.rs=b.rs) (h7:a.ks=b.ks) (h8:a.ln=b.ln):a=b:=by
 cases a;cases b;simp_all
theorem Rb {R:List Tok} (hR:fQ R) (ns:List Nd) {ws:List Nm} {rs:List dZ} (h:O7 ws rs) (hl:(nx (ns,rs.flatMap nc++(ws.map W1++R))).ln=0):cG (ns,rs.flatMap nc++(ws.map W1++R))=.ok (ns.length,(ns++[nd (.uQ ws rs) []],R)):=by
 unfold cG
 rw [hl]
 show bd (aB gA gX _ _) bC=_
 rw [DC ns rs _ h.rg,Ab,bF ix nJ]
 obtain ⟨h1,h2,_⟩:=Ig hR ns
 have hs:gA (ns,R)=false:=by
  show (aF (ns,R) || decide ((nx (ns,R)).k=1))=false
  rw [h1,decide_eq_false h2];rfl
 rw [hs,if_neg (by decide),bJ]
 unfold bC
 obtain ⟨f1,f2,f3,f4,f5,f6,f7⟩:=Bj ws ({ k:=1,rs:=[]++rs,ln:=0 }:Nd)
 have e:ws.foldl fk ({ k:=1,rs:=[]++rs,ln:=0 }:Nd)=nd (.uQ ws rs) []:=NT f3 f4 f5 (by rw [f1];rfl) (I3 ws _ _ rfl rfl) (by rw [f2];rfl) f6 f7
 show Except.ok (ns.length,(ns++[ws.foldl fk ({ k:=1,rs:=[]++rs,ln:=0 }:Nd)],R))=_
 rw [e]
theorem Jt:∀c:UInt8,(Ee (c.toNat:Int)=true∨En (c.toNat:Int)=true)→jm c=true∧c≠35:=by
 have h:∀n:Fin 256,(Ee ((UInt8.ofNat n.val).toNat:Int)=true∨En ((UInt8.ofNat n.val).toNat:Int)=true)→jm (UInt8.ofNat n.val)=true∧UInt8.ofNat n.val≠35:=by decide+kernel
 intro c hc
 have:=h ⟨c.toNat,c.toNat_lt⟩
 simp only [UInt8.ofNat_toNat] at this
 exact this hc
theorem Dn {t:Nm} (h:eG t=true):Q6 t:=by
 unfold eG at h
 rw [Bool.and_eq_true] at h
 obtain ⟨h1,h2⟩:=h
 have hne:t≠[]:=by
  intro e
  rw [e] at h2
  cases h2
 have hb:∀c∈t,jm c=true∧c≠35:=fun c hc=>by
  obtain ⟨i,hi,rfl⟩:=List.mem_iff_getElem.1 hc
  unfold mb at h1
  rw [List.all_eq_true] at h1
  have h3:=h1 i (List.mem_range.2 hi)
  unfold wN at h3
  rw [Jm hi,Bool.or_eq_true,Bool.and_eq_true] at h3
  exact Jt _ (h3.imp id And.right)
 refine ⟨hne,List.all_eq_true.2 fun c hc=>(hb c hc).1,fun e=>?_⟩
 cases t with
 | nil=>exact hne rfl
 | cons c r=>
   injection e with e
   exact (hb c List.mem_cons_self).2 e
def cY (x:Lb) (k:F):List Tok:=aX (aD x k.aJ k.acts)
def F.tops:F→List (Lb × F)
 | .nil=>[]
 | .cons x k r=>(x,k)::r.tops
theorem I8 (ws:List Nm) (rs:List dZ) (k:F):cY (.uQ ws rs) k=rs.flatMap nc++ws.map W1:=by
 show aX (zy rs++(_++oW [.sp] ws))=_
 rw [bp,bp,Ok,Pj]
 split<;>rfl
structure Head (x:Lb) (k:F):Prop where
 ao:x.isAo=true→∃t ts,cY x k=t::ts∧t.ln=0∧begins ([],[t])=true
 cmd:x.isCmd=true→∃t ts,cY x k=t::ts∧t.ln=0∧begins ([],[t])=true∧aV 1 [[33]] ([],[t])=false
theorem lW {x:Lb} {k:F} (h:∃t ts,cY x k=t::ts∧t.ln=0∧begins ([],[t])=true∧aV 1 [[33]] ([],[t])=false):Head x k:=⟨fun _=>by obtain ⟨t,ts,h1,h2,h3,_⟩:=h;exact ⟨t,ts,h1,h2,h3⟩,fun _=>h⟩
theorem xB {w:Nm} (h:mr.contains w=false):begins ([],[W1 w])=true∧aV 1 [[33]] ([],[W1 w])=false:=by
 constructor
 ·
  show (if (1:Nat)=1 then (!mr.contains w || _) else _)=true
  rw [if_pos rfl,h];rfl
 ·
  show (decide ((1:Nat)=1) && ([[33]]:List Nm).contains w)=false
  have:([[33]]:List Nm).contains w=false:=by
   rw [←Bool.not_eq_true]
   intro hc
   have h1:w=[33]:=by simpa using hc
   rw [h1] at h
   revert h
   decide
  rw [this];rfl
theorem heads:∀f:F,f.wf→∀x k,(x,k)∈f.tops→Head x k
 | .nil,_,x,k,h=>absurd h List.not_mem_nil
 | .cons y ky r,hw,x,k,h=>by
   obtain ⟨ho,hk,hr⟩:=hw
   rcases List.mem_cons.1 h with e | h
   ·
    injection e with e1 e2
    subst e1 e2
    have ih:=heads k hk
    cases x with
    | uQ ws rs=>
      obtain ⟨rfl,hs⟩:=ho
      refine lW ?_
      rw [I8]
      cases rs with
      | cons r rs=>exact ⟨_,_,rfl,rfl,rfl,rfl⟩
      | nil=>
        cases ws with
        | nil=>exact absurd rfl (hs.any.elim id (fun h=>absurd rfl h))
        | cons w ws=>
          obtain ⟨h1,h2⟩:=xB (hs.head rfl w rfl)
          exact ⟨_,_,rfl,rfl,h1,h2⟩
    | pipe fl=>
      refine ⟨fun _=>?_,fun h=>by cases h⟩
      cases fl with
      | true=>exact ⟨_,_,rfl,rfl,rfl⟩
      | false=>
        cases k with
        | nil=>rcases ho.2 with h | ⟨h,_⟩<;>exact absurd h (by decide)
        | cons z kz rz=>
          obtain ⟨t,ts,h1,h2,h3,_⟩:=(ih z kz List.mem_cons_self).cmd (ho.1 z List.mem_cons_self)
          refine ⟨t,ts++aX (rz.acts.flatMap fun a=>[.sp,.op [124],.sp]++a),?_,h2,h3⟩
          show aX ([]++(aD z kz.aJ kz.acts++rz.acts.flatMap fun a=>[.sp,.op [124],.sp]++a))=_
          rw [List.nil_append,bp]
          show cY z kz++_=_
          rw [h1];rfl
    | qz=>
      refine ⟨fun _=>?_,fun h=>by cases h⟩
      obtain ⟨z,kz,v,kv,rfl,ha,_⟩:=ho
      obtain ⟨t,ts,h1,h2,h3⟩:=(ih z kz List.mem_cons_self).ao ha
      refine ⟨t,ts++aX ([aD v kv.aJ kv.acts].flatMap fun a=>[.sp,.op [38,38],.sp]++a),?_,h2,h3⟩
      show aX (aD z kz.aJ kz.acts++[aD v kv.aJ kv.acts].flatMap fun a=>[.sp,.op [38,38],.sp]++a)=_
      rw [bp]
      show cY z kz++_=_
      rw [h1];rfl
    | EW=>
      refine ⟨fun _=>?_,fun h=>by cases h⟩
      obtain ⟨z,kz,v,kv,rfl,ha,_⟩:=ho
      obtain ⟨t,ts,h1,h2,h3⟩:=(ih z kz List.mem_cons_self).ao ha
      refine ⟨t,ts++aX ([aD v kv.aJ kv.acts].flatMap fun a=>[.sp,.op [124,124],.sp]++a),?_,h2,h3⟩
      show aX (aD z kz.aJ kz.acts++[aD v kv.aJ kv.acts].flatMap fun a=>[.sp,.op [124,124],.sp]++a)=_
      rw [bp]
      show cY z kz++_=_
      rw [h1];rfl
    | seq=>exact ⟨fun h=>(by cases h),fun h=>(by cases h)⟩
    | asks rs=>exact lW ⟨_,_,rfl,rfl,rfl,rfl⟩
    | loop fl rs=>cases fl<;>exact lW ⟨_,_,rfl,rfl,rfl,rfl⟩
    | each t ws rs=>exact lW ⟨_,_,rfl,rfl,rfl,rfl⟩
    | cases t rs=>exact lW ⟨_,_,rfl,rfl,rfl,rfl⟩
    | item ws=>exact ⟨fun h=>(by cases h),fun h=>(by cases h)⟩
    | group rs=>exact lW ⟨_,_,rfl,rfl,rfl,rfl⟩
    | sub rs=>exact lW ⟨_,_,rfl,rfl,rfl,rfl⟩
    | func t=>
      obtain ⟨h1,h2⟩:=xB ho.2.1
      exact lW ⟨_,_,rfl,rfl,h1,h2⟩
   · exact heads r hr x k h
def st (ns:List Nd) (f:F):List Nd:=ns++f.flat ns.length
theorem kU (ns:List Nd) (f:F):(st ns f).length=ns.length+f.len:=by unfold st;rw [List.length_append,F.eh]
theorem pB (ns:List Nd) (f g:F):st (st ns f) g=st ns (f.app g):=by
 show (ns++f.flat ns.length)++g.flat (st ns f).length=ns++(f.app g).flat ns.length
 rw [kU,F.ye,List.append_assoc]
def one (x:Lb) (k:F):F:=.cons x k .nil
theorem one_len (x:Lb) (k:F):(one x k).len=k.len+1:=rfl
theorem nG (ns:List Nd) (x:Lb) (k:F) (R:List Tok):bC (nd x (k.roots ns.length)) (st ns k,R)=.ok (ns.length+k.len,(st ns (one x k),R)):=by
 unfold bC
 rw [kU]
 show Except.ok (ns.length+k.len,((ns++k.flat ns.length)++[nd x (k.roots ns.length)],R))=Except.ok (ns.length+k.len,(ns++(k.flat ns.length++[nd x (k.roots ns.length)]),R))
 rw [List.append_assoc]
def Term (R:List Tok):Prop:=∃t R',R=t::R'∧t.k≠3∧begins ([],[t])=false∧t.ln=0
def dq (x:Lb) (k:F):Nat:=(if x.isNest then 1 else 0)+k.dep
abbrev aoB:S→Bool:=aV 2 [[38,38],[124,124]]
structure Claim (x:Lb) (k:F):Prop where
 nest:x.isNest=true→∀n ns R,fQ R→nestD n (ns,cY x k++R)=jd (1+k.dep) n (ns.length+k.len) (st ns (one x k),R)
 cmd:x.isCmd=true→∀n ns R,fQ R→gm (nestD n) (ns,cY x k++R)=jd (dq x k) n (ns.length+k.len) (st ns (one x k),R)
 pip:x.isPip=true→∀n ns R,ju R→dt (nestD n) (ns,cY x k++R)=jd (dq x k) n (ns.length+k.len) (st ns (one x k),R)
 ao:x.isAo=true→∀n ns R,ju R→cx (nestD n) (ns,cY x k++R)=bd (jd (dq x k) n (ns.length+k.len) (st ns (one x k),R)) (aB aoB (yQ (nestD n) 0))
 list:x=.seq→∀n ns R em pre,Term R→(pre=[]∨pre=[L3])→(em=false→k≠.nil)→aO (nestD n) em (ns,pre++(cY x k++R))=jd k.dep n (ns.length+k.len) (st ns (one x k),R)
 item:∀ws,x=.item ws→∀n ns R,cA (nestD n) (ns,cY x k++R)=jd k.dep n (ns.length+k.len) (st ns (one x k),O2 [59,59]::L3::R)
theorem Sj {R:List Tok} (h:NS R) (n:Nat) (k:Nat) (ns:List Nd):aB aoB (yQ (nestD n) 0) k (ns,R)=.ok (k,(ns,R)):=by
 obtain ⟨R',rfl⟩:=h
 rw [bF (mY (dh n) 0) (fun s h=>tP h (by decide))]
 rfl
theorem Ea {R:List Tok} (h:ju R) (n:Nat) (l:List Nat) (ns:List Nd):aB (aV 2 [[124]]) (ou (nestD n)) l (ns,R)=.ok (l,(ns,R)):=by
 obtain ⟨t,R',rfl,h⟩:=h
 rw [bF (mS (dh n)) (fun s h=>tP h (by decide))]
 rcases h with rfl | rfl | rfl<;>rfl
theorem lQ {t:Tok} (l:List Tok) (h:t.k≠3):dJ (t::l)=t::l:=by unfold dJ;rw [if_neg h]
theorem sV {t:Tok} (h:begins ([],[t])=true):t.k≠3:=fun e=>by
 have h2:begins ([],[t])=false:=by
  show (if t.k=1 then _ else if t.k=2 then _ else decide (t.k=5))=false
  rw [e];rfl
 rw [h2] at h;cases h
theorem wG {x:Lb} {k:F} (hx:x.isCmd=true) (hh:Head x k) (hc:∀n ns R,fQ R→gm (nestD n) (ns,cY x k++R)=jd (dq x k) n (ns.length+k.len) (st ns (one x k),R)):∀n ns R,ju R→dt (nestD n) (ns,cY x k++R)=jd (dq x k) n (ns.length+k.len) (st ns (one x k),R):=by
 intro n ns R hR
 obtain ⟨t,ts,h1,h2,h3,h4⟩:=hh.cmd hx
 have ot:aV 1 [[33]] (ns,cY x k++R)=false:=by rw [h1];exact h4
 unfold dt
 simp only
 rw [ot]
 simp only [Bool.false_eq_true,if_false]
 rw [hc n ns R hR.cmd]
 refine dE ?_
 show bd (aB (aV 2 [[124]]) (ou (nestD n)) [ns.length+k.len] (st ns (one x k),R)) _=_
 rw [Ea hR]
 rfl
theorem Az {x:Lb} {k:F} (hx:x.isPip=true) (hh:Head x k) (hc:∀n ns R,ju R→dt (nestD n) (ns,cY x k++R)=jd (dq x k) n (ns.length+k.len) (st ns (one x k),R)):∀n ns R,ju R→cx (nestD n) (ns,cY x k++R)=bd (jd (dq x k) n (ns.length+k.len) (st ns (one x k),R)) (aB aoB (yQ (nestD n) 0)):=by
 intro n ns R hR
 have ha:x.isAo=true:=by cases x<;>first | rfl | exact hx
 obtain ⟨t,ts,h1,h2,h3⟩:=hh.ao ha
 have vk:(nx (ns,cY x k++R)).ln=0:=by rw [h1];exact h2
 unfold cx
 rw [hc n ns R hR,vk]
theorem Al {α β γ:Type} {d1 d2 n:Nat} {a:α} {s:S} {f:α→S→P γ} {b:β} {t:S} {g:β→S→P γ} (h:f a s=bd (jd d2 n b t) g):bd (jd d1 n a s) f=bd (jd (max d1 d2) n b t) g:=by
 unfold jd at h ⊢
 by_cases h1:d1≤n
 ·
  rw [if_pos h1,bJ,h]
  by_cases h2:d2≤n
  · rw [if_pos h2,if_pos (by omega)]
  · rw [if_neg h2,if_neg (by omega)]
 · rw [if_neg h1,GI,if_neg (by omega),GI]
theorem ym {α:Type} {d d' n:Nat} {a a':α} {s s':S} (h:d=d') (ha:a=a') (hs:s=s'):jd d n a s=jd d' n a' s':=by subst h ha hs;rfl
theorem fP {t:Tok} (ns:List Nd) (l:List Tok) (h:t.k≠4):tk (ns,t::l)=(ns,l):=by
 unfold tk
 rw [show (nx (ns,t::l)).k=t.k from rfl,if_neg h]
 rfl
theorem wW {t:Tok} (ns:List Nd) (l:List Tok) (h:t.k≠4):bj (tk (ns,t::l))=(ns,dJ l):=by rw [fP ns l h];rfl
theorem Je (x:Lb) (k r:F):aX (gH (F.cons x k r).acts)=cY x k++L3::aX (gH r.acts):=by
 show aX ((aD x k.aJ k.acts++[.nl])++gH r.acts)=_
 rw [bp,bp,List.append_assoc]
 rfl
theorem Dh:∀(r:F) (R:List Tok),(∀p∈r.tops,Head p.1 p.2)→(∀x∈r.aJ,x.isAo=true)→Term R→∃t ts,aX (gH r.acts)++R=t::ts∧t.k≠3∧t.ln=0∧(begins ([],[t])=true∨r=.nil)
 | .nil,R,_,_,hR=>by
   obtain ⟨t,R',rfl,h1,_,h2⟩:=hR
   exact ⟨t,R',rfl,h1,h2,.inr rfl⟩
 | .cons x k r,R,hh,ha,_=>by
   obtain ⟨t,ts,h1,h2,h3⟩:=(hh (x,k) List.mem_cons_self).ao (ha x List.mem_cons_self)
   rw [Je,h1]
   exact ⟨t,_,rfl,sV h3,h2,.inl h3⟩
theorem CL (n:Nat):∀(r:F),(∀p∈r.tops,Claim p.1 p.2)→(∀p∈r.tops,Head p.1 p.2)→(∀x∈r.aJ,x.isAo=true)→∀(ns:List Nd) (R:List Tok) (acc:List Nat),Term R→
 runM (nestD n) acc (ns,aX (gH r.acts)++R)=jd r.dep n (acc++r.roots ns.length) (st ns r,R)
 | .nil,_,_,_,ns,R,acc,hR=>by
   obtain ⟨t,R',rfl,h1,h2,_⟩:=hR
   rw [run_eq (dh n)]
   have hb:begins (ns,aX (gH F.nil.acts)++t::R')=false:=h2
   rw [hb,if_neg (by decide)]
   show _=jd 0 n (acc++[]) (ns++[],t::R')
   rw [oY,List.append_nil,List.append_nil]
   rfl
 | .cons x k r,hc,hh,ha,ns,R,acc,hR=>by
   have MF:=hc (x,k) List.mem_cons_self
   have SU:=ha x List.mem_cons_self
   obtain ⟨t,ts,h1,h2,h3⟩:=(hh (x,k) List.mem_cons_self).ao SU
   have ih:=CL n r (fun p hp=>hc p (List.mem_cons_of_mem _ hp)) (fun p hp=>hh p (List.mem_cons_of_mem _ hp)) (fun y hy=>ha y (List.mem_cons_of_mem _ hy))
   obtain ⟨u,us,e1,e2,_,_⟩:=Dh r R (fun p hp=>hh p (List.mem_cons_of_mem _ hp)) (fun y hy=>ha y (List.mem_cons_of_mem _ hy)) hR
   rw [Je,List.append_assoc,List.cons_append]
   have hb:begins (ns,cY x k++L3::(aX (gH r.acts)++R))=true:=by rw [h1];exact h3
   have hao:cx (nestD n) (ns,cY x k++L3::(aX (gH r.acts)++R))=jd (dq x k) n (ns.length+k.len) (st ns (one x k),L3::(aX (gH r.acts)++R)):=by
    rw [MF.ao SU n ns _ ⟨_,_,rfl,.inl rfl⟩]
    exact dE (Sj ⟨_,rfl⟩ n _ _)
   rw [run_eq (dh n),hb,if_pos rfl,hao]
   refine pj ?_
   rw [if_neg (by intro h;exact h.2 rfl)]
   show runM (nestD n) (acc++[ns.length+k.len]) (st ns (one x k),dJ (aX (gH r.acts)++R))=_
   rw [e1,lQ us e2,←e1,ih _ R _ hR]
   refine ym rfl ?_ ?_
   ·
    rw [kU]
    show (acc++[ns.length+k.len])++r.roots (ns.length+(k.len+1))=acc++((ns.length+k.len)::r.roots (ns.length+k.len+1))
    rw [List.append_assoc,Nat.add_assoc];rfl
   · rw [pB];rfl
theorem JJ {k:F} (hc:∀p∈k.tops,Claim p.1 p.2) (hh:∀p∈k.tops,Head p.1 p.2) (ha:∀x∈k.aJ,x.isAo=true) (n:Nat) (ns:List Nd) (R:List Tok) (em:Bool) (pre:List Tok) (hR:Term R) (hp:pre=[]∨pre=[L3]) (he:em=false→k≠.nil):
 aO (nestD n) em (ns,pre++(cY .seq k++R))=jd k.dep n (ns.length+k.len) (st ns (one .seq k),R):=by
 obtain ⟨u,us,e1,e2,e3,_⟩:=Dh k R hh ha hR
 have ht:cY .seq k=aX (gH k.acts):=rfl
 rw [ht]
 have vk:bj (ns,pre++(aX (gH k.acts)++R))=(ns,aX (gH k.acts)++R):=by
  rcases hp with rfl | rfl
  ·
   show (ns,dJ ([]++(aX (gH k.acts)++R)))=_
   rw [List.nil_append,e1,lQ us e2]
  ·
   show (ns,dJ (aX (gH k.acts)++R))=_
   rw [e1,lQ us e2]
 unfold aO
 rw [vk]
 have hle:(aX (gH k.acts)++R).length≤(pre++(aX (gH k.acts)++R)).length:=(List.suffix_append pre _).length_le
 rw [pF (dh n) _ (aX (gH k.acts)++R).length [] (ns,aX (gH k.acts)++R) hle (Nat.le_refl _)]
 show bd (runM (nestD n) [] (ns,aX (gH k.acts)++R)) _=_
 rw [CL n k hc hh ha ns R [] hR]
 refine dE ?_
 have hne:¬(([]:List Nat)++k.roots ns.length=[]∧em=false):=fun h=>by
  cases k with
  | nil=>exact he h.2 rfl
  | cons x kx r=>cases h.1
 rw [if_neg hne]
 have hl0:(nx (ns,aX (gH k.acts)++R)).ln=0:=by rw [e1];exact e3
 rw [hl0,List.nil_append]
 exact nG ns .seq k R
theorem Bn (x:Lb) (k r:F) (o:Nm):aX ((F.cons x k r).acts.flatMap fun a=>[.sp,.op o,.sp]++a)=O2 o::(cY x k++aX (r.acts.flatMap fun a=>[.sp,.op o,.sp]++a)):=by
 show aX (([.sp,.op o,.sp]++aD x k.aJ k.acts)++r.acts.flatMap fun a=>[.sp,.op o,.sp]++a)=_
 rw [bp,bp,List.append_assoc]
 rfl
theorem CA (n:Nat):∀(r:F),(∀p∈r.tops,Claim p.1 p.2)→(∀p∈r.tops,Head p.1 p.2)→(∀x∈r.aJ,x.isCmd=true)→∀(ns:List Nd) (R:List Tok) (acc:List Nat),ju R→
 aB (aV 2 [[124]]) (ou (nestD n)) acc (ns,aX (r.acts.flatMap fun a=>[.sp,.op [124],.sp]++a)++R)=jd r.dep n (acc++r.roots ns.length) (st ns r,R)
 | .nil,_,_,_,ns,R,acc,hR=>by
   show aB _ _ acc (ns,R)=jd 0 n (acc++[]) (ns++[],R)
   rw [Ea hR,oY,List.append_nil,List.append_nil]
 | .cons x k r,hc,hh,ha,ns,R,acc,hR=>by
   have MF:=hc (x,k) List.mem_cons_self
   have SU:=ha x List.mem_cons_self
   obtain ⟨t,ts,h1,h2,h3,_⟩:=(hh (x,k) List.mem_cons_self).cmd SU
   have ih:=CA n r (fun p hp=>hc p (List.mem_cons_of_mem _ hp)) (fun p hp=>hh p (List.mem_cons_of_mem _ hp)) (fun y hy=>ha y (List.mem_cons_of_mem _ hy))
   rw [Bn,List.cons_append,List.append_assoc,bF (mS (dh n)) (fun s h=>tP h (by decide)),if_pos (by rfl)]
   have YW:fQ (aX (r.acts.flatMap fun a=>[.sp,.op [124],.sp]++a)++R):=by
    cases r with
    | nil=>exact hR.cmd
    | cons y ky r'=>rw [Bn];exact ⟨_,_,rfl,.inr (.inr (.inr rfl))⟩
   have hst:ou (nestD n) acc (ns,O2 [124]::(cY x k++(aX (r.acts.flatMap fun a=>[.sp,.op [124],.sp]++a)++R)))=jd (dq x k) n (acc++[ns.length+k.len]) (st ns (one x k),aX (r.acts.flatMap fun a=>[.sp,.op [124],.sp]++a)++R):=by
    simp only [ou]
    rw [wW ns _ (show (2:Nat)≠4 by decide)]
    have hd:dJ (cY x k++(aX (r.acts.flatMap fun a=>[.sp,.op [124],.sp]++a)++R))=cY x k++(aX (r.acts.flatMap fun a=>[.sp,.op [124],.sp]++a)++R):=by
     rw [h1];exact lQ _ (sV h3)
    rw [hd,MF.cmd SU n ns _ YW]
    exact dE rfl
   rw [hst]
   refine pj ?_
   rw [ih _ R _ hR]
   refine ym rfl ?_ ?_
   ·
    rw [kU]
    show (acc++[ns.length+k.len])++r.roots (ns.length+(k.len+1))=acc++((ns.length+k.len)::r.roots (ns.length+k.len+1))
    rw [List.append_assoc,Nat.add_assoc];rfl
   · rw [pB];rfl
theorem Jl (n:Nat) (s:S) (fl:Bool) (ot:aV 1 [[33]] s=fl) (hl:(nx s).ln=0) (s1:S) (h1:(if fl then tk s else s)=s1):dt (nestD n) s=bd (gm (nestD n) s1) (fun k s2=>bd (aB (aV 2 [[124]]) (ou (nestD n)) [k] s2) fun ks s3=>if fl=false∧ks.length=1 then .ok (k,s3) else bC { k:=2,fl:=fl,ks:=ks,ln:=0 } s3):=by
 unfold dt
 simp only
 rw [ot,hl,h1]
theorem FP {fl:Bool} {k:F} (hc:∀p∈k.tops,Claim p.1 p.2) (hh:∀p∈k.tops,Head p.1 p.2) (ho:KZ (.pipe fl) k) (n:Nat) (ns:List Nd) (R:List Tok) (hR:ju R):
 dt (nestD n) (ns,cY (.pipe fl) k++R)=jd (dq (.pipe fl) k) n (ns.length+k.len) (st ns (one (.pipe fl) k),R):=by
 obtain ⟨ha,hl⟩:=ho
 cases k with
 | nil=>rcases hl with h | ⟨h,_⟩<;>exact absurd h (by decide)
 | cons x kx r=>
   have MF:=hc (x,kx) List.mem_cons_self
   have SU:=ha x List.mem_cons_self
   obtain ⟨t,ts,h1,h2,h3,h4⟩:=(hh (x,kx) List.mem_cons_self).cmd SU
   have Ry:=CA n r (fun p hp=>hc p (List.mem_cons_of_mem _ hp)) (fun p hp=>hh p (List.mem_cons_of_mem _ hp)) (fun y hy=>ha y (List.mem_cons_of_mem _ hy))
   have YW:fQ (aX (r.acts.flatMap fun a=>[.sp,.op [124],.sp]++a)++R):=by
    cases r with
    | nil=>exact hR.cmd
    | cons y ky r'=>rw [Bn];exact ⟨_,_,rfl,.inr (.inr (.inr rfl))⟩
   have ht:∀fl:Bool,cY (.pipe fl) (F.cons x kx r)++R=(if fl then [W1 [33]] else [])++(cY x kx++(aX (r.acts.flatMap fun a=>[.sp,.op [124],.sp]++a)++R)):=fun fl=>by
    show aX ((if fl then [.wd [33],.sp] else [])++(aD x kx.aJ kx.acts++r.acts.flatMap fun a=>[.sp,.op [124],.sp]++a))++R=_
    rw [bp,bp,List.append_assoc,List.append_assoc]
    cases fl<;>rfl
   have key:∀YL:Bool,bd (gm (nestD n) (ns,cY x kx++(aX (r.acts.flatMap fun a=>[.sp,.op [124],.sp]++a)++R))) (fun k s2=>bd (aB (aV 2 [[124]]) (ou (nestD n)) [k] s2) fun ks s3=>if YL=false∧ks.length=1 then .ok (k,s3) else bC { k:=2,fl:=YL,ks:=ks,ln:=0 } s3)=bd (jd (F.cons x kx r).dep n (((F.cons x kx r).roots ns.length)) (st ns (F.cons x kx r),R)) (fun ks s3=>if YL=false∧ks.length=1 then .ok (ns.length+kx.len,s3) else bC { k:=2,fl:=YL,ks:=ks,ln:=0 } s3):=fun YL=>by
    rw [MF.cmd SU n ns _ YW]
    refine Al ?_
    rw [Ry _ R _ hR]
    congr 1
    refine ym rfl ?_ ?_
    ·
     rw [kU]
     show [ns.length+kx.len]++r.roots (ns.length+(kx.len+1))=((ns.length+kx.len)::r.roots (ns.length+kx.len+1))
     rw [Nat.add_assoc];rfl
    · rw [pB];rfl
   have ZJ:dq (.pipe fl) (F.cons x kx r)=(F.cons x kx r).dep:=Nat.zero_add _
   rw [ht,ZJ]
   cases fl with
   | true=>
     have e0:(if true=true then [W1 [33]] else ([]:List Tok))++(cY x kx++(aX (r.acts.flatMap fun a=>[.sp,.op [124],.sp]++a)++R))=W1 [33]::(cY x kx++(aX (r.acts.flatMap fun a=>[.sp,.op [124],.sp]++a)++R)):=rfl
     have nX:(W1 [33]).k≠4:=by show (1:Nat)≠4;decide
     rw [e0,Jl n _ true rfl rfl _ (if_pos rfl),fP ns _ nX,key]
     refine dE ?_
     rw [if_neg (by intro h;cases h.1)]
     exact nG ns (.pipe true) (F.cons x kx r) R
   | false=>
     have hl2:2≤(F.cons x kx r).aJ.length:=hl.elim id (fun h=>by cases h.2)
     have ot:aV 1 [[33]] (ns,cY x kx++(aX (r.acts.flatMap fun a=>[.sp,.op [124],.sp]++a)++R))=false:=by rw [h1];exact h4
     have hl0:(nx (ns,cY x kx++(aX (r.acts.flatMap fun a=>[.sp,.op [124],.sp]++a)++R))).ln=0:=by rw [h1];exact h2
     have e0:(if false=true then [W1 [33]] else ([]:List Tok))++(cY x kx++(aX (r.acts.flatMap fun a=>[.sp,.op [124],.sp]++a)++R))=cY x kx++(aX (r.acts.flatMap fun a=>[.sp,.op [124],.sp]++a)++R):=rfl
     rw [e0,Jl n _ false ot hl0 _ rfl,if_neg (by decide),key]
     refine dE ?_
     rw [if_neg (by intro h;have h3:=h.2;rw [F.mM] at h3;omega)]
     exact nG ns (.pipe false) (F.cons x kx r) R
theorem uP {x y:Lb} {kx ky:F} (hx:Claim x kx) (hy:Claim y ky) (hhy:Head y ky) (ax:x.isAo=true) (py:y.isPip=true) (l:Lb) (o:Nm) (hl:(l=.qz∧o=[38,38])∨(l=.EW∧o=[124,124])) (n:Nat) (ns:List Nd) (R:List Tok) (hR:ju R):
 cx (nestD n) (ns,(cY x kx++O2 o::cY y ky)++R)=bd (jd (max (dq x kx) (dq y ky)) n (ns.length+(kx.len+1+(ky.len+1))) (st ns (one l (.cons x kx (one y ky))),R)) (aB aoB (yQ (nestD n) 0)):=by
 have ay:y.isAo=true:=by cases y<;>first | rfl | exact py
 obtain ⟨t,ts,h1,h2,h3⟩:=hhy.ao ay
 have YW:ju (O2 o::(cY y ky++R)):=⟨_,_,rfl,by rcases hl with ⟨_,rfl⟩ | ⟨_,rfl⟩;exact .inr (.inl rfl);exact .inr (.inr rfl)⟩
 rw [List.append_assoc,List.cons_append,hx.ao ax n ns _ YW]
 refine Al ?_
 have hc:aV 2 [[38,38],[124,124]] (st ns (one x kx),O2 o::(cY y ky++R))=true:=by rcases hl with ⟨_,rfl⟩ | ⟨_,rfl⟩<;>rfl
 rw [bF (mY (dh n) 0) (fun s h=>tP h (by decide)),if_pos hc]
 simp only [yQ]
 have nX:(O2 o).k≠4:=by show (2:Nat)≠4;decide
 have hd:dJ (cY y ky++R)=cY y ky++R:=by rw [h1];exact lQ _ (sV h3)
 rw [wW _ _ nX,hd,hy.pip py n _ R hR]
 congr 1
 refine dE ?_
 have hk:(if (nx (st ns (one x kx),O2 o::(cY y ky++R))).t=[124,124] then 4 else 3)=l.k:=by
  rcases hl with ⟨rfl,rfl⟩ | ⟨rfl,rfl⟩<;>rfl
 have X2:[ns.length+kx.len,(st ns (one x kx)).length+ky.len]=(F.cons x kx (one y ky)).roots ns.length:=by
  rw [kU];rfl
 have hst:st (st ns (one x kx)) (one y ky)=st ns (.cons x kx (one y ky)):=by rw [pB];rfl
 rw [hk,X2,hst]
 have hp:=nG ns l (.cons x kx (one y ky)) R
 have hnd:nd l ((F.cons x kx (one y ky)).roots ns.length)={ k:=l.k,ks:=(F.cons x kx (one y ky)).roots ns.length,ln:=0 }:=by
  rcases hl with ⟨rfl,rfl⟩ | ⟨rfl,rfl⟩<;>rfl
 rw [hnd] at hp
 rw [hp]
 rfl
theorem oX {w:Nm} (h:begins ([],[W1 w])=false) (R:List Tok):Term (W1 w::R):=⟨_,_,rfl,by show (1:Nat)≠3;decide,h,rfl⟩
theorem Oo {o:Nm} (h:begins ([],[O2 o])=false) (R:List Tok):Term (O2 o::R):=⟨_,_,rfl,by show (2:Nat)≠3;decide,h,rfl⟩
theorem nS (w:Nm) (ns:List Nd) (R:List Tok) (h:([w]:List Nm).contains w=true):aP 1 [w] (ns,W1 w::R)=.ok ((),(ns,R)):=by
 unfold aP
 have:aV 1 [w] (ns,W1 w::R)=true:=h
 rw [this,if_pos rfl,fP ns R (show (1:Nat)≠4 by decide)]
theorem AZ (o:Nm) (ns:List Nd) (R:List Tok) (h:([o]:List Nm).contains o=true):aP 2 [o] (ns,O2 o::R)=.ok ((),(ns,R)):=by
 unfold aP
 have:aV 2 [o] (ns,O2 o::R)=true:=h
 rw [this,if_pos rfl,fP ns R (show (2:Nat)≠4 by decide)]
theorem xT (w:Nm) (ns:List Nd) (R:List Tok):cC (ns,W1 w::R)=.ok (w,(ns,R)):=by
 unfold cC
 rw [if_pos (show (nx (ns,W1 w::R)).k=1 from rfl),fP ns R (show (1:Nat)≠4 by decide)]
 rfl
abbrev sq (k:F):List Tok:=cY .seq k
theorem Es {kb:F} (hb:Claim .seq kb) (hne:kb≠.nil) (n:Nat) (ns:List Nd) (R:List Tok):cv (nestD n) (ns,W1 [100,111]::L3::(sq kb++W1 [100,111,110,101]::R))=jd kb.dep n (ns.length+kb.len) (st ns (one .seq kb),R):=by
 unfold cv
 rw [nS [100,111] ns _ (by decide),bJ]
 have h:=hb.list rfl n ns (W1 [100,111,110,101]::R) false [L3] (oX (by rfl) R) (.inr rfl) (fun _=>hne)
 rw [List.singleton_append] at h
 rw [h]
 refine dE ?_
 rw [nS [100,111,110,101] _ R (by decide),bJ]
def Lb.bareL:Lb→Lb
 | .asks _=>.asks []
 | .loop fl _=>.loop fl []
 | .each t ws _=>.each t ws []
 | .cases t _=>.cases t []
 | .group _=>.group []
 | .sub _=>.sub []
 | x=>x
def Lb.Xr:Lb→List dZ
 | .asks rs=>rs
 | .loop _ rs=>rs
 | .each _ _ rs=>rs
 | .cases _ rs=>rs
 | .group rs=>rs
 | .sub rs=>rs
 | _=>[]
theorem Rc {x:Lb} (h:x.aL=true) (ks:List Nat):{ nd x.bareL ks with rs:=x.Xr }=nd x ks:=by
 cases x<;>first | rfl | cases h
theorem MR {x:Lb} (h:x.aL=true) (k:F):cY x k=cY x.bareL k++x.Xr.flatMap nc:=by
 have hn:bU []=[]:=rfl
 cases x with
 | asks rs=>
   show aX (aD (.asks rs) k.aJ k.acts)=aX (aD (.asks []) k.aJ k.acts)++rs.flatMap nc
   rw [←jE,←bp]
   congr 1
   simp only [aD,hn,List.cons_append,List.append_assoc,List.nil_append]
 | loop fl rs=>
   show aX (aD (.loop fl rs) k.aJ k.acts)=aX (aD (.loop fl []) k.aJ k.acts)++rs.flatMap nc
   rw [←jE,←bp]
   congr 1
   simp only [aD,hn,List.cons_append,List.append_assoc,List.nil_append]
 | each t ws rs=>
   show aX (aD (.each t ws rs) k.aJ k.acts)=aX (aD (.each t ws []) k.aJ k.acts)++rs.flatMap nc
   rw [←jE,←bp]
   congr 1
   simp only [aD,hn,List.cons_append,List.append_assoc,List.nil_append]
 | cases t rs=>
   show aX (aD (.cases t rs) k.aJ k.acts)=aX (aD (.cases t []) k.aJ k.acts)++rs.flatMap nc
   rw [←jE,←bp]
   congr 1
   simp only [aD,hn,List.cons_append,List.append_assoc,List.nil_append]
 | group rs=>
   show aX (aD (.group rs) k.aJ k.acts)=aX (aD (.group []) k.aJ k.acts)++rs.flatMap nc
   rw [←jE,←bp]
   congr 1
   simp only [aD,hn,List.cons_append,List.append_assoc,List.nil_append]
 | sub rs=>
   show aX (aD (.sub rs) k.aJ k.acts)=aX (aD (.sub []) k.aJ k.acts)++rs.flatMap nc
   rw [←jE,←bp]
   congr 1
   simp only [aD,hn,List.cons_append,List.append_assoc,List.nil_append]
 | _=>cases h
def sL (x:Lb) (k:F):Prop:=∀n ns R,aL (ns,cY x.bareL k++R)=true∧(nx (ns,cY x.bareL k++R)).ln=0∧dF (nestD n) 0 (ns,cY x.bareL k++R)=jd k.dep n (nd x.bareL (k.roots ns.length)) (st ns k,R)
theorem BD {x:Lb} {k:F} (hx:x.aL=true) (hr:o8 x.Xr) (hc:sL x k) (n:Nat) (ns:List Nd) (R:List Tok) (hR:fQ R):nestD n (ns,cY x k++R)=jd (1+k.dep) n (ns.length+k.len) (st ns (one x k),R):=by
 rw [MR hx,List.append_assoc]
 obtain ⟨h1,h2,h3⟩:=hc n ns (x.Xr.flatMap nc++R)
 cases n with
 | zero=>
   unfold nestD er jd
   rw [h2,if_neg (by omega)]
 | succ n=>
   obtain ⟨h1,h2,h3⟩:=hc n ns (x.Xr.flatMap nc++R)
   unfold nestD
   rw [h1,if_pos rfl,h2,h3,EN]
   refine dE ?_
   rw [Ff hR _ hr,bJ,Rc hx]
   exact nG ns x k R
theorem uC {x:Lb} {k:F} (hx:x.isCmd=true) (hx2:x.isNest=true) (hh:Head x k) (hs:∀ns R,aL (ns,cY x k++R)=true∨names (ns,cY x k++R)=true) (hn:∀n ns R,fQ R→nestD n (ns,cY x k++R)=jd (1+k.dep) n (ns.length+k.len) (st ns (one x k),R)) (n:Nat) (ns:List Nd) (R:List Tok) (hR:fQ R):gm (nestD n) (ns,cY x k++R)=jd (dq x k) n (ns.length+k.len) (st ns (one x k),R):=by
 obtain ⟨t,ts,h1,h2,h3,h4⟩:=hh.cmd hx
 have hb:begins (ns,cY x k++R)=true:=by rw [h1];exact h3
 have hm:aV 1 [[33]] (ns,cY x k++R)=false:=by rw [h1];exact h4
 have ZJ:dq x k=1+k.dep:=by unfold dq;rw [if_pos hx2]
 unfold gm
 rw [if_neg (by rw [hb,hm];simp),if_neg (fun h=>by rcases hs ns R with h5 | h5;rw [h5] at h;cases h.1;rw [h5] at h;cases h.2),ZJ]
 exact hn n ns R hR
theorem Fi {rs:List dZ} {kb:F} (hb:Claim .seq kb) (hne:kb≠.nil):sL (.group rs) (one .seq kb):=by
 intro n ns R
 have ht:cY (.group []) (one .seq kb)++R=W1 [123]::L3::(sq kb++W1 [125]::R):=by
  show aX (.wd [123]::.nl::(aD .seq kb.aJ kb.acts++.wd [125]::[]))++R=_
  rw [aC,aC,bp]
  simp [xX,aC,tok_nil,cY]
 show aL (ns,cY (.group []) (one .seq kb)++R)=true∧_∧dF (nestD n) 0 (ns,cY (.group []) (one .seq kb)++R)=_
 rw [show Lb.bareL (.group rs)=.group [] from rfl,ht]
 refine ⟨rfl,rfl,?_⟩
 have h:=hb.list rfl n ns (W1 [125]::R) false [L3] (oX (by rfl) R) (.inr rfl) (fun _=>hne)
 rw [List.singleton_append] at h
 have e:dF (nestD n) 0 (ns,W1 [123]::L3::(sq kb++W1 [125]::R))=eV (nestD n) 0 (ns,W1 [123]::L3::(sq kb++W1 [125]::R)):=rfl
 rw [e]
 unfold eV
 rw [fP ns _ (show (1:Nat)≠4 by decide),h]
 have hd:(one .seq kb).dep=kb.dep:=by show max (0+kb.dep) 0=_;omega
 rw [hd]
 refine dE ?_
 rw [nS [125] _ R (by decide),bJ]
 rfl
theorem OL {rs:List dZ} {kb:F} (hb:Claim .seq kb) (hne:kb≠.nil):sL (.sub rs) (one .seq kb):=by
 intro n ns R
 have ht:cY (.sub []) (one .seq kb)++R=O2 [40]::L3::(sq kb++O2 [41]::R):=by
  show aX (.op [40]::.nl::(aD .seq kb.aJ kb.acts++.op [41]::[]))++R=_
  rw [aC,aC,bp]
  simp [xX,aC,tok_nil,cY]
 show aL (ns,cY (.sub []) (one .seq kb)++R)=true∧_∧dF (nestD n) 0 (ns,cY (.sub []) (one .seq kb)++R)=_
 rw [show Lb.bareL (.sub rs)=.sub [] from rfl,ht]
 refine ⟨rfl,rfl,?_⟩
 have h:=hb.list rfl n ns (O2 [41]::R) false [L3] (Oo (by rfl) R) (.inr rfl) (fun _=>hne)
 rw [List.singleton_append] at h
 have e:dF (nestD n) 0 (ns,O2 [40]::L3::(sq kb++O2 [41]::R))=mP (nestD n) 0 (ns,O2 [40]::L3::(sq kb++O2 [41]::R)):=rfl
 rw [e]
 unfold mP
 rw [fP ns _ (show (2:Nat)≠4 by decide),h]
 have hd:(one .seq kb).dep=kb.dep:=by show max (0+kb.dep) 0=_;omega
 rw [hd]
 refine dE ?_
 rw [AZ [41] _ R (by decide),bJ]
 rfl
theorem zD (ns:List Nd) (kc kb:F):[ns.length+kc.len,(st ns (one .seq kc)).length+kb.len]=(F.cons .seq kc (one .seq kb)).roots ns.length:=by rw [kU];rfl
theorem MM (ns:List Nd) (kc r:F):st (st ns (one .seq kc)) r=st ns (.cons .seq kc r):=by rw [pB];rfl
theorem JD {fl:Bool} {rs:List dZ} {kc kb:F} (hc:Claim .seq kc) (hb:Claim .seq kb) (Ey:kc≠.nil) (hne:kb≠.nil):sL (.loop fl rs) (.cons .seq kc (one .seq kb)):=by
 intro n ns R
 obtain ⟨w,hw⟩:∃w:Nm,(if fl then [117,110,116,105,108] else [119,104,105,108,101])=w:=⟨_,rfl⟩
 have ht:cY (.loop fl []) (.cons .seq kc (one .seq kb))++R=W1 w::L3::(sq kc++W1 [100,111]::L3::(sq kb++W1 [100,111,110,101]::R)):=by
  show aX (.wd (if fl then _ else _)::.nl::(aD .seq kc.aJ kc.acts++.wd [100,111]::.nl::(aD .seq kb.aJ kb.acts++.wd [100,111,110,101]::[])))++R=_
  rw [hw,aC,aC,bp,aC,aC,bp]
  simp [xX,aC,tok_nil,cY]
 rw [show Lb.bareL (.loop fl rs)=.loop fl [] from rfl,ht]
 have h:=hc.list rfl n ns (W1 [100,111]::L3::(sq kb++W1 [100,111,110,101]::R)) false [L3] (oX (by rfl) _) (.inr rfl) (fun _=>Ey)
 rw [List.singleton_append] at h
 have hd:(F.cons .seq kc (one .seq kb)).dep=max kc.dep kb.dep:=by show max (0+kc.dep) (max (0+kb.dep) 0)=_;omega
 have ot:decide ((nx (ns,W1 w::L3::(sq kc++W1 [100,111]::L3::(sq kb++W1 [100,111,110,101]::R)))).t=[117,110,116,105,108])=fl:=by rw [←hw];cases fl<;>rfl
 have e:aL (ns,W1 w::L3::(sq kc++W1 [100,111]::L3::(sq kb++W1 [100,111,110,101]::R)))=true∧dF (nestD n) 0 (ns,W1 w::L3::(sq kc++W1 [100,111]::L3::(sq kb++W1 [100,111,110,101]::R)))=iw (nestD n) 0 (ns,W1 w::L3::(sq kc++W1 [100,111]::L3::(sq kb++W1 [100,111,110,101]::R))):=by
  rw [←hw]
  cases fl<;>exact ⟨rfl,rfl⟩
 refine ⟨e.1,rfl,?_⟩
 rw [e.2]
 unfold iw
 rw [ot,fP ns _ (show (1:Nat)≠4 by decide),h,hd]
 refine pj ?_
 rw [Es hb hne]
 refine dE ?_
 rw [zD,MM]
 rfl
theorem Fb {rs:List dZ} {kc kb:F} (hc:Claim .seq kc) (hb:Claim .seq kb) (Ey:kc≠.nil) (I5:kb≠.nil):sL (.asks rs) (.cons .seq kc (one .seq kb)):=by
 intro n ns R
 obtain ⟨X,hX⟩:∃X,L3::(sq kc++W1 [116,104,101,110]::L3::(sq kb++W1 [102,105]::R))=X:=⟨_,rfl⟩
 have ht:cY (.asks []) (.cons .seq kc (one .seq kb))++R=W1 [105,102]::X:=by
  show aX (.wd [105,102]::.nl::(aD .seq kc.aJ kc.acts++.wd [116,104,101,110]::.nl::(aD .seq kb.aJ kb.acts++([]++.wd [102,105]::[]))))++R=_
  rw [←hX,aC,aC,bp,aC,aC,bp]
  simp [xX,aC,tok_nil,cY]
 rw [show Lb.bareL (.asks rs)=.asks [] from rfl,ht]
 refine ⟨rfl,rfl,?_⟩
 have e:dF (nestD n) 0 (ns,W1 [105,102]::X)=eW (nestD n) (X.length+1) 0 (ns,W1 [105,102]::X):=rfl
 have h:=hc.list rfl n ns (W1 [116,104,101,110]::L3::(sq kb++W1 [102,105]::R)) false [L3] (oX (by rfl) _) (.inr rfl) (fun _=>Ey)
 have h2:=hb.list rfl n (st ns (one .seq kc)) (W1 [102,105]::R) false [L3] (oX (by rfl) _) (.inr rfl) (fun _=>I5)
 rw [List.singleton_append] at h h2
 rw [hX] at h
 have hd:(F.cons .seq kc (one .seq kb)).dep=max kc.dep kb.dep:=by show max (0+kc.dep) (max (0+kb.dep) 0)=_;omega
 rw [e,eW,fP ns _ (show (1:Nat)≠4 by decide),h,hd]
 refine pj ?_
 rw [nS [116,104,101,110] _ _ (by decide),bJ,h2]
 refine dE ?_
 have e1:aV 1 [[101,108,105,102]] (st (st ns (one .seq kc)) (one .seq kb),W1 [102,105]::R)=false:=rfl
 have e2:aV 1 [[101,108,115,101]] (st (st ns (one .seq kc)) (one .seq kb),W1 [102,105]::R)=false:=rfl
 rw [e1,e2,if_neg (by decide),if_neg (by decide),nS [102,105] _ R (by decide),bJ,zD,MM]
 rfl
theorem GR {rs:List dZ} {kc kb ke:F} (hc:Claim .seq kc) (hb:Claim .seq kb) (he:Claim .seq ke) (Ey:kc≠.nil) (I5:kb≠.nil) (hne:ke≠.nil):sL (.asks rs) (.cons .seq kc (.cons .seq kb (one .seq ke))):=by
 intro n ns R
 obtain ⟨X,hX⟩:∃X,L3::(sq kc++W1 [116,104,101,110]::L3::(sq kb++W1 [101,108,115,101]::L3::(sq ke++W1 [102,105]::R)))=X:=⟨_,rfl⟩
 have ht:cY (.asks []) (.cons .seq kc (.cons .seq kb (one .seq ke)))++R=W1 [105,102]::X:=by
  show aX (.wd [105,102]::.nl::(aD .seq kc.aJ kc.acts++.wd [116,104,101,110]::.nl::(aD .seq kb.aJ kb.acts++(.wd [101,108,115,101]::.nl::(aD .seq ke.aJ ke.acts++[])++.wd [102,105]::[]))))++R=_
  rw [←hX,aC,aC,bp,aC,aC,bp,bp,aC,aC,bp]
  simp [xX,aC,tok_nil,cY]
 rw [show Lb.bareL (.asks rs)=.asks [] from rfl,ht]
 refine ⟨rfl,rfl,?_⟩
 have e:dF (nestD n) 0 (ns,W1 [105,102]::X)=eW (nestD n) (X.length+1) 0 (ns,W1 [105,102]::X):=rfl
 have h:=hc.list rfl n ns (W1 [116,104,101,110]::L3::(sq kb++W1 [101,108,115,101]::L3::(sq ke++W1 [102,105]::R))) false [L3] (oX (by rfl) _) (.inr rfl) (fun _=>Ey)
 have h2:=hb.list rfl n (st ns (one .seq kc)) (W1 [101,108,115,101]::L3::(sq ke++W1 [102,105]::R)) false [L3] (oX (by rfl) _) (.inr rfl) (fun _=>I5)
 have h3:=he.list rfl n (st (st ns (one .seq kc)) (one .seq kb)) (W1 [102,105]::R) false [L3] (oX (by rfl) _) (.inr rfl) (fun _=>hne)
 rw [List.singleton_append] at h h2 h3
 rw [hX] at h
 have hd:(F.cons .seq kc (.cons .seq kb (one .seq ke))).dep=max kc.dep (max kb.dep ke.dep):=by show max (0+kc.dep) (max (0+kb.dep) (max (0+ke.dep) 0))=_;omega
 rw [e,eW,fP ns _ (show (1:Nat)≠4 by decide),h,hd]
 refine pj ?_
 rw [nS [116,104,101,110] _ _ (by decide),bJ,h2]
 refine pj ?_
 have e1:aV 1 [[101,108,105,102]] (st (st ns (one .seq kc)) (one .seq kb),W1 [101,108,115,101]::L3::(sq ke++W1 [102,105]::R))=false:=rfl
 have e2:aV 1 [[101,108,115,101]] (st (st ns (one .seq kc)) (one .seq kb),W1 [101,108,115,101]::L3::(sq ke++W1 [102,105]::R))=true:=rfl
 rw [e1,e2,if_neg (by decide),if_pos rfl,fP _ _ (show (1:Nat)≠4 by decide),h3]
 refine dE ?_
 rw [nS [102,105] _ R (by decide),bJ]
 have hs:st (st (st ns (one .seq kc)) (one .seq kb)) (one .seq ke)=st ns (.cons .seq kc (.cons .seq kb (one .seq ke))):=by rw [pB,pB];rfl
 have hr:[ns.length+kc.len,(st ns (one .seq kc)).length+kb.len,(st (st ns (one .seq kc)) (one .seq kb)).length+ke.len]=(F.cons .seq kc (.cons .seq kb (one .seq ke))).roots ns.length:=by
  rw [kU,kU,kU];rfl
 rw [hr,hs]
 rfl
theorem Aw (ns:List Nd) (R:List Tok):∀(ws acc:List Nm),aB lv nD acc (ns,ws.map W1++L3::R)=.ok (acc++ws,(ns,L3::R))
 | [],acc=>by
   rw [bF mD yz,List.append_nil]
   rfl
 | w::ws,acc=>by
   rw [bF mD yz,List.map_cons,List.cons_append,if_pos (by rfl)]
   simp only [nD]
   rw [xT,bJ,bJ,Aw ns R ws]
   simp
theorem Jy {t:Nm} {ws:Option (List Nm)} {rs:List dZ} {kb:F} (hn:eG t=true) (hb:Claim .seq kb) (hne:kb≠.nil):sL (.each t ws rs) (one .seq kb):=by
 intro n ns R
 have hd:(one .seq kb).dep=kb.dep:=by show max (0+kb.dep) 0=_;omega
 obtain ⟨B,hB⟩:∃B,W1 [100,111]::L3::(sq kb++W1 [100,111,110,101]::R)=B:=⟨_,rfl⟩
 have NA:cv (nestD n) (ns,B)=jd kb.dep n (ns.length+kb.len) (st ns (one .seq kb),R):=by rw [←hB];exact Es hb hne n ns R
 cases ws with
 | none=>
   have ht:cY (.each t none []) (one .seq kb)++R=W1 [102,111,114]::W1 t::L3::B:=by
    show aX (.wd [102,111,114]::.sp::.wd t::([]++.nl::.wd [100,111]::.nl::(aD .seq kb.aJ kb.acts++.wd [100,111,110,101]::[])))++R=_
    rw [←hB,List.nil_append,aC,aC,aC,aC,aC,aC,bp]
    simp [xX,aC,tok_nil,cY]
   rw [show Lb.bareL (.each t none rs)=.each t none [] from rfl,ht]
   refine ⟨rfl,rfl,?_⟩
   have e:dF (nestD n) 0 (ns,W1 [102,111,114]::W1 t::L3::B)=eT (nestD n) 0 (ns,W1 [102,111,114]::W1 t::L3::B):=rfl
   rw [e]
   unfold eT
   simp only
   rw [fP ns _ (show (1:Nat)≠4 by decide)]
   have h0:eG (nx (ns,W1 t::L3::B)).t=true:=hn
   rw [if_neg (by rw [h0];decide),xT,bJ]
   have e1:aV 2 [[59]] (ns,L3::B)=false:=rfl
   have e2:bj (ns,L3::B)=(ns,B):=by rw [←hB];rfl
   have e3:aV 1 [[105,110]] (ns,B)=false:=by rw [←hB];rfl
   rw [e1,if_neg (by decide),e2,e3,if_neg (by decide),NA,hd]
   exact dE rfl
 | some ws=>
   have ht:cY (.each t (some ws) []) (one .seq kb)++R=W1 [102,111,114]::W1 t::W1 [105,110]::(ws.map W1++L3::B):=by
    show aX (.wd [102,111,114]::.sp::.wd t::((.sp::.wd [105,110]::lg [.sp] ws)++.nl::.wd [100,111]::.nl::(aD .seq kb.aJ kb.acts++.wd [100,111,110,101]::[])))++R=_
    rw [←hB,aC,aC,aC,bp,aC,aC,BB,aC,aC,aC,bp]
    simp [xX,aC,tok_nil,cY]
   rw [show Lb.bareL (.each t (some ws) rs)=.each t (some ws) [] from rfl,ht]
   refine ⟨rfl,rfl,?_⟩
   have e:dF (nestD n) 0 (ns,W1 [102,111,114]::W1 t::W1 [105,110]::(ws.map W1++L3::B))=eT (nestD n) 0 (ns,W1 [102,111,114]::W1 t::W1 [105,110]::(ws.map W1++L3::B)):=rfl
   rw [e]
   unfold eT
   simp only
   rw [fP ns _ (show (1:Nat)≠4 by decide)]
   have h0:eG (nx (ns,W1 t::W1 [105,110]::(ws.map W1++L3::B))).t=true:=hn
   rw [if_neg (by rw [h0];decide),xT,bJ]
   have e1:aV 2 [[59]] (ns,W1 [105,110]::(ws.map W1++L3::B))=false:=rfl
   have e2:bj (ns,W1 [105,110]::(ws.map W1++L3::B))=(ns,W1 [105,110]::(ws.map W1++L3::B)):=rfl
   have e3:aV 1 [[105,110]] (ns,W1 [105,110]::(ws.map W1++L3::B))=true:=rfl
   rw [e1,if_neg (by decide),e2,e3,if_pos rfl,fP ns _ (show (1:Nat)≠4 by decide)]
   have hw:=Aw ns B ws []
   simp only [nD,List.nil_append] at hw
   rw [hw,bJ,if_neg (by intro h;exact h.2 rfl)]
   have e4:bj (tk (ns,L3::B))=(ns,B):=by rw [fP ns B (show (3:Nat)≠4 by decide),←hB];rfl
   rw [e4,NA,hd]
   exact dE rfl
theorem EH (ns:List Nd) (R:List Tok):∀(ws acc:List Nm),aB (aV 2 [[124]]) qy acc (ns,ws.flatMap (fun w=>[O2 [124],W1 w])++O2 [41]::R)=.ok (acc++ws,(ns,O2 [41]::R))
 | [],acc=>by
   rw [bF mL oL,List.append_nil]
   rfl
 | w::ws,acc=>by
   rw [bF mL oL,List.flatMap_cons,List.append_assoc,List.cons_append,List.singleton_append,if_pos (by rfl)]
   simp only [qy]
   rw [fP ns _ (show (2:Nat)≠4 by decide),xT,bJ,bJ,EH ns R ws]
   simp
theorem Dp:∀ws:List Nm,aX (lg [.op [124]] ws)=ws.flatMap fun w=>[O2 [124],W1 w]
 | []=>rfl
 | w::ws=>by
   show aX (.op [124]::.wd w::lg [.op [124]] ws)=_
   rw [aC,aC,Dp ws]
   rfl
theorem GX {ws:List Nm} {kb:F} (hw:ws≠[]) (hb:Claim .seq kb) (n:Nat) (ns:List Nd) (R:List Tok):cA (nestD n) (ns,cY (.item ws) (one .seq kb)++R)=jd (one .seq kb).dep n (ns.length+(one .seq kb).len) (st ns (one (.item ws) (one .seq kb)),O2 [59,59]::L3::R):=by
 cases ws with
 | nil=>exact absurd rfl hw
 | cons w ws=>
   have ht:cY (.item (w::ws)) (one .seq kb)++R=O2 [40]::W1 w::(ws.flatMap (fun w=>[O2 [124],W1 w])++O2 [41]::L3::(sq kb++O2 [59,59]::L3::R)):=by
    show aX (.op [40]::((.wd w::lg [.op [124]] ws)++.op [41]::.nl::(aD .seq kb.aJ kb.acts++[.op [59,59],.nl])))++R=_
    rw [aC,bp,aC,Dp,aC,aC,bp]
    simp [xX,aC,tok_nil,cY]
   rw [ht]
   unfold cA
   have e1:aV 2 [[40]] (ns,O2 [40]::W1 w::(ws.flatMap (fun w=>[O2 [124],W1 w])++O2 [41]::L3::(sq kb++O2 [59,59]::L3::R)))=true:=rfl
   rw [e1,if_pos rfl,fP ns _ (show (2:Nat)≠4 by decide),xT,bJ]
   have ha:=EH ns (L3::(sq kb++O2 [59,59]::L3::R)) ws [w]
   have ha:aB (aV 2 [[124]]) (fun l s=>bd (cC (tk s)) fun w s=>.ok (l++[w],s)) [w] (ns,ws.flatMap (fun w=>[O2 [124],W1 w])++O2 [41]::L3::(sq kb++O2 [59,59]::L3::R))=.ok ([w]++ws,(ns,O2 [41]::L3::(sq kb++O2 [59,59]::L3::R))):=ha
   rw [ha,bJ,AZ [41] _ _ (by decide),bJ]
   have h:=hb.list rfl n ns (O2 [59,59]::L3::R) true [L3] (Oo (by rfl) _) (.inr rfl) (fun h=>(by cases h))
   rw [List.singleton_append] at h
   have hd:(one .seq kb).dep=kb.dep:=by show max (0+kb.dep) 0=_;omega
   rw [h,hd]
   refine dE ?_
   have hp:=nG ns (.item (w::ws)) (one .seq kb) (O2 [59,59]::L3::R)
   exact hp
theorem C2 (n:Nat) (ks:List Nat) (s:S):dY (nestD n) ks s=if aV 1 [[101,115,97,99]] s then .ok (ks,s) else bd (cA (nestD n) s) fun k s=>if aV 2 [[59,59]] s then dY (nestD n) (ks++[k]) (bj (tk s)) else .ok (ks++[k],s):=by
 unfold dY
 rw [dL]
 split
 · rfl
 ·
  cases he:cA (nestD n) s with
  | error e=>rfl
  | ok x=>
    have h1:=iq (dh n) s x he
    obtain ⟨k,t⟩:=x
    simp only [bJ]
    simp only at h1
    split
    ·
     rename_i hi
     have h2:=eJ (s:=t) (by rw [dD hi];decide)
     have h3:=ew (tk t)
     obtain ⟨f,hf⟩:∃f,s.2.length=f+1:=⟨s.2.length - 1,by omega⟩
     rw [hf]
     exact zF (dh n) f _ _ _ (by omega) (Nat.le_refl _)
    · rfl
theorem xg:∀(r:F) (R:List Tok),(∀x∈r.aJ,∃ws,x=.item ws)→∃t ts,aX r.acts.flatten++W1 [101,115,97,99]::R=t::ts∧t.k≠3∧(aV 1 [[101,115,97,99]] ([],[t])=false∨r=.nil)
 | .nil,R,_=>⟨_,_,rfl,by show (1:Nat)≠3;decide,.inr rfl⟩
 | .cons x k r,R,h=>by
   obtain ⟨ws,rfl⟩:=h x List.mem_cons_self
   exact ⟨O2 [40],_,rfl,by show (2:Nat)≠3;decide,.inl rfl⟩
theorem yB (n:Nat):∀(r:F),(∀p∈r.tops,Claim p.1 p.2)→(∀x∈r.aJ,∃ws,x=.item ws)→∀(ns:List Nd) (R:List Tok) (acc:List Nat),
 dY (nestD n) acc (ns,aX r.acts.flatten++W1 [101,115,97,99]::R)=jd r.dep n (acc++r.roots ns.length) (st ns r,W1 [101,115,97,99]::R)
 | .nil,_,_,ns,R,acc=>by
   rw [C2]
   show Except.ok (acc,(ns,W1 [101,115,97,99]::R))=jd 0 n (acc++[]) (ns++[],_)
   rw [oY,List.append_nil,List.append_nil]
 | .cons x k r,hc,ha,ns,R,acc=>by
   obtain ⟨ws,rfl⟩:=ha x List.mem_cons_self
   have MF:=(hc (.item ws,k) List.mem_cons_self).item ws rfl n ns (aX r.acts.flatten++W1 [101,115,97,99]::R)
   obtain ⟨u,us,e1,e2,_⟩:=xg r R (fun y hy=>ha y (List.mem_cons_of_mem _ hy))
   have ih:=yB n r (fun p hp=>hc p (List.mem_cons_of_mem _ hp)) (fun y hy=>ha y (List.mem_cons_of_mem _ hy))
   have ht:aX (F.cons (.item ws) k r).acts.flatten++W1 [101,115,97,99]::R=cY (.item ws) k++(aX r.acts.flatten++W1 [101,115,97,99]::R):=by
    show aX (aD (.item ws) k.aJ k.acts++r.acts.flatten)++_=_
    rw [bp,List.append_assoc]
    rfl
   have he:aV 1 [[101,115,97,99]] (ns,cY (.item ws) k++(aX r.acts.flatten++W1 [101,115,97,99]::R))=false:=rfl
   have ZJ:(F.cons (.item ws) k r).dep=max k.dep r.dep:=by show max (0+k.dep) r.dep=_;omega
   rw [ht,C2,he,if_neg (by decide),MF,ZJ]
   refine pj ?_
   have e3:aV 2 [[59,59]] (st ns (one (.item ws) k),O2 [59,59]::L3::(aX r.acts.flatten++W1 [101,115,97,99]::R))=true:=rfl
   have e4:bj (tk (st ns (one (.item ws) k),O2 [59,59]::L3::(aX r.acts.flatten++W1 [101,115,97,99]::R)))=(st ns (one (.item ws) k),aX r.acts.flatten++W1 [101,115,97,99]::R):=by
    rw [wW _ _ (show (2:Nat)≠4 by decide)]
    show (_,dJ (aX r.acts.flatten++W1 [101,115,97,99]::R))=_
    rw [e1,lQ us e2]
   rw [e3,if_pos rfl,e4,ih]
   refine ym rfl ?_ ?_
   ·
    rw [kU]
    show (acc++[ns.length+k.len])++r.roots (ns.length+(k.len+1))=acc++((ns.length+k.len)::r.roots (ns.length+k.len+1))
    rw [List.append_assoc,Nat.add_assoc];rfl
   · rw [pB];rfl
theorem F6 {t:Nm} {rs:List dZ} {k:F} (hc:∀p∈k.tops,Claim p.1 p.2) (ha:∀x∈k.aJ,∃ws,x=.item ws):sL (.cases t rs) k:=by
 intro n ns R
 obtain ⟨X,hX⟩:∃X,aX k.acts.flatten++W1 [101,115,97,99]::R=X:=⟨_,rfl⟩
 have ht:cY (.cases t []) k++R=W1 [99,97,115,101]::W1 t::W1 [105,110]::L3::X:=by
  show aX (.wd [99,97,115,101]::.sp::.wd t::.sp::.wd [105,110]::.nl::(k.acts.flatten++.wd [101,115,97,99]::[]))++R=_
  rw [←hX,aC,aC,aC,aC,aC,aC,bp]
  simp [xX,aC,tok_nil]
 rw [show Lb.bareL (.cases t rs)=.cases t [] from rfl,ht]
 refine ⟨rfl,rfl,?_⟩
 have e:dF (nestD n) 0 (ns,W1 [99,97,115,101]::W1 t::W1 [105,110]::L3::X)=eQ (nestD n) 0 (ns,W1 [99,97,115,101]::W1 t::W1 [105,110]::L3::X):=rfl
 rw [e]
 unfold eQ
 obtain ⟨u,us,e1,e2,_⟩:=xg k R ha
 rw [hX] at e1
 have e4:bj (ns,L3::X)=(ns,X):=by
  show (ns,dJ X)=_
  rw [e1,lQ us e2]
 rw [fP ns _ (show (1:Nat)≠4 by decide),xT,bJ]
 have e5:bj (ns,W1 [105,110]::L3::X)=(ns,W1 [105,110]::L3::X):=rfl
 rw [e5,nS [105,110] _ _ (by decide),bJ,e4,←hX,yB n k hc ha ns R []]
 refine dE ?_
 rw [nS [101,115,97,99] _ R (by decide),bJ,List.nil_append]
 rfl
theorem KG {t:Nm} {x:Lb} {kx:F} (hn:eG t=true) (hr:mr.contains t=false) (hx:x.aL=true) (hc:Claim x kx) (hs:∀ns R,aL (ns,cY x kx++R)=true) (vk:∀ns R,(nx (ns,cY x kx++R)).k≠3) (n:Nat) (ns:List Nd) (R:List Tok) (hR:fQ R):
 (aL (ns,cY (.func t) (one x kx)++R)=false∧names (ns,cY (.func t) (one x kx)++R)=true)∧nestD n (ns,cY (.func t) (one x kx)++R)=jd (1+(one x kx).dep) n (ns.length+(one x kx).len) (st ns (one (.func t) (one x kx)),R):=by
 have ht:cY (.func t) (one x kx)++R=W1 t::O2 [40]::O2 [41]::(cY x kx++R):=by
  show aX (.fn t::.sp::aD x kx.aJ kx.acts)++R=_
  rw [aC,aC]
  rfl
 have vd:x.isNest=true:=by cases x<;>first | rfl | cases hx
 have NW:aL (ns,W1 t::O2 [40]::O2 [41]::(cY x kx++R))=false:=by
  show (aV 2 [[40]] _ || (([[123],[105,102],[119,104,105,108,101],[117,110,116,105,108],[102,111,114],[99,97,115,101]]:List Nm).contains t && decide ((1:Nat)=1)))=false
  have h1:([[123],[105,102],[119,104,105,108,101],[117,110,116,105,108],[102,111,114],[99,97,115,101]]:List Nm).contains t=false:=by
   rw [←Bool.not_eq_true]
   intro h
   have h2:t∈([[123],[105,102],[119,104,105,108,101],[117,110,116,105,108],[102,111,114],[99,97,115,101]]:List Nm):=List.contains_iff_mem.1 h
   have h3:mr.contains t=true:=by
    simp only [List.mem_cons,List.not_mem_nil,or_false] at h2
    rcases h2 with rfl | rfl | rfl | rfl | rfl | rfl<;>decide
   rw [hr] at h3;cases h3
  rw [h1]
  rfl
 have Wk:names (ns,W1 t::O2 [40]::O2 [41]::(cY x kx++R))=true:=by
  show (true && true && eG t)=true
  rw [hn];rfl
 rw [ht]
 refine ⟨⟨NW,Wk⟩,?_⟩
 have hd:(one x kx).dep=1+kx.dep:=by
  show max ((if x.isNest=true then 1 else 0)+kx.dep) 0=_
  rw [if_pos vd];omega
 cases n with
 | zero=>
   unfold nestD er jd
   rw [if_neg (by omega)]
   rfl
 | succ n=>
   unfold nestD
   rw [NW,if_neg (by decide),EN]
   unfold fU
   rw [xT,bJ,AZ [40] _ _ (by decide),bJ,AZ [41] _ _ (by decide),bJ]
   simp only
   have hl:bj (ns,cY x kx++R)=(ns,cY x kx++R):=by
    have:=vk ns R
    show (ns,dJ (cY x kx++R))=_
    cases hT:cY x kx++R with
    | nil=>rfl
    | cons u us=>
      rw [hT] at this
      have h3:u.k≠3:=this
      rw [lQ us h3]
   rw [hl,hs ns R,if_neg (by decide),hc.nest vd n ns R hR,hd]
   have hp:=nG ns (.func t) (one x kx) R
   have:bd (bd (jd (1+kx.dep) n (ns.length+kx.len) (st ns (one x kx),R)) fun k s=>(.ok ({ k:=13,t:=t,ks:=[k],ln:=(nx (ns,W1 t::O2 [40]::O2 [41]::(cY x kx++R))).ln },s):P Nd)) bC=bd (jd (1+kx.dep) n ({ k:=13,t:=t,ks:=[ns.length+kx.len],ln:=0 }:Nd) (st ns (one x kx),R)) bC:=by
    congr 1
    exact dE rfl
   rw [this]
   exact dE hp
theorem QA {ws:List Nm} {rs:List dZ} (h:O7 ws rs) (hh:Head (.uQ ws rs) .nil) (n:Nat) (ns:List Nd) (R:List Tok) (hR:fQ R):gm (nestD n) (ns,cY (.uQ ws rs) .nil++R)=jd (dq (.uQ ws rs) .nil) n (ns.length+F.nil.len) (st ns (one (.uQ ws rs) .nil),R):=by
 obtain ⟨t,ts,h1,h2,h3,h4⟩:=hh.cmd rfl
 have hb:begins (ns,cY (.uQ ws rs) .nil++R)=true:=by rw [h1];exact h3
 have hm:aV 1 [[33]] (ns,cY (.uQ ws rs) .nil++R)=false:=by rw [h1];exact h4
 have hl:(nx (ns,cY (.uQ ws rs) .nil++R)).ln=0:=by rw [h1];exact h2
 rw [I8,List.append_assoc] at hb hm hl ⊢
 have hc:aL (ns,rs.flatMap nc++(ws.map W1++R))=false∧names (ns,rs.flatMap nc++(ws.map W1++R))=false:=by
  cases rs with
  | cons x rs=>
    rw [List.flatMap_cons,List.append_assoc]
    constructor
    ·
     show (aV 2 [[40]] _ || (_ && decide ((5:Nat)=1)))=false
     rw [decide_eq_false (by decide),Bool.and_false]
     rfl
    · rfl
  | nil=>
    cases ws with
    | nil=>exact absurd rfl (h.any.elim id (fun h=>absurd rfl h))
    | cons w ws=>
      have hr:=h.head rfl w rfl
      constructor
      ·
       show (aV 2 [[40]] _ || (([[123],[105,102],[119,104,105,108,101],[117,110,116,105,108],[102,111,114],[99,97,115,101]]:List Nm).contains w && decide ((1:Nat)=1)))=false
       have h1:([[123],[105,102],[119,104,105,108,101],[117,110,116,105,108],[102,111,114],[99,97,115,101]]:List Nm).contains w=false:=by
        rw [←Bool.not_eq_true]
        intro h
        have h2:w∈([[123],[105,102],[119,104,105,108,101],[117,110,116,105,108],[102,111,114],[99,97,115,101]]:List Nm):=List.contains_iff_mem.1 h
        have h3:mr.contains w=true:=by
         simp only [List.mem_cons,List.not_mem_nil,or_false] at h2
         rcases h2 with rfl | rfl | rfl | rfl | rfl | rfl<;>decide
        rw [hr] at h3;cases h3
       rw [h1]
       rfl
      ·
       have key:∀(t:Tok) (l:List Tok),(t.k=2→t.t≠[40])→names (ns,W1 w::t::l)=false:=fun t l ht=>by
        unfold names
        cases l with
        | nil=>rfl
        | cons u l=>
          show (decide ((nx (ns,W1 w::t::u::l)).k=1) && (decide (t.k=2) && decide (t.t=[40])) && _)=false
          by_cases h2:t.k=2
          · rw [decide_eq_false (ht h2)];simp
          · rw [decide_eq_false h2];simp
       cases ws with
       | cons v ws=>exact key (W1 v) _ (fun h=>absurd h (by show ¬(1:Nat)=2;decide))
       | nil=>
         obtain ⟨u,R',rfl,hu⟩:=hR
         show names (ns,W1 w::u::R')=false
         refine key u R' fun _ e=>?_
         rcases hu with rfl | rfl | rfl | rfl<;>cases e
 unfold gm
 rw [if_neg (by rw [hb,hm];simp),if_pos hc,Rb hR ns h hl]
 show _=jd 0 n _ _
 rw [oY]
 rfl
theorem pD {x:Lb} (h:x.aL=true):x.isCmd=true∧x.isNest=true:=by cases x<;>first | exact ⟨rfl,rfl⟩ | cases h
theorem rI {x:Lb} (h:x.isCmd=true):x.isPip=true:=by cases x<;>first | rfl | cases h
theorem tZ {x:Lb} {k:F} (hx:x.isCmd=true) (hh:Head x k) (hn:x.isNest=true→∀n ns R,fQ R→nestD n (ns,cY x k++R)=jd (1+k.dep) n (ns.length+k.len) (st ns (one x k),R)) (hc:∀n ns R,fQ R→gm (nestD n) (ns,cY x k++R)=jd (dq x k) n (ns.length+k.len) (st ns (one x k),R)):Claim x k where
 nest:=hn
 cmd _:=hc
 pip _:=wG hx hh hc
 ao _:=Az (rI hx) hh (wG hx hh hc)
 list e:=by subst e;cases hx
 item ws e:=by subst e;cases hx
theorem il {x:Lb} {k:F} (hx:x.aL=true) (hh:Head x k) (hr:o8 x.Xr) (hc:sL x k):Claim x k:=by
 have hn:=BD hx hr hc
 refine tZ (pD hx).1 hh (fun _=>hn) (uC (pD hx).1 (pD hx).2 hh (fun ns R=>.inl ?_) hn)
 rw [MR hx,List.append_assoc]
 exact (hc 0 ns _).1
theorem Gw:∀f:F,f.wf→f.plain→∀x k,(x,k)∈f.tops→Claim x k
 | .nil,_,_,x,k,h=>absurd h List.not_mem_nil
 | .cons y ky r,hw,hp,x,k,h=>by
   obtain ⟨ho,hk,hr⟩:=hw
   obtain ⟨pe,pk,pr⟩:=hp
   rcases List.mem_cons.1 h with e | h
   ·
    injection e with e1 e2
    subst e1 e2
    have hh:=heads (.cons x k .nil) ⟨ho,hk,trivial⟩ x k List.mem_cons_self
    have ih:∀p∈k.tops,Claim p.1 p.2:=fun p hp=>Gw k hk pk p.1 p.2 hp
    have XU:∀p∈k.tops,Head p.1 p.2:=fun p hp=>heads k hk p.1 p.2 hp
    cases x with
    | uQ ws rs=>
      obtain ⟨rfl,hs⟩:=ho
      exact tZ rfl hh (fun h=>(by cases h)) (QA hs hh)
    | pipe fl=>
      have hc:=FP (fl:=fl) ih XU ho
      exact ⟨fun h=>(by cases h),fun h=>(by cases h),fun _=>hc,fun _=>Az rfl hh hc,fun h=>(by cases h),fun ws h=>(by cases h)⟩
    | qz=>
      obtain ⟨z,kz,v,kv,rfl,ha,hv⟩:=ho
      refine ⟨fun h=>(by cases h),fun h=>(by cases h),fun h=>(by cases h),fun _ n ns R hR=>?_,fun h=>(by cases h),fun ws h=>(by cases h)⟩
      have hc:=uP (ih (z,kz) List.mem_cons_self) (ih (v,kv) (List.mem_cons_of_mem _ List.mem_cons_self)) (XU (v,kv) (List.mem_cons_of_mem _ List.mem_cons_self)) ha hv .qz [38,38] (.inl ⟨rfl,rfl⟩) n ns R hR
      have ht:cY .qz (.cons z kz (.cons v kv .nil))=cY z kz++O2 [38,38]::cY v kv:=by
       show aX (aD z kz.aJ kz.acts++([.sp,.op [38,38],.sp]++aD v kv.aJ kv.acts++[]))=_
       rw [bp,List.append_nil,bp];rfl
      have hd:dq .qz (.cons z kz (.cons v kv .nil))=max (dq z kz) (dq v kv):=by
       show 0+max (dq z kz) (max (dq v kv) 0)=_;omega
      rw [ht,hd]
      exact hc
    | EW=>
      obtain ⟨z,kz,v,kv,rfl,ha,hv⟩:=ho
      refine ⟨fun h=>(by cases h),fun h=>(by cases h),fun h=>(by cases h),fun _ n ns R hR=>?_,fun h=>(by cases h),fun ws h=>(by cases h)⟩
      have hc:=uP (ih (z,kz) List.mem_cons_self) (ih (v,kv) (List.mem_cons_of_mem _ List.mem_cons_self)) (XU (v,kv) (List.mem_cons_of_mem _ List.mem_cons_self)) ha hv .EW [124,124] (.inr ⟨rfl,rfl⟩) n ns R hR
      have ht:cY .EW (.cons z kz (.cons v kv .nil))=cY z kz++O2 [124,124]::cY v kv:=by
       show aX (aD z kz.aJ kz.acts++([.sp,.op [124,124],.sp]++aD v kv.aJ kv.acts++[]))=_
       rw [bp,List.append_nil,bp];rfl
      have hd:dq .EW (.cons z kz (.cons v kv .nil))=max (dq z kz) (dq v kv):=by
       show 0+max (dq z kz) (max (dq v kv) 0)=_;omega
      rw [ht,hd]
      exact hc
    | seq=>exact ⟨fun h=>(by cases h),fun h=>(by cases h),fun h=>(by cases h),fun h=>(by cases h),fun _=>JJ ih XU ho,fun ws h=>(by cases h)⟩
    | asks rs=>
      obtain ⟨jG,kc,kb,r3,rfl,Ey,I5,h3⟩:=ho
      have hc:=ih (.seq,kc) List.mem_cons_self
      have hb:=ih (.seq,kb) (List.mem_cons_of_mem _ List.mem_cons_self)
      rcases h3 with rfl | ⟨ke,rfl,hne⟩ | ⟨ke,rfl⟩
      · exact il rfl hh jG (Fb hc hb Ey I5)
      · exact il rfl hh jG (GR hc hb (ih (.seq,ke) (List.mem_cons_of_mem _ (List.mem_cons_of_mem _ List.mem_cons_self))) Ey I5 hne)
      · exact absurd rfl (pe rs [] rfl)
    | loop fl rs=>
      obtain ⟨jG,kc,kb,rfl,Ey,I5⟩:=ho
      exact il rfl hh jG (JD (ih (.seq,kc) List.mem_cons_self) (ih (.seq,kb) (List.mem_cons_of_mem _ List.mem_cons_self)) Ey I5)
    | each t ws rs=>
      obtain ⟨jG,hn,_,kb,rfl,I5⟩:=ho
      exact il rfl hh jG (Jy hn (ih (.seq,kb) List.mem_cons_self) I5)
    | cases t rs=>
      obtain ⟨jG,_,ha⟩:=ho
      exact il rfl hh jG (F6 ih ha)
    | item ws=>
      obtain ⟨_,Jn,kb,rfl⟩:=ho
      refine ⟨fun h=>(by cases h),fun h=>(by cases h),fun h=>(by cases h),fun h=>(by cases h),fun h=>(by cases h),fun SX h n ns R=>?_⟩
      injection h with h
      subst h
      exact GX Jn (ih (.seq,kb) List.mem_cons_self) n ns R
    | group rs=>
      obtain ⟨jG,kb,rfl,I5⟩:=ho
      exact il rfl hh jG (Fi (ih (.seq,kb) List.mem_cons_self) I5)
    | sub rs=>
      obtain ⟨jG,kb,rfl,I5⟩:=ho
      exact il rfl hh jG (OL (ih (.seq,kb) List.mem_cons_self) I5)
    | func t=>
      obtain ⟨hn,hres,z,kz,rfl,hz⟩:=ho
      have hcz:=ih (z,kz) List.mem_cons_self
      have hhz:=XU (z,kz) List.mem_cons_self
      obtain ⟨u,us,h1,h2,h3,h4⟩:=hhz.cmd (pD hz).1
      have ZaW:∀ns R,aL (ns,cY z kz++R)=true:=by
       intro ns R
       cases z with
       | asks rs=>rfl
       | loop fl rs=>cases fl<;>rfl
       | each t ws rs=>rfl
       | cases t rs=>rfl
       | group rs=>rfl
       | sub rs=>rfl
       | _=>cases hz
      have hk3:∀ns R,(nx (ns,cY z kz++R)).k≠3:=fun ns R=>by rw [h1];exact sV h3
      have hf:=KG hn hres hz hcz ZaW hk3
      have vd:∀n ns R,fQ R→nestD n (ns,cY (.func t) (one z kz)++R)=jd (1+(one z kz).dep) n (ns.length+(one z kz).len) (st ns (one (.func t) (one z kz)),R):=fun n ns R hR=>(hf n ns R hR).2
      refine tZ rfl hh (fun _=>vd) (fun n ns R hR=>?_)
      refine uC rfl rfl hh (fun ns R=>.inr ?_) vd n ns R hR
      show names (ns,W1 t::O2 [40]::O2 [41]::(aX (aD z kz.aJ kz.acts)++R))=true
      show (true && true && eG t)=true
      rw [hn];rfl
   · exact Gw r hr pr x k h
theorem OZ {k:F} (hw:(one .seq k).wf) (hp:(one .seq k).plain) (n:Nat):aO (nestD n) true ([],cY .seq k++[⟨4,[],[],0⟩])=jd k.dep n k.len ((one .seq k).flat 0,[⟨4,[],[],0⟩]):=by
 have h:=(Gw (one .seq k) hw hp .seq k List.mem_cons_self).list rfl n [] [⟨4,[],[],0⟩] true [] ⟨_,_,rfl,by show (4:Nat)≠3;decide,rfl,rfl⟩ (.inl rfl) (fun h=>(by cases h))
 rw [List.nil_append] at h
 rw [h]
 refine ym rfl (by show 0+k.len=_;omega) ?_
 show (([]:List Nd)++(one .seq k).flat 0,_)=_
 rw [List.nil_append]
end Go.Proofs.YtiklkhbfilbpeaaGreatDoor.Un
