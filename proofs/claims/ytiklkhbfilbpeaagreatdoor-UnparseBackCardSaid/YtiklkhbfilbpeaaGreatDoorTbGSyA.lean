import Derived.Test.YtiklkhbfilbpeaaGreatDoorTbLxName
set_option maxRecDepth 100000
set_option maxHeartbeats 16000000
set_option linter.unusedVariables false
set_option linter.unusedSimpArgs false
namespace Go.Proofs.YtiklkhbfilbpeaaGreatDoor.Sy
open Lx
structure dZ where
 fd:Nat
 o:Nm
 w:Nm
 b:Nm
 deriving DecidableEq
structure Nd where
 k:Nat
 t:Nm:=[]
 fl:Bool:=false
 ws:List Nm:=[]
 st:Nat:=0
 rs:List dZ:=[]
 ks:List Nat:=[]
 ln:Nat
 deriving DecidableEq
abbrev S:=List Nd × List Tok
abbrev P (α:Type):=Except (Int × Nat) (α × S)
def bd {α β:Type}:P α→(α→S→P β)→P β
 | .error e,_=>.error e
 | .ok x,f=>f x.1 x.2
@[simp] theorem bJ {α β:Type} (a:α) (s:S) (f:α→S→P β):bd (.ok (a,s)) f=f a s:=rfl
@[simp] theorem GI {α β:Type} (e:Int × Nat) (f:α→S→P β):bd (.error e) f=.error e:=rfl
def nx (s:S):Tok:=s.2.headD ⟨4,[],[],0⟩
def er {α:Type} (e:Int) (s:S):P α:=.error (e,(nx s).ln)
def tk (s:S):S:=if (nx s).k=4 then s else (s.1,s.2.tail)
def aV (k:Nat) (ts:List Nm) (s:S):Bool:=decide ((nx s).k=k) && ts.contains (nx s).t
def aP (k:Nat) (ts:List Nm) (s:S):P Unit:=if aV k ts s then .ok ((),tk s) else er 20 s
def cC (s:S):P Nm:=if (nx s).k=1 then .ok ((nx s).t,tk s) else er 20 s
def dJ:List Tok→List Tok
 | []=>[]
 | t::l=>if t.k=3 then dJ l else t::l
def bj (s:S):S:=(s.1,dJ s.2)
def bC (n:Nd) (s:S):P Nat:=.ok (s.1.length,(s.1++[n],s.2))
abbrev mr:List Nm:=[[33],[123],[125],[99,97,115,101],[100,111],[100,111,110,101],[101,108,105,102],[101,108,115,101],[101,115,97,99],[102,105],[102,111,114],[105,102],[116,104,101,110],[117,110,116,105,108],[119,104,105,108,101]]
def begins (s:S):Bool:=
 if (nx s).k=1 then !mr.contains (nx s).t || [[33],[123],[99,97,115,101],[102,111,114],[105,102],[117,110,116,105,108],[119,104,105,108,101]].contains (nx s).t
 else if (nx s).k=2 then [[40],[60],[62],[60,60],[62,62]].contains (nx s).t
 else decide ((nx s).k=5)
def cV {α:Type} (cond:S→Bool) (step:α→S→P α):Nat→α→S→P α
 | 0,a,s=>.ok (a,s)
 | f+1,a,s=>if cond s then bd (step a s) (cV cond step f) else .ok (a,s)
def aB {α:Type} (cond:S→Bool) (step:α→S→P α) (a:α) (s:S):P α:=cV cond step s.2.length a s
def aF (s:S):Bool:=decide ((nx s).k=5) || aV 2 [[60],[62],[60,60],[62,62]] s
def num (w:Nm):Nat:=w.foldl (fun n c=>n * 10+(c.toNat - 48)) 0
def cF (s:S):P dZ:=
 let io:=decide ((nx s).k=5)
 let s1:=if io then tk s else s
 let op:=(nx s1).t
 let fd:=if io then min (num (nx s).t) 99 else if op.head? =some 60 then 0 else 1
 let s2:=tk s1
 bd (cC s2) fun w s3=>.ok (⟨fd,op,w,(nx s2).b⟩,s3)
def eA (s:S):P (List dZ):=aB aF (fun l s=>bd (cF s) fun x s=>.ok (l++[x],s)) [] s
def fk (n:Nd) (w:Nm):Nd:={ n with ws:=n.ws++[w],st:=if (k7 w).2.2∧n.st=n.ws.length then n.st+1 else n.st }
def cG (s:S):P Nat:=
 bd (aB (fun s=>aF s || decide ((nx s).k=1)) (fun n s=>if aF s then bd (cF s) fun x s=>.ok ({ n with rs:=n.rs++[x] },s) else bd (cC s) fun w s=>.ok (fk n w,s)) ({ k:=1,ln:=(nx s).ln }:Nd) s) bC
def aL (s:S):Bool:=aV 2 [[40]] s || ([[123],[105,102],[119,104,105,108,101],[117,110,116,105,108],[102,111,114],[99,97,115,101]].contains (nx s).t && decide ((nx s).k=1))
def names (s:S):Bool:=decide ((nx s).k=1) && (match s.2 with
 | _::t::_::_=>decide (t.k=2) && decide (t.t=[40])
 | _=>false) && eG (nx s).t
def gm (nest:S→P Nat) (s:S):P Nat:=if begins s=false∨aV 1 [[33]] s=true then er 20 s else if aL s=false∧names s=false then cG s else nest s
def dt (nest:S→P Nat) (s:S):P Nat:=
 let fl:=aV 1 [[33]] s
 let s1:=if fl then tk s else s
 bd (gm nest s1) fun k s2=>bd (aB (aV 2 [[124]]) (fun l s=>bd (gm nest (bj (tk s))) fun k s=>.ok (l++[k],s)) [k] s2) fun ks s3=>
  if fl=false∧ks.length=1 then .ok (k,s3) else bC { k:=2,fl:=fl,ks:=ks,ln:=(nx s).ln } s3
def cx (nest:S→P Nat) (s:S):P Nat:=
 bd (dt nest s) fun k s1=>aB (aV 2 [[38,38],[124,124]]) (fun k s2=>bd (dt nest (bj (tk s2))) fun k2 s3=>bC { k:=if (nx s2).t=[124,124] then 4 else 3,ks:=[k,k2],ln:=(nx s).ln } s3) k s1
def eD (nest:S→P Nat):Nat→List Nat→S→P (List Nat)
 | 0,ks,s=>.ok (ks,s)
 | f+1,ks,s=>if begins s then bd (cx nest s) fun k s1=>
    if aV 2 [[59]] s1=false∧(nx s1).k≠3 then .ok (ks++[k],s1) else eD nest f (ks++[k]) (bj (tk s1))
   else .ok (ks,s)
def aO (nest:S→P Nat) (em:Bool) (s:S):P Nat:=
 bd (eD nest s.2.length [] (bj s)) fun ks s1=>if ks=[]∧em=false then er 20 s1 else bC { k:=5,ks:=ks,ln:=(nx (bj s)).ln } s1
def cv (nest:S→P Nat) (s:S):P Nat:=bd (aP 1 [[100,111]] s) fun _ s=>bd (aO nest false s) fun k s=>bd (aP 1 [[100,111,110,101]] s) fun _ s=>.ok (k,s)
def eV (nest:S→P Nat) (ln:Nat) (s:S):P Nd:=bd (aO nest false (tk s)) fun k s=>bd (aP 1 [[125]] s) fun _ s=>.ok ({ k:=11,ks:=[k],ln:=ln },s)
def mP (nest:S→P Nat) (ln:Nat) (s:S):P Nd:=bd (aO nest false (tk s)) fun k s=>bd (aP 2 [[41]] s) fun _ s=>.ok ({ k:=12,ks:=[k],ln:=ln },s)
def eW (nest:S→P Nat):Nat→Nat→S→P Nd
 | 0,ln,s=>er 20 s
 | f+1,ln,s=>bd (aO nest false (tk s)) fun c s=>bd (aP 1 [[116,104,101,110]] s) fun _ s=>bd (aO nest false s) fun b s=>
    if aV 1 [[101,108,105,102]] s then bd (eW nest f (nx s).ln s) fun n s=>bd (bC n s) fun k s=>.ok ({ k:=6,ks:=[c,b,k],ln:=ln },s)
    else if aV 1 [[101,108,115,101]] s then bd (aO nest false (tk s)) fun k s=>bd (aP 1 [[102,105]] s) fun _ s=>.ok ({ k:=6,ks:=[c,b,k],ln:=ln },s)
    else bd (aP 1 [[102,105]] s) fun _ s=>.ok ({ k:=6,ks:=[c,b],ln:=ln },s)
def iR (nest:S→P Nat) (ln:Nat) (s:S):P Nd:=eW nest s.2.length ln s
def iw (nest:S→P Nat) (ln:Nat) (s:S):P Nd:=
 bd (aO nest false (tk s)) fun c s1=>bd (cv nest s1) fun b s2=>.ok ({ k:=7,fl:=decide ((nx s).t=[117,110,116,105,108]),ks:=[c,b],ln:=ln },s2)
def eT (nest:S→P Nat) (ln:Nat) (s:S):P Nd:=
 let s:=tk s
 if eG (nx s).t=false then er 20 s else bd (cC s) fun t s=>
  if aV 2 [[59]] s then bd (cv nest (bj (tk s))) fun b s=>.ok ({ k:=8,t:=t,fl:=true,ks:=[b],ln:=ln },s)
  else
   let s:=bj s
   if aV 1 [[105,110]] s then bd (aB (fun s=>decide ((nx s).k=1)) (fun l s=>bd (cC s) fun w s=>.ok (l++[w],s)) [] (tk s)) fun ws s=>
    if aV 2 [[59]] s=false∧(nx s).k≠3 then er 20 s else bd (cv nest (bj (tk s))) fun b s=>.ok ({ k:=8,t:=t,ws:=ws,ks:=[b],ln:=ln },s)
   else bd (cv nest s) fun b s=>.ok ({ k:=8,t:=t,fl:=true,ks:=[b],ln:=ln },s)
def cA (nest:S→P Nat) (s:S):P Nat:=
 bd (cC (if aV 2 [[40]] s then tk s else s)) fun w s1=>bd (aB (aV 2 [[124]]) (fun l s=>bd (cC (tk s)) fun w s=>.ok (l++[w],s)) [w] s1) fun ws s2=>
  bd (aP 2 [[41]] s2) fun _ s3=>bd (aO nest true s3) fun k s4=>bC { k:=10,ws:=ws,ks:=[k],ln:=(nx s).ln } s4
def dL (nest:S→P Nat):Nat→List Nat→S→P (List Nat)
 | 0,ks,s=>.ok (ks,s)
 | f+1,ks,s=>if aV 1 [[101,115,97,99]] s then .ok (ks,s) else bd (cA nest s) fun k s=>
    if aV 2 [[59,59]] s then dL nest f (ks++[k]) (bj (tk s)) else .ok (ks++[k],s)
def dY (nest:S→P Nat) (ks:List Nat) (s:S):P (List Nat):=dL nest (s.2.length+1) ks s
def eQ (nest:S→P Nat) (ln:Nat) (s:S):P Nd:=
 bd (cC (tk s)) fun t s=>bd (aP 1 [[105,110]] (bj s)) fun _ s=>bd (dY nest [] (bj s)) fun ks s=>bd (aP 1 [[101,115,97,99]] s) fun _ s=>
  .ok ({ k:=9,t:=t,ks:=ks,ln:=ln },s)
def fU (nest:S→P Nat) (ln:Nat) (s:S):P Nd:=
 bd (cC s) fun t s=>bd (aP 2 [[40]] s) fun _ s=>bd (aP 2 [[41]] s) fun _ s=>
  let s:=bj s
  if aL s=false then er 20 s else bd (nest s) fun k s=>.ok ({ k:=13,t:=t,ks:=[k],ln:=ln },s)
def dF (nest:S→P Nat) (ln:Nat) (s:S):P Nd:=
 if aV 2 [[40]] s then mP nest ln s
 else if (nx s).t=[123] then eV nest ln s
 else if (nx s).t=[105,102] then iR nest ln s
 else if (nx s).t=[102,111,114] then eT nest ln s
 else if (nx s).t=[99,97,115,101] then eQ nest ln s
 else iw nest ln s
def nestD:Nat→S→P Nat
 | 0,s=>er 21 s
 | n+1,s=>
   if aL s then bd (dF (nestD n) (nx s).ln s) fun x s=>bd (eA s) fun rs s=>bC { x with rs:=rs } s
   else bd (fU (nestD n) (nx s).ln s) bC
def cI (s:Nm):Except (Int × Nat) (List Nd):=match allM s with
 | .error x=>.error x
 | .ok l=>match aO (nestD 40) true ([],l) with
   | .error x=>.error x
   | .ok x=>if (nx x.2).k≠4 then .error (20,(nx x.2).ln) else .ok x.2.1
def dB {α:Type} (s:S) (x:P α):Prop:=∀y,x=.ok y→y.2.2.length≤s.2.length
theorem kD {α:Type} {e:Int} {s t:S}:dB (α:=α) s (er e t):=fun y h=>by cases h
theorem bL {α:Type} {a:α} {s t:S} (h:t.2.length≤s.2.length):dB s (.ok (a,t)):=fun y e=>by injection e with e;subst e;exact h
theorem aS {α β:Type} {s:S} {x:P α} {f:α→S→P β} (h:dB s x) (hf:∀a t,t.2.length≤s.2.length→dB t (f a t)):dB s (bd x f):=by
 cases x with
 | error e=>exact fun y h=>by cases h
 | ok x=>
   have h1:=h x rfl
   exact fun y e=>Nat.le_trans (hf x.1 x.2 h1 y e) h1
theorem qj {α:Type} {s t:S} {x:P α} (h:dB t x) (ht:t.2.length≤s.2.length):dB s x:=fun y e=>Nat.le_trans (h y e) ht
theorem mR (s:S):(tk s).2.length≤s.2.length:=by
 unfold tk
 split
 · exact Nat.le_refl _
 · simp
theorem eJ {s:S} (h:(nx s).k≠4):(tk s).2.length < s.2.length:=by
 unfold tk
 rw [if_neg h]
 obtain ⟨n,l⟩:=s
 cases l with
 | nil=>exact absurd rfl h
 | cons t l=>simp
theorem DB:∀l:List Tok,(dJ l).length≤l.length
 | []=>Nat.le_refl _
 | t::l=>by
   unfold dJ
   split
   · have:=DB l;simp;omega
   · exact Nat.le_refl _
theorem ew (s:S):(bj s).2.length≤s.2.length:=DB s.2
theorem dD {k:Nat} {ts:List Nm} {s:S} (h:aV k ts s=true):(nx s).k=k:=by
 unfold aV at h
 simp at h
 exact h.1
theorem bS {k:Nat} {ts:List Nm} {s:S}:dB s (aP k ts s):=by
 unfold aP
 split
 · exact bL (mR s)
 · exact kD
theorem gP {s:S}:dB s (cC s):=by
 unfold cC
 split
 · exact bL (mR s)
 · exact kD
theorem iZ {n:Nd} {s:S}:dB s (bC n s):=bL (Nat.le_refl _)
theorem zw {α:Type} {cond:S→Bool} {step:α→S→P α} (h:∀a s,dB s (step a s)):∀(f:Nat) (a:α) (s:S),dB s (cV cond step f a s)
 | 0,a,s=>bL (Nat.le_refl _)
 | f+1,a,s=>by
   unfold cV
   split
   · exact aS (h a s) fun a t ht=>zw h f a t
   · exact bL (Nat.le_refl _)
theorem js {α:Type} {cond:S→Bool} {step:α→S→P α} (h:∀a s,dB s (step a s)) (a:α) (s:S):dB s (aB cond step a s):=zw h _ a s
def pA {α:Type} (cond:S→Bool) (step:α→S→P α):Prop:=∀a s x,cond s=true→step a s=.ok x→x.2.2.length < s.2.length
theorem I6 {α:Type} {cond:S→Bool} {step:α→S→P α} (h:pA cond step) (h0:∀s,cond s=true→s.2≠[]):∀(f g:Nat) (a:α) (s:S),s.2.length≤f→s.2.length≤g→cV cond step f a s=cV cond step g a s
 | 0,0,a,s,_,_=>rfl
 | 0,g+1,a,s,hf,_=>by
   have hs:s.2=[]:=List.length_eq_zero_iff.1 (Nat.le_zero.1 hf)
   unfold cV
   rw [if_neg (fun hc=>h0 s hc hs)]
 | f+1,0,a,s,_,hg=>by
   have hs:s.2=[]:=List.length_eq_zero_iff.1 (Nat.le_zero.1 hg)
   unfold cV
   rw [if_neg (fun hc=>h0 s hc hs)]
 | f+1,g+1,a,s,hf,hg=>by
   unfold cV
   split
   ·
    rename_i hc
    cases he:step a s with
    | error e=>rfl
    | ok x=>
      have:=h a s x hc he
      exact I6 h h0 f g x.1 x.2 (by omega) (by omega)
   · rfl
theorem bF {α:Type} {cond:S→Bool} {step:α→S→P α} (h:pA cond step) (h0:∀s,cond s=true→s.2≠[]) (a:α) (s:S):aB cond step a s=if cond s then bd (step a s) (aB cond step) else .ok (a,s):=by
 unfold aB
 cases hl:s.2.length with
 | zero=>
   have hs:s.2=[]:=List.length_eq_zero_iff.1 hl
   rw [if_neg (fun hc=>h0 s hc hs)]
   rfl
 | succ n=>
   rw [cV]
   split
   ·
    rename_i hc
    cases he:step a s with
    | error e=>rfl
    | ok x=>
      have:=h a s x hc he
      exact I6 h h0 _ _ x.1 x.2 (by omega) (Nat.le_refl _)
   · rfl
theorem fw {α:Type} {s:S} {x:P α} (h:dB (tk s) x):dB s x:=qj h (mR s)
theorem fY {α:Type} {s:S} {x:P α} (h:dB (bj s) x):dB s x:=qj h (ew s)
theorem wI (s:S):dB s (cF s):=by
 unfold cF
 simp only
 refine qj (t:=tk (if decide ((nx s).k=5)=true then tk s else s)) (aS gP fun w t ht=>bL (Nat.le_refl _)) ?_
 split
 · exact Nat.le_trans (mR _) (mR _)
 · exact mR _
theorem uH (s:S):dB s (eA s):=js (fun l s=>aS (wI s) fun x t _=>bL (Nat.le_refl _)) _ s
theorem C3 (s:S):dB s (cG s):=by
 unfold cG
 refine aS (js (fun n s=>?_) _ s) fun n t _=>iZ
 split
 · exact aS (wI s) fun x t _=>bL (Nat.le_refl _)
 · exact aS gP fun x t _=>bL (Nat.le_refl _)
theorem pM {s:S} (h:begins s=true):(nx s).k≠4:=fun e=>by
 unfold begins at h
 rw [if_neg (by omega),if_neg (by omega)] at h
 simp [e] at h
section
variable {nest:S→P Nat} (hn:∀s,dB s (nest s))
include hn
theorem sQ (s:S):dB s (gm nest s):=by
 unfold gm
 split
 · exact kD
 ·
  split
  · exact C3 s
  · exact hn s
theorem pR (s:S):dB s (dt nest s):=by
 unfold dt
 simp only
 refine qj (t:=if aV 1 [[33]] s=true then tk s else s) (aS (sQ hn _) fun k t _=>aS (js (fun l u=>fw (fY (aS (sQ hn _) fun k v _=>bL (Nat.le_refl _)))) _ _) fun ks u _=>?_) ?_
 ·
  split
  · exact bL (Nat.le_refl _)
  · exact iZ
 ·
  split
  · exact mR s
  · exact Nat.le_refl _
theorem jo (s:S):dB s (cx nest s):=by
 unfold cx
 exact aS (pR hn s) fun k t _=>js (fun l u=>fw (fY (aS (pR hn _) fun k v _=>iZ))) _ _
theorem xF:∀(f:Nat) (ks:List Nat) (s:S),dB s (eD nest f ks s)
 | 0,ks,s=>bL (Nat.le_refl _)
 | f+1,ks,s=>by
   unfold eD
   split
   ·
    refine aS (jo hn s) fun k t _=>?_
    split
    · exact bL (Nat.le_refl _)
    · exact fw (fY (xF f _ _))
   · exact bL (Nat.le_refl _)
theorem bP (em:Bool) (s:S):dB s (aO nest em s):=by
 unfold aO
 refine fY (aS (xF hn _ _ _) fun ks t _=>?_)
 split
 · exact kD
 · exact iZ
theorem pF:∀(f g:Nat) (ks:List Nat) (s:S),s.2.length≤f→s.2.length≤g→eD nest f ks s=eD nest g ks s
 | 0,0,ks,s,_,_=>rfl
 | 0,g+1,ks,s,hf,_=>by
   have hs:s.2=[]:=List.length_eq_zero_iff.1 (Nat.le_zero.1 hf)
   have hb:¬begins s=true:=fun h=>by
    have:=eJ (pM h)
    rw [hs] at this
    simp at this
   unfold eD
   rw [if_neg hb]
 | f+1,0,ks,s,_,hg=>by
   have hs:s.2=[]:=List.length_eq_zero_iff.1 (Nat.le_zero.1 hg)
   have hb:¬begins s=true:=fun h=>by
    have:=eJ (pM h)
    rw [hs] at this
    simp at this
   unfold eD
   rw [if_neg hb]
 | f+1,g+1,ks,s,hf,hg=>by
   unfold eD
   split
   ·
    cases he:cx nest s with
    | error e=>rfl
    | ok x=>
      have h1:x.2.2.length≤s.2.length:=jo hn s x he
      obtain ⟨k,t⟩:=x
      simp only [bJ]
      split
      · rfl
      ·
       rename_i hc
       have h4:(nx t).k≠4:=fun e=>hc ⟨by
        cases hi:aV 2 [[59]] t with
        | false=>rfl
        | true=>have:=dD hi;omega,by omega⟩
       have h2:=eJ h4
       have h3:=ew (tk t)
       simp only at h1
       exact pF f g _ _ (by omega) (by omega)
   · rfl
def runM (nest:S→P Nat) (ks:List Nat) (s:S):P (List Nat):=eD nest s.2.length ks s
theorem run_eq (ks:List Nat) (s:S):runM nest ks s=if begins s then bd (cx nest s) fun k s1=>
 if aV 2 [[59]] s1=false∧(nx s1).k≠3 then .ok (ks++[k],s1) else runM nest (ks++[k]) (bj (tk s1))
 else .ok (ks,s):=by
 unfold runM
 rw [pF hn s.2.length (s.2.length+1) ks s (Nat.le_refl _) (by omega)]
 rw [eD]
 split
 ·
  cases he:cx nest s with
  | error e=>rfl
  | ok x=>
    have h1:x.2.2.length≤s.2.length:=jo hn s x he
    obtain ⟨k,t⟩:=x
    simp only [bJ]
    simp only at h1
    split
    · rfl
    ·
     have h2:=mR t
     have h3:=ew (tk t)
     exact pF hn _ _ _ _ (by omega) (Nat.le_refl _)
 · rfl
theorem qg (s:S):dB s (cv nest s):=by
 unfold cv
 exact aS bS fun _ t _=>aS (bP hn false t) fun k u _=>aS bS fun _ v _=>bL (Nat.le_refl _)
theorem GU (ln:Nat) (s:S):dB s (eV nest ln s):=by
 unfold eV
 exact fw (aS (bP hn false _) fun k u _=>aS bS fun _ v _=>bL (Nat.le_refl _))
theorem L5 (ln:Nat) (s:S):dB s (mP nest ln s):=by
 unfold mP
 exact fw (aS (bP hn false _) fun k u _=>aS bS fun _ v _=>bL (Nat.le_refl _))
theorem tE:∀(f ln:Nat) (s:S),dB s (eW nest f ln s)
 | 0,ln,s=>kD
 | f+1,ln,s=>by
   unfold eW
   refine fw (aS (bP hn false _) fun c t _=>aS bS fun _ u _=>aS (bP hn false _) fun b v _=>?_)
   split
   · exact aS (tE f _ v) fun n w _=>aS iZ fun k x _=>bL (Nat.le_refl _)
   ·
    split
    · exact fw (aS (bP hn false _) fun k w _=>aS bS fun _ x _=>bL (Nat.le_refl _))
    · exact aS bS fun _ x _=>bL (Nat.le_refl _)
theorem J6 (ln:Nat) (s:S):dB s (iw nest ln s):=by
 unfold iw
 exact fw (aS (bP hn false _) fun c t _=>aS (qg hn t) fun b u _=>bL (Nat.le_refl _))
theorem iq (s:S):dB s (cA nest s):=by
 unfold cA
 refine qj (t:=if aV 2 [[40]] s=true then tk s else s) (aS gP fun w t _=>aS (js (fun l u=>fw (aS gP fun w v _=>bL (Nat.le_refl _))) _ _) fun ws u _=>aS bS fun _ v _=>aS (bP hn true v) fun k w _=>iZ) ?_
 split
 · exact mR s
 · exact Nat.le_refl _
theorem yg:∀(f:Nat) (ks:List Nat) (s:S),dB s (dL nest f ks s)
 | 0,ks,s=>bL (Nat.le_refl _)
 | f+1,ks,s=>by
   unfold dL
   split
   · exact bL (Nat.le_refl _)
   ·
    refine aS (iq hn s) fun k t _=>?_
    split
    · exact fw (fY (yg f _ _))
    · exact bL (Nat.le_refl _)
theorem Gj (ln:Nat) (s:S):dB s (eQ nest ln s):=by
 unfold eQ
 exact fw (aS gP fun t u _=>fY (aS bS fun _ v _=>fY (qj (aS (yg hn _ _ _) fun ks w _=>aS bS fun _ x _=>bL (Nat.le_refl _)) (Nat.le_refl _))))
theorem zF:∀(f g:Nat) (ks:List Nat) (s:S),s.2.length≤f→s.2.length≤g→dL nest (f+1) ks s=dL nest (g+1) ks s:=by
 intro f
 induction f with
 | zero=>
   intro g ks s hf hg
   have key:∀f,dL nest (f+1) ks s=if aV 1 [[101,115,97,99]] s then .ok (ks,s) else bd (cA nest s) fun k s=>if aV 2 [[59,59]] s then dL nest f (ks++[k]) (bj (tk s)) else .ok (ks++[k],s):=fun f=>rfl
   rw [key,key]
   split
   · rfl
   ·
    cases he:cA nest s with
    | error e=>rfl
    | ok x=>
      have h1:=iq hn s x he
      obtain ⟨k,t⟩:=x
      simp only [bJ]
      simp only at h1
      split
      ·
       rename_i hi
       have:=eJ (s:=t) (by rw [dD hi];decide)
       omega
      · rfl
 | succ f ih=>
   intro g ks s hf hg
   have key:∀f,dL nest (f+1) ks s=if aV 1 [[101,115,97,99]] s then .ok (ks,s) else bd (cA nest s) fun k s=>if aV 2 [[59,59]] s then dL nest f (ks++[k]) (bj (tk s)) else .ok (ks++[k],s):=fun f=>rfl
   rw [key,key]
   split
   · rfl
   ·
    cases he:cA nest s with
    | error e=>rfl
    | ok x=>
      have h1:=iq hn s x he
      obtain ⟨k,t⟩:=x
      simp only [bJ]
      simp only at h1
      split
      ·
       rename_i hi
       have h2:=eJ (s:=t) (by rw [dD hi];decide)
       have h3:=ew (tk t)
       cases g with
       | zero=>omega
       | succ g=>exact ih g _ _ (by omega) (by omega)
      · rfl
theorem kN (ks:List Nat) (s:S):dY nest ks s=if aV 1 [[101,115,97,99]] s then .ok (ks,s) else bd (cA nest s) fun k s=>if aV 2 [[59,59]] s then dY nest (ks++[k]) (bj (tk s)) else .ok (ks++[k],s):=by
 unfold dY
 rw [dL]
 split
 · rfl
 ·
  cases he:cA nest s with
  | error e=>rfl
  | ok x=>
    have h1:=iq hn s x he
    obtain ⟨k,t⟩:=x
    simp only [bJ]
    simp only at h1
    split
    ·
     rename_i hi
     have h2:=eJ (s:=t) (by rw [dD hi];decide)
     have h3:=ew (tk t)
     cases hl:s.2.length with
     | zero=>omega
     | succ n=>exact zF hn n _ _ _ (by omega) (Nat.le_refl _)
    · rfl
theorem Js (ln:Nat) (s:S):dB s (eT nest ln s):=by
 unfold eT
 refine fw ?_
 simp only
 split
 · exact kD
 ·
  refine aS gP fun t u _=>?_
  split
  · exact fw (fY (aS (qg hn _) fun b v _=>bL (Nat.le_refl _)))
  ·
   refine fY ?_
   split
   ·
    refine fw (aS (js (fun l u=>aS gP fun w v _=>bL (Nat.le_refl _)) _ _) fun ws v _=>?_)
    split
    · exact kD
    · exact fw (fY (aS (qg hn _) fun b v _=>bL (Nat.le_refl _)))
   · exact aS (qg hn _) fun b v _=>bL (Nat.le_refl _)
theorem JN (ln:Nat) (s:S):dB s (fU nest ln s):=by
 unfold fU
 refine aS gP fun t u _=>aS bS fun _ v _=>aS bS fun _ w _=>fY ?_
 simp only
 split
 · exact kD
 · exact aS (hn _) fun k x _=>bL (Nat.le_refl _)
theorem Jv (ln:Nat) (s:S):dB s (dF nest ln s):=by
 unfold dF
 split
 · exact L5 hn ln s
 ·
  split
  · exact GU hn ln s
  ·
   split
   · exact tE hn _ ln s
   ·
    split
    · exact Js hn ln s
    ·
     split
     · exact Gj hn ln s
     · exact J6 hn ln s
end
theorem dh:∀(n:Nat) (s:S),dB s (nestD n s)
 | 0,s=>kD
 | n+1,s=>by
   unfold nestD
   split
   · exact aS (Jv (dh n) _ s) fun x t _=>aS (uH t) fun rs u _=>iZ
   · exact aS (JN (dh n) _ s) fun x t _=>iZ
section
variable {nest:S→P Nat} (hn:∀s,dB s (nest s))
include hn
theorem CB:∀(f g ln:Nat) (s:S),(tk s).2.length≤f→(tk s).2.length≤g→eW nest (f+1) ln s=eW nest (g+1) ln s
 | 0,g,ln,s,hf,hg=>by
   have key:∀f,eW nest (f+1) ln s=bd (aO nest false (tk s)) fun c s=>bd (aP 1 [[116,104,101,110]] s) fun _ s=>bd (aO nest false s) fun b s=>
    if aV 1 [[101,108,105,102]] s then bd (eW nest f (nx s).ln s) fun n s=>bd (bC n s) fun k s=>.ok ({ k:=6,ks:=[c,b,k],ln:=ln },s)
    else if aV 1 [[101,108,115,101]] s then bd (aO nest false (tk s)) fun k s=>bd (aP 1 [[102,105]] s) fun _ s=>.ok ({ k:=6,ks:=[c,b,k],ln:=ln },s)
    else bd (aP 1 [[102,105]] s) fun _ s=>.ok ({ k:=6,ks:=[c,b],ln:=ln },s):=fun f=>rfl
   rw [key,key]
   cases hc:aO nest false (tk s) with
   | error e=>rfl
   | ok x=>
     obtain ⟨c,t⟩:=x
     have h1:=bP hn false _ _ hc
     simp only [bJ]
     simp only at h1
     cases hd:aP 1 [[116,104,101,110]] t with
     | error e=>rfl
     | ok y=>
       have h2:=bS _ hd
       obtain ⟨_,u⟩:=y
       simp only [bJ]
       simp only at h2
       cases he:aO nest false u with
       | error e=>rfl
       | ok z=>
         obtain ⟨b,v⟩:=z
         have h3:=bP hn false _ _ he
         simp only [bJ]
         simp only at h3
         split
         ·
          rename_i hi
          have h4:=eJ (s:=v) (by rw [dD hi];decide)
          omega
         · rfl
 | f+1,g,ln,s,hf,hg=>by
   have key:∀f,eW nest (f+1) ln s=bd (aO nest false (tk s)) fun c s=>bd (aP 1 [[116,104,101,110]] s) fun _ s=>bd (aO nest false s) fun b s=>
    if aV 1 [[101,108,105,102]] s then bd (eW nest f (nx s).ln s) fun n s=>bd (bC n s) fun k s=>.ok ({ k:=6,ks:=[c,b,k],ln:=ln },s)
    else if aV 1 [[101,108,115,101]] s then bd (aO nest false (tk s)) fun k s=>bd (aP 1 [[102,105]] s) fun _ s=>.ok ({ k:=6,ks:=[c,b,k],ln:=ln },s)
    else bd (aP 1 [[102,105]] s) fun _ s=>.ok ({ k:=6,ks:=[c,b],ln:=ln },s):=fun f=>rfl
   rw [key,key]
   cases hc:aO nest false (tk s) with
   | error e=>rfl
   | ok x=>
     obtain ⟨c,t⟩:=x
     have h1:=bP hn false _ _ hc
     simp only [bJ]
     simp only at h1
     cases hd:aP 1 [[116,104,101,110]] t with
     | error e=>rfl
     | ok y=>
       have h2:=bS _ hd
       obtain ⟨_,u⟩:=y
       simp only [bJ]
       simp only at h2
       cases he:aO nest false u with
       | error e=>rfl
       | ok z=>
         obtain ⟨b,v⟩:=z
         have h3:=bP hn false _ _ he
         simp only [bJ]
         simp only at h3
         split
         ·
          rename_i hi
          have h4:=eJ (s:=v) (by rw [dD hi];decide)
          cases g with
          | zero=>omega
          | succ g=>rw [CB f g (nx v).ln v (by omega) (by omega)]
         · rfl
theorem sR (ln:Nat) (s:S) (h:(nx s).k≠4):iR nest ln s=bd (aO nest false (tk s)) fun c s=>bd (aP 1 [[116,104,101,110]] s) fun _ s=>bd (aO nest false s) fun b s=>
 if aV 1 [[101,108,105,102]] s then bd (iR nest (nx s).ln s) fun n s=>bd (bC n s) fun k s=>.ok ({ k:=6,ks:=[c,b,k],ln:=ln },s)
 else if aV 1 [[101,108,115,101]] s then bd (aO nest false (tk s)) fun k s=>bd (aP 1 [[102,105]] s) fun _ s=>.ok ({ k:=6,ks:=[c,b,k],ln:=ln },s)
 else bd (aP 1 [[102,105]] s) fun _ s=>.ok ({ k:=6,ks:=[c,b],ln:=ln },s):=by
 have hlt:=eJ h
 unfold iR
 cases hl:s.2.length with
 | zero=>omega
 | succ f=>
   rw [eW]
   cases hc:aO nest false (tk s) with
   | error e=>rfl
   | ok x=>
     obtain ⟨c,t⟩:=x
     have h1:=bP hn false _ _ hc
     simp only [bJ]
     simp only at h1
     cases hd:aP 1 [[116,104,101,110]] t with
     | error e=>rfl
     | ok y=>
       have h2:=bS _ hd
       obtain ⟨_,u⟩:=y
       simp only [bJ]
       simp only at h2
       cases he:aO nest false u with
       | error e=>rfl
       | ok z=>
         obtain ⟨b,v⟩:=z
         have h3:=bP hn false _ _ he
         simp only [bJ]
         simp only at h3
         split
         ·
          rename_i hi
          have h4:=eJ (s:=v) (by rw [dD hi];decide)
          cases f with
          | zero=>omega
          | succ f=>
            cases hv:v.2.length with
            | zero=>omega
            | succ g=>rw [CB hn f g (nx v).ln v (by omega) (by omega)]
         · rfl
end
def cnt (ns:List Nd) (R:List Nat) (i:Nat):Nat:=(ns.map fun n=>n.ks.count i).sum+R.count i
def Fits (n:Nd):Prop:=
 (n.k=1∧n.ks=[]∧0 < n.ws.length+n.rs.length∧n.st≤n.ws.length)∨
 (n.k=2∧(1 < n.ks.length∨(n.ks.length=1∧n.fl=true)))∨
 ((n.k=3∨n.k=4∨n.k=7)∧n.ks.length=2)∨
 (n.k=6∧(n.ks.length=2∨n.ks.length=3))∨
 ((n.k=8∨n.k=10∨n.k=11∨n.k=12∨n.k=13)∧n.ks.length=1)∨
 (n.k=5∨n.k=9)
structure Inv (ns:List Nd) (R:List Nat):Prop where
 one:∀i,cnt ns R i=if i < ns.length then 1 else 0
 kids:∀(j:Nat) (h:j < ns.length),∀k∈ns[j].ks,k < j
 fits:∀n∈ns,Fits n
theorem P5:Inv [] []:=⟨fun i=>rfl,fun j h=>absurd h (Nat.not_lt_zero _),fun n h=>absurd h List.not_mem_nil⟩
theorem Inv.perm {ns:List Nd} {R R':List Nat} (h:Inv ns R) (hp:∀i,R'.count i=R.count i):Inv ns R':=
 ⟨fun i=>by have:=h.one i;unfold cnt at this ⊢;rw [hp];exact this,h.kids,h.fits⟩
theorem Inv.put {ns:List Nd} {R:List Nat} {n:Nd} (h:Inv ns (n.ks++R)) (hf:Fits n):Inv (ns++[n]) (ns.length::R):=by
 have hk:∀k∈n.ks,k < ns.length:=fun k hk=>by
  have h1:=h.one k
  have h2:0 < (n.ks++R).count k:=List.count_pos_iff.2 (List.mem_append_left _ hk)
  unfold cnt at h1
  split at h1
  · assumption
  · omega
 refine ⟨fun i=>?_,fun j hj k hk2=>?_,fun m hm=>?_⟩
 ·
  have h1:=h.one i
  unfold cnt at h1 ⊢
  rw [List.count_append] at h1
  rw [List.map_append,List.sum_append,List.map_cons,List.map_nil,List.sum_cons,List.sum_nil,List.count_cons,List.length_append,List.length_singleton]
  by_cases hi:i=ns.length
  ·
   subst hi
   rw [if_neg (Nat.lt_irrefl _)] at h1
   rw [if_pos (Nat.lt_succ_self _)]
   simp
   omega
  ·
   have hne:(ns.length==i)=false:=by rw [beq_eq_false_iff_ne];exact fun e=>hi e.symm
   rw [hne]
   simp only [Bool.false_eq_true,if_false]
   by_cases hl:i < ns.length
   ·
    have hl2:i < ns.length+1:=by omega
    rw [if_pos hl] at h1;rw [if_pos hl2];omega
   ·
    have hl2:¬i < ns.length+1:=by omega
    rw [if_neg hl] at h1;rw [if_neg hl2];omega
 ·
  by_cases hl:j < ns.length
  ·
   rw [List.getElem_append_left hl] at hk2
   exact h.kids j hl k hk2
  ·
   have e:j=ns.length:=by simp at hj;omega
   subst e
   rw [List.getElem_append_right (Nat.le_refl _)] at hk2
   simp at hk2
   exact hk k hk2
 ·
  rcases List.mem_append.1 hm with hm | hm
  · exact h.fits m hm
  · obtain rfl:=List.mem_singleton.1 hm;exact hf
def jr {α:Type} (x:P α) (R:List Nat) (Q:α→List Nat) (C:α→Prop):Prop:=∀y,x=.ok y→Inv y.2.1 (Q y.1++R)∧C y.1
theorem aM {α β:Type} {x:P α} {f:α→S→P β} {y:β × S} (h:bd x f=.ok y):∃a t,x=.ok (a,t)∧f a t=.ok y:=by
 cases x with
 | error e=>cases h
 | ok z=>exact ⟨z.1,z.2,rfl,h⟩
theorem aY {α β:Type} {x:P α} {f:α→S→P β} {R R':List Nat} {Q:α→List Nat} {Q':β→List Nat} {C:α→Prop} {C':β→Prop} (h:jr x R Q C) (hf:∀a t,Inv t.1 (Q a++R)→C a→jr (f a t) R' Q' C'):jr (bd x f) R' Q' C':=fun y hy=>by
 obtain ⟨a,t,h1,h2⟩:=aM hy
 have h3:=h _ h1
 exact hf a t h3.1 h3.2 y h2
theorem nT {α:Type} {e:Int} {s:S} {R:List Nat} {Q:α→List Nat} {C:α→Prop}:jr (er e s) R Q C:=fun y h=>by cases h
theorem dw {α:Type} {a:α} {s:S} {R:List Nat} {Q:α→List Nat} {C:α→Prop} (h:Inv s.1 (Q a++R)) (hc:C a):jr (.ok (a,s)) R Q C:=fun y e=>by injection e with e;subst e;exact ⟨h,hc⟩
abbrev T1 {α:Type}:α→Prop:=fun _=>True
abbrev Q0 {α:Type}:α→List Nat:=fun _=>[]
abbrev Q1:Nat→List Nat:=fun k=>[k]
abbrev QN:Nd→List Nat:=fun n=>n.ks
theorem jK {n:Nd} {s:S} {R:List Nat} (h:Inv s.1 (n.ks++R)) (hf:Fits n):jr (bC n s) R Q1 T1:=dw (h.put hf) trivial
def Idle {α:Type} (s:S) (x:P α):Prop:=∀y,x=.ok y→y.2.1=s.1
theorem ct {α:Type} {x:P α} {s:S} {R:List Nat} (h:Idle s x) (hs:Inv s.1 R):jr x R Q0 T1:=fun y hy=>⟨by rw [h y hy];exact hs,trivial⟩
theorem sD {α β:Type} {s:S} {x:P α} {f:α→S→P β} (h:Idle s x) (hf:∀a t,Idle t (f a t)):Idle s (bd x f):=fun y hy=>by
 obtain ⟨a,t,h1,h2⟩:=aM hy
 exact (hf a t y h2).trans (h _ h1)
theorem Hn {α:Type} {e:Int} {s t:S}:Idle s (er (α:=α) e t):=fun y h=>by cases h
theorem lN {α:Type} {a:α} {s t:S} (h:t.1=s.1):Idle s (.ok (a,t)):=fun y e=>by injection e with e;subst e;exact h
theorem cE (s:S):(tk s).1=s.1:=by unfold tk;split<;>rfl
theorem dM (s:S):(bj s).1=s.1:=rfl
theorem dS {k:Nat} {ts:List Nm} {s:S}:Idle s (aP k ts s):=by
 unfold aP
 split
 · exact lN (cE s)
 · exact Hn
theorem gU {s:S}:Idle s (cC s):=by
 unfold cC
 split
 · exact lN (cE s)
 · exact Hn
theorem Iq {α:Type} {s t:S} {x:P α} (h:Idle t x) (e:t.1=s.1):Idle s x:=fun y hy=>(h y hy).trans e
theorem pU {α:Type} {cond:S→Bool} {step:α→S→P α} (h:∀a s,Idle s (step a s)):∀(f:Nat) (a:α) (s:S),Idle s (cV cond step f a s)
 | 0,a,s=>lN rfl
 | f+1,a,s=>by
   unfold cV
   split
   · exact sD (h a s) fun a t=>pU h f a t
   · exact lN rfl
theorem nN (s:S):Idle s (cF s):=by
 unfold cF
 simp only
 refine Iq (t:=tk (if decide ((nx s).k=5)=true then tk s else s)) (sD gU fun w t=>lN rfl) ?_
 rw [cE]
 split
 · exact cE s
 · rfl
theorem uV (s:S):Idle s (eA s):=pU (fun l s=>sD (nN s) fun x t=>lN rfl) _ _ s
theorem fE {α:Type} {cond:S→Bool} {step:α→S→P α} {I:α→S→Prop} (h:∀a s y,I a s→cond s=true→step a s=.ok y→I y.1 y.2):∀(f:Nat) (a:α) (s:S) (y:α × S),I a s→cV cond step f a s=.ok y→I y.1 y.2
 | 0,a,s,y,hi,e=>by injection e with e;subst e;exact hi
 | f+1,a,s,y,hi,e=>by
   unfold cV at e
   split at e
   ·
    rename_i hc
    obtain ⟨b,t,h1,h2⟩:=aM e
    exact fE h f b t y (h a s _ hi hc h1) h2
   · injection e with e;subst e;exact hi
theorem zK {α:Type} {cond:S→Bool} {step:α→S→P α} {R:List Nat} {Q:α→List Nat} {C:α→Prop} (h:∀a s,Inv s.1 (Q a++R)→C a→jr (step a s) R Q C) (a:α) (s:S) (hi:Inv s.1 (Q a++R)) (hc:C a):jr (aB cond step a s) R Q C:=fun y e=>
 fE (I:=fun a s=>Inv s.1 (Q a++R)∧C a) (fun a s y hi _ e=>h a s hi.1 hi.2 y e) _ _ _ y ⟨hi,hc⟩ e
def Dt (ns:List Nd) (n:Nd) (s:S):Prop:=s.1=ns∧n.k=1∧n.ks=[]∧n.st≤n.ws.length
theorem MN {n:Nd} {w:Nm} (h:n.st≤n.ws.length):(fk n w).st≤(fk n w).ws.length:=by
 unfold fk
 simp only [List.length_append,List.length_singleton]
 split<;>omega
abbrev ui (s:S):Bool:=aF s || decide ((nx s).k=1)
abbrev tK (n:Nd) (s:S):P Nd:=if aF s then bd (cF s) fun x s=>.ok ({ n with rs:=n.rs++[x] },s) else bd (cC s) fun w s=>.ok (fk n w,s)
theorem Eg {ns:List Nd} {n:Nd} {s:S} {y:Nd × S} (h:Dt ns n s) (e:tK n s=.ok y):Dt ns y.1 y.2∧0 < y.1.ws.length+y.1.rs.length:=by
 obtain ⟨h1,h2,h3,h4⟩:=h
 unfold tK at e
 split at e
 ·
  obtain ⟨x,t,e1,e2⟩:=aM e
  injection e2 with e2
  subst e2
  exact ⟨⟨(nN s _ e1).trans h1,h2,h3,h4⟩,by simp;omega⟩
 ·
  obtain ⟨x,t,e1,e2⟩:=aM e
  injection e2 with e2
  subst e2
  exact ⟨⟨(gU (s:=s) _ e1).trans h1,h2,h3,MN h4⟩,by simp [fk];omega⟩
theorem C1 (s:S) (R:List Nat) (hs:Inv s.1 R) (hb:ui s=true):jr (cG s) R Q1 T1:=by
 intro y e
 unfold cG at e
 obtain ⟨n,t,e1,e2⟩:=aM e
 have h0:Dt s.1 ({ k:=1,ln:=(nx s).ln }:Nd) s:=⟨rfl,rfl,rfl,Nat.zero_le _⟩
 have ZF:Dt s.1 n t∧0 < n.ws.length+n.rs.length:=by
  unfold aB at e1
  cases hl:s.2.length with
  | zero=>
    have hs2:s.2=[]:=List.length_eq_zero_iff.1 hl
    exfalso
    unfold ui aF aV nx at hb
    rw [hs2] at hb
    simp at hb
  | succ f=>
    rw [hl,cV,if_pos hb] at e1
    obtain ⟨a,u,h1,h2⟩:=aM e1
    have h3:=Eg h0 h1
    exact fE (I:=fun n t=>Dt s.1 n t∧0 < n.ws.length+n.rs.length) (fun a s y hi _ e=>Eg hi.1 e) f a u (n,t) h3 h2
 obtain ⟨⟨h1,h2,h3,h4⟩,h5⟩:=ZF
 exact jK (by rw [h3,h1];exact hs) (.inl ⟨h2,h3,h5,h4⟩) y e2
def SZ (nest:S→P Nat):Prop:=∀(s:S) (R:List Nat),Inv s.1 R→jr (nest s) R Q1 T1
theorem xt {s:S} (h1:begins s=true) (h2:aL s=false):ui s=true:=by
 unfold begins at h1
 unfold aL at h2
 unfold ui aF aV
 simp only [Bool.or_eq_false_iff] at h2
 split at h1
 ·
  rename_i hk
  simp [hk]
 ·
  split at h1
  ·
   rename_i hk
   have h3:=h2.1
   unfold aV at h3
   simp only [hk,decide_true,Bool.true_and] at h3 ⊢
   simp only [List.contains_cons,List.contains_nil,Bool.or_false] at h3 h1 ⊢
   rw [h3,Bool.false_or] at h1
   simp only [decide_false,Bool.false_or,Nat.reduceEqDiff]
   rw [h1];rfl
  ·
   simp at h1 ⊢
   simp [h1]
section
variable {nest:S→P Nat} (hn:SZ nest)
include hn
theorem DU (s:S) (R:List Nat) (hs:Inv s.1 R):jr (gm nest s) R Q1 T1:=by
 unfold gm
 split
 · exact nT
 ·
  rename_i hb
  split
  ·
   rename_i hc
   refine C1 s R hs (xt ?_ hc.1)
   cases h:begins s with
   | true=>rfl
   | false=>exact absurd (.inl h) hb
  · exact hn s R hs
theorem Aj (s:S) (R:List Nat) (hs:Inv s.1 R):jr (dt nest s) R Q1 T1:=by
 unfold dt
 simp only
 refine aY (DU hn _ R (by split<;>first | exact hs | (rw [cE];exact hs))) fun k t ht _=>?_
 refine aY (C:=fun ks=>0 < ks.length∧(ks.length=1→ks=[k])) (Q:=fun ks=>ks) (zK (fun l u hu hc=>aY (DU hn (bj (tk u)) (l++R) (by rw [dM,cE];exact hu)) fun k2 v hv _=>dw ?_ ?_) [k] t ht ⟨by simp,fun _=>rfl⟩) fun ks u hu hc=>?_
 · exact hv.perm (fun i=>by simp only [Q0,Q1,QN,List.count_append,List.count_cons,List.count_nil];omega)
 ·
  have:=hc.1
  exact ⟨by simp,fun h=>by rw [List.length_append,List.length_singleton] at h;omega⟩
 ·
  split
  ·
   rename_i h
   exact dw (by have:=hc.2 h.2;subst this;exact hu) trivial
  ·
   rename_i h
   refine jK hu (.inr (.inl ⟨rfl,?_⟩))
   show 1 < ks.length∨(ks.length=1∧_)
   by_cases h1:ks.length=1
   · exact .inr ⟨h1,by simpa [h1] using h⟩
   · exact .inl (by have:=hc.1;omega)
theorem Fe (s:S) (R:List Nat) (hs:Inv s.1 R):jr (cx nest s) R Q1 T1:=by
 unfold cx
 refine aY (Aj hn s R hs) fun k t ht _=>zK (fun k u hu _=>aY (Aj hn (bj (tk u)) ([k]++R) (by rw [dM,cE];exact hu)) fun k2 v hv _=>jK ?_ (.inr (.inr (.inl ⟨?_,rfl⟩)))) k t ht trivial
 · exact hv.perm (fun i=>by simp only [Q0,Q1,QN,List.count_append,List.count_cons,List.count_nil];omega)
 ·
  show (if _ then 4 else 3)=3∨(if _ then 4 else 3)=4∨_
  split
  · exact .inr (.inl rfl)
  · exact .inl rfl
theorem xr:∀(f:Nat) (ks:List Nat) (s:S) (R:List Nat),Inv s.1 (ks++R)→jr (eD nest f ks s) R (fun ks=>ks) T1
 | 0,ks,s,R,hs=>dw hs trivial
 | f+1,ks,s,R,hs=>by
   unfold eD
   split
   ·
    refine aY (Fe hn s (ks++R) hs) fun k t ht _=>?_
    have ep:Inv t.1 ((ks++[k])++R):=ht.perm (fun i=>by simp only [Q0,Q1,QN,List.count_append,List.count_cons,List.count_nil];omega)
    split
    · exact dw ep trivial
    · exact xr f _ _ R (by rw [dM,cE];exact ep)
   · exact dw hs trivial
theorem gD (em:Bool) (s:S) (R:List Nat) (hs:Inv s.1 R):jr (aO nest em s) R Q1 T1:=by
 unfold aO
 refine aY (xr hn _ [] (bj s) R hs) fun ks t ht _=>?_
 split
 · exact nT
 · exact jK ht (.inr (.inr (.inr (.inr (.inr (.inl rfl))))))
theorem pX (s:S) (R:List Nat) (hs:Inv s.1 R):jr (cv nest s) R Q1 T1:=by
 unfold cv
 exact aY (ct dS hs) fun _ t ht _=>aY (gD hn false t R ht) fun k u hu _=>aY (ct dS hu) fun _ v hv _=>dw hv trivial
abbrev Bk (n:Nd):Prop:=∀rs,Fits { n with rs:=rs }
theorem FC (ln:Nat) (s:S) (R:List Nat) (hs:Inv s.1 R):jr (eV nest ln s) R QN Bk:=by
 unfold eV
 exact aY (gD hn false (tk s) R (by rw [cE];exact hs)) fun k u hu _=>aY (ct dS hu) fun _ v hv _=>dw hv (fun rs=>.inr (.inr (.inr (.inr (.inl ⟨by simp,rfl⟩)))))
theorem NY (ln:Nat) (s:S) (R:List Nat) (hs:Inv s.1 R):jr (mP nest ln s) R QN Bk:=by
 unfold mP
 exact aY (gD hn false (tk s) R (by rw [cE];exact hs)) fun k u hu _=>aY (ct dS hu) fun _ v hv _=>dw hv (fun rs=>.inr (.inr (.inr (.inr (.inl ⟨by simp,rfl⟩)))))
theorem zx:∀(f ln:Nat) (s:S) (R:List Nat),Inv s.1 R→jr (eW nest f ln s) R QN Bk
 | 0,ln,s,R,hs=>nT
 | f+1,ln,s,R,hs=>by
   unfold eW
   refine aY (gD hn false (tk s) R (by rw [cE];exact hs)) fun c t ht _=>aY (ct dS ht) fun _ u hu _=>aY (gD hn false u ([c]++R) hu) fun b v hv _=>?_
   split
   ·
    refine aY (zx f _ v ([b]++([c]++R)) hv) fun n w hw hf=>aY (jK hw (hf n.rs)) fun k x hx _=>dw ?_ (fun rs=>.inr (.inr (.inr (.inl ⟨rfl,.inr rfl⟩))))
    exact hx.perm (fun i=>by simp only [Q0,Q1,QN,List.count_append,List.count_cons,List.count_nil];omega)
   ·
    split
    ·
     refine aY (gD hn false (tk v) ([b]++([c]++R)) (by rw [cE];exact hv)) fun k w hw _=>aY (ct dS hw) fun _ x hx _=>dw ?_ (fun rs=>.inr (.inr (.inr (.inl ⟨rfl,.inr rfl⟩))))
     exact hx.perm (fun i=>by simp only [Q0,Q1,QN,List.count_append,List.count_cons,List.count_nil];omega)
    ·
     refine aY (ct dS hv) fun _ x hx _=>dw ?_ (fun rs=>.inr (.inr (.inr (.inl ⟨rfl,.inl rfl⟩))))
     exact hx.perm (fun i=>by simp only [Q0,Q1,QN,List.count_append,List.count_cons,List.count_nil];omega)
theorem J1 (ln:Nat) (s:S) (R:List Nat) (hs:Inv s.1 R):jr (iw nest ln s) R QN Bk:=by
 unfold iw
 refine aY (gD hn false (tk s) R (by rw [cE];exact hs)) fun c t ht _=>aY (pX hn t ([c]++R) ht) fun b u hu _=>dw ?_ (fun rs=>.inr (.inr (.inl ⟨.inr (.inr rfl),rfl⟩)))
 exact hu.perm (fun i=>by simp only [Q0,Q1,QN,List.count_append,List.count_cons,List.count_nil];omega)
theorem KC (ln:Nat) (s:S) (R:List Nat) (hs:Inv s.1 R):jr (eT nest ln s) R QN Bk:=by
 unfold eT
 simp only
 have F8:∀n:Nd,n.k=8→n.ks.length=1→Bk n:=fun n h1 h2 rs=>.inr (.inr (.inr (.inr (.inl ⟨.inl h1,h2⟩))))
 split
 · exact nT
 ·
  refine aY (ct gU (by rw [cE];exact hs)) fun t u hu _=>?_
  split
  · exact aY (pX hn _ R (by rw [dM,cE];exact hu)) fun b v hv _=>dw hv (F8 _ rfl rfl)
  ·
   split
   ·
    refine aY (ct (pU (fun l u=>sD gU fun w v=>lN rfl) _ _ _) (by rw [cE,dM];exact hu)) fun ws v hv _=>?_
    split
    · exact nT
    · exact aY (pX hn _ R (by rw [dM,cE];exact hv)) fun b w hw _=>dw hw (F8 _ rfl rfl)
   · exact aY (pX hn _ R (by rw [dM];exact hu)) fun b w hw _=>dw hw (F8 _ rfl rfl)
theorem Km (s:S) (R:List Nat) (hs:Inv s.1 R):jr (cA nest s) R Q1 T1:=by
 unfold cA
 refine aY (ct gU (by split<;>first | exact hs | (rw [cE];exact hs))) fun w t ht _=>aY (ct (pU (fun l u=>Iq (sD gU fun w v=>lN rfl) (cE u)) _ _ _) ht) fun ws u hu _=>aY (ct dS hu) fun _ v hv _=>aY (gD hn true v R hv) fun k x hx _=>jK hx (.inr (.inr (.inr (.inr (.inl ⟨.inr (.inl rfl),rfl⟩)))))
theorem yq:∀(f:Nat) (ks:List Nat) (s:S) (R:List Nat),Inv s.1 (ks++R)→jr (dL nest f ks s) R (fun ks=>ks) T1
 | 0,ks,s,R,hs=>dw hs trivial
 | f+1,ks,s,R,hs=>by
   unfold dL
   split
   · exact dw hs trivial
   ·
    refine aY (Km hn s (ks++R) hs) fun k t ht _=>?_
    have ep:Inv t.1 ((ks++[k])++R):=ht.perm (fun i=>by simp only [Q0,Q1,QN,List.count_append,List.count_cons,List.count_nil];omega)
    split
    · exact yq f _ _ R (by rw [dM,cE];exact ep)
    · exact dw ep trivial
theorem Gr (ln:Nat) (s:S) (R:List Nat) (hs:Inv s.1 R):jr (eQ nest ln s) R QN Bk:=by
 unfold eQ
 exact aY (ct gU (by rw [cE];exact hs)) fun t u hu _=>aY (ct dS (by rw [dM];exact hu)) fun _ v hv _=>aY (yq hn _ [] (bj v) R (by rw [dM];exact hv)) fun ks w hw _=>aY (ct dS hw) fun _ x hx _=>dw hx (fun rs=>.inr (.inr (.inr (.inr (.inr (.inr rfl))))))
theorem J7 (ln:Nat) (s:S) (R:List Nat) (hs:Inv s.1 R):jr (fU nest ln s) R QN Bk:=by
 unfold fU
 refine aY (ct gU hs) fun t u hu _=>aY (ct dS hu) fun _ v hv _=>aY (ct dS hv) fun _ w hw _=>?_
 simp only
 split
 · exact nT
 · exact aY (hn _ R (by rw [dM];exact hw)) fun k x hx _=>dw hx (fun rs=>.inr (.inr (.inr (.inr (.inl ⟨.inr (.inr (.inr (.inr rfl))),rfl⟩)))))
theorem JR (ln:Nat) (s:S) (R:List Nat) (hs:Inv s.1 R):jr (dF nest ln s) R QN Bk:=by
 unfold dF
 split
 · exact NY hn ln s R hs
 ·
  split
  · exact FC hn ln s R hs
  ·
   split
   · exact zx hn _ ln s R hs
   ·
    split
    · exact KC hn ln s R hs
    ·
     split
     · exact Gr hn ln s R hs
     · exact J1 hn ln s R hs
end
theorem tj:∀n:Nat,SZ (nestD n)
 | 0=>fun s R hs=>nT
 | n+1=>fun s R hs=>by
   unfold nestD
   split
   · refine aY (JR (tj n) _ s R hs) fun x t ht hf=>aY (ct (uV t) ht) fun rs u hu _=>jK hu (hf rs)
   · refine aY (J7 (tj n) _ s R hs) fun x t ht hf=>jK ht (hf x.rs)
theorem Kc {nest:S→P Nat} {em:Bool} {s:S} {y:Nat × S} (e:aO nest em s=.ok y):∃ns n,y.2.1=ns++[n]∧n.k=5∧y.1=ns.length:=by
 unfold aO at e
 obtain ⟨ks,t,h1,h2⟩:=aM e
 split at h2
 · cases h2
 ·
  injection h2 with h2
  subst h2
  exact ⟨_,_,rfl,rfl,rfl⟩
theorem Gk {s:Nm} {l:List Nd} (h:cI s=.ok l):∃ns n,l=ns++[n]∧n.k=5∧Inv l [ns.length]:=by
 unfold cI at h
 split at h
 · cases h
 ·
  split at h
  · cases h
  ·
   rename_i x hx
   split at h
   · cases h
   ·
    injection h with h
    obtain ⟨ns,n,h1,h2,h3⟩:=Kc hx
    have h4:=(gD (tj 40) true ([],_) [] P5 x hx).1
    refine ⟨ns,n,by rw [←h];exact h1,h2,?_⟩
    rw [←h,←h3]
    exact h4
theorem cz {α β:Type} {x:P α} {f:α→S→P β} {y:β × S} (h:bd x f=.ok y):∃a t,x=.ok (a,t)∧f a t=.ok y:=by
 cases x with
 | error e=>cases h
 | ok z=>exact ⟨z.1,z.2,rfl,h⟩
theorem k_ne {s:S} (h:(nx s).k≠4):s.2≠[]:=fun e=>h (by unfold nx;rw [e];rfl)
theorem tP {k:Nat} {ts:List Nm} {s:S} (h:aV k ts s=true) (hk:k≠4):s.2≠[]:=k_ne (by rw [dD h];exact hk)
theorem nA {k:Nat} {ts:List Nm} {s:S} (h:aV k ts s=true) (hk:k≠4):(tk s).2.length < s.2.length:=eJ (by rw [dD h];exact hk)
theorem uD {s:S} (h:aF s=true):(nx s).k≠4:=by
 unfold aF at h
 rcases Bool.or_eq_true _ _ ▸ h with h | h
 · rw [of_decide_eq_true h];decide
 · rw [dD h];decide
theorem kZ {s:S} {y:dZ × S} (h:aF s=true) (e:cF s=.ok y):y.2.2.length < s.2.length:=by
 have h1:=eJ (uD h)
 unfold cF at e
 simp only at e
 obtain ⟨w,t,e1,e2⟩:=cz e
 injection e2 with e2
 subst e2
 have h2:=gP _ e1
 refine Nat.lt_of_le_of_lt h2 ?_
 split
 · exact Nat.lt_of_le_of_lt (mR _) h1
 · exact h1
theorem l7 {s:S} {y:Nm × S} (e:cC s=.ok y):y.2.2.length < s.2.length:=by
 unfold cC at e
 split at e
 ·
  rename_i h
  injection e with e
  subst e
  exact eJ (by rw [h];decide)
 · cases e
abbrev KB (l:List dZ) (s:S):P (List dZ):=bd (cF s) fun x s=>.ok (l++[x],s)
theorem iF:pA aF KB:=fun a s x hc e=>by
 obtain ⟨w,t,e1,e2⟩:=cz e
 injection e2 with e2
 subst e2
 exact kZ hc e1
theorem kP (s:S) (h:aF s=true):s.2≠[]:=k_ne (uD h)
abbrev gA (s:S):Bool:=aF s || decide ((nx s).k=1)
abbrev gX (n:Nd) (s:S):P Nd:=if aF s then bd (cF s) fun x s=>.ok ({ n with rs:=n.rs++[x] },s) else bd (cC s) fun w s=>.ok (fk n w,s)
theorem ix:pA gA gX:=fun a s x hc e=>by
 unfold gX at e
 split at e
 ·
  rename_i h
  obtain ⟨w,t,e1,e2⟩:=cz e
  injection e2 with e2
  subst e2
  exact kZ h e1
 ·
  obtain ⟨w,t,e1,e2⟩:=cz e
  injection e2 with e2
  subst e2
  exact l7 e1
theorem nJ (s:S) (h:gA s=true):s.2≠[]:=by
 unfold gA at h
 rcases Bool.or_eq_true _ _ ▸ h with h | h
 · exact kP s h
 · exact k_ne (by rw [of_decide_eq_true h];decide)
abbrev lv (s:S):Bool:=decide ((nx s).k=1)
abbrev nD (l:List Nm) (s:S):P (List Nm):=bd (cC s) fun w s=>.ok (l++[w],s)
theorem mD:pA lv nD:=fun a s x hc e=>by
 obtain ⟨w,t,e1,e2⟩:=cz e
 injection e2 with e2
 subst e2
 exact l7 e1
theorem yz (s:S) (h:lv s=true):s.2≠[]:=k_ne (by rw [of_decide_eq_true h];decide)
abbrev qy (l:List Nm) (s:S):P (List Nm):=bd (cC (tk s)) fun w s=>.ok (l++[w],s)
theorem mL:pA (aV 2 [[124]]) qy:=fun a s x hc e=>by
 obtain ⟨w,t,e1,e2⟩:=cz e
 injection e2 with e2
 subst e2
 exact Nat.lt_trans (l7 e1) (nA hc (by decide))
theorem oL (s:S) (h:aV 2 [[124]] s=true):s.2≠[]:=tP h (by decide)
section
variable {nest:S→P Nat} (hn:∀s,dB s (nest s))
abbrev ou (nest:S→P Nat) (l:List Nat) (s:S):P (List Nat):=bd (gm nest (bj (tk s))) fun k s=>.ok (l++[k],s)
abbrev yQ (nest:S→P Nat) (ln:Nat) (k:Nat) (s2:S):P Nat:=bd (dt nest (bj (tk s2))) fun k2 s3=>bC { k:=if (nx s2).t=[124,124] then 4 else 3,ks:=[k,k2],ln:=ln } s3
include hn
theorem mS:pA (aV 2 [[124]]) (ou nest):=fun a s x hc e=>by
 obtain ⟨w,t,e1,e2⟩:=cz e
 injection e2 with e2
 subst e2
 have h1:=sQ hn _ _ e1
 have h2:=ew (tk s)
 have h3:=nA hc (by decide)
 simp only at h1 ⊢
 omega
theorem mY (ln:Nat):pA (aV 2 [[38,38],[124,124]]) (yQ nest ln):=fun a s x hc e=>by
 obtain ⟨w,t,e1,e2⟩:=cz e
 have h1:=pR hn _ _ e1
 have h4:=iZ _ e2
 have h2:=ew (tk s)
 have h3:=nA hc (by decide)
 simp only at h1 h4 ⊢
 omega
end
def tkE (t u:Tok):Prop:=t.k=u.k∧t.t=u.t∧t.b=u.b
abbrev TR:Tok:=⟨4,[],[],0⟩
structure wo (R:List Tok→List Tok→Prop):Prop where
 head:∀{l l'},R l l'→tkE (l.headD TR) (l'.headD TR)
 nil:∀{l l'},R l l'→(l=[]↔l'=[])
 tail:∀{t t' l l'},R (t::l) (t'::l')→t.k≠3→R l l'
 bj:∀{l l'},R l l'→R (dJ l) (dJ l')
 over:∀{t t' l l'},R (t::l) (t'::l')→R (dJ l) (dJ l')
 io:∀{t t' u u' l l'},R (t::u::l) (t'::u'::l')→t.k=5→R l l'
def bare (x:Nd):Nd:={ x with ln:=0 }
def sh (n:Nat) (x:Nd):Nd:={ x with ks:=x.ks.map (· +n),ln:=0 }
def Xf (n:Nat) (x y:Nd):Prop:=bare y=sh n x
structure SR (R:List Tok→List Tok→Prop) (ns0:List Nd) (s s':S):Prop where
 ns:∃m,s'.1=ns0++m∧m.map bare=s.1.map (sh ns0.length)
 ts:R s.2 s'.2
def PR {α:Type} (R:List Tok→List Tok→Prop) (ns0:List Nd) (A:α→α→Prop):P α→P α→Prop
 | .error e,.error e'=>e.1=e'.1
 | .ok y,.ok y'=>A y.1 y'.1∧SR R ns0 y.2 y'.2
 | _,_=>False
section
variable {R:List Tok→List Tok→Prop} {ns0:List Nd}
theorem cf {α β:Type} {A:α→α→Prop} {C:β→β→Prop} {x x':P α} {f f':α→S→P β} (h:PR R ns0 A x x') (hf:∀a a' t t',A a a'→SR R ns0 t t'→PR R ns0 C (f a t) (f' a' t')):PR R ns0 C (bd x f) (bd x' f'):=by
 cases x with
 | error e=>cases x' with
   | error e'=>exact h
   | ok y'=>exact h.elim
 | ok y=>cases x' with
   | error e'=>exact h.elim
   | ok y'=>exact hf _ _ _ _ h.1 h.2
theorem uE {α:Type} {A:α→α→Prop} {e:Int} {s s':S}:PR R ns0 A (er e s) (er e s'):=rfl
theorem gf {α:Type} {A:α→α→Prop} {a a':α} {s s':S} (h:A a a') (hs:SR R ns0 s s'):PR R ns0 A (.ok (a,s)) (.ok (a',s')):=⟨h,hs⟩
abbrev AU:Unit→Unit→Prop:=fun _ _=>True
abbrev AE {α:Type}:α→α→Prop:=fun a b=>b=a
abbrev AN (n:Nat):Nat→Nat→Prop:=fun k k'=>k'=k+n
abbrev AL (n:Nat):List Nat→List Nat→Prop:=fun k k'=>k'=k.map (· +n)
variable (hR:wo R)
include hR
theorem SR.nx {s s':S} (h:SR R ns0 s s'):tkE (nx s) (nx s'):=hR.head h.ts
theorem SR.k {s s':S} (h:SR R ns0 s s'):(Sy.nx s').k=(Sy.nx s).k:=(h.nx hR).1.symm
theorem SR.t {s s':S} (h:SR R ns0 s s'):(Sy.nx s').t=(Sy.nx s).t:=(h.nx hR).2.1.symm
theorem SR.b {s s':S} (h:SR R ns0 s s'):(Sy.nx s').b=(Sy.nx s).b:=(h.nx hR).2.2.symm
theorem SR.cons {s s':S} (h:SR R ns0 s s'):(s.2=[]∧s'.2=[])∨∃t l t' l',s.2=t::l∧s'.2=t'::l':=by
 cases h1:s.2 with
 | nil=>exact .inl ⟨rfl,(hR.nil h.ts).1 h1⟩
 | cons t l=>cases h2:s'.2 with
   | nil=>have:=(hR.nil h.ts).2 h2;rw [h1] at this;cases this
   | cons t' l'=>exact .inr ⟨t,l,t',l',rfl,rfl⟩
theorem SR.tk {s s':S} (h:SR R ns0 s s') (hk:(Sy.nx s).k≠3):SR R ns0 (Sy.tk s) (Sy.tk s'):=by
 unfold Sy.tk
 rw [h.k hR]
 split
 · exact h
 ·
  refine ⟨h.ns,?_⟩
  rcases h.cons hR with ⟨h1,h2⟩ | ⟨t,l,t',l',h1,h2⟩
  ·
   show R s.2.tail s'.2.tail
   have:=h.ts
   rw [h1,h2] at this ⊢
   exact this
  ·
   show R s.2.tail s'.2.tail
   have h3:=h.ts
   unfold Sy.nx at hk
   rw [h1,h2] at h3
   rw [h1] at hk
   rw [h1,h2]
   exact hR.tail h3 hk
theorem SR.bj {s s':S} (h:SR R ns0 s s'):SR R ns0 (Sy.bj s) (Sy.bj s'):=⟨h.ns,hR.bj h.ts⟩
theorem SR.over {s s':S} (h:SR R ns0 s s'):SR R ns0 (Sy.bj (Sy.tk s)) (Sy.bj (Sy.tk s')):=by
 by_cases h4:(Sy.nx s).k=4
 · exact (h.tk hR (by omega)).bj hR
 ·
  rcases h.cons hR with ⟨h1,h2⟩ | ⟨t,l,t',l',h1,h2⟩
  · exact absurd (by unfold Sy.nx;rw [h1];rfl) h4
  ·
   have h5:(Sy.nx s').k≠4:=by rw [h.k hR];exact h4
   unfold Sy.tk
   rw [if_neg h4,if_neg h5]
   refine ⟨h.ns,?_⟩
   show R (dJ s.2.tail) (dJ s'.2.tail)
   have h3:=h.ts
   rw [h1,h2] at h3 ⊢
   exact hR.over h3
theorem SR.aV {s s':S} (h:SR R ns0 s s') (k:Nat) (ts:List Nm):Sy.aV k ts s'=Sy.aV k ts s:=by unfold Sy.aV;rw [h.k hR,h.t hR]
theorem SR.begins {s s':S} (h:SR R ns0 s s'):Sy.begins s'=Sy.begins s:=by unfold Sy.begins;rw [h.k hR,h.t hR]
theorem SR.aF {s s':S} (h:SR R ns0 s s'):Sy.aF s'=Sy.aF s:=by unfold Sy.aF;rw [h.k hR,h.aV hR]
theorem SR.aL {s s':S} (h:SR R ns0 s s'):Sy.aL s'=Sy.aL s:=by unfold Sy.aL;rw [h.k hR,h.t hR,h.aV hR]
theorem SR.names {s s':S} (h:SR R ns0 s s'):Sy.names s'=Sy.names s:=by
 unfold Sy.names
 rw [h.k hR,h.t hR]
 by_cases hk:(Sy.nx s).k=1
 ·
  congr 1
  congr 1
  rcases h.cons hR with ⟨h1,h2⟩ | ⟨t,l,t',l',h1,h2⟩
  · rw [h1,h2]
  ·
   have h3:=h.ts
   rw [h1,h2] at h3
   unfold Sy.nx at hk
   rw [h1] at hk
   have h4:=hR.tail h3 (by rw [show t.k=1 from hk];decide)
   rw [h1,h2]
   have h5:=hR.head h4
   have h6:=hR.nil h4
   cases l with
   | nil=>rw [h6.1 rfl]
   | cons u l=>cases l' with
     | nil=>have:=h6.2 rfl;cases this
     | cons u' l'=>
       have h5':tkE u u':=h5
       have e1:u.k=u'.k:=h5'.1
       have e2:u.t=u'.t:=h5'.2.1
       clear h5 h5'
       by_cases h7:u.k=3
       ·
        have h8:u'.k=3:=e1 ▸ h7
        cases l<;>cases l'<;>simp [h7,h8]
       ·
        have h8:=hR.nil (hR.tail h4 h7)
        cases l with
        | nil=>rw [h8.1 rfl]
        | cons v l=>cases l' with
          | nil=>have:=h8.2 rfl;cases this
          | cons v' l'=>simp [e1,e2]
 · simp [hk]
theorem fD {k:Nat} {ts:List Nm} {s s':S} (h:SR R ns0 s s') (hk:k≠3):PR R ns0 AU (aP k ts s) (aP k ts s'):=by
 unfold aP
 rw [h.aV hR]
 split
 ·
  rename_i hi
  exact gf trivial (h.tk hR (by rw [dD hi];exact hk))
 · exact uE
theorem lY {s s':S} (h:SR R ns0 s s'):PR R ns0 AE (cC s) (cC s'):=by
 unfold cC
 rw [h.k hR]
 split
 ·
  rename_i hi
  exact gf (h.t hR) (h.tk hR (by rw [hi];decide))
 · exact uE
omit hR in
theorem lF {n n':Nd} {s s':S} (h:SR R ns0 s s') (hn:Xf ns0.length n n'):PR R ns0 (AN ns0.length) (bC n s) (bC n' s'):=by
 obtain ⟨m,h1,h2⟩:=h.ns
 refine gf ?_ ⟨⟨m++[n'],?_,?_⟩,h.ts⟩
 ·
  show s'.1.length=s.1.length+ns0.length
  have h3:=congrArg List.length h2
  simp only [List.length_map] at h3
  rw [h1,List.length_append,h3];omega
 ·
  show s'.1++[n']=_
  rw [h1,List.append_assoc]
 ·
  show (m++[n']).map bare=(s.1++[n]).map _
  rw [List.map_append,List.map_append,h2]
  exact congrArg (fun x=>_++[x]) hn
omit hR in
theorem EC {α:Type} {A:α→α→Prop} {cond:S→Bool} {step:α→S→P α} (hT:pA cond step) (h0:∀s,cond s=true→s.2≠[]) (hc:∀s s',SR R ns0 s s'→cond s'=cond s) (hs:∀a a' s s',A a a'→SR R ns0 s s'→cond s=true→PR R ns0 A (step a s) (step a' s')):
 ∀(f f':Nat) (a a':α) (s s':S),s.2.length≤f→s'.2.length≤f'→A a a'→SR R ns0 s s'→PR R ns0 A (cV cond step f a s) (cV cond step f' a' s')
 | f,f',a,a',s,s',hf,hf',hA,h=>by
   by_cases hcs:cond s=true
   ·
    have Mc:cond s'=true:=by rw [hc s s' h];exact hcs
    have hn:=h0 s hcs
    have hn':=h0 s' Mc
    match f,f' with
    | 0,_=>exact absurd (List.length_eq_zero_iff.1 (Nat.le_zero.1 hf)) hn
    | _+1,0=>exact absurd (List.length_eq_zero_iff.1 (Nat.le_zero.1 hf')) hn'
    | f+1,f'+1=>
      unfold cV
      rw [if_pos hcs,if_pos Mc]
      have hp:=hs a a' s s' hA h hcs
      cases he:step a s with
      | error e=>cases bX:step a' s' with
        | error e'=>rw [he,bX] at hp;exact hp
        | ok y'=>rw [he,bX] at hp;exact hp.elim
      | ok y=>cases bX:step a' s' with
        | error e'=>rw [he,bX] at hp;exact hp.elim
        | ok y'=>
          rw [he,bX] at hp
          have l1:=hT a s y hcs he
          have l2:=hT a' s' y' Mc bX
          exact EC hT h0 hc hs f f' y.1 y'.1 y.2 y'.2 (by omega) (by omega) hp.1 hp.2
   ·
    have Mc:¬cond s'=true:=by rw [hc s s' h];exact hcs
    have k1:cV cond step f a s=.ok (a,s):=by cases f with
     | zero=>rfl
     | succ f=>rw [cV,if_neg hcs]
    have k2:cV cond step f' a' s'=.ok (a',s'):=by cases f' with
     | zero=>rfl
     | succ f=>rw [cV,if_neg Mc]
    rw [k1,k2]
    exact ⟨hA,h⟩
omit hR in
theorem mG {α:Type} {A:α→α→Prop} {cond:S→Bool} {step:α→S→P α} (hT:pA cond step) (h0:∀s,cond s=true→s.2≠[]) (hc:∀s s',SR R ns0 s s'→cond s'=cond s) (hs:∀a a' s s',A a a'→SR R ns0 s s'→cond s=true→PR R ns0 A (step a s) (step a' s'))
 {a a':α} {s s':S} (hA:A a a') (h:SR R ns0 s s'):PR R ns0 A (aB cond step a s) (aB cond step a' s'):=EC hT h0 hc hs _ _ _ _ _ _ (Nat.le_refl _) (Nat.le_refl _) hA h
abbrev ND (n:Nat):Nd→Nd→Prop:=fun x y=>Xf n x y
theorem zP {s s':S} (h:SR R ns0 s s') (hr:aF s=true):PR R ns0 AE (cF s) (cF s'):=by
 unfold cF
 simp only
 rw [h.k hR,h.t hR]
 have key:∀t t',SR R ns0 t t'→∀fd op,PR R ns0 AE (bd (cC t) fun w s3=>.ok ((⟨fd,op,w,(Sy.nx t).b⟩:dZ),s3)) (bd (cC t') fun w s3=>.ok ((⟨fd,op,w,(Sy.nx t').b⟩:dZ),s3)):=fun t t' ht fd op=>
  cf (lY hR ht) fun w w' u u' hw hu=>gf (by rw [hw,ht.b hR]) hu
 by_cases hk:(Sy.nx s).k=5
 ·
  simp only [hk,decide_true,if_true]
  have h1:=h.tk hR (by rw [hk];decide)
  rw [h1.t hR]
  refine key _ _ ?_ _ _
  have h4:(Sy.nx s).k≠4:=by rw [hk];decide
  have h4':(Sy.nx s').k≠4:=by rw [h.k hR,hk];decide
  rcases h.cons hR with ⟨e1,e2⟩ | ⟨t,l,t',l',e1,e2⟩
  · exact absurd (by unfold Sy.nx;rw [e1];rfl) h4
  ·
   have h3:=h.ts
   rw [e1,e2] at h3
   have UA:t.k=5:=by unfold Sy.nx at hk;rw [e1] at hk;exact hk
   have h5:=hR.tail h3 (by rw [UA];decide)
   have q1:Sy.tk s=(s.1,l):=by unfold Sy.tk;rw [if_neg h4,e1];rfl
   have q2:Sy.tk s'=(s'.1,l'):=by unfold Sy.tk;rw [if_neg h4',e2];rfl
   rw [q1,q2] at h1 ⊢
   unfold Sy.tk
   rw [h1.k hR]
   split
   · exact h1
   ·
    refine ⟨h.ns,?_⟩
    show R l.tail l'.tail
    cases l with
    | nil=>rw [(hR.nil h5).1 rfl];have:=(hR.nil h5).1 rfl;subst this;exact h5
    | cons u l=>cases l' with
      | nil=>have:=(hR.nil h5).2 rfl;cases this
      | cons u' l'=>exact hR.io h3 UA
 ·
  simp only [hk,decide_false,if_false,Bool.false_eq_true]
  have h2:(Sy.nx s).k=2:=by
   unfold aF at hr
   simp only [hk,decide_false,Bool.false_or] at hr
   exact dD hr
  rw [h.t hR]
  exact key _ _ (h.tk hR (by rw [h2];decide)) _ _
end
def ph (s:S):Nat:=s.1.length+8 * s.2.length
def Le {α:Type} (c m:Nat) (x:P α):Prop:=∀y,x=.ok y→ph y.2+c≤m
theorem bM {α β:Type} {c m c' m':Nat} {x:P α} {f:α→S→P β} (h:Le c m x) (hf:∀a t,ph t+c≤m→Le c' m' (f a t)):Le c' m' (bd x f):=fun y hy=>by
 obtain ⟨a,t,h1,h2⟩:=cz hy
 exact hf a t (h _ h1) y h2
theorem sF {α:Type} {e:Int} {s:S} {c m:Nat}:Le (α:=α) c m (er e s):=fun y h=>by cases h
theorem ea {α:Type} {a:α} {s:S} {c m:Nat} (h:ph s+c≤m):Le c m (.ok (a,s)):=fun y e=>by injection e with e;subst e;exact h
theorem gg (s:S):ph (tk s)≤ph s:=by
 have:=mR s
 have e:(tk s).1=s.1:=by unfold tk;split<;>rfl
 unfold ph
 rw [e];omega
theorem fS {s:S} (h:(nx s).k≠4):ph (tk s)+8≤ph s:=by
 have:=eJ h
 have e:(tk s).1=s.1:=by unfold tk;split<;>rfl
 unfold ph
 rw [e];omega
theorem dG (s:S):ph (bj s)≤ph s:=by
 have:=ew s
 unfold ph
 show s.1.length+_≤_
 omega
theorem bD {k:Nat} {ts:List Nm} {s:S} (hk:k≠4):Le 8 (ph s) (aP k ts s):=by
 unfold aP
 split
 ·
  rename_i h
  exact ea (fS (by rw [dD h];exact hk))
 · exact sF
theorem eH {s:S}:Le 8 (ph s) (cC s):=by
 unfold cC
 split
 ·
  rename_i h
  exact ea (fS (by rw [h];decide))
 · exact sF
theorem jP {n:Nd} {s:S} {c m:Nat} (h:ph s+1+c≤m):Le c m (bC n s):=ea (by
 unfold ph at h ⊢
 simp only [List.length_append,List.length_singleton]
 omega)
theorem jt {α:Type} {cond:S→Bool} {step:α→S→P α} (h:∀a s,cond s=true→Le 0 (ph s) (step a s)):∀(f:Nat) (a:α) (s:S),Le 0 (ph s) (cV cond step f a s)
 | 0,a,s=>ea (Nat.le_refl _)
 | f+1,a,s=>by
   unfold cV
   split
   ·
    rename_i hc
    exact bM (h a s hc) fun a t ht=>fun y hy=>Nat.le_trans (jt h f a t y hy) ht
   · exact ea (Nat.le_refl _)
theorem rY {α:Type} {c m c' m':Nat} {x:P α} (h:Le c m x) (hc:c'+m≤c+m'):Le c' m' x:=fun y e=>by have:=h y e;omega
theorem xk (s:S):Le 8 (ph s) (cF s):=by
 unfold cF
 simp only
 refine bM (c:=8) (m:=ph s) (rY eH ?_) fun w t ht=>ea ht
 have h1:=gg (if decide ((nx s).k=5)=true then tk s else s)
 have h2:=gg s
 split at h1<;>rename_i hh
 · rw [if_pos hh];omega
 · rw [if_neg hh];omega
theorem uI (s:S):Le 0 (ph s) (eA s):=jt (fun l s _=>bM (xk s) fun x t ht=>ea (by omega)) _ _ s
theorem Dz (s:S) (hb:gA s=true):Le 7 (ph s) (cG s):=by
 intro y e
 unfold cG at e
 obtain ⟨n,t,e1,e2⟩:=cz e
 have TM:∀(a:Nd) (u:S),Le 8 (ph u) (gX a u):=fun a u=>by
  unfold gX
  split
  · exact bM (xk u) fun x v hv=>ea hv
  · exact bM eH fun x v hv=>ea hv
 have ZF:ph t+8≤ph s:=by
  unfold aB at e1
  cases hl:s.2.length with
  | zero=>exact absurd (List.length_eq_zero_iff.1 hl) (nJ s hb)
  | succ f=>
    rw [hl,cV,if_pos hb] at e1
    obtain ⟨a,u,h1,h2⟩:=cz e1
    have h3:=TM _ _ _ h1
    have h4:=jt (cond:=gA) (step:=gX) (fun a u _=>rY (TM a u) (by omega)) f a u _ h2
    simp only at h3 h4
    omega
 exact jP (m:=ph s) (c:=7) (by omega) y e2
theorem Ev {s:S} (h1:begins s=true) (h2:aL s=false):gA s=true:=by
 unfold begins at h1
 unfold aL at h2
 unfold gA aF aV
 simp only [Bool.or_eq_false_iff] at h2
 split at h1
 ·
  rename_i hk
  simp [hk]
 ·
  split at h1
  ·
   rename_i hk
   have h3:=h2.1
   unfold aV at h3
   simp only [hk,decide_true,Bool.true_and] at h3 ⊢
   simp only [List.contains_cons,List.contains_nil,Bool.or_false] at h3 h1 ⊢
   rw [h3,Bool.false_or] at h1
   simp only [decide_false,Bool.false_or,Nat.reduceEqDiff]
   rw [h1];rfl
  ·
   simp at h1 ⊢
   simp [h1]
def Ih (nest:S→P Nat):Prop:=∀s:S,(aL s=true∨names s=true)→Le 7 (ph s) (nest s)
section
variable {nest:S→P Nat} (hn:Ih nest)
include hn
theorem sA (s:S):Le 7 (ph s) (gm nest s):=by
 unfold gm
 split
 · exact sF
 ·
  rename_i hb
  split
  ·
   rename_i hc
   refine Dz s (Ev ?_ hc.1)
   cases h:begins s with
   | true=>rfl
   | false=>exact absurd (.inl h) hb
  ·
   rename_i hc
   refine hn s ?_
   cases h:aL s with
   | true=>exact .inl rfl
   | false=>cases h2:names s with
     | true=>exact .inr rfl
     | false=>exact absurd ⟨h,h2⟩ hc
theorem qf (s:S):Le 6 (ph s) (dt nest s):=by
 unfold dt
 simp only
 have h0:ph (if aV 1 [[33]] s=true then tk s else s)≤ph s:=by
  split
  · exact gg s
  · exact Nat.le_refl _
 refine bM (sA hn _) fun k t ht=>bM (jt (cond:=aV 2 [[124]]) (step:=ou nest) (fun l u hc=>bM (sA hn _) fun k v hv=>ea ?_) _ _ _) fun ks u hu=>?_
 ·
  have h1:=dG (tk u)
  have h2:=gg u
  omega
 ·
  split
  · exact ea (by omega)
  · exact jP (by omega)
theorem xb (s:S):Le 6 (ph s) (cx nest s):=by
 unfold cx
 refine bM (qf hn s) fun k t ht=>rY (c:=0) (m:=ph t) (jt (fun l u hc=>bM (qf hn _) fun k v hv=>jP ?_) _ _ _) (by omega)
 have h1:=dG (tk u)
 have h2:=gg u
 omega
theorem xN:∀(f:Nat) (ks:List Nat) (s:S),Le 0 (ph s) (eD nest f ks s)
 | 0,ks,s=>ea (Nat.le_refl _)
 | f+1,ks,s=>by
   unfold eD
   split
   ·
    refine bM (xb hn s) fun k t ht=>?_
    split
    · exact ea (by omega)
    ·
     have h1:=dG (tk t)
     have h2:=gg t
     exact rY (xN f _ _) (by omega)
   · exact ea (Nat.le_refl _)
theorem cQ (em:Bool) (s:S):Le 0 (ph s+1) (aO nest em s):=by
 unfold aO
 refine bM (xN hn _ _ _) fun ks t ht=>?_
 have h1:=dG s
 split
 · exact sF
 · exact jP (by omega)
theorem gC (s:S):Le 8 (ph s) (cv nest s):=by
 unfold cv
 exact bM (bD (by decide)) fun _ t ht=>bM (cQ hn false t) fun k u hu=>bM (bD (by decide)) fun _ v hv=>ea (by omega)
theorem GY (ln:Nat) (s:S) (h4:(nx s).k≠4):Le 8 (ph s) (eV nest ln s):=by
 unfold eV
 have h:=fS h4
 exact bM (cQ hn false _) fun k u hu=>bM (bD (by decide)) fun _ v hv=>ea (by omega)
theorem M8 (ln:Nat) (s:S) (h4:(nx s).k≠4):Le 8 (ph s) (mP nest ln s):=by
 unfold mP
 have h:=fS h4
 exact bM (cQ hn false _) fun k u hu=>bM (bD (by decide)) fun _ v hv=>ea (by omega)
theorem tV:∀(f ln:Nat) (s:S),(nx s).k≠4→Le 8 (ph s) (eW nest f ln s)
 | 0,ln,s,_=>sF
 | f+1,ln,s,h4=>by
   unfold eW
   have h:=fS h4
   refine bM (cQ hn false _) fun c t ht=>bM (bD (by decide)) fun _ u hu=>bM (cQ hn false _) fun b v hv=>?_
   split
   ·
    rename_i hi
    exact bM (tV f _ v (by rw [dD hi];decide)) fun n w hw=>bM (jP (c:=0) (m:=ph w+1) (Nat.le_refl _)) fun k x hx=>ea (by omega)
   ·
    split
    ·
     have h5:=gg v
     exact bM (cQ hn false _) fun k w hw=>bM (bD (by decide)) fun _ x hx=>ea (by omega)
    · exact bM (bD (by decide)) fun _ x hx=>ea (by omega)
theorem Kr (ln:Nat) (s:S) (h4:(nx s).k≠4):Le 8 (ph s) (iw nest ln s):=by
 unfold iw
 have h:=fS h4
 exact bM (cQ hn false _) fun c t ht=>bM (gC hn t) fun b u hu=>ea (by omega)
theorem JI (ln:Nat) (s:S) (h4:(nx s).k≠4):Le 8 (ph s) (eT nest ln s):=by
 unfold eT
 have h:=fS h4
 simp only
 split
 · exact sF
 ·
  refine bM eH fun t u hu=>?_
  split
  ·
   have h1:=dG (tk u)
   have h2:=gg u
   exact bM (gC hn _) fun b v hv=>ea (by omega)
  ·
   have h0:=dG u
   split
   ·
    have h2:=gg (bj u)
    refine bM (jt (cond:=lv) (step:=nD) (fun l u _=>bM eH fun w v hv=>ea (by omega)) _ _ _) fun ws v hv=>?_
    split
    · exact sF
    ·
     have h3:=dG (tk v)
     have h5:=gg v
     exact bM (gC hn _) fun b w hw=>ea (by omega)
   · exact bM (gC hn _) fun b v hv=>ea (by omega)
theorem ux (s:S):Le 14 (ph s) (cA nest s):=by
 unfold cA
 have h0:ph (if aV 2 [[40]] s=true then tk s else s)≤ph s:=by
  split
  · exact gg s
  · exact Nat.le_refl _
 exact bM eH fun w t ht=>bM (jt (cond:=aV 2 [[124]]) (step:=qy) (fun l u _=>bM (eH (s:=tk u)) fun w v hv=>ea (by have:=gg u;omega)) _ _ _) fun ws u hu=>bM (bD (by decide)) fun _ v hv=>bM (cQ hn true v) fun k w hw=>jP (by omega)
theorem xH:∀(f:Nat) (ks:List Nat) (s:S),Le 0 (ph s) (dL nest f ks s)
 | 0,ks,s=>ea (Nat.le_refl _)
 | f+1,ks,s=>by
   unfold dL
   split
   · exact ea (Nat.le_refl _)
   ·
    refine bM (ux hn s) fun k t ht=>?_
    split
    ·
     have h1:=dG (tk t)
     have h2:=gg t
     exact rY (xH f _ _) (by omega)
    · exact ea (by omega)
theorem FB (ln:Nat) (s:S) (h4:(nx s).k≠4):Le 8 (ph s) (eQ nest ln s):=by
 unfold eQ
 have h:=fS h4
 refine bM eH fun t u hu=>?_
 have h1:=dG u
 refine bM (bD (by decide)) fun _ v hv=>?_
 have h2:=dG v
 exact bM (xH hn _ _ _) fun ks w hw=>bM (bD (by decide)) fun _ x hx=>ea (by omega)
theorem Ai (ln:Nat) (s:S) (h4:(nx s).k≠4):Le 8 (ph s) (dF nest ln s):=by
 unfold dF
 split
 · exact M8 hn ln s h4
 ·
  split
  · exact GY hn ln s h4
  ·
   split
   · exact tV hn _ ln s h4
   ·
    split
    · exact JI hn ln s h4
    ·
     split
     · exact FB hn ln s h4
     · exact Kr hn ln s h4
theorem Aq (ln:Nat) (s:S):Le 8 (ph s) (fU nest ln s):=by
 unfold fU
 refine bM eH fun t u hu=>bM (bD (by decide)) fun _ v hv=>bM (bD (by decide)) fun _ w hw=>?_
 have h1:=dG w
 simp only
 split
 · exact sF
 ·
  rename_i hc
  have hc:aL (bj w)=true:=by simpa using hc
  exact bM (hn (bj w) (.inl hc)) fun k x hx=>ea (by omega)
end
theorem FN {s:S} (h:aL s=true):(nx s).k≠4:=by
 unfold aL at h
 rcases Bool.or_eq_true _ _ ▸ h with h | h
 · rw [dD h];decide
 ·
  rw [Bool.and_eq_true] at h
  rw [of_decide_eq_true h.2];decide
theorem mX:∀n:Nat,Ih (nestD n)
 | 0=>fun s _=>sF
 | n+1=>fun s h=>by
   unfold nestD
   split
   ·
    rename_i hc
    exact bM (Ai (mX n) _ s (FN hc)) fun x t ht=>bM (uI t) fun rs u hu=>jP (by omega)
   · exact bM (Aq (mX n) _ s) fun x t ht=>jP (by omega)
end Go.Proofs.YtiklkhbfilbpeaaGreatDoor.Sy
