import Derived.Test.YtiklkhbfilbpeaaGreatDoorTbWords
set_option maxRecDepth 100000
set_option maxHeartbeats 16000000
set_option linter.unusedVariables false
set_option linter.unusedSimpArgs false
namespace Go.Proofs.YtiklkhbfilbpeaaGreatDoor
abbrev Nm:=List UInt8
end Go.Proofs.YtiklkhbfilbpeaaGreatDoor
namespace Go.Proofs.YtiklkhbfilbpeaaGreatDoor.Lx
abbrev R:=Except Int (Nm × Nm)
def lz {α β:Type}:Except Int α→(α→Except Int β)→Except Int β
 | .error e,_=>.error e
 | .ok a,f=>f a
@[simp] theorem iL {α β:Type} (a:α) (f:α→Except Int β):lz (.ok a) f=f a:=rfl
@[simp] theorem Bh {α β:Type} (e:Int) (f:α→Except Int β):lz (.error e) f=.error e:=rfl
def pre (o:Nm) (x:R):R:=lz x fun y=>.ok (o++y.1,y.2)
@[simp] theorem xD (o p q:Nm):pre o (.ok (p,q))=.ok (o++p,q):=rfl
@[simp] theorem QB (o:Nm) (e:Int):pre o (.error e)=.error e:=rfl
theorem nt (o p:Nm) (x:R):pre o (pre p x)=pre (o++p) x:=by
 cases x with
 | error e=>rfl
 | ok y=>simp [pre]
theorem pre_nil (x:R):pre [] x=x:=by
 cases x<;>rfl
def has (p s:Nm):Bool:=p.isPrefixOf s
def nl (s:Nm):Nat:=s.count 10
def cutAt (c:UInt8):Nm→Option (Nm × Nm)
 | []=>none
 | d::r=>if d=c then some ([],r) else (cutAt c r).map fun x=>(d::x.1,x.2)
def fz (d:Nat):Nm→R
 | []=>.error 20
 | c::r=>
   if d=0∧has [41,41] (c::r) then .ok ([41,41],r.drop 1)
   else if c=41 then (if d=0 then .error 20 else pre [c] (fz (d - 1) r))
   else if c=40 then pre [c] (fz (d+1) r)
   else pre [c] (fz d r)
def fM (step:Nm→R) (stop:Nm→Bool):Nat→Nm→R
 | 0,s=>if stop s then .ok ([],s) else .error 20
 | f+1,s=>if stop s then .ok ([],s) else lz (step s) fun x=>pre x.1 (fM step stop f x.2)
def loop (step:Nm→R) (stop:Nm→Bool) (s:Nm):R:=fM step stop s.length s
def ld (inner:Nm→R) (deep:Nat) (s:Nm):R:=
 if has [36,40,40] s then pre [36,40,40] (fz 0 (s.drop 3))
 else if has [36,40] s∨has [36,92,10] s then .error 20
 else if has [36,123] s=false then .ok ([36],s.drop 1)
 else if deep=8 then .error 21
 else lz (inner (s.drop 2)) fun x=>.ok (36::123::x.1++[125],x.2.drop 1)
def ze (vw:Nm→R):Nm→R
 | []=>.error 20
 | c::r=>
   if has [92,10] (c::r) then .ok ([],r.drop 1)
   else if c=92 then (match r with
    | []=>.error 20
    | d::r'=>.ok ([92,d],r'))
   else if c=36 then vw (c::r)
   else if c=96 then .error 20
   else .ok ([c],r)
def Rw (vw:Nm→R) (f:Nat) (r:Nm):R:=lz (fM (ze vw) (has [34]) f r) fun x=>.ok (34::x.1++[34],x.2.drop 1)
def vx (vw:Nm→R) (f:Nat):Nm→R
 | []=>.error 20
 | c::r=>
   if has [92,10] (c::r) then .ok ([],r.drop 1)
   else if c=92 then (match r with
    | []=>.error 20
    | d::r'=>.ok ([92,d],r'))
   else if c=39 then (match cutAt 39 r with
    | none=>.error 20
    | some x=>.ok (39::x.1++[39],x.2))
   else if c=34 then Rw vw f r
   else if c=36 then vw (c::r)
   else if c=96 then .error 20
   else .ok ([c],r)
def nZ:Nat→Nat→Nm→R
 | 0,_,_=>.error 20
 | f+1,deep,s=>vx (ld (fM (nZ f (deep+1)) (has [125]) f) deep) f s
def j8 (deep:Nat) (s:Nm):R:=nZ s.length deep s
def inner (deep:Nat) (s:Nm):R:=loop (j8 (deep+1)) (has [125]) s
def ij (deep:Nat) (s:Nm):R:=ld (inner deep) deep s
def Gc (deep:Nat) (s:Nm):R:=ze (ij deep) s
def S6 (deep:Nat) (s:Nm):R:=loop (Gc deep) (has [34]) s
def quoted (deep:Nat) (r:Nm):R:=lz (S6 deep r) fun x=>.ok (34::x.1++[34],x.2.drop 1)
def mf (step:Nm→R):Prop:=∀s x,step s=.ok x→x.2.length < s.length
def dB (step:Nm→R):Prop:=∀s x,step s=.ok x→x.2.length≤s.length
theorem cH {o:Nm} {x:R} {y:Nm × Nm} (h:pre o x=.ok y):∃p,x=.ok (p,y.2)∧y.1=o++p:=by
 cases x with
 | error e=>cases h
 | ok z=>simp only [pre,iL] at h;injection h with h;subst h;exact ⟨z.1,rfl,rfl⟩
theorem aZ {α β:Type} {x:Except Int α} {f:α→Except Int β} {y:β} (h:lz x f=.ok y):∃a,x=.ok a∧f a=.ok y:=by
 cases x with
 | error e=>cases h
 | ok a=>exact ⟨a,rfl,h⟩
theorem gy {step:Nm→R} {stop:Nm→Bool} (h:dB step):∀f s x,fM step stop f s=.ok x→x.2.length≤s.length∧stop x.2=true
 | 0,s,x,e=>by
   unfold fM at e
   split at e
   ·
    rename_i hs
    injection e with e;subst e;exact ⟨Nat.le_refl _,hs⟩
   · cases e
 | f+1,s,x,e=>by
   unfold fM at e
   split at e
   ·
    rename_i hs
    injection e with e;subst e;exact ⟨Nat.le_refl _,hs⟩
   ·
    obtain ⟨y,h1,h2⟩:=aZ e
    obtain ⟨p,h3,_⟩:=cH h2
    have h4:=gy h f y.2 (p,x.2) h3
    have:=h s y h1
    exact ⟨Nat.le_trans h4.1 this,h4.2⟩
theorem eE {p s:Nm} (h:has p s=true):p.length≤s.length:=(List.isPrefixOf_iff_prefix.1 h).length_le
theorem H9:∀(s:Nm) (d:Nat) (x:Nm × Nm),fz d s=.ok x→x.2.length+2≤s.length
 | [],d,x,e=>by cases e
 | c::r,d,x,e=>by
   unfold fz at e
   split at e
   ·
    rename_i h
    injection e with e;subst e
    have:=eE h.2
    simp at this ⊢;omega
   ·
    have hc:∀d',pre [c] (fz d' r)=.ok x→x.2.length+2≤(c::r).length:=fun d' e=>by
     obtain ⟨p,h1,_⟩:=cH e
     have h2:x.2.length+2≤r.length:=H9 r d' (p,x.2) h1
     simp;omega
    split at e
    ·
     split at e
     · cases e
     · exact hc _ e
    ·
     split at e
     · exact hc _ e
     · exact hc _ e
theorem kC {c:UInt8}:∀{s:Nm} {x:Nm × Nm},cutAt c s=some x→s=x.1++c::x.2
 | [],x,e=>by cases e
 | d::r,x,e=>by
   unfold cutAt at e
   split at e
   · rename_i h;injection e with e;subst e;subst h;rfl
   ·
    cases hc:cutAt c r with
    | none=>rw [hc] at e;cases e
    | some y=>
      rw [hc] at e
      simp only [Option.map_some] at e
      injection e with e
      subst e
      show d::r=d::(y.1++c::y.2)
      rw [←kC hc]
theorem IC {inner:Nm→R} {deep:Nat} (hi:dB inner) {s:Nm} (hs:has [36] s=true) {x:Nm × Nm} (e:ld inner deep s=.ok x):x.2.length < s.length:=by
 have h0:=eE hs
 unfold ld at e
 split at e
 ·
  rename_i h
  obtain ⟨p,h1,_⟩:=cH e
  have h2:x.2.length+2≤(s.drop 3).length:=H9 _ _ (p,x.2) h1
  rw [List.length_drop] at h2;omega
 ·
  split at e
  · cases e
  ·
   split at e
   · injection e with e;subst e;simp at h0 ⊢;omega
   ·
    split at e
    · cases e
    ·
     rename_i h _
     obtain ⟨y,h1,h2⟩:=aZ e
     injection h2 with h2;subst h2
     have:=hi _ _ h1
     have h3:=eE (p:=[36,123]) (by simpa using h)
     simp at this h3 ⊢;omega
theorem nw {vw:Nm→R} (hd:∀s x,has [36] s=true→vw s=.ok x→x.2.length < s.length):mf (ze vw):=by
 intro s x e
 unfold ze at e
 split at e
 · cases e
 ·
  split at e
  · injection e with e;subst e;simp;omega
  ·
   split at e
   ·
    split at e
    · cases e
    · injection e with e;subst e;simp;omega
   ·
    split at e
    ·
     rename_i h
     subst h
     exact hd _ _ rfl e
    ·
     split at e
     · cases e
     · injection e with e;subst e;simp
theorem Gm {vw:Nm→R} {f:Nat} (hd:∀s x,has [36] s=true→vw s=.ok x→x.2.length < s.length):mf (vx vw f):=by
 intro s x e
 unfold vx at e
 split at e
 · cases e
 ·
  split at e
  · injection e with e;subst e;simp;omega
  ·
   split at e
   ·
    split at e
    · cases e
    · injection e with e;subst e;simp;omega
   ·
    split at e
    ·
     split at e
     · cases e
     ·
      rename_i y hy
      injection e with e;subst e
      have:=congrArg List.length (kC hy)
      simp at this ⊢;omega
    ·
     split at e
     ·
      obtain ⟨y,h1,h2⟩:=aZ e
      injection h2 with h2;subst h2
      have:=(gy (fun s x h=>Nat.le_of_lt (nw hd s x h)) _ _ _ h1).1
      simp;omega
     ·
      split at e
      · rename_i h;subst h;exact hd _ _ rfl e
      ·
       split at e
       · cases e
       · injection e with e;subst e;simp
theorem gJ:∀(f deep:Nat),mf (nZ f deep)
 | 0,deep=>fun s x e=>by cases e
 | f+1,deep=>Gm fun s x hs e=>IC (fun s x h=>(gy (fun s x h=>Nat.le_of_lt (gJ f (deep+1) s x h)) _ _ _ h).1) hs e
theorem oV {step step':Nm→R} {stop:Nm→Bool} (hs:mf step):∀(f g:Nat) (s:Nm),s.length≤f→s.length≤g→(∀t,t.length≤s.length→step t=step' t)→(step []=.error 20)→fM step stop f s=fM step' stop g s
 | 0,0,s,hf,hg,h,h0=>rfl
 | 0,g+1,s,hf,hg,h,h0=>by
   obtain rfl:=List.length_eq_zero_iff.1 (Nat.le_zero.1 hf)
   unfold fM
   rw [←h [] (Nat.le_refl _),h0]
   rfl
 | f+1,0,s,hf,hg,h,h0=>by
   obtain rfl:=List.length_eq_zero_iff.1 (Nat.le_zero.1 hg)
   unfold fM
   rw [h0]
   rfl
 | f+1,g+1,s,hf,hg,h,h0=>by
   unfold fM
   rw [←h s (Nat.le_refl _)]
   split
   · rfl
   ·
    cases he:step s with
    | error e=>rfl
    | ok x=>
      have:=hs s x he
      simp only [iL]
      rw [oV hs f g x.2 (by omega) (by omega) (fun t ht=>h t (by omega)) h0]
theorem Ax {i j:Nm→R} {deep:Nat} {s:Nm} (h:i (s.drop 2)=j (s.drop 2)):ld i deep s=ld j deep s:=by
 unfold ld;rw [h]
theorem sg {i:Nm→R} {deep:Nat} (hi:dB i):∀s x,has [36] s=true→ld i deep s=.ok x→x.2.length < s.length:=fun s x hs e=>IC hi hs e
theorem Ar {d e:Nm→R} {f g:Nat} {s:Nm} (hd:∀s x,has [36] s=true→d s=.ok x→x.2.length < s.length) (h:∀t,t.length≤s.length→has [36] t=true→d t=e t) (hf:s.length≤f+1) (hg:s.length≤g+1):vx d f s=vx e g s:=by
 unfold vx
 cases s with
 | nil=>rfl
 | cons c r=>
   simp only
   have hq:Rw d f r=Rw e g r:=by
    unfold Rw
    rw [oV (step':=ze e) (nw hd) f g r (by simpa using hf) (by simpa using hg) ?_ rfl]
    intro t ht
    unfold ze
    cases t with
    | nil=>rfl
    | cons b t=>
      simp only
      by_cases hb:b=36
      · subst hb;rw [h _ (by simp at ht ⊢;omega) rfl]
      · simp only [if_neg hb]
   rw [hq]
   by_cases hc:c=36
   · subst hc;rw [h _ (Nat.le_refl _) rfl]
   · simp only [if_neg hc]
theorem rv (f deep:Nat):dB (fM (nZ f deep) (has [125]) f):=fun s x h=>(gy (fun s x h=>Nat.le_of_lt (gJ f deep s x h)) _ _ _ h).1
theorem kM (f deep:Nat):nZ f deep []=.error 20:=by cases f<;>rfl
theorem D5:∀(N f g deep:Nat) (s:Nm),s.length≤N→s.length≤f→s.length≤g→nZ f deep s=nZ g deep s
 | 0,f,g,deep,s,hN,_,_=>by
   obtain rfl:=List.length_eq_zero_iff.1 (Nat.le_zero.1 hN)
   rw [kM,kM]
 | N+1,f,g,deep,[],hN,hf,hg=>by rw [kM,kM]
 | N+1,0,g,deep,c::r,hN,hf,hg=>by simp at hf
 | N+1,f+1,0,deep,c::r,hN,hf,hg=>by simp at hg
 | N+1,f+1,g+1,deep,c::r,hN,hf,hg=>by
   unfold nZ
   refine Ar (sg (rv _ _)) (fun t ht om=>Ax ?_) hf hg
   have om:=eE om
   simp at hN hf hg ht om
   refine oV (gJ _ _) _ _ _ (by simp;omega) (by simp;omega) (fun u hu=>?_) (kM _ _)
   rw [List.length_drop] at hu
   exact D5 N f g (deep+1) u (by omega) (by omega) (by omega)
theorem cj (deep:Nat):mf (j8 deep):=fun s x h=>gJ _ _ s x h
theorem iU (deep:Nat):j8 deep []=.error 20:=rfl
theorem Oq (f deep:Nat) (s:Nm) (h:s.length≤f):fM (nZ f (deep+1)) (has [125]) f s=inner deep s:=
 oV (gJ _ _) _ _ _ h (Nat.le_refl _) (fun t ht=>D5 t.length _ _ _ t (Nat.le_refl _) (by omega) (Nat.le_refl _)) (kM _ _)
theorem D6 (deep:Nat):dB (inner deep):=fun s x h=>(gy (fun s x h=>Nat.le_of_lt (cj _ s x h)) _ _ _ h).1
theorem zm (deep:Nat):∀s x,has [36] s=true→ij deep s=.ok x→x.2.length < s.length:=sg (D6 deep)
theorem dQ (deep:Nat):mf (Gc deep):=nw (zm deep)
theorem fu (deep:Nat) (c:UInt8) (r:Nm):j8 deep (c::r)=
 if has [92,10] (c::r) then .ok ([],r.drop 1)
 else if c=92 then (match r with
  | []=>.error 20
  | d::r'=>.ok ([92,d],r'))
 else if c=39 then (match cutAt 39 r with
  | none=>.error 20
  | some x=>.ok (39::x.1++[39],x.2))
 else if c=34 then quoted deep r
 else if c=36 then ij deep (c::r)
 else if c=96 then .error 20
 else .ok ([c],r):=by
 show vx _ r.length (c::r)=vx (ij deep) r.length (c::r)
 refine Ar (sg (rv _ _)) (fun t ht om=>Ax ?_) (Nat.le_refl _) (Nat.le_refl _)
 have om:=eE om
 simp at ht om
 exact Oq _ _ _ (by simp;omega)
theorem qd {step:Nm→R} {stop:Nm→Bool} {s:Nm} (h:stop s=true):loop step stop s=.ok ([],s):=by
 unfold loop
 cases hl:s.length<;>(unfold fM;rw [if_pos h])
theorem jl {step:Nm→R} {stop:Nm→Bool} (hs:mf step) (h0:step []=.error 20) {s:Nm} (h:stop s=false):loop step stop s=lz (step s) fun x=>pre x.1 (loop step stop x.2):=by
 unfold loop
 cases s with
 | nil=>unfold fM;simp [h,h0]
 | cons c r=>
   show fM step stop (r.length+1) (c::r)=_
   rw [fM,if_neg (by simp [h])]
   cases he:step (c::r) with
   | error e=>rfl
   | ok x=>
     have:=hs _ x he
     simp at this
     simp only [iL]
     rw [oV hs r.length x.2.length x.2 (by omega) (Nat.le_refl _) (fun _ _=>rfl) h0]
structure Tok where
 k:Nat
 t:Nm
 b:Nm
 ln:Nat
 deriving DecidableEq
abbrev xw:Nm:=[32,9,10,59,38,124,40,41,60,62]
def ends:Nm→Bool
 | []=>true
 | c::_=>xw.contains c
def oG (c:UInt8):Bool:=48≤c && c≤57
def fe (s:Nm):R:=loop (j8 0) ends s
abbrev jk:List Nm:=[[38,38],[124,124],[59,59],[60,60],[62,62],[59],[124],[40],[41],[60],[62]]
def fq (s:Nm):Option Nm:=jk.find? fun o=>has o s
def cD (s:Nm):Nm × Nm:=match cutAt 10 s with
 | none=>(s,[])
 | some x=>x
def ji (e:Nm):Nat→Nm→R
 | 0,_=>.error 20
 | f+1,s=>if s=[] then .error 20 else if (cD s).1=e then .ok ([],(cD s).2) else pre ((cD s).1++[10]) (ji e f (cD s).2)
def gW (e s:Nm):R:=ji e s.length s
def bare (s:Nm):Nm:=s.filter fun c=>c != 39 && c != 34 && c != 92
def dC (x:Nm) (t:Tok):Tok:={ t with b:=t.b++x }
def ed (l:List Tok) (i:Nat):Nm:=match l[i]? with
 | some t=>bare t.t
 | none=>[]
def cX:List Nat→List Tok→Nm→Except Int (List Tok × Nm)
 | [],l,s=>.ok (l,s)
 | i::is,l,s=>lz (gW (ed l i) s) fun x=>cX is (l.modify i (dC x.1)) x.2
def kR (s out q:Nm):Bool:=decide (s.length=out.length+q.length) && out.all oG && (has [60] q || has [62] q)
def cW (l:List Tok):Bool:=match l.getLast? with
 | some t=>decide (t.k=2) && decide (t.t=[60,60])
 | none=>false
abbrev St:=List Tok × List Nat × Nm
def eY (g:Nat) (l:List Tok) (h:List Nat) (s:Nm):Except Int St:=
 match s with
 | []=>.ok (l,h,[])
 | c::r=>
   if c=10 then lz (cX h (l++[⟨3,[],[],g⟩]) r) fun x=>.ok (x.1,[],x.2)
   else if c=35 then .ok (l,h,(c::r).drop (cD (c::r)).1.length)
   else if has [92,10] (c::r) then .ok (l,h,r.drop 1)
   else if c=32∨c=9 then .ok (l,h,r)
   else match fq (c::r) with
    | some o=>.ok (l++[⟨2,o,[],g⟩],h,(c::r).drop o.length)
    | none=>
      if c=38 then .error 20
      else lz (fe (c::r)) fun x=>
       if kR (c::r) x.1 x.2 then .ok (l++[⟨5,x.1,[],g⟩],h,x.2)
       else .ok (l++[⟨1,x.1,[],g⟩],if cW l then h++[l.length] else h,x.2)
abbrev RA:=Except (Int × Nat) (List Tok)
def tT (l:List Tok):Nat:=match l.getLast? with
 | some t=>t.ln
 | none=>0
def Fc (K:Nat):Nat→St→RA
 | 0,(l,h,s)=>if s=[] then (if h=[] then .ok (l++[⟨4,[],[],K⟩]) else .error (20,tT l)) else .error (20,0)
 | f+1,(l,h,s)=>if s=[] then (if h=[] then .ok (l++[⟨4,[],[],K⟩]) else .error (20,tT l))
   else match eY (K - nl s) l h s with
    | .error e=>.error (e,K - nl s)
    | .ok x=>Fc K f x
def mF (K:Nat) (x:St):RA:=Fc K x.2.2.length x
def allM (s:Nm):RA:=mF (1+nl s) ([],[],s)
theorem ub (s:Nm) (h:s≠[]):(cD s).2.length < s.length:=by
 unfold cD
 cases hc:cutAt 10 s with
 | none=>simp only;have:=List.length_pos_iff.2 h;simpa
 | some x=>have:=congrArg List.length (kC hc);simp at this ⊢;omega
theorem Ao (e:Nm):∀f s x,ji e f s=.ok x→x.2.length < s.length
 | 0,s,x,h=>by cases h
 | f+1,s,x,h=>by
   unfold ji at h
   split at h
   · cases h
   ·
    rename_i hs
    have h1:=ub s hs
    split at h
    · injection h with h;subst h;exact h1
    ·
     obtain ⟨p,h2,_⟩:=cH h
     have:=Ao e f _ (p,x.2) h2
     exact Nat.lt_trans this h1
theorem CZ (e:Nm):∀f g s,s.length≤f→s.length≤g→ji e f s=ji e g s
 | 0,0,s,_,_=>rfl
 | 0,g+1,s,hf,_=>by
   obtain rfl:=List.length_eq_zero_iff.1 (Nat.le_zero.1 hf)
   rfl
 | f+1,0,s,_,hg=>by
   obtain rfl:=List.length_eq_zero_iff.1 (Nat.le_zero.1 hg)
   rfl
 | f+1,g+1,s,hf,hg=>by
   unfold ji
   split
   · rfl
   ·
    rename_i hs
    have h1:=ub s hs
    rw [CZ e f g _ (by omega) (by omega)]
theorem wL (e s:Nm) (h:s≠[]):gW e s=if (cD s).1=e then .ok ([],(cD s).2) else pre ((cD s).1++[10]) (gW e (cD s).2):=by
 unfold gW
 have h1:=ub s h
 cases s with
 | nil=>exact absurd rfl h
 | cons c r=>
   show ji e (r.length+1) (c::r)=_
   rw [ji,if_neg h,CZ e r.length _ _ (by simp at h1 ⊢;omega) (Nat.le_refl _)]
theorem JB {e s:Nm} {x:Nm × Nm} (h:gW e s=.ok x):x.2.length < s.length:=Ao e _ _ _ h
theorem xo:∀(h:List Nat) (l:List Tok) (s:Nm) (x:List Tok × Nm),cX h l s=.ok x→x.2.length≤s.length
 | [],l,s,x,e=>by injection e with e;subst e;exact Nat.le_refl _
 | i::is,l,s,x,e=>by
   obtain ⟨y,h1,h2⟩:=aZ (x:=gW (ed l i) s) e
   have:=JB h1
   have:=xo is _ _ _ h2
   omega
theorem yj {s:Nm} (h:ends s=false) {x:Nm × Nm} (e:fe s=.ok x):x.2.length < s.length:=by
 unfold fe at e
 rw [jl (cj 0) (iU 0) h] at e
 obtain ⟨y,h1,h2⟩:=aZ e
 obtain ⟨p,h3,_⟩:=cH h2
 have h4:=cj 0 _ _ h1
 have:=(gy (fun s x h=>Nat.le_of_lt (cj 0 s x h)) _ _ _ h3).1
 simp at this;omega
theorem rL {s o:Nm} (h:fq s=some o):has o s=true∧o∈jk:=⟨by simpa using List.find?_some h,List.mem_of_find?_eq_some h⟩
theorem xq {o:Nm} (h:o∈jk):1≤o.length∧o.length≤2∧o.count 10=0:=by
 simp [jk] at h
 rcases h with rfl | rfl | rfl | rfl | rfl | rfl | rfl | rfl | rfl | rfl | rfl<;>decide
theorem cm {c d:UInt8} {r:Nm}:has [d] (c::r)=decide (d=c):=by
 simp only [has,List.isPrefixOf,Bool.and_true]
 by_cases h:d=c<;>simp [h]
theorem Ay {c:UInt8} {r:Nm} (h:fq (c::r)=none):c≠59∧c≠124∧c≠40∧c≠41∧c≠60∧c≠62:=by
 unfold fq at h
 rw [List.find?_eq_none] at h
 have hh:∀d:UInt8,[d]∈jk→c≠d:=fun d hd e=>by
  have:=h [d] hd
  rw [cm] at this
  simp [e] at this
 exact ⟨hh _ (by decide),hh _ (by decide),hh _ (by decide),hh _ (by decide),hh _ (by decide),hh _ (by decide)⟩
theorem JE {c:UInt8} {r:Nm} (h:c≠10):0 < (cD (c::r)).1.length:=by
 unfold cD
 unfold cutAt
 rw [if_neg h]
 cases hc:cutAt 10 r<;>simp
theorem vM {c:UInt8} {r:Nm} (h10:c≠10) (hb:¬(c=32∨c=9)) (hs:fq (c::r)=none) (ET:c≠38):ends (c::r)=false:=by
 obtain ⟨h1,h2,h3,h4,h5,h6⟩:=Ay hs
 have h7:c≠32:=fun e=>hb (.inl e)
 have h8:c≠9:=fun e=>hb (.inr e)
 simp [ends,xw, *]
theorem one_len {g:Nat} {l:List Tok} {h:List Nat} {s:Nm} (hs:s≠[]) {x:St} (e:eY g l h s=.ok x):x.2.2.length < s.length:=by
 cases s with
 | nil=>exact absurd rfl hs
 | cons c r=>
   unfold eY at e
   simp only at e
   split at e
   ·
    obtain ⟨y,h1,h2⟩:=aZ e
    injection h2 with h2;subst h2
    have:=xo _ _ _ _ h1
    simp;omega
   ·
    rename_i h10
    split at e
    ·
     injection e with e;subst e
     have:=JE (r:=r) h10
     simp only [List.length_drop,List.length_cons] at this ⊢;omega
    ·
     split at e
     · injection e with e;subst e;simp;omega
     ·
      split at e
      · injection e with e;subst e;simp
      ·
       rename_i hb
       split at e
       ·
        rename_i o ho
        injection e with e;subst e
        have:=(xq (rL ho).2).1
        simp;omega
       ·
        rename_i hn
        split at e
        · cases e
        ·
         rename_i ET
         obtain ⟨y,h1,h2⟩:=aZ e
         have:=yj (vM h10 hb hn ET) h1
         split at h2<;>(injection h2 with h2;subst h2;exact this)
theorem Ii (K:Nat):∀f g (x:St),x.2.2.length≤f→x.2.2.length≤g→Fc K f x=Fc K g x
 | 0,0,x,_,_=>rfl
 | 0,g+1,(l,h,s),hf,_=>by
   obtain rfl:s=[]:=List.length_eq_zero_iff.1 (Nat.le_zero.1 hf)
   rfl
 | f+1,0,(l,h,s),_,hg=>by
   obtain rfl:s=[]:=List.length_eq_zero_iff.1 (Nat.le_zero.1 hg)
   rfl
 | f+1,g+1,(l,h,s),hf,hg=>by
   unfold Fc
   split
   · rfl
   ·
    rename_i hs
    cases he:eY (K - nl s) l h s with
    | error e=>rfl
    | ok x=>
      have:=one_len hs he
      simp only
      simp at hf hg
      exact Ii K f g x (by omega) (by omega)
theorem oC (K:Nat) (l:List Tok) (h:List Nat):mF K (l,h,[])=if h=[] then .ok (l++[⟨4,[],[],K⟩]) else .error (20,tT l):=rfl
theorem dn (K:Nat) (l:List Tok) (h:List Nat) {s:Nm} (hs:s≠[]):mF K (l,h,s)=match eY (K - nl s) l h s with
  | .error e=>.error (e,K - nl s)
  | .ok x=>mF K x:=by
 cases s with
 | nil=>exact absurd rfl hs
 | cons c r=>
   show Fc K (r.length+1) (l,h,c::r)=_
   rw [Fc,if_neg hs]
   cases he:eY (K - nl (c::r)) l h (c::r) with
   | error e=>rfl
   | ok x=>
     have:=one_len hs he
     simp only
     exact Ii K _ _ x (by simp at this;omega) (Nat.le_refl _)
def Out (step:Nm→R):Prop:=∀s x,step s=.ok x→x.1.length+x.2.length≤s.length
theorem kJ {step:Nm→R} {stop:Nm→Bool} (h:Out step):∀f s x,fM step stop f s=.ok x→x.1.length+x.2.length≤s.length
 | 0,s,x,e=>by
   unfold fM at e
   split at e
   · injection e with e;subst e;simp
   · cases e
 | f+1,s,x,e=>by
   unfold fM at e
   split at e
   · injection e with e;subst e;simp
   ·
    obtain ⟨y,h1,h2⟩:=aZ e
    obtain ⟨p,h3,h5⟩:=cH h2
    have h4:=kJ h f y.2 (p,x.2) h3
    have:=h s y h1
    rw [h5,List.length_append]
    simp at h4;omega
theorem IK:∀(s:Nm) (d:Nat) (x:Nm × Nm),fz d s=.ok x→x.1.length+x.2.length≤s.length
 | [],d,x,e=>by cases e
 | c::r,d,x,e=>by
   unfold fz at e
   split at e
   ·
    rename_i h
    injection e with e;subst e
    have:=eE h.2
    simp at this ⊢;omega
   ·
    have hc:∀d',pre [c] (fz d' r)=.ok x→x.1.length+x.2.length≤(c::r).length:=fun d' e=>by
     obtain ⟨p,h1,h5⟩:=cH e
     have h2:p.length+x.2.length≤r.length:=IK r d' (p,x.2) h1
     rw [h5];simp;omega
    split at e
    ·
     split at e
     · cases e
     · exact hc _ e
    ·
     split at e
     · exact hc _ e
     · exact hc _ e
theorem Iw {inner:Nm→R} {deep:Nat} (hi:Out inner) (hk:∀s x,inner s=.ok x→has [125] x.2=true) {s:Nm} (hs:has [36] s=true) {x:Nm × Nm} (e:ld inner deep s=.ok x):x.1.length+x.2.length≤s.length:=by
 have h0:=eE hs
 unfold ld at e
 split at e
 ·
  rename_i h
  have h3:=eE h
  obtain ⟨p,h1,h5⟩:=cH e
  have h2:p.length+x.2.length≤(s.drop 3).length:=IK _ _ (p,x.2) h1
  rw [List.length_drop] at h2;rw [h5];simp at h3 ⊢;omega
 ·
  split at e
  · cases e
  ·
   split at e
   · injection e with e;subst e;simp at h0 ⊢;omega
   ·
    split at e
    · cases e
    ·
     rename_i h _
     obtain ⟨y,h1,h2⟩:=aZ e
     injection h2 with h2;subst h2
     have:=hi _ _ h1
     have h4:=eE (hk _ _ h1)
     have h3:=eE (p:=[36,123]) (by simpa using h)
     simp at this h3 h4 ⊢;omega
theorem Jc {vw:Nm→R} (hd:∀s x,has [36] s=true→vw s=.ok x→x.1.length+x.2.length≤s.length):Out (ze vw):=by
 intro s x e
 unfold ze at e
 split at e
 · cases e
 ·
  split at e
  · injection e with e;subst e;simp;omega
  ·
   split at e
   ·
    split at e
    · cases e
    · injection e with e;subst e;simp;omega
   ·
    split at e
    ·
     rename_i h
     subst h
     exact hd _ _ rfl e
    ·
     split at e
     · cases e
     · injection e with e;subst e;simp;omega
theorem Ra {vw:Nm→R} {f:Nat} (hd:∀s x,has [36] s=true→vw s=.ok x→x.1.length+x.2.length≤s.length) (hs:∀s x,has [36] s=true→vw s=.ok x→x.2.length < s.length):Out (vx vw f):=by
 intro s x e
 unfold vx at e
 split at e
 · cases e
 ·
  split at e
  · injection e with e;subst e;simp;omega
  ·
   split at e
   ·
    split at e
    · cases e
    · injection e with e;subst e;simp;omega
   ·
    split at e
    ·
     split at e
     · cases e
     ·
      rename_i y hy
      injection e with e;subst e
      have:=congrArg List.length (kC hy)
      simp at this ⊢;omega
    ·
     split at e
     ·
      obtain ⟨y,h1,h2⟩:=aZ e
      injection h2 with h2;subst h2
      have h3:=kJ (Jc hd) _ _ _ h1
      have h4:=eE (gy (fun s x h=>Nat.le_of_lt (nw hs s x h)) _ _ _ h1).2
      simp at h3 h4 ⊢;omega
     ·
      split at e
      · rename_i h;subst h;exact hd _ _ rfl e
      ·
       split at e
       · cases e
       · injection e with e;subst e;simp;omega
theorem G0 (f deep:Nat):∀s x,fM (nZ f deep) (has [125]) f s=.ok x→has [125] x.2=true:=fun s x h=>(gy (fun s x h=>Nat.le_of_lt (gJ f deep s x h)) _ _ _ h).2
theorem Ah:∀(f deep:Nat),Out (nZ f deep)
 | 0,deep=>fun s x e=>by cases e
 | f+1,deep=>Ra (fun s x hs e=>Iw (kJ (Ah f (deep+1)) f) (G0 _ _) hs e) (sg (rv _ _))
theorem oU (deep:Nat):Out (j8 deep):=fun s x h=>Ah _ _ s x h
theorem FD (deep:Nat):∀s x,has [36] s=true→ij deep s=.ok x→x.1.length+x.2.length≤s.length:=
 fun s x hs e=>Iw (fun s x h=>kJ (oU _) _ _ _ h) (fun s x h=>(gy (fun s x h=>Nat.le_of_lt (cj _ s x h)) _ _ _ h).2) hs e
theorem LY (deep:Nat):Out (Gc deep):=Jc (FD deep)
def fin (c:UInt8) (x:Nm × Nm):R:=.ok (x.1++[c],x.2.drop 1)
theorem Kn (z:R):(lz z fun x=>.ok (36::123::x.1++[125],x.2.drop 1))=lz (pre [36,123] z) (fin 125):=by cases z<;>rfl
theorem Sz (z:R):(lz z fun x=>.ok (34::x.1++[34],x.2.drop 1))=lz (pre [34] z) (fin 34):=by cases z<;>rfl
theorem BA {step:Nm→R} {stop:Nm→Bool} {F:Nm × Nm→R} {o q:Nm} (h:stop q=true):lz (pre o (loop step stop q)) F=F (o,q):=by
 rw [qd h,xD,iL,List.append_nil]
theorem pV {step:Nm→R} {stop:Nm→Bool} {F:Nm × Nm→R} {o q p q':Nm} (hs:mf step) (h0:step []=.error 20) (h:stop q=false) (he:step q=.ok (p,q')):lz (pre o (loop step stop q)) F=lz (pre (o++p) (loop step stop q')) F:=by
 rw [jl hs h0 h,he,iL,nt]
theorem tX {step:Nm→R} {stop:Nm→Bool} {F:Nm × Nm→R} {o q:Nm} {e:Int} (hs:mf step) (h0:step []=.error 20) (h:stop q=false) (he:step q=.error e):lz (pre o (loop step stop q)) F=.error e:=by
 rw [jl hs h0 h,he,Bh,QB,Bh]
theorem iX (deep:Nat) (c:UInt8) (r:Nm):Gc deep (c::r)=if has [92,10] (c::r) then .ok ([],r.drop 1)
 else if c=92 then (match r with
  | []=>.error 20
  | d::r'=>.ok ([92,d],r'))
 else if c=36 then ij deep (c::r)
 else if c=96 then .error 20
 else .ok ([c],r):=rfl
theorem cO {k c:UInt8} {p r:Nm} (h:k≠c):has (k::p) (c::r)=false:=by simp [has,List.isPrefixOf,h]
end Go.Proofs.YtiklkhbfilbpeaaGreatDoor.Lx
