import Derived.Test.YtiklkhbfilbpeaaGreatDoorTbGSyA
set_option maxRecDepth 100000
set_option maxHeartbeats 16000000
set_option linter.unusedVariables false
set_option linter.unusedSimpArgs false
namespace Go.Proofs.YtiklkhbfilbpeaaGreatDoor.Sy
open Lx
section
variable {R:List Tok→List Tok→Prop} {ns0:List Nd} (hR:wo R)
theorem Y1 {n:Nat} {x y:Nd} (h:Xf n x y) (rs:List dZ):Xf n { x with rs:=rs } { y with rs:=rs }:=by
 unfold Xf bare sh at h ⊢
 have h1:=congrArg Nd.k h
 have h2:=congrArg Nd.t h
 have h3:=congrArg Nd.fl h
 have h4:=congrArg Nd.ws h
 have h5:=congrArg Nd.st h
 have h6:=congrArg Nd.ks h
 simp only at h1 h2 h3 h4 h5 h6
 simp only [h1,h2,h3,h4,h5,h6]
include hR
theorem Gs {s s':S} (h:SR R ns0 s s'):PR R ns0 AE (eA s) (eA s'):=
 mG iF kP (fun s s' h=>h.aF hR) (fun a a' s s' hA h hc=>cf (zP hR h hc) fun x x' t t' hx ht=>gf (by rw [hA,hx]) ht) rfl h
theorem Fu {s s':S} (h:SR R ns0 s s'):PR R ns0 (AN ns0.length) (cG s) (cG s'):=by
 unfold cG
 refine cf (mG (A:=fun x y:Nd=>x.ks=[]∧∃ln,y={ x with ln:=ln }) ix nJ ?_ ?_ ⟨rfl,_,rfl⟩ h) fun a a' t t' ha ht=>lF ht ?_
 ·
  intro s s' h
  unfold gA
  rw [h.aF hR,h.k hR]
 ·
  intro a a' s s' hA h hc
  obtain ⟨hk,ln,rfl⟩:=hA
  show PR R ns0 _ (gX a s) (gX _ s')
  unfold gX
  rw [h.aF hR]
  split
  ·
   rename_i hr
   exact cf (zP hR h hr) fun x x' t t' hx ht=>gf ⟨hk,ln,by rw [hx]⟩ ht
  · exact cf (lY hR h) fun x x' t t' hx ht=>gf ⟨hk,ln,by rw [hx];rfl⟩ ht
 ·
  obtain ⟨hk,ln,rfl⟩:=ha
  unfold Xf bare sh
  rw [hk]
  rfl
end
section
variable {R:List Tok→List Tok→Prop} {ns0:List Nd} (hR:wo R) {nest:S→P Nat} (hn:∀s,dB s (nest s)) (hs:∀s s',SR R ns0 s s'→PR R ns0 (AN ns0.length) (nest s) (nest s'))
include hR hs
theorem IQ {s s':S} (h:SR R ns0 s s'):PR R ns0 (AN ns0.length) (gm nest s) (gm nest s'):=by
 unfold gm
 rw [h.begins hR,h.aV hR,h.aL hR,h.names hR]
 split
 · exact uE
 ·
  split
  · exact Fu hR h
  · exact hs _ _ h
include hn
theorem DT {s s':S} (h:SR R ns0 s s'):PR R ns0 (AN ns0.length) (dt nest s) (dt nest s'):=by
 unfold dt
 simp only
 rw [h.aV hR]
 have h1:SR R ns0 (if aV 1 [[33]] s=true then tk s else s) (if aV 1 [[33]] s=true then tk s' else s'):=by
  split
  ·
   rename_i hi
   exact h.tk hR (by rw [dD hi];decide)
  · exact h
 refine cf (IQ hR hs h1) fun k k' t t' hk ht=>cf (mG (A:=AL ns0.length) (mS hn) oL (fun s s' h=>h.aV hR _ _) ?_ (by show [k']=[k+ns0.length];rw [hk]) ht) fun ks yV u u' eo hu=>?_
 ·
  intro a a' s s' hA h hc
  exact cf (IQ hR hs (h.over hR)) fun k k' t t' hk ht=>gf (by show a'++[k']=_;rw [hA,hk,List.map_append];rfl) ht
 ·
  have hl:yV.length=ks.length:=by rw [eo,List.length_map]
  rw [hl]
  split
  · exact gf hk hu
  · exact lF hu (by rw [show yV=_ from eo];rfl)
theorem JL {s s':S} (h:SR R ns0 s s'):PR R ns0 (AN ns0.length) (cx nest s) (cx nest s'):=by
 unfold cx
 refine cf (DT hR hn hs h) fun k k' t t' hk ht=>?_
 have hT:=mY hn (nx s).ln
 have hT':=mY hn (nx s').ln
 have key:∀(f f':Nat) (a a':Nat) (t t':S),t.2.length≤f→t'.2.length≤f'→a'=a+ns0.length→SR R ns0 t t'→PR R ns0 (AN ns0.length) (cV (aV 2 [[38,38],[124,124]]) (yQ nest (nx s).ln) f a t) (cV (aV 2 [[38,38],[124,124]]) (yQ nest (nx s').ln) f' a' t'):=by
  intro f
  induction f with
  | zero=>
    intro f' a a' t t' hf hf' hA ht
    have e1:aV 2 [[38,38],[124,124]] t=false:=by
     cases hi:aV 2 [[38,38],[124,124]] t with
     | false=>rfl
     | true=>have:=nA hi (by decide);omega
    have e2:aV 2 [[38,38],[124,124]] t'=false:=by rw [ht.aV hR];exact e1
    have k2:cV (aV 2 [[38,38],[124,124]]) (yQ nest (nx s').ln) f' a' t'=.ok (a',t'):=by cases f' with
     | zero=>rfl
     | succ f'=>rw [cV,e2];rfl
    rw [k2]
    exact ⟨hA,ht⟩
  | succ f ih=>
    intro f' a a' t t' hf hf' hA ht
    cases hi:aV 2 [[38,38],[124,124]] t with
    | false=>
      have e2:aV 2 [[38,38],[124,124]] t'=false:=by rw [ht.aV hR];exact hi
      have k2:cV (aV 2 [[38,38],[124,124]]) (yQ nest (nx s').ln) f' a' t'=.ok (a',t'):=by cases f' with
       | zero=>rfl
       | succ f'=>rw [cV,e2];rfl
      rw [k2,cV,hi]
      exact ⟨hA,ht⟩
    | true=>
      have e2:aV 2 [[38,38],[124,124]] t'=true:=by rw [ht.aV hR];exact hi
      cases f' with
      | zero=>have:=nA e2 (by decide);omega
      | succ f'=>
        rw [cV,cV,hi,e2,if_pos rfl,if_pos rfl]
        have hp:PR R ns0 (AN ns0.length) (yQ nest (nx s).ln a t) (yQ nest (nx s').ln a' t'):=
         cf (DT hR hn hs (ht.over hR)) fun k k' u u' hk hu=>lF hu (by rw [ht.t hR,hA,show k'=_ from hk];rfl)
        cases he:yQ nest (nx s).ln a t with
        | error e=>cases bX:yQ nest (nx s').ln a' t' with
          | error e'=>rw [he,bX] at hp;exact hp
          | ok y'=>rw [he,bX] at hp;exact hp.elim
        | ok y=>cases bX:yQ nest (nx s').ln a' t' with
          | error e'=>rw [he,bX] at hp;exact hp.elim
          | ok y'=>
            rw [he,bX] at hp
            have l1:=hT a t y hi he
            have l2:=hT' a' t' y' e2 bX
            exact ih f' _ _ _ _ (by omega) (by omega) hp.1 hp.2
 exact key _ _ _ _ _ _ (Nat.le_refl _) (Nat.le_refl _) hk ht
theorem KI:∀(f f':Nat) (ks yV:List Nat) (s s':S),s.2.length≤f→s'.2.length≤f'→yV=ks.map (· +ns0.length)→SR R ns0 s s'→PR R ns0 (AL ns0.length) (eD nest f ks s) (eD nest f' yV s'):=by
 intro f
 have stop:∀(f:Nat) (ks:List Nat) (s:S),begins s=false→eD nest f ks s=.ok (ks,s):=fun f ks s hb=>by
  cases f with
  | zero=>rfl
  | succ f=>rw [eD,if_neg (by rw [hb];decide)]
 induction f with
 | zero=>
   intro f' ks yV s s' hf hf' hA h
   have e1:begins s=false:=by
    cases hb:begins s with
    | false=>rfl
    | true=>have:=eJ (pM hb);omega
   rw [stop _ _ s e1,stop _ _ s' (by rw [h.begins hR];exact e1)]
   exact ⟨hA,h⟩
 | succ f ih=>
   intro f' ks yV s s' hf hf' hA h
   cases hb:begins s with
   | false=>
     rw [stop _ _ s hb,stop _ _ s' (by rw [h.begins hR];exact hb)]
     exact ⟨hA,h⟩
   | true=>
     have hb':begins s'=true:=by rw [h.begins hR];exact hb
     cases f' with
     | zero=>have:=eJ (pM hb');omega
     | succ f'=>
       rw [eD,eD,if_pos hb,if_pos hb']
       have hp:=JL hR hn hs h
       cases he:cx nest s with
       | error e=>cases bX:cx nest s' with
         | error e'=>rw [he,bX] at hp;exact hp
         | ok y'=>rw [he,bX] at hp;exact hp.elim
       | ok y=>cases bX:cx nest s' with
         | error e'=>rw [he,bX] at hp;exact hp.elim
         | ok y'=>
           rw [he,bX] at hp
           have l1:=jo hn s y he
           have l2:=jo hn s' y' bX
           obtain ⟨k,t⟩:=y
           obtain ⟨k',t'⟩:=y'
           obtain ⟨hk,ht⟩:=hp
           simp only [bJ]
           simp only at hk ht l1 l2
           have eo:yV++[k']=(ks++[k]).map (· +ns0.length):=by rw [hA,hk,List.map_append];rfl
           rw [ht.aV hR,ht.k hR]
           split
           · exact ⟨eo,ht⟩
           ·
            rename_i hc
            have h4:(nx t).k≠4:=fun e=>hc ⟨by
             cases hi:aV 2 [[59]] t with
             | false=>rfl
             | true=>have:=dD hi;omega,by omega⟩
            have h4':(nx t').k≠4:=by rw [ht.k hR];exact h4
            have m1:=eJ h4
            have m2:=eJ h4'
            have m3:=ew (tk t)
            have m4:=ew (tk t')
            exact ih f' _ _ _ _ (by omega) (by omega) eo (ht.over hR)
theorem ja {s s':S} (em:Bool) (h:SR R ns0 s s'):PR R ns0 (AN ns0.length) (aO nest em s) (aO nest em s'):=by
 unfold aO
 refine cf (KI hR hn hs _ _ _ _ _ _ (ew s) (ew s') rfl (h.bj hR)) fun ks yV t t' eo ht=>?_
 have he:(yV=[]∧em=false)↔(ks=[]∧em=false):=by rw [show yV=_ from eo,List.map_eq_nil_iff]
 by_cases hc:ks=[]∧em=false
 · rw [if_pos hc,if_pos (he.2 hc)];exact uE
 ·
  rw [if_neg hc,if_neg (fun x=>hc (he.1 x))]
  exact lF ht (by rw [show yV=_ from eo];rfl)
theorem rJ {s s':S} (h:SR R ns0 s s'):PR R ns0 (AN ns0.length) (cv nest s) (cv nest s'):=
 cf (fD hR h (by decide)) fun _ _ t t' _ ht=>cf (ja hR hn hs false ht) fun k k' u u' hk hu=>cf (fD hR hu (by decide)) fun _ _ v v' _ hv=>gf hk hv
theorem Jx {s s':S} (ln vW:Nat) (h:SR R ns0 s s') (h3:(nx s).k≠3):PR R ns0 (ND ns0.length) (eV nest ln s) (eV nest vW s'):=
 cf (ja hR hn hs false (h.tk hR h3)) fun k k' u u' hk hu=>cf (fD hR hu (by decide)) fun _ _ v v' _ hv=>gf (by rw [show k'=_ from hk];rfl) hv
theorem Qr {s s':S} (ln vW:Nat) (h:SR R ns0 s s') (h3:(nx s).k≠3):PR R ns0 (ND ns0.length) (mP nest ln s) (mP nest vW s'):=
 cf (ja hR hn hs false (h.tk hR h3)) fun k k' u u' hk hu=>cf (fD hR hu (by decide)) fun _ _ v v' _ hv=>gf (by rw [show k'=_ from hk];rfl) hv
theorem Pm:∀(n:Nat) (s s':S) (ln vW:Nat),s.2.length≤n→SR R ns0 s s'→(nx s).k≠3→(nx s).k≠4→PR R ns0 (ND ns0.length) (iR nest ln s) (iR nest vW s'):=by
 intro n
 induction n with
 | zero=>
   intro s s' ln vW hl h h3 h4
   have:=eJ h4
   omega
 | succ n ih=>
   intro s s' ln vW hl h h3 h4
   rw [sR hn ln s h4,sR hn vW s' (by rw [h.k hR];exact h4)]
   have w0:=eJ h4
   have hp:=ja hR hn hs false (h.tk hR h3)
   cases he:aO nest false (tk s) with
   | error e=>cases bX:aO nest false (tk s') with
     | error e'=>rw [he,bX] at hp;exact hp
     | ok y'=>rw [he,bX] at hp;exact hp.elim
   | ok y=>cases bX:aO nest false (tk s') with
     | error e'=>rw [he,bX] at hp;exact hp.elim
     | ok y'=>
       rw [he,bX] at hp
       have w1:=bP hn false _ y he
       obtain ⟨c,t⟩:=y
       obtain ⟨c',t'⟩:=y'
       obtain ⟨hc,ht⟩:=hp
       simp only [bJ]
       simp only at hc ht w1
       have hp:=fD hR (k:=1) (ts:=[[116,104,101,110]]) ht (by decide)
       cases he:aP 1 [[116,104,101,110]] t with
       | error e=>cases bX:aP 1 [[116,104,101,110]] t' with
         | error e'=>rw [he,bX] at hp;exact hp
         | ok y'=>rw [he,bX] at hp;exact hp.elim
       | ok y=>cases bX:aP 1 [[116,104,101,110]] t' with
         | error e'=>rw [he,bX] at hp;exact hp.elim
         | ok y'=>
           rw [he,bX] at hp
           have w2:=bS y he
           obtain ⟨_,u⟩:=y
           obtain ⟨_,u'⟩:=y'
           obtain ⟨_,hu⟩:=hp
           simp only [bJ]
           simp only at hu w2
           have hp:=ja hR hn hs false hu
           cases he:aO nest false u with
           | error e=>cases bX:aO nest false u' with
             | error e'=>rw [he,bX] at hp;exact hp
             | ok y'=>rw [he,bX] at hp;exact hp.elim
           | ok y=>cases bX:aO nest false u' with
             | error e'=>rw [he,bX] at hp;exact hp.elim
             | ok y'=>
               rw [he,bX] at hp
               have w3:=bP hn false _ y he
               obtain ⟨b,v⟩:=y
               obtain ⟨b',v'⟩:=y'
               obtain ⟨hb,hv⟩:=hp
               simp only [bJ]
               simp only at hb hv w3
               rw [hv.aV hR,hv.aV hR]
               split
               ·
                rename_i hi
                have i3:(nx v).k≠3:=by rw [dD hi];decide
                have i4:(nx v).k≠4:=by rw [dD hi];decide
                exact cf (ih v v' _ _ (by omega) hv i3 i4) fun x x' w w' hx hw=>cf (lF hw hx) fun k k' z z' hk hz=>gf (by rw [show c'=_ from hc,show b'=_ from hb,show k'=_ from hk];rfl) hz
               ·
                split
                ·
                 rename_i hi
                 exact cf (ja hR hn hs false (hv.tk hR (by rw [dD hi];decide))) fun k k' w w' hk hw=>cf (fD hR hw (by decide)) fun _ _ z z' _ hz=>gf (by rw [show c'=_ from hc,show b'=_ from hb,show k'=_ from hk];rfl) hz
                · exact cf (fD hR hv (by decide)) fun _ _ z z' _ hz=>gf (by rw [show c'=_ from hc,show b'=_ from hb];rfl) hz
theorem LL {s s':S} (ln vW:Nat) (h:SR R ns0 s s') (h3:(nx s).k≠3):PR R ns0 (ND ns0.length) (iw nest ln s) (iw nest vW s'):=
 cf (ja hR hn hs false (h.tk hR h3)) fun c c' u u' hc hu=>cf (rJ hR hn hs hu) fun b b' v v' hb hv=>gf (by rw [show c'=_ from hc,show b'=_ from hb,h.t hR];rfl) hv
theorem NL {s s':S} (ln vW:Nat) (h:SR R ns0 s s') (h3:(nx s).k≠3):PR R ns0 (ND ns0.length) (eT nest ln s) (eT nest vW s'):=by
 unfold eT
 simp only
 have h1:=h.tk hR h3
 rw [h1.t hR]
 split
 · exact uE
 ·
  refine cf (lY hR h1) fun t t' u u' ht hu=>?_
  rw [hu.aV hR,(hu.bj hR).aV hR]
  split
  · exact cf (rJ hR hn hs (hu.over hR)) fun b b' v v' hb hv=>gf (by rw [show b'=_ from hb,show t'=_ from ht];rfl) hv
  ·
   split
   ·
    rename_i hi
    refine cf (mG (A:=AE) mD yz (fun s s' h=>by unfold lv;rw [h.k hR]) (fun a a' s s' hA h hc=>cf (lY hR h) fun x x' t t' hx ht=>gf (by rw [hA,hx]) ht) rfl ((hu.bj hR).tk hR (by rw [dD hi];decide))) fun ws SX v v' hw hv=>?_
    rw [hv.aV hR,hv.k hR]
    split
    · exact uE
    · exact cf (rJ hR hn hs (hv.over hR)) fun b b' z z' hb hz=>gf (by rw [show b'=_ from hb,show t'=_ from ht,show SX=_ from hw];rfl) hz
   · exact cf (rJ hR hn hs (hu.bj hR)) fun b b' v v' hb hv=>gf (by rw [show b'=_ from hb,show t'=_ from ht];rfl) hv
theorem EJ {s s':S} (h:SR R ns0 s s'):PR R ns0 (AN ns0.length) (cA nest s) (cA nest s'):=by
 unfold cA
 rw [h.aV hR]
 have h1:SR R ns0 (if aV 2 [[40]] s=true then tk s else s) (if aV 2 [[40]] s=true then tk s' else s'):=by
  split
  ·
   rename_i hi
   exact h.tk hR (by rw [dD hi];decide)
  · exact h
 refine cf (lY hR h1) fun w w' t t' hw ht=>cf (mG (A:=AE) mL oL (fun s s' h=>h.aV hR _ _) ?_ (by rw [hw]) ht) fun ws SX u u' Jn hu=>cf (fD hR hu (by decide)) fun _ _ v v' _ hv=>cf (ja hR hn hs true hv) fun k k' z z' hk hz=>lF hz (by rw [show SX=_ from Jn,show k'=_ from hk];rfl)
 intro a a' s s' hA h hc
 exact cf (lY hR (h.tk hR (by rw [dD hc];decide))) fun x x' t t' hx ht=>gf (by rw [hA,hx]) ht
theorem K5:∀(n:Nat) (ks yV:List Nat) (s s':S),s.2.length≤n→yV=ks.map (· +ns0.length)→SR R ns0 s s'→PR R ns0 (AL ns0.length) (dY nest ks s) (dY nest yV s'):=by
 intro n
 induction n with
 | zero=>
   intro ks yV s s' hl hA h
   rw [kN hn,kN hn,h.aV hR]
   split
   · exact ⟨hA,h⟩
   ·
    have hp:=EJ hR hn hs h
    cases he:cA nest s with
    | error e=>cases bX:cA nest s' with
      | error e'=>rw [he,bX] at hp;exact hp
      | ok y'=>rw [he,bX] at hp;exact hp.elim
    | ok y=>cases bX:cA nest s' with
      | error e'=>rw [he,bX] at hp;exact hp.elim
      | ok y'=>
        rw [he,bX] at hp
        have w1:=iq hn _ y he
        obtain ⟨k,t⟩:=y
        obtain ⟨k',t'⟩:=y'
        obtain ⟨hk,ht⟩:=hp
        simp only [bJ]
        simp only at hk ht w1
        have eo:yV++[k']=(ks++[k]).map (· +ns0.length):=by rw [hA,hk,List.map_append];rfl
        rw [ht.aV hR]
        split
        ·
         rename_i hi
         have:=nA hi (by decide)
         omega
        · exact ⟨eo,ht⟩
 | succ n ih=>
   intro ks yV s s' hl hA h
   rw [kN hn,kN hn,h.aV hR]
   split
   · exact ⟨hA,h⟩
   ·
    have hp:=EJ hR hn hs h
    cases he:cA nest s with
    | error e=>cases bX:cA nest s' with
      | error e'=>rw [he,bX] at hp;exact hp
      | ok y'=>rw [he,bX] at hp;exact hp.elim
    | ok y=>cases bX:cA nest s' with
      | error e'=>rw [he,bX] at hp;exact hp.elim
      | ok y'=>
        rw [he,bX] at hp
        have w1:=iq hn _ y he
        obtain ⟨k,t⟩:=y
        obtain ⟨k',t'⟩:=y'
        obtain ⟨hk,ht⟩:=hp
        simp only [bJ]
        simp only at hk ht w1
        have eo:yV++[k']=(ks++[k]).map (· +ns0.length):=by rw [hA,hk,List.map_append];rfl
        rw [ht.aV hR]
        split
        ·
         rename_i hi
         have:=nA hi (by decide)
         have:=ew (tk t)
         exact ih _ _ _ _ (by omega) eo (ht.over hR)
        · exact ⟨eo,ht⟩
theorem JK {s s':S} (ln vW:Nat) (h:SR R ns0 s s') (h3:(nx s).k≠3):PR R ns0 (ND ns0.length) (eQ nest ln s) (eQ nest vW s'):=
 cf (lY hR (h.tk hR h3)) fun t t' u u' ht hu=>cf (fD hR (hu.bj hR) (by decide)) fun _ _ v v' _ hv=>cf (K5 hR hn hs _ _ _ _ _ (Nat.le_refl _) rfl (hv.bj hR)) fun ks yV w w' eo hw=>cf (fD hR hw (by decide)) fun _ _ x x' _ hx=>gf (by rw [show yV=_ from eo,show t'=_ from ht];rfl) hx
omit hn in
theorem Nu {s s':S} (ln vW:Nat) (h:SR R ns0 s s'):PR R ns0 (ND ns0.length) (fU nest ln s) (fU nest vW s'):=by
 unfold fU
 refine cf (lY hR h) fun t t' u u' ht hu=>cf (fD hR hu (by decide)) fun _ _ v v' _ hv=>cf (fD hR hv (by decide)) fun _ _ w w' _ hw=>?_
 simp only
 rw [(hw.bj hR).aL hR]
 split
 · exact uE
 · exact cf (hs _ _ (hw.bj hR)) fun k k' z z' hk hz=>gf (by rw [show k'=_ from hk,show t'=_ from ht];rfl) hz
theorem Nc {s s':S} (ln vW:Nat) (h:SR R ns0 s s') (h3:(nx s).k≠3) (h4:(nx s).k≠4):PR R ns0 (ND ns0.length) (dF nest ln s) (dF nest vW s'):=by
 unfold dF
 rw [h.aV hR,h.t hR]
 split
 · exact Qr hR hn hs ln vW h h3
 ·
  split
  · exact Jx hR hn hs ln vW h h3
  ·
   split
   · exact Pm hR hn hs _ s s' ln vW (Nat.le_refl _) h h3 h4
   ·
    split
    · exact NL hR hn hs ln vW h h3
    ·
     split
     · exact JK hR hn hs ln vW h h3
     · exact LL hR hn hs ln vW h h3
end
section
variable {R:List Tok→List Tok→Prop} {ns0:List Nd} (hR:wo R)
theorem Lg {s:S} (h:aL s=true):(nx s).k=1∨(nx s).k=2:=by
 unfold aL at h
 rcases Bool.or_eq_true _ _ ▸ h with h | h
 · exact .inr (dD h)
 · exact .inl (of_decide_eq_true (Bool.and_eq_true _ _ ▸ h).2)
include hR
theorem wJ:∀(n:Nat) (s s':S),SR R ns0 s s'→PR R ns0 (AN ns0.length) (nestD n s) (nestD n s')
 | 0,s,s',h=>uE
 | n+1,s,s',h=>by
   unfold nestD
   rw [h.aL hR]
   split
   ·
    rename_i hc
    have hk:=Lg hc
    exact cf (Nc hR (dh n) (wJ n) _ _ h (by omega) (by omega)) fun x x' t t' hx ht=>cf (Gs hR ht) fun rs rs' u u' jG hu=>lF hu (by rw [show rs'=_ from jG];exact Y1 hx rs)
   · exact cf (Nu hR (wJ n) _ _ h) fun x x' t t' hx ht=>lF ht hx
theorem JT {l l':List Tok} (h:R l l'):PR R [] (AN 0) (aO (nestD 40) true ([],l)) (aO (nestD 40) true ([],l')):=
 ja hR (dh 40) (wJ hR 40) true ⟨⟨[],rfl,rfl⟩,h⟩
end
end Go.Proofs.YtiklkhbfilbpeaaGreatDoor.Sy
