import Derived.Test.YtiklkhbfilbpeaaGreatDoorTbLxShort
set_option maxRecDepth 100000
set_option maxHeartbeats 16000000
set_option linter.unusedVariables false
set_option linter.unusedSimpArgs false
namespace Go.Proofs.YtiklkhbfilbpeaaGreatDoor.Lx
def bad (s:Nm):Bool:=has [40] s || has [123] s || has [92,10] s
def Fit (rest T:Nm):Prop:=bad rest=false→bad T=false
structure Re (c:UInt8) (r o rest:Nm) (step:Nm→R):Prop where
 noj:has [92,10] (c::r)=false
 head:∃o',o=c::o'
 two:c=92→∃d r',r=d::r'∧o=[92,d]
 again:∀T,Fit rest T→step (o++T)=.ok (o,T)
def Good (step:Nm→R):Prop:=∀c r o rest,step (c::r)=.ok (o,rest)→(has [92,10] (c::r)=true∧o=[])∨Re c r o rest step
theorem rX (d:UInt8) (r T:Nm):has [92,10] (92::d::r)=has [92,10] (92::d::T):=by rw [Dk,Dk]
theorem O4 {c:UInt8} {r o' T:Nm} (hb:bad (c::r)=false) (h2:c=92→∃d r',r=d::r'∧c::o'=[92,d]):bad (c::o'++T)=false:=by
 unfold bad at hb ⊢
 simp only [Bool.or_eq_false_iff] at hb ⊢
 obtain ⟨⟨Ow,Yb⟩,hj⟩:=hb
 rw [cm] at Ow Yb
 rw [List.cons_append,cm,cm]
 refine ⟨⟨Ow,Yb⟩,?_⟩
 by_cases hc:c=92
 ·
  obtain ⟨d,r',rfl,he⟩:=h2 hc
  subst hc
  have bX:o'=[d]:=by injection he
  subst bX
  rw [List.singleton_append,rX d T r']
  exact hj
 · exact iN hc
theorem nU {step:Nm→R} {stop:Nm→Bool} (hs:mf step) (h0:step []=.error 20) (hg:Good step) (Tl:∀c r r',stop (c::r)=stop (c::r')):∀(n:Nat) (s y rest:Nm),s.length≤n→loop step stop s=.ok (y,rest)→∀T,stop T=true→bad T=false→Fit s (y++T)∧loop step stop (y++T)=.ok (y,T)
 | n,s,y,rest,hn,h,T,hT,hbT=>by
   by_cases ZQ:stop s=true
   ·
    rw [qd ZQ] at h
    injection h with h
    injection h with h1 h2
    subst h1
    exact ⟨fun _=>hbT,qd hT⟩
   ·
    have ZQ:stop s=false:=by simpa using ZQ
    rw [jl hs h0 ZQ] at h
    obtain ⟨x,hx,h⟩:=aZ h
    obtain ⟨p,hp,hy⟩:=cH h
    cases s with
    | nil=>rw [h0] at hx;cases hx
    | cons c r=>
      have hl:=hs _ _ hx
      cases n with
      | zero=>simp at hn
      | succ n=>
        obtain ⟨hf,ha⟩:=nU hs h0 hg Tl n x.2 p rest (by simp at hn hl;omega) hp T hT hbT
        simp only at hy
        subst hy
        rcases hg c r x.1 x.2 hx with ⟨hj,ho⟩ | W9
        ·
         rw [ho,List.nil_append]
         refine ⟨fun hb=>?_,ha⟩
         unfold bad at hb
         rw [hj] at hb
         simp at hb
        ·
         obtain ⟨o',ho⟩:=W9.head
         have h2:=W9.two
         have QZ:=W9.again (p++T) hf
         rw [ho] at h2 QZ ⊢
         rw [List.append_assoc]
         refine ⟨fun hb=>O4 hb h2,?_⟩
         have hso:stop (c::o'++(p++T))=false:=by rw [List.cons_append,Tl c _ r];exact ZQ
         rw [jl hs h0 hso,QZ,iL,ha]
         rfl
theorem B7 {c:UInt8}:∀{s:Nm} {x:Nm × Nm},cutAt c s=some x→c∉x.1
 | [],x,e=>by cases e
 | d::r,x,e=>by
   unfold cutAt at e
   split at e
   · injection e with e;subst e;simp
   ·
    rename_i h
    cases hc:cutAt c r with
    | none=>rw [hc] at e;cases e
    | some y=>
      rw [hc] at e
      injection e with e
      subst e
      have:=B7 hc
      intro hm
      rcases List.mem_cons.1 hm with hm | hm
      · exact h hm.symm
      · exact this hm
theorem zT:∀(s:Nm) (d:Nat) (o rest:Nm),fz d s=.ok (o,rest)→∀T,fz d (o++T)=.ok (o,T)
 | [],d,o,rest,e,T=>by cases e
 | c::r,d,o,rest,e,T=>by
   unfold fz at e
   split at e
   ·
    rename_i h
    injection e with e
    injection e with e1 e2
    subst e1
    show fz d (41::41::T)=_
    unfold fz
    rw [if_pos ⟨h.1,by simp [has,List.isPrefixOf]⟩]
    rfl
   ·
    rename_i h
    have key:∀d',(c=41→d≠0)→pre [c] (fz d' r)=.ok (o,rest)→(∀q,fz d (c::q)=pre [c] (fz d' q))→fz d (o++T)=.ok (o,T):=by
     intro d' _ e hq
     obtain ⟨p,h1,h2⟩:=cH e
     simp only at h1 h2
     subst h2
     have:=zT r d' p rest h1 T
     show fz d (c::(p++T))=_
     rw [hq,this]
     rfl
    split at e
    ·
     rename_i zM
     split at e
     · cases e
     ·
      rename_i hd
      refine key (d - 1) (fun _=>hd) e fun q=>?_
      rw [fz,if_neg (fun hh=>hd hh.1),if_pos zM,if_neg hd]
    ·
     rename_i zM
     have hn:∀q,¬(d=0∧has [41,41] (c::q)=true):=fun q hh=>by
      have:=hh.2
      rw [cO (Ne.symm zM)] at this
      cases this
     split at e
     ·
      rename_i Ow
      refine key (d+1) (fun h=>absurd h zM) e fun q=>?_
      rw [fz,if_neg (hn q),if_neg zM,if_pos Ow]
     ·
      rename_i Ow
      refine key d (fun h=>absurd h zM) e fun q=>?_
      rw [fz,if_neg (hn q),if_neg zM,if_neg Ow]
def Mg (deep:Nat):Prop:=∀r o rest,ij deep (36::r)=.ok (o,rest)→(∃o',o=36::o')∧∀T,Fit rest T→ij deep (o++T)=.ok (o,T)
theorem zZ (k c:UInt8) (r r':Nm):has [k] (c::r)=has [k] (c::r'):=by rw [cm,cm]
theorem rD {k:UInt8} {T:Nm} (h:k≠40) (h2:k≠123) (h3:k≠92):bad (k::T)=false:=by
 unfold bad
 rw [cO (Ne.symm h),cO (Ne.symm h2),cO (Ne.symm h3)];rfl
theorem uT (deep:Nat) (hd:deep≠8→Good (j8 (deep+1))):Mg deep:=by
 intro r o rest e
 unfold ij ld at e
 split at e
 ·
  rename_i h1
  obtain ⟨p,h2,h3⟩:=cH e
  simp only at h2 h3
  subst h3
  refine ⟨⟨_,rfl⟩,fun T _=>?_⟩
  have:=zT _ _ _ _ h2 T
  unfold ij ld
  show (if has [36,40,40] (36::40::40::(p++T))=true then pre [36,40,40] (fz 0 (p++T)) else _)=_
  rw [if_pos (by simp [has,List.isPrefixOf]),this]
  rfl
 ·
  rename_i h1
  split at e
  · cases e
  ·
   rename_i h2
   split at e
   ·
    rename_i h3
    injection e with e
    injection e with e1 e2
    subst e1
    simp only [List.drop_one,List.tail_cons] at e2
    subst e2
    refine ⟨⟨_,rfl⟩,fun T hf=>?_⟩
    have hx:∀(p q:Nm),has (36::p) (36::q)=has p q:=fun p q=>by simp [has,List.isPrefixOf]
    rw [hx,hx] at h2
    rw [hx] at h3
    have hb:bad r=false:=by
     unfold bad
     simp only [not_or] at h2
     have h4:has [40] r=false:=by simpa using h2.1
     have h5:has [92,10] r=false:=by simpa using h2.2
     rw [h4,h3,h5];rfl
    have hb:=hf hb
    unfold bad at hb
    simp only [Bool.or_eq_false_iff] at hb
    obtain ⟨⟨b1,b2⟩,b3⟩:=hb
    unfold ij ld
    show (if has [36,40,40] (36::T)=true then _ else if has [36,40] (36::T)=true∨has [36,92,10] (36::T)=true then _ else if has [36,123] (36::T)=false then _ else _)=_
    rw [hx,hx,hx,hx]
    have b0:has [40,40] T=false:=by
     cases T with
     | nil=>rfl
     | cons t T=>
       rw [cm] at b1
       exact cO (by simpa using b1)
    rw [if_neg (by simp [b0]),if_neg (by simp [b1,b3]),if_pos b2]
    rfl
   ·
    rename_i h3
    split at e
    · cases e
    ·
     rename_i h8
     obtain ⟨x,hx,h4⟩:=aZ e
     injection h4 with h4
     injection h4 with h5 h6
     subst h5
     refine ⟨⟨_,rfl⟩,fun T _=>?_⟩
     have hst:=cj (deep+1)
     have QZ:=nU hst (iU _) (hd h8) (zZ 125) _ _ x.1 x.2 (Nat.le_refl _) hx (125::T) (by rw [cm];rfl) (rD (by decide) (by decide) (by decide))
     unfold ij ld
     have e1:(36::123::x.1++[125])++T=36::123::(x.1++125::T):=by simp
     rw [e1,if_neg (by simp [has,List.isPrefixOf]),if_neg (by simp [has,List.isPrefixOf]),if_neg (by simp [has,List.isPrefixOf]),if_neg h8]
     show lz (inner deep (x.1++125::T)) _=_
     unfold inner
     rw [QZ.2]
     rfl
theorem Pb (deep:Nat) (hd:Mg deep):Good (Gc deep):=by
 intro c r o rest e
 rw [iX] at e
 split at e
 ·
  rename_i hj
  injection e with e
  injection e with e1 e2
  exact .inl ⟨hj,e1.symm⟩
 ·
  rename_i hj
  have hj:has [92,10] (c::r)=false:=by simpa using hj
  right
  split at e
  ·
   rename_i kg
   subst kg
   cases r with
   | nil=>cases e
   | cons d r'=>
     injection e with e
     injection e with e1 e2
     subst e1
     refine ⟨hj,⟨_,rfl⟩,fun _=>⟨d,r',rfl,rfl⟩,fun T _=>?_⟩
     show Gc deep (92::d::T)=_
     rw [iX,if_neg (by rw [rX d T r',hj];decide),if_pos rfl]
  ·
   rename_i kg
   split at e
   ·
    rename_i om
    subst om
    obtain ⟨⟨o',ho⟩,ha⟩:=hd r o rest e
    refine ⟨hj,⟨o',ho⟩,fun h=>absurd h kg,fun T hf=>?_⟩
    have:=ha T hf
    rw [ho] at this ⊢
    rw [List.cons_append] at this ⊢
    rw [iX,if_neg (by simp [iN kg]),if_neg kg,if_pos rfl,this]
   ·
    rename_i om
    split at e
    · cases e
    ·
     rename_i KA
     injection e with e
     injection e with e1 e2
     subst e1
     refine ⟨hj,⟨_,rfl⟩,fun h=>absurd h kg,fun T _=>?_⟩
     show Gc deep (c::T)=_
     rw [iX,if_neg (by simp [iN kg]),if_neg kg,if_neg om,if_neg KA]
theorem sG (deep:Nat) (hd:Mg deep):Good (j8 deep):=by
 intro c r o rest e
 rw [fu] at e
 split at e
 ·
  rename_i hj
  injection e with e
  injection e with e1 e2
  exact .inl ⟨hj,e1.symm⟩
 ·
  rename_i hj
  have hj:has [92,10] (c::r)=false:=by simpa using hj
  right
  split at e
  ·
   rename_i kg
   subst kg
   cases r with
   | nil=>cases e
   | cons d r'=>
     injection e with e
     injection e with e1 e2
     subst e1
     refine ⟨hj,⟨_,rfl⟩,fun _=>⟨d,r',rfl,rfl⟩,fun T _=>?_⟩
     show j8 deep (92::d::T)=_
     rw [fu,if_neg (by rw [rX d T r',hj];decide),if_pos rfl]
  ·
   rename_i kg
   have hq:∀q,j8 deep (c::q)=_:=fun q=>fu deep c q
   have hn:∀q,¬(has [92,10] (c::q)=true):=fun q=>by simp [iN kg]
   split at e
   ·
    rename_i E7
    subst E7
    cases hc:cutAt 39 r with
    | none=>rw [hc] at e;cases e
    | some x=>
      rw [hc] at e
      injection e with e
      injection e with e1 e2
      subst e1
      refine ⟨hj,⟨_,rfl⟩,fun h=>absurd h kg,fun T _=>?_⟩
      have e3:39::x.1++[39]++T=39::(x.1++39::T):=by simp
      rw [e3,fu,if_neg (hn _),if_neg kg,if_pos rfl,Bw x.1 T (B7 hc)]
   ·
    rename_i E7
    split at e
    ·
     rename_i yX
     subst yX
     unfold quoted at e
     obtain ⟨x,hx,h4⟩:=aZ e
     injection h4 with h4
     injection h4 with h5 h6
     subst h5
     refine ⟨hj,⟨_,rfl⟩,fun h=>absurd h kg,fun T _=>?_⟩
     have QZ:=nU (dQ deep) rfl (Pb deep hd) (zZ 34) _ _ x.1 x.2 (Nat.le_refl _) hx (34::T) (by rw [cm];rfl) (rD (by decide) (by decide) (by decide))
     have e3:34::x.1++[34]++T=34::(x.1++34::T):=by simp
     rw [e3,fu,if_neg (hn _),if_neg kg,if_neg E7,if_pos rfl]
     unfold quoted S6
     rw [QZ.2]
     rfl
    ·
     rename_i yX
     split at e
     ·
      rename_i om
      subst om
      obtain ⟨⟨o',ho⟩,ha⟩:=hd r o rest e
      refine ⟨hj,⟨o',ho⟩,fun h=>absurd h kg,fun T hf=>?_⟩
      have:=ha T hf
      rw [ho] at this ⊢
      rw [List.cons_append] at this ⊢
      rw [fu,if_neg (hn _),if_neg kg,if_neg E7,if_neg yX,if_pos rfl,this]
     ·
      rename_i om
      split at e
      · cases e
      ·
       rename_i KA
       injection e with e
       injection e with e1 e2
       subst e1
       refine ⟨hj,⟨_,rfl⟩,fun h=>absurd h kg,fun T _=>?_⟩
       show j8 deep (c::T)=_
       rw [fu,if_neg (hn _),if_neg kg,if_neg E7,if_neg yX,if_neg om,if_neg KA]
theorem AP:∀(n deep:Nat),deep+n=8→Good (j8 deep)
 | 0,deep,h=>sG deep (uT deep fun h8=>absurd (by omega) h8)
 | n+1,deep,h=>sG deep (uT deep fun _=>AP n (deep+1) (by omega))
theorem zW (c:UInt8) (r r':Nm):ends (c::r)=ends (c::r'):=rfl
end Go.Proofs.YtiklkhbfilbpeaaGreatDoor.Lx
