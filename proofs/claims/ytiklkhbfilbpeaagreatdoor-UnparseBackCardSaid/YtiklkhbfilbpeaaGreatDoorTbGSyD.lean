import Derived.Test.YtiklkhbfilbpeaaGreatDoorTbGSyC
import Derived.Test.YtiklkhbfilbpeaaGreatDoorTbRegionP
import Derived.Test.YtiklkhbfilbpeaaGreatDoorTbGSyA
set_option maxRecDepth 100000
set_option maxHeartbeats 16000000
set_option linter.unusedVariables false
set_option linter.unusedSimpArgs false
namespace Go.Proofs.YtiklkhbfilbpeaaGreatDoor.Sx
open Go.RowKit Base Lx Sy
abbrev jO (n:Nd) (uw ur uk:Value):Array Value:=#[.int .i64 (n.k:Int),.string (str n.t),.bool n.fl,uw,.int .i64 (n.st:Int),ur,uk,.int .i64 (n.ln:Int)]
abbrev gG (P:Nat→Prop) (N:Nat) (uw ur uk:Value):Nat→Prop:=fun g=>P g∧g≠N∧Vw uw ur uk g
structure Mid (W0:World) (v0:Value) (W:World) (b B:Nat) (P:Nat→Prop) (v:Value) (s:S) (d N:Nat) (n:Nd) (uw ur uk:Value):Prop where
 bx:kL W0 v0 W b B (gG P N uw ur uk) v s d N (jO n uw ur uk) gv
 rows:Rows W (fun g=>W0.heap.size≤g) n uw ur uk
structure MidA (W0:World) (v0:Value) (W:World) (b B:Nat) (P:Nat→Prop) (v:Value) (s:S) (d N:Nat) (n n':Nd) (uw ur uk CF Ei CK:Value):Prop where
 bx:kL W0 v0 W b B (gG P N CF Ei CK) v s d N (jO n uw ur uk) gv
 rows:Rows W (fun g=>W0.heap.size≤g) n' CF Ei CK
section
variable {W0 W W':World} {b B:Nat} {P:Nat→Prop} {v0 v v':Value} {s s':S} {d N:Nat} {n n':Nd} {uw ur uk CF Ei CK u:Value}
theorem kL.less {P':Nat→Prop} {X:Array Value} {t:TypeId} (h:kL W0 v0 W b B P v s d N X t) (hq:∀g,P g→g < W.heap.size→P' g) (hN:¬P' N):kL W0 v0 W b B P' v s d N X t:=⟨h.rd.less hq,h.turn,h.box,h.new,h.old,hN,h.own⟩
theorem Mid.lt (h:Mid W0 v0 W b B P v s d N n uw ur uk):N < W.heap.size:=h.bx.lt
theorem Mid.size (h:Mid W0 v0 W b B P v s d N n uw ur uk):W0.heap.size≤W.heap.size:=h.bx.turn.size
theorem Mid.below (h:Mid W0 v0 W b B P v s d N n uw ur uk) (hb:Below W.heap.size W W'):Mid W0 v0 W' b B P v s d N n uw ur uk:=⟨h.bx.below hb,h.rows.below hb⟩
theorem aj.keep {Q:Nat→Prop} (ht:aj b v W v' W') (hr:Rd W b B P v s d) (h:Rows W Q n uw ur uk):Rows W' Q n uw ur uk:=
 h.keep (fun g X t _ hX hT=>by
  have hl:=(Array.getElem?_eq_some_iff.1 hX).1
  refine ht.block g hl (fun e=>?_) (fun e=>?_)
  ·
   subst e
   obtain ⟨u,fV,_⟩:=hr.box
   rw [fV] at hX
   injection hX with hX
   injection hX with _ PA _
   rw [←PA] at hT
   exact fp.2.1 hT
  · exact hr.fg hX (fun e=>by rw [e] at hT;exact fp.1 hT) e)
theorem Mid.step (h:Mid W0 v0 W b B P v s d N n uw ur uk) (ht:aj b v W v' W') (hr:Rd W' b B (gG P N uw ur uk) v' s' d):Mid W0 v0 W' b B P v' s' d N n uw ur uk:=
 ⟨h.bx.step ht hr,ht.keep h.bx.rd h.rows⟩
theorem Mid.start (h:Rd W b B P v s d) (n:Nd) (h1:n.ws=[]) (h2:n.rs=[]) (h3:n.ks=[]):∃w1,W.alloc (.cells (jO n (.slice none 0 0) (.slice none 0 0) (.slice none 0 0)) gv)=w1∧Mid W v w1 b B P v s d W.heap.size n (.slice none 0 0) (.slice none 0 0) (.slice none 0 0)∧Below W.heap.size W w1:=by
 obtain ⟨w1,hw,hb⟩:=kL.start h (jO n (.slice none 0 0) (.slice none 0 0) (.slice none 0 0)) gv
 refine ⟨w1,hw,⟨hb.less (fun g hg _=>⟨hg.1,hg.2,fun e=>(by cases e),fun e=>(by cases e),fun e=>(by cases e)⟩) (fun hh=>hh.2.1 rfl),ML w1 _ n h1 h2 h3⟩,?_⟩
 rw [←hw]
 exact (Below.refl _ _).alloc (Nat.le_refl _) _
theorem Mid.set (h:Mid W0 v0 W b B P v s d N n uw ur uk) (i:Nat) (x:Value) (n':Nd) (he:(jO n uw ur uk).setIfInBounds i x=jO n' uw ur uk) (h1:n'.ws=n.ws) (h2:n'.rs=n.rs) (h3:n'.ks=n.ks):∃w',W.setCell ⟨N,i,none⟩ x=w'∧Mid W0 v0 w' b B P v s d N n' uw ur uk:=by
 obtain ⟨w2,hw,hx,hg,_⟩:=P9 W N i gv x _ h.bx.box
 rw [he] at hx
 refine ⟨w2,hw,h.bx.grown hg hx,?_⟩
 have hr:Rows w2 (fun g=>W0.heap.size≤g) n uw ur uk:=h.rows.keep (fun g X t _ hX hT=>hg.block g (Array.getElem?_eq_some_iff.1 hX).1 (fun e=>by
  obtain rfl:=Option.some.inj e
  rw [h.bx.box] at hX
  injection hX with hX
  injection hX with _ PA _
  rw [←PA] at hT
  exact fp.1 hT))
 exact ⟨by rw [h1];exact hr.w,by rw [h2];exact hr.r,by rw [h3];exact hr.k,hr.qw,hr.qr,hr.qk⟩
theorem MidA.set (h:MidA W0 v0 W b B P v s d N n n' uw ur uk CF Ei CK) (i:Nat) (x:Value) (he:(jO n uw ur uk).setIfInBounds i x=jO n' CF Ei CK):∃w',W.setCell ⟨N,i,none⟩ x=w'∧Mid W0 v0 w' b B P v s d N n' CF Ei CK:=by
 obtain ⟨w2,hw,hx,hg,_⟩:=P9 W N i gv x _ h.bx.box
 rw [he] at hx
 refine ⟨w2,hw,h.bx.grown hg hx,?_⟩
 exact h.rows.keep (fun g X t _ hX hT=>hg.block g (Array.getElem?_eq_some_iff.1 hX).1 (fun e=>by
  obtain rfl:=Option.some.inj e
  rw [h.bx.box] at hX
  injection hX with hX
  injection hX with _ PA _
  rw [←PA] at hT
  exact fp.1 hT))
theorem mh {w:World} {base:Nat} {e:TypeId} {k m:Nat} {x:Value} {xs:List Value} (h:w.ownsRow base e k x m xs) {g:Nat} (hg:x.ownBlock=some g):∃X,w.heap[g]? =some (.cells X e):=by
 rcases h.2 with ⟨rfl,_⟩ | ⟨q,cap,cur,rfl,_,h3,_⟩
 · cases hg
 ·
  obtain rfl:=Option.some.inj hg
  exact ⟨_,h3⟩
theorem ey {w:World} {g:Nat} {X Y:Array Value} {s t:TypeId} (h1:w.heap[g]? =some (.cells X s)) (h2:w.heap[g]? =some (.cells Y t)):s=t:=by
 rw [h1] at h2
 injection h2 with h2
 injection h2
theorem Mid.apart (h:Mid W0 v0 W b B P v s d N n uw ur uk):(∀g,uw.ownBlock=some g→ur.ownBlock≠some g∧uk.ownBlock≠some g)∧(∀g,ur.ownBlock=some g→uk.ownBlock≠some g):=by
 refine ⟨fun g hg=>⟨fun e=>?_,fun e=>?_⟩,fun g hg e=>?_⟩
 ·
  obtain ⟨X,hX⟩:=mh h.rows.w hg
  obtain ⟨Y,hY⟩:=mh h.rows.r e
  exact absurd (ey hX hY) (by decide)
 ·
  obtain ⟨X,hX⟩:=mh h.rows.w hg
  obtain ⟨Y,hY⟩:=mh h.rows.k e
  exact absurd (ey hX hY) (by decide)
 ·
  obtain ⟨X,hX⟩:=mh h.rows.r hg
  obtain ⟨Y,hY⟩:=mh h.rows.k e
  exact absurd (ey hX hY) (by decide)
theorem Mid.rowB (h:Mid W0 v0 W b B P v s d N n uw ur uk) {x:Value} {e:TypeId} {k m:Nat} {xs:List Value} (hx:W.ownsRow 0 e k x m xs) (hT:qp e) (hq:∀g,x.ownBlock=some g→W0.heap.size≤g) {g:Nat} (hg:x.ownBlock=some g):B≤g∧g≠b∧v.ownBlock≠some g∧g≠N:=by
 have h1:=hq g hg
 have h2:=h.bx.old
 have h3:=h.bx.rd.bB
 obtain ⟨X,hX⟩:=mh hx hg
 refine ⟨by omega,by omega,h.bx.rd.fg hX (fun e'=>by rw [e'] at hT;exact fp.1 hT),fun e'=>?_⟩
 subst e'
 exact absurd (ey hX h.bx.box) (fun e'=>by rw [e'] at hT;exact fp.1 hT)
theorem Mid.app_w (h:Mid W0 v0 W b B P v s d N n uw ur uk) (x:Nm) (hg:W.grownBy W' uw.ownBlock) (ho:W'.ownsRow 0 eZ 1 u (n.ws.length+1) (n.ws.map sv++[sv x])) (hat:∀g,u.ownBlock=some g→g < W.heap.size→uw.ownBlock=some g):MidA W0 v0 W' b B P v s d N n { n with ws:=n.ws++[x] } uw ur uk u ur uk:=by
 have hB:∀g,uw.ownBlock=some g→B≤g∧g≠b∧v.ownBlock≠some g∧g≠N:=fun g hg=>h.rowB h.rows.w (by unfold qp;decide) h.rows.qw hg
 have sZ:Rd W' b B (fun g=>gG P N uw ur uk g∧g < W.heap.size) v s d:=(h.bx.rd.less (fun g hp hl=>⟨hp,hl⟩)).turn hg (fun g e _=>⟨(hB g e).1,(hB g e).2.1,(hB g e).2.2.1,fun hP=>absurd e hP.1.2.2.1⟩)
 have hu:∀g,u.ownBlock=some g→W0.heap.size≤g:=fun g hg2=>by
  by_cases hl:g < W.heap.size
  · exact h.rows.qw g (hat g hg2 hl)
  · have:=h.size;omega
 have hN:=(hg.block N h.lt (fun e=>(hB N e.symm).2.2.2 rfl)).trans h.bx.box
 have hne:∀g,(gG P N uw ur uk g∧g < W.heap.size)→u.ownBlock≠some g:=fun g hp e=>hp.1.2.2.1 (hat g e hp.2)
 refine ⟨⟨sZ.less (fun g hp _=>⟨hp.1.1,hp.1.2.1,hne g hp,hp.1.2.2.2.1,hp.1.2.2.2.2⟩),aj.grown h.bx.turn hg (fun g e=>h.rows.qw g e),hN,h.bx.new,h.bx.old,fun hh=>hh.2.1 rfl,h.bx.own⟩,?_⟩
 have hlen:(n.ws++[x]).length=n.ws.length+1:=by simp
 refine ⟨by rw [hlen,List.map_append];exact ho,bG h.rows.r (fun g X hg2 hX=>hg.block g (Array.getElem?_eq_some_iff.1 hX).1 (fun e=>(fun e=>(h.apart.1 g e).1 hg2) e.symm)),bG h.rows.k (fun g X hg2 hX=>hg.block g (Array.getElem?_eq_some_iff.1 hX).1 (fun e=>(fun e=>(h.apart.1 g e).2 hg2) e.symm)),hu,h.rows.qr,h.rows.qk⟩
theorem Mid.new_w (h:Mid W0 v0 W b B P v s d N n uw ur uk) (x:Nm):∃w1 w2,W.alloc (.cells #[sv x] eZ)=w1∧w1.setCell ⟨N,3,none⟩ (.slice (some ⟨W.heap.size,0,none⟩) 1 1)=w2∧w1.heap[N]? =some (.cells (jO n uw ur uk) gv)∧Mid W0 v0 w2 b B P v s d N { n with ws:=[x] } (.slice (some ⟨W.heap.size,0,none⟩) 1 1) ur uk:=by
 have cU:=(Below.refl W.heap.size W).alloc (Nat.le_refl _) (.cells #[sv x] eZ)
 have h1:=h.below cU
 have ly:(W.alloc (.cells #[sv x] eZ)).ownsRow 0 eZ 1 (.slice (some ⟨W.heap.size,0,none⟩) 1 1) 1 ([sv x]):=⟨rfl,.inr ⟨_,1,_,rfl,Nat.zero_le _,heap_alloc_new W _,Nat.le_refl _,by unfold maxLen;decide,rfl,rfl⟩⟩
 have hA:MidA W0 v0 (W.alloc (.cells #[sv x] eZ)) b B P v s d N n { n with ws:=[x] } uw ur uk (.slice (some ⟨W.heap.size,0,none⟩) 1 1) ur uk:=by
  refine ⟨(h.bx.less (P':=fun g=>gG P N uw ur uk g∧g < W.heap.size) (fun g hp hl=>⟨hp,hl⟩) (fun hh=>hh.1.2.1 rfl)).below cU |>.less (fun g hp _=>⟨hp.1.1,hp.1.2.1,fun e=>absurd (Option.some.inj e) (Nat.ne_of_gt hp.2),hp.1.2.2.2.1,hp.1.2.2.2.2⟩) (fun hh=>hh.2.1 rfl),?_⟩
  exact ⟨ly,h1.rows.r,h1.rows.k,fun g e=>by obtain rfl:=Option.some.inj e;exact h.size,h1.rows.qr,h1.rows.qk⟩
 obtain ⟨w2,hw2,hm⟩:=hA.set 3 (.slice (some ⟨W.heap.size,0,none⟩) 1 1) rfl
 exact ⟨_,w2,rfl,hw2,h1.bx.box,hm⟩
theorem Mid.app_r (h:Mid W0 v0 W b B P v s d N n uw ur uk) (x:dZ) (hg:W.grownBy W' ur.ownBlock) (ho:W'.ownsRow 0 gO 4 u (n.rs.length+1) (n.rs.flatMap lr++lr x)) (hat:∀g,u.ownBlock=some g→g < W.heap.size→ur.ownBlock=some g):MidA W0 v0 W' b B P v s d N n { n with rs:=n.rs++[x] } uw ur uk uw u uk:=by
 have hB:∀g,ur.ownBlock=some g→B≤g∧g≠b∧v.ownBlock≠some g∧g≠N:=fun g hg=>h.rowB h.rows.r (by unfold qp;decide) h.rows.qr hg
 have sZ:Rd W' b B (fun g=>gG P N uw ur uk g∧g < W.heap.size) v s d:=(h.bx.rd.less (fun g hp hl=>⟨hp,hl⟩)).turn hg (fun g e _=>⟨(hB g e).1,(hB g e).2.1,(hB g e).2.2.1,fun hP=>absurd e hP.1.2.2.2.1⟩)
 have hu:∀g,u.ownBlock=some g→W0.heap.size≤g:=fun g hg2=>by
  by_cases hl:g < W.heap.size
  · exact h.rows.qr g (hat g hg2 hl)
  · have:=h.size;omega
 have hN:=(hg.block N h.lt (fun e=>(hB N e.symm).2.2.2 rfl)).trans h.bx.box
 have hne:∀g,(gG P N uw ur uk g∧g < W.heap.size)→u.ownBlock≠some g:=fun g hp e=>hp.1.2.2.2.1 (hat g e hp.2)
 refine ⟨⟨sZ.less (fun g hp _=>⟨hp.1.1,hp.1.2.1,hp.1.2.2.1,hne g hp,hp.1.2.2.2.2⟩),aj.grown h.bx.turn hg (fun g e=>h.rows.qr g e),hN,h.bx.new,h.bx.old,fun hh=>hh.2.1 rfl,h.bx.own⟩,?_⟩
 have hlen:(n.rs++[x]).length=n.rs.length+1:=by simp
 refine ⟨bG h.rows.w (fun g X hg2 hX=>hg.block g (Array.getElem?_eq_some_iff.1 hX).1 (fun e=>((h.apart.1 g hg2).1) e.symm)),by rw [hlen,show (n.rs++[x]).flatMap lr=n.rs.flatMap lr++lr x by simp];exact ho,bG h.rows.k (fun g X hg2 hX=>hg.block g (Array.getElem?_eq_some_iff.1 hX).1 (fun e=>(fun e=>h.apart.2 g e hg2) e.symm)),h.rows.qw,hu,h.rows.qk⟩
theorem Mid.app_k (h:Mid W0 v0 W b B P v s d N n uw ur uk) (x:Nat) (hg:W.grownBy W' uk.ownBlock) (ho:W'.ownsRow 0 dU 1 u (n.ks.length+1) (n.ks.map iv++[iv x])) (hat:∀g,u.ownBlock=some g→g < W.heap.size→uk.ownBlock=some g):MidA W0 v0 W' b B P v s d N n { n with ks:=n.ks++[x] } uw ur uk uw ur u:=by
 have hB:∀g,uk.ownBlock=some g→B≤g∧g≠b∧v.ownBlock≠some g∧g≠N:=fun g hg=>h.rowB h.rows.k (by unfold qp;decide) h.rows.qk hg
 have sZ:Rd W' b B (fun g=>gG P N uw ur uk g∧g < W.heap.size) v s d:=(h.bx.rd.less (fun g hp hl=>⟨hp,hl⟩)).turn hg (fun g e _=>⟨(hB g e).1,(hB g e).2.1,(hB g e).2.2.1,fun hP=>absurd e hP.1.2.2.2.2⟩)
 have hu:∀g,u.ownBlock=some g→W0.heap.size≤g:=fun g hg2=>by
  by_cases hl:g < W.heap.size
  · exact h.rows.qk g (hat g hg2 hl)
  · have:=h.size;omega
 have hN:=(hg.block N h.lt (fun e=>(hB N e.symm).2.2.2 rfl)).trans h.bx.box
 have hne:∀g,(gG P N uw ur uk g∧g < W.heap.size)→u.ownBlock≠some g:=fun g hp e=>hp.1.2.2.2.2 (hat g e hp.2)
 refine ⟨⟨sZ.less (fun g hp _=>⟨hp.1.1,hp.1.2.1,hp.1.2.2.1,hp.1.2.2.2.1,hne g hp⟩),aj.grown h.bx.turn hg (fun g e=>h.rows.qk g e),hN,h.bx.new,h.bx.old,fun hh=>hh.2.1 rfl,h.bx.own⟩,?_⟩
 have hlen:(n.ks++[x]).length=n.ks.length+1:=by simp
 refine ⟨bG h.rows.w (fun g X hg2 hX=>hg.block g (Array.getElem?_eq_some_iff.1 hX).1 (fun e=>((h.apart.1 g hg2).2) e.symm)),bG h.rows.r (fun g X hg2 hX=>hg.block g (Array.getElem?_eq_some_iff.1 hX).1 (fun e=>(h.apart.2 g hg2) e.symm)),by rw [hlen,List.map_append];exact ho,h.rows.qw,h.rows.qr,hu⟩
theorem Mid.new_k (h:Mid W0 v0 W b B P v s d N n uw ur uk) (x:Nat):∃w1 w2,W.alloc (.cells #[iv x] dU)=w1∧w1.setCell ⟨N,6,none⟩ (.slice (some ⟨W.heap.size,0,none⟩) 1 1)=w2∧w1.heap[N]? =some (.cells (jO n uw ur uk) gv)∧Mid W0 v0 w2 b B P v s d N { n with ks:=[x] } uw ur (.slice (some ⟨W.heap.size,0,none⟩) 1 1):=by
 have cU:=(Below.refl W.heap.size W).alloc (Nat.le_refl _) (.cells #[iv x] dU)
 have h1:=h.below cU
 have ly:(W.alloc (.cells #[iv x] dU)).ownsRow 0 dU 1 (.slice (some ⟨W.heap.size,0,none⟩) 1 1) 1 ([iv x]):=⟨rfl,.inr ⟨_,1,_,rfl,Nat.zero_le _,heap_alloc_new W _,Nat.le_refl _,by unfold maxLen;decide,rfl,rfl⟩⟩
 have hA:MidA W0 v0 (W.alloc (.cells #[iv x] dU)) b B P v s d N n { n with ks:=[x] } uw ur uk uw ur (.slice (some ⟨W.heap.size,0,none⟩) 1 1):=by
  refine ⟨(h.bx.less (P':=fun g=>gG P N uw ur uk g∧g < W.heap.size) (fun g hp hl=>⟨hp,hl⟩) (fun hh=>hh.1.2.1 rfl)).below cU |>.less (fun g hp _=>⟨hp.1.1,hp.1.2.1,hp.1.2.2.1,hp.1.2.2.2.1,fun e=>absurd (Option.some.inj e) (Nat.ne_of_gt hp.2)⟩) (fun hh=>hh.2.1 rfl),?_⟩
  exact ⟨h1.rows.w,h1.rows.r,ly,h1.rows.qw,h1.rows.qr,fun g e=>by obtain rfl:=Option.some.inj e;exact h.size⟩
 obtain ⟨w2,hw2,hm⟩:=hA.set 6 (.slice (some ⟨W.heap.size,0,none⟩) 1 1) rfl
 exact ⟨_,w2,rfl,hw2,h1.bx.box,hm⟩
end
theorem av {α:Type} {enc:α→Value→Prop} {W:World} {b B:Nat} {P:Nat→Prop} {v:Value} {d:Nat} {X:Sy.P α} {r:Ending} {W':World} (h:Post enc W b B P v d X r W'):
 (∃e,X=.error e∧r=mI e.1 e.2∧Below B W W')∨(∃y u v',X=.ok y∧r=.returned u∧enc y.1 u∧aj b v W v' W'∧Rd W' b B P v' y.2 d):=by
 cases X with
 | error e=>exact .inl ⟨e,rfl,h.1,h.2⟩
 | ok y=>
   obtain ⟨u,v',h1,h2,h3,h4⟩:=h
   exact .inr ⟨y,u,v',rfl,h1,h2,h3,h4⟩
def nW (W:World) (b B:Nat) (P:Nat→Prop) (v:Value) (d:Nat) (x:Sy.P Nd) (r:Ending) (W':World):Prop:=
 match x with
 | .error e=>r=mI e.1 e.2∧Below B W W'
 | .ok y=>∃uw ur uk v',r=.returned (.agg (jO y.1 uw ur uk))∧Rows W' (fun g=>W.heap.size≤g) y.1 uw ur uk∧aj b v W v' W'∧Rd W' b B P v' y.2 d
theorem oD {W:World} {b B:Nat} {P:Nat→Prop} {v:Value} {d:Nat} {X:Sy.P Nd} {r:Ending} {W':World} (h:nW W b B P v d X r W'):
 (∃e,X=.error e∧r=mI e.1 e.2∧Below B W W')∨(∃y uw ur uk v',X=.ok y∧r=.returned (.agg (jO y.1 uw ur uk))∧Rows W' (fun g=>W.heap.size≤g) y.1 uw ur uk∧aj b v W v' W'∧Rd W' b B P v' y.2 d):=by
 cases X with
 | error e=>exact .inl ⟨e,rfl,h.1,h.2⟩
 | ok y=>
   obtain ⟨uw,ur,uk,v',h1,h2,h3,h4⟩:=h
   exact .inr ⟨y,uw,ur,uk,v',rfl,h1,h2,h3,h4⟩
theorem cg {α:Type} {enc:α→Value→Prop} {W:World} {b B:Nat} {P:Nat→Prop} {v:Value} {d:Nat} {x:Sy.P α} {e:Int × Nat} {W':World} (hx:x=.error e) (h:Below B W W'):Post enc W b B P v d x (mI e.1 e.2) W':=by subst hx;exact ⟨rfl,h⟩
theorem aN {W:World} {b B:Nat} {P:Nat→Prop} {v:Value} {d:Nat} {x:Sy.P Nd} {e:Int × Nat} {W':World} (hx:x=.error e) (h:Below B W W'):nW W b B P v d x (mI e.1 e.2) W':=by subst hx;exact ⟨rfl,h⟩
def GG (nest:S→Sy.P Nat) (d:Nat):Prop:=∀(W:World) (b B:Nat) (P:Nat→Prop) (v:Value) (s:S),Rd W b B P v s d→(∀g,W.heap.size≤g→P g)→ph s≤80000→(aL s=true∨names s=true)→
 Calls Tryz.prog 113 #[.pointer (some ⟨b,0,none⟩)] W (Post eN W b B P v d (nest s))
structure Env (nest:S→Sy.P Nat) (d:Nat):Prop where
 ih:GG nest d
 weak:∀s,dB s (nest s)
 cost:Ih nest
section
variable {W0 W W':World} {b B:Nat} {P:Nat→Prop} {v0 v v':Value} {s s':S} {d N:Nat} {n n':Nd} {uw ur uk CF Ei CK:Value}
theorem Mid.free (h:Mid W0 v0 W b B P v s d N n uw ur uk) (hP:∀g,W0.heap.size≤g→P g):∀g,W.heap.size≤g→gG P N uw ur uk g:=fun g hg=>by
 have h1:=h.size
 have h2:=h.lt
 refine ⟨hP g (by omega),by omega,fun e=>?_,fun e=>?_,fun e=>?_⟩
 · have:=(h.rows.w.lt g e).2;omega
 · have:=(h.rows.r.lt g e).2;omega
 · have:=(h.rows.k.lt g e).2;omega
theorem Mid.belowB (h:Mid W0 v0 W b B P v s d N n uw ur uk) (hv:∀g,v0.ownBlock=some g→B≤g):Below B W0 W:=by
 have h1:=h.bx.rd.bB
 have h2:=h.bx.old
 exact h.bx.turn.below h1 hv (by omega)
theorem MidA.below (h:MidA W0 v0 W b B P v s d N n n' uw ur uk CF Ei CK) (hb:Below W.heap.size W W'):MidA W0 v0 W' b B P v s d N n n' uw ur uk CF Ei CK:=⟨h.bx.below hb,h.rows.below hb⟩
theorem Mid.rd (h:Mid W0 v0 W b B P v s d N n uw ur uk):Rd W b B P v s d:=h.bx.rd.less (fun g hg _=>hg.1)
theorem Mid.rowsP (h:Mid W0 v0 W b B P v s d N n uw ur uk) (hP:∀g,W0.heap.size≤g→P g):Rows W P n uw ur uk:=h.rows.less (fun g hg _=>hP g hg)
theorem Mid.lens (h:Mid W0 v0 W b B P v s d N n uw ur uk):(∃a c,uw=.slice a n.ws.length c)∧(∃a c,ur=.slice a n.rs.length c)∧(∃a c,uk=.slice a n.ks.length c):=xM h.rows
end
theorem MA {nest:S→Sy.P Nat} (hn:∀s,dB s (nest s)) (em:Bool) (s:S):aO nest em s=bd (runM nest [] (bj s)) fun ks s1=>if ks=[]∧em=false then er 20 s1 else Sy.bC { k:=5,ks:=ks,ln:=(nx (bj s)).ln } s1:=by
 unfold aO runM
 rw [pF hn s.2.length (bj s).2.length [] (bj s) (ew s) (Nat.le_refl _)]
abbrev Hj (nest:S→Sy.P Nat) (d:Nat):Prop:=∀(W:World) (b B:Nat) (P:Nat→Prop) (v:Value) (s:S),Rd W b B P v s d→(∀g,W.heap.size≤g→P g)→ph s≤80000→
 Calls Tryz.prog 52 #[.pointer (some ⟨b,0,none⟩)] W (Post eN W b B P v d (cx nest s))
theorem FA {nest:S→Sy.P Nat} {d:Nat} (E:Env nest d) (hA:Hj nest d) (W:World) (b B:Nat) (P:Nat→Prop) (v:Value) (s:S) (h:Rd W b B P v s d) (hP:∀g,W.heap.size≤g→P g) (hF:ph s≤80000) (em:Bool):
 Calls Tryz.prog 23 #[.pointer (some ⟨b,0,none⟩),.bool em] W (Post eN W b B P v d (aO nest em s)):=by
 have HR:=Lib.hid h
 have HE:Hid (Env nest d):=E
 have HAo:Hid (Hj nest d):=hA
 have HP:Hid (∀g,W.heap.size≤g→P g):=hP
 have HF:Hid (ph (bj s)≤80000):=Nat.le_trans (dG s) hF
 obtain ⟨Z,hZ⟩:∃Z,aO nest em s=Z:=⟨_,rfl⟩
 have HZ:Hid (Z=bd (runM nest [] (bj s)) fun ks s1=>if ks=[]∧em=false then er 20 s1 else Sy.bC { k:=5,ks:=ks,ln:=(nx (bj s)).ln } s1):=by show _=_;rw [←hZ];exact MA E.weak em s
 have HW:=Lib.hid E.weak
 rw [hZ]
 clear h hP hF hZ E hA
 obtain ⟨l,hl⟩:∃l,bj s=l:=⟨_,rfl⟩
 have HL:=Lib.hid hl
 rw [hl] at HZ HF
 clear hl
 go_enter Tryz.func23,Tryz.ntmps23
 go_wp2_with fail
 refine (cJ W b B P v s d HR.out).mono ?_
 rintro r w1 ⟨rfl,nX,hr1⟩
 rw [show bj s=l from HL.out] at hr1
 have J8:=Lib.hid hr1
 have wK:=Lib.hid nX
 clear nX hr1
 go_wp2_with fail
 refine (a8 w1 b B P v l d J8.out).mono ?_
 rintro r w2 ⟨rfl,hb2⟩
 have gR:=Lib.hid (J8.out.below hb2)
 have fK:=Lib.hid (wK.out.trans (aj.of_below hb2))
 clear hb2
 have F3:=jD (nx l)
 go_wp2_with fail
 obtain ⟨n0,eP⟩:∃n0:Nd,n0={ k:=5,ln:=(nx l).ln }:=⟨_,rfl⟩
 obtain ⟨w3,hw3,E9,hb3⟩:=Mid.start gR.out n0 (by rw [eP]) (by rw [eP]) (by rw [eP])
 obtain ⟨N,hN⟩:∃N,w2.heap.size=N:=⟨_,rfl⟩
 have sJ:w2.alloc (.cells #[.int .i64 5,.string ⟨#[]⟩,.bool false,.slice none 0 0,.int .i64 0,.slice none 0 0,.slice none 0 0,.int .i64 ((nx l).ln:Int)] gv)=w3:=by rw [eP] at hw3;exact hw3
 rw [sJ,hN]
 rw [hN] at E9
 have rG:n0={ n0 with ks:=[] }:=by rw [eP]
 rw [rG] at E9
 have Jz:=Lib.hid E9
 have oz:=Lib.hid eP
 have LG:Hid (aj b v W v w2):=fK.out
 have dp:Hid (∀g,w2.heap.size≤g→P g):=fun g hg=>HP.out g (Nat.le_trans fK.out.size hg)
 have HV:Hid (∀g,v.ownBlock=some g→B≤g):=fun g hg=>(HR.out.own g hg).1
 have DA:Hid (Below B W w2):=fK.out.belowB HR.out
 clear hw3 E9 hb3 sJ hN eP rG F3
 go_loopw [] (fun wr=>∃(s':S) (ks:List Nat) (v' uk:Value) (n1:Nd),runM nest ks s'=runM nest [] l∧n1={ n0 with ks:=ks }∧Mid w2 v wr b B P v' s' d N n1 (.slice none 0 0) (.slice none 0 0) uk∧ph s'+ks.length≤80000) (fun wr=>kh wr b)
 case atStart=>exact ⟨l,[],v,_,_,rfl,rfl,Jz.out,HF.out⟩
 case round=>
  obtain ⟨s',ks,v',uk,n1,hrun,uz,hm,zh⟩:=hrel
  have qB:=Lib.hid uz
  have je:=Lib.hid hrun
  have lU:=Lib.hid hm
  have rH:=Lib.hid zh
  clear hrun uz hm zh Jz
  go_wp2_with fail
  refine (sO wr b B _ v' s' d lU.out.bx.rd).mono ?_
  rintro r w4 ⟨rfl,hb4⟩
  have HM:=Lib.hid (lU.out.below hb4)
  have iE:=Lib.hid hb4
  clear hb4
  obtain ⟨z,hz⟩:∃z,begins s'=z:=⟨_,rfl⟩
  have XA:=Lib.hid hz
  rw [hz]
  clear hz
  cases z with
  | false=>
    have EY:Hid (s'.1.length≤100000):=by have:=rH.out;unfold ph at this;show _≤_;omega
    have Uw:Hid (Z=if ks=[]∧em=false then er 20 s' else Sy.bC { k:=5,ks:=ks,ln:=(nx l).ln } s'):=by show _=_;rw [HZ.out,←je.out,run_eq HW.out,if_neg (by rw [XA.out];decide)];rfl
    obtain ⟨⟨aw,cw,Dq⟩,⟨ar,cr,PT⟩,⟨ak,ck,mV⟩⟩:=HM.out.lens
    obtain ⟨L,hL⟩:∃L,n1.ks.length=L:=⟨_,rfl⟩
    have Uq:=Lib.hid hL
    rw [hL] at mV
    subst mV
    obtain ⟨⟨x0,x1,x2,x3,x4,x5,x6,x7⟩,z0,z1,z2,z3,z4,z5,z6,z7⟩:=af HM.out.bx.box
    have eo:n1.ks=ks:=by rw [qB.out]
    clear Dq PT hL
    by_cases hnil:ks=[]
    ·
     have e1:((L:Int)==0)=true:=by rw [beq_iff_eq];have:=Uq.out;rw [eo,hnil] at this;simp at this;omega
     have e3:decide ((L:Int)=0)=true:=by simpa using e1
     cases em with
     | false=>
       have oJ:Hid (Z=er 20 s'):=by show _=_;rw [Uw.out,if_pos ⟨hnil,rfl⟩]
       clear hnil eo
       go_wp2_with fail
       refine (bq w4 b B _ _ s' d HM.out.bx.rd 20).mono ?_
       rintro r w8 ⟨rfl,qC⟩
       exact ⟨rfl,kW oJ.out ((DA.out.trans (HM.out.belowB HV.out)).trans (qC.mono HM.out.bx.rd.size))⟩
     | true=>
       have oJ:Hid (Z=Sy.bC n1 s'):=by show _=_;rw [Uw.out,if_neg (fun h=>by cases h.2),qB.out,oz.out]
       clear hnil eo
       go_wp2_with fail
       refine (bQ w4 b B P _ s' d HM.out.rd n1 _ _ _ (HM.out.rowsP dp.out) (by have:=EY.out;omega)).mono ?_
       rintro r w8 hp
       rw [←oJ.out] at hp
       have Ck:=Lib.hid hp
       clear hp
       rcases av Ck.out with ⟨er,cy,_,_⟩ | ⟨y,u8,v8,jv,rfl,he,oM,ov⟩
       · exact absurd (oJ.out.symm.trans cy) (by intro h;cases h)
       ·
        have yF:Hid (aj b v W v8 w8∧Rd w8 b B P v8 y.2 d):=⟨(LG.out.trans HM.out.bx.turn).trans oM,ov⟩
        have D1:=Lib.hid jv
        clear oM ov jv
        have bX:u8=.int .i64 (y.1:Int):=he
        subst bX
        clear he
        go_wp2_with fail
        go_ret
        exact fy D1.out rfl yF.out.1 yF.out.2
    ·
     have e1:((L:Int)==0)=false:=by rw [beq_eq_false_iff_ne];have:=Uq.out;rw [eo] at this;have h9:=List.length_pos_iff.2 hnil;omega
     have e3:decide ((L:Int)=0)=false:=by simpa using e1
     have oJ:Hid (Z=Sy.bC n1 s'):=by show _=_;rw [Uw.out,if_neg (fun h=>hnil h.1),qB.out,oz.out]
     clear hnil eo
     go_wp2_with fail
     refine (bQ w4 b B P _ s' d HM.out.rd n1 _ _ _ (HM.out.rowsP dp.out) (by have:=EY.out;omega)).mono ?_
     rintro r w8 hp
     rw [←oJ.out] at hp
     have Ck:=Lib.hid hp
     clear hp
     rcases av Ck.out with ⟨er,cy,_,_⟩ | ⟨y,u8,v8,jv,rfl,he,oM,ov⟩
     · exact absurd (oJ.out.symm.trans cy) (by intro h;cases h)
     ·
      have yF:Hid (aj b v W v8 w8∧Rd w8 b B P v8 y.2 d):=⟨(LG.out.trans HM.out.bx.turn).trans oM,ov⟩
      have D1:=Lib.hid jv
      clear oM ov jv
      have bX:u8=.int .i64 (y.1:Int):=he
      subst bX
      clear he
      go_wp2_with fail
      go_ret
      exact fy D1.out rfl yF.out.1 yF.out.2
  | true=>
    go_upto_region 4 with fail
    obtain ⟨X,hX⟩:∃X,cx nest s'=X:=⟨_,rfl⟩
    have HX:=Lib.hid hX
    have dO:Hid (n1.ks.length≤100000):=by have:=rH.out;show _≤_;rw [qB.out];show ks.length≤_;omega
    have et:Hid (∀x,Rd x b B (gG P N (.slice none 0 0) (.slice none 0 0) uk) v' s' d→w4.heap.size≤x.heap.size→Calls Tryz.prog 52 #[.pointer (some ⟨b,0,none⟩)] x (Post eN x b B (gG P N (.slice none 0 0) (.slice none 0 0) uk) v' d X)):=fun x hr hs=>by
     rw [←hX]
     exact HAo.out x b B _ v' s' hr (fun g hg=>HM.out.free dp.out g (Nat.le_trans hs hg)) (by have:=rH.out;omega)
    clear hX
    obtain ⟨i0,iy,hz0,hz1,hz2⟩:=info_parts jy
    have yL:Hid (∀g,Value.ownBlock (uk)=some g→g < w4.heap.size):=fun g hg=>(HM.out.rows.k.lt g hg).2
    refine Rp.cq (fun ch x=>∃e,X=.error e∧mI e.1 e.2=Ending.panicked ch∧Below B w4 x) 6 [] [Rg.Is (.pointer (some ⟨N,6,none⟩)),Rg.Is (uk),Rg.Is (.pointer (some ⟨b,0,none⟩)),(fun u9 (x:World)=>∃y,X=.ok y∧u9=iv y.1),(fun u9 x=>∃q,u9=.slice (some ⟨q,0,none⟩) 1 1∧w4.heap.size≤q∧(∃y,X=.ok y∧x.heap[q]? =some (.cells #[iv y.1] dU))∧w4.heap.size < x.heap.size),(fun u9 x=>∃y v9,X=.ok y∧MidA w2 v x b B P v9 y.2 d N (n1) ({ n1 with ks:=n1.ks++[y.1] }) (.slice none 0 0) (.slice none 0 0) uk (.slice none 0 0) (.slice none 0 0) u9∧w4.heap.size < x.heap.size)] (fun _ _=>True) (fun ls x=>(ls 3=false→x.heap.size=w4.heap.size∧Below w4.heap.size w4 x)∧(ls 3=true→ls 5=false→∃y v9,X=.ok y∧Mid w2 v x b B P v9 y.2 d N (n1) (.slice none 0 0) (.slice none 0 0) uk∧w4.heap.size≤x.heap.size)) (fun k x y=>if k=3 then x.heap.size=w4.heap.size else if k=5 then x.grownBy y (Value.ownBlock (uk)) else (Below x.heap.size x y∧(k=4∨y.heap.size=x.heap.size))) (by kernel_rfl) (by kernel_rfl) (of_decide_eq_true (by kernel_rfl)) (by kernel_rfl) (by kernel_rfl) trivial ⟨fun _=>⟨rfl,rfl,rfl,rfl,Nat.le_refl _,fun _ _=>rfl⟩,fun h=>by cases h⟩ (fun ls mC x e h1=>⟨fun h2=>h1.1 (by rw [e];exact h2),fun h2 h3=>h1.2 (by rw [e];exact h2) (by rw [e];exact h3)⟩) (fun _ _ _ _ _=>trivial) (fun i ls x _ h1=>by rw [show ([]:List Bool).getD i true=true from rfl] at h1;cases h1) ?_ ⟨rfl,rfl,rfl,rfl,rfl,rfl,trivial⟩ ⟨?_,?_,?_,?_,?_,?_,trivial⟩ ?_ ?_
    ·
     intro i k u8 x y9 hik _ h1 hK
     match i,h1,hik with
     | 0,h1,_=>exact h1
     | 1,h1,_=>exact h1
     | 2,h1,_=>exact h1
     | 3,h1,_=>exact h1
     | 4,h1,hik=>
       obtain ⟨q,hq,nj,⟨y,aI,iK⟩,hlt⟩:=h1
       have rB:=(Array.getElem?_eq_some_iff.1 iK).1
       by_cases k3:k=3
       · rw [if_pos k3] at hK;omega
       ·
        rw [if_neg k3] at hK
        by_cases k5:k=5
        ·
         rw [if_pos k5] at hK
         exact ⟨q,hq,nj,⟨y,aI,(hK.block q rB (fun e=>by have:=yL.out q e.symm;omega)).trans iK⟩,Nat.lt_of_lt_of_le hlt hK.size⟩
        ·
         rw [if_neg k5] at hK
         exact ⟨q,hq,nj,⟨y,aI,(hK.1.block q rB).trans iK⟩,Nat.lt_of_lt_of_le hlt hK.1.size⟩
     | 5,h1,hik=>
       obtain ⟨y,v9,aI,hA,hlt⟩:=h1
       by_cases k3:k=3
       · rw [if_pos k3] at hK;omega
       ·
        rw [if_neg k3,if_neg (fun e=>hik e.symm)] at hK
        exact ⟨y,v9,aI,hA.below hK.1,Nat.lt_of_lt_of_le hlt hK.1.size⟩
     | _+6,_,_=>trivial
    ·
     intro _ b9 x ls hR hS ai bI bf hk
     have h5:b9.eval (.tmp 5)=.pointer (some ⟨N,0,none⟩):=Eq.mp (by kernel_rfl) (hk 5 (by decide))
     refine Rp.ag ?_
     exact Rs.aR _ _ h5 (by have:=j6 N 0 6 (by decide) x;rw [Nat.zero_add] at this;exact this) ⟨by rw [if_neg (by decide),if_neg (by decide)];exact ⟨Below.refl _ _,.inr rfl⟩,rfl,⟨fun hh=>hS.1 hh,fun h2 h3=>hS.2 h2 h3⟩⟩
    ·
     intro _ b9 x ls hR hS ai bI bf hk
     have U2:b9.eval (.tmp 14)=.pointer (some ⟨N,6,none⟩):=Eq.mp (by kernel_rfl) (hk 14 (by decide))
     have l5:ls 5=false:=bf [] 5 _ rfl (by kernel_rfl)
     have hc:x.cell? ⟨N,6,none⟩=some (uk):=by
      cases l3:ls 3 with
      | false=>have hm:=HM.out.below (hS.1 l3).2;simp [World.cell?,hm.bx.box]
      | true=>obtain ⟨y,v9,aI,hm,hsz⟩:=hS.2 l3 l5;simp [World.cell?,hm.bx.box]
     refine Rp.ag ?_
     exact Rg.aK _ _ U2 (Ap.aW (by simp [isAgg]) hc) ⟨by rw [if_neg (by decide),if_neg (by decide)];exact ⟨Below.refl _ _,.inr rfl⟩,rfl,⟨fun hh=>hS.1 hh,fun h2 h3=>hS.2 h2 h3⟩⟩
    ·
     intro _ b9 x ls hR hS ai bI bf hk
     have h0:b9.eval (.tmp 0)=.pointer (some ⟨b,0,none⟩):=Eq.mp (by kernel_rfl) (hk 0 (by decide))
     refine Rp.ag ?_
     exact Rg.az ⟨by rw [if_neg (by decide),if_neg (by decide)];exact ⟨Below.refl _ _,.inr rfl⟩,h0,⟨fun hh=>hS.1 hh,fun h2 h3=>hS.2 h2 h3⟩⟩
    ·
     intro _ b9 x ls hR hS ai bI bf hk
     have Fo:b9.eval (.tmp 16)=.pointer (some ⟨b,0,none⟩):=Eq.mp (by kernel_rfl) (hk 16 (by decide))
     obtain ⟨hsz,hb⟩:=hS.1 ai
     have hm:=HM.out.below hb
     refine Rp.bW #[.pointer (some ⟨b,0,none⟩)] Tryz.func52 (by kernel_rfl) (by kernel_rfl) (by simp [Fo,show ∀v,b9.eval (.const v)=v from fun _=>rfl]) (et.out x hm.bx.rd hb.size) ?_
     intro e w' hp
     rcases av hp with ⟨er,cy,rfl,df⟩ | ⟨y,u9,v9,aI,rfl,he,ht,hr⟩
     · exact .inr ⟨_,rfl,er,cy,rfl,(hb.mono HM.out.bx.rd.size).trans df⟩
     · exact .inl ⟨u9,rfl,by rw [if_pos rfl];exact hsz,⟨y,aI,he⟩,⟨fun hh=>by simp [Rs.upd] at hh,fun _ _=>⟨y,v9,aI,hm.step ht hr,by have:=ht.size;omega⟩⟩⟩
    ·
     intro _ b9 x ls hR hS ai bI bf hk
     have G1:(fun u9 (x:World)=>∃y,X=.ok y∧u9=iv y.1) (b9.eval (.tmp 17)) x:=Eq.mp (by kernel_rfl) (hk 17 (by decide))
     have l3:ls 3=true:=bI [] 3 (by kernel_rfl)
     have l5:ls 5=false:=bf [] 5 _ rfl (by kernel_rfl)
     obtain ⟨y,v9,aI,hm,hsz⟩:=hS.2 l3 l5
     obtain ⟨y2,gi,he⟩:=G1
     have lC:y2=y:=Except.ok.inj (gi.symm.trans aI)
     subst lC
     have cU:=(Below.refl x.heap.size x).alloc (Nat.le_refl _) (.cells #[iv y2.1] dU)
     refine Rp.ag ?_
     exact Rg.di #[(0,iv y2.1)] _ (by simp [he]) (by go_simp;rfl) ⟨by rw [if_neg (by decide),if_neg (by decide)];exact ⟨cU,.inl rfl⟩,⟨x.heap.size,rfl,hsz,⟨y2,aI,heap_alloc_new x _⟩,by rw [World.size_alloc];omega⟩,⟨fun hh=>absurd (l3.symm.trans hh) (by decide),fun _ _=>⟨y2,v9,aI,hm.below cU,by rw [World.size_alloc];omega⟩⟩⟩
    ·
     intro _ b9 x ls hR hS ai bI bf hk
     have Dr:b9.eval (.tmp 15)=uk:=Eq.mp (by kernel_rfl) (hk 15 (by decide))
     have N5:(fun u9 x=>∃q,u9=.slice (some ⟨q,0,none⟩) 1 1∧w4.heap.size≤q∧(∃y,X=.ok y∧x.heap[q]? =some (.cells #[iv y.1] dU))∧w4.heap.size < x.heap.size) (b9.eval (.tmp 18)) x:=Eq.mp (by kernel_rfl) (hk 18 (by decide))
     have l3:ls 3=true:=bI [] 3 (by kernel_rfl)
     obtain ⟨y,v9,aI,hm,hsz⟩:=hS.2 l3 ai
     obtain ⟨q,hq,nj,⟨y2,gi,iK⟩,hlt⟩:=N5
     have lC:y2=y:=Except.ok.inj (gi.symm.trans aI)
     subst lC
     obtain ⟨u9,w',hrun,hown',hgr,hat⟩:=Ap.bR (P:=Tryz.prog) x 0 35 35 35 dU i0 _ 1 8 Tryz.underlying35 (bw Tryz.underlying35) iy hz0 hz1 hz2 rfl (by decide) (by decide) (uk) _ _ hm.rows.k (b9.eval (.tmp 18)) 1 ([iv y2.1]) (by rw [hq];exact cP (b:=q) (off:=0) rfl (by intro u hu;obtain rfl:=List.mem_singleton.1 hu;rfl) (.inr rfl) (fun i z hi=>by rw [Nat.zero_add];unfold World.cell?;simp only [iK];simpa using hi)) (by unfold maxLen;have:=dO.out;omega) (by have:=dO.out;omega) (Nat.zero_le _)
     refine Rp.ag ?_
     exact Ap.cR (uk) _ u9 w' Dr rfl hrun ⟨by rw [if_neg (by decide),if_pos rfl];exact hgr,⟨y2,v9,aI,hm.app_k y2.1 hgr hown' hat,Nat.lt_of_lt_of_le hlt hgr.size⟩,⟨fun hh=>absurd (l3.symm.trans hh) (by decide),fun _ hh=>by simp [Rs.upd] at hh⟩⟩
    ·
     intro ch a' w' yN hD
     obtain ⟨er,cy,A8,qU⟩:=hD
     refine ⟨yN,?_⟩
     rw [←A8]
     have hz:Z=.error er:=by rw [HZ.out,←je.out,run_eq HW.out,if_pos XA.out,HX.out,cy];rfl
     exact cg hz ((DA.out.trans (HM.out.belowB HV.out)).trans qU)
    intro vals wD ls _ uj _ hL
    obtain ⟨g0,g1,g2,g3,g4,g5,_⟩:=hL
    obtain ⟨y,v9,aI,hA,_⟩:=(g5:(fun u9 x=>∃y v9,X=.ok y∧MidA w2 v x b B P v9 y.2 d N (n1) ({ n1 with ks:=n1.ks++[y.1] }) (.slice none 0 0) (.slice none 0 0) uk (.slice none 0 0) (.slice none 0 0) u9∧w4.heap.size < x.heap.size) (vals 5) wD)
    clear g0 g1 g2 g3 g4 uj
    obtain ⟨n2,bO⟩:∃n2:Nd,{ n1 with ks:=n1.ks++[y.1] }=n2:=⟨_,rfl⟩
    rw [bO] at hA
    have dA:=Lib.hid bO
    simp only [Rg.bh,List.take_succ_cons,List.take_zero,List.drop_succ_cons,List.drop_zero,List.setIfInBounds_toArray,List.set_cons_succ,List.set_cons_zero]
    generalize vals 0=g0 at *
    generalize vals 1=g1 at *
    generalize vals 2=g2 at *
    generalize vals 3=g3 at *
    generalize vals 4=g4 at *
    generalize vals 5=u9 at *
    obtain ⟨a9,c9,wq,_⟩:=aA hA.rows.k
    subst wq
    obtain ⟨w9,KF,fj⟩:=hA.set 6 (.slice a9 n2.ks.length c9) (by rw [←dA.out];rfl)
    obtain ⟨⟨x0,x1,x2,x3,x4,x5,x6,x7⟩,z0,z1,z2,z3,z4,z5,z6,z7⟩:=af hA.bx.box
    have pH:=Lib.hid fj
    have ox:=Lib.hid aI
    clear hA fj aI i0 iy hz0 hz1 hz2 bO
    have Mh:Hid (n2={ n0 with ks:=ks++[y.1] }):=by show _=_;rw [←dA.out,qB.out]
    have iH:Hid (runM nest [] l=if aV 2 [[59]] y.2=false∧(nx y.2).k≠3 then .ok (ks++[y.1],y.2) else runM nest (ks++[y.1]) (bj (tk y.2))):=by
     show _=_
     rw [←je.out,run_eq HW.out,if_pos XA.out,HX.out,ox.out];rfl
    have FI:Hid (ph y.2+6≤ph s'∧y.2.2.length≤s'.2.length):=⟨xb HE.out.cost s' y (by rw [HX.out,ox.out]),jo HW.out s' y (by rw [HX.out,ox.out])⟩
    clear dA je qB et dO
    go_wp2_with fail
    refine (jX w9 b B _ v9 y.2 d pH.out.bx.rd 2 [[59]] (by decide)).mono ?_
    rintro r lq ⟨rfl,Y6⟩
    have jY:=Lib.hid (pH.out.below ((Below.refl _ _).trans Y6))
    clear Y6 x0 x1 x2 x3 x4 x5 x6 x7 z0 z1 z2 z3 z4 z5 z6 z7 KF
    obtain ⟨zi,hzi⟩:∃zi,aV 2 [[59]] y.2=zi:=⟨_,rfl⟩
    have K8:=Lib.hid hzi
    rw [hzi]
    clear hzi
    cases zi with
    | true=>
      have Mu:Hid (runM nest (ks++[y.1]) (bj (tk y.2))=runM nest [] l):=by show _=_;rw [iH.out,if_neg (fun h=>by rw [show aV 2 [[59]] y.2=true from K8.out] at h;exact absurd h.1 (by decide))]
      go_wp2_with fail
      refine (bm lq b B _ v9 y.2 d jY.out.bx.rd).mono ?_
      rintro r Lj ⟨rfl,OI,NZ⟩
      have vq:=Lib.hid (jY.out.step OI NZ)
      clear OI NZ
      go_wp2_with fail
      refine (cJ Lj b B _ v9 (tk y.2) d vq.out.bx.rd).mono ?_
      rintro r EX ⟨rfl,Dm,D4⟩
      have o7:=Lib.hid (vq.out.step Dm D4)
      have ru:Hid ((bj (tk y.2)).2.length < s'.2.length∧ph (bj (tk y.2))≤ph y.2):=⟨Nat.lt_of_le_of_lt (ew _) (Nat.lt_of_lt_of_le (eJ (by rw [dD K8.out];decide)) FI.out.2),Nat.le_trans (dG _) (gg _)⟩
      clear Dm D4
      go_wp2_with fail
      go_roundw
      case rel=>exact ⟨bj (tk y.2),ks++[y.1],v9,_,n2,Mu.out,Mh.out,o7.out,by have:=ru.out.2;have:=FI.out.1;have:=rH.out;simp only [List.length_append,List.length_singleton];omega⟩
      case measure=>rw [cB o7.out.bx.rd,cB lU.out.bx.rd];exact ru.out.1
    | false=>
      obtain ⟨t3,gI⟩:∃t3,nx y.2=t3:=⟨_,rfl⟩
      have jf:=Lib.hid gI
      have F0:=gj t3
      clear gI
      go_wp2_with fail
      refine (a8 lq b B _ v9 y.2 d jY.out.bx.rd).mono ?_
      rintro r GQ ⟨rfl,CH⟩
      rw [show nx y.2=t3 from jf.out]
      have AW:=Lib.hid (jY.out.below CH)
      clear CH
      by_cases hk:t3.k=3
      ·
       have e1:((t3.k:Int)==3)=true:=by simp;omega
       have e2:((t3.k:Int) != 3)=false:=by simp;omega
       have e3:decide ((t3.k:Int)=3)=true:=by simp;omega
       have HK:Hid ((nx y.2).k=3):=by show _=_;rw [jf.out];exact hk
       clear hk
       have Mu:Hid (runM nest (ks++[y.1]) (bj (tk y.2))=runM nest [] l):=by show _=_;rw [iH.out,if_neg (fun h=>h.2 HK.out)]
       go_wp2_with fail
       refine (bm GQ b B _ v9 y.2 d AW.out.bx.rd).mono ?_
       rintro r Lj ⟨rfl,OI,NZ⟩
       have vq:=Lib.hid (AW.out.step OI NZ)
       clear OI NZ
       go_wp2_with fail
       refine (cJ Lj b B _ v9 (tk y.2) d vq.out.bx.rd).mono ?_
       rintro r EX ⟨rfl,Dm,D4⟩
       have o7:=Lib.hid (vq.out.step Dm D4)
       have ru:Hid ((bj (tk y.2)).2.length < s'.2.length∧ph (bj (tk y.2))≤ph y.2):=⟨Nat.lt_of_le_of_lt (ew _) (Nat.lt_of_lt_of_le (eJ (by rw [HK.out];decide)) FI.out.2),Nat.le_trans (dG _) (gg _)⟩
       clear Dm D4
       go_wp2_with fail
       go_roundw
       case rel=>exact ⟨bj (tk y.2),ks++[y.1],v9,_,n2,Mu.out,Mh.out,o7.out,by have:=ru.out.2;have:=FI.out.1;have:=rH.out;simp only [List.length_append,List.length_singleton];omega⟩
       case measure=>rw [cB o7.out.bx.rd,cB lU.out.bx.rd];exact ru.out.1
      ·
       have e1:((t3.k:Int)==3)=false:=by simp;omega
       have e2:((t3.k:Int) != 3)=true:=by simp;omega
       have e3:decide ((t3.k:Int)=3)=false:=by simp;omega
       have HK:Hid ((nx y.2).k≠3):=by show _≠_;rw [jf.out];exact hk
       have EY:Hid (y.2.1.length≤100000):=by have:=rH.out;have:=FI.out.1;unfold ph at *;show _≤_;omega
       clear hk
       have Uw:Hid (Z=if (ks++[y.1])=[]∧em=false then er 20 y.2 else Sy.bC { k:=5,ks:=(ks++[y.1]),ln:=(nx l).ln } y.2):=by show _=_;rw [HZ.out,iH.out,if_pos ⟨K8.out,HK.out⟩];rfl
       obtain ⟨⟨aw,cw,Dq⟩,⟨ar,cr,PT⟩,⟨ak,ck,mV⟩⟩:=AW.out.lens
       obtain ⟨L,hL⟩:∃L,n2.ks.length=L:=⟨_,rfl⟩
       have Uq:=Lib.hid hL
       have hmx:=AW.out
       rw [hL] at hmx
       have PG:=Lib.hid hmx
       clear hmx mV
       obtain ⟨⟨x0,x1,x2,x3,x4,x5,x6,x7⟩,z0,z1,z2,z3,z4,z5,z6,z7⟩:=af PG.out.bx.box
       have eo:n2.ks=(ks++[y.1]):=by rw [Mh.out]
       clear Dq PT hL
       by_cases hnil:(ks++[y.1])=[]
       ·
        have e1:((L:Int)==0)=true:=by rw [beq_iff_eq];have:=Uq.out;rw [eo,hnil] at this;simp at this;omega
        have e3:decide ((L:Int)=0)=true:=by simpa using e1
        cases em with
        | false=>
          have oJ:Hid (Z=er 20 y.2):=by show _=_;rw [Uw.out,if_pos ⟨hnil,rfl⟩]
          clear hnil eo
          go_wp2_with fail
          refine (bq GQ b B _ _ y.2 d PG.out.bx.rd 20).mono ?_
          rintro r w8 ⟨rfl,qC⟩
          exact ⟨rfl,kW oJ.out ((DA.out.trans (PG.out.belowB HV.out)).trans (qC.mono PG.out.bx.rd.size))⟩
        | true=>
          have oJ:Hid (Z=Sy.bC n2 y.2):=by show _=_;rw [Uw.out,if_neg (fun h=>by cases h.2),Mh.out,oz.out]
          clear hnil eo
          go_wp2_with fail
          refine (bQ GQ b B P _ y.2 d PG.out.rd n2 _ _ _ (PG.out.rowsP dp.out) (by have:=EY.out;omega)).mono ?_
          rintro r w8 hp
          rw [←oJ.out] at hp
          have Ck:=Lib.hid hp
          clear hp
          rcases av Ck.out with ⟨er,cy,_,_⟩ | ⟨y,u8,v8,jv,rfl,he,oM,ov⟩
          · exact absurd (oJ.out.symm.trans cy) (by intro h;cases h)
          ·
           have yF:Hid (aj b v W v8 w8∧Rd w8 b B P v8 y.2 d):=⟨(LG.out.trans PG.out.bx.turn).trans oM,ov⟩
           have D1:=Lib.hid jv
           clear oM ov jv
           have bX:u8=.int .i64 (y.1:Int):=he
           subst bX
           clear he
           go_wp2_with fail
           go_ret
           exact fy D1.out rfl yF.out.1 yF.out.2
       ·
        have e1:((L:Int)==0)=false:=by rw [beq_eq_false_iff_ne];have:=Uq.out;rw [eo] at this;have h9:=List.length_pos_iff.2 hnil;omega
        have e3:decide ((L:Int)=0)=false:=by simpa using e1
        have oJ:Hid (Z=Sy.bC n2 y.2):=by show _=_;rw [Uw.out,if_neg (fun h=>hnil h.1),Mh.out,oz.out]
        clear hnil eo
        go_wp2_with fail
        refine (bQ GQ b B P _ y.2 d PG.out.rd n2 _ _ _ (PG.out.rowsP dp.out) (by have:=EY.out;omega)).mono ?_
        rintro r w8 hp
        rw [←oJ.out] at hp
        have Ck:=Lib.hid hp
        clear hp
        rcases av Ck.out with ⟨er,cy,_,_⟩ | ⟨y,u8,v8,jv,rfl,he,oM,ov⟩
        · exact absurd (oJ.out.symm.trans cy) (by intro h;cases h)
        ·
         have yF:Hid (aj b v W v8 w8∧Rd w8 b B P v8 y.2 d):=⟨(LG.out.trans PG.out.bx.turn).trans oM,ov⟩
         have D1:=Lib.hid jv
         clear oM ov jv
         have bX:u8=.int .i64 (y.1:Int):=he
         subst bX
         clear he
         go_wp2_with fail
         go_ret
         exact fy D1.out rfl yF.out.1 yF.out.2
theorem ni (W:World) (b B:Nat) (P:Nat→Prop) (v:Value) (s:S) (d:Nat) (h:Rd W b B P v s d) (hP:∀g,W.heap.size≤g→P g) (hF:ph s≤80000):
 Calls Tryz.prog 112 #[.pointer (some ⟨b,0,none⟩)] W (Post eN W b B P v d (cG s)):=by
 have HR:=Lib.hid h
 have HP:Hid (∀g,W.heap.size≤g→P g):=hP
 have HF:Hid (ph s≤80000):=hF
 have HV:Hid (∀g,v.ownBlock=some g→B≤g):=fun g hg=>(h.own g hg).1
 obtain ⟨Z,hZ⟩:∃Z,cG s=Z:=⟨_,rfl⟩
 have HZ:Hid (Z=bd (aB gA gX ({ k:=1,ln:=(nx s).ln }:Nd) s) Sy.bC):=hZ.symm
 rw [hZ]
 clear h hP hF hZ
 go_enter Tryz.func112,Tryz.ntmps112
 go_wp2_with fail
 refine (a8 W b B P v s d HR.out).mono ?_
 rintro r w2 ⟨rfl,hb2⟩
 have gR:=Lib.hid (HR.out.below hb2)
 have LG:Hid (aj b v W v w2):=aj.of_below hb2
 have DA:Hid (Below B W w2):=hb2.mono HR.out.size
 have dp:Hid (∀g,w2.heap.size≤g→P g):=fun g hg=>HP.out g (Nat.le_trans hb2.size hg)
 clear hb2
 have F3:=jD (nx s)
 go_wp2_with fail
 obtain ⟨n0,eP⟩:∃n0:Nd,n0={ k:=1,ln:=(nx s).ln }:=⟨_,rfl⟩
 obtain ⟨w3,hw3,E9,hb3⟩:=Mid.start gR.out n0 (by rw [eP]) (by rw [eP]) (by rw [eP])
 obtain ⟨N,hN⟩:∃N,w2.heap.size=N:=⟨_,rfl⟩
 have sJ:w2.alloc (.cells #[.int .i64 1,.string ⟨#[]⟩,.bool false,.slice none 0 0,.int .i64 0,.slice none 0 0,.slice none 0 0,.int .i64 ((nx s).ln:Int)] gv)=w3:=by rw [eP] at hw3;exact hw3
 rw [sJ,hN]
 rw [hN] at E9
 rw [←eP] at HZ
 have Jz:=Lib.hid E9
 have HI:Hid (n0.ws.length+n0.rs.length+s.2.length≤20000∧n0.st≤n0.ws.length):=by rw [eP];have:=HF.out;unfold ph at this;exact ⟨by show 0+0+_≤_;omega,Nat.zero_le _⟩
 have EY:Hid (s.1.length≤100000):=by have:=HF.out;unfold ph at this;show _≤_;omega
 clear hw3 E9 hb3 sJ hN F3 eP
 go_loopw [] (fun wr=>∃(s':S) (n1:Nd) (v' uw ur uk:Value),aB gA gX n1 s'=aB gA gX n0 s∧Mid w2 v wr b B P v' s' d N n1 uw ur uk∧n1.ws.length+n1.rs.length+s'.2.length≤20000∧n1.st≤n1.ws.length∧s'.1=s.1) (fun wr=>kh wr b)
 case atStart=>exact ⟨s,n0,v,_,_,_,rfl,Jz.out,HI.out.1,HI.out.2,rfl⟩
 case round=>
  obtain ⟨s',n1,v',uw,ur,uk,hrun,hm,hi,hst,hs1⟩:=hrel
  have je:=Lib.hid hrun
  have lU:=Lib.hid hm
  have Sp:=Lib.hid hi
  have PO:=Lib.hid hst
  have E2:=Lib.hid hs1
  clear hrun hm hi hst hs1 Jz HI
  obtain ⟨t,ht⟩:∃t,nx s'=t:=⟨_,rfl⟩
  have HT:=Lib.hid ht
  clear ht
  have F0:=gj t
  go_wp2_with fail
  refine (nY wr b B _ v' s' d lU.out.bx.rd).mono ?_
  rintro r w4 ⟨rfl,hb4⟩
  have HM:=Lib.hid (lU.out.below hb4)
  clear hb4
  obtain ⟨z,hz⟩:∃z,aF s'=z:=⟨_,rfl⟩
  have J0:=Lib.hid hz
  rw [hz]
  clear hz
  cases z with
  | true=>
    have HC:Hid (gA s'=true):=by show _=_;unfold gA;rw [show aF s'=true from J0.out];rfl
    go_upto_region 3 with fail
    obtain ⟨X,hX⟩:∃X,cF s'=X:=⟨_,rfl⟩
    have HX:=Lib.hid hX
    have dO:Hid (n1.rs.length≤100000):=by have:=Sp.out;show _≤_;omega
    have et:Hid (∀x,Rd x b B (gG P N uw ur uk) v' s' d→w4.heap.size≤x.heap.size→Calls Tryz.prog 133 #[.pointer (some ⟨b,0,none⟩)] x (Post eR x b B (gG P N uw ur uk) v' d X)):=fun x hr hs=>by
     rw [←hX]
     exact iB x b B _ v' s' d hr J0.out
    have eO:Hid (aB gA gX n0 s=bd (bd X fun x s=>.ok ({ n1 with rs:=n1.rs++[x] },s)) (aB gA gX)):=by
     show _=_
     rw [←je.out,bF ix nJ,if_pos HC.out]
     show bd (gX n1 s') _=_
     unfold gX
     rw [if_pos J0.out,hX]
    clear hX
    obtain ⟨i0,iy,hz0,hz1,hz2⟩:=info_parts vS
    have yL:Hid (∀g,Value.ownBlock (ur)=some g→g < w4.heap.size):=fun g hg=>(HM.out.rows.r.lt g hg).2
    refine Rp.cq (fun ch x=>∃e,X=.error e∧mI e.1 e.2=Ending.panicked ch∧Below B w4 x) 6 [] [Rg.Is (.pointer (some ⟨N,5,none⟩)),Rg.Is (ur),Rg.Is (.pointer (some ⟨b,0,none⟩)),(fun u9 (x:World)=>∃y,X=.ok y∧u9=SL y.1),(fun u9 x=>∃q,u9=.slice (some ⟨q,0,none⟩) 1 1∧w4.heap.size≤q∧(∃y,X=.ok y∧x.heap[q]? =some (.cells (lr y.1).toArray gO))∧w4.heap.size < x.heap.size),(fun u9 x=>∃y v9,X=.ok y∧MidA w2 v x b B P v9 y.2 d N (n1) ({ n1 with rs:=n1.rs++[y.1] }) uw ur uk uw u9 uk∧w4.heap.size < x.heap.size)] (fun _ _=>True) (fun ls x=>(ls 3=false→x.heap.size=w4.heap.size∧Below w4.heap.size w4 x)∧(ls 3=true→ls 5=false→∃y v9,X=.ok y∧Mid w2 v x b B P v9 y.2 d N (n1) uw ur uk∧w4.heap.size≤x.heap.size)) (fun k x y=>if k=3 then x.heap.size=w4.heap.size else if k=5 then x.grownBy y (Value.ownBlock (ur)) else (Below x.heap.size x y∧(k=4∨y.heap.size=x.heap.size))) (by kernel_rfl) (by kernel_rfl) (of_decide_eq_true (by kernel_rfl)) (by kernel_rfl) (by kernel_rfl) trivial ⟨fun _=>⟨rfl,rfl,rfl,rfl,Nat.le_refl _,fun _ _=>rfl⟩,fun h=>by cases h⟩ (fun ls mC x e h1=>⟨fun h2=>h1.1 (by rw [e];exact h2),fun h2 h3=>h1.2 (by rw [e];exact h2) (by rw [e];exact h3)⟩) (fun _ _ _ _ _=>trivial) (fun i ls x _ h1=>by rw [show ([]:List Bool).getD i true=true from rfl] at h1;cases h1) ?_ ⟨rfl,rfl,rfl,rfl,rfl,rfl,trivial⟩ ⟨?_,?_,?_,?_,?_,?_,trivial⟩ ?_ ?_
    ·
     intro i k u8 x y9 hik _ h1 hK
     match i,h1,hik with
     | 0,h1,_=>exact h1
     | 1,h1,_=>exact h1
     | 2,h1,_=>exact h1
     | 3,h1,_=>exact h1
     | 4,h1,hik=>
       obtain ⟨q,hq,nj,⟨y,aI,iK⟩,hlt⟩:=h1
       have rB:=(Array.getElem?_eq_some_iff.1 iK).1
       by_cases k3:k=3
       · rw [if_pos k3] at hK;omega
       ·
        rw [if_neg k3] at hK
        by_cases k5:k=5
        ·
         rw [if_pos k5] at hK
         exact ⟨q,hq,nj,⟨y,aI,(hK.block q rB (fun e=>by have:=yL.out q e.symm;omega)).trans iK⟩,Nat.lt_of_lt_of_le hlt hK.size⟩
        ·
         rw [if_neg k5] at hK
         exact ⟨q,hq,nj,⟨y,aI,(hK.1.block q rB).trans iK⟩,Nat.lt_of_lt_of_le hlt hK.1.size⟩
     | 5,h1,hik=>
       obtain ⟨y,v9,aI,hA,hlt⟩:=h1
       by_cases k3:k=3
       · rw [if_pos k3] at hK;omega
       ·
        rw [if_neg k3,if_neg (fun e=>hik e.symm)] at hK
        exact ⟨y,v9,aI,hA.below hK.1,Nat.lt_of_lt_of_le hlt hK.1.size⟩
     | _+6,_,_=>trivial
    ·
     intro _ b9 x ls hR hS ai bI bf hk
     have h3:b9.eval (.tmp 3)=.pointer (some ⟨N,0,none⟩):=Eq.mp (by kernel_rfl) (hk 3 (by decide))
     refine Rp.ag ?_
     exact Rs.aR _ _ h3 (by have:=j6 N 0 5 (by decide) x;rw [Nat.zero_add] at this;exact this) ⟨by rw [if_neg (by decide),if_neg (by decide)];exact ⟨Below.refl _ _,.inr rfl⟩,rfl,⟨fun hh=>hS.1 hh,fun h2 h3=>hS.2 h2 h3⟩⟩
    ·
     intro _ b9 x ls hR hS ai bI bf hk
     have Dr:b9.eval (.tmp 15)=.pointer (some ⟨N,5,none⟩):=Eq.mp (by kernel_rfl) (hk 15 (by decide))
     have l5:ls 5=false:=bf [] 5 _ rfl (by kernel_rfl)
     have hc:x.cell? ⟨N,5,none⟩=some (ur):=by
      cases l3:ls 3 with
      | false=>have hm:=HM.out.below (hS.1 l3).2;simp [World.cell?,hm.bx.box]
      | true=>obtain ⟨y,v9,aI,hm,hsz⟩:=hS.2 l3 l5;simp [World.cell?,hm.bx.box]
     refine Rp.ag ?_
     exact Rg.aK _ _ Dr (Ap.aW (by simp [isAgg]) hc) ⟨by rw [if_neg (by decide),if_neg (by decide)];exact ⟨Below.refl _ _,.inr rfl⟩,rfl,⟨fun hh=>hS.1 hh,fun h2 h3=>hS.2 h2 h3⟩⟩
    ·
     intro _ b9 x ls hR hS ai bI bf hk
     have h0:b9.eval (.tmp 0)=.pointer (some ⟨b,0,none⟩):=Eq.mp (by kernel_rfl) (hk 0 (by decide))
     refine Rp.ag ?_
     exact Rg.az ⟨by rw [if_neg (by decide),if_neg (by decide)];exact ⟨Below.refl _ _,.inr rfl⟩,h0,⟨fun hh=>hS.1 hh,fun h2 h3=>hS.2 h2 h3⟩⟩
    ·
     intro _ b9 x ls hR hS ai bI bf hk
     have G1:b9.eval (.tmp 17)=.pointer (some ⟨b,0,none⟩):=Eq.mp (by kernel_rfl) (hk 17 (by decide))
     obtain ⟨hsz,hb⟩:=hS.1 ai
     have hm:=HM.out.below hb
     refine Rp.bW #[.pointer (some ⟨b,0,none⟩)] Tryz.func133 (by kernel_rfl) (by kernel_rfl) (by simp [G1,show ∀v,b9.eval (.const v)=v from fun _=>rfl]) (et.out x hm.bx.rd hb.size) ?_
     intro e w' hp
     rcases av hp with ⟨er,cy,rfl,df⟩ | ⟨y,u9,v9,aI,rfl,he,ht,hr⟩
     · exact .inr ⟨_,rfl,er,cy,rfl,(hb.mono HM.out.bx.rd.size).trans df⟩
     · exact .inl ⟨u9,rfl,by rw [if_pos rfl];exact hsz,⟨y,aI,he⟩,⟨fun hh=>by simp [Rs.upd] at hh,fun _ _=>⟨y,v9,aI,hm.step ht hr,by have:=ht.size;omega⟩⟩⟩
    ·
     intro _ b9 x ls hR hS ai bI bf hk
     have N5:(fun u9 (x:World)=>∃y,X=.ok y∧u9=SL y.1) (b9.eval (.tmp 18)) x:=Eq.mp (by kernel_rfl) (hk 18 (by decide))
     have l3:ls 3=true:=bI [] 3 (by kernel_rfl)
     have l5:ls 5=false:=bf [] 5 _ rfl (by kernel_rfl)
     obtain ⟨y,v9,aI,hm,hsz⟩:=hS.2 l3 l5
     obtain ⟨y2,gi,he⟩:=N5
     have lC:y2=y:=Except.ok.inj (gi.symm.trans aI)
     subst lC
     have cU:=(Below.refl x.heap.size x).alloc (Nat.le_refl _) (.cells (lr y2.1).toArray gO)
     refine Rp.ag ?_
     exact Rg.di #[(0,SL y2.1)] _ (by simp [he]) (by unfold SL;go_simp;rfl) ⟨by rw [if_neg (by decide),if_neg (by decide)];exact ⟨cU,.inl rfl⟩,⟨x.heap.size,rfl,hsz,⟨y2,aI,heap_alloc_new x _⟩,by rw [World.size_alloc];omega⟩,⟨fun hh=>absurd (l3.symm.trans hh) (by decide),fun _ _=>⟨y2,v9,aI,hm.below cU,by rw [World.size_alloc];omega⟩⟩⟩
    ·
     intro _ b9 x ls hR hS ai bI bf hk
     have Fo:b9.eval (.tmp 16)=ur:=Eq.mp (by kernel_rfl) (hk 16 (by decide))
     have VB:(fun u9 x=>∃q,u9=.slice (some ⟨q,0,none⟩) 1 1∧w4.heap.size≤q∧(∃y,X=.ok y∧x.heap[q]? =some (.cells (lr y.1).toArray gO))∧w4.heap.size < x.heap.size) (b9.eval (.tmp 19)) x:=Eq.mp (by kernel_rfl) (hk 19 (by decide))
     have l3:ls 3=true:=bI [] 3 (by kernel_rfl)
     obtain ⟨y,v9,aI,hm,hsz⟩:=hS.2 l3 ai
     obtain ⟨q,hq,nj,⟨y2,gi,iK⟩,hlt⟩:=VB
     have lC:y2=y:=Except.ok.inj (gi.symm.trans aI)
     subst lC
     obtain ⟨u9,w',hrun,hown',hgr,hat⟩:=Ap.bR (P:=Tryz.prog) x 0 34 34 34 gO i0 _ 4 56 Tryz.underlying34 (bw Tryz.underlying34) iy hz0 hz1 hz2 rfl (by decide) (by decide) (ur) _ _ hm.rows.r (b9.eval (.tmp 19)) 1 (lr y2.1) (by rw [hq];exact cP (b:=q) (off:=0) rfl (Ia _) (.inr rfl) (fun i z hi=>by rw [Nat.zero_add];unfold World.cell?;simp only [iK];simpa using hi)) (by unfold maxLen;have:=dO.out;omega) (by have:=dO.out;omega) (Nat.zero_le _)
     refine Rp.ag ?_
     exact Ap.cR (ur) _ u9 w' Fo rfl hrun ⟨by rw [if_neg (by decide),if_pos rfl];exact hgr,⟨y2,v9,aI,hm.app_r y2.1 hgr hown' hat,Nat.lt_of_lt_of_le hlt hgr.size⟩,⟨fun hh=>absurd (l3.symm.trans hh) (by decide),fun _ hh=>by simp [Rs.upd] at hh⟩⟩
    ·
     intro ch a' w' yN hD
     obtain ⟨er,cy,A8,qU⟩:=hD
     refine ⟨yN,?_⟩
     rw [←A8]
     have hz:Z=.error er:=by rw [HZ.out,eO.out,cy];rfl
     exact cg hz ((DA.out.trans (HM.out.belowB HV.out)).trans qU)
    intro vals wD ls _ uj _ hL
    obtain ⟨g0,g1,g2,g3,g4,g5,_⟩:=hL
    obtain ⟨y,v9,aI,hA,_⟩:=(g5:(fun u9 x=>∃y v9,X=.ok y∧MidA w2 v x b B P v9 y.2 d N (n1) ({ n1 with rs:=n1.rs++[y.1] }) uw ur uk uw u9 uk∧w4.heap.size < x.heap.size) (vals 5) wD)
    clear g0 g1 g2 g3 g4 uj
    obtain ⟨n2,bO⟩:∃n2:Nd,{ n1 with rs:=n1.rs++[y.1] }=n2:=⟨_,rfl⟩
    rw [bO] at hA
    have dA:=Lib.hid bO
    simp only [Rg.bh,List.take_succ_cons,List.take_zero,List.drop_succ_cons,List.drop_zero,List.setIfInBounds_toArray,List.set_cons_succ,List.set_cons_zero]
    generalize vals 0=g0 at *
    generalize vals 1=g1 at *
    generalize vals 2=g2 at *
    generalize vals 3=g3 at *
    generalize vals 4=g4 at *
    generalize vals 5=u9 at *
    obtain ⟨a9,c9,wq,_⟩:=aA hA.rows.r
    subst wq
    obtain ⟨w9,KF,fj⟩:=hA.set 5 (.slice a9 n2.rs.length c9) (by rw [←dA.out];rfl)
    obtain ⟨⟨x0,x1,x2,x3,x4,x5,x6,x7⟩,z0,z1,z2,z3,z4,z5,z6,z7⟩:=af hA.bx.box
    have pH:=Lib.hid fj
    have ox:=Lib.hid aI
    clear hA fj aI i0 iy hz0 hz1 hz2 bO
    have iH:Hid (aB gA gX n2 y.2=aB gA gX n0 s):=by show _=_;rw [eO.out,ox.out,←dA.out];rfl
    have ru:Hid (y.2.2.length < s'.2.length):=kZ J0.out (by rw [HX.out,ox.out])
    have HEq:Hid (n2.ws=n1.ws∧n2.rs.length=n1.rs.length+1∧n2.st=n1.st):=by rw [←dA.out];exact ⟨rfl,by show (n1.rs++[y.1]).length=_;simp,rfl⟩
    have qc:Hid (y.2.1=s.1):=(nN s' y (by rw [HX.out,ox.out])).trans E2.out
    clear dA je et dO eO
    go_wp2_with fail
    go_roundw
    case rel=>exact ⟨y.2,n2,v9,_,_,_,iH.out,pH.out,by have:=HEq.out;have:=Sp.out;have:=ru.out;rw [HEq.out.1,HEq.out.2.1];omega,by rw [HEq.out.1,HEq.out.2.2];exact PO.out,qc.out⟩
    case measure=>rw [cB pH.out.bx.rd,cB lU.out.bx.rd];exact ru.out
  | false=>
    go_wp2_with fail
    refine (a8 w4 b B _ v' s' d HM.out.bx.rd).mono ?_
    rintro r w5 ⟨rfl,ll⟩
    rw [show nx s'=t from HT.out]
    have ve:=Lib.hid (HM.out.below ll)
    clear ll
    by_cases hk:t.k=1
    ·
     have e1:((t.k:Int)==1)=true:=by simp;omega
     have e3:decide ((t.k:Int)=1)=true:=by simp;omega
     have HC:Hid (gA s'=true):=by show _=_;unfold gA;rw [HT.out,decide_eq_true hk,Bool.or_true]
     have HXr:Hid (cC s'=.ok (t.t,tk s')):=by show _=_;unfold cC;rw [HT.out,if_pos hk]
     have eO:Hid (aB gA gX n0 s=aB gA gX (fk n1 t.t) (tk s')):=by
      show _=_
      rw [←je.out,bF ix nJ,if_pos HC.out]
      show bd (gX n1 s') _=_
      unfold gX
      rw [if_neg (by rw [show aF s'=false from J0.out];decide),HXr.out]
      rfl
     have ZbN:Hid (t.t.length≤100000):=by
      obtain ⟨t',l',hs⟩:=List.exists_cons_of_ne_nil ve.out.bx.rd.ok.ne
      have:=ve.out.bx.rd.ok.each t' (by rw [hs];exact List.mem_cons_self)
      show _≤_
      rw [←HT.out,Cp hs]
      exact this.1
     have ru:Hid ((tk s').2.length < s'.2.length):=eJ (by rw [HT.out];omega)
     have qc:Hid ((tk s').1=s.1):=by show _=_;rw [cE];exact E2.out
     clear hk
     go_wp2_with fail
     refine (iA w5 b B _ v' s' d ve.out.bx.rd).mono ?_
     rintro r w6 hp
     rw [HXr.out] at hp
     obtain ⟨u6,v6,rfl,hu6,yP,Te⟩:=hp
     have Zby:u6=.string (str t.t):=hu6
     subst Zby
     have qO:=Lib.hid (ve.out.step yP Te)
     clear hu6 yP Te
     go_wp2_with fail
     refine (FX w6 t.t ZbN.out).mono ?_
     rintro r w7 ⟨rfl,zE⟩
     have nQ:=Lib.hid (qO.out.below zE)
     clear zE
     obtain ⟨q,hq⟩:∃q,(k7 t.t).2.2=q:=⟨_,rfl⟩
     have HQ:=Lib.hid hq
     rw [hq]
     obtain ⟨q1,PI⟩:∃q1,(k7 t.t).1=q1:=⟨_,rfl⟩
     obtain ⟨q2,sK⟩:∃q2,(k7 t.t).2.1=q2:=⟨_,rfl⟩
     rw [PI,sK]
     clear hq PI sK
     obtain ⟨n5,TU⟩:∃n5:Nd,n5={ n1 with st:=if (k7 t.t).2.2=true∧n1.st=n1.ws.length then n1.st+1 else n1.st }:=⟨_,rfl⟩
     have Zu:=Lib.hid TU
     clear TU
     obtain ⟨⟨aw,cw,Dq⟩,⟨ar,cr,PT⟩,⟨ak,ck,mV⟩⟩:=nQ.out.lens
     obtain ⟨L,hL⟩:∃L,n1.ws.length=L:=⟨_,rfl⟩
     obtain ⟨K,hK⟩:∃K,n1.st=K:=⟨_,rfl⟩
     have HL:=Lib.hid hL
     have HK:=Lib.hid hK
     have hKL:K≤20000:=by have:=Sp.out;have:=PO.out;omega
     rw [hL] at Dq
     subst Dq
     clear PT mV hL hK
     obtain ⟨C,hC⟩:∃C,(q && decide (K=L))=C:=⟨_,rfl⟩
     have ZI:=Lib.hid hC
     go_upto_region 7 with fail
     go_cut [43] (fun s43 wx=>s43=.bool C∧wx=w7)
     case first=>
      obtain ⟨⟨x0,x1,x2,x3,x4,x5,x6,x7⟩,z0,z1,z2,z3,z4,z5,z6,z7⟩:=af nQ.out.bx.box
      rw [show n1.st=K from HK.out] at x4
      clear hC
      cases q with
      | false=>
        go_wp2_with fail
        go_meet
        exact ⟨by rw [←ZI.out];rfl,rfl⟩
      | true=>
        by_cases Rj:K=L
        ·
         have e1:((K:Int)==(L:Int))=true:=by rw [beq_iff_eq];omega
         have e3:decide ((K:Int)=(L:Int))=true:=decide_eq_true (by omega)
         have R2:C=true:=by rw [←ZI.out,decide_eq_true Rj];rfl
         clear Rj
         go_wp2_with fail
         go_meet
         exact ⟨by rw [R2],rfl⟩
        ·
         have e1:((K:Int)==(L:Int))=false:=by rw [beq_eq_false_iff_ne];omega
         have e3:decide ((K:Int)=(L:Int))=false:=decide_eq_false (by omega)
         have R2:C=false:=by rw [←ZI.out,decide_eq_false Rj];rfl
         clear Rj
         go_wp2_with fail
         go_meet
         exact ⟨by rw [R2],rfl⟩
     obtain ⟨rfl,hwc⟩:=hcut
     have WD:=hwc.symm
     subst WD
     clear hwc hC
     go_upto_if 43 with fail
     go_cut [] (fun wx=>Mid w2 v wx b B P v6 (tk s') d N n5 (.slice aw L cw) ur uk)
     case first=>
      obtain ⟨⟨x0,x1,x2,x3,x4,x5,x6,x7⟩,z0,z1,z2,z3,z4,z5,z6,z7⟩:=af nQ.out.bx.box
      rw [show n1.st=K from HK.out] at x4
      cases C with
      | false=>
        have sN:n5=n1:=by
         rw [Zu.out,if_neg (fun h=>?_)]
         have h9:=ZI.out
         rw [HQ.out,HK.out,HL.out] at h
         rw [h.1,decide_eq_true h.2] at h9
         cases h9
        go_wp2_with fail
        go_meet
        rw [sN]
        exact nQ.out
      | true=>
        have h9:=ZI.out
        rw [Bool.and_eq_true] at h9
        have TU:n5={ n1 with st:=K+1 }:=by rw [Zu.out,if_pos ⟨by rw [HQ.out];exact h9.1,by rw [HK.out,HL.out];exact of_decide_eq_true h9.2⟩,HK.out]
        obtain ⟨w8,ER,hm8⟩:=nQ.out.set 4 (.int .i64 ((K:Int)+1)) n5 (by rw [TU];rfl) (by rw [TU]) (by rw [TU]) (by rw [TU])
        clear h9 TU
        go_wp2_with fail
        go_meet
        exact hm8
     case rest=>
      have N4:=Lib.hid hcut
      clear hcut
      have dO:Hid (n5.ws.length≤100000):=by rw [Zu.out];show n1.ws.length≤_;have:=Sp.out;omega
      have HL5:Hid (n5.ws.length=L):=by rw [Zu.out];exact HL.out
      obtain ⟨i0,iy,hz0,hz1,hz2⟩:=info_parts pS
      obtain ⟨w8,ER⟩:∃w8,wc.alloc (.cells #[.string (str t.t)] eZ)=w8:=⟨_,rfl⟩
      have qC:Below wc.heap.size wc w8:=by rw [←ER];exact (Below.refl _ _).alloc (Nat.le_refl _) _
      have Y5:w8.heap[wc.heap.size]? =some (.cells #[sv t.t] eZ):=by rw [←ER];exact heap_alloc_new _ _
      have Pu:=Lib.hid (N4.out.below qC)
      have Zd:Hid (Base.Src Tryz.prog w8 1 (.slice (some ⟨wc.heap.size,0,none⟩) 1 1) 1 ([sv t.t])):=cP (b:=wc.heap.size) (off:=0) rfl (by intro u hu;obtain rfl:=List.mem_singleton.1 hu;rfl) (.inr rfl) (fun i z hi=>by rw [Nat.zero_add];unfold World.cell?;simp only [Y5];simpa using hi)
      obtain ⟨⟨x0,x1,x2,x3,x4,x5,x6,x7⟩,z0,z1,z2,z3,z4,z5,z6,z7⟩:=af N4.out.bx.box
      clear qC Y5
      go_wp2_with (at_builtin;refine Ap.gF rfl (.tmp 49) (.tmp 51) 33 33 rfl 0 eZ i0 _ 1 16 Tryz.underlying33 (bw Tryz.underlying33) iy hz0 hz1 hz2 rfl (by decide) (by decide) _ _ _ rfl Pu.out.rows.w _ 1 _ rfl Zd.out ?_ ?_ ?_ ?_)
      case _=>unfold maxLen;have:=dO.out;omega
      case _=>have:=dO.out;omega
      case _=>exact Nat.zero_le _
      intro u9 wD hown hgr hat
      have hA:=Pu.out.app_w t.t hgr hown hat
      obtain ⟨n2,bO⟩:∃n2:Nd,{ n5 with ws:=n5.ws++[t.t] }=n2:=⟨_,rfl⟩
      rw [bO] at hA
      have dA:=Lib.hid bO
      obtain ⟨a9,c9,wq,_⟩:=aA hA.rows.w
      subst wq
      obtain ⟨w9,KF,fj⟩:=hA.set 3 (.slice a9 n2.ws.length c9) (by rw [←dA.out];rfl)
      clear x0 x1 x2 x3 x4 x5 x6 x7 z0 z1 z2 z3 z4 z5 z6 z7
      obtain ⟨⟨x0,x1,x2,x3,x4,x5,x6,x7⟩,z0,z1,z2,z3,z4,z5,z6,z7⟩:=af hA.bx.box
      have pH:=Lib.hid fj
      have vk:n2.ws.length=n5.ws.length+1:=by rw [←dA.out];simp
      clear hA fj bO hown hgr hat i0 iy hz0 hz1 hz2 ER
      have QM:fk n1 t.t=n2:=by rw [←dA.out,Zu.out];rfl
      have iH:Hid (aB gA gX n2 (tk s')=aB gA gX n0 s):=by show _=_;rw [eO.out,QM]
      have TQ:Hid (n2.ws.length=n1.ws.length+1∧n2.rs.length=n1.rs.length∧n2.st≤n2.ws.length):=by
       rw [←QM]
       exact ⟨by show (n1.ws++[t.t]).length=_;simp,rfl,MN PO.out⟩
      clear QM vk dO HL5 dA
      go_wp2_with fail
      go_roundw
      case rel=>exact ⟨tk s',n2,v6,_,_,_,iH.out,pH.out,by have:=TQ.out;have:=Sp.out;have:=ru.out;omega,TQ.out.2.2,qc.out⟩
      case measure=>rw [cB pH.out.bx.rd,cB lU.out.bx.rd];exact ru.out
    ·
     have e1:((t.k:Int)==1)=false:=by simp;omega
     have e3:decide ((t.k:Int)=1)=false:=by simp;omega
     have oJ:Hid (Z=Sy.bC n1 s'):=by
      show _=_
      rw [HZ.out,←je.out,bF ix nJ,if_neg (by unfold gA;rw [show aF s'=false from J0.out,HT.out,decide_eq_false hk];decide)]
      rfl
     have ZbA:Hid (s'.1.length≤100000):=by rw [E2.out];exact EY.out
     obtain ⟨⟨x0,x1,x2,x3,x4,x5,x6,x7⟩,z0,z1,z2,z3,z4,z5,z6,z7⟩:=af ve.out.bx.box
     clear hk
     go_wp2_with fail
     refine (bQ w5 b B P _ s' d ve.out.rd n1 _ _ _ (ve.out.rowsP dp.out) ZbA.out).mono ?_
     rintro r w8 hp
     rw [←oJ.out] at hp
     have Ck:=Lib.hid hp
     clear hp
     rcases av Ck.out with ⟨er,cy,_,_⟩ | ⟨y,u8,v8,jv,rfl,he,oM,ov⟩
     · exact absurd (oJ.out.symm.trans cy) (by intro h;cases h)
     ·
      have yF:Hid (aj b v W v8 w8∧Rd w8 b B P v8 y.2 d):=⟨(LG.out.trans ve.out.bx.turn).trans oM,ov⟩
      have D1:=Lib.hid jv
      clear oM ov jv
      have bX:u8=.int .i64 (y.1:Int):=he
      subst bX
      clear he
      go_wp2_with fail
      go_ret
      exact fy D1.out rfl yF.out.1 yF.out.2
def Mw (W:World) (b B:Nat) (P:Nat→Prop) (v:Value) (d:Nat) (x:Sy.P (List dZ)) (r:Ending) (W':World):Prop:=
 match x with
 | .error e=>r=mI e.1 e.2∧Below B W W'
 | .ok y=>∃u v',r=.returned u∧W'.ownsRow 0 gO 4 u y.1.length (y.1.flatMap lr)∧(∀g,u.ownBlock=some g→W.heap.size≤g)∧aj b v W v' W'∧Rd W' b B P v' y.2 d
theorem B8 {W:World} {b B:Nat} {P:Nat→Prop} {v:Value} {d:Nat} {X:Sy.P (List dZ)} {r:Ending} {W':World} (h:Mw W b B P v d X r W'):
 (∃e,X=.error e∧r=mI e.1 e.2∧Below B W W')∨(∃y u v',X=.ok y∧r=.returned u∧W'.ownsRow 0 gO 4 u y.1.length (y.1.flatMap lr)∧(∀g,u.ownBlock=some g→W.heap.size≤g)∧aj b v W v' W'∧Rd W' b B P v' y.2 d):=by
 cases X with
 | error e=>exact .inl ⟨e,rfl,h.1,h.2⟩
 | ok y=>
   obtain ⟨u,v',h1,h2,h3,h4,h5⟩:=h
   exact .inr ⟨y,u,v',rfl,h1,h2,h3,h4,h5⟩
structure yv (W0:World) (v0:Value) (W:World) (b B:Nat) (P:Nat→Prop) (v:Value) (s:S) (d:Nat) (u:Value) (l:List dZ):Prop where
 rd:Rd W b B (fun g=>P g∧u.ownBlock≠some g) v s d
 turn:aj b v0 W0 v W
 row:W.ownsRow 0 gO 4 u l.length (l.flatMap lr)
 new:∀g,u.ownBlock=some g→W0.heap.size≤g
 old:b < W0.heap.size
section
variable {W0 W W':World} {b B:Nat} {P:Nat→Prop} {v0 v v':Value} {s s':S} {d:Nat} {u u':Value} {l:List dZ}
theorem yv.below (h:yv W0 v0 W b B P v s d u l) (hb:Below W.heap.size W W'):yv W0 v0 W' b B P v s d u l:=⟨h.rd.below hb,h.turn.trans (aj.of_below hb),bz h.row hb,h.new,h.old⟩
theorem yv.step (h:yv W0 v0 W b B P v s d u l) (ht:aj b v W v' W') (hr:Rd W' b B (fun g=>P g∧u.ownBlock≠some g) v' s' d):yv W0 v0 W' b B P v' s' d u l:=
 ⟨hr,h.turn.trans ht,bG h.row (fun g X hg hX=>by
  have h1:=h.new g hg
  have h2:=h.old
  exact ht.block g (Array.getElem?_eq_some_iff.1 hX).1 (by omega) (h.rd.fg hX (by decide))),h.new,h.old⟩
theorem yv.app (h:yv W0 v0 W b B P v s d u l) (x:dZ) (hg:W.grownBy W' u.ownBlock) (ho:W'.ownsRow 0 gO 4 u' (l.length+1) (l.flatMap lr++lr x)) (hat:∀g,u'.ownBlock=some g→g < W.heap.size→u.ownBlock=some g):yv W0 v0 W' b B P v s d u' (l++[x]):=by
 have hB:∀g,u.ownBlock=some g→B≤g∧g≠b∧v.ownBlock≠some g:=fun g hg2=>by
  have h1:=h.new g hg2
  have h2:=h.old
  have h3:=h.rd.bB
  obtain ⟨X,hX⟩:=mh h.row hg2
  exact ⟨by omega,by omega,h.rd.fg hX (by decide)⟩
 have sZ:Rd W' b B (fun g=>(P g∧u.ownBlock≠some g)∧g < W.heap.size) v s d:=(h.rd.less (fun g hp hl=>⟨hp,hl⟩)).turn hg (fun g e _=>⟨(hB g e).1,(hB g e).2.1,(hB g e).2.2,fun hP=>absurd e hP.1.2⟩)
 refine ⟨sZ.less (fun g hp _=>⟨hp.1.1,fun e=>hp.1.2 (hat g e hp.2)⟩),aj.grown h.turn hg (fun g e=>h.new g e),?_,fun g hg2=>?_,h.old⟩
 ·
  rw [show (l++[x]).length=l.length+1 by simp,show (l++[x]).flatMap lr=l.flatMap lr++lr x by simp]
  exact ho
 ·
  by_cases hl:g < W.heap.size
  · exact h.new g (hat g hg2 hl)
  · have:=h.turn.size;omega
end
theorem A5 (W:World) (b B:Nat) (P:Nat→Prop) (v:Value) (s:S) (d:Nat) (h:Rd W b B P v s d):
 Calls Tryz.prog 136 #[.pointer (some ⟨b,0,none⟩)] W (Mw W b B P v d (eA s)):=by
 have HO0:Hid (yv W v W b B P v s d (.slice none 0 0) []):=⟨h.less (fun g hg _=>⟨hg,fun e=>by cases e⟩),aj.refl _ _ _,World.ownsRow_nil _ _ _ _,fun g hg=>(by cases hg),h.lt⟩
 have LZ:=Lib.hid h.ok.few
 have HV:Hid (∀g,v.ownBlock=some g→B≤g):=fun g hg=>(h.own g hg).1
 obtain ⟨Z,hZ⟩:∃Z,eA s=Z:=⟨_,rfl⟩
 have HZ:Hid (Z=aB aF KB [] s):=hZ.symm
 rw [hZ]
 clear h hZ
 go_enter Tryz.func136,Tryz.ntmps136
 go_wp2_with fail
 go_loopw [3] (fun v3 wr=>∃(s':S) (l:List dZ) (v' u:Value),u=v3∧aB aF KB l s'=Z∧yv W v wr b B P v' s' d u l∧l.length+s'.2.length≤10000) (fun _ wr=>kh wr b)
 case atStart=>exact ⟨s,[],v,_,rfl,HZ.out.symm,HO0.out,by have:=LZ.out;simpa using this⟩
 case round=>
  obtain ⟨s',l,v',u,hu,hrun,ho,hi⟩:=hrel
  subst hu
  have je:=Lib.hid hrun
  have Cz:=Lib.hid ho
  have HI:=Lib.hid hi
  clear hrun ho hi HO0
  go_wp2_with fail
  refine (nY wr b B _ v' s' d Cz.out.rd).mono ?_
  rintro r w4 ⟨rfl,hb4⟩
  have HO:=Lib.hid (Cz.out.below hb4)
  clear hb4
  obtain ⟨z,hz⟩:∃z,aF s'=z:=⟨_,rfl⟩
  have J0:=Lib.hid hz
  rw [hz]
  clear hz
  cases z with
  | false=>
    have HX:Hid (Z=.ok (l,s')):=by show _=_;rw [←je.out,bF iF kP,if_neg (by rw [show aF s'=false from J0.out];decide)]
    go_wp2_with fail
    go_ret
    rw [show Z=.ok (l,s') from HX.out]
    exact ⟨_,v',rfl,HO.out.row,HO.out.new,HO.out.turn,HO.out.rd.less (fun g hg _=>hg.1)⟩
  | true=>
    have hstep:∀Y,cF s'=Y→Z=bd (bd Y fun x s=>.ok (l++[x],s)) (aB aF KB):=fun Y hY=>by
     rw [←je.out,bF iF kP,if_pos J0.out,←hY]
    go_wp2_with fail
    refine (iB w4 b B _ v' s' d HO.out.rd J0.out).mono ?_
    rintro r w5 hp
    rcases av hp with ⟨er,cy,rfl,df⟩ | ⟨y,u5,v5,aI,rfl,he,ht,hr⟩
    ·
     refine ⟨rfl,?_⟩
     rw [hstep _ cy]
     have h1:=HO.out.rd.bB
     have h2:=HO.out.old
     exact ⟨rfl,(HO.out.turn.below h1 HV.out (by omega)).trans df⟩
    ·
     have bX:u5=SL y.1:=he
     subst bX
     have HO5:=Lib.hid (HO.out.step ht hr)
     have eO:=Lib.hid (hstep _ aI)
     have ru:Hid (y.2.2.length < s'.2.length):=kZ J0.out (by rw [aI])
     have dO:Hid (l.length≤100000):=by have:=HI.out;show _≤_;omega
     clear he ht hr hp hstep aI
     obtain ⟨i0,iy,hz0,hz1,hz2⟩:=info_parts vS
     obtain ⟨w8,ER⟩:∃w8,w5.alloc (.cells #[.int .i64 (y.1.fd:Int),.string (str y.1.o),.string (str y.1.w),.string (str y.1.b)] gO)=w8:=⟨_,rfl⟩
     have qC:Below w5.heap.size w5 w8:=by rw [←ER];exact (Below.refl _ _).alloc (Nat.le_refl _) _
     have Y5:w8.heap[w5.heap.size]? =some (.cells (lr y.1).toArray gO):=by rw [←ER];exact heap_alloc_new _ _
     have HO8:=Lib.hid (HO5.out.below qC)
     have Zd:Hid (Base.Src Tryz.prog w8 4 (.slice (some ⟨w5.heap.size,0,none⟩) 1 1) 1 (lr y.1)):=cP (b:=w5.heap.size) (off:=0) rfl (Ia _) (.inr rfl) (fun i z hi=>by rw [Nat.zero_add];unfold World.cell?;simp only [Y5];simpa using hi)
     clear qC Y5
     unfold SL
     go_wp2_with (at_builtin;refine Ap.gF rfl (.tmp 6) (.tmp 9) 34 34 rfl 0 gO i0 _ 4 56 Tryz.underlying34 (bw Tryz.underlying34) iy hz0 hz1 hz2 rfl (by decide) (by decide) _ _ _ rfl HO8.out.row _ 1 _ rfl Zd.out ?_ ?_ ?_ ?_)
     case _=>unfold maxLen;have:=dO.out;omega
     case _=>have:=dO.out;omega
     case _=>exact Nat.zero_le _
     intro u9 wD hown hgr hat
     have HO9:=Lib.hid (HO8.out.app y.1 hgr hown hat)
     have iH:Hid (aB aF KB (l++[y.1]) y.2=Z):=eO.out.symm
     clear hown hgr hat i0 iy hz0 hz1 hz2 ER
     go_wp2_with fail
     go_roundw
     case rel=>exact ⟨y.2,l++[y.1],v5,_,rfl,iH.out,HO9.out,by have:=HI.out;have:=ru.out;simp only [List.length_append,List.length_singleton];omega⟩
     case measure=>rw [cB HO9.out.rd,cB Cz.out.rd];exact ru.out
theorem p9 {α:Type} {enc:α→Value→Prop} {W W1 W':World} {b B:Nat} {P:Nat→Prop} {v v1:Value} {d:Nat} {X:Sy.P α} {r:Ending} (ht:aj b v W v1 W1) (hb:Below B W W1) (h:Post enc W1 b B P v1 d X r W'):Post enc W b B P v d X r W':=by
 cases X with
 | error e=>exact ⟨h.1,hb.trans h.2⟩
 | ok y=>
   obtain ⟨u,v',h1,h2,h3,h4⟩:=h
   exact ⟨u,v',h1,h2,ht.trans h3,h4⟩
theorem zt {nest:S→Sy.P Nat} {d:Nat} (E:Env nest d) (W:World) (b B:Nat) (P:Nat→Prop) (v:Value) (s:S) (h:Rd W b B P v s d) (hP:∀g,W.heap.size≤g→P g) (hF:ph s≤80000):
 Calls Tryz.prog 97 #[.pointer (some ⟨b,0,none⟩)] W (Post eN W b B P v d (gm nest s)):=by
 have HR:=Lib.hid h
 have HE:Hid (Env nest d):=E
 have HP:Hid (∀g,W.heap.size≤g→P g):=hP
 have HF:Hid (ph s≤80000):=hF
 have HW:Hid (B≤W.heap.size):=h.size
 obtain ⟨Z,hZ⟩:∃Z,gm nest s=Z:=⟨_,rfl⟩
 have HZ:Hid (Z=if begins s=false∨aV 1 [[33]] s=true then er 20 s else if aL s=false∧names s=false then cG s else nest s):=hZ.symm
 rw [hZ]
 clear h hP hF hZ E
 go_enter Tryz.func97,Tryz.ntmps97
 go_wp2_with fail
 refine (sO W b B P v s d HR.out).mono ?_
 rintro r w2 ⟨rfl,hb2⟩
 have gR:=Lib.hid (HR.out.below hb2)
 have dp:=Lib.hid hb2
 clear hb2
 obtain ⟨z,hz⟩:∃z,begins s=z:=⟨_,rfl⟩
 have XA:=Lib.hid hz
 rw [hz]
 clear hz
 cases z with
 | false=>
   have HX:Hid (Z=er 20 s):=by show _=_;rw [HZ.out,if_pos (.inl XA.out)]
   go_wp2_with fail
   refine (bq w2 b B P v s d gR.out 20).mono ?_
   rintro r w3 ⟨rfl,hb3⟩
   exact ⟨rfl,kW HX.out ((dp.out.trans (hb3.mono dp.out.size)).mono HW.out)⟩
 | true=>
   go_wp2_with fail
   refine (mH w2 b B P v s d gR.out [[33]] (by decide)).mono ?_
   rintro r w3 ⟨rfl,hb3⟩
   have l4:=Lib.hid (gR.out.below ((Below.refl _ _).trans hb3))
   have ku:=Lib.hid (dp.out.trans (hb3.mono dp.out.size))
   clear hb3
   obtain ⟨z,hz⟩:∃z,aV 1 [[33]] s=z:=⟨_,rfl⟩
   have HZw:=Lib.hid hz
   rw [hz]
   clear hz
   cases z with
   | true=>
     have HX:Hid (Z=er 20 s):=by show _=_;rw [HZ.out,if_pos (.inr HZw.out)]
     go_wp2_with fail
     refine (bq w3 b B P v s d l4.out 20).mono ?_
     rintro r w4 ⟨rfl,hb4⟩
     exact ⟨rfl,kW HX.out ((ku.out.trans (hb4.mono ku.out.size)).mono HW.out)⟩
   | false=>
     have Lv:Hid (Z=if aL s=false∧names s=false then cG s else nest s):=by show _=_;rw [HZ.out,if_neg (fun h=>h.elim (fun h=>absurd (XA.out.symm.trans h) (by decide)) (fun h=>absurd (HZw.out.symm.trans h) (by decide)))]
     clear HZ
     go_wp2_with fail
     refine (jZ w3 b B P v s d l4.out).mono ?_
     rintro r w4 ⟨rfl,hb4⟩
     have Im:=Lib.hid (l4.out.below hb4)
     have iE:=Lib.hid (ku.out.trans (hb4.mono ku.out.size))
     clear hb4
     obtain ⟨V,hV⟩:∃V,kI s=V:=⟨_,rfl⟩
     rw [hV]
     obtain ⟨z,hz⟩:∃z,aL s=z:=⟨_,rfl⟩
     have Jq:=Lib.hid hz
     rw [hz]
     clear hz hV
     cases z with
     | true=>
       have HX:Hid (Z=nest s):=by show _=_;rw [Lv.out,if_neg (fun h=>by exact absurd (Jq.out.symm.trans h.1) (by decide))]
       go_wp2_with fail
       refine (HE.out.ih w4 b B P v s Im.out (fun g hg=>HP.out g (Nat.le_trans iE.out.size hg)) HF.out (by first | exact .inl Jq.out | exact .inr HZn.out)).mono ?_
       rintro r w9 hp
       have I4:=Lib.hid (p9 (aj.of_below iE.out) (iE.out.mono HW.out) hp)
       clear hp
       rw [←HX.out] at I4
       rcases av I4.out with ⟨er,cy,rfl,df⟩ | ⟨y,u9,v9,sP,rfl,he,Af,Qq⟩
       · exact ⟨rfl,I4.out⟩
       ·
        have bX:u9=.int .i64 (y.1:Int):=he
        subst bX
        clear he sP Af Qq
        go_wp2_with fail
        go_ret
        exact I4.out
     | false=>
       go_wp2_with fail
       refine (CR w4 b B P v s d Im.out).mono ?_
       rintro r w5 ⟨rfl,ll⟩
       have S1:=Lib.hid (Im.out.below ll)
       have jw:=Lib.hid (iE.out.trans (ll.mono iE.out.size))
       clear ll
       obtain ⟨z,hz⟩:∃z,names s=z:=⟨_,rfl⟩
       have HZn:=Lib.hid hz
       rw [hz]
       clear hz
       cases z with
       | true=>
         have HX:Hid (Z=nest s):=by show _=_;rw [Lv.out,if_neg (fun h=>by exact absurd (HZn.out.symm.trans h.2) (by decide))]
         go_wp2_with fail
         refine (HE.out.ih w5 b B P v s S1.out (fun g hg=>HP.out g (Nat.le_trans jw.out.size hg)) HF.out (by first | exact .inl Jq.out | exact .inr HZn.out)).mono ?_
         rintro r w9 hp
         have I4:=Lib.hid (p9 (aj.of_below jw.out) (jw.out.mono HW.out) hp)
         clear hp
         rw [←HX.out] at I4
         rcases av I4.out with ⟨er,cy,rfl,df⟩ | ⟨y,u9,v9,sP,rfl,he,Af,Qq⟩
         · exact ⟨rfl,I4.out⟩
         ·
          have bX:u9=.int .i64 (y.1:Int):=he
          subst bX
          clear he sP Af Qq
          go_wp2_with fail
          go_ret
          exact I4.out
       | false=>
         have HX:Hid (Z=cG s):=by show _=_;rw [Lv.out,if_pos ⟨Jq.out,HZn.out⟩]
         go_wp2_with fail
         refine (ni w5 b B P v s d S1.out (fun g hg=>HP.out g (Nat.le_trans jw.out.size hg)) HF.out).mono ?_
         rintro r w9 hp
         have I4:=Lib.hid (p9 (aj.of_below jw.out) (jw.out.mono HW.out) hp)
         clear hp
         rw [←HX.out] at I4
         rcases av I4.out with ⟨er,cy,rfl,df⟩ | ⟨y,u9,v9,sP,rfl,he,Af,Qq⟩
         · exact ⟨rfl,I4.out⟩
         ·
          have bX:u9=.int .i64 (y.1:Int):=he
          subst bX
          clear he sP Af Qq
          go_wp2_with fail
          go_ret
          exact I4.out
end Go.Proofs.YtiklkhbfilbpeaaGreatDoor.Sx
