import Derived.Test.YtiklkhbfilbpeaaGreatDoorTbLxParts
import Derived.Test.YtiklkhbfilbpeaaGreatDoorTbAppendAt
set_option maxRecDepth 100000
set_option maxHeartbeats 16000000
set_option linter.unusedVariables false
set_option linter.unusedSimpArgs false
namespace Go.Proofs.YtiklkhbfilbpeaaGreatDoor
open Go.RowKit Base Lx
theorem sX:(Tryz.prog.info? mK).map (fun i=>(i.zero,i.size,i.bytes))=some (some (.agg #[.int .i64 0,.string ⟨#[]⟩,.string ⟨#[]⟩,.int .i64 0]),4,48):=by kernel_rfl
theorem jy:(Tryz.prog.info? dU).map (fun i=>(i.zero,i.size,i.bytes))=some (some (.int .i64 0),1,8):=by kernel_rfl
def rT (t:Tok):List Value:=[.int .i64 (t.k:Int),.string (str t.t),.string (str t.b),.int .i64 (t.ln:Int)]
def B9 (t:Tok):Value:=.agg #[.int .i64 (t.k:Int),.string (str t.t),.string (str t.b),.int .i64 (t.ln:Int)]
theorem kj (t:Tok):(rT t).length=4:=rfl
theorem Qo:∀(t:Tok),∀u∈rT t,u.oneCell'=true:=by
 intro t u hu
 simp only [rT,List.mem_cons,List.not_mem_nil,or_false] at hu
 rcases hu with rfl | rfl | rfl | rfl<;>rfl
def iv (n:Nat):Value:=.int .i64 (n:Int)
theorem bG {W W':World} {base:Nat} {e:TypeId} {k n:Nat} {v:Value} {xs:List Value} (h:W.ownsRow base e k v n xs) (hk:∀g X,v.ownBlock=some g→W.heap[g]? =some (.cells X e)→W'.heap[g]? =W.heap[g]?):W'.ownsRow base e k v n xs:=by
 refine ⟨h.1,?_⟩
 rcases h.2 with h2 | ⟨g,cap,cur,rfl,h2,h3,h4⟩
 · exact .inl h2
 · exact .inr ⟨g,cap,cur,rfl,h2,(hk g cur rfl h3).trans h3,h4⟩
theorem fg {W:World} {base:Nat} {e e':TypeId} {k n k':Nat} {v:Value} {xs:List Value} {X:Array Value} {fr:Nat × Nat} (h:W.ownsRow base e k v n xs) {q:Nat} (hq:W.heap[q]? =some (.cells X e' fr)) (hne:e≠e'):v.ownBlock≠some q:=by
 intro hv
 rcases h.2 with ⟨rfl,_⟩ | ⟨g,cap,cur,rfl,_,h3,_⟩
 · cases hv
 ·
  obtain rfl:=Option.some.inj hv
  rw [h3] at hq
  injection hq with hq
  injection hq with _ hT _
  exact hne hT
structure dP (W:World) (b B:Nat) (K g:Nat) (l:List Tok) (hh:List Nat) (s:Nm) (vl vh:Value):Prop where
 rd:Rd W b s K g vl vh
 l6:W.ownsRow B mK 4 vl l.length (l.flatMap rT)
 here:W.ownsRow B dU 1 vh hh.length (hh.map iv)
 bB:B≤b
theorem dP.below {W W':World} {b B K g:Nat} {l:List Tok} {hh:List Nat} {s:Nm} {vl vh:Value} (h:dP W b B K g l hh s vl vh) (hb:Below W.heap.size W W'):dP W' b B K g l hh s vl vh:=
 ⟨h.rd.below hb,bz h.l6 hb,bz h.here hb,h.bB⟩
theorem dP.size {W:World} {b B K g:Nat} {l:List Tok} {hh:List Nat} {s:Nm} {vl vh:Value} (h:dP W b B K g l hh s vl vh):B≤W.heap.size:=Nat.le_of_lt (Nat.lt_of_le_of_lt h.bB h.rd.lt)
theorem dP.turn {W W':World} {b B K g:Nat} {l:List Tok} {hh:List Nat} {s q:Nm} {vl vh:Value} (h:dP W b B K g l hh s vl vh) (ht:aj b W W') (hr:Rd W' b q K g vl vh):dP W' b B K g l hh q vl vh∧Below B W W':=by
 refine ⟨⟨hr,bG h.l6 (fun j X hj hX=>ht.block j (Array.getElem?_eq_some_iff.1 hX).1 (fun e=>?_)),bG h.here (fun j X hj hX=>ht.block j (Array.getElem?_eq_some_iff.1 hX).1 (fun e=>?_)),h.bB⟩,ht.below h.bB h.size⟩
 ·
  subst e
  exact fg (k':=0) h.l6 h.rd.box (by decide) hj
 ·
  subst e
  exact fg (k':=0) h.here h.rd.box (by decide) hj
theorem tN {w:World} {ad:Addr} {v:Value} (h:w.cell? ad=some v):(Instr.loadAt 39 (.pointer (some ad))).run Tryz.prog w=.ok v w:=Ap.aW (by simp [isAgg]) h
theorem Pk (k:Int) (t:Nm) (g:Int) (w:World):(Instr.build mK #[(0,.int .i64 k),(1,.string (str t)),(3,.int .i64 g)]).run Tryz.prog w=.ok (.agg #[.int .i64 k,.string (str t),.string ⟨#[]⟩,.int .i64 g]) w:=by go_simp
theorem dP.put {W W1:World} {b B K g:Nat} {l:List Tok} {hh:List Nat} {s:Nm} {vl vh Et:Value} {t:Tok} (h:dP W b B K g l hh s vl vh) (hg:W.grownBy W1 vl.ownBlock) (hb:W1.heap[b]? =W.heap[b]?) (ho:W1.ownsRow B mK 4 Et (l.length+1) (l.flatMap rT++rT t)):
 dP (W1.setCell ⟨b,3,none⟩ Et) b B K g (l++[t]) hh s Et vh∧Below B W (W1.setCell ⟨b,3,none⟩ Et):=by
 have fV:W1.heap[b]? =some (.cells #[.string (str s),.int .i64 ((K - nl s:Nat):Int),.int .i64 (g:Int),vl,vh] nc):=hb.trans h.rd.box
 have hs:=heap_setCell_same W1 b 3 _ _ Et fV
 have hgr:W1.grownBy (W1.setCell ⟨b,3,none⟩ Et) (some b):=Sl.aq b [Et] 3 W1
 have MU:∀(j:Nat) (X:Array Value) (e:TypeId),W1.heap[j]? =some (.cells X e)→e≠nc→(W1.setCell ⟨b,3,none⟩ Et).heap[j]? =W1.heap[j]?:=fun j X e hX hne=>hgr.block j (Array.getElem?_eq_some_iff.1 hX).1 (fun ej=>by
  obtain rfl:=Option.some.inj ej
  rw [hX] at fV
  injection fV with fV
  injection fV with _ hT _
  exact hne hT)
 refine ⟨⟨⟨hs,h.rd.le,h.rd.big,h.rd.len⟩,?_,?_,h.bB⟩,⟨hgr.os.trans hg.os,hgr.tape.trans hg.tape,hgr.output.trans hg.output,Nat.le_trans hg.size hgr.size,fun j hj=>?_⟩⟩
 ·
  rw [List.length_append,List.flatMap_append,List.flatMap_cons,List.flatMap_nil,List.append_nil]
  exact bG ho (fun j X _ hX=>MU j X mK hX (by decide))
 ·
  have h1:W1.ownsRow B dU 1 vh hh.length (hh.map iv):=bG h.here (fun j X hj hX=>hg.block j (Array.getElem?_eq_some_iff.1 hX).1 (fun e=>fg (k':=0) h.l6 hX (by decide) e.symm))
  exact bG h1 (fun j X _ hX=>MU j X dU hX (by decide))
 ·
  have h1:j≠b:=by have:=h.bB;omega
  have Ll:j < W.heap.size:=Nat.lt_of_lt_of_le hj h.size
  exact (hgr.block j (Nat.lt_of_lt_of_le Ll hg.size) (fun e=>h1 (Option.some.inj e))).trans (hg.block j Ll (fun e=>by have:=(h.l6.lt _ e.symm).1;omega))
def R7 (W:World) (b B K g:Nat) (l:List Tok) (hh:List Nat) (s:Nm) (vh:Value) (r:Ending) (W':World):Prop:=
 r=.returned (.tuple #[])∧Below B W W'∧∃Et,dP W' b B K g l hh s Et vh
theorem bQ (W:World) (b B K g:Nat) (l:List Tok) (hh:List Nat) (s:Nm) (vl vh:Value) (h:dP W b B K g l hh s vl vh) (k:Nat) (t:Nm) (hl:l.length≤100000):
 Calls Tryz.prog 22 #[.pointer (some ⟨b,0,none⟩),.int .i64 (k:Int),.string (str t)] W (R7 W b B K g (l++[⟨k,t,[],g⟩]) hh s vh):=by
 obtain ⟨i0,iy,hz0,hz1,hz2⟩:=info_parts sX
 have H:=Lib.hid h
 have PJ:Hid (∀j,vl.ownBlock=some j→B≤j∧j < W.heap.size):=fun j hj=>H.out.l6.lt j hj
 have hsz:=h.size
 clear h
 go_enter Tryz.func22,Tryz.ntmps22
 go_upto_region 0 with fail
 refine Rt.qF 14 [] [Rg.Is (.pointer (some ⟨b,0,none⟩)),Rg.Is (.pointer (some ⟨b,0,none⟩)),Rg.Is (.pointer (some ⟨b,0,none⟩)),Rg.Is (.pointer (some ⟨b,3,none⟩)),Rg.Is (vl),Rg.Is (.int .i64 (k:Int)),Rg.Is (.string (str t)),Rg.Is (.pointer (some ⟨b,0,none⟩)),Rg.Is (.pointer (some ⟨b,0,none⟩)),Rg.Is (.pointer (some ⟨b,2,none⟩)),Rg.Is (.int .i64 (g:Int)),Rg.Is (.agg #[.int .i64 (k:Int),.string (str t),.string ⟨#[]⟩,.int .i64 (g:Int)]),(fun u x=>∃j,u=.slice (some ⟨j,0,none⟩) 1 1∧W.heap.size≤j∧x.heap[j]? =some (.cells (rT ⟨k,t,[],g⟩).toArray mK)),(fun u x=>x.ownsRow B mK 4 u (l.length+1) (l.flatMap rT++(rT ⟨k,t,[],g⟩))∧W.grownBy x vl.ownBlock)] (fun _ _=>True) (fun ls x=>ls 13=false→Below W.heap.size W x) (fun k x y=>if k=13 then x.grownBy y (Value.ownBlock (vl)) else Below x.heap.size x y) (by kernel_rfl) (by kernel_rfl) (of_decide_eq_true (by kernel_rfl)) (by kernel_rfl) (by kernel_rfl) trivial (fun _=>⟨rfl,rfl,rfl,Nat.le_refl _,fun _ _=>rfl⟩) (fun ls mC x e h1 h2=>h1 (by rw [e];exact h2)) (fun _ _ _ _ _=>trivial) (fun i ls x _ h1=>by rw [show ([]:List Bool).getD i true=true from rfl] at h1;cases h1) ?_ ⟨rfl,rfl,rfl,rfl,rfl,rfl,rfl,rfl,rfl,rfl,rfl,rfl,rfl,rfl,trivial⟩ ⟨?_,?_,?_,?_,?_,?_,?_,?_,?_,?_,?_,?_,?_,?_,trivial⟩ ?_
 ·
  intro i k u x y hik _ h1 hK
  match i,h1,hik with
  | 0,h1,_=>exact h1
  | 1,h1,_=>exact h1
  | 2,h1,_=>exact h1
  | 3,h1,_=>exact h1
  | 4,h1,_=>exact h1
  | 5,h1,_=>exact h1
  | 6,h1,_=>exact h1
  | 7,h1,_=>exact h1
  | 8,h1,_=>exact h1
  | 9,h1,_=>exact h1
  | 10,h1,_=>exact h1
  | 11,h1,_=>exact h1
  | 12,h1,hik=>
    obtain ⟨j,h2,h3,h4⟩:=h1
    refine ⟨j,h2,h3,?_⟩
    have hg:=(Array.getElem?_eq_some_iff.1 h4).1
    by_cases hk:k=13
    ·
     subst hk
     rw [if_pos rfl] at hK
     exact (hK.block j hg (fun e=>by have:=(PJ.out _ e.symm).2;omega)).trans h4
    ·
     rw [if_neg hk] at hK
     exact (hK.block j hg).trans h4
  | 13,h1,hik=>
    rw [if_neg (fun e=>hik e.symm)] at hK
    exact ⟨bz h1.1 hK,Sl.lO h1.2 (Sl.lT hK _)⟩
  | _+14,_,_=>trivial
 ·
  intro _ b9 x ls hR hS ai bI bf hk
  have h0:b9.eval (.tmp 0)=.pointer (some ⟨b,0,none⟩):=Eq.mp (by kernel_rfl) (hk 0 (by decide))
  exact Rg.az ⟨by rw [if_neg (by decide)];exact Below.refl _ _,h0,fun hh=>hS hh⟩
 ·
  intro _ b9 x ls hR hS ai bI bf hk
  have h0:b9.eval (.tmp 0)=.pointer (some ⟨b,0,none⟩):=Eq.mp (by kernel_rfl) (hk 0 (by decide))
  have lA:ls 13=false:=bf [4,3,2] 13 _ rfl (by kernel_rfl)
  have hb:=hS lA
  exact Rg.az ⟨by rw [if_neg (by decide)];exact Below.refl _ _,h0,fun hh=>hS hh⟩
 ·
  intro _ b9 x ls hR hS ai bI bf hk
  have h7:b9.eval (.tmp 7)=.pointer (some ⟨b,0,none⟩):=Eq.mp (by kernel_rfl) (hk 7 (by decide))
  have lA:ls 13=false:=bf [4,3] 13 _ rfl (by kernel_rfl)
  have hb:=hS lA
  exact Ap.fN _ h7 ⟨by rw [if_neg (by decide)];exact Below.refl _ _,rfl,fun hh=>hS hh⟩
 ·
  intro _ b9 x ls hR hS ai bI bf hk
  have h8:b9.eval (.tmp 8)=.pointer (some ⟨b,0,none⟩):=Eq.mp (by kernel_rfl) (hk 8 (by decide))
  have lA:ls 13=false:=bf [4] 13 _ rfl (by kernel_rfl)
  have hb:=hS lA
  exact Rs.aR _ _ h8 (rf b 0 3 (by decide) x) ⟨by rw [if_neg (by decide)];exact Below.refl _ _,rfl,fun hh=>hS hh⟩
 ·
  intro _ b9 x ls hR hS ai bI bf hk
  have h9:b9.eval (.tmp 9)=.pointer (some ⟨b,3,none⟩):=Eq.mp (by kernel_rfl) (hk 9 (by decide))
  have lA:ls 13=false:=bf [] 13 _ rfl (by kernel_rfl)
  have hb:=hS lA
  exact Rg.aK _ _ h9 (tN (bg (H.out.rd.below hb).box).1.2.2.2.1) ⟨by rw [if_neg (by decide)];exact Below.refl _ _,rfl,fun hh=>hS hh⟩
 ·
  intro _ b9 x ls hR hS ai bI bf hk
  have h1:b9.eval (.tmp 1)=.int .i64 (k:Int):=Eq.mp (by kernel_rfl) (hk 1 (by decide))
  have lA:ls 13=false:=bf [12,11] 13 _ rfl (by kernel_rfl)
  have hb:=hS lA
  exact Rg.az ⟨by rw [if_neg (by decide)];exact Below.refl _ _,h1,fun hh=>hS hh⟩
 ·
  intro _ b9 x ls hR hS ai bI bf hk
  have h2:b9.eval (.tmp 2)=.string (str t):=Eq.mp (by kernel_rfl) (hk 2 (by decide))
  have lA:ls 13=false:=bf [12,11] 13 _ rfl (by kernel_rfl)
  have hb:=hS lA
  exact Rg.az ⟨by rw [if_neg (by decide)];exact Below.refl _ _,h2,fun hh=>hS hh⟩
 ·
  intro _ b9 x ls hR hS ai bI bf hk
  have h0:b9.eval (.tmp 0)=.pointer (some ⟨b,0,none⟩):=Eq.mp (by kernel_rfl) (hk 0 (by decide))
  have lA:ls 13=false:=bf [12,11,10,9,8] 13 _ rfl (by kernel_rfl)
  have hb:=hS lA
  exact Rg.az ⟨by rw [if_neg (by decide)];exact Below.refl _ _,h0,fun hh=>hS hh⟩
 ·
  intro _ b9 x ls hR hS ai bI bf hk
  have E0:b9.eval (.tmp 13)=.pointer (some ⟨b,0,none⟩):=Eq.mp (by kernel_rfl) (hk 13 (by decide))
  have lA:ls 13=false:=bf [12,11,10,9] 13 _ rfl (by kernel_rfl)
  have hb:=hS lA
  exact Ap.fN _ E0 ⟨by rw [if_neg (by decide)];exact Below.refl _ _,rfl,fun hh=>hS hh⟩
 ·
  intro _ b9 x ls hR hS ai bI bf hk
  have U2:b9.eval (.tmp 14)=.pointer (some ⟨b,0,none⟩):=Eq.mp (by kernel_rfl) (hk 14 (by decide))
  have lA:ls 13=false:=bf [12,11,10] 13 _ rfl (by kernel_rfl)
  have hb:=hS lA
  exact Rs.aR _ _ U2 (rf b 0 2 (by decide) x) ⟨by rw [if_neg (by decide)];exact Below.refl _ _,rfl,fun hh=>hS hh⟩
 ·
  intro _ b9 x ls hR hS ai bI bf hk
  have Dr:b9.eval (.tmp 15)=.pointer (some ⟨b,2,none⟩):=Eq.mp (by kernel_rfl) (hk 15 (by decide))
  have lA:ls 13=false:=bf [12,11] 13 _ rfl (by kernel_rfl)
  have hb:=hS lA
  exact Rg.aK _ _ Dr (mE (bg (H.out.rd.below hb).box).1.2.2.1) ⟨by rw [if_neg (by decide)];exact Below.refl _ _,rfl,fun hh=>hS hh⟩
 ·
  intro _ b9 x ls hR hS ai bI bf hk
  have h11:b9.eval (.tmp 11)=.int .i64 (k:Int):=Eq.mp (by kernel_rfl) (hk 11 (by decide))
  have zL:b9.eval (.tmp 12)=.string (str t):=Eq.mp (by kernel_rfl) (hk 12 (by decide))
  have Fo:b9.eval (.tmp 16)=.int .i64 (g:Int):=Eq.mp (by kernel_rfl) (hk 16 (by decide))
  have lA:ls 13=false:=bf [12] 13 _ rfl (by kernel_rfl)
  have hb:=hS lA
  exact Ap.jS #[(0,.int .i64 (k:Int)),(1,.string (str t)),(3,.int .i64 (g:Int))] _ (by simp [h11,zL,Fo]) (Pk k t g x) ⟨by rw [if_neg (by decide)];exact Below.refl _ _,rfl,fun hh=>hS hh⟩
 ·
  intro _ b9 x ls hR hS ai bI bf hk
  have G1:b9.eval (.tmp 17)=.agg #[.int .i64 (k:Int),.string (str t),.string ⟨#[]⟩,.int .i64 (g:Int)]:=Eq.mp (by kernel_rfl) (hk 17 (by decide))
  have lA:ls 13=false:=bf [] 13 _ rfl (by kernel_rfl)
  have hb:=hS lA
  have cU:=(Below.refl x.heap.size x).alloc (Nat.le_refl _) (.cells (rT ⟨k,t,[],g⟩).toArray mK)
  exact Rg.di #[(0,.agg #[.int .i64 (k:Int),.string (str t),.string ⟨#[]⟩,.int .i64 (g:Int)])] _ (by simp [G1]) (by go_simp;rfl) ⟨by rw [if_neg (by decide)];exact cU,⟨x.heap.size,rfl,hb.size,heap_alloc_new x _⟩,fun hh=>hb.trans (cU.mono hb.size)⟩
 ·
  intro _ b9 x ls hR hS ai bI bf hk
  have h10:b9.eval (.tmp 10)=vl:=Eq.mp (by kernel_rfl) (hk 10 (by decide))
  have N5:(fun u x=>∃j,u=.slice (some ⟨j,0,none⟩) 1 1∧W.heap.size≤j∧x.heap[j]? =some (.cells (rT ⟨k,t,[],g⟩).toArray mK)) (b9.eval (.tmp 18)) x:=Eq.mp (by kernel_rfl) (hk 18 (by decide))
  have hb:=hS ai
  obtain ⟨j,h2,h3,h4⟩:=N5
  have hown:x.ownsRow B mK 4 vl l.length (l.flatMap rT):=bz H.out.l6 hb
  obtain ⟨v',w',hrun,hown',hgr,hat⟩:=Ap.bR (P:=Tryz.prog) x B 39 39 39 mK i0 _ 4 48 Tryz.underlying39 (bw Tryz.underlying39) iy hz0 hz1 hz2 rfl (by omega) (by omega) vl _ _ hown (b9.eval (.tmp 18)) 1 (rT ⟨k,t,[],g⟩) (by rw [h2];exact Ap.Cx kj Qo h4 1) (by unfold maxLen;omega) (by omega) (by have:=hb.size;omega)
  exact Ap.cR vl _ v' w' h10 rfl hrun ⟨by rw [if_pos rfl];exact hgr,⟨hown',Sl.lO (Sl.lT hb _) hgr⟩,fun hh=>by simp [Rs.upd] at hh⟩
 ·
  intro vals wD ls _ uj _ hL
  obtain ⟨g0,g1,g2,g3,g4,g5,g6,g7,g8,g9,g10,g11,g12,g13,_⟩:=hL
  obtain ⟨hown,hgr⟩:wD.ownsRow B mK 4 (vals 13) (l.length+1) (l.flatMap rT++rT ⟨k,t,[],g⟩)∧W.grownBy wD vl.ownBlock:=g13
  have Yp:vals 0=.pointer (some ⟨b,0,none⟩):=g0
  clear g0 g1 g2 g3 g4 g5 g6 g7 g8 g9 g10 g11 g12
  simp only [Rg.bh,List.take_succ_cons,List.take_zero,List.drop_succ_cons,List.drop_zero,List.setIfInBounds_toArray,List.set_cons_succ,List.set_cons_zero,Yp]
  clear Yp
  generalize vals 13=u at *
  have fV:wD.heap[b]? =W.heap[b]?:=hgr.block b H.out.rd.lt (fun e=>fg (k':=0) H.out.l6 H.out.rd.box (by decide) e.symm)
  obtain ⟨⟨c0,c1,c2,c3,c4⟩,f0,f1,f2,f3,f4⟩:=bg (fV.trans H.out.rd.box)
  have HF:=Lib.hid (H.out.put hgr fV hown)
  obtain ⟨au,cu,rfl,_,_,_,_⟩:=aA hown
  clear hown hgr fV
  go_wp2_with fail
  refine bodyPost_end (v:=.tuple #[]) (results_none rfl _ _ _) rfl ?_
  exact ⟨rfl,HF.out.2,_,HF.out.1⟩
theorem sw (l:Nm) (c:UInt8):decide (0≤Lib.indexByte l c)=l.contains c:=by
 have h:=pQ c l
 have hm:∀s:Nm,(cutAt c s).isSome=s.contains c:=by
  intro s
  induction s with
  | nil=>rfl
  | cons d r ih=>
    unfold cutAt
    by_cases hd:d=c
    · subst hd;simp
    ·
     rw [if_neg hd,Option.isSome_map,ih,List.contains_cons]
     have:(c==d)=false:=by rw [beq_eq_false_iff_ne];exact fun e=>hd e.symm
     rw [this,Bool.false_or]
 rw [←hm l]
 cases hc:cutAt c l with
 | none=>rw [hc] at h;simp only at h;rw [h];rfl
 | some x=>rw [hc] at h;simp only at h;rw [h.1];simp
theorem GC (W:World) (b:Nat) (s:Nm) (K g:Nat) (vl vh:Value) (h:Rd W b s K g vl vh):Calls Tryz.prog 68 #[.pointer (some ⟨b,0,none⟩)] W fun r W'=>r=.returned (.bool (ends s))∧W'=W:=by
 obtain ⟨⟨c0,c1,c2,c3,c4⟩,f0,f1,f2,f3,f4⟩:=bg h.box
 clear h
 go_enter Tryz.func68,Tryz.ntmps68
 cases s with
 | nil=>
   have t1:((str []).toList==[])=true:=by rw [rC];rfl
   go_wp2_with fail
   go_ret
   exact ⟨rfl,rfl⟩
 | cons c r=>
   have t1:((str (c::r)).toList==[])=false:=by rw [rC];rfl
   have e1:(str (c::r)).size=r.length+1:=rfl
   obtain ⟨v,hv⟩:∃v,xw.contains c=v:=⟨_,rfl⟩
   have HV:=Lib.hid hv
   clear hv
   have hx1:(str (c::r)).extract 0 1=str [c]:=Sw.vH _ _ _
   have e2:(1:Int)≤((str (c::r)).size:Int):=by rw [e1];omega
   go_wp2_with fail
   refine (Tryz.strings_Contains_one (str xw) c _).mono ?_
   rintro q w3 ⟨rfl,hw3⟩
   obtain rfl:=hw3.symm
   rw [ng,sw]
   rw [show xw.contains c=v from HV.out]
   go_wp2_with fail
   go_ret
   exact ⟨by rw [show ends (c::r)=v from HV.out];rfl,rfl⟩
end Go.Proofs.YtiklkhbfilbpeaaGreatDoor
