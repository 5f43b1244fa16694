import Derived.Test.YtiklkhbfilbpeaaGreatDoorTbGSyA
import Derived.Test.YtiklkhbfilbpeaaGreatDoorTbLxAll
import Derived.Test.YtiklkhbfilbpeaaGreatDoorTbLxName
import Derived.Deep.CutBlock
import Derived.Deep.DeepCutAuto
import Derived.Lib.SliceRun
set_option maxRecDepth 100000
set_option maxHeartbeats 16000000
set_option linter.unusedVariables false
set_option linter.unusedSimpArgs false
namespace Go.Proofs.YtiklkhbfilbpeaaGreatDoor.Sx
open Go.RowKit Base Lx Sy
abbrev gv:TypeId:=37
abbrev gO:TypeId:=75
abbrev PK:TypeId:=46
abbrev EO:TypeId:=43
abbrev eZ:TypeId:=9
theorem Hm:(Tryz.prog.info? gv).map (fun i=>(i.zero,i.size,i.bytes))=some (some (.agg #[.int .i64 0,.string ⟨#[]⟩,.bool false,.slice none 0 0,.int .i64 0,.slice none 0 0,.slice none 0 0,.int .i64 0]),8,120):=by kernel_rfl
theorem Po:(Tryz.prog.info? gv).map (fun i=>i.size)=some 8:=by kernel_rfl
theorem WO:(Tryz.prog.underlying gv).map TypeDesc.isRow=some true:=by kernel_rfl
theorem vS:(Tryz.prog.info? gO).map (fun i=>(i.zero,i.size,i.bytes))=some (some (.agg #[.int .i64 0,.string ⟨#[]⟩,.string ⟨#[]⟩,.string ⟨#[]⟩]),4,56):=by kernel_rfl
theorem N7:(Tryz.prog.info? gO).map (fun i=>i.size)=some 4:=by kernel_rfl
theorem WB:(Tryz.prog.underlying gO).map TypeDesc.isRow=some true:=by kernel_rfl
theorem pS:(Tryz.prog.info? eZ).map (fun i=>(i.zero,i.size,i.bytes))=some (some (.string ⟨#[]⟩),1,16):=by kernel_rfl
def mI (e:Int) (g:Nat):Ending:=.panicked [{ v:=.iface EO (.agg #[.int .i64 e,.int .i64 (g:Int)]),recovered:=false }]
def sv (s:Nm):Value:=.string (str s)
def lr (r:dZ):List Value:=[.int .i64 (r.fd:Int),.string (str r.o),.string (str r.w),.string (str r.b)]
theorem B6 (r:dZ):(lr r).length=4:=rfl
theorem Ia:∀(r:dZ),∀u∈lr r,u.oneCell'=true:=by
 intro r u hu
 simp only [lr,List.mem_cons,List.not_mem_nil,or_false] at hu
 rcases hu with rfl | rfl | rfl | rfl<;>rfl
def BW (n:Nd) (uw ur uk:Value):List Value:=[.int .i64 (n.k:Int),.string (str n.t),.bool n.fl,uw,.int .i64 (n.st:Int),ur,uk,.int .i64 (n.ln:Int)]
abbrev NV:=Nd × Value × Value × Value
def nz (x:NV):List Value:=BW x.1 x.2.1 x.2.2.1 x.2.2.2
theorem Ve (x:NV):(nz x).length=8:=rfl
def Vw (uw ur uk:Value) (g:Nat):Prop:=uw.ownBlock≠some g∧ur.ownBlock≠some g∧uk.ownBlock≠some g
structure Rows (W:World) (Q:Nat→Prop) (n:Nd) (uw ur uk:Value):Prop where
 w:W.ownsRow 0 eZ 1 uw n.ws.length (n.ws.map sv)
 r:W.ownsRow 0 gO 4 ur n.rs.length (n.rs.flatMap lr)
 k:W.ownsRow 0 dU 1 uk n.ks.length (n.ks.map iv)
 qw:∀g,uw.ownBlock=some g→Q g
 qr:∀g,ur.ownBlock=some g→Q g
 qk:∀g,uk.ownBlock=some g→Q g
def qp (t:TypeId):Prop:=t=eZ∨t=gO∨t=dU
theorem fp:¬qp gv∧¬qp PK∧¬qp mK:=by unfold qp;decide
theorem Rows.keep {W W':World} {Q:Nat→Prop} {n:Nd} {uw ur uk:Value} (h:Rows W Q n uw ur uk) (hk:∀(g:Nat) (X:Array Value) (t:TypeId),Q g→W.heap[g]? =some (.cells X t)→qp t→W'.heap[g]? =W.heap[g]?):Rows W' Q n uw ur uk:=
 ⟨bG h.w (fun g X hg hX=>hk g X eZ (h.qw g hg) hX (.inl rfl)),bG h.r (fun g X hg hX=>hk g X gO (h.qr g hg) hX (.inr (.inl rfl))),bG h.k (fun g X hg hX=>hk g X dU (h.qk g hg) hX (.inr (.inr rfl))),h.qw,h.qr,h.qk⟩
theorem Rows.less {W:World} {Q Q':Nat→Prop} {n:Nd} {uw ur uk:Value} (h:Rows W Q n uw ur uk) (hq:∀g,Q g→g < W.heap.size→Q' g):Rows W Q' n uw ur uk:=
 ⟨h.w,h.r,h.k,fun g hg=>hq g (h.qw g hg) (h.w.lt g hg).2,fun g hg=>hq g (h.qr g hg) (h.r.lt g hg).2,fun g hg=>hq g (h.qk g hg) (h.k.lt g hg).2⟩
theorem Rows.below {W W':World} {Q:Nat→Prop} {n:Nd} {uw ur uk:Value} (h:Rows W Q n uw ur uk) (hb:Below W.heap.size W W'):Rows W' Q n uw ur uk:=
 h.keep (fun g X t _ hX _=>hb.block g (Array.getElem?_eq_some_iff.1 hX).1)
theorem ML (W:World) (Q:Nat→Prop) (n:Nd) (h1:n.ws=[]) (h2:n.rs=[]) (h3:n.ks=[]):Rows W Q n (.slice none 0 0) (.slice none 0 0) (.slice none 0 0):=by
 refine ⟨?_,?_,?_,fun g hg=>(by cases hg),fun g hg=>(by cases hg),fun g hg=>(by cases hg)⟩
 · rw [h1];exact World.ownsRow_nil _ _ _ _
 · rw [h2];exact World.ownsRow_nil _ _ _ _
 · rw [h3];exact World.ownsRow_nil _ _ _ _
def lu (W:World) (B:Nat) (P:Nat→Prop) (v:Value) (l:List Nd):Prop:=∃zs:List NV,zs.map (·.1)=l∧W.ownsRow B gv 8 v l.length (zs.flatMap nz)∧∀x∈zs,Rows W P x.1 x.2.1 x.2.2.1 x.2.2.2
def ug (W:World) (B:Nat) (u:Value) (ts:List Tok):Prop:=∃g o c,u=.slice (some ⟨g,o,none⟩) ts.length c∧ts.length≤c∧c≤maxLen∧g < B∧∀(j:Nat) (x:Value),(ts.flatMap rT)[j]? =some x→W.cell? ⟨g,o+j,none⟩=some x
def T6 (t:Tok):Prop:=t.t.length≤100000∧(t.k=5→t.t≠[]∧∀c∈t.t,48≤c.toNat∧c.toNat≤57)
structure Bf (ts:List Tok):Prop where
 last:∃l t,ts=l++[t]∧t.k=4
 each:∀t∈ts,T6 t
 few:ts.length≤10000
abbrev Pa:Nat:=1
abbrev UX:Nat:=9
theorem Ib:Tryz.prog.globalNamed "strconv.ErrRange"=some UX:=by kernel_rfl
structure M4 (W:World) (B:Nat):Prop where
 res:∃g o c,W.cell? ⟨Pa,0,none⟩=some (.slice (some ⟨g,o,none⟩) mr.length c)∧g < B∧∀j (hj:j < mr.length),W.cell? ⟨g,o+j,none⟩=some (.string (str mr[j]))
 rng:∃tp p,W.var? Tryz.prog "strconv.ErrRange"=some #[.iface tp p]
 l1:Pa < B
 l2:UX < B
theorem M4.below {W W':World} {B:Nat} (h:M4 W B) (hb:Below B W W'):M4 W' B:=by
 obtain ⟨g,o,c,h1,h2,h3⟩:=h.res
 refine ⟨⟨g,o,c,?_,h2,fun j hj=>?_⟩,?_,h.l1,h.l2⟩
 ·
  unfold World.cell? at h1 ⊢
  rw [hb.block _ h.l1];exact h1
 ·
  have h4:=h3 j hj
  unfold World.cell? at h4 ⊢
  rw [hb.block _ h2];exact h4
 ·
  obtain ⟨tp,p,h5⟩:=h.rng
  refine ⟨tp,p,?_⟩
  unfold World.var? at h5 ⊢
  rw [Ib] at h5 ⊢
  simp only [Option.bind_some] at h5 ⊢
  rw [hb.block _ h.l2]
  exact h5
theorem M4.less {W:World} {B B':Nat} (h:M4 W B) (hb:B≤B'):M4 W B':=by
 obtain ⟨g,o,c,h1,h2,h3⟩:=h.res
 exact ⟨⟨g,o,c,h1,Nat.lt_of_lt_of_le h2 hb,h3⟩,h.rng,Nat.lt_of_lt_of_le h.l1 hb,Nat.lt_of_lt_of_le h.l2 hb⟩
structure Rd (W:World) (b B:Nat) (P:Nat→Prop) (v:Value) (s:S) (d:Nat):Prop where
 box:∃u,W.heap[b]? =some (.cells #[v,u,.int .i64 (d:Int)] PK)∧ug W B u s.2
 bB:B≤b
 row:lu W B P v s.1
 ok:Bf s.2
 dd:d≤40
 gl:M4 W B
theorem Rd.lt {W:World} {b B:Nat} {P:Nat→Prop} {v:Value} {s:S} {d:Nat} (h:Rd W b B P v s d):b < W.heap.size:=by
 obtain ⟨u,h1,_⟩:=h.box
 exact (Array.getElem?_eq_some_iff.1 h1).1
theorem Rd.own {W:World} {b B:Nat} {P:Nat→Prop} {v:Value} {s:S} {d:Nat} (h:Rd W b B P v s d):∀g,v.ownBlock=some g→B≤g∧g < W.heap.size:=by
 obtain ⟨zs,_,h2,_⟩:=h.row
 exact h2.lt
theorem Rd.size {W:World} {b B:Nat} {P:Nat→Prop} {v:Value} {s:S} {d:Nat} (h:Rd W b B P v s d):B≤W.heap.size:=Nat.le_of_lt (Nat.lt_of_le_of_lt h.bB h.lt)
theorem Rd.fg {W:World} {b B:Nat} {P:Nat→Prop} {v:Value} {s:S} {d:Nat} (h:Rd W b B P v s d) {q:Nat} {X:Array Value} {t:TypeId} {fr:Nat × Nat} (hq:W.heap[q]? =some (.cells X t fr)) (hn:t≠gv):v.ownBlock≠some q:=by
 obtain ⟨zs,_,h2,_⟩:=h.row
 exact Go.Proofs.YtiklkhbfilbpeaaGreatDoor.fg (k':=0) h2 hq (fun e=>hn e.symm)
theorem ug.below {W W':World} {B:Nat} {u:Value} {ts:List Tok} (h:ug W B u ts) (hb:Below B W W'):ug W' B u ts:=by
 obtain ⟨g,o,c,h1,h2,h3,h4,h5⟩:=h
 refine ⟨g,o,c,h1,h2,h3,h4,fun j x hx=>?_⟩
 have h6:=h5 j x hx
 unfold World.cell? at h6 ⊢
 rw [hb.block g h4]
 exact h6
theorem lu.keep {W W':World} {B:Nat} {P:Nat→Prop} {v:Value} {l:List Nd} (h:lu W B P v l) (hv:∀g X,v.ownBlock=some g→W.heap[g]? =some (.cells X gv)→W'.heap[g]? =W.heap[g]?) (hk:∀(g:Nat) (X:Array Value) (t:TypeId),P g→W.heap[g]? =some (.cells X t)→qp t→W'.heap[g]? =W.heap[g]?):lu W' B P v l:=by
 obtain ⟨zs,h1,h2,h3⟩:=h
 exact ⟨zs,h1,bG h2 hv,fun x hx=>(h3 x hx).keep hk⟩
theorem lu.less {W:World} {B:Nat} {P P':Nat→Prop} {v:Value} {l:List Nd} (h:lu W B P v l) (hq:∀g,P g→g < W.heap.size→P' g):lu W B P' v l:=by
 obtain ⟨zs,h1,h2,h3⟩:=h
 exact ⟨zs,h1,h2,fun x hx=>(h3 x hx).less hq⟩
theorem Rd.below {W W':World} {b B:Nat} {P:Nat→Prop} {v:Value} {s:S} {d:Nat} (h:Rd W b B P v s d) (hb:Below W.heap.size W W'):Rd W' b B P v s d:=by
 obtain ⟨u,h1,h2⟩:=h.box
 exact ⟨⟨u,(hb.block b h.lt).trans h1,h2.below (hb.mono h.size)⟩,h.bB,h.row.keep (fun g X _ hX=>hb.block g (Array.getElem?_eq_some_iff.1 hX).1) (fun g X t _ hX _=>hb.block g (Array.getElem?_eq_some_iff.1 hX).1),h.ok,h.dd,h.gl.below (hb.mono h.size)⟩
theorem Rd.less {W:World} {b B:Nat} {P P':Nat→Prop} {v:Value} {s:S} {d:Nat} (h:Rd W b B P v s d) (hq:∀g,P g→g < W.heap.size→P' g):Rd W b B P' v s d:=⟨h.box,h.bB,h.row.less hq,h.ok,h.dd,h.gl⟩
theorem Rd.turn {W W':World} {b B:Nat} {P:Nat→Prop} {v:Value} {s:S} {d:Nat} {o:Option Nat} (h:Rd W b B P v s d) (hg:W.grownBy W' o) (ho:∀g,o=some g→g < W.heap.size→B≤g∧g≠b∧v.ownBlock≠some g∧(P g→∀X t,W.heap[g]? =some (.cells X t)→¬qp t)):Rd W' b B P v s d:=by
 obtain ⟨u,h1,h2⟩:=h.box
 have hB:=h.size
 have hbl:Below B W W':=⟨hg.os,hg.tape,hg.output,hg.size,fun k hk=>hg.block k (by omega) (fun e=>by have:=(ho k e.symm (by omega)).1;omega)⟩
 refine ⟨⟨u,(hg.block b h.lt (fun e=>(ho b e.symm h.lt).2.1 rfl)).trans h1,h2.below hbl⟩,h.bB,h.row.keep (fun g X hv hX=>?_) (fun g X t hP hX hT=>?_),h.ok,h.dd,h.gl.below hbl⟩
 ·
  have hl:=(Array.getElem?_eq_some_iff.1 hX).1
  exact hg.block g hl (fun e=>(ho g e.symm hl).2.2.1 hv)
 ·
  have hl:=(Array.getElem?_eq_some_iff.1 hX).1
  exact hg.block g hl (fun e=>(ho g e.symm hl).2.2.2 hP X t hX hT)
theorem fC {W:World} {b:Nat} {c0 c1 c2:Value} (h:W.heap[b]? =some (.cells #[c0,c1,c2] PK)):
 (W.cell? ⟨b,0,none⟩=some c0∧W.cell? ⟨b,1,none⟩=some c1∧W.cell? ⟨b,2,none⟩=some c2)∧W.frozen? ⟨b,0,none⟩=false∧W.frozen? ⟨b,1,none⟩=false∧W.frozen? ⟨b,2,none⟩=false:=by
 simp [World.cell?,World.frozen?,h]
theorem af {W:World} {b:Nat} {c0 c1 c2 c3 c4 c5 c6 c7:Value} (h:W.heap[b]? =some (.cells #[c0,c1,c2,c3,c4,c5,c6,c7] gv)):
 (W.cell? ⟨b,0,none⟩=some c0∧W.cell? ⟨b,1,none⟩=some c1∧W.cell? ⟨b,2,none⟩=some c2∧W.cell? ⟨b,3,none⟩=some c3∧W.cell? ⟨b,4,none⟩=some c4∧W.cell? ⟨b,5,none⟩=some c5∧W.cell? ⟨b,6,none⟩=some c6∧W.cell? ⟨b,7,none⟩=some c7)∧
 W.frozen? ⟨b,0,none⟩=false∧W.frozen? ⟨b,1,none⟩=false∧W.frozen? ⟨b,2,none⟩=false∧W.frozen? ⟨b,3,none⟩=false∧W.frozen? ⟨b,4,none⟩=false∧W.frozen? ⟨b,5,none⟩=false∧W.frozen? ⟨b,6,none⟩=false∧W.frozen? ⟨b,7,none⟩=false:=by
 simp [World.cell?,World.frozen?,h]
theorem gp {W:World} {b:Nat} {c0 c1 c2 c3:Value} (h:W.heap[b]? =some (.cells #[c0,c1,c2,c3] mK)):
 (W.cell? ⟨b,0,none⟩=some c0∧W.cell? ⟨b,1,none⟩=some c1∧W.cell? ⟨b,2,none⟩=some c2∧W.cell? ⟨b,3,none⟩=some c3)∧
 W.frozen? ⟨b,0,none⟩=false∧W.frozen? ⟨b,1,none⟩=false∧W.frozen? ⟨b,2,none⟩=false∧W.frozen? ⟨b,3,none⟩=false:=by
 simp [World.cell?,World.frozen?,h]
structure aj (b:Nat) (v:Value) (W:World) (v':Value) (W':World):Prop where
 os:W'.os=W.os
 tape:W'.tape=W.tape
 output:W'.output=W.output
 size:W.heap.size≤W'.heap.size
 block:∀k,k < W.heap.size→k≠b→v.ownBlock≠some k→W'.heap[k]? =W.heap[k]?
 own:∀g,v'.ownBlock=some g→g < W.heap.size→v.ownBlock=some g
theorem aj.of_below {b:Nat} {v:Value} {W W':World} (h:Below W.heap.size W W'):aj b v W v W':=⟨h.os,h.tape,h.output,h.size,fun k hk _ _=>h.block k hk,fun g hg _=>hg⟩
theorem aj.refl (b:Nat) (v:Value) (W:World):aj b v W v W:=.of_below (Below.refl _ _)
theorem aj.of_box {b:Nat} {v:Value} {W W':World} (h:W.grownBy W' (some b)):aj b v W v W':=⟨h.os,h.tape,h.output,h.size,fun k hk hs _=>h.block k hk (fun e=>hs (Option.some.inj e)),fun g hg _=>hg⟩
theorem aj.trans {b:Nat} {v v1 v2:Value} {W W1 W2:World} (h:aj b v W v1 W1) (h':aj b v1 W1 v2 W2):aj b v W v2 W2:=
 ⟨h'.os.trans h.os,h'.tape.trans h.tape,h'.output.trans h.output,Nat.le_trans h.size h'.size,fun k hk h1 h3=>(h'.block k (Nat.lt_of_lt_of_le hk h.size) h1 (fun e=>h3 (h.own k e hk))).trans (h.block k hk h1 h3),fun g hg hl=>h.own g (h'.own g hg (Nat.lt_of_lt_of_le hl h.size)) hl⟩
theorem aj.below {b B:Nat} {v v':Value} {W W':World} (h:aj b v W v' W') (hb:B≤b) (ho:∀g,v.ownBlock=some g→B≤g) (hB:B≤W.heap.size):Below B W W':=
 ⟨h.os,h.tape,h.output,h.size,fun k hk=>h.block k (by omega) (by omega) (fun e=>by have:=ho k e;omega)⟩
theorem aj.belowB {b B:Nat} {P:Nat→Prop} {v v':Value} {s:S} {d:Nat} {W W':World} (h:aj b v W v' W') (hr:Rd W b B P v s d):Below B W W':=h.below hr.bB (fun g hg=>(hr.own g hg).1) hr.size
theorem aj.grown {b:Nat} {v v':Value} {W W1 W2:World} {o:Option Nat} (h:aj b v W v' W1) (hg:W1.grownBy W2 o) (ho:∀g,o=some g→W.heap.size≤g):aj b v W v' W2:=
 ⟨hg.os.trans h.os,hg.tape.trans h.tape,hg.output.trans h.output,Nat.le_trans h.size hg.size,fun k hk h1 h3=>(hg.block k (Nat.lt_of_lt_of_le hk h.size) (fun e=>by have:=ho k e.symm;omega)).trans (h.block k hk h1 h3),h.own⟩
def Post {α:Type} (enc:α→Value→Prop) (W:World) (b B:Nat) (P:Nat→Prop) (v:Value) (d:Nat) (x:Sy.P α) (r:Ending) (W':World):Prop:=
 match x with
 | .error e=>r=mI e.1 e.2∧Below B W W'
 | .ok y=>∃u v',r=.returned u∧enc y.1 u∧aj b v W v' W'∧Rd W' b B P v' y.2 d
abbrev eN (k:Nat) (u:Value):Prop:=u=.int .i64 (k:Int)
abbrev eU (_:Unit) (u:Value):Prop:=u=.tuple #[]
abbrev eS (s:Nm) (u:Value):Prop:=u=.string (str s)
theorem Bf.tk {s:S} (h:Bf s.2):Bf (tk s).2:=by
 unfold Sy.tk
 split
 · exact h
 ·
  rename_i hk
  obtain ⟨l,t,h1,h2⟩:=h.last
  show Bf s.2.tail
  cases l with
  | nil=>
    rw [List.nil_append] at h1
    unfold nx at hk
    rw [h1] at hk
    exact absurd h2 hk
  | cons a l=>
    rw [h1]
    exact ⟨⟨l,t,rfl,h2⟩,fun u hu=>h.each u (by rw [h1];exact List.mem_cons_of_mem _ hu),by have:=h.few;rw [h1] at this;simp at this ⊢;omega⟩
theorem Bf.ne {ts:List Tok} (h:Bf ts):ts≠[]:=by
 obtain ⟨l,t,h1,_⟩:=h.last
 rw [h1];simp
theorem NU {g o n c:Nat} (j:Nat) (hj:j < n) (kd:IntKind) (w':World):(Instr.indexAt 39 (.slice (some ⟨g,o,none⟩) n c) (.int kd (j:Int))).run Tryz.prog w'=.ok (.pointer (some ⟨g,o+j * 4,none⟩)) w':=by
 obtain ⟨i,hi,_,hs,_⟩:=info_parts sX
 have he:Tryz.prog.elem 39=mK:=by simp [Program.elem,Tryz.underlying39]
 rw [run_indexAt_slice w' 39 _ n c kd j (by rw [he];exact Tryz.underlying39),if_pos ⟨by omega,by omega⟩,he]
 simp [sizeOf,typeInfo,hi,hs,Result.andThen,Addr.add_lit]
theorem Uz (b o k:Nat) (hk:k < 3) (w:World):(Instr.fieldAt PK (.pointer (some ⟨b,o,none⟩)) k).run Tryz.prog w=.ok (.pointer (some ⟨b,o+k,none⟩)) w:=by
 match k,hk with
 | 0,_=>rfl
 | 1,_=>rfl
 | 2,_=>rfl
theorem j6 (b o k:Nat) (hk:k < 8) (w:World):(Instr.fieldAt gv (.pointer (some ⟨b,o,none⟩)) k).run Tryz.prog w=.ok (.pointer (some ⟨b,o+k,none⟩)) w:=by
 match k,hk with
 | 0,_=>rfl
 | 1,_=>rfl
 | 2,_=>rfl
 | 3,_=>rfl
 | 4,_=>rfl
 | 5,_=>rfl
 | 6,_=>rfl
 | 7,_=>rfl
structure VK (W:World) (g o:Nat) (t:Tok):Prop where
 c0:W.cell? ⟨g,o,none⟩=some (.int .i64 (t.k:Int))
 c1:W.cell? ⟨g,o+1,none⟩=some (.string (str t.t))
 c2:W.cell? ⟨g,o+2,none⟩=some (.string (str t.b))
 c3:W.cell? ⟨g,o+3,none⟩=some (.int .i64 (t.ln:Int))
theorem IE {W:World} {B:Nat} {u:Value} {ts:List Tok} (h:ug W B u ts):∃g o c,u=.slice (some ⟨g,o,none⟩) ts.length c∧ts.length≤c∧c≤maxLen∧∀j (hj:j < ts.length),VK W g (o+j * 4) ts[j]:=by
 obtain ⟨g,o,c,h1,h2,h3,h4,h5⟩:=h
 refine ⟨g,o,c,h1,h2,h3,fun j hj=>?_⟩
 have k:∀(i:Nat) (x:Value),(rT ts[j])[i]? =some x→W.cell? ⟨g,o+j * 4+i,none⟩=some x:=fun i x hx=>by
  rw [Nat.add_assoc]
  exact h5 _ _ (Ap.vU kj ts j _ (List.getElem?_eq_getElem hj) i x hx)
 exact ⟨k 0 _ rfl,k 1 _ rfl,k 2 _ rfl,k 3 _ rfl⟩
theorem Cp {s:S} {t:Tok} {l:List Tok} (h:s.2=t::l):nx s=t:=by unfold nx;rw [h];rfl
theorem Rd.head {W:World} {b B:Nat} {P:Nat→Prop} {v:Value} {s:S} {d:Nat} (h:Rd W b B P v s d):∃g o c n,n=s.2.length∧0 < n∧n≤c∧c≤maxLen∧W.heap[b]? =some (.cells #[v,.slice (some ⟨g,o,none⟩) n c,.int .i64 (d:Int)] PK)∧VK W g o (nx s):=by
 obtain ⟨u,fV,uU⟩:=h.box
 obtain ⟨g,o,c,rfl,hle,hcm,hat⟩:=IE uU
 have hne:=h.ok.ne
 have vz:0 < s.2.length:=List.length_pos_iff.2 hne
 have Ka:nx s=s.2[0]:=by
  obtain ⟨t,l,hs⟩:=List.exists_cons_of_ne_nil hne
  rw [Cp hs]
  simp only [hs]
  rfl
 have h0:=hat 0 vz
 rw [←Ka,Nat.zero_mul,Nat.add_zero] at h0
 exact ⟨g,o,c,_,rfl,vz,hle,hcm,fV,h0⟩
theorem ei (W:World) (cs:Array Value) (t:TypeId):∃w1 N,W.alloc (.cells cs t)=w1∧W.heap.size=N∧w1.heap[N]? =some (.cells cs t)∧Below N W w1∧w1.heap.size=N+1:=
 ⟨_,_,rfl,rfl,heap_alloc_new W _,(Below.refl W.heap.size W).alloc (Nat.le_refl _) _,World.size_alloc _ _⟩
abbrev zTk:Array Value:=#[.int .i64 0,.string ⟨#[]⟩,.string ⟨#[]⟩,.int .i64 0]
theorem P3 (w:World) (N:Nat) (t:TypeId) (a0 a1 a2 a3 c0 c1 c2 c3:Value) (h:w.heap[N]? =some (.cells #[c0,c1,c2,c3] t)):∃w2,(((w.setCell ⟨N,0,none⟩ a0).setCell ⟨N,1,none⟩ a1).setCell ⟨N,2,none⟩ a2).setCell ⟨N,3,none⟩ a3=w2∧w2.heap[N]? =some (.cells #[a0,a1,a2,a3] t)∧w.grownBy w2 (some N)∧w2.heap.size=w.heap.size:=by
 refine ⟨_,rfl,?_,Sl.aq N [a0,a1,a2,a3] 0 w,Sl.dv N [a0,a1,a2,a3] 0 w⟩
 exact Sl.gS N t [a0,a1,a2,a3] 0 w [c0,c1,c2,c3] h (by simp)
theorem P9 (w:World) (N i:Nat) (t:TypeId) (a:Value) (cs:Array Value) (h:w.heap[N]? =some (.cells cs t)):∃w2,w.setCell ⟨N,i,none⟩ a=w2∧w2.heap[N]? =some (.cells (cs.setIfInBounds i a) t)∧w.grownBy w2 (some N)∧w2.heap.size=w.heap.size:=
 ⟨_,rfl,heap_setCell_same w N i cs t a h,Sl.aq N [a] i w,Sl.dv N [a] i w⟩
theorem uZ {N:Nat} {W w w2:World} (h:Below N W w) (hg:w.grownBy w2 (some N)) (hs:N≤w.heap.size):Below N W w2:=h.grown hg hs (fun j hj=>by obtain rfl:=Option.some.inj hj;exact Nat.le_refl _)
theorem a8 (W:World) (b B:Nat) (P:Nat→Prop) (v:Value) (s:S) (d:Nat) (h:Rd W b B P v s d):Calls Tryz.prog 24 #[.pointer (some ⟨b,0,none⟩)] W fun r W'=>r=.returned (B9 (nx s))∧Below W.heap.size W W':=by
 obtain ⟨w1,N,gZ,hN,hn,hb,hz⟩:=ei W zTk mK
 have HR:Hid (Rd w1 b B P v s d):=h.below (by rw [hN];exact hb)
 have qa:=Lib.hid gZ
 have HN:=Lib.hid hN
 have HB:Hid (Below N W w1):=hb
 have Li:¬b=N:=by have:=h.lt;omega
 obtain ⟨t,ht⟩:∃t,nx s=t:=⟨_,rfl⟩
 rw [ht]
 clear h gZ hN hb
 go_enter Tryz.func24,Tryz.ntmps24
 go_upto_region 1 with fail
 rw [qa.out,HN.out]
 obtain ⟨g,o,c,n,bO,vz,hle,hcm,fV,k0,k1,k2,k3⟩:=HR.out.head
 obtain ⟨⟨c0,c1,c2⟩,f0,f1,f2⟩:=fC fV
 obtain ⟨⟨n0,n1,n2,n3⟩,q0,q1,q2,q3⟩:=gp hn
 have XI:=fun w'=>NU (g:=g) (o:=o) (n:=n) (c:=c) 0 vz .i64 w'
 simp only [Nat.zero_mul,Nat.add_zero,Int.cast_ofNat_Int] at XI
 rw [ht] at k0 k1 k2 k3
 clear bO ht
 go_wp2_with fail
 obtain ⟨w2,hw2,h2,hg2,_⟩:=P3 w1 N mK (.int .i64 (t.k:Int)) (.string (str t.t)) (.string (str t.b)) (.int .i64 (t.ln:Int)) _ _ _ _ hn
 rw [hw2]
 obtain ⟨⟨y0,y1,y2,y3⟩,_⟩:=gp h2
 refine bodyPost_ret (v:=B9 t) (by simp [results,Tryz.results24,go_sem,y0,y1,y2,y3,B9]) rfl ?_
 have Uc:N≤w1.heap.size:=by omega
 rw [HN.out]
 exact ⟨rfl,uZ HB.out hg2 Uc⟩
theorem gj (t:Tok) (w:World):(Instr.field mK (B9 t) 0).run Tryz.prog w=.ok (.int .i64 (t.k:Int)) w:=by rfl
theorem jC (t:Tok) (w:World):(Instr.field mK (B9 t) 1).run Tryz.prog w=.ok (.string (str t.t)) w:=by rfl
theorem Og (t:Tok) (w:World):(Instr.field mK (B9 t) 2).run Tryz.prog w=.ok (.string (str t.b)) w:=by rfl
theorem jD (t:Tok) (w:World):(Instr.field mK (B9 t) 3).run Tryz.prog w=.ok (.int .i64 (t.ln:Int)) w:=by rfl
theorem bq (W:World) (b B:Nat) (P:Nat→Prop) (v:Value) (s:S) (d:Nat) (h:Rd W b B P v s d) (e:Int):Calls Tryz.prog 25 #[.pointer (some ⟨b,0,none⟩),.int .i64 e] W fun r W'=>r=mI e (nx s).ln∧Below W.heap.size W W':=by
 have HC:=Lib.hid (a8 W b B P v s d h)
 generalize nx s=t at *
 have F3:=jD t
 clear h
 go_enter Tryz.func25,Tryz.ntmps25
 go_wp2_with fail
 refine HC.out.mono ?_
 rintro r w2 ⟨rfl,hb⟩
 have HB:=Lib.hid hb
 clear hb
 go_wp2_with fail
 exact ⟨rfl,rfl,HB.out⟩
theorem Y7 {g o n c:Nat} (h2:2≤n) (hc:n≤c) (w':World):(Instr.slice 39 (.slice (some ⟨g,o,none⟩) n c) (some (.int .i64 1)) none none).run Tryz.prog w'=.ok (.slice (some ⟨g,o+4,none⟩) (n - 1) (c - 1)) w':=by
 obtain ⟨i,hi,_,hs,_⟩:=info_parts sX
 have he:Tryz.prog.elem 39=mK:=by simp [Program.elem,Tryz.underlying39]
 have hsz:(sizeOf mK).run Tryz.prog w'=.ok 4 w':=by simp [sizeOf,typeInfo,hi,hs]
 have:=run_slice_l w' 39 (some ⟨g,o,none⟩) n c (by rw [he];exact Tryz.underlying39) .i64 1 (by omega) (by omega)
 rw [he,hsz] at this
 rw [this]
 have hc1:¬c=1:=by omega
 simp [Result.andThen,sliced,hc1,Addr.add_lit]
theorem Rd.took {W:World} {b B:Nat} {P:Nat→Prop} {v:Value} {s:S} {d g o c n:Nat} (h:Rd W b B P v s d) (hk:(nx s).k≠4) (hn:n=s.2.length) (fV:W.heap[b]? =some (.cells #[v,.slice (some ⟨g,o,none⟩) n c,.int .i64 (d:Int)] PK)):
 2≤n∧Rd (W.setCell ⟨b,1,none⟩ (.slice (some ⟨g,o+4,none⟩) (n - 1) (c - 1))) b B P v (tk s) d∧aj b v W v (W.setCell ⟨b,1,none⟩ (.slice (some ⟨g,o+4,none⟩) (n - 1) (c - 1))):=by
 have Cg:=h.ok.tk
 have ht:(tk s)=(s.1,s.2.tail):=by unfold Sy.tk;rw [if_neg hk]
 rw [ht] at Cg ⊢
 obtain ⟨ns,ts⟩:=s
 simp only at Cg ht hn ⊢
 cases ts with
 | nil=>exact absurd rfl h.ok.ne
 | cons t l=>
   have hl:l≠[]:=Cg.ne
   have hl2:0 < l.length:=List.length_pos_iff.2 hl
   simp only [List.length_cons] at hn
   obtain ⟨u,hb2,uU⟩:=h.box
   rw [fV] at hb2
   injection hb2 with hb2
   injection hb2 with hb2
   have hu:u=.slice (some ⟨g,o,none⟩) n c:=by have:=congrArg (fun x:Array Value=>x[1]?) hb2;simp at this;exact this.symm
   obtain ⟨g',o',c',hu2,h2,h3,h4,h5⟩:=uU
   rw [hu] at hu2
   injection hu2 with q1 q2 q3
   injection q1 with q1
   injection q1 with q1 q4 _
   subst q1 q3 q4
   have yR:=heap_setCell_same W b 1 _ _ (.slice (some ⟨g,o+4,none⟩) (n - 1) (c - 1)) fV
   have hgr:W.grownBy (W.setCell ⟨b,1,none⟩ (.slice (some ⟨g,o+4,none⟩) (n - 1) (c - 1))) (some b):=Sl.aq b [_] 1 W
   have hlt:=h.lt
   have XB:=h.bB
   refine ⟨by omega,⟨⟨_,yR,⟨g,o+4,c - 1,?_,?_,by omega,h4,fun j x hx=>?_⟩⟩,XB,h.row.keep (fun k X _ hX=>?_) (fun k X t _ hX hy=>?_),Cg,h.dd,h.gl.below ⟨hgr.os,hgr.tape,hgr.output,hgr.size,fun k hk=>hgr.block k (by omega) (fun e=>by have:=Option.some.inj e;omega)⟩⟩,aj.of_box hgr⟩
   ·
    show Value.slice _ (n - 1) _=_
    rw [hn];simp
   · simp at h2 ⊢;omega
   ·
    have h6:((t::l).flatMap rT)[4+j]? =some x:=by
     rw [List.flatMap_cons,List.getElem?_append_right (by rw [kj];omega),kj]
     rw [show 4+j - 4=j by omega];exact hx
    have h7:=h5 _ _ h6
    have h8:g≠b:=by omega
    unfold World.cell? at h7 ⊢
    rw [hgr.block g (by omega) (fun e=>h8 (Option.some.inj e))]
    simp only at h7 ⊢
    rw [Nat.add_assoc]
    exact h7
   ·
    refine hgr.block k (Array.getElem?_eq_some_iff.1 hX).1 (fun e=>?_)
    obtain rfl:=Option.some.inj e
    rw [fV] at hX
    injection hX with hX
    injection hX with _ hT _
    exact absurd hT (by decide)
   ·
    refine hgr.block k (Array.getElem?_eq_some_iff.1 hX).1 (fun e=>?_)
    obtain rfl:=Option.some.inj e
    rw [fV] at hX
    injection hX with hX
    injection hX with _ hT _
    rw [←hT] at hy
    exact fp.2.1 hy
theorem bm (W:World) (b B:Nat) (P:Nat→Prop) (v:Value) (s:S) (d:Nat) (h:Rd W b B P v s d):Calls Tryz.prog 54 #[.pointer (some ⟨b,0,none⟩)] W fun r W'=>r=.returned (B9 (nx s))∧aj b v W v W'∧Rd W' b B P v (tk s) d:=by
 obtain ⟨w1,N,gZ,hN,hn,hb,hz⟩:=ei W zTk mK
 have HR:Hid (Rd w1 b B P v s d):=h.below (by rw [hN];exact hb)
 have qa:=Lib.hid gZ
 have HN:=Lib.hid hN
 have vy:=Lib.hid hn
 have HZ:=Lib.hid hz
 have HB:Hid (Below N W w1):=hb
 have HbN:Hid (b < N∧B≤N):=by have:=h.lt;have:=h.bB;show _∧_;omega
 have HR0:=Lib.hid h
 clear h gZ hN hb hn hz
 go_enter Tryz.func54,Tryz.ntmps54
 go_upto_region 1 with fail
 rw [qa.out,HN.out]
 go_wp2_with fail
 refine (a8 w1 b B P v s d HR.out).mono ?_
 rintro r w2 ⟨rfl,hb2⟩
 have gR:=Lib.hid (HR.out.below hb2)
 have dp:Hid (Below N W w2):=HB.out.trans (hb2.mono (by have:=HZ.out;omega))
 have Zci:Hid (w2.heap[N]? =some (.cells zTk mK)):=(hb2.block N (by have:=HZ.out;omega)).trans vy.out
 have oy:Hid (N < w2.heap.size):=Nat.lt_of_lt_of_le (by have:=HZ.out;omega) hb2.size
 obtain ⟨t,ht⟩:∃t,nx s=t:=⟨_,rfl⟩
 rw [ht]
 have HT:=Lib.hid ht
 clear hb2 ht
 unfold B9
 go_upto_region 2 with fail
 obtain ⟨w3,N3,hw3,EM,JZ,hb3,hz3⟩:=ei w2 #[.int .i64 (t.k:Int),.string (str t.t),.string (str t.b),.int .i64 (t.ln:Int)] mK
 rw [hw3,EM]
 have WR:Below w2.heap.size w2 w3:=by rw [EM];exact hb3
 have l4:=Lib.hid (gR.out.below WR)
 have ku:Hid (Below N W w3):=dp.out.trans (hb3.mono (by have:=oy.out;omega))
 have Wo:Hid (w3.heap[N]? =some (.cells zTk mK)):=(WR.block N oy.out).trans Zci.out
 have nb:Hid (N < w3.heap.size∧N3 < w3.heap.size∧N < N3):=by have:=oy.out;show _∧_∧_;omega
 obtain ⟨⟨n0,n1,n2,n3⟩,q0,q1,q2,q3⟩:=gp JZ
 have V5:=Lib.hid JZ
 clear hw3 EM JZ hb3 hz3 WR
 by_cases hk:t.k=4
 ·
  have e1:((t.k:Int)==4)=true:=by simp;omega
  have e2:((t.k:Int) != 4)=false:=by simp;omega
  have e3:decide ((t.k:Int)=4)=true:=by simp;omega
  have HK:Hid (tk s=s):=by show _=_;unfold Sy.tk;rw [HT.out,if_pos hk]
  clear hk
  go_upto_region 4 with fail
  obtain ⟨⟨m0,m1,m2,m3⟩,r0,r1,r2,r3⟩:=gp Wo.out
  go_wp2_with fail
  obtain ⟨w5,rF,h5,Xd,_⟩:=P3 w3 N mK (.int .i64 (t.k:Int)) (.string (str t.t)) (.string (str t.b)) (.int .i64 (t.ln:Int)) _ _ _ _ Wo.out
  rw [rF]
  have ll:Below W.heap.size W w5:=by have:=nb.out;rw [HN.out];exact uZ ku.out Xd (by omega)
  have Ch:Rd w5 b B P v s d:=HR0.out.below ll
  obtain ⟨⟨y0,y1,y2,y3⟩,_⟩:=gp h5
  refine bodyPost_ret (v:=B9 t) (by simp [results,Tryz.results54,go_sem,y0,y1,y2,y3,B9]) rfl ?_
  rw [HK.out,HT.out]
  exact ⟨rfl,aj.of_below ll,Ch⟩
 ·
  have e1:((t.k:Int)==4)=false:=by simp;omega
  have e2:((t.k:Int) != 4)=true:=by simp;omega
  have e3:decide ((t.k:Int)=4)=false:=by simp;omega
  have yY:(nx s).k≠4:=by rw [HT.out];exact hk
  clear hk
  obtain ⟨g,o,c,n,bO,vz,hle,hcm,fV,hat⟩:=l4.out.head
  obtain ⟨h2n,hrt⟩:=l4.out.took yY bO fV
  have HRT:=Lib.hid hrt
  have XS:=fun w'=>Y7 (g:=g) (o:=o) (n:=n) (c:=c) h2n hle w'
  obtain ⟨⟨c0,c1,c2⟩,f0,f1,f2⟩:=fC fV
  clear bO hat yY hrt fV
  go_upto_region 4 with fail
  obtain ⟨w4,hw4⟩:∃w4,w3.setCell ⟨b,1,none⟩ (.slice (some ⟨g,o+4,none⟩) (n - 1) (c - 1))=w4:=⟨_,rfl⟩
  rw [hw4] at HRT ⊢
  have hg4:w3.grownBy w4 (some b):=by rw [←hw4];exact Sl.aq b [_] 1 w3
  have Li:b≠N∧b≠N3:=by have:=HbN.out;have:=nb.out;omega
  have hN4:=(hg4.block N nb.out.1 (fun e=>Li.1 (Option.some.inj e).symm)).trans Wo.out
  have hC4:=(hg4.block N3 nb.out.2.1 (fun e=>Li.2 (Option.some.inj e).symm)).trans V5.out
  obtain ⟨⟨m0,m1,m2,m3⟩,r0,r1,r2,r3⟩:=gp hN4
  obtain ⟨⟨x0,x1,x2,x3⟩,_⟩:=gp hC4
  clear c0 c1 c2 f0 f1 f2 n0 n1 n2 n3 q0 q1 q2 q3 hw4 XS
  go_wp2_with fail
  obtain ⟨w5,rF,h5,Xd,_⟩:=P3 w4 N mK (.int .i64 (t.k:Int)) (.string (str t.t)) (.string (str t.b)) (.int .i64 (t.ln:Int)) _ _ _ _ hN4
  rw [rF]
  have Ch:Rd w5 b B P v (tk s) d:=HRT.out.1.turn Xd (fun g e hlt=>by
   obtain rfl:=Option.some.inj e
   refine ⟨HbN.out.2,fun e=>Li.1 e.symm,HRT.out.1.fg hN4 (by decide),fun _ X t hX hT=>?_⟩
   rw [hN4] at hX
   injection hX with hX
   injection hX with _ PA _
   rw [←PA] at hT
   exact fp.2.2 hT)
  have ES:aj b v W v w5:=by
   refine aj.grown (o:=some N) ((aj.of_below ?_).trans HRT.out.2) Xd (fun g e=>by obtain rfl:=Option.some.inj e;rw [HN.out];exact Nat.le_refl _)
   rw [HN.out];exact ku.out
  obtain ⟨⟨y0,y1,y2,y3⟩,_⟩:=gp h5
  refine bodyPost_ret (v:=B9 t) (by simp [results,Tryz.results54,go_sem,y0,y1,y2,y3,B9]) rfl ?_
  rw [HT.out]
  exact ⟨rfl,ES,Ch⟩
theorem Ou {g o n c:Nat} (j:Nat) (hj:j < n) (kd:IntKind) (w':World):(Instr.indexAt 33 (.slice (some ⟨g,o,none⟩) n c) (.int kd (j:Int))).run Tryz.prog w'=.ok (.pointer (some ⟨g,o+j,none⟩)) w':=by
 obtain ⟨i,hi,_,hs,_⟩:=info_parts pS
 have he:Tryz.prog.elem 33=eZ:=by simp [Program.elem,Tryz.underlying33]
 rw [run_indexAt_slice w' 33 _ n c kd j (by rw [he];exact Tryz.underlying33),if_pos ⟨by omega,by omega⟩,he]
 simp [sizeOf,typeInfo,hi,hs,Result.andThen,Addr.add_lit]
def iOf (v:Value):Nat:=match v with | .int _ z=>z.toNat | _=>0
def sgn (k:Int) (z:Bool):Prop:=decide (0≤k)=z
theorem Dl (W:World) (g o c:Nat) (ls:List Nm) (hcs:∀j (hj:j < ls.length),W.cell? ⟨g,o+j,none⟩=some (.string (str ls[j]))) (hl:ls.length≤1000) (x:Nm):
 Calls Tryz.prog 95 #[.slice (some ⟨g,o,none⟩) ls.length c,.string (str x)] W fun r W'=>W'=W∧∃k:Int,r=.returned (.int .i64 k)∧sgn k (ls.contains x):=by
 have HC:Hid (∀j (hj:j < ls.length),W.cell? ⟨g,o+j,none⟩=some (.string (str ls[j]))):=hcs
 obtain ⟨n,hn⟩:∃n,ls.length=n:=⟨_,rfl⟩
 have HN:=Lib.hid hn
 have uz:n≤1000:=by omega
 obtain ⟨z,hz⟩:∃z,ls.contains x=z:=⟨_,rfl⟩
 have HZ:=Lib.hid hz
 clear hcs hl
 rw [hn,hz]
 clear hn hz
 go_enter Tryz.func95,Tryz.ntmps95
 go_wp2_with fail
 go_loopw [8] (fun v8 wr=>∃i:Nat,i≤n∧v8=.int .i64 (i:Int)∧wr=W∧∀j (hj:j < ls.length),j < i→ls[j]≠x) (fun v8 _=>n - iOf v8)
 case atStart=>exact ⟨0,Nat.zero_le _,rfl,rfl,fun j _ hj=>absurd hj (Nat.not_lt_zero _)⟩
 case round=>
  obtain ⟨i,hi,rfl,hwr,hall⟩:=hrel
  have Cc:=Lib.hid hall
  clear hall
  have Ur:=hwr.symm
  subst Ur
  clear hwr
  by_cases kG:i < n
  case neg=>
   obtain rfl:i=n:=by omega
   have HF:Hid (sgn (-1) z):=by
    show decide (0≤(-1:Int))=_
    rw [←HZ.out]
    rw [show decide (0≤(-1:Int))=false from rfl]
    cases hc:ls.contains x with
    | false=>rfl
    | true=>
      obtain ⟨j,hj,e⟩:=List.getElem_of_mem (List.contains_iff_mem.1 hc)
      exact absurd e (Cc.out j hj (by have:=HN.out;omega))
   have a3:decide (i < i)=false:=decide_eq_false (by omega)
   have a1:decide ((i:Int) < (i:Int))=false:=decide_eq_false (by omega)
   have a2:¬((i:Int) < (i:Int)):=by omega
   go_wp2_with fail
   go_ret
   exact ⟨rfl,_,rfl,HF.out⟩
  have Am:i < ls.length:=by have:=HN.out;omega
  have k0:=HC.out i Am
  have XI:=fun w'=>Ou (g:=g) (o:=o) (n:=n) (c:=c) i kG .i64 w'
  have a3:decide (i < n)=true:=decide_eq_true (by omega)
  have a1:decide ((i:Int) < (n:Int))=true:=decide_eq_true (by omega)
  have a2:(i:Int) < (n:Int):=by omega
  obtain ⟨y,hy⟩:∃y,ls[i]=y:=⟨_,rfl⟩
  rw [hy] at k0
  by_cases he:x=y
  ·
   have HF:Hid (sgn (i:Int) z):=by
    show decide (0≤(i:Int))=_
    rw [←HZ.out]
    rw [decide_eq_true (by omega),he,←hy]
    exact (List.contains_iff_mem.2 (List.getElem_mem Am)).symm
   have t1:((str x).toList==(str y).toList)=true:=by rw [he];simp
   have t3:decide (str x=str y)=true:=by rw [he];simp
   clear he hy Am
   go_wp2_with fail
   go_ret
   exact ⟨rfl,_,rfl,HF.out⟩
  ·
   have hne:str x≠str y:=fun e=>he (str_inj e)
   have t1:((str x).toList==(str y).toList)=false:=by rw [beq_eq_false_iff_ne];exact fun e=>he (by rw [eK,eK] at e;exact e)
   have t3:decide (str x=str y)=false:=decide_eq_false hne
   have Ue:Hid (∀j (hj:j < ls.length),j < i+1→ls[j]≠x):=fun j hj nR=>by
    by_cases e:j=i
    · subst e;rw [hy];exact fun e=>he e.symm
    · exact Cc.out j hj (by omega)
   clear he hy Am hne
   go_wp2_with fail
   go_roundw
   case rel=>exact ⟨i+1,by omega,by go_num,trivial,Ue.out⟩
   case measure=>simp [iOf];omega
theorem iM (W:World) (g o c:Nat) (ls:List Nm) (hcs:∀j (hj:j < ls.length),W.cell? ⟨g,o+j,none⟩=some (.string (str ls[j]))) (hl:ls.length≤1000) (x:Nm):
 Calls Tryz.prog 71 #[.slice (some ⟨g,o,none⟩) ls.length c,.string (str x)] W fun r W'=>W'=W∧r=.returned (.bool (ls.contains x)):=by
 have HC:=Lib.hid (Dl W g o c ls hcs hl x)
 obtain ⟨n,hn⟩:∃n,ls.length=n:=⟨_,rfl⟩
 obtain ⟨z,hz⟩:∃z,ls.contains x=z:=⟨_,rfl⟩
 rw [hn,hz] at HC ⊢
 clear hcs hl hn hz
 go_enter Tryz.func71,Tryz.ntmps71
 go_wp2_with fail
 refine HC.out.mono ?_
 rintro r w2 ⟨rfl,k,rfl,hk⟩
 have HK:=Lib.hid hk
 clear hk
 go_wp2_with fail
 go_ret
 exact ⟨rfl,by rw [←(HK.out:decide (0≤k)=z)];rfl⟩
theorem G8 (W:World) (ls:List Nm):∀j (hj:j < ls.length),(W.alloc (.cells (ls.map sv).toArray eZ)).cell? ⟨W.heap.size,0+j,none⟩=some (.string (str ls[j])):=fun j hj=>by
 have h:=heap_alloc_new W (.cells (ls.map sv).toArray eZ)
 unfold World.cell?
 simp only [h]
 simp [sv,hj]
def isPost (W:World) (z:Bool) (r:Ending) (W':World):Prop:=r=.returned (.bool z)∧Below W.heap.size W W'
theorem MZ (W:World) (b B:Nat) (P:Nat→Prop) (v:Value) (s:S) (d:Nat) (h:Rd W b B P v s d) (k:Nat) (g o c:Nat) (ls:List Nm) (hcs:∀j (hj:j < ls.length),W.cell? ⟨g,o+j,none⟩=some (.string (str ls[j]))) (hl:ls.length≤1000):
 Calls Tryz.prog 53 #[.pointer (some ⟨b,0,none⟩),.int .i64 (k:Int),.slice (some ⟨g,o,none⟩) ls.length c] W (isPost W (aV k ls s)):=by
 have HC:Hid (∀j (hj:j < ls.length),W.cell? ⟨g,o+j,none⟩=some (.string (str ls[j]))):=hcs
 have HX:=Lib.hid (a8 W b B P v s d h)
 obtain ⟨t,ht⟩:∃t,nx s=t:=⟨_,rfl⟩
 have hz:aV k ls s=(decide (t.k=k) && ls.contains t.t):=by unfold aV;rw [ht]
 rw [ht] at HX
 rw [hz]
 obtain ⟨n,hn⟩:∃n,ls.length=n:=⟨_,rfl⟩
 have HL:Hid (ls.length≤1000):=hl
 rw [hn]
 have HN:=Lib.hid hn
 clear hcs hl hn ht hz h
 by_cases hk:t.k=k
 ·
  have e1:((t.k:Int)==(k:Int))=true:=by simp;omega
  have e3:decide ((t.k:Int)=(k:Int))=true:=by simp;omega
  rw [decide_eq_true hk,Bool.true_and]
  clear hk
  go_enter Tryz.func53,Tryz.ntmps53
  go_wp2_with fail
  refine HX.out.mono ?_
  rintro r w2 ⟨rfl,hb2⟩
  have dp:=Lib.hid hb2
  clear hb2
  unfold B9
  go_upto_region 2 with fail
  obtain ⟨w3,N3,hw3,EM,JZ,hb3,hz3⟩:=ei w2 #[.int .i64 (t.k:Int),.string (str t.t),.string (str t.b),.int .i64 (t.ln:Int)] mK
  rw [hw3,EM]
  have ku:Hid (Below W.heap.size W w3):=dp.out.trans (hb3.mono (by have:=dp.out.size;omega))
  obtain ⟨⟨n0,n1,n2,n3⟩,q0,q1,q2,q3⟩:=gp JZ
  clear hw3 EM JZ hb3 hz3
  go_wp2_with fail
  have hc3:=iM w3 g o c ls (fun j hj=>a7 ku.out (Nat.le_refl _) (HC.out j hj)) HL.out t.t
  rw [HN.out] at hc3
  refine hc3.mono ?_
  rintro r w4 ⟨hw4,rfl⟩
  have iE:Hid (Below W.heap.size W w4):=by show Below _ _ _;rw [hw4];exact ku.out
  obtain ⟨z,hz⟩:∃z,ls.contains t.t=z:=⟨_,rfl⟩
  rw [hz]
  have HZ:=Lib.hid hz
  clear hc3 hw4 hz
  go_wp2_with fail
  go_ret
  exact ⟨by rw [HZ.out];rfl,iE.out⟩
 ·
  have e1:((t.k:Int)==(k:Int))=false:=by simp;omega
  have e3:decide ((t.k:Int)=(k:Int))=false:=by simp;omega
  rw [decide_eq_false hk,Bool.false_and]
  clear hk
  go_enter Tryz.func53,Tryz.ntmps53
  go_wp2_with fail
  refine HX.out.mono ?_
  rintro r w2 ⟨rfl,hb2⟩
  have dp:=Lib.hid hb2
  clear hb2
  unfold B9
  go_upto_region 2 with fail
  obtain ⟨w3,N3,hw3,EM,JZ,hb3,hz3⟩:=ei w2 #[.int .i64 (t.k:Int),.string (str t.t),.string (str t.b),.int .i64 (t.ln:Int)] mK
  rw [hw3,EM]
  have ku:Hid (Below W.heap.size W w3):=dp.out.trans (hb3.mono (by have:=dp.out.size;omega))
  obtain ⟨⟨n0,n1,n2,n3⟩,q0,q1,q2,q3⟩:=gp JZ
  clear hw3 EM JZ hb3 hz3
  go_wp2_with fail
  go_ret
  exact ⟨rfl,ku.out⟩
theorem jX (W:World) (b B:Nat) (P:Nat→Prop) (v:Value) (s:S) (d:Nat) (h:Rd W b B P v s d) (k:Nat) (ls:List Nm) (hl:ls.length≤1000):
 Calls Tryz.prog 53 #[.pointer (some ⟨b,0,none⟩),.int .i64 (k:Int),.slice (some ⟨W.heap.size,0,none⟩) ls.length ls.length] (W.alloc (.cells (ls.map sv).toArray eZ)) (isPost W (aV k ls s)):=by
 have hb:=(Below.refl W.heap.size W).alloc (Nat.le_refl _) (.cells (ls.map sv).toArray eZ)
 refine (MZ _ b B P v s d (h.below hb) k W.heap.size 0 ls.length ls (G8 W ls) hl).mono ?_
 rintro r w ⟨rfl,hw⟩
 exact ⟨rfl,hb.trans (hw.mono hb.size)⟩
theorem mH (W:World) (b B:Nat) (P:Nat→Prop) (v:Value) (s:S) (d:Nat) (h:Rd W b B P v s d) (ls:List Nm) (hl:ls.length≤1000):
 Calls Tryz.prog 96 #[.pointer (some ⟨b,0,none⟩),.slice (some ⟨W.heap.size,0,none⟩) ls.length ls.length] (W.alloc (.cells (ls.map sv).toArray eZ)) (isPost W (aV 1 ls s)):=by
 have HC:=Lib.hid (jX W b B P v s d h 1 ls hl)
 obtain ⟨z,hz⟩:∃z,aV 1 ls s=z:=⟨_,rfl⟩
 rw [hz] at HC ⊢
 obtain ⟨w1,gZ⟩:∃w1,W.alloc (.cells (ls.map sv).toArray eZ)=w1:=⟨_,rfl⟩
 rw [gZ] at HC ⊢
 obtain ⟨n,hn⟩:∃n,ls.length=n:=⟨_,rfl⟩
 rw [hn] at HC ⊢
 obtain ⟨m,hm⟩:∃m,W.heap.size=m:=⟨_,rfl⟩
 rw [hm] at HC ⊢
 clear hz gZ hn hm h hl
 go_enter Tryz.func96,Tryz.ntmps96
 go_wp2_with fail
 refine HC.out.mono ?_
 rintro r w2 ⟨rfl,hb⟩
 have HB:=Lib.hid hb
 clear hb
 go_wp2_with fail
 go_ret
 exact ⟨rfl,HB.out⟩
theorem fc (W:World) (b B:Nat) (P:Nat→Prop) (v:Value) (s:S) (d:Nat) (h:Rd W b B P v s d) (k:Nat) (ls:List Nm) (hl:ls.length≤1000):
 Calls Tryz.prog 151 #[.pointer (some ⟨b,0,none⟩),.int .i64 (k:Int),.slice (some ⟨W.heap.size,0,none⟩) ls.length ls.length] (W.alloc (.cells (ls.map sv).toArray eZ)) (Post eU W b B P v d (aP k ls s)):=by
 have HC:=Lib.hid (jX W b B P v s d h k ls hl)
 have HR:=Lib.hid h
 obtain ⟨w1,gZ⟩:∃w1,W.alloc (.cells (ls.map sv).toArray eZ)=w1:=⟨_,rfl⟩
 rw [gZ] at HC ⊢
 obtain ⟨n,hn⟩:∃n,ls.length=n:=⟨_,rfl⟩
 rw [hn] at HC ⊢
 obtain ⟨m,hm⟩:∃m,W.heap.size=m:=⟨_,rfl⟩
 rw [hm] at HC ⊢
 obtain ⟨z,hz⟩:∃z,aV k ls s=z:=⟨_,rfl⟩
 have HX:Hid (aP k ls s=if z=true then .ok ((),tk s) else er 20 s):=by show _=_;unfold aP;rw [hz]
 rw [hz] at HC
 obtain ⟨X,hX⟩:∃X,aP k ls s=X:=⟨_,rfl⟩
 rw [hX] at HX ⊢
 clear hz gZ hn hm h hl hX
 go_enter Tryz.func151,Tryz.ntmps151
 go_wp2_with fail
 refine HC.out.mono ?_
 rintro r w2 ⟨rfl,hb⟩
 have gR:=Lib.hid (HR.out.below hb)
 have dp:=Lib.hid hb
 clear hb
 cases z with
 | false=>
   go_wp2_with fail
   refine (bq w2 b B P v s d gR.out 20).mono ?_
   rintro r w3 ⟨rfl,hb3⟩
   refine ⟨rfl,?_⟩
   rw [show X=er 20 s from HX.out]
   exact ⟨rfl,(dp.out.trans (hb3.mono dp.out.size)).mono HR.out.size⟩
 | true=>
   go_wp2_with fail
   refine (bm w2 b B P v s d gR.out).mono ?_
   rintro r w3 ⟨rfl,gI,hr3⟩
   have HF:Hid (aj b v W v w3∧Rd w3 b B P v (tk s) d):=⟨(aj.of_below dp.out).trans gI,hr3⟩
   clear gI hr3
   unfold B9
   go_wp2_with fail
   refine bodyPost_end (v:=.tuple #[]) (results_none rfl _ _ _) rfl ?_
   rw [show X=.ok ((),tk s) from HX.out]
   exact ⟨_,v,rfl,rfl,HF.out.1,HF.out.2⟩
theorem kW {α:Type} {enc:α→Value→Prop} {W:World} {b B:Nat} {P:Nat→Prop} {v:Value} {d:Nat} {x:Sy.P α} {e:Int} {s:S} {W':World} (hx:x=er e s) (h:Below B W W'):Post enc W b B P v d x (mI e (nx s).ln) W':=by subst hx;exact ⟨rfl,h⟩
theorem fy {α:Type} {enc:α→Value→Prop} {W:World} {b B:Nat} {P:Nat→Prop} {v v':Value} {d:Nat} {x:Sy.P α} {a:α} {s:S} {u:Value} {W':World} (hx:x=.ok (a,s)) (he:enc a u) (ht:aj b v W v' W') (hr:Rd W' b B P v' s d):Post enc W b B P v d x (.returned u) W':=by subst hx;exact ⟨u,v',rfl,he,ht,hr⟩
theorem SJ (k m:Nat):((k:Int)==(m:Int))=decide (k=m):=by
 by_cases h:k=m
 · subst h;simp
 · rw [decide_eq_false h,beq_eq_false_iff_ne];omega
theorem iA (W:World) (b B:Nat) (P:Nat→Prop) (v:Value) (s:S) (d:Nat) (h:Rd W b B P v s d):Calls Tryz.prog 134 #[.pointer (some ⟨b,0,none⟩)] W (Post eS W b B P v d (cC s)):=by
 have HC:=Lib.hid (a8 W b B P v s d h)
 have HR:=Lib.hid h
 obtain ⟨X,hX⟩:∃X,cC s=X:=⟨_,rfl⟩
 have HX:=Lib.hid hX
 rw [hX]
 clear h hX
 obtain ⟨t,ht⟩:∃t,nx s=t:=⟨_,rfl⟩
 have HT:=Lib.hid ht
 rw [ht] at HC
 clear ht
 have F0:=gj t
 have F1:=jC t
 go_enter Tryz.func134,Tryz.ntmps134
 go_wp2_with fail
 refine HC.out.mono ?_
 rintro r w2 ⟨rfl,hb⟩
 have gR:=Lib.hid (HR.out.below hb)
 have dp:=Lib.hid hb
 clear hb
 by_cases hk:t.k=1
 ·
  have e1:((t.k:Int)==1)=true:=by simp;omega
  have e2:((t.k:Int) != 1)=false:=by simp;omega
  have e3:decide ((t.k:Int)=1)=true:=by simp;omega
  have Ed:Hid (X=.ok (t.t,tk s)):=by show _=_;rw [←HX.out];unfold cC;rw [HT.out,if_pos hk]
  clear hk
  go_wp2_with fail
  refine (bm w2 b B P v s d gR.out).mono ?_
  rintro r w3 ⟨rfl,gI,hr3⟩
  rw [show nx s=t from HT.out]
  have HF:Hid (aj b v W v w3∧Rd w3 b B P v (tk s) d):=⟨(aj.of_below dp.out).trans gI,hr3⟩
  clear gI hr3
  go_wp2_with fail
  go_ret
  exact fy Ed.out rfl HF.out.1 HF.out.2
 ·
  have e1:((t.k:Int)==1)=false:=by simp;omega
  have e2:((t.k:Int) != 1)=true:=by simp;omega
  have e3:decide ((t.k:Int)=1)=false:=by simp;omega
  have Ed:Hid (X=er 20 s):=by show _=_;rw [←HX.out];unfold cC;rw [HT.out,if_neg hk]
  clear hk
  go_wp2_with fail
  refine (bq w2 b B P v s d gR.out 20).mono ?_
  rintro r w3 ⟨rfl,hb3⟩
  exact ⟨rfl,kW Ed.out ((dp.out.trans (hb3.mono dp.out.size)).mono HR.out.size)⟩
def kh (w:World) (b:Nat):Nat:=match w.cell? ⟨b,1,none⟩ with | some (.slice _ n _)=>n | _=>0
theorem cB {W:World} {b B:Nat} {P:Nat→Prop} {v:Value} {s:S} {d:Nat} (h:Rd W b B P v s d):kh W b=s.2.length:=by
 obtain ⟨g,o,c,n,hn,_,_,_,fV,_⟩:=h.head
 unfold kh
 rw [(fC fV).1.2.1,hn]
theorem LW {t:Tok} {l:List Tok} (h:t.k≠3):dJ (t::l)=t::l:=by rw [dJ,if_neg h]
theorem Wq {s:S} (h:(nx s).k≠3):bj s=s:=by
 obtain ⟨ns,ts⟩:=s
 cases ts with
 | nil=>rfl
 | cons t l=>have h:t.k≠3:=h;show (ns,dJ (t::l))=_;rw [LW h]
theorem R1 {s:S} (h:(nx s).k=3):bj s=bj (tk s):=by
 obtain ⟨ns,ts⟩:=s
 cases ts with
 | nil=>exact absurd (show (4:Nat)=3 from h) (by decide)
 | cons t l=>
   have h:t.k=3:=h
   have e:tk (ns,t::l)=(ns,l):=by unfold tk;rw [if_neg (by show ¬t.k=4;omega)];rfl
   rw [e]
   show (ns,dJ (t::l))=(ns,dJ l)
   rw [dJ,if_pos h]
theorem cJ (W:World) (b B:Nat) (P:Nat→Prop) (v:Value) (s:S) (d:Nat) (h:Rd W b B P v s d):Calls Tryz.prog 50 #[.pointer (some ⟨b,0,none⟩)] W fun r W'=>r=.returned (.tuple #[])∧aj b v W v W'∧Rd W' b B P v (bj s) d:=by
 have HR:=Lib.hid h
 clear h
 obtain ⟨L,hL⟩:∃L,bj s=L:=⟨_,rfl⟩
 have HL:=Lib.hid hL
 rw [hL]
 clear hL
 go_enter Tryz.func50,Tryz.ntmps50
 go_wp2_with fail
 go_loopw [] (fun wr=>∃s':S,bj s'=L∧Rd wr b B P v s' d∧aj b v W v wr) (fun wr=>kh wr b)
 case atStart=>exact ⟨s,HL.out,HR.out,aj.refl _ _ _⟩
 case round=>
  obtain ⟨s',hl,hr,ht⟩:=hrel
  have vD:=Lib.hid hl
  have gR:=Lib.hid hr
  have fK:=Lib.hid ht
  clear hl hr ht
  obtain ⟨t,ht⟩:∃t,nx s'=t:=⟨_,rfl⟩
  have HT:=Lib.hid ht
  clear ht
  have F0:=gj t
  go_wp2_with fail
  refine (a8 wr b B P v s' d gR.out).mono ?_
  rintro r w2 ⟨rfl,hb⟩
  rw [show nx s'=t from HT.out]
  have l4:=Lib.hid (gR.out.below hb)
  have jf:=Lib.hid (fK.out.trans (aj.of_below hb))
  clear hb
  by_cases hk:t.k=3
  ·
   have e1:((t.k:Int)==3)=true:=by simp;omega
   have e3:decide ((t.k:Int)=3)=true:=by simp;omega
   have uO:(nx s').k=3:=by rw [HT.out];exact hk
   have TX:Hid (bj (tk s')=L):=by show _=_;rw [←R1 uO];exact vD.out
   have ru:Hid ((tk s').2.length < s'.2.length):=eJ (by omega)
   clear hk uO
   go_wp2_with fail
   refine (bm w2 b B P v s' d l4.out).mono ?_
   rintro r w3 ⟨rfl,lK,hr4⟩
   have Im:=Lib.hid hr4
   have PF:=Lib.hid (jf.out.trans lK)
   clear lK hr4
   go_wp2_with fail
   go_roundw
   case rel=>exact ⟨tk s',TX.out,Im.out,PF.out⟩
   case measure=>rw [cB Im.out,cB gR.out];exact ru.out
  ·
   have e1:((t.k:Int)==3)=false:=by simp;omega
   have e3:decide ((t.k:Int)=3)=false:=by simp;omega
   have uO:(nx s').k≠3:=by rw [HT.out];exact hk
   have HF:Hid (Rd w2 b B P v L d):=by show Rd _ _ _ _ _ _ _;rw [←vD.out,Wq uO];exact l4.out
   clear hk uO
   go_wp2_with fail
   refine bodyPost_end (v:=.tuple #[]) (results_none rfl _ _ _) rfl ?_
   exact ⟨rfl,jf.out,HF.out⟩
theorem nY (W:World) (b B:Nat) (P:Nat→Prop) (v:Value) (s:S) (d:Nat) (h:Rd W b B P v s d):Calls Tryz.prog 132 #[.pointer (some ⟨b,0,none⟩)] W (isPost W (aF s)):=by
 have HC:=Lib.hid (a8 W b B P v s d h)
 have HR:=Lib.hid h
 obtain ⟨t,ht⟩:∃t,nx s=t:=⟨_,rfl⟩
 have HT:=Lib.hid ht
 rw [ht] at HC
 obtain ⟨z,hz⟩:∃z,aF s=z:=⟨_,rfl⟩
 have HZ:=Lib.hid hz
 rw [hz]
 clear ht hz h
 have F0:=gj t
 go_enter Tryz.func132,Tryz.ntmps132
 go_wp2_with fail
 refine HC.out.mono ?_
 rintro r w2 ⟨rfl,hb⟩
 have gR:=Lib.hid (HR.out.below hb)
 have dp:=Lib.hid hb
 clear hb
 by_cases hk:t.k=5
 ·
  have e1:((t.k:Int)==5)=true:=by simp;omega
  have e3:decide ((t.k:Int)=5)=true:=by simp;omega
  have HF:Hid (z=true):=by show _=_;rw [←HZ.out];unfold aF;rw [HT.out,decide_eq_true hk];rfl
  clear hk
  go_wp2_with fail
  go_ret
  exact ⟨by rw [HF.out];rfl,dp.out⟩
 ·
  have e1:((t.k:Int)==5)=false:=by simp;omega
  have e3:decide ((t.k:Int)=5)=false:=by simp;omega
  have HF:Hid (aV 2 [[60],[62],[60,60],[62,62]] s=z):=by show _=_;rw [←HZ.out];unfold aF;rw [HT.out,decide_eq_false hk];rfl
  clear hk
  go_wp2_with fail
  refine (jX w2 b B P v s d gR.out 2 [[60],[62],[60,60],[62,62]] (by decide)).mono ?_
  rintro r w3 ⟨rfl,hb3⟩
  rw [show aV 2 [[60],[62],[60,60],[62,62]] s=z from HF.out]
  have ku:=Lib.hid (dp.out.trans (hb3.mono dp.out.size))
  clear hb3
  go_wp2_with fail
  go_ret
  exact ⟨rfl,ku.out⟩
abbrev F7:List Nm:=[[33],[123],[99,97,115,101],[102,111,114],[105,102],[117,110,116,105,108],[119,104,105,108,101]]
abbrev XH:List Nm:=[[40],[60],[62],[60,60],[62,62]]
theorem sO (W:World) (b B:Nat) (P:Nat→Prop) (v:Value) (s:S) (d:Nat) (h:Rd W b B P v s d):Calls Tryz.prog 51 #[.pointer (some ⟨b,0,none⟩)] W (isPost W (begins s)):=by
 have HC:=Lib.hid (a8 W b B P v s d h)
 have HR:=Lib.hid h
 obtain ⟨t,ht⟩:∃t,nx s=t:=⟨_,rfl⟩
 have HT:=Lib.hid ht
 rw [ht] at HC
 obtain ⟨z,hz⟩:∃z,begins s=z:=⟨_,rfl⟩
 have HZ:=Lib.hid hz
 rw [hz]
 clear ht hz h
 go_enter Tryz.func51,Tryz.ntmps51
 go_wp2_with fail
 refine HC.out.mono ?_
 rintro r w2 ⟨rfl,hb⟩
 have dp:=Lib.hid hb
 clear hb
 unfold B9
 go_upto_region 2 with fail
 obtain ⟨w3,N3,hw3,EM,JZ,hb3,hz3⟩:=ei w2 #[.int .i64 (t.k:Int),.string (str t.t),.string (str t.b),.int .i64 (t.ln:Int)] mK
 rw [hw3,EM]
 have ku:Hid (Below W.heap.size W w3):=dp.out.trans (hb3.mono (by have:=dp.out.size;omega))
 have XF:=Lib.hid JZ
 have HG:=Lib.hid (HR.out.below ku.out).gl
 obtain ⟨⟨n0,n1,n2,n3⟩,q0,q1,q2,q3⟩:=gp JZ
 clear hw3 EM JZ hb3 hz3
 by_cases hk:t.k=1
 ·
  have e1:((t.k:Int)==1)=true:=by simp;omega
  have e3:decide ((t.k:Int)=1)=true:=by simp;omega
  have HF:Hid (z=(!mr.contains t.t || F7.contains t.t)):=by show _=_;rw [←HZ.out];unfold begins;rw [HT.out,if_pos hk]
  obtain ⟨g,o,c,hg1,hg2,hg3⟩:=HG.out.res
  have ZaJ:mr.length=15:=rfl
  have OJ:=iM w3 g o c mr hg3 (by decide) t.t
  rw [ZaJ] at OJ hg1
  have HCt:=Lib.hid OJ
  obtain ⟨y,hy⟩:∃y,mr.contains t.t=y:=⟨_,rfl⟩
  rw [hy] at HF HCt
  clear hk hg3 OJ hy
  go_wp2_with fail
  refine HCt.out.mono ?_
  rintro r w4 ⟨hw4,rfl⟩
  obtain rfl:=hw4.symm
  cases y with
  | false=>
    have Qz:Hid (z=true):=by show _=_;rw [HF.out];rfl
    go_wp2_with fail
    go_ret
    exact ⟨by rw [Qz.out];rfl,ku.out⟩
  | true=>
    have A1:=fun o=>Lib.cell?_alloc_some (W:=w3) o n1
    go_wp2_with fail
    have Fx:=G8 w3 F7
    obtain ⟨w5,rF⟩:∃w5,w3.alloc (.cells (F7.map sv).toArray eZ)=w5:=⟨_,rfl⟩
    have ll:Below w3.heap.size w3 w5:=by rw [←rF];exact (Below.refl _ _).alloc (Nat.le_refl _) _
    rw [rF] at Fx
    have OJ:=iM w5 w3.heap.size 0 F7.length F7 Fx (by decide) t.t
    rw [←rF] at OJ
    refine OJ.mono ?_
    rintro r w4 ⟨hw4,rfl⟩
    rw [rF] at hw4
    have jw:Hid (Below W.heap.size W w4):=by show Below _ _ _;rw [hw4];exact ku.out.trans (ll.mono ku.out.size)
    have Qz:Hid (F7.contains t.t=z):=by show _=_;rw [HF.out];rfl
    rw [show F7.contains t.t=z from Qz.out]
    clear rF ll Fx OJ hw4 hg1 n0 n1 n2 n3 q0 q1 q2 q3
    go_wp2_with fail
    go_ret
    exact ⟨rfl,jw.out⟩
 ·
  have e1:((t.k:Int)==1)=false:=by simp;omega
  have e3:decide ((t.k:Int)=1)=false:=by simp;omega
  by_cases hk2:t.k=2
  ·
   have e4:((t.k:Int)==2)=true:=by simp;omega
   have e6:decide ((t.k:Int)=2)=true:=by simp;omega
   have HF:Hid (z=XH.contains t.t):=by show _=_;rw [←HZ.out];unfold begins;rw [HT.out,if_neg hk,if_pos hk2]
   clear hk hk2
   have A1:=fun o=>Lib.cell?_alloc_some (W:=w3) o n1
   go_wp2_with fail
   have Fx:=G8 w3 XH
   obtain ⟨w5,rF⟩:∃w5,w3.alloc (.cells (XH.map sv).toArray eZ)=w5:=⟨_,rfl⟩
   have ll:Below w3.heap.size w3 w5:=by rw [←rF];exact (Below.refl _ _).alloc (Nat.le_refl _) _
   rw [rF] at Fx
   have OJ:=iM w5 w3.heap.size 0 XH.length XH Fx (by decide) t.t
   rw [←rF] at OJ
   refine OJ.mono ?_
   rintro r w4 ⟨hw4,rfl⟩
   rw [rF] at hw4
   have jw:Hid (Below W.heap.size W w4):=by show Below _ _ _;rw [hw4];exact ku.out.trans (ll.mono ku.out.size)
   rw [show XH.contains t.t=z from HF.out.symm]
   clear rF ll Fx OJ hw4 n0 n1 n2 n3 q0 q1 q2 q3
   go_wp2_with fail
   go_ret
   exact ⟨rfl,jw.out⟩
  ·
   have e4:((t.k:Int)==2)=false:=by simp;omega
   have e6:decide ((t.k:Int)=2)=false:=by simp;omega
   have HF:Hid (z=decide (t.k=5)):=by show _=_;rw [←HZ.out];unfold begins;rw [HT.out,if_neg hk,if_neg hk2]
   clear hk hk2
   by_cases UA:t.k=5
   ·
    have e7:((t.k:Int)==5)=true:=by simp;omega
    have e9:decide ((t.k:Int)=5)=true:=by simp;omega
    have Qz:Hid (z=true):=by show _=_;rw [HF.out,decide_eq_true UA]
    clear UA
    go_wp2_with fail
    go_ret
    exact ⟨by rw [Qz.out];rfl,ku.out⟩
   ·
    have e7:((t.k:Int)==5)=false:=by simp;omega
    have e9:decide ((t.k:Int)=5)=false:=by simp;omega
    have Qz:Hid (z=false):=by show _=_;rw [HF.out,decide_eq_false UA]
    clear UA
    go_wp2_with fail
    go_ret
    exact ⟨by rw [Qz.out];rfl,ku.out⟩
end Go.Proofs.YtiklkhbfilbpeaaGreatDoor.Sx
