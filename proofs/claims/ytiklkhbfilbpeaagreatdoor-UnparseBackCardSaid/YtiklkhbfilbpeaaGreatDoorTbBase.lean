import Derived.WalkKit
import Derived.ProofKit
import Derived.ShutString
import Derived.Handy
import Derived.Lib.Hide
import Derived.Lib.SlBytesConst
set_option maxRecDepth 100000
set_option maxHeartbeats 16000000
set_option linter.unusedVariables false
set_option linter.unusedSimpArgs false
namespace Go.Proofs.YtiklkhbfilbpeaaGreatDoor.Base
open Go.RowKit
def mJ {α:Type} (R:World→Nat→Nat→α→Prop) (size:Nat) (w:World) (a:Option Addr) (n cap:Nat) (l:List α):Prop:=
 n=l.length∧n≤cap∧cap≤maxLen∧∃b off,(n=0∨a=some ⟨b,off,none⟩)∧∀k (h:k < l.length),R w b (off+k * size) l[k]
def FR {α:Type} (R:World→Nat→Nat→α→Prop):Prop:=∀w w' b o x,Below w.heap.size w w'→R w b o x→R w' b o x
def F2 (w:World) (b o:Nat) (c:UInt8):Prop:=w.cell? ⟨b,o,none⟩=some (.int .u8 (c.toNat:Int))
abbrev Bytes:=mJ F2 1
theorem a7 {w w':World} {B b o:Nat} {v:Value} (hb:Below B w w') (hB:w.heap.size≤B) (h:w.cell? ⟨b,o,none⟩=some v):w'.cell? ⟨b,o,none⟩=some v:=by
 have hlt:b < w.heap.size:=World.block_lt_of_cell? w _ h
 rw [hb.cell (p:=⟨b,o,none⟩) (by simp;omega)];exact h
theorem mJ.below {α:Type} {R:World→Nat→Nat→α→Prop} (hR:FR R) {size:Nat} {w w':World} {a:Option Addr} {n cap:Nat} {l:List α}
 (h:mJ R size w a n cap l) (hb:Below w.heap.size w w'):mJ R size w' a n cap l:=by
 obtain ⟨h1,h2,h3,b,off,h4,h5⟩:=h
 exact ⟨h1,h2,h3,b,off,h4,fun k hk=>hR w w' _ _ _ hb (h5 k hk)⟩
theorem mJ.at {α:Type} {P:Program} {R:World→Nat→Nat→α→Prop} {size:Nat} {w:World} {a:Option Addr} {n cap:Nat} {l:List α}
 (h:mJ R size w a n cap l):∃b off,(∀k (hk:k < l.length),R w b (off+k * size) l[k])∧
  ∀(t e:TypeId) (i:TypeInfo),P.underlying t=some (.slice e)→P.info? e=some i→i.size=size→∀(kd:IntKind) (k:Nat) (w':World),k < n→
   (Instr.indexAt t (.slice a n cap) (.int kd (k:Int))).run P w'=.ok (.pointer (some ⟨b,off+k * size,none⟩)) w':=by
 obtain ⟨h1,h2,h3,b,off,h4,h5⟩:=h
 refine ⟨b,off,h5,fun t e i ht hi hs kd k w' hk=>?_⟩
 rcases h4 with h4 | h4
 · omega
 ·
  subst h4
  have he:P.elem t=e:=by simp [Program.elem,ht]
  rw [run_indexAt_slice w' t _ n cap kd k (by rw [he];exact ht),if_pos ⟨by omega,by omega⟩,he]
  simp [sizeOf,typeInfo,hi,hs,Result.andThen,Addr.add_lit]
theorem mJ.sub {α:Type} {P:Program} {R:World→Nat→Nat→α→Prop} {size:Nat} {w:World} {a:Option Addr} {n cap:Nat} {l:List α}
 (h:mJ R size w a n cap l) (lo hi:Nat) (Lz:lo≤hi) (hhi:hi≤n):
 ∃a':Option Addr,mJ R size w a' (hi - lo) (cap - lo) ((l.take hi).drop lo)∧
  ∀(t e:TypeId) (i:TypeInfo),P.underlying t=some (.slice e)→P.info? e=some i→i.size=size→∀w':World,
   (∀(k1 k2:IntKind),(Instr.slice t (.slice a n cap) (some (.int k1 (lo:Int))) (some (.int k2 (hi:Int))) none).run P w'=.ok (.slice a' (hi - lo) (cap - lo)) w')∧
   (lo=0→∀(k2:IntKind),(Instr.slice t (.slice a n cap) none (some (.int k2 (hi:Int))) none).run P w'=.ok (.slice a' (hi - lo) (cap - lo)) w')∧
   (hi=n→∀(k1:IntKind),(Instr.slice t (.slice a n cap) (some (.int k1 (lo:Int))) none none).run P w'=.ok (.slice a' (hi - lo) (cap - lo)) w'):=by
 obtain ⟨h1,h2,h3,b,off,h4,h5⟩:=h
 refine ⟨if cap=lo then a else a.map (·.add (lo * size)),⟨by simp;omega,by omega,by omega,b,off+lo * size,?_,?_⟩,?_⟩
 ·
  rcases h4 with h4 | h4
  · exact .inl (by omega)
  ·
   by_cases hc:cap=lo
   · exact .inl (by omega)
   · right;simp [hc,h4,Addr.add_lit]
 ·
  intro k hk
  have uO:lo+k < l.length:=by simp at hk;omega
  have:=h5 (lo+k) uO
  simp only [List.getElem_drop,List.getElem_take]
  have e:off+lo * size+k * size=off+(lo+k) * size:=by rw [Nat.add_mul,Nat.add_assoc]
  rw [e];exact this
 ·
  intro t e i ht hi' hs w'
  have he:P.elem t=e:=by simp [Program.elem,ht]
  have WC:P.underlying t=some (.slice (P.elem t)):=by rw [he];exact ht
  have hsz:(sizeOf e).run P w'=.ok size w':=by simp [sizeOf,typeInfo,hi',hs]
  refine ⟨fun k1 k2=>?_,fun h0 k2=>?_,fun hn k1=>?_⟩
  ·
   rw [run_slice_lh w' t a n cap WC k1 k2 lo hi (by omega) (by omega) (by omega),he,hsz]
   simp [Result.andThen,sliced]
  ·
   subst h0
   rw [run_slice_h w' t a n cap WC k2 hi (by omega) (by omega),he,hsz]
   simp [Result.andThen,sliced]
  ·
   subst hn
   rw [run_slice_l w' t a hi cap WC k1 lo (by omega) (by omega),he,hsz]
   simp [Result.andThen,sliced]
def Src (P:Program) (w:World) (size:Nat) (x:Value) (m:Nat) (news:List Value):Prop:=
 news.length=m * size∧(∀u∈news,u.oneCell'=true)∧
 ∀w':World,w'.heap=w.heap→(Builtin.lenOf x).run P w'=.ok m w'∧(Builtin.firstCells size m x).run P w'=.ok news.toArray w'
theorem cP {P:Program} {w:World} {size:Nat} {a:Option Addr} {m cap:Nat} {news:List Value} (hl:news.length=m * size) (h1:∀u∈news,u.oneCell'=true)
 {b off:Nat} (ha:m=0∨a=some ⟨b,off,none⟩) (hc:∀j u,news[j]? =some u→w.cell? ⟨b,off+j,none⟩=some u):Src P w size (.slice a m cap) m news:=by
 refine ⟨hl,h1,fun w' hh=>⟨by simp [Builtin.lenOf],?_⟩⟩
 have hcell:∀p,w'.cell? p=w.cell? p:=fun p=>by simp [World.cell?,hh]
 rcases ha with ha | ha
 ·
  subst ha
  have:news=[]:=List.eq_nil_of_length_eq_zero (by simpa using hl)
  subst this
  cases a with
  | none=>simp [Builtin.firstCells]
  | some ad=>exact run_firstCells_some (P:=P) w' size 0 ad 0 cap [] (by simp) (by intro j v hj;simp at hj)
 ·
  subst ha
  exact run_firstCells_some (P:=P) w' size m _ m cap news hl (fun j v hj=>by rw [Addr.add_lit,hcell];exact hc j v hj)
theorem Jb {α:Type} {P:Program} {R:World→Nat→Nat→α→Prop} {w:World} {a:Option Addr} {n cap:Nat} {l:List α} (h:mJ R 1 w a n cap l)
 (f:α→Value) (hf:∀x,(f x).oneCell'=true) (hR:∀b o x,R w b o x→w.cell? ⟨b,o,none⟩=some (f x)):Src P w 1 (.slice a n cap) n (l.map f):=by
 obtain ⟨h1,h2,h3,b,off,h4,h5⟩:=h
 refine cP (by simp [h1]) (by intro u hu;obtain ⟨x,_,rfl⟩:=List.mem_map.1 hu;exact hf x) h4 ?_
 intro j u hu
 rw [List.getElem?_map] at hu
 obtain ⟨x,hx,rfl⟩:=Option.map_eq_some_iff.1 hu
 obtain ⟨hj,rfl⟩:=List.getElem?_eq_some_iff.1 hx
 have:=hR _ _ _ (h5 j hj)
 simpa using this
def bv (c:UInt8):Value:=.int .u8 (c.toNat:Int)
theorem FY {P:Program} {w:World} (s:ByteArray):Src P w 1 (.string s) s.size (s.data.toList.map bv):=by
 refine ⟨by rw [List.length_map,Nat.mul_one];rfl,by intro u hu;obtain ⟨x,_,rfl⟩:=List.mem_map.1 hu;rfl,fun w' _=>⟨by simp [Builtin.lenOf],?_⟩⟩
 simp only [Builtin.firstCells]
 have e:s.extract 0 s.size=s:=by simp
 rw [e]
 show Result.ok _ _=_
 congr 1
 apply Array.ext'
 rw [Array.toList_map]
 rfl
theorem vC {P:Program} (w:World) (cs:List Value) (e:TypeId) (size m:Nat) (hl:cs.length=m * size) (h1:∀u∈cs,u.oneCell'=true) (cap:Nat):
 Src P (w.alloc (.cells cs.toArray e)) size (.slice (some ⟨w.heap.size,0,none⟩) m cap) m cs:=by
 refine cP (b:=w.heap.size) (off:=0) hl h1 (.inr rfl) ?_
 intro j u hu
 have hh:(w.alloc (.cells cs.toArray e)).heap[w.heap.size]? =some (.cells cs.toArray e):=heap_alloc_new w _
 unfold World.cell?
 simp only [hh,Nat.zero_add]
 simpa using hu
theorem wZ {P:Program} (w:World) (base:Nat) (t u ty e:TypeId) (i:TypeInfo) (z:Value) (size bytes:Nat) (ht:P.underlying t=some (.slice e))
 (hu:∃d,P.underlying u=some d∧∀k,d≠.int k) (hi:P.info? e=some i) (hz:i.zero=some z)
 (hsize:i.size=size) (hby:i.bytes=bytes) (hzs:z.cells.size=size) (hsz:0 < size) (hbp:0 < bytes)
 (v:Value) (n:Nat) (xs:List Value) (hown:w.ownsRow base e size v n xs)
 (x:Value) (m:Nat) (news:List Value) (hx:Src P w size x m news)
 (h63:n+m≤maxLen) (hbytes:(n+m) * bytes≤140737488355328) (hbase:base≤w.heap.size):
 ∃v' w',(Builtin.append_ #[t,u] ty #[v,x]).run P w=.ok v' w'∧w'.ownsRow base e size v' (n+m) (xs++news)∧w.grownBy w' v.ownBlock∧
  (v'=.slice none 0 0↔v=.slice none 0 0∧m=0):=by
 subst hsize
 subst hby
 obtain ⟨hl,h1,sZ⟩:=hx
 obtain ⟨rK,hf0⟩:=sZ w rfl
 obtain ⟨Y4,Yn⟩:=sZ w.drew rfl
 obtain ⟨d,Sr,hdk⟩:=hu
 have Uh:n+m≤9223372036854775807:=by simp only [maxLen] at h63;omega
 have hlen:(xs++news).length=(n+m) * i.size:=by rw [List.length_append,hown.1,hl,Nat.add_mul]
 have grown:∀(old:Nat),old < n+m→∀(row:Option Nat),
  (w.drew.alloc (.cells (xs.toArray++news.toArray++Builtin.zeroCells z.cells (grownCap w (n+m) old e - (n+m))) e)).ownsRow base e i.size
   (.slice (some ⟨w.heap.size,0,none⟩) (n+m) (grownCap w (n+m) old e)) (n+m) (xs++news)∧
  w.grownBy (w.drew.alloc (.cells (xs.toArray++news.toArray++Builtin.zeroCells z.cells (grownCap w (n+m) old e - (n+m))) e)) row:=by
  intro old ho row
  have hge:=grownCap_ge w (n+m) old e
  have hcm:grownCap w (n+m) old e≤maxLen:=grownCap_le_maxLen w (n+m) old e h63
  refine ⟨⟨hlen,.inr ⟨w.heap.size,_,_,rfl,hbase,heap_alloc_new w.drew _,hge,hcm,?_,?_⟩⟩,⟨rfl,rfl,rfl,by simp,fun k hk _=>Below.heap_alloc w.drew _ k hk⟩⟩
  ·
   simp only [Array.size_append,List.size_toArray,size_zeroCells,hzs,hown.1,hl,←Nat.add_mul]
   congr 1
   omega
  ·
   simp only [Array.toList_append,List.append_assoc]
   rw [←List.append_assoc,←hlen]
   exact List.take_left
 rcases hown.2 with ⟨rfl,rfl⟩ | ⟨g,cap,cur,rfl,hbg,hg,Ey,hcm,hcs,DZ⟩
 ·
  have Xh:xs=[]:=List.eq_nil_of_length_eq_zero (by simpa using hown.1)
  subst Xh
  by_cases hm:m=0
  ·
   subst hm
   have hn:news=[]:=List.eq_nil_of_length_eq_zero (by simpa using hl)
   subst hn
   refine ⟨.slice none 0 0,w,?_,World.ownsRow_nil w base e i.size,⟨rfl,rfl,rfl,Nat.le_refl _,fun _ _ _=>rfl⟩,by simp⟩
   simp [Builtin.append_,run_underlying ht,run_underlying Sr,sizeOf,typeInfo,hi,rK,hf0]
  ·
   have hgr:=grown 0 (by omega) (Value.ownBlock (.slice none 0 0))
   simp only [Nat.zero_add,List.nil_append,Array.empty_append] at hgr ⊢
   refine ⟨_,_,?_,hgr.1,hgr.2,by simp [hm]⟩
   have Ul:¬(9223372036854775807 < (m:Int)):=by omega
   have Hg:¬(281474976710656 < Builtin.nextslicecap m 0 * i.bytes):=by
    rw [nextslicecap_zero (by omega)]
    simp only [Nat.zero_add] at hbytes
    omega
   have FU:i.bytes≠0:=by omega
   simp [Builtin.append_,run_underlying ht,run_underlying Sr,sizeOf,typeInfo,zeroValue,hi,hz,rK,hm,Hg,FU,Question.forced,Yn,newRow,grownCap,run_firstCells_none]
 ·
  by_cases hroom:n+m≤cap
  ·
   have VM:n * i.size+news.length≤cur.size:=by rw [hl,hcs,←Nat.add_mul];exact Nat.mul_le_mul_right _ hroom
   have hst:=run_storeCells_at P g (n * i.size) e news 0 cur w hg (by simpa using VM) h1
   simp only [Nat.add_zero] at hst
   refine ⟨.slice (some ⟨g,0,none⟩) (n+m) cap,w.setRow g (cur.toList.take (n * i.size)++news++cur.toList.drop (n * i.size+news.length)).toArray,?_,⟨hlen,.inr ⟨g,cap,_,rfl,hbg,setRow_heap w g cur _ e _ hg,hroom,hcm,?_,?_⟩⟩,⟨rfl,rfl,rfl,by simp,fun k _ hk=>setRow_other w g k _ (fun e=>hk (by simp [Value.ownBlock,e]))⟩,by simp⟩
   · simp [Builtin.append_,run_underlying ht,run_underlying Sr,sizeOf,typeInfo,hi,rK,hroom,hf0,Addr.add_lit,hst]
   ·
    simp only [List.size_toArray,List.length_append,List.length_take,List.length_drop,Array.length_toList]
    omega
   ·
    rw [DZ,←hlen]
    exact List.take_left
  ·
   have holds:∀j u,xs[j]? =some u→w.drew.cell? ((⟨g,0,none⟩:Addr).add j)=some u:=by
    intro j u hu
    have:=hown.cells (g:=g) rfl j u hu
    simpa using this
   have hfo:=run_firstCells_some (P:=P) w.drew i.size n ⟨g,0,none⟩ n cap xs hown.1 holds
   have hgr:=grown cap (by omega) (Value.ownBlock (.slice (some ⟨g,0,none⟩) n cap))
   refine ⟨_,_,?_,hgr.1,hgr.2,by simp⟩
   have Ul:¬(9223372036854775807 < ((n:Int)+(m:Int))):=by omega
   have Hg:¬(281474976710656 < Builtin.nextslicecap (n+m) cap * i.bytes):=by
    have:=growslice_fits (need:=n+m) (old:=cap) (by omega) hbytes
    omega
   have FU:i.bytes≠0:=by omega
   simp [Builtin.append_,run_underlying ht,run_underlying Sr,sizeOf,typeInfo,zeroValue,hi,hz,rK,hroom,Hg,FU,Question.forced,Yn,hfo,newRow,grownCap]
   congr 2
   apply Array.ext'
   simp [List.append_assoc]
theorem eI {P:Program} {w:World} {ops:Array Oper} {rest:List Oper} {o:Oper} {a:Act} {Q:Exit→Act→World→Prop} (hgd:o.guard=none) (s x:Operand) (t u:TypeId)
 (ho:o.op=.call { callee:=.builtin .append,args:=#[s,x],argTypes:=#[t,u] })
 (base:Nat) (e:TypeId) (i:TypeInfo) (z:Value) (size bytes:Nat) (ht:P.underlying t=some (.slice e)) (hu:∃d,P.underlying u=some d∧∀k,d≠.int k)
 (hi:P.info? e=some i) (hz:i.zero=some z)
 (hsize:i.size=size) (hby:i.bytes=bytes) (hzs:z.cells.size=size) (hsz:0 < size) (hbp:0 < bytes)
 (v:Value) (n:Nat) (xs:List Value) (hs:a.eval s=v) (hown:w.ownsRow base e size v n xs)
 (y:Value) (m:Nat) (news:List Value) (hy:a.eval x=y) (hx:Src P w size y m news)
 (h63:n+m≤maxLen) (hbytes:(n+m) * bytes≤140737488355328) (hbase:base≤w.heap.size)
 (h:∀v' w',w'.ownsRow base e size v' (n+m) (xs++news)→w.grownBy w' v.ownBlock→(v'=.slice none 0 0↔v=.slice none 0 0∧m=0)→wpList P ops Q rest (a.put o.dst v') w'):wpList P ops Q (o::rest) a w:=by
 refine wpList_plain hgd fun K hK=>?_
 obtain ⟨v',w',hr,h2,h3,h4⟩:=wZ (P:=P) w base t u o.type e i z size bytes ht hu hi hz hsize hby hzs hsz hbp v n xs hown y m news hx h63 hbytes hbase
 unfold Oper.wp execOp
 simp only [ho,resolve,invoke,builtin,Sem.run_bind,Sem.run_pure,Result.andThen_ok,List.map_toArray,List.map_cons,List.map_nil,hs,hy,hr]
 exact hK _ _ (h v' w' h2 h3 h4)
theorem aA {w:World} {base:Nat} {e:TypeId} {size:Nat} {v:Value} {n:Nat} {xs:List Value} (h:w.ownsRow base e size v n xs):
 ∃(a:Option Addr) (cap:Nat),v=.slice a n cap∧n≤cap∧cap≤maxLen∧(∀ad,a=some ad→ad.off=0∧ad.spot=none∧base≤ad.block∧ad.block < w.heap.size)∧∃b,(n=0∨a=some ⟨b,0,none⟩)∧∀j u,xs[j]? =some u→w.cell? ⟨b,j,none⟩=some u:=by
 rcases h.2 with ⟨rfl,rfl⟩ | ⟨g,cap,cur,rfl,hb,hg,Ey,hcm,hcs,DZ⟩
 ·
  have:xs=[]:=List.eq_nil_of_length_eq_zero (by simpa using h.1)
  subst this
  exact ⟨none,0,rfl,Nat.le_refl _,Nat.zero_le _,by simp,0,.inl rfl,by simp⟩
 ·
  refine ⟨_,cap,rfl,Ey,hcm,?_,g,.inr rfl,?_⟩
  ·
   intro ad had
   simp at had
   subst had
   exact ⟨rfl,rfl,hb,(Array.getElem?_eq_some_iff.1 hg).1⟩
  ·
   intro j u hu
   have:=h.cells (g:=g) rfl j u hu
   rwa [Addr.add_lit,Nat.zero_add] at this
theorem iC {α:Type} {R:World→Nat→Nat→α→Prop} {w:World} {base:Nat} {e:TypeId} {v:Value} {n:Nat} {l:List α} {f:α→Value}
 (h:w.ownsRow base e 1 v n (l.map f)) (hR:∀b o x,w.cell? ⟨b,o,none⟩=some (f x)→R w b o x):∃a cap,v=.slice a n cap∧mJ R 1 w a n cap l:=by
 have hl:=h.1
 obtain ⟨a,cap,rfl,h1,h2,h3,b,h4,h5⟩:=aA h
 refine ⟨a,cap,rfl,by simpa using hl.symm,h1,h2,b,0,h4,fun k hk=>hR _ _ _ ?_⟩
 have:=h5 k (f l[k]) (by simp [hk])
 simpa using this
theorem qG {w:World} {base:Nat} {e:TypeId} {v:Value} {n:Nat} {l:List UInt8} (h:w.ownsRow base e 1 v n (l.map bv)):∃a cap,v=.slice a n cap∧Bytes w a n cap l:=
 iC h (fun _ _ _ hx=>hx)
theorem bz {w w':World} {base:Nat} {e:TypeId} {size:Nat} {v:Value} {n:Nat} {xs:List Value} (h:w.ownsRow base e size v n xs) (hb:Below w.heap.size w w'):w'.ownsRow base e size v n xs:=
 h.kept (row:=none) ⟨hb.os,hb.tape,hb.output,hb.size,fun k hk _=>hb.block k hk⟩ (by cases hv:v.ownBlock<;>simp)
theorem sM {w:World} {base base':Nat} {e:TypeId} {size:Nat} {v:Value} {n:Nat} {xs:List Value} (h:w.ownsRow base e size v n xs) (hb:base'≤base):w.ownsRow base' e size v n xs:=by
 refine ⟨h.1,?_⟩
 rcases h.2 with h' | ⟨g,cap,cur,hv,hg,r⟩
 · exact .inl h'
 · exact .inr ⟨g,cap,cur,hv,Nat.le_trans hb hg,r⟩
def str (l:List UInt8):ByteArray:=⟨l.toArray⟩
theorem mZ (l:List UInt8):(str l).data.toList=l:=rfl
theorem aU (l:List UInt8):(str l).size=l.length:=rfl
theorem str_inj {l m:List UInt8} (h:str l=str m):l=m:=by
 have:=congrArg (fun s:ByteArray=>s.data.toList) h
 simpa [str] using this
theorem tG {P:Program} {w:World} {a:Option Addr} {n cap:Nat} {l:List UInt8} (h:Bytes w a n cap l) (src e dst:TypeId)
 (hs:P.underlying src=some (.slice e)) (he:P.underlying e=some (.int .u8)) (hd:P.underlying dst=some .string):
 (convert src dst (.slice a n cap)).run P w=.ok (.string (str l)) w:=by
 obtain ⟨h1,h2,h3,b,off,h4,h5⟩:=h
 cases a with
 | none=>
   have hn:n=0:=by rcases h4 with h4 | h4<;>simp_all
   subst hn
   have:l=[]:=List.eq_nil_of_length_eq_zero h1.symm
   subst this
   exact run_convert_bytes_nil w src e hs he 0 cap dst hd
 | some ad=>
   rcases h4 with h4 | h4
   ·
    subst h4
    have:l=[]:=List.eq_nil_of_length_eq_zero h1.symm
    subst this
    rw [run_convert_bytes_string w src dst e _ 0 cap hs he hd,run_bytesToString w ad 0 cap [] (by simp [loadCells,loadCellsFrom])]
    rfl
   ·
    cases h4
    rw [run_convert_bytes_arg w src e hs he b off n cap (l.map fun c=>(c.toNat:Int)) (by simp [h1]) (fun i hi=>?_) dst hd]
    ·
     congr 2
     simp [strOfNums,str,Function.comp_def]
    ·
     have:=h5 i (by omega)
     simp only [F2,Nat.mul_one] at this
     rw [this]
     simp [List.getD,show i < l.length by omega]
theorem KP (w:World) (l:List UInt8) (e:TypeId) (hm:l.length≤maxLen) (fr:Nat × Nat:=(0,0)):Bytes (w.alloc (.cells (l.map bv).toArray e fr)) (some ⟨w.heap.size,0,none⟩) l.length l.length l:=by
 refine ⟨rfl,Nat.le_refl _,hm,w.heap.size,0,.inr rfl,fun k hk=>?_⟩
 have hh:(w.alloc (.cells (l.map bv).toArray e fr)).heap[w.heap.size]? =some (.cells (l.map bv).toArray e fr):=heap_alloc_new w _
 unfold F2 World.cell?
 simp only [hh,Nat.zero_add,Nat.mul_one]
 simp [bv,hk]
end Go.Proofs.YtiklkhbfilbpeaaGreatDoor.Base
