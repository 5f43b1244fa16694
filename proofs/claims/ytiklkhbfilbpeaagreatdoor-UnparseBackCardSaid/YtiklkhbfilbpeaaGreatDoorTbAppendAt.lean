import Derived.Test.YtiklkhbfilbpeaaGreatDoorTbStrWords
import Derived.RangeFuncOwn
set_option maxRecDepth 100000
set_option maxHeartbeats 16000000
set_option linter.unusedVariables false
set_option linter.unusedSimpArgs false
namespace Go.Proofs.YtiklkhbfilbpeaaGreatDoor.Ap
open Go.RowKit Base
theorem bR {P:Program} (w:World) (base:Nat) (t u ty e:TypeId) (i:TypeInfo) (z:Value) (size bytes:Nat) (ht:P.underlying t=some (.slice e))
 (hu:∃d,P.underlying u=some d∧∀k,d≠.int k) (hi:P.info? e=some i) (hz:i.zero=some z)
 (hsize:i.size=size) (hby:i.bytes=bytes) (hzs:z.cells.size=size) (hsz:0 < size) (hbp:0 < bytes)
 (v:Value) (n:Nat) (xs:List Value) (hown:w.ownsRow base e size v n xs)
 (x:Value) (m:Nat) (news:List Value) (hx:Src P w size x m news)
 (h63:n+m≤maxLen) (hbytes:(n+m) * bytes≤140737488355328) (hbase:base≤w.heap.size):
 ∃v' w',(Builtin.append_ #[t,u] ty #[v,x]).run P w=.ok v' w'∧w'.ownsRow base e size v' (n+m) (xs++news)∧w.grownBy w' v.ownBlock∧
  (∀g,v'.ownBlock=some g→g < w.heap.size→v.ownBlock=some g):=by
 subst hsize
 subst hby
 obtain ⟨hl,h1,sZ⟩:=hx
 obtain ⟨rK,hf0⟩:=sZ w rfl
 obtain ⟨Y4,Yn⟩:=sZ w.drew rfl
 obtain ⟨d,Sr,hdk⟩:=hu
 have Uh:n+m≤9223372036854775807:=by simp only [maxLen] at h63;omega
 have hlen:(xs++news).length=(n+m) * i.size:=by rw [List.length_append,hown.1,hl,Nat.add_mul]
 have grown:∀(old:Nat),old < n+m→∀(row:Option Nat),
  (w.drew.alloc (.cells (xs.toArray++news.toArray++Builtin.zeroCells z.cells (grownCap w (n+m) old e - (n+m))) e)).ownsRow base e i.size
   (.slice (some ⟨w.heap.size,0,none⟩) (n+m) (grownCap w (n+m) old e)) (n+m) (xs++news)∧
  w.grownBy (w.drew.alloc (.cells (xs.toArray++news.toArray++Builtin.zeroCells z.cells (grownCap w (n+m) old e - (n+m))) e)) row:=by
  intro old ho row
  have hge:=grownCap_ge w (n+m) old e
  have hcm:grownCap w (n+m) old e≤maxLen:=grownCap_le_maxLen w (n+m) old e h63
  refine ⟨⟨hlen,.inr ⟨w.heap.size,_,_,rfl,hbase,heap_alloc_new w.drew _,hge,hcm,?_,?_⟩⟩,⟨rfl,rfl,rfl,by simp,fun k hk _=>Below.heap_alloc w.drew _ k hk⟩⟩
  ·
   simp only [Array.size_append,List.size_toArray,size_zeroCells,hzs,hown.1,hl,←Nat.add_mul]
   congr 1
   omega
  ·
   simp only [Array.toList_append,List.append_assoc]
   rw [←List.append_assoc,←hlen]
   exact List.take_left
 rcases hown.2 with ⟨rfl,rfl⟩ | ⟨g,cap,cur,rfl,hbg,hg,Ey,hcm,hcs,DZ⟩
 ·
  have Xh:xs=[]:=List.eq_nil_of_length_eq_zero (by simpa using hown.1)
  subst Xh
  by_cases hm:m=0
  ·
   subst hm
   have hn:news=[]:=List.eq_nil_of_length_eq_zero (by simpa using hl)
   subst hn
   refine ⟨.slice none 0 0,w,?_,World.ownsRow_nil w base e i.size,⟨rfl,rfl,rfl,Nat.le_refl _,fun _ _ _=>rfl⟩,fun g h _=>h⟩
   simp [Builtin.append_,run_underlying ht,run_underlying Sr,sizeOf,typeInfo,hi,rK,hf0]
  ·
   have hgr:=grown 0 (by omega) (Value.ownBlock (.slice none 0 0))
   simp only [Nat.zero_add,List.nil_append,Array.empty_append] at hgr ⊢
   refine ⟨_,_,?_,hgr.1,hgr.2,fun g h hl=>by simp [Value.ownBlock] at h;omega⟩
   have Ul:¬(9223372036854775807 < (m:Int)):=by omega
   have Hg:¬(281474976710656 < Builtin.nextslicecap m 0 * i.bytes):=by
    rw [nextslicecap_zero (by omega)]
    simp only [Nat.zero_add] at hbytes
    omega
   have FU:i.bytes≠0:=by omega
   simp [Builtin.append_,run_underlying ht,run_underlying Sr,sizeOf,typeInfo,zeroValue,hi,hz,rK,hm,Hg,FU,Question.forced,Yn,newRow,grownCap,run_firstCells_none]
 ·
  by_cases hroom:n+m≤cap
  ·
   have VM:n * i.size+news.length≤cur.size:=by rw [hl,hcs,←Nat.add_mul];exact Nat.mul_le_mul_right _ hroom
   have hst:=run_storeCells_at P g (n * i.size) e news 0 cur w hg (by simpa using VM) h1
   simp only [Nat.add_zero] at hst
   refine ⟨.slice (some ⟨g,0,none⟩) (n+m) cap,w.setRow g (cur.toList.take (n * i.size)++news++cur.toList.drop (n * i.size+news.length)).toArray,?_,⟨hlen,.inr ⟨g,cap,_,rfl,hbg,setRow_heap w g cur _ e _ hg,hroom,hcm,?_,?_⟩⟩,⟨rfl,rfl,rfl,by simp,fun k _ hk=>setRow_other w g k _ (fun e=>hk (by simp [Value.ownBlock,e]))⟩,fun _ h _=>h⟩
   · simp [Builtin.append_,run_underlying ht,run_underlying Sr,sizeOf,typeInfo,hi,rK,hroom,hf0,Addr.add_lit,hst]
   ·
    simp only [List.size_toArray,List.length_append,List.length_take,List.length_drop,Array.length_toList]
    omega
   ·
    rw [DZ,←hlen]
    exact List.take_left
  ·
   have holds:∀j u,xs[j]? =some u→w.drew.cell? ((⟨g,0,none⟩:Addr).add j)=some u:=by
    intro j u hu
    have:=hown.cells (g:=g) rfl j u hu
    simpa using this
   have hfo:=run_firstCells_some (P:=P) w.drew i.size n ⟨g,0,none⟩ n cap xs hown.1 holds
   have hgr:=grown cap (by omega) (Value.ownBlock (.slice (some ⟨g,0,none⟩) n cap))
   refine ⟨_,_,?_,hgr.1,hgr.2,fun g h hl=>by simp [Value.ownBlock] at h;omega⟩
   have Ul:¬(9223372036854775807 < ((n:Int)+(m:Int))):=by omega
   have Hg:¬(281474976710656 < Builtin.nextslicecap (n+m) cap * i.bytes):=by
    have:=growslice_fits (need:=n+m) (old:=cap) (by omega) hbytes
    omega
   have FU:i.bytes≠0:=by omega
   simp [Builtin.append_,run_underlying ht,run_underlying Sr,sizeOf,typeInfo,zeroValue,hi,hz,rK,hroom,Hg,FU,Question.forced,Yn,hfo,newRow,grownCap]
   congr 2
   apply Array.ext'
   simp [List.append_assoc]
theorem gF {P:Program} {w:World} {ops:Array Oper} {rest:List Oper} {o:Oper} {a:Act} {Q:Exit→Act→World→Prop} (hgd:o.guard=none) (s x:Operand) (t u:TypeId)
 (ho:o.op=.call { callee:=.builtin .append,args:=#[s,x],argTypes:=#[t,u] })
 (base:Nat) (e:TypeId) (i:TypeInfo) (z:Value) (size bytes:Nat) (ht:P.underlying t=some (.slice e)) (hu:∃d,P.underlying u=some d∧∀k,d≠.int k)
 (hi:P.info? e=some i) (hz:i.zero=some z)
 (hsize:i.size=size) (hby:i.bytes=bytes) (hzs:z.cells.size=size) (hsz:0 < size) (hbp:0 < bytes)
 (v:Value) (n:Nat) (xs:List Value) (hs:a.eval s=v) (hown:w.ownsRow base e size v n xs)
 (y:Value) (m:Nat) (news:List Value) (hy:a.eval x=y) (hx:Src P w size y m news)
 (h63:n+m≤maxLen) (hbytes:(n+m) * bytes≤140737488355328) (hbase:base≤w.heap.size)
 (h:∀v' w',w'.ownsRow base e size v' (n+m) (xs++news)→w.grownBy w' v.ownBlock→(∀g,v'.ownBlock=some g→g < w.heap.size→v.ownBlock=some g)→wpList P ops Q rest (a.put o.dst v') w'):wpList P ops Q (o::rest) a w:=by
 refine wpList_plain hgd fun K hK=>?_
 obtain ⟨v',w',hr,h2,h3,h4⟩:=bR (P:=P) w base t u o.type e i z size bytes ht hu hi hz hsize hby hzs hsz hbp v n xs hown y m news hx h63 hbytes hbase
 unfold Oper.wp execOp
 simp only [ho,resolve,invoke,builtin,Sem.run_bind,Sem.run_pure,Result.andThen_ok,List.map_toArray,List.map_cons,List.map_nil,hs,hy,hr]
 exact hK _ _ (h v' w' h2 h3 h4)
theorem fN {P:Program} {a:Act} {w:World} {post:Value→World→Prop} {dst:Option Tmp} {x:Operand} {ty:TypeId} {pos:String} {after:Array Edge} {guard:Option (Nat × Bool)} (ad:Addr)
 (hx:a.eval x=.pointer (some ad)) (hp:post (.pointer (some ad)) w):Rg.does P { dst,op:=.nilCheck x,type:=ty,pos,after,guard } a w post:=by
 refine Rg.bA (v:=.pointer (some ad)) ?_ hp
 simp [execOp,hx]
theorem cR {P:Program} {a:Act} {w:World} {post:Value→World→Prop} {dst:Option Tmp} {s x:Operand} {t u:TypeId} {ty:TypeId} {pos:String} {after:Array Edge} {guard:Option (Nat × Bool)} (v y v':Value) (w':World)
 (hs:a.eval s=v) (hy:a.eval x=y) (hr:(Builtin.append_ #[t,u] ty #[v,y]).run P w=.ok v' w') (hp:post v' w'):Rg.does P { dst,op:=.call { callee:=.builtin .append,args:=#[s,x],argTypes:=#[t,u] },type:=ty,pos,after,guard } a w post:=by
 refine Rg.bA (v:=v') (w':=w') ?_ hp
 simp only [execOp,resolve,invoke,builtin,Sem.run_bind,Sem.run_pure,Result.andThen_ok,List.map_toArray,List.map_cons,List.map_nil,hs,hy,hr]
theorem Fq {P:Program} {a:Act} {w w':World} {post:Value→World→Prop} {dst:Option Tmp} {t:TypeId} {ty:TypeId} {pos:String} {after:Array Edge} {guard:Option (Nat × Bool)} (u:Value)
 (hr:(Instr.alloc t true (.tuple #[])).run P w=.ok u w') (hp:post u w'):Rg.does P { dst,op:=.alloc t,type:=ty,pos,after,guard } a w post:=by
 refine Rg.bA (v:=u) (w':=w') ?_ hp
 simp [execOp,hr,Result.andThen]
theorem jS {P:Program} {a:Act} {w w':World} {post:Value→World→Prop} {dst:Option Tmp} {t:TypeId} {parts:Array (Nat × Operand)} {ty:TypeId} {pos:String} {after:Array Edge} {guard:Option (Nat × Bool)} (vals:Array (Nat × Value)) (u:Value)
 (hv:(parts.map fun (i,x)=>(i,a.eval x))=vals) (hr:(Instr.build t vals).run P w=.ok u w') (hp:post u w'):Rg.does P { dst,op:=.build t parts,type:=ty,pos,after,guard } a w post:=by
 refine Rg.bA (v:=u) (w':=w') ?_ hp
 simp [execOp,hv,hr,Result.andThen]
theorem Kh (W:World) (g i:Nat) (v:Value):W.grownBy (W.setCell ⟨g,i,none⟩ v) (some g):=
 ⟨rfl,rfl,rfl,by simp [World.setCell],fun k hk hne=>Below.heap_setCell _ _ _ _ (fun h=>hne (by simp [h]))⟩
theorem Jg (w:World) (o0 o1 o2:Obj):(((w.alloc o0).alloc o1).alloc o2).heap[w.heap.size]? =some o0∧(((w.alloc o0).alloc o1).alloc o2).heap[w.heap.size+1]? =some o1∧(((w.alloc o0).alloc o1).alloc o2).heap[w.heap.size+2]? =some o2:=by
 have h:(((w.alloc o0).alloc o1).alloc o2).heap=((w.heap.push o0).push o1).push o2:=rfl
 rw [h]
 refine ⟨?_,?_,?_⟩
 · rw [Array.getElem?_push,Array.getElem?_push,Array.getElem?_push];simp;omega
 · rw [Array.getElem?_push,Array.getElem?_push];simp
 · rw [Array.getElem?_push];simp
theorem aW {P:Program} {t:TypeId} {w:World} {ad:Addr} {v:Value} (hagg:(isAgg t).run P w=.ok false w) (h:w.cell? ad=some v):(Instr.loadAt t (.pointer (some ad))).run P w=.ok v w:=by
 simp [Instr.loadAt,Instr.sureAddr,loadVar,hagg,Result.andThen,load]
 show Sem.run _ (Sem.load Mode.plain ad Sem.pure) w=_
 simp only [Sem.run,h]
def sW {α:Type} (f:α→List Value) (w:World) (b o:Nat) (x:α):Prop:=∀(j:Nat) (u:Value),(f x)[j]? =some u→w.cell? ⟨b,o+j,none⟩=some u
theorem dy {α:Type} (f:α→List Value):FR (sW f):=fun w w' b o x hb h j u hu=>a7 hb (Nat.le_refl _) (h j u hu)
theorem eh {α:Type} {f:α→List Value} {k:Nat} (hf:∀x,(f x).length=k) (l:List α):(l.flatMap f).length=l.length * k:=by
 induction l with
 | nil=>simp
 | cons x r ih=>rw [List.flatMap_cons,List.length_append,ih,hf,List.length_cons,Nat.add_mul];omega
theorem vU {α:Type} {f:α→List Value} {k:Nat} (hf:∀x,(f x).length=k) (l:List α):∀(i:Nat) (x:α),l[i]? =some x→∀(j:Nat) (u:Value),(f x)[j]? =some u→(l.flatMap f)[i * k+j]? =some u:=by
 induction l with
 | nil=>intro i x h;simp at h
 | cons y r ih=>
   intro i x h j u hu
   rw [List.flatMap_cons]
   cases i with
   | zero=>
     simp at h
     subst h
     have hj:j < (f y).length:=(List.getElem?_eq_some_iff.1 hu).1
     rw [Nat.zero_mul,Nat.zero_add,List.getElem?_append_left hj]
     exact hu
   | succ i=>
     rw [List.getElem?_append_right (by rw [hf,Nat.add_mul];omega),hf]
     have:(i+1) * k+j - k=i * k+j:=by rw [Nat.add_mul];omega
     rw [this]
     exact ih i x (by simpa using h) j u hu
theorem tR {α:Type} {f:α→List Value} {k:Nat} (hk:0 < k) (hf:∀x,(f x).length=k) {w:World} {base:Nat} {e:TypeId} {v:Value} {n:Nat} {l:List α} (h:w.ownsRow base e k v n (l.flatMap f)):
 ∃a c,v=.slice a n c∧mJ (sW f) k w a n c l:=by
 have hl:=h.1
 rw [eh hf] at hl
 obtain ⟨a,c,rfl,h3,h4,_,b,h5,h6⟩:=aA h
 have hn:n=l.length:=Nat.eq_of_mul_eq_mul_right hk hl.symm
 refine ⟨a,c,rfl,hn,h3,h4,b,0,h5,fun i hi j u hu=>?_⟩
 rw [Nat.zero_add]
 exact h6 _ u (vU hf l i _ (List.getElem?_eq_getElem hi) j u hu)
theorem Cx {α:Type} {f:α→List Value} {k:Nat} (hf:∀x,(f x).length=k) (h1:∀x,∀u∈f x,u.oneCell'=true) {P:Program} {w:World} {g:Nat} {t:TypeId} {x:α} (h:w.heap[g]? =some (.cells (f x).toArray t)) (cap:Nat):
 Src P w k (.slice (some ⟨g,0,none⟩) 1 cap) 1 (f x):=by
 refine cP (b:=g) (off:=0) (by rw [hf,Nat.one_mul]) (h1 x) (.inr rfl) ?_
 intro j u hu
 simp [World.cell?,h,hu]
end Go.Proofs.YtiklkhbfilbpeaaGreatDoor.Ap
