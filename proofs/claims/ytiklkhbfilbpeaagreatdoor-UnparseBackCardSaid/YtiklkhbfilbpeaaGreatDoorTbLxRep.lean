import Derived.Test.YtiklkhbfilbpeaaGreatDoorTbLxStrs
import Derived.Test.YtiklkhbfilbpeaaGreatDoorTbAppendAt
import Derived.Test.YtiklkhbfilbpeaaGreatDoorTbSlRow
import Derived.OwnWalk
import Derived.Lib.ConvBytes
import Derived.Lib.SliceRun
import Derived.Deep.CutBlock
import Derived.Deep.DeepCutAuto
import Derived.Deep.Cut
set_option maxRecDepth 100000
set_option maxHeartbeats 16000000
set_option linter.unusedVariables false
set_option linter.unusedSimpArgs false
namespace Go.Proofs.YtiklkhbfilbpeaaGreatDoor
open Go.RowKit Base Lx
abbrev Hf:TypeId:=178
abbrev Xq:TypeId:=135
abbrev O1:TypeId:=179
abbrev eZ:TypeId:=9
def Ci (v:Value):Array Value:=(Array.replicate 256 (.slice none 0 0)).push v
theorem LK (a:Option Addr) (n c:Nat) (w:World):(Instr.build Hf #[(1,.slice a n c)]).run Tryz.prog w=.ok (.agg (Ci (.slice a n c))) w:=by
 refine run_build w _ _ _ ?_
 kernel_rfl
theorem MT:(Tryz.prog.info? Hf).map (fun i=>i.size)=some 257:=by kernel_rfl
theorem OB (w:World):(Instr.alloc Hf true (.tuple #[])).run Tryz.prog w=.ok (.pointer (some ⟨w.heap.size,0,none⟩)) (w.alloc (.cells (Ci (.slice none 0 0)) Hf)):=by rfl
theorem oI (v:Value):(Ci v).size=257:=by simp [Ci]
theorem N9 (v:Value):(Ci v).toList=List.replicate 256 (.slice none 0 0)++[v]:=by simp [Ci]
theorem Jk (g:Nat) (w:World):(Instr.fieldAt Hf (.pointer (some ⟨g,0,none⟩)) 0).run Tryz.prog w=.ok (.pointer (some ⟨g,0,none⟩)) w:=by rfl
def kQ:Nm:=[92,34,39]
structure fW (B:Nat) (W0 W:World) (g j:Nat) (cs:List Value) (v3:Value):Prop where
 blk:W.heap[g]? =some (.cells (cs++[v3]).toArray Hf)
 len:cs.length=256
 cell:∀i,i < 256→if (kQ.take j).contains (UInt8.ofNat i) then ∃ad c,cs[i]? =some (.slice (some ad) 0 c) else cs[i]? =some (.slice none 0 0)
 row:W.ownsRow B eZ 1 v3 j ((kQ.take j).map fun c=>qX [c])
 gB:B≤g
 low:Below B W0 W
theorem fW.cellAt {B:Nat} {W0 W:World} {g j:Nat} {cs:List Value} {v3:Value} (h:fW B W0 W g j cs v3) (i:Nat) (hi:i < 257):W.cell? ⟨g,i,none⟩=(cs++[v3])[i]?∧W.frozen? ⟨g,i,none⟩=false:=by
 simp [World.cell?,World.frozen?,h.blk]
theorem fW.last {B:Nat} {W0 W:World} {g j:Nat} {cs:List Value} {v3:Value} (h:fW B W0 W g j cs v3):W.cell? ⟨g,256,none⟩=some v3∧W.frozen? ⟨g,256,none⟩=false:=by
 have:=h.cellAt 256 (by omega)
 refine ⟨this.1.trans ?_,this.2⟩
 rw [List.getElem?_append_right (by rw [h.len];omega),h.len]
 rfl
theorem fW.nilAt {B:Nat} {W0 W:World} {g j:Nat} {cs:List Value} {v3:Value} (h:fW B W0 W g j cs v3) (i:Nat) (hi:i < 256) (hn:(kQ.take j).contains (UInt8.ofNat i)=false):W.cell? ⟨g,i,none⟩=some (.slice none 0 0)∧W.frozen? ⟨g,i,none⟩=false:=by
 have h1:=h.cellAt i (by omega)
 refine ⟨h1.1.trans ?_,h1.2⟩
 rw [List.getElem?_append_left (by rw [h.len];exact hi)]
 have:=h.cell i hi
 rw [hn] at this
 simpa using this
theorem fW.below {B:Nat} {W0 W W':World} {g j:Nat} {cs:List Value} {v3:Value} (h:fW B W0 W g j cs v3) (hb:Below W.heap.size W W') (hs:B≤W.heap.size):fW B W0 W' g j cs v3:=
 ⟨(hb.block g (Array.getElem?_eq_some_iff.1 h.blk).1).trans h.blk,h.len,h.cell,bz h.row hb,h.gB,h.low.trans (hb.mono hs)⟩
theorem fW.size {B:Nat} {W0 W:World} {g j:Nat} {cs:List Value} {v3:Value} (h:fW B W0 W g j cs v3):B≤W.heap.size:=Nat.le_of_lt (Nat.lt_of_le_of_lt h.gB (Array.getElem?_eq_some_iff.1 h.blk).1)
theorem fW.next {B:Nat} {W0 W W1:World} {g j:Nat} {cs:List Value} {v3 SB:Value} {c:UInt8} (h:fW B W0 W g j cs v3) (hj:kQ.take (j+1)=kQ.take j++[c]) (hg:W.grownBy W1 v3.ownBlock) (ho:W1.ownsRow B eZ 1 SB (j+1) ((kQ.take j).map (fun c=>qX [c])++[qX [c]])):
 (W1.setCell ⟨g,256,none⟩ SB).heap[g]? =some (.cells (cs++[SB]).toArray Hf)∧Below B W0 (W1.setCell ⟨g,256,none⟩ SB)∧(W1.setCell ⟨g,256,none⟩ SB).ownsRow B eZ 1 SB (j+1) ((kQ.take (j+1)).map fun c=>qX [c]):=by
 have hgl:g < W.heap.size:=(Array.getElem?_eq_some_iff.1 h.blk).1
 have hne:v3.ownBlock≠some g:=by
  intro hv
  rcases h.row.2 with ⟨rfl,_⟩ | ⟨q,cap,cur,rfl,_,h3,_⟩
  · cases hv
  ·
   obtain rfl:=Option.some.inj hv
   rw [h.blk] at h3
   injection h3 with h3
   injection h3 with _ hT _
   exact absurd hT (by decide)
 have h1:W1.heap[g]? =some (.cells (cs++[v3]).toArray Hf):=(hg.block g hgl (fun e=>hne e.symm)).trans h.blk
 have hs:=heap_setCell_same W1 g 256 _ _ SB h1
 have hgr:W1.grownBy (W1.setCell ⟨g,256,none⟩ SB) (some g):=Sl.aq g [SB] 256 W1
 refine ⟨?_,?_,?_⟩
 ·
  rw [hs,List.setIfInBounds_toArray,List.set_append_right _ _ (by rw [h.len];omega),h.len]
  rfl
 ·
  refine ⟨hgr.os.trans (hg.os.trans h.low.os),hgr.tape.trans (hg.tape.trans h.low.tape),hgr.output.trans (hg.output.trans h.low.output),Nat.le_trans h.low.size (Nat.le_trans hg.size hgr.size),fun k hk=>?_⟩
  have hk2:k < W.heap.size:=Nat.lt_of_lt_of_le hk h.size
  have:=h.gB
  exact (hgr.block k (Nat.lt_of_lt_of_le hk2 hg.size) (fun e=>by have:=Option.some.inj e;omega)).trans ((hg.block k hk2 (fun e=>by have:=(h.row.lt _ e.symm).1;omega)).trans (h.low.block k hk))
 ·
  rw [hj,List.map_append]
  rcases ho.2 with ⟨rfl,h0⟩ | ⟨q,cap,cur,rfl,h2,h3,h4⟩
  · omega
  ·
   refine ⟨ho.1,.inr ⟨q,cap,cur,rfl,h2,(hgr.block q (Array.getElem?_eq_some_iff.1 h3).1 (fun e=>?_)).trans h3,h4⟩⟩
   obtain rfl:=Option.some.inj e
   rw [h1] at h3
   injection h3 with h3
   injection h3 with _ hT _
   exact absurd hT (by decide)
theorem Kt {W W':World} {base:Nat} {e:TypeId} {k n:Nat} {v:Value} {xs:List Value} {q:Nat} (h:W.ownsRow base e k v n xs) (hg:W.grownBy W' (some q)) (hq:v.ownBlock≠some q):W'.ownsRow base e k v n xs:=by
 refine ⟨h.1,?_⟩
 rcases h.2 with h2 | ⟨j,cap,cur,rfl,h2,h3,h4⟩
 · exact .inl h2
 · exact .inr ⟨j,cap,cur,rfl,h2,(hg.block j (Array.getElem?_eq_some_iff.1 h3).1 (fun e=>hq (by rw [←e];rfl))).trans h3,h4⟩
theorem fW.mark {B:Nat} {W0 W:World} {g j:Nat} {cs:List Value} {v3:Value} (k:UInt8) (ad:Addr) (c:Nat) (hj:kQ.take (j+1)=kQ.take j++[k]) (hb:W.heap[g]? =some (.cells (cs++[v3]).toArray Hf)) (hl:cs.length=256)
 (hc:∀i,i < 256→if (kQ.take j).contains (UInt8.ofNat i) then ∃ad c,cs[i]? =some (.slice (some ad) 0 c) else cs[i]? =some (.slice none 0 0)) (hr:W.ownsRow B eZ 1 v3 (j+1) ((kQ.take (j+1)).map fun c=>qX [c])) (Xt:B≤g) (lx:Below B W0 W) (hs:B≤W.heap.size):
 fW B W0 (W.setCell ⟨g,k.toNat,none⟩ (.slice (some ad) 0 c)) g (j+1) (cs.set k.toNat (.slice (some ad) 0 c)) v3:=by
 have hk:=k.toNat_lt
 have yR:=heap_setCell_same W g k.toNat _ _ (.slice (some ad) 0 c) hb
 have hgr:W.grownBy (W.setCell ⟨g,k.toNat,none⟩ (.slice (some ad) 0 c)) (some g):=Sl.aq g [.slice (some ad) 0 c] k.toNat W
 refine ⟨?_,by rw [List.length_set];exact hl,fun i hi=>?_,?_,Xt,⟨hgr.os.trans lx.os,hgr.tape.trans lx.tape,hgr.output.trans lx.output,Nat.le_trans lx.size hgr.size,fun q hq=>(hgr.block q (Nat.lt_of_lt_of_le hq hs) (fun e=>by have:=Option.some.inj e;omega)).trans (lx.block q hq)⟩⟩
 · rw [yR,List.setIfInBounds_toArray,List.set_append_left _ _ (by rw [hl];exact hk)]
 ·
  rw [hj,List.contains_append]
  by_cases hik:i=k.toNat
  ·
   subst hik
   have:UInt8.ofNat k.toNat=k:=by simp
   rw [this]
   rw [if_pos (by simp)]
   exact ⟨ad,c,by rw [List.getElem?_set_self (by rw [hl];exact hk)]⟩
  ·
   have hne:UInt8.ofNat i≠k:=fun e=>hik (by rw [←e];simp;omega)
   have:[k].contains (UInt8.ofNat i)=false:=by simpa using hne
   rw [this,Bool.or_false]
   have h1:=hc i hi
   rw [List.getElem?_set_ne (fun e=>hik e.symm)]
   exact h1
 ·
  rcases hr.2 with ⟨rfl,h0⟩ | ⟨q,cap,cur,rfl,h2,h3,h4⟩
  · omega
  ·
   refine ⟨hr.1,.inr ⟨q,cap,cur,rfl,h2,(hgr.block q (Array.getElem?_eq_some_iff.1 h3).1 (fun e=>?_)).trans h3,h4⟩⟩
   obtain rfl:=Option.some.inj e
   rw [hb] at h3
   injection h3 with h3
   injection h3 with _ hT _
   exact absurd hT (by decide)
theorem rk (w:World):∃(cp:Nat) (w':World),(convert 9 49 (.string (str []))).run Tryz.prog w=.ok (.slice (some ⟨w.heap.size,0,none⟩) 0 cp) w'∧Below w.heap.size w w':=by
 have h:=Lib.run_convert_string_bytes (P:=Tryz.prog) w 9 49 5 (str []) Tryz.underlying9 Tryz.underlying49 Tryz.underlying5
 exact ⟨_,_,h,⟨rfl,rfl,rfl,by rw [Lib.bytesWorld_size];omega,fun j hj=>Lib.bytesWorld_at_old w _ _ j hj⟩⟩
abbrev zv:List Nm:=[[39],[],[34],[],[92],[]]
def KX (W:World) (r:Ending) (W':World):Prop:=∃g cs v3,r=.returned (.iface O1 (.pointer (some ⟨g,0,none⟩)))∧fW W.heap.size W W' g 3 cs v3
theorem CD (W:World) (b:Nat) (x0 x1 x2 x3:Value) (a:Option Addr) (c:Nat) (h:W.heap[b]? =some (.cells #[x0,x1,x2,x3,.slice a 6 c] Xq)) (hs:Strs W a 6 c zv):
 Calls Tryz.prog 121 #[.pointer (some ⟨b,0,none⟩)] W (KX W):=by
 obtain ⟨i0,iy,hz0,hz1,hz2⟩:=info_parts yc
 have c4:W.cell? ⟨b,4,none⟩=some (.slice a 6 c):=by simp [World.cell?,h]
 obtain ⟨b1,o1,hcs,mB⟩:=Ip hs
 have q0:=hcs 0 (by decide)
 have q1:=hcs 1 (by decide)
 have q2:=hcs 2 (by decide)
 have q3:=hcs 3 (by decide)
 have q4:=hcs 4 (by decide)
 have q5:=hcs 5 (by decide)
 simp only [zv,List.getElem_cons_zero,List.getElem_cons_succ,Nat.add_zero] at q0 q1 q2 q3 q4 q5
 have j0:∀W,(Instr.indexAt 33 (.slice a 6 c) (.int .i64 0)).run Tryz.prog W=.ok (.pointer (some ⟨b1,o1,none⟩)) W:=fun W=>mB .i64 0 W (by decide)
 have j1:∀W,(Instr.indexAt 33 (.slice a 6 c) (.int .i64 1)).run Tryz.prog W=.ok (.pointer (some ⟨b1,o1+1,none⟩)) W:=fun W=>mB .i64 1 W (by decide)
 have j2:∀W,(Instr.indexAt 33 (.slice a 6 c) (.int .i64 2)).run Tryz.prog W=.ok (.pointer (some ⟨b1,o1+2,none⟩)) W:=fun W=>mB .i64 2 W (by decide)
 have j3:∀W,(Instr.indexAt 33 (.slice a 6 c) (.int .i64 3)).run Tryz.prog W=.ok (.pointer (some ⟨b1,o1+3,none⟩)) W:=fun W=>mB .i64 3 W (by decide)
 have j4:∀W,(Instr.indexAt 33 (.slice a 6 c) (.int .i64 4)).run Tryz.prog W=.ok (.pointer (some ⟨b1,o1+4,none⟩)) W:=fun W=>mB .i64 4 W (by decide)
 have j5:∀W,(Instr.indexAt 33 (.slice a 6 c) (.int .i64 5)).run Tryz.prog W=.ok (.pointer (some ⟨b1,o1+5,none⟩)) W:=fun W=>mB .i64 5 W (by decide)
 clear hcs mB hs h
 go_enter Tryz.func121,Tryz.ntmps121
 go_wp2_with fail
 go_loopw [4,5] (fun v4 v5 wr=>wr=W∧((v4=.bool true∧v5=.int .i64 0)∨(v4=.bool false∧(v5=.int .i64 2∨v5=.int .i64 4∨v5=.int .i64 6)))) (fun _ v5 _=>6 - (match v5 with | .int _ n=>n.toNat | _=>0))
 case atStart=>exact ⟨rfl,.inl ⟨rfl,rfl⟩⟩
 case round=>
  obtain ⟨hw,hr⟩:=hrel
  have hw2:=hw.symm
  subst hw2
  rcases hr with ⟨rfl,rfl⟩ | ⟨rfl,rfl | rfl | rfl⟩
  ·
   go_wp2_with fail
   go_roundw
   case rel=>simp
   case measure=>decide
  ·
   go_wp2_with fail
   go_roundw
   case rel=>simp
   case measure=>decide
  ·
   go_wp2_with fail
   go_roundw
   case rel=>simp
   case measure=>decide
  ·
   go_upto_region 26 with fail
   go_wp2_with (at_make;refine wpList_make_own _ rfl (.const (.int .i64 0)) (.tmp 93) 33 rfl W.heap.size eZ i0 (.string ⟨#[]⟩) 1 Tryz.underlying33 iy hz0 hz1 .i64 .i64 3 3 rfl rfl rfl ?_ ?_ ?_ ?_)
   case _=>unfold maxLen;decide
   intro w2 ho hg
   refine tz rfl (.agg (Ci (.slice (some ⟨W.heap.size,0,none⟩) 0 3))) w2 (Ap.jS #[(1,.slice (some ⟨W.heap.size,0,none⟩) 0 3)] _ (by simp [go_sem]) (LK _ _ _ _) ⟨rfl,rfl⟩) ?_
   refine tz rfl (.pointer (some ⟨w2.heap.size,0,none⟩)) (w2.alloc (.cells (Ci (.slice none 0 0)) Hf)) (Ap.Fq _ (OB _) ⟨rfl,rfl⟩) ?_
   have cU:=(Below.refl w2.heap.size w2).alloc (Nat.le_refl _) (.cells (Ci (.slice none 0 0)) Hf)
   have ly:=heap_alloc_new w2 (.cells (Ci (.slice none 0 0)) Hf)
   obtain ⟨w3,hw3⟩:∃w3,w2.alloc (.cells (Ci (.slice none 0 0)) Hf)=w3:=⟨_,rfl⟩
   rw [hw3] at cU ly ⊢
   refine wpList_store_mid rfl Hf (.tmp 11) (.tmp 95) rfl w2.heap.size 0 (Ci (.slice (some ⟨W.heap.size,0,none⟩) 0 3)) (by simp [go_sem]) (by simp [go_sem]) ?_ (by rw [oI];exact MT) ?_ ?_
   ·
    intro j hj
    rw [oI] at hj
    simp [World.cell?,World.frozen?,ly,oI,hj]
   ·
    exact all_oneCell_toArray (cs:=(Ci _).toList) (fun v hv=>by
     rw [N9] at hv
     rcases List.mem_append.1 hv with hv | hv
     · rw [List.eq_of_mem_replicate hv];rfl
     · rw [List.mem_singleton.1 hv];rfl)
   have yR:=Sl.gS w2.heap.size Hf (Ci (.slice (some ⟨W.heap.size,0,none⟩) 0 3)).toList 0 w3 (Ci (.slice none 0 0)).toList (by rw [Array.toArray_toList];exact ly) (by rw [Array.length_toList,Array.length_toList,oI,oI];omega)
   have hgr:=Sl.aq w2.heap.size (Ci (.slice (some ⟨W.heap.size,0,none⟩) 0 3)).toList 0 w3
   have lx:Below W.heap.size W w2:=(Below.refl _ _).grown hg (Nat.le_refl _) (fun j hj=>by cases hj)
   have HR0:Hid (fW W.heap.size W (w3.setCells w2.heap.size 0 (Ci (.slice (some ⟨W.heap.size,0,none⟩) 0 3)).toList) w2.heap.size 0 (List.replicate 256 (.slice none 0 0)) (.slice (some ⟨W.heap.size,0,none⟩) 0 3)):=by
    refine ⟨?_,by simp,fun i hi=>?_,?_,lx.size,?_⟩
    ·
     rw [yR]
     congr 2
    ·
     rw [if_neg (by simp [kQ])]
     rw [List.getElem?_replicate,if_pos hi]
    ·
     have h1:=bz ho cU
     exact Kt h1 hgr (fun e=>by have:=(h1.lt _ e).2;have:=(ho.lt _ e).2;omega)
    · exact (lx.trans (cU.mono lx.size)).grown hgr (Nat.le_trans lx.size cU.size) (fun j hj=>by obtain rfl:=Option.some.inj hj;exact lx.size)
   generalize w3.setCells w2.heap.size 0 (Ci (.slice (some ⟨W.heap.size,0,none⟩) 0 3)).toList=w4 at *
   generalize w2.heap.size=g at *
   have HQ0:=Lib.hid q0;have Vc:=Lib.hid q1;have JQ:=Lib.hid q2;have Zf:=Lib.hid q3;have HQ4:=Lib.hid q4;have V4:=Lib.hid q5
   clear q0 q1 q2 q3 q4 q5 yR hgr lx cU ly hw3 ho hg c4
   go_wp2_with fail
   go_loopw [12] (fun v12 wr=>∃(cs:List Value) (v3:Value),(v12=.int .i64 4∧fW W.heap.size W wr g 0 cs v3)∨(v12=.int .i64 2∧fW W.heap.size W wr g 1 cs v3)∨(v12=.int .i64 0∧fW W.heap.size W wr g 2 cs v3)∨(v12=.int .i64 (-2)∧fW W.heap.size W wr g 3 cs v3)) (fun v12 _=>(match v12 with | .int _ n=>(n+2).toNat | _=>0))
   case atStart=>exact ⟨_,_,.inl ⟨rfl,HR0.out⟩⟩
   case round=>
    clear HR0
    obtain ⟨cs,v3,hr⟩:=hrel
    rcases hr with ⟨rfl,hr⟩ | ⟨rfl,hr⟩ | ⟨rfl,hr⟩ | ⟨rfl,hr⟩
    ·
     obtain ⟨a3,q3,hv3,_⟩:=aA hr.row
     obtain rfl:=hv3
     have HR:=Lib.hid hr
     have k0:=a7 hr.low (Nat.le_refl _) HQ4.out
     have k1:=a7 hr.low (Nat.le_refl _) V4.out
     have nz:=hr.nilAt 92 (by decide) (by decide)
     have n1:=nz.1
     have n2:=nz.2
     obtain ⟨l1,l2⟩:=hr.last
     have hsz:=hr.size
     have heq:∀(w:World) (a:Option Addr) (n c n' c':Nat),(binOp .eql 49 (.slice a n c) (.slice none n' c')).run Tryz.prog w=.ok (.bool a.isNone) w:=fun w a n c n' c'=>Lib.run_eql_slice_nil w _ _ a n c n' c' Tryz.underlying49
     have hb0:∀h:0 < (str [92]).size,(str [92])[0]'h=92:=fun _=>rfl
     have hb1:(92:UInt8).toNat=92:=rfl
     clear hr nz
     go_upto_region 33 with fail
     have cU:=(Below.refl wr.heap.size wr).alloc (Nat.le_refl _) (.cells #[.int .u8 92] 5)
     have hcv:=qb (um wr 92 92 rfl 5)
     have BU:=(Below.refl (wr.alloc (.cells #[.int .u8 92] 5)).heap.size (wr.alloc (.cells #[.int .u8 92] 5))).alloc (Nat.le_refl _) (.cells #[.string (str [92])] eZ)
     have EB:=Nat.le_trans hsz cU.size
     have qI:=Lib.hid ((HR.out.below cU hsz).below BU EB)
     have Ku:Hid (Base.Src Tryz.prog ((wr.alloc (.cells #[.int .u8 92] 5)).alloc (.cells #[.string (str [92])] eZ)) 1 (.slice (some ⟨wr.heap.size+1,0,none⟩) 1 1) 1 [.string (str [92])]):=by
      have:=vC (P:=Tryz.prog) (wr.alloc (.cells #[.int .u8 92] 5)) [.string (str [92])] eZ 1 1 rfl (by intro u hu;obtain rfl:=List.mem_singleton.1 hu;rfl) 1
      rw [World.size_alloc] at this
      exact this
     have xc:=Lib.hid qI.out.size
     clear cU BU EB
     go_wp2_with (at_builtin;refine eI rfl (.tmp 119) (.tmp 123) 33 33 rfl W.heap.size eZ i0 (.string ⟨#[]⟩) 1 16 Tryz.underlying33 (bw Tryz.underlying33) iy hz0 hz1 hz2 rfl (by decide) (by decide) _ 0 _ rfl qI.out.row _ 1 _ rfl Ku.out ?_ ?_ ?_ ?_)
     case _=>unfold maxLen;decide
     case _=>first | exact xc.out | (have:=xc.out;simp only [World.size_alloc] at this;exact this)
     intro v' w' h1 h2 _
     have h1:w'.ownsRow W.heap.size eZ 1 v' 1 ((kQ.take 0).map (fun c=>qX [c])++[qX [92]]):=h1
     have HN:=qI.out.next (c:=92) rfl h2 h1
     obtain ⟨a4,q4,hv4,_⟩:=aA h1
     obtain rfl:=hv4
     have Nw:w'.cell? ⟨g,256,none⟩=some (.slice a3 0 q3)∧w'.frozen? ⟨g,256,none⟩=false:=by
      have h5:w'.heap[g]? =_:=h2.block g (Array.getElem?_eq_some_iff.1 qI.out.blk).1 (fun e=>by
       rcases qI.out.row.2 with ⟨h6,_⟩ | ⟨q,cap,cur,h6,_,h7,_⟩
       · rw [h6] at e;cases e
       ·
        rw [h6] at e
        obtain rfl:=Option.some.inj e
        have h8:=qI.out.blk
        rw [h7] at h8
        injection h8 with h8
        injection h8 with _ hT _
        exact absurd hT (by decide))
      have h6:=qI.out.last
      simp only [World.cell?,World.frozen?] at h6 ⊢
      rw [h5]
      exact h6
     have Z8:=Nw.2
     have Yr:=Nw.1
     have TS:=Lib.hid HN.1
     have LS:=Lib.hid HN.2.1
     have Lr:=Lib.hid HN.2.2
     have TE:=Lib.hid qI.out.len
     have T5:=Lib.hid qI.out.cell
     clear h1 h2 Nw qI Ku xc hcv n1 n2 l1 l2
     go_upto_region 34 with fail
     generalize w'.setCell ⟨g,256,none⟩ (.slice a4 1 q4)=w5 at *
     obtain ⟨cp,w6,Xg,iY⟩:=rk w5
     have hs5:W.heap.size≤w5.heap.size:=LS.out.size
     have Hu:=(iY.block g (Array.getElem?_eq_some_iff.1 TS.out).1).trans TS.out
     have n0:=T5.out 92 (by decide)
     rw [if_neg (by decide)] at n0
     have n1:w6.cell? ⟨g,92,none⟩=some (.slice none 0 0):=by
      simp only [World.cell?,Hu]
      rw [List.getElem?_toArray,List.getElem?_append_left (by rw [TE.out];decide)]
      exact n0
     have n2:w6.frozen? ⟨g,92,none⟩=false:=by simp [World.frozen?,Hu]
     have HM:Hid (fW W.heap.size W (w6.setCell ⟨g,(92:UInt8).toNat,none⟩ (.slice (some ⟨w5.heap.size,0,none⟩) 0 cp)) g (0+1) (cs.set (92:UInt8).toNat (.slice (some ⟨w5.heap.size,0,none⟩) 0 cp)) _):=fW.mark 92 _ _ rfl Hu TE.out T5.out (bz Lr.out iY) HR.out.gB (LS.out.trans (iY.mono hs5)) (Nat.le_trans hs5 iY.size)
     clear Hu n0 iY hs5
     go_wp2_with fail
     go_roundw
     case rel=>exact ⟨_,_,.inr (.inl ⟨rfl,HM.out⟩)⟩
     case measure=>decide
    ·
     obtain ⟨a3,q3,hv3,_⟩:=aA hr.row
     obtain rfl:=hv3
     have HR:=Lib.hid hr
     have k0:=a7 hr.low (Nat.le_refl _) JQ.out
     have k1:=a7 hr.low (Nat.le_refl _) Zf.out
     have nz:=hr.nilAt 34 (by decide) (by decide)
     have n1:=nz.1
     have n2:=nz.2
     obtain ⟨l1,l2⟩:=hr.last
     have hsz:=hr.size
     have heq:∀(w:World) (a:Option Addr) (n c n' c':Nat),(binOp .eql 49 (.slice a n c) (.slice none n' c')).run Tryz.prog w=.ok (.bool a.isNone) w:=fun w a n c n' c'=>Lib.run_eql_slice_nil w _ _ a n c n' c' Tryz.underlying49
     have hb0:∀h:0 < (str [34]).size,(str [34])[0]'h=34:=fun _=>rfl
     have hb1:(34:UInt8).toNat=34:=rfl
     clear hr nz
     go_upto_region 33 with fail
     have cU:=(Below.refl wr.heap.size wr).alloc (Nat.le_refl _) (.cells #[.int .u8 34] 5)
     have hcv:=qb (um wr 34 34 rfl 5)
     have BU:=(Below.refl (wr.alloc (.cells #[.int .u8 34] 5)).heap.size (wr.alloc (.cells #[.int .u8 34] 5))).alloc (Nat.le_refl _) (.cells #[.string (str [34])] eZ)
     have EB:=Nat.le_trans hsz cU.size
     have qI:=Lib.hid ((HR.out.below cU hsz).below BU EB)
     have Ku:Hid (Base.Src Tryz.prog ((wr.alloc (.cells #[.int .u8 34] 5)).alloc (.cells #[.string (str [34])] eZ)) 1 (.slice (some ⟨wr.heap.size+1,0,none⟩) 1 1) 1 [.string (str [34])]):=by
      have:=vC (P:=Tryz.prog) (wr.alloc (.cells #[.int .u8 34] 5)) [.string (str [34])] eZ 1 1 rfl (by intro u hu;obtain rfl:=List.mem_singleton.1 hu;rfl) 1
      rw [World.size_alloc] at this
      exact this
     have xc:=Lib.hid qI.out.size
     clear cU BU EB
     go_wp2_with (at_builtin;refine eI rfl (.tmp 119) (.tmp 123) 33 33 rfl W.heap.size eZ i0 (.string ⟨#[]⟩) 1 16 Tryz.underlying33 (bw Tryz.underlying33) iy hz0 hz1 hz2 rfl (by decide) (by decide) _ 1 _ rfl qI.out.row _ 1 _ rfl Ku.out ?_ ?_ ?_ ?_)
     case _=>unfold maxLen;decide
     case _=>decide
     case _=>first | exact xc.out | (have:=xc.out;simp only [World.size_alloc] at this;exact this)
     intro v' w' h1 h2 _
     have h1:w'.ownsRow W.heap.size eZ 1 v' 2 ((kQ.take 1).map (fun c=>qX [c])++[qX [34]]):=h1
     have HN:=qI.out.next (c:=34) rfl h2 h1
     obtain ⟨a4,q4,hv4,_⟩:=aA h1
     obtain rfl:=hv4
     have Nw:w'.cell? ⟨g,256,none⟩=some (.slice a3 1 q3)∧w'.frozen? ⟨g,256,none⟩=false:=by
      have h5:w'.heap[g]? =_:=h2.block g (Array.getElem?_eq_some_iff.1 qI.out.blk).1 (fun e=>by
       rcases qI.out.row.2 with ⟨h6,_⟩ | ⟨q,cap,cur,h6,_,h7,_⟩
       · rw [h6] at e;cases e
       ·
        rw [h6] at e
        obtain rfl:=Option.some.inj e
        have h8:=qI.out.blk
        rw [h7] at h8
        injection h8 with h8
        injection h8 with _ hT _
        exact absurd hT (by decide))
      have h6:=qI.out.last
      simp only [World.cell?,World.frozen?] at h6 ⊢
      rw [h5]
      exact h6
     have Z8:=Nw.2
     have Yr:=Nw.1
     have TS:=Lib.hid HN.1
     have LS:=Lib.hid HN.2.1
     have Lr:=Lib.hid HN.2.2
     have TE:=Lib.hid qI.out.len
     have T5:=Lib.hid qI.out.cell
     clear h1 h2 Nw qI Ku xc hcv n1 n2 l1 l2
     go_upto_region 34 with fail
     generalize w'.setCell ⟨g,256,none⟩ (.slice a4 2 q4)=w5 at *
     obtain ⟨cp,w6,Xg,iY⟩:=rk w5
     have hs5:W.heap.size≤w5.heap.size:=LS.out.size
     have Hu:=(iY.block g (Array.getElem?_eq_some_iff.1 TS.out).1).trans TS.out
     have n0:=T5.out 34 (by decide)
     rw [if_neg (by decide)] at n0
     have n1:w6.cell? ⟨g,34,none⟩=some (.slice none 0 0):=by
      simp only [World.cell?,Hu]
      rw [List.getElem?_toArray,List.getElem?_append_left (by rw [TE.out];decide)]
      exact n0
     have n2:w6.frozen? ⟨g,34,none⟩=false:=by simp [World.frozen?,Hu]
     have HM:Hid (fW W.heap.size W (w6.setCell ⟨g,(34:UInt8).toNat,none⟩ (.slice (some ⟨w5.heap.size,0,none⟩) 0 cp)) g (1+1) (cs.set (34:UInt8).toNat (.slice (some ⟨w5.heap.size,0,none⟩) 0 cp)) _):=fW.mark 34 _ _ rfl Hu TE.out T5.out (bz Lr.out iY) HR.out.gB (LS.out.trans (iY.mono hs5)) (Nat.le_trans hs5 iY.size)
     clear Hu n0 iY hs5
     go_wp2_with fail
     go_roundw
     case rel=>exact ⟨_,_,.inr (.inr (.inl ⟨rfl,HM.out⟩))⟩
     case measure=>decide
    ·
     obtain ⟨a3,q3,hv3,_⟩:=aA hr.row
     obtain rfl:=hv3
     have HR:=Lib.hid hr
     have k0:=a7 hr.low (Nat.le_refl _) HQ0.out
     have k1:=a7 hr.low (Nat.le_refl _) Vc.out
     have nz:=hr.nilAt 39 (by decide) (by decide)
     have n1:=nz.1
     have n2:=nz.2
     obtain ⟨l1,l2⟩:=hr.last
     have hsz:=hr.size
     have heq:∀(w:World) (a:Option Addr) (n c n' c':Nat),(binOp .eql 49 (.slice a n c) (.slice none n' c')).run Tryz.prog w=.ok (.bool a.isNone) w:=fun w a n c n' c'=>Lib.run_eql_slice_nil w _ _ a n c n' c' Tryz.underlying49
     have hb0:∀h:0 < (str [39]).size,(str [39])[0]'h=39:=fun _=>rfl
     have hb1:(39:UInt8).toNat=39:=rfl
     clear hr nz
     go_upto_region 33 with fail
     have cU:=(Below.refl wr.heap.size wr).alloc (Nat.le_refl _) (.cells #[.int .u8 39] 5)
     have hcv:=qb (um wr 39 39 rfl 5)
     have BU:=(Below.refl (wr.alloc (.cells #[.int .u8 39] 5)).heap.size (wr.alloc (.cells #[.int .u8 39] 5))).alloc (Nat.le_refl _) (.cells #[.string (str [39])] eZ)
     have EB:=Nat.le_trans hsz cU.size
     have qI:=Lib.hid ((HR.out.below cU hsz).below BU EB)
     have Ku:Hid (Base.Src Tryz.prog ((wr.alloc (.cells #[.int .u8 39] 5)).alloc (.cells #[.string (str [39])] eZ)) 1 (.slice (some ⟨wr.heap.size+1,0,none⟩) 1 1) 1 [.string (str [39])]):=by
      have:=vC (P:=Tryz.prog) (wr.alloc (.cells #[.int .u8 39] 5)) [.string (str [39])] eZ 1 1 rfl (by intro u hu;obtain rfl:=List.mem_singleton.1 hu;rfl) 1
      rw [World.size_alloc] at this
      exact this
     have xc:=Lib.hid qI.out.size
     clear cU BU EB
     go_wp2_with (at_builtin;refine eI rfl (.tmp 119) (.tmp 123) 33 33 rfl W.heap.size eZ i0 (.string ⟨#[]⟩) 1 16 Tryz.underlying33 (bw Tryz.underlying33) iy hz0 hz1 hz2 rfl (by decide) (by decide) _ 2 _ rfl qI.out.row _ 1 _ rfl Ku.out ?_ ?_ ?_ ?_)
     case _=>unfold maxLen;decide
     case _=>decide
     case _=>first | exact xc.out | (have:=xc.out;simp only [World.size_alloc] at this;exact this)
     intro v' w' h1 h2 _
     have h1:w'.ownsRow W.heap.size eZ 1 v' 3 ((kQ.take 2).map (fun c=>qX [c])++[qX [39]]):=h1
     have HN:=qI.out.next (c:=39) rfl h2 h1
     obtain ⟨a4,q4,hv4,_⟩:=aA h1
     obtain rfl:=hv4
     have Nw:w'.cell? ⟨g,256,none⟩=some (.slice a3 2 q3)∧w'.frozen? ⟨g,256,none⟩=false:=by
      have h5:w'.heap[g]? =_:=h2.block g (Array.getElem?_eq_some_iff.1 qI.out.blk).1 (fun e=>by
       rcases qI.out.row.2 with ⟨h6,_⟩ | ⟨q,cap,cur,h6,_,h7,_⟩
       · rw [h6] at e;cases e
       ·
        rw [h6] at e
        obtain rfl:=Option.some.inj e
        have h8:=qI.out.blk
        rw [h7] at h8
        injection h8 with h8
        injection h8 with _ hT _
        exact absurd hT (by decide))
      have h6:=qI.out.last
      simp only [World.cell?,World.frozen?] at h6 ⊢
      rw [h5]
      exact h6
     have Z8:=Nw.2
     have Yr:=Nw.1
     have TS:=Lib.hid HN.1
     have LS:=Lib.hid HN.2.1
     have Lr:=Lib.hid HN.2.2
     have TE:=Lib.hid qI.out.len
     have T5:=Lib.hid qI.out.cell
     clear h1 h2 Nw qI Ku xc hcv n1 n2 l1 l2
     go_upto_region 34 with fail
     generalize w'.setCell ⟨g,256,none⟩ (.slice a4 3 q4)=w5 at *
     obtain ⟨cp,w6,Xg,iY⟩:=rk w5
     have hs5:W.heap.size≤w5.heap.size:=LS.out.size
     have Hu:=(iY.block g (Array.getElem?_eq_some_iff.1 TS.out).1).trans TS.out
     have n0:=T5.out 39 (by decide)
     rw [if_neg (by decide)] at n0
     have n1:w6.cell? ⟨g,39,none⟩=some (.slice none 0 0):=by
      simp only [World.cell?,Hu]
      rw [List.getElem?_toArray,List.getElem?_append_left (by rw [TE.out];decide)]
      exact n0
     have n2:w6.frozen? ⟨g,39,none⟩=false:=by simp [World.frozen?,Hu]
     have HM:Hid (fW W.heap.size W (w6.setCell ⟨g,(39:UInt8).toNat,none⟩ (.slice (some ⟨w5.heap.size,0,none⟩) 0 cp)) g (2+1) (cs.set (39:UInt8).toNat (.slice (some ⟨w5.heap.size,0,none⟩) 0 cp)) _):=fW.mark 39 _ _ rfl Hu TE.out T5.out (bz Lr.out iY) HR.out.gB (LS.out.trans (iY.mono hs5)) (Nat.le_trans hs5 iY.size)
     clear Hu n0 iY hs5
     go_wp2_with fail
     go_roundw
     case rel=>exact ⟨_,_,.inr (.inr (.inr ⟨rfl,HM.out⟩))⟩
     case measure=>decide
    ·
     have HF:=Lib.hid hr
     clear hr
     go_wp2_with fail
     go_ret
     exact ⟨g,cs,v3,rfl,HF.out⟩
end Go.Proofs.YtiklkhbfilbpeaaGreatDoor
