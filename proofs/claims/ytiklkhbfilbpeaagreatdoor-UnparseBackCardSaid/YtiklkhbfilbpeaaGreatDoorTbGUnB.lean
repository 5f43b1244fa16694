import Derived.Test.YtiklkhbfilbpeaaGreatDoorTbGSyB
import Derived.Test.YtiklkhbfilbpeaaGreatDoorTbAppendAt
import Derived.Test.YtiklkhbfilbpeaaGreatDoorTbUnPlain
import Derived.Lib.AppendStr
import Derived.Lib.UnsafeStr
import Derived.Lib.Builder
import Derived.Laws.Externs
import Derived.Test.YtiklkhbfilbpeaaGreatDoorTbUnFew
import Derived.Test.YtiklkhbfilbpeaaGreatDoorTbGSyC
import Derived.Test.YtiklkhbfilbpeaaGreatDoorTbLxBare
set_option maxRecDepth 100000
set_option maxHeartbeats 16000000
set_option linter.unusedVariables false
set_option linter.unusedSimpArgs false
namespace Go.Proofs.YtiklkhbfilbpeaaGreatDoor.Ux
open Go.RowKit Base Lx Sy Sx Un
abbrev PQ:TypeId:=53
abbrev buT:TypeId:=51
abbrev Cm:TypeId:=5
theorem IW:(Tryz.prog.info? buT).map (fun i=>i.size)=some 2:=by kernel_rfl
theorem pK:(Tryz.prog.info? Cm).map (fun i=>(i.zero,i.size,i.bytes))=some (some (.int .u8 0),1,1):=by kernel_rfl
theorem Ru:liesAt Tryz.prog Tryz.prog.depth PQ (4 / Tryz.prog.cellsOf PQ) 1 buT 1=true:=by kernel_rfl
theorem Oj:Tryz.prog.cellsOf Cm=1:=by kernel_rfl
theorem Tb:PQ≠Cm:=by decide
structure Cf (W:World) (b B:Nat) (tv a bv:Value) (s:PS):Prop where
 box:W.heap[b]? =some (.cells #[tv,a,bv,.string (str s.2)] PQ)
 bB:B≤b
 row:W.ownsRow B Cm 1 bv s.1.length (Lib.byteCells s.1)
def Pr (W:World) (b B:Nat) (tv bv:Value) (s:PS):Prop:=Cf W b B tv (.pointer none) bv s∨Cf W b B tv (.pointer (some ⟨b,1,none⟩)) bv s
theorem Cf.lt {W:World} {b B:Nat} {tv a bv:Value} {s:PS} (h:Cf W b B tv a bv s):b < W.heap.size:=(Array.getElem?_eq_some_iff.1 h.box).1
theorem Cf.size {W:World} {b B:Nat} {tv a bv:Value} {s:PS} (h:Cf W b B tv a bv s):B≤W.heap.size:=Nat.le_of_lt (Nat.lt_of_le_of_lt h.bB h.lt)
theorem Cf.ne {W:World} {b B:Nat} {tv a bv:Value} {s:PS} (h:Cf W b B tv a bv s):bv.ownBlock≠some b:=Lib.ownBlock_ne h.row h.box Tb
theorem Cf.below {W W':World} {b B:Nat} {tv a bv:Value} {s:PS} (h:Cf W b B tv a bv s) (hb:Below W.heap.size W W'):Cf W' b B tv a bv s:=
 ⟨(hb.block b h.lt).trans h.box,h.bB,bG h.row (fun g X _ hX=>hb.block g (Array.getElem?_eq_some_iff.1 hX).1)⟩
theorem Pr.any {W:World} {b B:Nat} {tv bv:Value} {s:PS} (h:Pr W b B tv bv s):∃a,Cf W b B tv a bv s:=by
 rcases h with h | h
 · exact ⟨_,h⟩
 · exact ⟨_,h⟩
theorem Pr.lt {W:World} {b B:Nat} {tv bv:Value} {s:PS} (h:Pr W b B tv bv s):b < W.heap.size:=h.any.elim fun _ h=>h.lt
theorem Pr.size {W:World} {b B:Nat} {tv bv:Value} {s:PS} (h:Pr W b B tv bv s):B≤W.heap.size:=h.any.elim fun _ h=>h.size
theorem Pr.bB {W:World} {b B:Nat} {tv bv:Value} {s:PS} (h:Pr W b B tv bv s):B≤b:=h.any.elim fun _ h=>h.bB
theorem Pr.own {W:World} {b B:Nat} {tv bv:Value} {s:PS} (h:Pr W b B tv bv s):∀g,bv.ownBlock=some g→B≤g∧g < W.heap.size:=h.any.elim fun _ h=>h.row.lt
theorem Pr.below {W W':World} {b B:Nat} {tv bv:Value} {s:PS} (h:Pr W b B tv bv s) (hb:Below W.heap.size W W'):Pr W' b B tv bv s:=h.imp (fun h=>h.below hb) (fun h=>h.below hb)
theorem Pr.not {W:World} {b B:Nat} {tv bv:Value} {s:PS} (h:Pr W b B tv bv s) {q:Nat} {X:Array Value} {t:TypeId} {fr:Nat × Nat} (hq:W.heap[q]? =some (.cells X t fr)) (h1:t≠PQ) (h2:t≠Cm):q≠b∧bv.ownBlock≠some q:=by
 obtain ⟨a,ha⟩:=h.any
 refine ⟨fun e=>?_,Lib.ownBlock_ne ha.row hq h2⟩
 subst e
 have:=hq.symm.trans ha.box
 injection this with this
 injection this with _ this _
 exact h1 this
theorem eC {W:World} {b:Nat} {c0 c1 c2 c3:Value} (h:W.heap[b]? =some (.cells #[c0,c1,c2,c3] PQ)):
 (W.cell? ⟨b,0,none⟩=some c0∧W.cell? ⟨b,1,none⟩=some c1∧W.cell? ⟨b,2,none⟩=some c2∧W.cell? ⟨b,3,none⟩=some c3)∧W.frozen? ⟨b,0,none⟩=false∧W.frozen? ⟨b,1,none⟩=false∧W.frozen? ⟨b,2,none⟩=false∧W.frozen? ⟨b,3,none⟩=false:=by
 simp [World.cell?,World.frozen?,h]
theorem LV (s t:Nm):Lib.byteCells (s++t)=Lib.byteCells s++Lib.byteCells t:=List.map_append
def Post (W:World) (b B:Nat) (tv bv:Value) (s:PS) (r:Ending) (W':World):Prop:=∃eL,r=.returned (.tuple #[])∧Sx.aj b bv W eL W'∧Pr W' b B tv eL s
theorem Eb (W:World) (b B:Nat) (tv bv:Value) (s:PS) (h:Cf W b B tv (.pointer none) bv s):Calls Tryz.prog 74 #[.pointer (some ⟨b,1,none⟩)] W fun r W'=>r=.returned (.tuple #[])∧W'=W.setCell ⟨b,1,none⟩ (.pointer (some ⟨b,1,none⟩)):=by
 obtain ⟨⟨_,c1,_⟩,_,f1,_⟩:=eC h.box
 have lV:W.shape? b=some (PQ,4):=by
  unfold World.shape?
  rw [h.box]
  rfl
 obtain ⟨j,hj,Ll⟩:=Option.map_eq_some_iff.1 IW
 go_enter Tryz.func74,Tryz.ntmps74
 go_wp2
 rw [Lib.run_to_unsafe W ⟨b,1,none⟩ Tryz.underlying48 Tryz.underlying117 hj (by rw [Ll];decide) lV (by decide:1 < 4)]
 simp only [Result.andThen]
 rw [Oper.upon_value]
 go_wp2
 rw [run_callFunc_extern Tryz.func99 (by kernel_rfl) (by kernel_rfl) (by kernel_rfl) (e:=Extern.AbiNoEscape.same) (by kernel_rfl)]
 rw [Lib.run_noEscape]
 simp only [Result.andThen]
 rw [Oper.upon_value]
 go_wp2
 rw [Lib.run_from_unsafe W ⟨b,1,none⟩ Tryz.underlying117 Tryz.underlying48 hj lV Ru]
 simp only [Result.andThen]
 rw [Oper.upon_value]
 go_wp2
 go_end0
 exact ⟨rfl,rfl⟩
theorem G6 (W:World) (b B:Nat) (tv bv:Value) (s:PS) (h:Cf W b B tv (.pointer (some ⟨b,1,none⟩)) bv s):Calls Tryz.prog 74 #[.pointer (some ⟨b,1,none⟩)] W fun r W'=>r=.returned (.tuple #[])∧W'=W:=by
 obtain ⟨⟨_,c1,_⟩,_,f1,_⟩:=eC h.box
 obtain ⟨j,hj,Ll⟩:=Option.map_eq_some_iff.1 IW
 go_enter Tryz.func74,Tryz.ntmps74
 go_wp2
 rw [Lib.run_neq_ptr_same W _ Tryz.underlying48 hj]
 go_wp2
 go_end0
 exact ⟨rfl,rfl⟩
theorem EL (W:World) (b B:Nat) (tv bv:Value) (s:PS) (h:Pr W b B tv bv s):Calls Tryz.prog 74 #[.pointer (some ⟨b,1,none⟩)] W fun r W'=>r=.returned (.tuple #[])∧W.grownBy W' (some b)∧W'.heap.size=W.heap.size∧Cf W' b B tv (.pointer (some ⟨b,1,none⟩)) bv s:=by
 rcases h with h | h
 ·
  refine (Eb W b B tv bv s h).mono ?_
  rintro r W' ⟨rfl,rfl⟩
  have hg:W.grownBy (W.setCell ⟨b,1,none⟩ (.pointer (some ⟨b,1,none⟩))) (some b):=Sl.aq b [_] 1 W
  refine ⟨rfl,hg,by simp [World.setCell],⟨heap_setCell_same W b 1 _ _ _ h.box,h.bB,?_⟩⟩
  exact h.row.kept (row:=some b) hg (Or.inr h.ne)
 ·
  refine (G6 W b B tv bv s h).mono ?_
  rintro r W' ⟨rfl,rfl⟩
  exact ⟨rfl,⟨rfl,rfl,rfl,Nat.le_refl _,fun _ _ _=>rfl⟩,rfl,h⟩
theorem CI (W:World) (b B:Nat) (tv bv:Value) (s:PS) (h:Pr W b B tv bv s) (t:Nm) (hl:s.1.length+t.length≤140737488355328):Calls Tryz.prog 60 #[.pointer (some ⟨b,1,none⟩),.string (str t)] W fun r W'=>∃eL,r=.returned (.tuple #[.int .i64 (t.length:Int),.nilIface])∧Sx.aj b bv W eL W'∧Pr W' b B tv eL (aG t s):=by
 obtain ⟨i0,hi,hz0,hz1,hz2⟩:=info_parts pK
 have hB:=h.size
 go_enter Tryz.func60,Tryz.ntmps60
 go_wp2_with (refine (EL W b B tv bv s h).mono ?_)
 rintro e w1 ⟨rfl,hg1,hs1,h1⟩
 obtain ⟨⟨_,c1,c2,_⟩,_,f1,f2,_⟩:=eC h1.box
 go_wp2_with (at_builtin;refine Ap.gF rfl _ _ 49 9 rfl B Cm i0 (.int .u8 0) 1 1 Tryz.underlying49 ⟨_,Tryz.underlying9,fun k=>by simp⟩ hi hz0 hz1 hz2 rfl (by decide) (by decide) _ _ _ rfl h1.row _ _ _ rfl (FY (str t)) ?c3 ?c4 ?c5 ?_)
 case c3=>rw [aU];unfold maxLen;omega
 case c4=>rw [aU];omega
 case c5=>omega
 intro v' w2 hown' hgrow hat
 have hb2:w2.heap[b]? =some (.cells #[tv,.pointer (some ⟨b,1,none⟩),bv,.string (str s.2)] PQ):=by
  rw [hgrow.block b h1.lt (fun e=>h1.ne e.symm)]
  exact h1.box
 obtain ⟨⟨_,d1,d2,_⟩,_,f1',f2',_⟩:=eC hb2
 obtain ⟨ao,n',cap,rfl⟩:∃ao n' cap,v'=.slice ao n' cap:=by
  rcases hown'.2 with ⟨hv,_⟩ | ⟨g,cap,cur,hv,_⟩
  · exact ⟨_,_,_,hv⟩
  · exact ⟨_,_,_,hv⟩
 have hsz:((str t).size:Int)=(t.length:Int):=by rw [aU]
 go_wp2
 go_ret2
 have hown':w2.ownsRow B Cm 1 (.slice ao n' cap) (aG t s).1.length (Lib.byteCells (aG t s).1):=by
  have h0:w2.ownsRow B Cm 1 (.slice ao n' cap) (s.1.length+(str t).size) (Lib.byteCells s.1++Lib.byteCells t):=hown'
  rw [aU,←LV,←List.length_append] at h0
  exact h0
 have R8:w2.grownBy (w2.setCell ⟨b,2,none⟩ (.slice ao n' cap)) (some b):=Sl.aq b [_] 2 w2
 have ZaP:=Lib.ownBlock_ne hown' hb2 Tb
 refine ⟨.slice ao n' cap,rfl,⟨?_,?_,?_,?_,?_,?_⟩,Or.inr ⟨heap_setCell_same w2 b 2 _ _ _ hb2,h1.bB,hown'.kept (row:=some b) R8 (Or.inr ZaP)⟩⟩
 · exact (R8.os.trans hgrow.os).trans hg1.os
 · exact (R8.tape.trans hgrow.tape).trans hg1.tape
 · exact (R8.output.trans hgrow.output).trans hg1.output
 · exact Nat.le_trans hg1.size (Nat.le_trans hgrow.size R8.size)
 ·
  intro k hk hkb hko
  rw [R8.block k (Nat.lt_of_lt_of_le (by omega) hgrow.size) (fun e=>hkb (Option.some.inj e)),hgrow.block k (by omega) (fun e=>hko e.symm),hg1.block k hk (fun e=>hkb (Option.some.inj e))]
 ·
  intro g hg hgl
  exact hat g hg (by omega)
theorem H8 (W:World) (q:Option Addr):(Builtin.unsafeString_ #[78,3] 9 #[.pointer q,.int .i64 0]).run Tryz.prog W=.ok (.string .empty) W:=Lib.run_unsafeString_none W _ _ _ q
theorem sr (W:World) (b B:Nat) (tv bv:Value) (s:PS) (h:Pr W b B tv bv s):Calls Tryz.prog 16 #[.pointer (some ⟨b,1,none⟩)] W fun r W'=>r=.returned (.string (str s.1))∧Below B W W':=by
 obtain ⟨a,h⟩:=h.any
 have hB:=h.size
 have hcs:∀w:World,w.heap=W.heap→w.cell? ⟨b,2,none⟩=some bv:=fun w e=>by
  have:=(eC (W:=w) (by rw [e];exact h.box)).1.2.2.1
  exact this
 have c1:=hcs W.drew rfl
 have c0:=hcs W rfl
 rcases h.row.2 with ⟨rfl,h0⟩ | ⟨g,cap,cur,rfl,hbg,hg,Ey,hcm,hsz,DZ⟩
 ·
  have hs:s.1=[]:=List.eq_nil_of_length_eq_zero h0
  have hUS:=H8
  have uj:(Builtin.unsafeSliceData_ #[49] 78 #[.slice none 0 0]).run Tryz.prog W.drew=.ok (.pointer none) W.drew:=rfl
  clear hcs
  go_enter Tryz.func16,Tryz.ntmps16
  go_wp2
  go_region
  all_goals (go_wp2;go_ret;exact ⟨by rw [hs];rfl,Below.drew (Below.refl B W)⟩)
 ·
  by_cases h0:s.1=[]
  ·
   have hl0:s.1.length=0:=by rw [h0];rfl
   have hUS:=H8
   rw [hl0] at c1 c0 hcs
   by_cases hc:cap=0
   ·
    subst hc
    have ZbK:W.drew.shape? g=some (Cm,cur.size):=by
     have Ns:W.drew.heap[g]? =some (.cells cur Cm (0,0)):=hg
     unfold World.shape?
     rw [Ns]
    have uj:(Builtin.unsafeSliceData_ #[49] 78 #[.slice (some ⟨g,0,none⟩) 0 0]).run Tryz.prog W.drew=.ok (.pointer (some ⟨W.drew.heap.size,0,none⟩)) (W.drew.alloc (.view ⟨g,0,none⟩ Cm)):=
     Lib.run_unsafeSliceData_zero W.drew _ _ Cm Tryz.underlying78 ⟨g,0,none⟩ 0 (Cm,cur.size) ZbK
    have c2:(W.drew.alloc (.view ⟨g,0,none⟩ Cm)).cell? ⟨b,2,none⟩=some (.slice (some ⟨g,0,none⟩) 0 0):=by
     have hx:(W.drew.alloc (.view ⟨g,0,none⟩ Cm)).heap[b]? =_:=(Lib.alloc_old W.drew _ b h.lt).trans h.box
     have:=(eC hx).1.2.2.1
     rw [hl0] at this
     exact this
    have c3:(W.alloc (.view ⟨g,0,none⟩ Cm)).drew.cell? ⟨b,2,none⟩=some (.slice (some ⟨g,0,none⟩) 0 0):=c2
    clear hcs
    go_enter Tryz.func16,Tryz.ntmps16
    go_wp2
    go_region
    all_goals (go_wp2;go_ret;exact ⟨by rw [h0];rfl,(Below.drew (Below.refl B W)).alloc hB _⟩)
   ·
    have uj:(Builtin.unsafeSliceData_ #[49] 78 #[.slice (some ⟨g,0,none⟩) 0 cap]).run Tryz.prog W.drew=.ok (.pointer (some ⟨g,0,none⟩)) W.drew:=Lib.run_unsafeSliceData_row _ _ _ _ _ _ hc
    clear hcs hc
    go_enter Tryz.func16,Tryz.ntmps16
    go_wp2
    go_region
    all_goals (go_wp2;go_ret;exact ⟨by rw [h0];rfl,Below.drew (Below.refl B W)⟩)
  ·
   have hl0:s.1.length≠0:=by simpa using h0
   have uj:(Builtin.unsafeSliceData_ #[49] 78 #[.slice (some ⟨g,0,none⟩) s.1.length cap]).run Tryz.prog W.drew=.ok (.pointer (some ⟨g,0,none⟩)) W.drew:=Lib.run_unsafeSliceData_row _ _ _ _ _ _ (by omega)
   have hUS:(Builtin.unsafeString_ #[78,3] 9 #[.pointer (some ⟨g,0,none⟩),.int .i64 s.1.length]).run Tryz.prog W.drew=.ok (.string ⟨s.1.toArray⟩) (W.drew.freeze ⟨g,0,none⟩ s.1.length):=by
    refine Lib.run_unsafeString_row W.drew 78 3 9 Cm Tryz.underlying78 Oj g cur.size ?_ s.1 h0 (by omega) (by unfold maxLen at hcm;omega) ?_
    ·
     have Ns:W.drew.heap[g]? =some (.cells cur Cm (0,0)):=hg
     unfold World.shape?
     rw [Ns]
    ·
     intro j x hx
     exact h.row.cells (g:=g) rfl j (.int .u8 x.toNat) (by simp [Lib.byteCells,hx])
   clear hcs
   go_enter Tryz.func16,Tryz.ntmps16
   go_wp2
   go_region
   all_goals (go_wp2;go_ret;exact ⟨rfl,Lib.below_freeze (Below.drew (Below.refl B W)) (p:=⟨g,0,none⟩) hbg _⟩)
abbrev big:Nat:=140737488355328
def gb (l:List Nm) (s:PS):PS:=(s.1++l.flatten,s.2)
theorem Ml (t:Nm) (s:PS):gb [t] s=aG t s:=by simp [gb,aG]
theorem zG {l:List Nm} {i:Nat} {y:Nm} (hi:l[i]? =some y) (s:PS):aG y (gb (l.take i) s)=gb (l.take (i+1)) s:=by
 unfold aG gb
 rw [List.take_add_one,hi,List.flatten_append,←List.append_assoc]
 simp
theorem Ca (l:List Nm) (i:Nat):(l.take i).flatten.length≤l.flatten.length:=by
 have:l.flatten=(l.take i).flatten++(l.drop i).flatten:=by rw [←List.flatten_append,List.take_append_drop]
 rw [this,List.length_append]
 omega
def LB (v:Value):Nat:=match v with | .int _ z=>z.toNat | _=>0
theorem bQ (W:World) (b B:Nat) (tv bv:Value) (s:PS) (h:Pr W b B tv bv s) (g c:Nat) (l:List Nm) (hg:W.heap[g]? =some (.cells (l.map sv).toArray eZ)) (hl:s.1.length+l.flatten.length≤big) (hn:l.length≤1000):
 Calls Tryz.prog 39 #[.pointer (some ⟨b,0,none⟩),.slice (some ⟨g,0,none⟩) l.length c] W fun r W'=>Post W b B tv bv (gb l s) r W':=by
 have HG:=Lib.hid hg
 have HL:=Lib.hid hl
 have HP:=Lib.hid h
 have HN:=Lib.hid hn
 obtain ⟨n,bO⟩:∃n,l.length=n:=⟨_,rfl⟩
 have dA:=Lib.hid bO
 have uz:n≤1000:=by omega
 have HQ:=Lib.hid (h.not hg (by decide) (by decide))
 rw [bO]
 clear hg hl h hn bO
 go_enter Tryz.func39,Tryz.ntmps39
 go_wp2_with fail
 go_loopw [8] (fun v8 wr=>∃(i:Nat) (eL:Value),i≤n∧v8=.int .i64 (i:Int)∧Sx.aj b bv W eL wr∧Pr wr b B tv eL (gb (l.take i) s)) (fun v8 _=>n - LB v8)
 case atStart=>exact ⟨0,bv,Nat.zero_le _,rfl,Sx.aj.refl _ _ _,by simpa [gb] using HP.out⟩
 case round=>
  obtain ⟨i,eL,hi,rfl,hT,hR⟩:=hrel
  have HT:=Lib.hid hT
  have HR:=Lib.hid hR
  clear hT hR
  by_cases kG:i < n
  case neg=>
   obtain rfl:i=n:=by omega
   have a3:decide (i < i)=false:=decide_eq_false (by omega)
   have a1:decide ((i:Int) < (i:Int))=false:=decide_eq_false (by omega)
   have a2:¬((i:Int) < (i:Int)):=by omega
   go_wp2_with fail
   go_end0
   refine ⟨eL,rfl,HT.out,?_⟩
   have:=HR.out
   rwa [←dA.out,List.take_length] at this
  have Am:i < l.length:=by have:=dA.out;omega
  have XI:=fun w'=>Ou (g:=g) (o:=0) (n:=n) (c:=c) i kG .i64 w'
  have hgr:wr.heap[g]? =some (.cells (l.map sv).toArray eZ):=(HT.out.block g (Array.getElem?_eq_some_iff.1 HG.out).1 HQ.out.1 HQ.out.2).trans HG.out
  obtain ⟨y,hy⟩:∃y,l[i]? =some y:=⟨_,List.getElem?_eq_getElem Am⟩
  have k0:wr.cell? ⟨g,i,none⟩=some (.string (str y)):=by
   rw [Lib.cell_of_heap hgr]
   simp [hy,sv]
  have HY:=Lib.hid hy
  clear hy hgr Am
  have a3:decide (i < n)=true:=decide_eq_true (by omega)
  have a1:decide ((i:Int) < (n:Int))=true:=decide_eq_true (by omega)
  have a2:(i:Int) < (n:Int):=by omega
  have hlen:(gb (l.take i) s).1.length+y.length≤140737488355328:=by
   have h1:=zG HY.out s
   have h2:=Ca l (i+1)
   have h3:_≤140737488355328:=HL.out
   have h4:=congrArg (fun x:PS=>x.1.length) h1
   simp only [aG,gb,List.length_append] at h4 ⊢
   omega
  have dO:=Lib.hid hlen
  clear hlen
  go_wp2_with (refine (CI wr b B tv eL _ HR.out y dO.out).mono ?_)
  rintro e w1 ⟨xE,rfl,hT1,hP1⟩
  go_wp2
  refine ⟨⟨i+1,xE,by omega,by simp,HT.out.trans hT1,?_⟩,?_⟩
  ·
   rw [←zG HY.out]
   exact hP1
  · simp [LB];omega
structure dX (W:World) (B:Nat) (tv:Value) (l:List Nd):Prop where
 row:lu W 0 (fun g=>g < B) tv l
 low:∀g,tv.ownBlock=some g→g < B
theorem dX.below {W W':World} {B:Nat} {tv:Value} {l:List Nd} (h:dX W B tv l) (hb:Below B W W'):dX W' B tv l:=
 ⟨h.row.keep (fun g X hg _=>hb.block g (h.low g hg)) (fun g X t hg _ _=>hb.block g hg),h.low⟩
theorem bH {W W':World} {b B:Nat} {tv bv eL:Value} {s:PS} (h:Pr W b B tv bv s) (ht:Sx.aj b bv W eL W'):Below B W W':=ht.below h.bB (fun g hg=>(h.own g hg).1) h.size
theorem Gn {b:Nat} {bv eL:Value} {W W':World} {o:Obj} (h:Sx.aj b bv (W.alloc o) eL W'):Sx.aj b bv W eL W':=(Sx.aj.of_below (Below.refl _ _ |>.alloc (Nat.le_refl _) _)).trans h
theorem Pr.alloc {W:World} {b B:Nat} {tv bv:Value} {s:PS} (h:Pr W b B tv bv s) (o:Obj):Pr (W.alloc o) b B tv bv s:=h.below ((Below.refl _ _).alloc (Nat.le_refl _) _)
theorem Df (W:World) (o:Obj):(W.alloc o).heap[W.heap.size]? =some o:=Array.getElem?_push_size
theorem rM (W:World) (b B:Nat) (tv bv:Value) (s:PS) (h:Pr W b B tv bv s) (c:Nat) (l:List Nm) (hl:s.1.length+l.flatten.length≤big) (hn:l.length≤1000):
 Calls Tryz.prog 39 #[.pointer (some ⟨b,0,none⟩),.slice (some ⟨W.heap.size,0,none⟩) l.length c] (W.alloc (.cells (l.map sv).toArray eZ)) fun r W'=>Post W b B tv bv (gb l s) r W':=by
 refine (bQ _ b B tv bv s (h.alloc _) _ c l (Df _ _) hl hn).mono ?_
 rintro r W' ⟨eL,h1,h2,h3⟩
 exact ⟨eL,h1,Gn h2,h3⟩
theorem cK (W:World) (b B:Nat) (tv bv:Value) (s:PS) (h:Pr W b B tv bv s) (t:Nm) (hl:s.1.length+t.length≤big):
 Calls Tryz.prog 39 #[.pointer (some ⟨b,0,none⟩),.slice (some ⟨W.heap.size,0,none⟩) 1 1] (W.alloc (.cells #[.string (str t)] eZ)) fun r W'=>Post W b B tv bv (aG t s) r W':=by
 have:=rM W b B tv bv s h 1 [t] (by simpa using hl) (by simp)
 rw [Ml] at this
 exact this
theorem Cf.setB {W:World} {b B:Nat} {tv a bv:Value} {s:PS} (h:Cf W b B tv a bv s) (t:Nm):Cf (W.setCell ⟨b,3,none⟩ (.string (str t))) b B tv a bv (s.1,t):=
 ⟨heap_setCell_same W b 3 _ _ _ h.box,h.bB,h.row.kept (row:=some b) (Sl.aq b [_] 3 W) (Or.inr h.ne)⟩
theorem Pr.setB {W:World} {b B:Nat} {tv bv:Value} {s:PS} (h:Pr W b B tv bv s) (t:Nm):Pr (W.setCell ⟨b,3,none⟩ (.string (str t))) b B tv bv (s.1,t)∧Sx.aj b bv W bv (W.setCell ⟨b,3,none⟩ (.string (str t))):=
 ⟨h.imp (fun h=>h.setB t) (fun h=>h.setB t),Sx.aj.of_box (Sl.aq b [_] 3 W)⟩
theorem lh (W:World) (b B:Nat) (tv bv:Value) (s:PS) (h:Pr W b B tv bv s) (hl:aT s+1≤big):
 Calls Tryz.prog 58 #[.pointer (some ⟨b,0,none⟩)] W fun r W'=>Post W b B tv bv (mA s) r W':=by
 obtain ⟨a,ha⟩:=h.any
 obtain ⟨⟨_,_,_,c3⟩,_⟩:=eC ha.box
 have hput:=rM W b B tv bv s h 2 [[10],s.2] (by unfold aT at hl;simp;omega) (by simp)
 have HP:=Lib.hid hput
 clear hput ha
 go_enter Tryz.func58,Tryz.ntmps58
 go_wp2_with (refine HP.out.mono ?_)
 rintro r w1 ⟨xE,rfl,ht,hp⟩
 have HT:=Lib.hid ht
 have HQ:=Lib.hid hp
 obtain ⟨a,ha⟩:=hp.any
 have f3:=(eC ha.box).2.2.2.2
 have d3:=(eC ha.box).1.2.2.2
 clear ha hp ht
 go_wp2
 go_end0
 have hs:=HQ.out.setB []
 refine ⟨xE,rfl,HT.out.trans hs.2,?_⟩
 have e:mA s=((gb [[10],s.2] s).1,([]:Nm)):=by simp [mA,gb]
 rw [e]
 exact hs.1
def lD (l:List Nd) (b B:Nat) (tv:Value) (k:Int) (f:PS→PS) (c:Nat):Prop:=∀(W:World) (bv:Value) (s:PS),Pr W b B tv bv s→dX W B tv l→aT s+c≤big→Calls Tryz.prog 14 #[.pointer (some ⟨b,0,none⟩),.int .i64 k] W fun r W'=>Post W b B tv bv (f s) r W'
theorem bZ (W:World) (b B:Nat) (tv bv:Value) (s:PS) (l:List Nd) (h:Pr W b B tv bv s) (ht:dX W B tv l) (w:Nm) (k:Int) (f:PS→PS) (c:Nat) (hk:lD l b B tv k f c) (hl:aT s+w.length+1+c≤big):
 Calls Tryz.prog 59 #[.pointer (some ⟨b,0,none⟩),.string (str w),.int .i64 k] W fun r W'=>Post W b B tv bv (aQ w f s) r W':=by
 have HP:=Lib.hid (cK W b B tv bv s h w (by unfold aT at hl;omega))
 have HL:=Lib.hid hl
 have HK:=Lib.hid hk
 have HR:=Lib.hid h
 have VW:=Lib.hid ht
 clear hl hk h ht
 go_enter Tryz.func59,Tryz.ntmps59
 go_wp2_with (refine HP.out.mono ?_)
 rintro r w1 ⟨xE,rfl,nX,yT⟩
 have wK:=Lib.hid nX
 have LJ:Hid (aT (aG w s)+1+c≤big):=by have:=HL.out;unfold aT aG at *;simp only [List.length_append];show _≤_;omega
 have HC:=Lib.hid (lh w1 b B tv xE _ yT (by have:=LJ.out;omega))
 clear nX yT
 go_wp2_with (refine HC.out.mono ?_)
 rintro r w2 ⟨jA,rfl,ep,fh⟩
 have fK:=Lib.hid (wK.out.trans ep)
 have X8:=Lib.hid (HK.out w2 jA _ fh (VW.out.below (bH HR.out fK.out)) (by have:=LJ.out;unfold aT mA aG at *;simp only [List.length_append,List.length_cons,List.length_nil] at *;omega))
 clear ep fh
 go_wp2_with (refine X8.out.mono ?_)
 rintro r w3 ⟨qs,rfl,gI,lp⟩
 go_wp2
 go_end0
 exact ⟨qs,rfl,fK.out.trans gI,lp⟩
theorem zq (W:World) (n:Nat) (hn:n≤99):Calls Tryz.prog 61 #[.int .i64 (n:Int)] W fun e w'=>e=.returned (.string (str (Lib.itoa (n:Int))))∧w'=W:=by
 refine (Tryz.strconv_Itoa_small n (by omega) W).mono ?_
 rintro e w' ⟨rfl,rfl⟩
 refine ⟨?_,rfl⟩
 unfold Lib.itoa
 rw [if_neg (by omega)]
 rfl
theorem R6 {w:World} {ad:Addr} {v:Value} (h:w.cell? ad=some v):(Instr.loadAt 3 (.pointer (some ad))).run Tryz.prog w=.ok v w:=Ap.aW (by simp [isAgg]) h
theorem Jj {w:World} {ad:Addr} {v:Value} (h:w.cell? ad=some v):(Instr.loadAt 9 (.pointer (some ad))).run Tryz.prog w=.ok v w:=Ap.aW (by simp [isAgg]) h
theorem bE {W:World} {N:Nat} {x:dZ} (h:W.heap[N]? =some (.cells (lr x).toArray gO)):W.cell? ⟨N,0,none⟩=some (.int .i64 (x.fd:Int))∧W.cell? ⟨N,1,none⟩=some (.string (str x.o))∧W.cell? ⟨N,2,none⟩=some (.string (str x.w))∧W.cell? ⟨N,3,none⟩=some (.string (str x.b)):=by
 unfold World.cell?
 simp only [h]
 exact ⟨rfl,rfl,rfl,rfl⟩
def ZH (z:dZ):Value:=.agg #[.int .i64 (z.fd:Int),.string (str z.o),.string (str z.w),.string (str z.b)]
theorem iB (W:World) (b B:Nat) (tv bv:Value) (s:PS) (h:Pr W b B tv bv s) (z:dZ) (hf:z.fd≤99) (hw:z.w.length≤100000) (hl:aT s+gV z≤big):
 Calls Tryz.prog 40 #[.pointer (some ⟨b,0,none⟩),ZH z] W fun r W'=>Post W b B tv bv (fX z s) r W':=by
 obtain ⟨w1,N,BV,hN,XP,Li,hs1⟩:=ei W (lr z).toArray gO
 have HR:Hid (Pr w1 b B tv bv s):=h.below (by rw [hN];exact Li)
 have HN:=Lib.hid XP
 have HB:Hid (Below W.heap.size W w1):=by show Below _ _ _;rw [hN];exact Li
 have HF:=Lib.hid hf
 have HW:=Lib.hid hw
 have HL:=Lib.hid hl
 have HS:Hid (N < w1.heap.size∧N≠b∧bv.ownBlock≠some N):=⟨by omega,HR.out.not XP (by decide) (by decide)⟩
 have BU:W.alloc (.cells #[.int .i64 (z.fd:Int),.string (str z.o),.string (str z.w),.string (str z.b)] gO)=w1:=BV
 unfold ZH
 clear hf hw hl h Li hs1 XP BV
 go_enter Tryz.func40,Tryz.ntmps40
 go_upto_region 1 with fail
 refine Rp.cq (fun _ _=>False) 10 [] [Rg.Is (.pointer (some ⟨b,0,none⟩)),Rg.Is (.pointer (some ⟨N,0,none⟩)),Rg.Is (.int .i64 (z.fd:Int)),Rg.Is (.string (str (Lib.itoa (z.fd:Int)))),Rg.Is (.pointer (some ⟨N,1,none⟩)),Rg.Is (.string (str z.o)),Rg.Is (.pointer (some ⟨N,2,none⟩)),Rg.Is (.string (str z.w)),(fun u y=>∃g,u=.slice (some ⟨g,0,none⟩) 3 3∧w1.heap.size≤g∧y.heap[g]? =some (.cells #[.string (str (Lib.itoa (z.fd:Int))),.string (str z.o),.string (str z.w)] eZ)),(fun u y=>∃eL,Sx.aj b bv w1 eL y∧Pr y b B tv eL (gb [Lib.itoa (z.fd:Int),z.o,z.w] s))] (fun _ _=>True) (fun ls x=>ls 9=false→Below w1.heap.size w1 x) (fun k x y=>if k=9 then ∃eL,Sx.aj b bv x eL y else Below x.heap.size x y) (by kernel_rfl) (by kernel_rfl) (of_decide_eq_true (by kernel_rfl)) (by kernel_rfl) (by kernel_rfl) trivial (fun _=>⟨rfl,rfl,rfl,Nat.le_refl _,fun _ _=>rfl⟩) (fun ls mC x e h1 h2=>h1 (by rw [e];exact h2)) (fun _ _ _ _ _=>trivial) (fun i ls x _ h1=>by rw [show ([]:List Bool).getD i true=true from rfl] at h1;cases h1) ?_ ⟨rfl,rfl,rfl,rfl,rfl,rfl,rfl,rfl,rfl,rfl,trivial⟩ ⟨?_,?_,?_,?_,?_,?_,?_,?_,?_,?_,trivial⟩ ?_ ?_
 ·
  intro i k u x y hik _ h1 hK
  match i,h1,hik with
  | 0,h1,_=>exact h1
  | 1,h1,_=>exact h1
  | 2,h1,_=>exact h1
  | 3,h1,_=>exact h1
  | 4,h1,_=>exact h1
  | 5,h1,_=>exact h1
  | 6,h1,_=>exact h1
  | 7,h1,_=>exact h1
  | 8,h1,hik=>
    obtain ⟨g,h2,h4,h5⟩:=h1
    have R8:=(Array.getElem?_eq_some_iff.1 h5).1
    by_cases hk:k=9
    ·
     subst hk
     rw [if_pos rfl] at hK
     obtain ⟨eL,hK⟩:=hK
     exact ⟨g,h2,h4,(hK.block g R8 (fun e=>by have:=HR.out.lt;omega) (fun e=>by have:=(HR.out.own g e).2;omega)).trans h5⟩
    ·
     rw [if_neg hk] at hK
     exact ⟨g,h2,h4,(hK.block g R8).trans h5⟩
  | 9,h1,hik=>
    rw [if_neg (fun e=>hik e.symm)] at hK
    obtain ⟨eL,h2,h3⟩:=h1
    exact ⟨eL,h2.trans (Sx.aj.of_below hK),h3.below hK⟩
  | _+10,_,_=>trivial
 ·
  intro _ b9 x ls hR hS ai bI bf hk
  have h0:b9.eval (.tmp 0)=.pointer (some ⟨b,0,none⟩):=Eq.mp (by kernel_rfl) (hk 0 (by decide))
  have lA:ls 9=false:=bf [] 9 _ rfl (by kernel_rfl)
  have hb:=hS lA
  refine Rp.ag ?_
  exact Rg.az ⟨by rw [if_neg (by decide)];exact Below.refl _ _,h0,fun hh=>hS hh⟩
 ·
  intro _ b9 x ls hR hS ai bI bf hk
  have h3:b9.eval (.tmp 3)=.pointer (some ⟨N,0,none⟩):=Eq.mp (by kernel_rfl) (hk 3 (by decide))
  have lA:ls 9=false:=bf [3,2] 9 _ rfl (by kernel_rfl)
  have hb:=hS lA
  refine Rp.ag ?_
  exact Rs.aR _ _ h3 (Hh N 0 0 (by decide) x) ⟨by rw [if_neg (by decide)];exact Below.refl _ _,rfl,fun hh=>hS hh⟩
 ·
  intro _ b9 x ls hR hS ai bI bf hk
  have h7:b9.eval (.tmp 7)=.pointer (some ⟨N,0,none⟩):=Eq.mp (by kernel_rfl) (hk 7 (by decide))
  have lA:ls 9=false:=bf [3] 9 _ rfl (by kernel_rfl)
  have hb:=hS lA
  refine Rp.ag ?_
  exact Rg.aK _ _ h7 (R6 (bE ((hb.block N HS.out.1).trans HN.out)).1) ⟨by rw [if_neg (by decide)];exact Below.refl _ _,rfl,fun hh=>hS hh⟩
 ·
  intro _ b9 x ls hR hS ai bI bf hk
  have h8:b9.eval (.tmp 8)=.int .i64 (z.fd:Int):=Eq.mp (by kernel_rfl) (hk 8 (by decide))
  have lA:ls 9=false:=bf [] 9 _ rfl (by kernel_rfl)
  have hb:=hS lA
  refine Rp.ag ?_
  refine Rg.bW #[.int .i64 (z.fd:Int)] Tryz.func61 (by kernel_rfl) (by kernel_rfl) (by simp [h8]) (zq x z.fd HF.out) ?_
  rintro e w' ⟨rfl,rfl⟩
  exact ⟨_,rfl,by rw [if_neg (by decide)];exact Below.refl _ _,rfl,fun hh=>hS hh⟩
 ·
  intro _ b9 x ls hR hS ai bI bf hk
  have h3:b9.eval (.tmp 3)=.pointer (some ⟨N,0,none⟩):=Eq.mp (by kernel_rfl) (hk 3 (by decide))
  have lA:ls 9=false:=bf [8,5] 9 _ rfl (by kernel_rfl)
  have hb:=hS lA
  refine Rp.ag ?_
  exact Rs.aR _ _ h3 (Hh N 0 1 (by decide) x) ⟨by rw [if_neg (by decide)];exact Below.refl _ _,rfl,fun hh=>hS hh⟩
 ·
  intro _ b9 x ls hR hS ai bI bf hk
  have h10:b9.eval (.tmp 10)=.pointer (some ⟨N,1,none⟩):=Eq.mp (by kernel_rfl) (hk 10 (by decide))
  have lA:ls 9=false:=bf [8] 9 _ rfl (by kernel_rfl)
  have hb:=hS lA
  refine Rp.ag ?_
  exact Rg.aK _ _ h10 (Jj (bE ((hb.block N HS.out.1).trans HN.out)).2.1) ⟨by rw [if_neg (by decide)];exact Below.refl _ _,rfl,fun hh=>hS hh⟩
 ·
  intro _ b9 x ls hR hS ai bI bf hk
  have h3:b9.eval (.tmp 3)=.pointer (some ⟨N,0,none⟩):=Eq.mp (by kernel_rfl) (hk 3 (by decide))
  have lA:ls 9=false:=bf [8,7] 9 _ rfl (by kernel_rfl)
  have hb:=hS lA
  refine Rp.ag ?_
  exact Rs.aR _ _ h3 (Hh N 0 2 (by decide) x) ⟨by rw [if_neg (by decide)];exact Below.refl _ _,rfl,fun hh=>hS hh⟩
 ·
  intro _ b9 x ls hR hS ai bI bf hk
  have zL:b9.eval (.tmp 12)=.pointer (some ⟨N,2,none⟩):=Eq.mp (by kernel_rfl) (hk 12 (by decide))
  have lA:ls 9=false:=bf [8] 9 _ rfl (by kernel_rfl)
  have hb:=hS lA
  refine Rp.ag ?_
  exact Rg.aK _ _ zL (Jj (bE ((hb.block N HS.out.1).trans HN.out)).2.2.1) ⟨by rw [if_neg (by decide)];exact Below.refl _ _,rfl,fun hh=>hS hh⟩
 ·
  intro _ b9 x ls hR hS ai bI bf hk
  have h9:b9.eval (.tmp 9)=.string (str (Lib.itoa (z.fd:Int))):=Eq.mp (by kernel_rfl) (hk 9 (by decide))
  have h11:b9.eval (.tmp 11)=.string (str z.o):=Eq.mp (by kernel_rfl) (hk 11 (by decide))
  have E0:b9.eval (.tmp 13)=.string (str z.w):=Eq.mp (by kernel_rfl) (hk 13 (by decide))
  have lA:ls 9=false:=bf [] 9 _ rfl (by kernel_rfl)
  have hb:=hS lA
  refine Rp.ag ?_
  have cU:=(Below.refl x.heap.size x).alloc (Nat.le_refl _) (.cells #[.string (str (Lib.itoa (z.fd:Int))),.string (str z.o),.string (str z.w)] eZ)
  exact Rg.di #[(0,.string (str (Lib.itoa (z.fd:Int)))),(1,.string (str z.o)),(2,.string (str z.w))] _ (by simp [h9,h11,E0]) (by go_simp) ⟨by rw [if_neg (by decide)];exact cU,⟨x.heap.size,rfl,hb.size,Df x _⟩,fun hh=>(hS hh).trans (cU.mono (hS hh).size)⟩
 ·
  intro _ b9 x ls hR hS ai bI bf hk
  have h6:b9.eval (.tmp 6)=.pointer (some ⟨b,0,none⟩):=Eq.mp (by kernel_rfl) (hk 6 (by decide))
  have U2:(fun u y=>∃g,u=.slice (some ⟨g,0,none⟩) 3 3∧w1.heap.size≤g∧y.heap[g]? =some (.cells #[.string (str (Lib.itoa (z.fd:Int))),.string (str z.o),.string (str z.w)] eZ)) (b9.eval (.tmp 14)) x:=Eq.mp (by kernel_rfl) (hk 14 (by decide))
  have hb:=hS ai
  obtain ⟨g,sK,hq4,Wb⟩:=U2
  refine Rp.bW #[.pointer (some ⟨b,0,none⟩),.slice (some ⟨g,0,none⟩) 3 3] Tryz.func39 (by kernel_rfl) (by kernel_rfl) (by simp [h6,sK]) (bQ x b B tv bv s (HR.out.below hb) g 3 [Lib.itoa (z.fd:Int),z.o,z.w] Wb (by have:=HL.out;unfold aT gV at this;simp only [List.flatten_cons,List.flatten_nil,List.length_append,List.length_nil];omega) (by simp)) ?_
  rintro e w' ⟨eL,he,ht,hp⟩
  exact .inl ⟨_,he,by rw [if_pos rfl];exact ⟨eL,ht⟩,⟨eL,(Sx.aj.of_below hb).trans ht,hp⟩,fun hh=>by simp [Rs.upd] at hh⟩
 ·
  intro ch a' w' yN hD
  exact hD.elim
 intro vals wD ls _ uj _ hL
 obtain ⟨g0,g1,g2,g3,g4,g5,g6,g7,g8,g9,_⟩:=hL
 obtain ⟨xE,nX,yT⟩:∃eL,Sx.aj b bv w1 eL wD∧Pr wD b B tv eL (gb [Lib.itoa (z.fd:Int),z.o,z.w] s):=g9
 simp only [Rg.bh,List.take_succ_cons,List.take_zero,List.drop_succ_cons,List.drop_zero,List.setIfInBounds_toArray,List.set_cons_succ,List.set_cons_zero]
 have XT:=(nX.block N HS.out.1 HS.out.2.1 HS.out.2.2).trans HN.out
 obtain ⟨c0,c1,c2,c3⟩:=bE XT
 have wK:Hid (Sx.aj b bv W xE wD):=(Sx.aj.of_below HB.out).trans nX
 have Dc:=Lib.hid yT
 have HND:=Lib.hid XT
 have E2:Hid (N < wD.heap.size∧N≠b∧xE.ownBlock≠some N):=⟨(Array.getElem?_eq_some_iff.1 XT).1,yT.not XT (by decide) (by decide)⟩
 have LQ:gb [Lib.itoa (z.fd:Int),z.o,z.w] s=(s.1++(Lib.itoa (z.fd:Int)++(z.o++z.w)),s.2):=by simp [gb]
 rw [LQ] at Dc
 clear nX yT g0 g1 g2 g3 g4 g5 g6 g7 g8 XT LQ
 by_cases ho:z.o=[60,60]
 ·
  have HO:=Lib.hid ho
  have t1:((str z.o).toList==[60,60])=true:=by rw [ho,lX];rfl
  clear ho
  go_wp2_with fail
  refine (xx wD z.w HW.out).mono ?_
  rintro r w2 ⟨rfl,hb2⟩
  have fK:Hid (Sx.aj b bv W xE w2):=wK.out.trans (Sx.aj.of_below hb2)
  have E8:Hid (Pr w2 b B tv xE (s.1++(Lib.itoa (z.fd:Int)++(z.o++z.w)),s.2)):=Dc.out.below hb2
  have hN2:=(hb2.block N E2.out.1).trans HND.out
  obtain ⟨_,_,_,c3⟩:=bE hN2
  obtain ⟨a,ha⟩:=E8.out.any
  have d3:=(eC ha.box).1.2.2.2
  have f3:=(eC ha.box).2.2.2.2
  obtain ⟨q,hq⟩:∃q,bare z.w=q:=⟨_,rfl⟩
  have rB:q.length≤z.w.length:=by rw [←hq];exact List.length_filter_le _ _
  have HQ:=Lib.hid hq
  rw [hq]
  have e1:str z.b++str q=str (z.b++q):=bn _ _
  have e2:str (z.b++q)++⟨#[10]⟩=str (z.b++(q++[10])):=by rw [←List.append_assoc];exact bn _ [10]
  have e3:str s.2++str (z.b++(q++[10]))=str (s.2++(z.b++(q++[10]))):=bn _ _
  have l1:(str z.b).size+(str q).size≤9223372036854775807:=by have:=HL.out;unfold aT gV big at this;simp only [aU];omega
  have l2:(str (z.b++q)).size+1≤9223372036854775807:=by have:=HL.out;unfold aT gV big at this;simp only [aU,List.length_append];omega
  have l3:(str s.2).size+(str (z.b++(q++[10]))).size≤9223372036854775807:=by have:=HL.out;unfold aT gV big at this;simp only [aU,List.length_append,List.length_cons,List.length_nil];omega
  clear ha hN2 hb2 hq rB
  go_upto_region 4 with fail
  go_region
  all_goals
   go_end0
   have hs:=E8.out.setB (s.2++(z.b++(q++[10])))
   have hd:=Below.drew (Below.refl (w2.setCell ⟨b,3,none⟩ (.string (str (s.2++(z.b++(q++[10])))))).heap.size (w2.setCell ⟨b,3,none⟩ (.string (str (s.2++(z.b++(q++[10])))))))
   refine ⟨xE,rfl,(fK.out.trans hs.2).trans (Sx.aj.of_below hd),?_⟩
   have e:fX z s=(s.1++(Lib.itoa (z.fd:Int)++(z.o++z.w)),s.2++(z.b++(q++[10]))):=by unfold fX;rw [if_pos HO.out,HQ.out]
   rw [e]
   exact hs.1.below hd
 ·
  have HO:=Lib.hid ho
  have t1:((str z.o).toList==[60,60])=false:=by rw [lX];exact beq_eq_false_iff_ne.2 ho
  clear ho
  go_wp2_with fail
  go_end0
  refine ⟨xE,rfl,wK.out,?_⟩
  have e:fX z s=(s.1++(Lib.itoa (z.fd:Int)++(z.o++z.w)),s.2):=by unfold fX;rw [if_neg HO.out]
  rw [e]
  exact Dc.out
theorem MI:(Tryz.prog.info? dU).map (fun i=>(i.zero,i.size,i.bytes))=some (some (.int .i64 0),1,8):=by kernel_rfl
theorem vT {g n c:Nat} (j:Nat) (hj:j < n) (w':World):(Instr.indexAt 35 (.slice (some ⟨g,0,none⟩) n c) (.int .i64 (j:Int))).run Tryz.prog w'=.ok (.pointer (some ⟨g,j,none⟩)) w':=by
 obtain ⟨i,hi,_,hs,_⟩:=info_parts MI
 have he:Tryz.prog.elem 35=dU:=by simp [Program.elem,Tryz.underlying35]
 rw [run_indexAt_slice w' 35 _ n c .i64 j (by rw [he];exact Tryz.underlying35),if_pos ⟨by omega,by omega⟩,he]
 simp [sizeOf,typeInfo,hi,hs,Result.andThen,Addr.add_lit]
def qV (W:World) (B:Nat) (u:Value) (ks:List Nat):Prop:=∃a c,u=.slice a ks.length c∧∀(j k:Nat),ks[j]? =some k→∃g,a=some ⟨g,0,none⟩∧g < B∧W.cell? ⟨g,j,none⟩=some (.int .i64 (k:Int))
theorem qV.below {W W':World} {B:Nat} {u:Value} {ks:List Nat} (h:qV W B u ks) (hb:Below B W W'):qV W' B u ks:=by
 obtain ⟨a,c,h1,h2⟩:=h
 refine ⟨a,c,h1,fun j k hj=>?_⟩
 obtain ⟨g,h3,h4,h5⟩:=h2 j k hj
 refine ⟨g,h3,h4,?_⟩
 unfold World.cell? at h5 ⊢
 rw [hb.block g h4]
 exact h5
theorem kq {W:World} {B:Nat} {u:Value} {ks:List Nat} (h:W.ownsRow 0 dU 1 u ks.length (ks.map iv)) (hq:∀g,u.ownBlock=some g→g < B):qV W B u ks:=by
 rcases h.2 with ⟨hv,h0⟩ | ⟨g,cap,cur,hv,_,_,_,_,_,_⟩
 ·
  refine ⟨none,0,by rw [hv,h0],fun j k hj=>?_⟩
  have hn:ks=[]:=List.eq_nil_of_length_eq_zero h0
  rw [hn] at hj
  cases hj
 ·
  refine ⟨some ⟨g,0,none⟩,cap,hv,fun j k hj=>⟨g,rfl,hq g (by rw [hv];rfl),?_⟩⟩
  have:=h.cells (g:=g) (by rw [hv];rfl) j (iv k) (by simp [hj])
  simpa [Addr.add_lit,iv] using this
def yI (m:Nat) (c:Nat→Nat):List Nat→Nat
 | []=>0
 | k::ks=>c k+(ks.map fun k=>m+c k).sum
theorem gY (W:World) (b B:Nat) (tv bv:Value) (s:PS) (l:List Nd) (h:Pr W b B tv bv s) (ht:dX W B tv l) (sep:Nm) (u:Value) (ks:List Nat) (hu:qV W B u ks) (f:Nat→PS→PS) (c:Nat→Nat) (hk:∀k∈ks,lD l b B tv (k:Int) (f k) (c k)) (hc:∀k∈ks,∀s,aT (f k s)≤aT s+c k) (hn:ks.length≤100000) (hl:aT s+yI sep.length c ks≤big):
 Calls Tryz.prog 57 #[.pointer (some ⟨b,0,none⟩),.string (str sep),u] W fun r W'=>Post W b B tv bv (iD sep f ks s) r W':=by
 obtain ⟨ua,uc,rfl,hcs⟩:=hu
 have UC:Hid (∀W',Below B W W'→∀(j k:Nat),ks[j]? =some k→∃g,ua=some ⟨g,0,none⟩∧g < B∧W'.cell? ⟨g,j,none⟩=some (.int .i64 (k:Int))):=fun W' hb j k hj=>by
  obtain ⟨a',c',h1,h2⟩:=qV.below (u:=.slice ua ks.length uc) ⟨ua,uc,rfl,hcs⟩ hb
  injection h1 with h1
  subst h1
  exact h2 j k hj
 have HP:=Lib.hid h
 have VW:=Lib.hid ht
 have HK:=Lib.hid hk
 have HC:=Lib.hid hc
 have HL:=Lib.hid hl
 obtain ⟨n,bO⟩:∃n,ks.length=n:=⟨_,rfl⟩
 have dA:=Lib.hid bO
 have uz:n≤100000:=by omega
 rw [bO]
 clear hcs h ht hk hc hl hn bO
 go_enter Tryz.func57,Tryz.ntmps57
 go_wp2_with fail
 go_loopw [10] (fun v10 wr=>∃(i:Nat) (eL:Value) (s':PS),i≤n∧v10=.int .i64 (i:Int)∧Sx.aj b bv W eL wr∧Pr wr b B tv eL s'∧(i=0→s'=s)∧(0 < i→iD sep f ks s=rE sep f (ks.drop i) s'∧aT s'+((ks.drop i).map fun k=>sep.length+c k).sum≤big)) (fun v10 _=>n - LB v10)
 case atStart=>exact ⟨0,bv,s,Nat.zero_le _,rfl,Sx.aj.refl _ _ _,HP.out,fun _=>rfl,fun h=>absurd h (Nat.lt_irrefl 0)⟩
 case round=>
  obtain ⟨i,eL,s',hi,rfl,hT,hR,h0,h1⟩:=hrel
  have HT:=Lib.hid hT
  have HR:=Lib.hid hR
  have H0:=Lib.hid h0
  have H1:=Lib.hid h1
  clear hT hR h0 h1
  by_cases kG:i < n
  case neg=>
   obtain rfl:i=n:=by omega
   have a3:decide (i < i)=false:=decide_eq_false (by omega)
   have a1:decide ((i:Int) < (i:Int))=false:=decide_eq_false (by omega)
   have a2:¬((i:Int) < (i:Int)):=by omega
   go_wp2_with fail
   go_end0
   refine ⟨eL,rfl,HT.out,?_⟩
   have h2:=HR.out
   by_cases hz:i=0
   ·
    have eo:ks=[]:=List.eq_nil_of_length_eq_zero (by have:=dA.out;omega)
    rw [H0.out hz] at h2
    rw [eo]
    exact h2
   ·
    rw [(H1.out (by omega)).1,List.drop_of_length_le (by rw [dA.out];exact Nat.le_refl _)]
    exact h2
  obtain ⟨k,hk⟩:∃k,ks[i]? =some k:=⟨_,List.getElem?_eq_getElem (by have:=dA.out;omega)⟩
  obtain ⟨g,Xl,Xt,k0⟩:=UC.out wr (bH HP.out HT.out) i k hk
  have HKi:=Lib.hid hk
  have vA:Hid (k∈ks):=List.mem_of_getElem? hk
  subst Xl
  clear hk
  have XI:=fun w'=>vT (g:=g) (n:=n) (c:=uc) i kG w'
  have a3:decide (i < n)=true:=decide_eq_true (by omega)
  have a1:decide ((i:Int) < (n:Int))=true:=decide_eq_true (by omega)
  have a2:(i:Int) < (n:Int):=by omega
  have HD:Hid (ks.drop i=k::ks.drop (i+1)):=by
   have h2:=HKi.out
   obtain ⟨h3,h4⟩:=List.getElem?_eq_some_iff.1 h2
   show _=_
   rw [List.drop_eq_getElem_cons h3,h4]
  by_cases hz:i=0
  ·
   subst hz
   have hs':=H0.out rfl
   subst hs'
   have eo:ks=k::ks.drop 1:=HD.out
   have wh:=Lib.hid eo
   have LA:Hid (aT s'+(c k+((ks.drop 1).map fun k=>sep.length+c k).sum)≤big):=by
    have:=HL.out
    rw [eo] at this
    exact this
   clear eo
   have Ub:=Lib.hid (HK.out k vA.out wr eL s' HR.out (VW.out.below (bH HP.out HT.out)) (by have:=LA.out;omega))
   go_wp2_with fail
   refine Ub.out.mono ?_
   rintro r w2 ⟨jA,rfl,ep,fh⟩
   have fK:=Lib.hid (HT.out.trans ep)
   have E8:=Lib.hid fh
   clear ep fh
   go_wp2
   refine ⟨⟨1,jA,f k s',by omega,by simp,fK.out,E8.out,fun h=>absurd h (by decide),fun _=>⟨?_,?_⟩⟩,?_⟩
   · rw [wh.out];rfl
   ·
    have h5:=HC.out k vA.out s'
    have:=LA.out
    omega
   · simp [LB];omega
  ·
   have HI:=Lib.hid (H1.out (by omega))
   have LA:Hid (aT s'+(sep.length+c k+((ks.drop (i+1)).map fun k=>sep.length+c k).sum)≤big):=by
    have:=HI.out.2
    rw [HD.out,List.map_cons,List.sum_cons] at this
    exact this
   have d1:decide ((0:Int) < (i:Int))=true:=decide_eq_true (by omega)
   have d2:(0:Int) < (i:Int):=by omega
   have vn:=Lib.hid (cK wr b B tv eL s' HR.out sep (by have:=LA.out;unfold aT at this;omega))
   go_wp2_with fail
   refine vn.out.mono ?_
   rintro r w1 ⟨xE,rfl,nX,yT⟩
   have wK:=Lib.hid (HT.out.trans nX)
   have LJ:Hid (aT (aG sep s')=aT s'+sep.length):=by show (s'.1++sep).length+s'.2.length=(s'.1.length+s'.2.length)+sep.length;rw [List.length_append];omega
   have Ub:=Lib.hid (HK.out k vA.out w1 xE _ yT (VW.out.below (bH HP.out wK.out)) (by have:=LA.out;have:=LJ.out;omega))
   clear nX yT
   go_wp2_with fail
   refine Ub.out.mono ?_
   rintro r w2 ⟨jA,rfl,ep,fh⟩
   have fK:=Lib.hid (wK.out.trans ep)
   have E8:=Lib.hid fh
   clear ep fh
   go_wp2
   refine ⟨⟨i+1,jA,f k (aG sep s'),by omega,by simp,fK.out,E8.out,fun h=>absurd h (by omega),fun _=>⟨?_,?_⟩⟩,?_⟩
   · rw [HI.out.1,HD.out];rfl
   ·
    have h5:=HC.out k vA.out (aG sep s')
    have:=LA.out
    have:=LJ.out
    omega
   · simp [LB];omega
theorem iQ (t:Nm) (s:PS):aT (aG t s)=aT s+t.length:=by
 show (s.1++t).length+s.2.length=(s.1.length+s.2.length)+t.length
 rw [List.length_append]
 omega
theorem ny (s:PS):aT (mA s)=aT s+1:=by
 show (s.1++10::s.2).length+0=(s.1.length+s.2.length)+1
 rw [List.length_append,List.length_cons]
 omega
theorem eB {w:Nm} {f:PS→PS} {s:PS} {c:Nat} (hc:∀s,aT (f s)≤aT s+c):aT (aQ w f s)≤aT s+w.length+1+c:=by
 have:=hc (mA (aG w s))
 rw [ny,iQ] at this
 exact this
theorem eu (s:PS):s.1.length≤aT s:=Nat.le_add_right _ _
structure JF (W:World) (B N:Nat) (n:Nd) (uw ur uk:Value):Prop where
 heap:W.heap[N]? =some (.cells (BW n uw ur uk).toArray gv)
 rows:Sx.Rows W (fun g=>g < B) n uw ur uk
theorem JF.below {W W':World} {B N:Nat} {n:Nd} {uw ur uk:Value} (h:JF W B N n uw ur uk) (hb:Below W.heap.size W W'):JF W' B N n uw ur uk:=
 ⟨(hb.block N (Array.getElem?_eq_some_iff.1 h.heap).1).trans h.heap,h.rows.below hb⟩
theorem JF.turn {W W':World} {b B N:Nat} {tv bv eL:Value} {s:PS} {n:Nd} {uw ur uk:Value} (h:JF W B N n uw ur uk) (hp:Pr W b B tv bv s) (ht:Sx.aj b bv W eL W'):JF W' B N n uw ur uk:=by
 obtain ⟨h1,h2⟩:=hp.not h.heap (by decide) (by decide)
 have hb:=bH hp ht
 exact ⟨(ht.block N (Array.getElem?_eq_some_iff.1 h.heap).1 h1 h2).trans h.heap,h.rows.keep fun g X t hg _ _=>hb.block g hg⟩
theorem JF.cells {W:World} {B N:Nat} {n:Nd} {uw ur uk:Value} (h:JF W B N n uw ur uk):W.cell? ⟨N,0,none⟩=some (.int .i64 (n.k:Int))∧W.cell? ⟨N,1,none⟩=some (.string (str n.t))∧W.cell? ⟨N,2,none⟩=some (.bool n.fl)∧W.cell? ⟨N,3,none⟩=some uw∧W.cell? ⟨N,5,none⟩=some ur∧W.cell? ⟨N,6,none⟩=some uk:=by
 unfold World.cell?
 simp only [h.heap]
 exact ⟨rfl,rfl,rfl,rfl,rfl,rfl⟩
theorem JF.kid {W:World} {B N:Nat} {n:Nd} {uw ur uk:Value} (h:JF W B N n uw ur uk) {i:Nat} (hi:i < n.ks.length):∃g c,uk=.slice (some ⟨g,0,none⟩) n.ks.length c∧W.cell? ⟨g,i,none⟩=some (.int .i64 (kid n i:Int)):=by
 obtain ⟨a,c,h1,h2⟩:=kq h.rows.k h.rows.qk
 obtain ⟨g,h3,_,h4⟩:=h2 i (Un.kid n i) (by unfold Un.kid;rw [List.getD_eq_getElem?_getD,List.getElem?_eq_getElem hi];rfl)
 exact ⟨g,c,by rw [h1,h3],h4⟩
theorem JF.kcell {W:World} {B N:Nat} {n:Nd} {uw ur:Value} {g m c:Nat} (h:JF W B N n uw ur (.slice (some ⟨g,0,none⟩) m c)) {i:Nat} (hi:i < n.ks.length):W.cell? ⟨g,i,none⟩=some (.int .i64 (Un.kid n i:Int)):=by
 obtain ⟨g',c',h1,h2⟩:=h.kid hi
 injection h1 with h1
 injection h1 with h1
 injection h1 with h1
 rw [h1]
 exact h2
def ZaO (W w1:World) (b B N:Nat) (tv bv:Value) (s:PS) (l:List Nd) (n:Nd) (uw ur uk:Value):Prop:=Below W.heap.size W w1∧Pr w1 b B tv bv s∧dX w1 B tv l∧JF w1 B N n uw ur uk
theorem gM {W:World} {b B:Nat} {tv bv:Value} {s:PS} {l:List Nd} {n:Nd} {uw ur uk:Value} (h:Pr W b B tv bv s) (ht:dX W B tv l) (hr:Sx.Rows W (fun g=>g < B) n uw ur uk):
 ∃w1 N,W.alloc (.cells #[.int .i64 (n.k:Int),.string (str n.t),.bool n.fl,uw,.int .i64 (n.st:Int),ur,uk,.int .i64 (n.ln:Int)] gv)=w1∧W.heap.size=N∧Hid (ZaO W w1 b B N tv bv s l n uw ur uk):=by
 obtain ⟨w1,N,BV,hN,XP,Li,hs1⟩:=ei W (BW n uw ur uk).toArray gv
 have hb:Below W.heap.size W w1:=by rw [hN];exact Li
 exact ⟨w1,N,BV,hN,hb,h.below hb,ht.below (hb.mono h.size),XP,hr.below hb⟩
def qM (n:Nd) (uw ur uk:Value):Value:=.agg #[.int .i64 (n.k:Int),.string (str n.t),.bool n.fl,uw,.int .i64 (n.st:Int),ur,uk,.int .i64 (n.ln:Int)]
theorem pG (W:World) (b B:Nat) (tv bv:Value) (s:PS) (l:List Nd) (h:Pr W b B tv bv s) (ht:dX W B tv l) (n:Nd) (uw ur uk:Value) (hr:Sx.Rows W (fun g=>g < B) n uw ur uk) (eo:n.ks.length=1) (f:PS→PS) (c:Nat) (hk:lD l b B tv (kid n 0:Int) f c) (hc:∀s,aT (f s)≤aT s+c) (hl:aT s+(1+1+c+1)≤big):
 Calls Tryz.prog 36 #[.pointer (some ⟨b,0,none⟩),qM n uw ur uk] W fun r W'=>Post W b B tv bv (aG [125] (aQ [123] f s)) r W':=by
 obtain ⟨w1,N,cU,hN,HX⟩:=gM h ht hr
 obtain ⟨g,cc,mV,ck⟩:=HX.out.2.2.2.kid (i:=0) (by omega)
 rw [eo] at mV
 subst mV
 obtain ⟨c0,c1,c2,c3,c5,c6⟩:=HX.out.2.2.2.cells
 have HP:=Lib.hid (bZ w1 b B tv bv s l HX.out.2.1 HX.out.2.2.1 [123] (kid n 0:Int) f c hk (by simp only [List.length_cons,List.length_nil];omega))
 have HL:=Lib.hid hl
 have HC:=Lib.hid hc
 unfold qM
 clear h ht hr hk hl hc eo
 go_enter Tryz.func36,Tryz.ntmps36
 go_wp2_with fail
 refine HP.out.mono ?_
 rintro r w2 ⟨jA,rfl,ep,fh⟩
 have fK:Hid (Sx.aj b bv W jA w2):=(Sx.aj.of_below HX.out.1).trans ep
 have vn:=Lib.hid (cK w2 b B tv jA _ fh [125] (by have h1:=HL.out;have h2:=eB (w:=[123]) (s:=s) HC.out;have h3:=eu (aQ [123] f s);simp only [List.length_cons,List.length_nil] at *;omega))
 clear ep fh
 go_wp2_with fail
 refine vn.out.mono ?_
 rintro r w3 ⟨qs,rfl,gI,lp⟩
 go_wp2
 go_end0
 exact ⟨qs,rfl,fK.out.trans gI,lp⟩
theorem uo (W:World) (b B:Nat) (tv bv:Value) (s:PS) (l:List Nd) (h:Pr W b B tv bv s) (ht:dX W B tv l) (n:Nd) (uw ur uk:Value) (hr:Sx.Rows W (fun g=>g < B) n uw ur uk) (eo:n.ks.length=1) (f:PS→PS) (c:Nat) (hk:lD l b B tv (kid n 0:Int) f c) (hc:∀s,aT (f s)≤aT s+c) (hl:aT s+(1+1+c+1)≤big):
 Calls Tryz.prog 37 #[.pointer (some ⟨b,0,none⟩),qM n uw ur uk] W fun r W'=>Post W b B tv bv (aG [41] (aQ [40] f s)) r W':=by
 obtain ⟨w1,N,cU,hN,HX⟩:=gM h ht hr
 obtain ⟨g,cc,mV,ck⟩:=HX.out.2.2.2.kid (i:=0) (by omega)
 rw [eo] at mV
 subst mV
 obtain ⟨c0,c1,c2,c3,c5,c6⟩:=HX.out.2.2.2.cells
 have HP:=Lib.hid (bZ w1 b B tv bv s l HX.out.2.1 HX.out.2.2.1 [40] (kid n 0:Int) f c hk (by simp only [List.length_cons,List.length_nil];omega))
 have HL:=Lib.hid hl
 have HC:=Lib.hid hc
 unfold qM
 clear h ht hr hk hl hc eo
 go_enter Tryz.func37,Tryz.ntmps37
 go_wp2_with fail
 refine HP.out.mono ?_
 rintro r w2 ⟨jA,rfl,ep,fh⟩
 have fK:Hid (Sx.aj b bv W jA w2):=(Sx.aj.of_below HX.out.1).trans ep
 have vn:=Lib.hid (cK w2 b B tv jA _ fh [41] (by have h1:=HL.out;have h2:=eB (w:=[40]) (s:=s) HC.out;have h3:=eu (aQ [40] f s);simp only [List.length_cons,List.length_nil] at *;omega))
 clear ep fh
 go_wp2_with fail
 refine vn.out.mono ?_
 rintro r w3 ⟨qs,rfl,gI,lp⟩
 go_wp2
 go_end0
 exact ⟨qs,rfl,fK.out.trans gI,lp⟩
end Go.Proofs.YtiklkhbfilbpeaaGreatDoor.Ux
