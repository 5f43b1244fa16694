import Derived.Test.YtiklkhbfilbpeaaGreatDoorTbLxPlain
import Derived.Test.YtiklkhbfilbpeaaGreatDoorTbSlRow
import Derived.Test.YtiklkhbfilbpeaaGreatDoorTbRegionP
import Derived.Deep.MidRow
set_option maxRecDepth 100000
set_option maxHeartbeats 16000000
set_option linter.unusedVariables false
set_option linter.unusedSimpArgs false
namespace Go.Proofs.YtiklkhbfilbpeaaGreatDoor
open Go.RowKit Base Lx
abbrev nc:TypeId:=64
abbrev mK:TypeId:=66
abbrev EP:TypeId:=61
abbrev dU:TypeId:=3
def nC (e:Int) (g:Nat):Ending:=.panicked [{ v:=.iface EP (.agg #[.int .i64 e,.int .i64 (g:Int)]),recovered:=false }]
theorem D3 (s:Nm) (n:Nat):nl (s.take n)+nl (s.drop n)=nl s:=by
 unfold nl
 rw [←List.count_append,List.take_append_drop]
theorem RR (s:Nm) (n:Nat):nl (s.drop n)≤nl s:=by have:=D3 s n;omega
theorem Y3 (s:Nm):nl s≤s.length:=List.count_le_length
structure Rd (W:World) (b:Nat) (s:Nm) (K g:Nat) (vl vh:Value):Prop where
 box:W.heap[b]? =some (.cells #[.string (str s),.int .i64 ((K - nl s:Nat):Int),.int .i64 (g:Int),vl,vh] nc)
 le:nl s≤K
 big:K≤100000
 len:s.length≤100000
theorem Rd.lt {W:World} {b:Nat} {s:Nm} {K g:Nat} {vl vh:Value} (h:Rd W b s K g vl vh):b < W.heap.size:=(Array.getElem?_eq_some_iff.1 h.box).1
theorem Rd.below {W W':World} {b:Nat} {s:Nm} {K g:Nat} {vl vh:Value} (h:Rd W b s K g vl vh) (hb:Below W.heap.size W W'):Rd W' b s K g vl vh:=
 ⟨(hb.block b h.lt).trans h.box,h.le,h.big,h.len⟩
theorem bg {W:World} {b:Nat} {c0 c1 c2 c3 c4:Value} (h:W.heap[b]? =some (.cells #[c0,c1,c2,c3,c4] nc)):
 (W.cell? ⟨b,0,none⟩=some c0∧W.cell? ⟨b,1,none⟩=some c1∧W.cell? ⟨b,2,none⟩=some c2∧W.cell? ⟨b,3,none⟩=some c3∧W.cell? ⟨b,4,none⟩=some c4)∧
 W.frozen? ⟨b,0,none⟩=false∧W.frozen? ⟨b,1,none⟩=false∧W.frozen? ⟨b,2,none⟩=false∧W.frozen? ⟨b,3,none⟩=false∧W.frozen? ⟨b,4,none⟩=false:=by
 simp [World.cell?,World.frozen?,h]
structure aj (b:Nat) (W W':World):Prop where
 os:W'.os=W.os
 tape:W'.tape=W.tape
 output:W'.output=W.output
 size:W.heap.size≤W'.heap.size
 block:∀k,k < W.heap.size→k≠b→W'.heap[k]? =W.heap[k]?
theorem aj.of_below {b:Nat} {W W':World} (h:Below W.heap.size W W'):aj b W W':=⟨h.os,h.tape,h.output,h.size,fun k hk _=>h.block k hk⟩
theorem aj.refl (b:Nat) (W:World):aj b W W:=.of_below (Below.refl _ _)
theorem aj.of_box {b:Nat} {W W':World} (h:W.grownBy W' (some b)):aj b W W':=⟨h.os,h.tape,h.output,h.size,fun k hk hs=>h.block k hk (fun e=>hs (Option.some.inj e))⟩
theorem aj.trans {b:Nat} {W W1 W2:World} (h:aj b W W1) (h':aj b W1 W2):aj b W W2:=
 ⟨h'.os.trans h.os,h'.tape.trans h.tape,h'.output.trans h.output,Nat.le_trans h.size h'.size,fun k hk h1=>(h'.block k (Nat.lt_of_lt_of_le hk h.size) h1).trans (h.block k hk h1)⟩
theorem aj.below {b B:Nat} {W W':World} (h:aj b W W') (hb:B≤b) (hB:B≤W.heap.size):Below B W W':=
 ⟨h.os,h.tape,h.output,h.size,fun k hk=>h.block k (by omega) (by omega)⟩
theorem Rd.set {W:World} {b:Nat} {s:Nm} {K g:Nat} {vl vh:Value} (h:Rd W b s K g vl vh) (i:Nat) (u:Value):
 (W.setCell ⟨b,i,none⟩ u).heap[b]? =some (.cells ((#[.string (str s),.int .i64 ((K - nl s:Nat):Int),.int .i64 (g:Int),vl,vh]:Array Value).setIfInBounds i u) nc)∧aj b W (W.setCell ⟨b,i,none⟩ u):=
 ⟨heap_setCell_same W b i _ _ u h.box,aj.of_box (Sl.aq b [u] i W)⟩
def S4 (W:World) (b:Nat) (s:Nm) (K n:Nat):World:=(W.setCell ⟨b,1,none⟩ (.int .i64 ((K - nl (s.drop n):Nat):Int))).setCell ⟨b,0,none⟩ (.string (str (s.drop n)))
theorem Rd.took {W W1:World} {b:Nat} {s:Nm} {K g:Nat} {vl vh:Value} (h:Rd W b s K g vl vh) (hb:Below W.heap.size W W1) (n:Nat):Rd (S4 W1 b s K n) b (s.drop n) K g vl vh∧aj b W (S4 W1 b s K n):=by
 have h:=h.below hb
 have h1:=h.set 1 (.int .i64 ((K - nl (s.drop n):Nat):Int))
 have h2:=heap_setCell_same _ b 0 _ _ (.string (str (s.drop n))) h1.1
 refine ⟨⟨h2,Nat.le_trans (RR s n) h.le,h.big,by rw [List.length_drop];have:=h.len;omega⟩,((aj.of_below hb).trans h1.2).trans (aj.of_box (Sl.aq b [_] 0 _))⟩
def jI (W:World) (b K g:Nat) (vl vh:Value) (x:R) (r:Ending) (W':World):Prop:=
 match x with
 | .error e=>r=nC e g∧aj b W W'
 | .ok y=>r=.returned (.string (str y.1))∧aj b W W'∧Rd W' b y.2 K g vl vh
theorem eF {W W':World} {b K g:Nat} {vl vh:Value} {x:R} {e:Int} (hx:x=.error e) (h:aj b W W'):jI W b K g vl vh x (nC e g) W':=by subst hx;exact ⟨rfl,h⟩
theorem lH {W W':World} {b K g:Nat} {vl vh:Value} {x:R} {o q:Nm} (hx:x=.ok (o,q)) (h:aj b W W') (hr:Rd W' b q K g vl vh):jI W b K g vl vh x (.returned (.string (str o))) W':=by subst hx;exact ⟨rfl,h,hr⟩
def C5 (w:World) (b o:Nat) (s:List UInt8):Prop:=w.cell? ⟨b,o,none⟩=some (.string (str s))
theorem Bo:FR C5:=fun w w' b o x hb h=>a7 hb (Nat.le_refl _) h
abbrev Strs:=mJ C5 1
theorem yc:(Tryz.prog.info? 9).map (fun i=>(i.zero,i.size,i.bytes))=some (some (.string ⟨#[]⟩),1,16):=by kernel_rfl
theorem Ip {w:World} {a:Option Addr} {n cap:Nat} {l:List (List UInt8)} (h:Strs w a n cap l):∃b off,(∀k (hk:k < l.length),w.cell? ⟨b,off+k,none⟩=some (.string (str l[k])))∧
 ∀(kd:IntKind) (k:Nat) (w':World),k < n→(Instr.indexAt 33 (.slice a n cap) (.int kd (k:Int))).run Tryz.prog w'=.ok (.pointer (some ⟨b,off+k,none⟩)) w':=by
 obtain ⟨i,hi,_,hs,_⟩:=info_parts yc
 obtain ⟨b,off,h1,h2⟩:=h.at (P:=Tryz.prog)
 exact ⟨b,off,fun k hk=>by simpa [C5] using h1 k hk,fun kd k w' hk=>by simpa using h2 33 9 i Tryz.underlying33 hi hs kd k w' hk⟩
def qX (s:Nm):Value:=.string (str s)
theorem Ef {w:World} {base:Nat} {v:Value} {n:Nat} {l:List Nm} (h:w.ownsRow base 9 1 v n (l.map qX)):∃a cap,v=.slice a n cap∧Strs w a n cap l:=
 iC (R:=C5) h (fun _ _ _ h=>h)
theorem tz {P:Program} {ops:Array Oper} {rest:List Oper} {o:Oper} {a:Act} {w:World} {Q:Exit→Act→World→Prop} (hg:o.guard=none) (v:Value) (w':World) (h:Rg.does P o a w fun u x=>u=v∧x=w') (k:wpList P ops Q rest (a.put o.dst v) w'):wpList P ops Q (o::rest) a w:=
 wpList_plain hg fun K hK=>Rg.qT h (fun u x ⟨h1,h2⟩=>by subst h1 h2;exact hK _ _ k)
end Go.Proofs.YtiklkhbfilbpeaaGreatDoor
