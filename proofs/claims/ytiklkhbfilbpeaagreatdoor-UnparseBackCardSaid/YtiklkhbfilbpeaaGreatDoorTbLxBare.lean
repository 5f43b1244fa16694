import Derived.Test.YtiklkhbfilbpeaaGreatDoorTbLxRepl
import Derived.Test.YtiklkhbfilbpeaaGreatDoorTbLxOnce
set_option maxRecDepth 100000
set_option maxHeartbeats 16000000
set_option linter.unusedVariables false
set_option linter.unusedSimpArgs false
namespace Go.Proofs.YtiklkhbfilbpeaaGreatDoor
open Go.RowKit Base Lx
def oH (W:World) (b:Nat) (d m:Int) (x2 x3 x4:Value):Prop:=W.heap[b]? =some (.cells #[.int .u32 d,.int .i32 m,x2,x3,x4] Xq)
theorem oH.cells {W:World} {b:Nat} {d m:Int} {x2 x3 x4:Value} (h:oH W b d m x2 x3 x4):(W.cell? ⟨b,3,none⟩=some x3∧W.frozen? ⟨b,3,none⟩=false)∧(W.cell? ⟨b,4,none⟩=some x4∧W.frozen? ⟨b,4,none⟩=false)∧Oc.tI W b d m∧b < W.heap.size:=by
 unfold oH at h
 refine ⟨?_,?_,⟨?_,?_,?_,?_⟩,(Array.getElem?_eq_some_iff.1 h).1⟩<;>simp [World.cell?,World.frozen?,h]
theorem oH.set {W:World} {b:Nat} {d m:Int} {x2 x3 x4:Value} (h:oH W b d m x2 x3 x4) (i:Nat) (u:Value):(W.setCell ⟨b,i,none⟩ u).heap[b]? =some (.cells ((#[.int .u32 d,.int .i32 m,x2,x3,x4]:Array Value).setIfInBounds i u) Xq)∧aj b W (W.setCell ⟨b,i,none⟩ u):=
 ⟨heap_setCell_same W b i _ _ u h,aj.of_box (Sl.aq b [u] i W)⟩
theorem fW.turn {B:Nat} {W0 W W':World} {g j b:Nat} {cs:List Value} {v3:Value} (h:fW B W0 W g j cs v3) (ht:aj b W W') (hb:b < B):fW B W' W' g j cs v3:=by
 have Xt:=h.gB
 refine ⟨(ht.block g (Array.getElem?_eq_some_iff.1 h.blk).1 (by omega)).trans h.blk,h.len,h.cell,?_,h.gB,Below.refl _ _⟩
 refine ⟨h.row.1,?_⟩
 rcases h.row.2 with h2 | ⟨q,cap,cur,rfl,h2,h3,h4⟩
 · exact .inl h2
 · exact .inr ⟨q,cap,cur,rfl,h2,(ht.block q (Array.getElem?_eq_some_iff.1 h3).1 (by omega)).trans h3,h4⟩
theorem Gq {W W':World} {a:Option Addr} {n c b:Nat} {l:List Nm} (h:Strs W a n c l) (hg:W.grownBy W' (some b)) (ha:∀ad,a=some ad→ad.block≠b):Strs W' a n c l:=by
 obtain ⟨h1,h2,h3,b1,off,h4,h5⟩:=h
 refine ⟨h1,h2,h3,b1,off,h4,fun k hk=>?_⟩
 rcases h4 with h4 | h4
 · omega
 ·
  have hne:=ha _ h4
  have h6:=h5 k hk
  unfold C5 at h6 ⊢
  have hlt:b1 < W.heap.size:=by
   rcases Nat.lt_or_ge b1 W.heap.size with h' | h'
   · exact h'
   · simp [World.cell?,Array.getElem?_eq_none h'] at h6
  have:=hg.block b1 hlt (fun e=>hne (Option.some.inj e))
  simp only [World.cell?] at h6 ⊢
  rw [this]
  exact h6
def C7 (W:World) (b:Nat) (x2:Value) (w1:World):Prop:=∃g cs v3,oH w1 b 0 1 x2 (.iface O1 (.pointer (some ⟨g,0,none⟩))) (.slice none 0 0)∧aj b W w1∧fW W.heap.size w1 w1 g 3 cs v3
theorem FW (W:World) (b:Nat) (x2:Value) (a:Option Addr) (c:Nat) (h:oH W b 0 1 x2 .nilIface (.slice a 6 c)) (hs:Strs W a 6 c zv):
 Calls Tryz.prog 102 #[.pointer (some ⟨b,0,none⟩)] W fun e w1=>e=.returned (.tuple #[])∧Oc.tI w1 b 0 1∧C7 W b x2 w1:=by
 have H:=Lib.hid h
 go_enter Tryz.func102,Tryz.ntmps102
 go_wp2_with fail
 refine (CD W b _ _ _ _ a c h hs).mono ?_
 rintro r w1 ⟨g,cs,v3,rfl,hr⟩
 have hlt:=H.out.cells.2.2.2
 have H1:oH w1 b 0 1 x2 .nilIface (.slice a 6 c):=(hr.low.block b hlt).trans H.out
 have NI:=H1.set 3 (.iface O1 (.pointer (some ⟨g,0,none⟩)))
 have H2:oH (w1.setCell ⟨b,3,none⟩ (.iface O1 (.pointer (some ⟨g,0,none⟩)))) b 0 1 x2 (.iface O1 (.pointer (some ⟨g,0,none⟩))) (.slice a 6 c):=NI.1
 have N2:=H2.set 4 (.slice none 0 0)
 have H3:oH ((w1.setCell ⟨b,3,none⟩ (.iface O1 (.pointer (some ⟨g,0,none⟩)))).setCell ⟨b,4,none⟩ (.slice none 0 0)) b 0 1 x2 (.iface O1 (.pointer (some ⟨g,0,none⟩))) (.slice none 0 0):=N2.1
 obtain ⟨⟨c3,f3⟩,_,_,_⟩:=H1.cells
 obtain ⟨_,⟨c4,f4⟩,_,_⟩:=H2.cells
 have HT:Hid (aj b w1 ((w1.setCell ⟨b,3,none⟩ (.iface O1 (.pointer (some ⟨g,0,none⟩)))).setCell ⟨b,4,none⟩ (.slice none 0 0))):=NI.2.trans N2.2
 have HR:=Lib.hid hr
 have HF:=Lib.hid H3
 clear h hs hr NI N2 H1 H2 H3
 go_wp2_with fail
 refine bodyPost_end (v:=.tuple #[]) (results_none rfl _ _ _) rfl ?_
 exact ⟨rfl,HF.out.cells.2.2.1,g,cs,v3,HF.out,(aj.of_below HR.out.low).trans HT.out,HR.out.turn HT.out hlt⟩
theorem zk (W:World) (b:Nat) (x2:Value) (a:Option Addr) (c:Nat) (h:oH W b 0 0 x2 .nilIface (.slice a 6 c)) (hs:Strs W a 6 c zv) (ha:∀ad,a=some ad→ad.block≠b) (s:Nm) (hl:s.length≤100000):
 Calls Tryz.prog 77 #[.pointer (some ⟨b,0,none⟩),.string (str s)] W fun r W'=>r=.returned (.string (str (bare s)))∧aj b W W':=by
 have QU:∀(fn:Fn) (first cap:Array Value) (w:World),(Instr.makeFunc fn first cap).run Tryz.prog w=.ok (.func fn first cap) w:=fun _ _ _ _=>rfl
 have H:=Lib.hid h
 have h1:oH (W.setCell ⟨b,1,none⟩ (.int .i32 1)) b 0 1 x2 .nilIface (.slice a 6 c):=(h.set 1 (.int .i32 1)).1
 have nX:=(h.set 1 (.int .i32 1)).2
 have hs1:Strs (W.setCell ⟨b,1,none⟩ (.int .i32 1)) a 6 c zv:=Gq hs (Sl.aq b [.int .i32 1] 1 W) ha
 have HO:=Lib.hid (FW _ b x2 a c h1 hs1)
 have wK:=Lib.hid nX
 clear h hs h1 nX hs1
 go_enter Tryz.func77,Tryz.ntmps77
 go_wp2_with fail
 refine (Oc.Ng b (.pointer (some ⟨b,0,none⟩)) W (C7 (W.setCell ⟨b,1,none⟩ (.int .i32 1)) b x2) H.out.cells.2.2.1 HO.out).mono ?_
 rintro r w' ⟨rfl,w1,⟨g,cs,v3,hr1,ht,hj⟩,hw'⟩
 have Z2:=H.out.cells.2.2.2
 have hd:oH w1.drew b 0 1 x2 (.iface O1 (.pointer (some ⟨g,0,none⟩))) (.slice none 0 0):=hr1
 have s0:=hd.set 0 (.int .u32 1)
 have Ye:oH (w1.drew.setCell ⟨b,0,none⟩ (.int .u32 1)) b 1 1 x2 (.iface O1 (.pointer (some ⟨g,0,none⟩))) (.slice none 0 0):=s0.1
 have s1:=Ye.set 1 (.int .i32 0)
 have XK:oH w' b 1 0 x2 (.iface O1 (.pointer (some ⟨g,0,none⟩))) (.slice none 0 0):=by rw [hw'];exact s1.1
 have Wz:aj b w1 w':=by
  rw [hw']
  exact (aj.of_below (cS w1 1)).trans (s0.2.trans s1.2)
 have HTW:Hid (aj b W w'):=wK.out.trans (ht.trans Wz)
 have HJ:=Lib.hid (hj.turn Wz (Nat.lt_of_lt_of_le Z2 wK.out.size))
 obtain ⟨⟨c3,f3⟩,_,_,_⟩:=XK.cells
 clear s0 s1 hd Ye XK hr1 ht hj Wz hw' HO Z2
 go_wp2_with fail
 refine (G9 w' _ _ g cs v3 HJ.out s hl).mono ?_
 rintro r w2 ⟨rfl,hb2⟩
 have HF:=Lib.hid (HTW.out.trans (aj.of_below hb2))
 clear hb2
 go_wp2_with fail
 go_ret
 exact ⟨rfl,HF.out⟩
theorem Mx (a:Option Addr) (n c:Nat) (w:World):(Instr.build Xq #[(2,.slice a n c)]).run Tryz.prog w=.ok (.agg #[.int .u32 0,.int .i32 0,.int .u32 0,.nilIface,.slice a n c]) w:=by
 refine run_build w _ _ _ ?_
 kernel_rfl
theorem lX (l:Nm):(str l).toList=l:=by rw [ByteArray.toList_eq];rfl
def QE (W:World) (r:Ending) (W':World):Prop:=∃b a c,r=.returned (.pointer (some ⟨b,0,none⟩))∧W.heap.size≤b∧oH W' b 0 0 (.int .u32 0) .nilIface (.slice a 6 c)∧Strs W' a 6 c zv∧(∀ad,a=some ad→ad.block≠b)∧Below W.heap.size W W'
theorem JW (W:World) (a:Option Addr) (n c:Nat) (hn:n=6) (hs:Strs W a n c zv):Calls Tryz.prog 76 #[.slice a n c] W (QE W):=by
 subst hn
 obtain ⟨i0,iy,hz0,hz1,hz2⟩:=info_parts yc
 have Ku:Hid (Base.Src Tryz.prog W 1 (.slice a 6 c) 6 (zv.map qX)):=Jb hs qX (fun _=>rfl) (fun b o x h=>h)
 clear hs
 go_enter Tryz.func76,Tryz.ntmps76
 go_wp2_with (at_builtin;refine eI rfl (.const (.slice none 0 0)) (.tmp 8) 33 33 rfl W.heap.size eZ i0 (.string ⟨#[]⟩) 1 16 Tryz.underlying33 (bw Tryz.underlying33) iy hz0 hz1 hz2 rfl (by decide) (by decide) _ 0 _ rfl (World.ownsRow_nil _ _ _ _) _ 6 _ rfl Ku.out ?_ ?_ ?_ ?_)
 case _=>unfold maxLen;decide
 case _=>first | decide | exact Nat.le_refl _
 try (case _=>exact Nat.le_refl _)
 intro v' w2 h1 h2 _
 have h1:w2.ownsRow W.heap.size eZ 1 v' 6 (zv.map qX):=h1
 obtain ⟨a6,c6,hv,hst⟩:=Ef h1
 subst hv
 have hb2:Below W.heap.size W w2:=(Below.refl _ _).grown h2 (Nat.le_refl _) (fun j hj=>by cases hj)
 have hlt:∀ad,a6=some ad→ad.block≠w2.heap.size:=fun ad e=>by
  subst e
  rcases h1.2 with ⟨h5,_⟩ | ⟨q,cap,cur,h5,h6,h7,_⟩
  · cases h5
  ·
   have:=(Array.getElem?_eq_some_iff.1 h7).1
   injection h5 with h5
   injection h5 with h5
   subst h5
   simp only
   omega
 refine tz rfl (.agg #[.int .u32 0,.int .i32 0,.int .u32 0,.nilIface,.slice a6 6 c6]) w2 (Ap.jS #[(2,.slice a6 6 c6)] _ (by simp [go_sem]) (Mx _ _ _ _) ⟨rfl,rfl⟩) ?_
 have cU:=(Below.refl w2.heap.size w2).alloc (Nat.le_refl _) (.cells #[.int .u32 0,.int .i32 0,.int .u32 0,.nilIface,.slice a6 6 c6] Xq)
 have ZbI:Hid (oH (w2.alloc (.cells #[.int .u32 0,.int .i32 0,.int .u32 0,.nilIface,.slice a6 6 c6] Xq)) w2.heap.size 0 0 (.int .u32 0) .nilIface (.slice a6 6 c6)):=heap_alloc_new w2 _
 have PO:=Lib.hid (hst.below Bo cU)
 have HB:=Lib.hid (hb2.trans (cU.mono hb2.size))
 have HL:=Lib.hid hlt
 have xc:Hid (W.heap.size≤w2.heap.size):=hb2.size
 clear h1 h2 hst hb2 hlt cU
 go_wp2_with fail
 go_ret
 exact ⟨_,a6,c6,rfl,xc.out,ZbI.out,PO.out,HL.out,HB.out⟩
theorem xx (W:World) (s:Nm) (hl:s.length≤100000):Calls Tryz.prog 62 #[.string (str s)] W fun r W'=>r=.returned (.tuple #[.string (str (bare s)),.bool (decide (bare s≠s))])∧Below W.heap.size W W':=by
 have cU:=(Below.refl W.heap.size W).alloc (Nat.le_refl _) (.cells #[.string (str [39]),.string (str []),.string (str [34]),.string (str []),.string (str [92]),.string (str [])] eZ)
 have hrow:Strs (W.alloc (.cells #[.string (str [39]),.string (str []),.string (str [34]),.string (str []),.string (str [92]),.string (str [])] eZ)) (some ⟨W.heap.size,0,none⟩) 6 6 zv:=by
  refine ⟨rfl,Nat.le_refl _,by decide,W.heap.size,0,.inr rfl,fun k hk=>?_⟩
  have hh:=heap_alloc_new W (.cells #[.string (str [39]),.string (str []),.string (str [34]),.string (str []),.string (str [92]),.string (str [])] eZ)
  have hk:k < 6:=hk
  have yU:(W.alloc (.cells #[.string (str [39]),.string (str []),.string (str [34]),.string (str []),.string (str [92]),.string (str [])] eZ)).heap[W.heap.size]? =some (.cells ([.string (str [39]),.string (str []),.string (str [34]),.string (str []),.string (str [92]),.string (str [])]:List Value).toArray eZ (0,0)):=hh
  rcases (show k=0∨k=1∨k=2∨k=3∨k=4∨k=5 by omega) with rfl | rfl | rfl | rfl | rfl | rfl
  · exact Sl.jM yU 0
  · exact Sl.jM yU 1
  · exact Sl.jM yU 2
  · exact Sl.jM yU 3
  · exact Sl.jM yU 4
  · exact Sl.jM yU 5
 have HB:=Lib.hid cU
 have HR:=Lib.hid hrow
 clear cU hrow
 go_enter Tryz.func62,Tryz.ntmps62
 go_wp2_with fail
 refine (JW _ _ _ _ rfl HR.out).mono ?_
 rintro r w2 ⟨b,a,c,rfl,hb,hr,hs,ha,qU⟩
 have Qi:=Lib.hid (HB.out.trans (qU.mono HB.out.size))
 have HRp:=Lib.hid hr
 have HS:=Lib.hid hs
 have HA:=Lib.hid ha
 have xc:Hid (W.heap.size≤b):=Nat.le_trans HB.out.size hb
 clear hb hr hs ha qU
 go_wp2_with fail
 refine (zk w2 b _ a c HRp.out HS.out HA.out s hl).mono ?_
 rintro r w3 ⟨rfl,ht⟩
 have HF:=Lib.hid (Qi.out.trans (ht.below xc.out Qi.out.size))
 have t1:((str (bare s)).toList==(str s).toList)=decide (bare s=s):=by
  rw [lX,lX];by_cases h:bare s=s<;>simp [h]
 clear ht
 go_wp2_with fail
 refine bodyPost_ret (v:=.tuple #[.string (str (bare s)),.bool (decide (bare s≠s))]) (by simp [results,Tryz.results62,go_sem]) rfl ?_
 exact ⟨rfl,HF.out⟩
end Go.Proofs.YtiklkhbfilbpeaaGreatDoor
