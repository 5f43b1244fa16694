import Derived.Test.YtiklkhbfilbpeaaGreatDoorTbLxBodies
import Derived.MapKept
import Derived.Laws.EntriesVeiled
import Derived.Carry
set_option maxRecDepth 100000
set_option maxHeartbeats 16000000
set_option linter.unusedVariables false
set_option linter.unusedSimpArgs false
namespace Go.Proofs.YtiklkhbfilbpeaaGreatDoor
open Go.RowKit Base Lx
abbrev PH:TypeId:=80
def bC (w:World) (m:Nat) (es:Array MapEntry) (c:Nat):World:={ w with heap:=w.heap.setIfInBounds m (.map es c) }
theorem wk {w:World} {m:Nat} {es es':Array MapEntry} {c c':Nat} (h:w.heap[m]? =some (.map es c)):(bC w m es' c').heap[m]? =some (.map es' c'):=by
 have hm:=(Array.getElem?_eq_some_iff.1 h).1
 simp [bC,Array.getElem?_setIfInBounds,hm]
theorem nO {w:World} {m:Nat} {es:Array MapEntry} {c:Nat}:w.grownBy (bC w m es c) (some m):=
 ⟨rfl,rfl,rfl,by simp [bC],fun k hk hne=>by
  have:m≠k:=fun e=>hne (by rw [e])
  simp [bC,Array.getElem?_setIfInBounds,this]⟩
theorem Fs:Tryz.prog.underlying PH=some (.map 5 1):=by rfl
theorem wX (e:Bool) (c:Int) (w:World):(Instr.checkKey e 10000 5 (.int .u8 c)).run Tryz.prog w=.ok () w:=by
 exact MapKept.run_checkKey (n:=9999) (k:=.int .u8 c) Tryz.underlying5 rfl e
theorem Jd {w:World} {m:Nat} {es:Array MapEntry} {c:Nat} {k:Int} {v:Value} (h:w.heap[m]? =some (.map es c)) (hf:Instr.findNow (.int .u8) (.int .u8 k) es.toList 0=some none):
 (Instr.mapUpdate PH (.map (some m)) (.int .u8 k) v).run Tryz.prog w=.ok () (bC w m (es.push { key:=.int .u8 k,val:=v,born:=c }) (c+1)):=by
 simp [Instr.mapUpdate,run_underlying Fs,MapKept.run_getObj_map h,wX,Instr.findKey,run_underlying Tryz.underlying5,hf,MapKept.run_setObj_map _ h,Result.andThen,bC]
theorem wQ {w:World} {m:Nat} {es:Array MapEntry} {c:Nat} {k:Int} (h:w.heap[m]? =some (.map es c)) (r:Option (Nat × Value)) (hf:Instr.findNow (.int .u8) (.int .u8 k) es.toList 0=some r):
 (Instr.lookup PH (.map (some m)) (.int .u8 k) true).run Tryz.prog w=.ok (match r with | some x=>.tuple #[x.2,.bool true] | none=>.tuple #[.nilFunc,.bool false]) w:=by
 have hz:(zeroValue 1).run Tryz.prog w=.ok .nilFunc w:=by rfl
 cases r with
 | none=>simp [Instr.lookup,run_underlying Fs,MapKept.run_getObj_map h,wX,Instr.findKey,run_underlying Tryz.underlying5,hf,hz,Result.andThen]
 | some x=>simp [Instr.lookup,run_underlying Fs,MapKept.run_getObj_map h,wX,Instr.findKey,run_underlying Tryz.underlying5,hf,Result.andThen]
def Fk (f1 f2:Value) (c:UInt8):Value:=if c=10 then .tuple #[f1,.bool true] else if c=35 then .tuple #[f2,.bool true] else .tuple #[.nilFunc,.bool false]
theorem R4 (w:World) (f1 f2:Value):∃w1 w2,(Instr.mapUpdate PH (.map (some w.heap.size)) (.int .u8 10) f1).run Tryz.prog (w.alloc (.map #[] 0))=.ok () w1∧(Instr.mapUpdate PH (.map (some w.heap.size)) (.int .u8 35) f2).run Tryz.prog w1=.ok () w2∧Below w.heap.size w w2∧
 ∀c:UInt8,(Instr.lookup PH (.map (some w.heap.size)) (.int .u8 (c.toNat:Int)) true).run Tryz.prog w2=.ok (Fk f1 f2 c) w2:=by
 have h0:(w.alloc (.map #[] 0)).heap[w.heap.size]? =some (.map #[] 0):=(MapKept.heap_alloc w _).1
 have h1:=wk (es':=#[{ key:=.int .u8 10,val:=f1,born:=0 }]) (c':=1) h0
 have h2:=wk (es':=#[{ key:=.int .u8 10,val:=f1,born:=0 },{ key:=.int .u8 35,val:=f2,born:=1 }]) (c':=2) h1
 have cU:=(Below.refl w.heap.size w).alloc (Nat.le_refl _) (.map #[] 0)
 refine ⟨_,_,Jd h0 rfl,Jd h1 (by rfl),?_,fun c=>?_⟩
 · exact ((cU.grown nO (by rw [World.size_alloc];omega) (fun j hj=>by obtain rfl:=Option.some.inj hj;exact Nat.le_refl _))).grown nO (by simp [bC]) (fun j hj=>by obtain rfl:=Option.some.inj hj;exact Nat.le_refl _)
 ·
  unfold Fk
  by_cases hc:c=10
  ·
   subst hc
   rw [if_pos rfl]
   exact wQ h2 (some (0,f1)) rfl
  ·
   rw [if_neg hc]
   have n10:((c.toNat:Int)==10)=false:=by
    rw [beq_eq_false_iff_ne]
    exact fun e=>hc (UInt8.toNat_inj.1 (by show c.toNat=10;omega))
   by_cases hc2:c=35
   ·
    subst hc2
    rw [if_pos rfl]
    exact wQ h2 (some (1,f2)) rfl
   ·
    rw [if_neg hc2]
    have Y9:((c.toNat:Int)==35)=false:=by
     rw [beq_eq_false_iff_ne]
     exact fun e=>hc2 (UInt8.toNat_inj.1 (by show c.toNat=35;omega))
    exact wQ h2 none (by simp [Instr.findNow,Instr.sameNow,n10,Y9])
abbrev DL:Nat:=0
def sB (W:World):Prop:=∃t fr,W.heap[DL]? =some (.cells (jk.map fun o=>Value.string (str o)).toArray t fr)
theorem sB.below {W W':World} {B:Nat} (h:sB W) (hb:Below B W W') (hg:DL < B):sB W':=by
 obtain ⟨t,fr,h⟩:=h
 exact ⟨t,fr,(hb.block _ hg).trans h⟩
theorem sB.lt {W:World} (h:sB W):DL < W.heap.size:=by
 obtain ⟨t,fr,h⟩:=h
 exact (Array.getElem?_eq_some_iff.1 h).1
def oK (W:World) (b B K g:Nat) (l:List Tok) (hh:List Nat) (s:Nm) (vh:Value) (r:Ending) (W':World):Prop:=
 match fq s with
 | none=>r=.returned (.bool false)∧W'=W
 | some o=>r=.returned (.bool true)∧Below B W W'∧∃Et,dP W' b B K g (l++[⟨2,o,[],g⟩]) hh (s.drop o.length) Et vh
theorem Gz (W:World) (b B K g:Nat) (l:List Tok) (hh:List Nat) (s:Nm) (vl vh:Value) (h:dP W b B K g l hh s vl vh) (hl:l.length≤90000) (hO:sB W):
 Calls Tryz.prog 48 #[.pointer (some ⟨b,0,none⟩)] W (oK W b B K g l hh s vh):=by
 have HS:=Lib.hid h
 obtain ⟨tt,fr,Vd⟩:=hO
 have HOt:=Lib.hid Vd
 clear h Vd
 go_enter Tryz.func48,Tryz.ntmps48
 go_wp2_with (refine wpList_load_row rfl 96 _ rfl DL rfl tt _ fr _ HOt.out Tryz.underlying96 rfl (by kernel_rfl) ?_)
 go_loopw [6] (fun v6 wr=>∃i:Nat,i≤11∧v6=.int .i64 (i:Int)∧wr=W∧∀j,(hj:j < i)→(zL:j < jk.length)→has jk[j] s=false) (fun v6 _=>(match v6 with | .int _ z=>11 - z.toNat | _=>0))
 case atStart=>exact ⟨0,Nat.zero_le _,rfl,rfl,fun j hj=>absurd hj (Nat.not_lt_zero _)⟩
 case round=>
  obtain ⟨i,hi,rfl,hwr,hall⟩:=hrel
  have Cc:=Lib.hid hall
  clear hall
  have Ur:=hwr.symm
  subst Ur
  clear hwr
  by_cases zL:i < 11
  case neg=>
   obtain rfl:i=11:=by omega
   have HNo:Hid (fq s=none):=by
    show _=_
    unfold fq
    rw [List.find?_eq_none]
    intro o ho
    obtain ⟨j,hj,rfl⟩:=List.getElem_of_mem ho
    rw [Cc.out j hj hj]
    simp
   go_wp2_with fail
   go_ret
   unfold oK
   rw [HNo.out]
   exact ⟨rfl,rfl⟩
  have Am:i < jk.length:=zL
  obtain ⟨o,ho⟩:∃o,jk[i]=o:=⟨_,rfl⟩
  have xI:∀w':World,(Instr.index 96 (.agg #[.string (str [38,38]),.string (str [124,124]),.string (str [59,59]),.string (str [60,60]),.string (str [62,62]),.string (str [59]),.string (str [124]),.string (str [40]),.string (str [41]),.string (str [60]),.string (str [62])]) (.int .i64 (i:Int))).run Tryz.prog w'=.ok (.string (str o)) w':=fun w'=>by
   subst ho
   match i,zL with
   | 0,_=>rfl
   | 1,_=>rfl
   | 2,_=>rfl
   | 3,_=>rfl
   | 4,_=>rfl
   | 5,_=>rfl
   | 6,_=>rfl
   | 7,_=>rfl
   | 8,_=>rfl
   | 9,_=>rfl
   | 10,_=>rfl
  have HOi:=Lib.hid ho
  have a1:decide ((i:Int) < (11:Int))=true:=decide_eq_true (by omega)
  have a2:(i:Int) < (11:Int):=by omega
  clear ho
  go_wp2_with fail
  refine (ae W b s K g vl vh HS.out.rd o).mono ?_
  rintro r w6 ⟨rfl,xl⟩
  obtain rfl:=xl.symm
  by_cases yU:has o s=true
  case neg=>
   have yU:has o s=false:=by simpa using yU
   rw [yU]
   have Ue:Hid (∀j,(hj:j < i+1)→(zL:j < jk.length)→has jk[j] s=false):=fun j hj ZbR=>by
    by_cases e:j=i
    · subst e;rw [HOi.out];exact yU
    · exact Cc.out j (by omega) ZbR
   clear yU xI
   go_wp2_with fail
   go_roundw
   case rel=>exact ⟨i+1,by omega,by go_num,trivial,Ue.out⟩
   case measure=>simp;omega
  rw [yU]
  have HOo:Hid (fq s=some o):=by
   show _=_
   unfold fq
   rw [List.find?_eq_some_iff_getElem]
   exact ⟨yU,i,Am,HOi.out,fun j hj=>by rw [Cc.out j hj (by omega)];rfl⟩
  have Vh:o.length≤s.length:=eE yU
  have e1:(str o).size=o.length:=rfl
  clear yU xI
  go_wp2_with fail
  refine (cn _ b s K g vl vh HS.out.rd o.length Vh).mono ?_
  rintro r w7 ⟨rfl,ht,hr⟩
  have HST:=HS.out.turn ht hr
  have XL:=Lib.hid HST.1
  have Sn:=Lib.hid HST.2
  clear ht hr HST
  go_wp2_with fail
  refine (bQ w7 b B K g l hh (s.drop o.length) vl vh XL.out 2 o (by omega)).mono ?_
  rintro r w8 ⟨rfl,qC,vl8,hs8⟩
  have HF:Hid (Below B W w8∧∃Et,dP w8 b B K g (l++[⟨2,o,[],g⟩]) hh (s.drop o.length) Et vh):=⟨Sn.out.trans qC,vl8,hs8⟩
  clear qC hs8
  go_wp2_with fail
  go_ret
  unfold oK
  rw [HOo.out]
  exact ⟨rfl,HF.out⟩
theorem GJ (W:World) (b B K g:Nat) (l:List Tok) (hh:List Nat) (s:Nm) (vl vh:Value) (h:dP W b B K g l hh s vl vh):
 Calls Tryz.prog 44 #[.pointer (some ⟨b,0,none⟩)] W fun r W'=>r=.returned (.tuple #[])∧Below B W W'∧dP W' b B K g l hh (s.drop (cD s).1.length) vl vh:=by
 have HS:=Lib.hid h
 have qZ:=h.rd.len
 obtain ⟨⟨c0,c1,c2,c3,c4⟩,f0,f1,f2,f3,f4⟩:=bg h.rd.box
 clear h
 go_enter Tryz.func44,Tryz.ntmps44
 go_wp2_with fail
 refine (kK W s 10 (by omega)).mono ?_
 rintro r w3 ⟨hr,nd,hw3⟩
 have hb3:Below W.heap.size W w3:=by rw [hw3];exact cS _ _
 have Cu:=Lib.hid (HS.out.below hb3)
 have ku:Hid (Below B W w3):=hb3.mono HS.out.size
 clear hw3 hb3 c0 c1 c2 c3 c4 f0 f1 f2 f3 f4
 have hc:∃(ln rs:Nm) (bo:Bool),(cD s).1=ln∧r=.returned (.tuple #[.string (str ln),.string (str rs),.bool bo])∧ln.length≤s.length:=by
  cases hc:cutAt 10 s with
  | none=>rw [hc] at hr;exact ⟨s,[],false,by rw [xO hc],hr,Nat.le_refl _⟩
  | some x=>rw [hc] at hr;exact ⟨x.1,x.2,true,by rw [xR hc],hr,by have:=congrArg List.length (kC hc);simp at this;omega⟩
 obtain ⟨ln,rs,bo,vk,rfl,hle⟩:=hc
 have Px:=Lib.hid vk
 have e1:(str ln).size=ln.length:=rfl
 clear vk
 go_wp2_with fail
 refine (cn w3 b s K g vl vh Cu.out.rd ln.length hle).mono ?_
 rintro r w4 ⟨rfl,ht,hr⟩
 have HST:=Lib.hid (Cu.out.turn ht hr)
 clear ht hr
 go_wp2_with fail
 refine bodyPost_end (v:=.tuple #[]) (results_none rfl _ _ _) rfl ?_
 exact ⟨rfl,ku.out.trans HST.out.2,by rw [Px.out];exact HST.out.1⟩
theorem yS (W:World) (b B K g:Nat) (l:List Tok) (hh:List Nat) (s:Nm) (vl vh:Value) (h:dP W b B K g l hh (10::s) vl vh) (hi:∀i∈hh,i < l.length) (ZW:hh.length≤80000) (hl:l.length≤80000) (hb:Bd l (10::s).length) (X:Except Int (List Tok × Nm)) (hX:cX hh (l++[⟨3,[],[],g⟩]) s=X):
 Calls Tryz.prog 43 #[.pointer (some ⟨b,0,none⟩)] W (r9 W b B K g X):=by
 have HS:=Lib.hid h
 have qZ:=h.rd.len
 simp at qZ
 have HI:Hid (∀i∈hh,i < (l++[(⟨3,[],[],g⟩:Tok)]).length):=fun i LH=>by have:=hi i LH;simp;omega
 have EZ:Hid (Bd (l++[(⟨3,[],[],g⟩:Tok)]) s.length):=fun t ht=>by
  rcases List.mem_append.1 ht with ht | ht
  · have:=hb t ht;simp at this;omega
  · obtain rfl:=List.mem_singleton.1 ht;simp;omega
 clear h hi hb
 go_enter Tryz.func43,Tryz.ntmps43
 go_wp2_with fail
 refine (cn W b (10::s) K g vl vh HS.out.rd 1 (by simp)).mono ?_
 rintro r w2 ⟨rfl,ht,hr⟩
 have HST:=HS.out.turn ht (q:=s) hr
 have qc:=Lib.hid HST.1
 have dp:=Lib.hid HST.2
 clear ht hr HST
 go_wp2_with fail
 refine (bQ w2 b B K g l hh s vl vh qc.out 3 [] (by omega)).mono ?_
 rintro r w3 ⟨rfl,hb3,vl3,hs3⟩
 have Cu:=Lib.hid hs3
 have ku:=Lib.hid (dp.out.trans hb3)
 clear hb3 hs3
 go_wp2_with fail
 refine (B5 w3 b B K g _ hh s vl3 vh Cu.out HI.out (by omega) (by simp;omega) EZ.out X hX).mono ?_
 rintro r w4 hp
 cases X with
 | error e=>
   obtain ⟨rfl,hb4⟩:=hp
   exact ⟨rfl,rfl,ku.out.trans hb4⟩
 | ok y=>
   obtain ⟨rfl,hb4,B4⟩:=hp
   have HF:Hid (r9 W b B K g (.ok y) (.returned (.tuple #[])) w4):=⟨rfl,ku.out.trans hb4,B4⟩
   clear hb4 B4
   go_wp2_with fail
   refine bodyPost_end (v:=.tuple #[]) (results_none rfl _ _ _) rfl ?_
   exact HF.out
theorem dP.begin {W:World} {b B K g:Nat} {l:List Tok} {hh:List Nat} {s:Nm} {vl vh:Value} (h:dP W b B K g l hh s vl vh) (g':Nat):
 dP (W.setCell ⟨b,2,none⟩ (.int .i64 (g':Int))) b B K g' l hh s vl vh∧Below B W (W.setCell ⟨b,2,none⟩ (.int .i64 (g':Int))):=by
 have hs:=heap_setCell_same W b 2 _ _ (.int .i64 (g':Int)) h.rd.box
 have ht:aj b W (W.setCell ⟨b,2,none⟩ (.int .i64 (g':Int))):=aj.of_box (Sl.aq b [.int .i64 (g':Int)] 2 W)
 refine ⟨⟨⟨hs,h.rd.le,h.rd.big,h.rd.len⟩,?_,?_,h.bB⟩,ht.below h.bB h.size⟩
 ·
  exact bG h.l6 (fun j X hj hX=>ht.block j (Array.getElem?_eq_some_iff.1 hX).1 (fun e=>by
   subst e;exact fg (k':=0) h.l6 h.rd.box (by decide) hj))
 ·
  exact bG h.here (fun j X hj hX=>ht.block j (Array.getElem?_eq_some_iff.1 hX).1 (fun e=>by
   subst e;exact fg (k':=0) h.here h.rd.box (by decide) hj))
def rP (W:World) (b B K g:Nat) (x:Except Int St) (r:Ending) (W':World):Prop:=
 match x with
 | .error e=>r=nC e g∧Below B W W'
 | .ok y=>r=.returned (.tuple #[])∧Below B W W'∧∃vl vh,dP W' b B K g y.1 y.2.1 y.2.2 vl vh
theorem AX {W W':World} {b B K g:Nat} {x:Except Int St} {e:Int} (hx:x=.error e) (h:Below B W W'):rP W b B K g x (nC e g) W':=by subst hx;exact ⟨rfl,h⟩
theorem xV {W W':World} {b B K g:Nat} {x:Except Int St} {l:List Tok} {hh:List Nat} {q:Nm} {vl vh:Value} (hx:x=.ok (l,hh,q)) (h:Below B W W') (hs:dP W' b B K g l hh q vl vh):rP W b B K g x (.returned (.tuple #[])) W':=by subst hx;exact ⟨rfl,h,vl,vh,hs⟩
theorem K6 (W:World) (b B K g0:Nat) (l:List Tok) (hh:List Nat) (c:UInt8) (s:Nm) (vl vh:Value) (h:dP W b B K g0 l hh (c::s) vl vh) (hi:∀i∈hh,i < l.length) (ZW:hh.length≤80000) (hl:l.length≤80000) (hb:Bd l (c::s).length) (hO:sB W) (hg:DL < B) (X:Except Int St) (hX:eY (K - nl (c::s)) l hh (c::s)=X):
 Calls Tryz.prog 20 #[.pointer (some ⟨b,0,none⟩)] W (rP W b B K (K - nl (c::s)) X):=by
 obtain ⟨g,hgd⟩:∃g,K - nl (c::s)=g:=⟨_,rfl⟩
 have RV:=h.begin g
 have E2:=Lib.hid RV.1
 have zr:=Lib.hid RV.2
 have HI:=Lib.hid hi
 have EZ:=Lib.hid hb
 have qZ:=h.rd.len
 obtain ⟨⟨c0,c1,c2,c3,c4⟩,f0,f1,f2,f3,f4⟩:=bg h.rd.box
 rw [hgd] at hX c1 ⊢
 have HX:=Lib.hid hX
 have Cz:Hid (sB (W.setCell ⟨b,2,none⟩ (.int .i64 (g:Int)))):=hO.below RV.2 hg
 clear h hi hb hX hgd RV hO
 have QU:∀(fn:Fn) (first cap:Array Value) (w:World),(Instr.makeFunc fn first cap).run Tryz.prog w=.ok (.func fn first cap) w:=fun _ _ _ _=>rfl
 go_enter Tryz.func20,Tryz.ntmps20
 go_upto_region 1 with fail
 clear c0 c1 c2 c3 c4 f0 f1 f2 f3 f4
 generalize W.setCell ⟨b,2,none⟩ (.int .i64 (g:Int))=w1 at *
 obtain ⟨wa,wb,hu1,hu2,xh,hlk⟩:=R4 w1 (.func (.func 43) #[.pointer (some ⟨b,0,none⟩)] #[]) (.func (.func 44) #[.pointer (some ⟨b,0,none⟩)] #[])
 have qc:=Lib.hid (E2.out.below xh)
 have dp:=Lib.hid (zr.out.trans (xh.mono E2.out.size))
 have HO2:=Lib.hid (Cz.out.below (xh.mono E2.out.size) hg)
 obtain ⟨⟨c0,c1,c2,c3,c4⟩,f0,f1,f2,f3,f4⟩:=bg qc.out.rd.box
 have e1:(str (c::s)).size=s.length+1:=rfl
 have hb0:∀h:0 < (str (c::s)).size,(str (c::s))[0]'h=c:=fun _=>rfl
 have Vs:∀w:World,(Instr.makeMap PH none).run Tryz.prog w=.ok (.map (some w.heap.size)) (w.alloc (.map #[] 0)):=fun w=>run_makeMap _ w
 have Ce:=hlk c
 unfold Fk at Ce
 clear hlk xh E2 zr Cz
 by_cases h10:c=10
 ·
  subst h10
  have PX:(Instr.lookup PH (.map (some w1.heap.size)) (.int .u8 10) true).run Tryz.prog wb=.ok (.tuple #[.func (.func 43) #[.pointer (some ⟨b,0,none⟩)] #[],.bool true]) wb:=Ce
  have hb1:(10:UInt8).toNat=10:=rfl
  clear Ce
  obtain ⟨Y,hY⟩:∃Y,cX hh (l++[⟨3,[],[],g⟩]) s=Y:=⟨_,rfl⟩
  have HE:Hid (X=lz Y fun x=>.ok (x.1,[],x.2)):=by show _=_;rw [←HX.out,←hY];rfl
  go_wp2_with fail
  refine (yS wb b B K g l hh s vl vh qc.out HI.out ZW hl EZ.out Y hY).mono ?_
  rintro r w4 hp
  cases Y with
  | error e=>
    obtain ⟨rfl,hb4⟩:=hp
    exact ⟨rfl,AX HE.out (dp.out.trans hb4)⟩
  | ok y=>
    obtain ⟨rfl,hb4,vl4,vh4,B4⟩:=hp
    have E3:=Lib.hid B4
    have iE:=Lib.hid (dp.out.trans hb4)
    clear hb4 B4 hY
    go_wp2_with fail
    refine bodyPost_end (v:=.tuple #[]) (results_none rfl _ _ _) rfl ?_
    exact xV HE.out iE.out E3.out
 by_cases uR:c=35
 ·
  subst uR
  have PX:(Instr.lookup PH (.map (some w1.heap.size)) (.int .u8 35) true).run Tryz.prog wb=.ok (.tuple #[.func (.func 44) #[.pointer (some ⟨b,0,none⟩)] #[],.bool true]) wb:=Ce
  have hb1:(35:UInt8).toNat=35:=rfl
  have HE:Hid (X=.ok (l,hh,(35::s).drop (cD (35::s)).1.length)):=HX.out.symm
  clear Ce h10
  go_wp2_with fail
  refine (GJ wb b B K g l hh (35::s) vl vh qc.out).mono ?_
  rintro r w4 ⟨rfl,hb4,B4⟩
  have E3:=Lib.hid B4
  have iE:=Lib.hid (dp.out.trans hb4)
  clear hb4 B4
  go_wp2_with fail
  refine bodyPost_end (v:=.tuple #[]) (results_none rfl _ _ _) rfl ?_
  exact xV HE.out iE.out E3.out
 rw [if_neg h10,if_neg uR] at Ce
 by_cases hj:has [92,10] (c::s)=true
 ·
  obtain ⟨rfl,PI⟩:=rh hj
  have HE:Hid (X=.ok (l,hh,s.drop 1)):=by show _=_;rw [←HX.out];unfold eY;simp only;rw [if_neg h10,if_neg uR,if_pos hj]
  have HJ:=Lib.hid hj
  have PX:(Instr.lookup PH (.map (some w1.heap.size)) (.int .u8 92) true).run Tryz.prog wb=.ok (.tuple #[.nilFunc,.bool false]) wb:=Ce
  have hb1:(92:UInt8).toNat=92:=rfl
  clear hj h10 uR Ce
  go_wp2_with fail
  refine (ae wb b (92::s) K g vl vh qc.out.rd [92,10]).mono ?_
  rintro r wn ⟨rfl,bu⟩
  obtain rfl:=bu.symm
  rw [HJ.out]
  go_wp2_with fail
  refine (cn wb b (92::s) K g vl vh qc.out.rd 2 (by simp;omega)).mono ?_
  rintro r w4 ⟨rfl,ht,hr⟩
  have HST:=qc.out.turn ht (q:=s.drop 1) hr
  have E3:=Lib.hid HST.1
  have iE:=Lib.hid (dp.out.trans HST.2)
  clear ht hr HST
  go_wp2_with fail
  refine bodyPost_end (v:=.tuple #[]) (results_none rfl _ _ _) rfl ?_
  exact xV HE.out iE.out E3.out
 have hj:has [92,10] (c::s)=false:=by simpa using hj
 have HJ:=Lib.hid hj
 have hx1:(str (c::s)).extract 0 1=str [c]:=Sw.vH _ _ _
 have e2:(1:Int)≤((str (c::s)).size:Int):=by rw [e1];omega
 obtain ⟨bl,hbl⟩:∃bl,([32,9]:Nm).contains c=bl:=⟨_,rfl⟩
 have DA:=Lib.hid hbl
 go_wp2_with fail
 refine (ae wb b (c::s) K g vl vh qc.out.rd [92,10]).mono ?_
 rintro r wn ⟨rfl,bu⟩
 obtain rfl:=bu.symm
 rw [HJ.out]
 clear hbl
 go_wp2_with fail
 refine (Tryz.strings_Contains_one (str [32,9]) c _).mono ?_
 rintro q w3 ⟨rfl,hw3⟩
 obtain rfl:=hw3.symm
 rw [ng,sw,DA.out]
 cases bl with
 | true=>
   have R2:c=32∨c=9:=by have:=DA.out;simpa using this
   have HE:Hid (X=.ok (l,hh,s)):=by show _=_;rw [←HX.out];unfold eY;simp only;rw [if_neg h10,if_neg uR,if_neg (by simp [hj]),if_pos R2]
   clear R2 h10 uR hj
   go_wp2_with fail
   refine (cn wb b (c::s) K g vl vh qc.out.rd 1 (by simp)).mono ?_
   rintro r w4 ⟨rfl,ht,hr⟩
   have HST:=qc.out.turn ht (q:=s) hr
   have E3:=Lib.hid HST.1
   have iE:=Lib.hid (dp.out.trans HST.2)
   clear ht hr HST
   go_wp2_with fail
   refine bodyPost_end (v:=.tuple #[]) (results_none rfl _ _ _) rfl ?_
   exact xV HE.out iE.out E3.out
 | false=>
   have R2:¬(c=32∨c=9):=by have:=DA.out;simpa using this
   have HD:Hid (eY g l hh (c::s)=match fq (c::s) with
    | some o=>.ok (l++[⟨2,o,[],g⟩],hh,(c::s).drop o.length)
    | none=>
      if c=38 then .error 20
      else lz (fe (c::s)) fun x=>
       if kR (c::s) x.1 x.2 then .ok (l++[⟨5,x.1,[],g⟩],hh,x.2)
       else .ok (l++[⟨1,x.1,[],g⟩],if cW l then hh++[l.length] else hh,x.2)):=by show _=_;unfold eY;simp only;rw [if_neg h10,if_neg uR,if_neg (by simp [hj]),if_neg R2];cases fq (c::s)<;>rfl
   clear R2 h10 uR hj hb0 hx1 e2 Ce
   go_wp2_with fail
   refine (Gz wb b B K g l hh (c::s) vl vh qc.out (by omega) HO2.out).mono ?_
   rintro r w4 hp
   cases Xn:fq (c::s) with
   | some o=>
     unfold oK at hp
     rw [Xn] at hp
     obtain ⟨rfl,hb4,vl4,B4⟩:=hp
     have HE:Hid (X=.ok (l++[⟨2,o,[],g⟩],hh,(c::s).drop o.length)):=by show _=_;rw [←HX.out,HD.out,Xn]
     have E3:=Lib.hid B4
     have iE:=Lib.hid (dp.out.trans hb4)
     clear hb4 B4 Xn
     go_wp2_with fail
     refine bodyPost_end (v:=.tuple #[]) (results_none rfl _ _ _) rfl ?_
     exact xV HE.out iE.out E3.out
   | none=>
     unfold oK at hp
     rw [Xn] at hp
     obtain ⟨rfl,hw4⟩:=hp
     obtain rfl:=hw4.symm
     rw [Xn] at HD
     clear Xn
     by_cases ET:c=38
     ·
      subst ET
      have HE:Hid (X=.error 20):=by show _=_;rw [←HX.out,HD.out];rfl
      go_wp2_with fail
      refine (ae wb b (38::s) K g vl vh qc.out.rd [38]).mono ?_
      rintro r wn ⟨rfl,bu⟩
      obtain rfl:=bu.symm
      rw [show has [38] (38::s)=true from rfl]
      go_wp2_with fail
      refine (bq wb b (38::s) K g vl vh qc.out.rd 20).mono ?_
      rintro r w9 ⟨rfl,rfl⟩
      exact ⟨rfl,AX HE.out dp.out⟩
     ·
      have H38:Hid (has [38] (c::s)=false):=cO (Ne.symm ET)
      have HD2:Hid (X=lz (fe (c::s)) fun x=>
       if kR (c::s) x.1 x.2 then .ok (l++[⟨5,x.1,[],g⟩],hh,x.2)
       else .ok (l++[⟨1,x.1,[],g⟩],if cW l then hh++[l.length] else hh,x.2)):=by show _=_;rw [←HX.out,HD.out];simp only;rw [if_neg ET]
      clear ET
      go_wp2_with fail
      refine (ae wb b (c::s) K g vl vh qc.out.rd [38]).mono ?_
      rintro r wn ⟨rfl,bu⟩
      obtain rfl:=bu.symm
      rw [H38.out]
      go_wp2_with fail
      refine (Hk wb b B K g l hh (c::s) vl vh qc.out (by omega) (by omega)).mono ?_
      rintro r w4 hp
      unfold jH at hp
      cases hwd:fe (c::s) with
      | error e=>
        rw [hwd] at hp
        obtain ⟨rfl,hb4⟩:=hp
        exact ⟨rfl,AX (by rw [HD2.out,hwd];rfl) (dp.out.trans hb4)⟩
      | ok y=>
        rw [hwd] at hp
        obtain ⟨rfl,hb4,vl4,vh4,B4⟩:=hp
        have HF:Hid (rP W b B K g X (.returned (.tuple #[])) w4):=by
         show rP _ _ _ _ _ _ _ _
         rw [HD2.out,hwd,iL]
         split at B4
         ·
          rename_i rb
          rw [if_pos rb]
          exact ⟨rfl,dp.out.trans hb4,vl4,vh4,B4⟩
         ·
          rename_i rb
          rw [if_neg rb]
          exact ⟨rfl,dp.out.trans hb4,vl4,vh4,B4⟩
        clear hb4 B4 hwd
        go_wp2_with fail
        refine bodyPost_end (v:=.tuple #[]) (results_none rfl _ _ _) rfl ?_
        exact HF.out
end Go.Proofs.YtiklkhbfilbpeaaGreatDoor
