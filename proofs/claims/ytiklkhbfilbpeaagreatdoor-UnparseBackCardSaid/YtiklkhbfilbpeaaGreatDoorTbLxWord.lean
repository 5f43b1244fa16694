import Derived.Test.YtiklkhbfilbpeaaGreatDoorTbLxPut
import Derived.Shelf.Strings.SlTrimAscii
set_option maxRecDepth 100000
set_option maxHeartbeats 16000000
set_option linter.unusedVariables false
set_option linter.unusedSimpArgs false
namespace Go.Proofs.YtiklkhbfilbpeaaGreatDoor
open Go.RowKit Base Lx
abbrev Ba:Nm:=[48,49,50,51,52,53,54,55,56,57]
theorem Gb (W:World) (s:Nm) (hs:s.length≤1000000):Calls Tryz.prog 70 #[.string (str s),.string (str Ba)] W fun e w'=>e=.returned (.string (str (Lib.trimS s Ba)))∧Below W.heap.size W w':=by
 have h:=Any.strings_Trim_laid (P:=Tryz.prog) Tryz.lays160 (by kernel_rfl) (str s) (str Ba) W (by rw [aU];omega) (by decide) (fun j b hb=>by
  have:b∈Ba:=List.mem_of_getElem? hb
  simp at this
  rcases this with rfl | rfl | rfl | rfl | rfl | rfl | rfl | rfl | rfl | rfl<;>decide)
 exact h
theorem Wm (c:UInt8):Ba.contains c=oG c:=by
 have h:∀n:Fin 256,Ba.contains (UInt8.ofNat n.val)=oG (UInt8.ofNat n.val):=by decide
 have:=h ⟨c.toNat,c.toNat_lt⟩
 simpa using this
theorem dropWhile_nil {p:UInt8→Bool}:∀l:Nm,l.dropWhile p=[]↔l.all p=true
 | []=>by simp
 | c::r=>by
   rw [List.dropWhile_cons,List.all_cons]
   by_cases h:p c=true
   · rw [if_pos h,dropWhile_nil r];simp [h]
   · rw [if_neg h];simp [h]
theorem L4 (s:Nm):Lib.trimS s Ba=[]↔s.all oG=true:=by
 have hf:(fun c=>Ba.contains c)=oG:=funext Wm
 unfold Lib.trimS Lib.trimLeftS Lib.trimRightS
 rw [hf]
 rw [dropWhile_nil,List.all_reverse]
 constructor
 ·
  intro h
  rw [←List.all_reverse]
  have h1:(s.reverse.dropWhile oG).all oG=true:=h
  have h2:=List.takeWhile_append_dropWhile (p:=oG) (l:=s.reverse)
  rw [←h2,List.all_append,h1,Bool.and_true]
  exact List.all_takeWhile
 ·
  intro h
  have:s.reverse.dropWhile oG=[]:=(dropWhile_nil _).2 (by rw [List.all_reverse];exact h)
  rw [this];rfl
theorem vO {W:World} {B:Nat} {v:Value} {l:List Tok} (h:W.ownsRow B mK 4 v l.length (l.flatMap rT)):∃a c,v=.slice a l.length c∧∃b1 off,(∀k (hk:k < l.length),Ap.sW rT W b1 (off+k * 4) l[k])∧
 ∀(k:Nat) (w':World),k < l.length→(Instr.indexAt 39 (.slice a l.length c) (.int .i64 (k:Int))).run Tryz.prog w'=.ok (.pointer (some ⟨b1,off+k * 4,none⟩)) w':=by
 obtain ⟨i0,iy,hz0,hz1,hz2⟩:=info_parts sX
 obtain ⟨a,c,rfl,hr⟩:=Ap.tR (by decide) kj h
 obtain ⟨b1,off,h1,h2⟩:=hr.at (P:=Tryz.prog)
 exact ⟨a,c,rfl,b1,off,h1,fun k w' hk=>h2 39 mK i0 Tryz.underlying39 iy hz1 .i64 k w' hk⟩
theorem wz {l:List Tok} (h:l≠[]):∃l' t,l=l'++[t]:=⟨l.dropLast,l.getLast h,(List.dropLast_concat_getLast h).symm⟩
theorem Hl (l:List Tok) (t:Tok):cW (l++[t])=(decide (t.k=2) && decide (t.t=[60,60])):=by
 unfold cW;rw [List.getLast?_append];rfl
theorem Ik {W:World} {B:Nat} {v:Value} {l:List Tok} {t:Tok} {L:Nat} (hL:(l++[t]).length=L) (h:W.ownsRow B mK 4 v (l++[t]).length ((l++[t]).flatMap rT)):∃a c,v=.slice a L c∧∃b1 z,W.cell? ⟨b1,z,none⟩=some (.int .i64 (t.k:Int))∧W.cell? ⟨b1,z+1,none⟩=some (.string (str t.t))∧W.cell? ⟨b1,z+3,none⟩=some (.int .i64 (t.ln:Int))∧
 ∀w',(Instr.indexAt 39 (.slice a L c) (.int .i64 ((L:Int) - 1))).run Tryz.prog w'=.ok (.pointer (some ⟨b1,z,none⟩)) w':=by
 obtain ⟨a,c,rfl,b1,off,h1,h2⟩:=vO h
 have hl:(l++[t]).length=l.length+1:=by simp
 have h3:=h1 l.length (by omega)
 rw [List.getElem_append_right (Nat.le_refl _)] at h3
 simp only [Nat.sub_self,List.getElem_cons_zero] at h3
 rw [hL]
 refine ⟨a,c,rfl,b1,off+l.length * 4,h3 0 _ rfl,h3 1 _ rfl,h3 3 _ rfl,fun w'=>?_⟩
 have:=h2 l.length w' (by omega)
 rw [hL] at this
 rw [show (L:Int) - 1=(l.length:Int) by omega]
 exact this
theorem dP.hereAdd {W W1:World} {b B K g:Nat} {l:List Tok} {hh:List Nat} {s:Nm} {vl vh NK:Value} {i:Nat} (h:dP W b B K g l hh s vl vh) (hg:W.grownBy W1 vh.ownBlock) (ho:W1.ownsRow B dU 1 NK (hh.length+1) (hh.map iv++[iv i])):
 W1.heap[b]? =W.heap[b]?∧dP (W1.setCell ⟨b,4,none⟩ NK) b B K g l (hh++[i]) s vl NK∧Below B W (W1.setCell ⟨b,4,none⟩ NK):=by
 have hb:W1.heap[b]? =W.heap[b]?:=hg.block b h.rd.lt (fun e=>fg (k':=0) h.here h.rd.box (by decide) e.symm)
 have fV:W1.heap[b]? =some (.cells #[.string (str s),.int .i64 ((K - nl s:Nat):Int),.int .i64 (g:Int),vl,vh] nc):=hb.trans h.rd.box
 have hs:=heap_setCell_same W1 b 4 _ _ NK fV
 have hgr:W1.grownBy (W1.setCell ⟨b,4,none⟩ NK) (some b):=Sl.aq b [NK] 4 W1
 have MU:∀(j:Nat) (X:Array Value) (e:TypeId),W1.heap[j]? =some (.cells X e)→e≠nc→(W1.setCell ⟨b,4,none⟩ NK).heap[j]? =W1.heap[j]?:=fun j X e hX hne=>hgr.block j (Array.getElem?_eq_some_iff.1 hX).1 (fun ej=>by
  obtain rfl:=Option.some.inj ej
  rw [hX] at fV
  injection fV with fV
  injection fV with _ hT _
  exact hne hT)
 refine ⟨hb,⟨⟨hs,h.rd.le,h.rd.big,h.rd.len⟩,?_,?_,h.bB⟩,⟨hgr.os.trans hg.os,hgr.tape.trans hg.tape,hgr.output.trans hg.output,Nat.le_trans hg.size hgr.size,fun j hj=>?_⟩⟩
 ·
  have h1:W1.ownsRow B mK 4 vl l.length (l.flatMap rT):=bG h.l6 (fun j X hj hX=>hg.block j (Array.getElem?_eq_some_iff.1 hX).1 (fun e=>fg (k':=0) h.here hX (by decide) e.symm))
  exact bG h1 (fun j X _ hX=>MU j X mK hX (by decide))
 ·
  rw [List.length_append,List.map_append]
  exact bG ho (fun j X _ hX=>MU j X dU hX (by decide))
 ·
  have h1:j≠b:=by have:=h.bB;omega
  have Ll:j < W.heap.size:=Nat.lt_of_lt_of_le hj h.size
  exact (hgr.block j (Nat.lt_of_lt_of_le Ll hg.size) (fun e=>h1 (Option.some.inj e))).trans (hg.block j Ll (fun e=>by have:=(h.here.lt _ e.symm).1;omega))
def mo (W:World) (b:Nat):Nat:=match W.cell? ⟨b,0,none⟩ with
 | some (.string t)=>t.size
 | _=>0
theorem cB {W:World} {b:Nat} {s:Nm} {K g:Nat} {vl vh:Value} (h:Rd W b s K g vl vh):mo W b=s.length:=by
 unfold mo;rw [(bg h.box).1.1];rfl
def jH (W:World) (b B K g:Nat) (l:List Tok) (hh:List Nat) (s:Nm) (r:Ending) (W':World):Prop:=
 match fe s with
 | .error e=>r=nC e g∧Below B W W'
 | .ok x=>r=.returned (.tuple #[])∧Below B W W'∧∃Et NK,if kR s x.1 x.2 then dP W' b B K g (l++[⟨5,x.1,[],g⟩]) hh x.2 Et NK else dP W' b B K g (l++[⟨1,x.1,[],g⟩]) (if cW l then hh++[l.length] else hh) x.2 Et NK
theorem Qx {W W':World} {b B K g:Nat} {l:List Tok} {hh:List Nat} {s o q:Nm} {vl vh:Value} (hx:fe s=.ok (o,q)) (hi:kR s o q=true) (hb:Below B W W') (h:dP W' b B K g (l++[⟨5,o,[],g⟩]) hh q vl vh):jH W b B K g l hh s (.returned (.tuple #[])) W':=by
 unfold jH;rw [hx];exact ⟨rfl,hb,vl,vh,by rw [if_pos hi];exact h⟩
theorem I0 {W W':World} {b B K g:Nat} {l:List Tok} {hh hh':List Nat} {s o q:Nm} {vl vh:Value} (hx:fe s=.ok (o,q)) (hi:kR s o q=false) (he:(if cW l then hh++[l.length] else hh)=hh') (hb:Below B W W') (h:dP W' b B K g (l++[⟨1,o,[],g⟩]) hh' q vl vh):jH W b B K g l hh s (.returned (.tuple #[])) W':=by
 unfold jH;rw [hx];exact ⟨rfl,hb,vl,vh,by rw [if_neg (by simp [hi]),he];exact h⟩
theorem Hk (W:World) (b B K g:Nat) (l:List Tok) (hh:List Nat) (s:Nm) (vl vh:Value) (h:dP W b B K g l hh s vl vh) (hl:l.length≤90000) (ZW:hh.length≤90000):
 Calls Tryz.prog 49 #[.pointer (some ⟨b,0,none⟩)] W (jH W b B K g l hh s):=by
 have HS:=Lib.hid h
 have qZ:=h.rd.len
 obtain ⟨⟨c0,c1,c2,c3,c4⟩,f0,f1,f2,f3,f4⟩:=bg h.rd.box
 obtain ⟨N,hN⟩:∃N,s.length=N:=⟨_,rfl⟩
 have e1:(str s).size=N:=hN
 have Lv:Hid (lz (pre [] (loop (j8 0) ends s)) .ok=fe s):=by
  show _=_
  rw [pre_nil];unfold fe;cases loop (j8 0) ends s<;>rfl
 have HN:=Lib.hid hN
 rw [hN] at qZ
 clear h hN
 go_enter Tryz.func49,Tryz.ntmps49
 go_wp2_with fail
 clear c0 c1 c2 c3 c4 f0 f1 f2 f3 f4 e1
 go_loopw [3] (fun v3 wr=>∃(o q:Nm),v3=.string (str o)∧lz (pre o (loop (j8 0) ends q)) .ok=fe s∧o.length+q.length≤N∧Rd wr b q K g vl vh∧aj b W wr) (fun _ wr=>mo wr b)
 case atStart=>exact ⟨[],s,rfl,Lv.out,by have:=HN.out;simp;omega,HS.out.rd,aj.refl _ _⟩
 case round=>
  clear Lv
  obtain ⟨o,q,rfl,hx,Lz,hr,ht⟩:=hrel
  have HX:=Lib.hid hx
  have HR:=Lib.hid hr
  have HT:=Lib.hid ht
  have Vh:(str o).size=o.length:=rfl
  clear hx hr ht
  go_wp2_with fail
  refine (GC wr b q K g vl vh HR.out).mono ?_
  rintro r w2 ⟨rfl,hw2⟩
  obtain rfl:=hw2.symm
  by_cases hs:ends q=true
  rotate_left
  ·
   have hs:ends q=false:=by simpa using hs
   have qc:=Lib.hid hs
   rw [hs]
   clear hs
   go_wp2_with fail
   refine (Iz (q.length+1) _ b q 0 K g vl vh false HR.out (by omega) (by omega)).mono ?_
   rintro r w3 hp
   cases Fw:j8 0 q with
   | error e=>
     rw [Fw] at hp
     obtain ⟨rfl,ht⟩:=hp
     refine ⟨rfl,?_⟩
     show jH W b B K g l hh s _ _
     unfold jH
     rw [←HX.out,tX (cj _) (iU _) qc.out Fw]
     exact ⟨rfl,(HT.out.trans ht).below HS.out.bB HS.out.size⟩
   | ok y=>
     rw [Fw] at hp
     obtain ⟨rfl,ht,hr⟩:=hp
     have oA:Hid (lz (pre (o++y.1) (loop (j8 0) ends y.2)) .ok=fe s):=by show _=_;rw [←HX.out,pV (cj _) (iU _) qc.out Fw]
     have hlt:=cj _ _ _ Fw
     have Vd:=oU _ _ _ Fw
     have jf:=Lib.hid (HT.out.trans ht)
     have hc3:=cB hr
     have hc2:=cB HR.out
     have l4:=Lib.hid hr
     have EE:(str o).size+(str y.1).size≤9223372036854775807:=by rw [aU,aU];omega
     clear ht hr Fw
     go_wp2_with fail
     go_roundw
     case rel=>exact ⟨o++y.1,y.2,by rw [bn],oA.out,by rw [List.length_append];omega,l4.out,jf.out⟩
     case measure=>rw [hc3,hc2];exact hlt
  ·
   have HE:Hid (fe s=.ok (o,q)):=by show _=_;rw [←HX.out,BA hs]
   rw [hs]
   clear hs HX
   have HL:=Lib.hid (HS.out.turn HT.out HR.out)
   clear HT
   obtain ⟨⟨c0,c1,c2,c3,c4⟩,f0,f1,f2,f3,f4⟩:=bg HR.out.box
   have e2:(str q).size=q.length:=rfl
   go_upto_region 5 with fail
   go_cut [40] (fun s40 wx=>s40=.bool (kR s o q)∧Below wr.heap.size wr wx)
   case first=>
    have HI:Hid (kR s o q=(decide (N=o.length+q.length) && o.all oG && (has [60] q || has [62] q))):=by show _=_;unfold kR;rw [HN.out]
    by_cases hA:N=o.length+q.length
    ·
     have hA1:(N:Int) - (q.length:Int)=(o.length:Int):=by omega
     have hA2:decide ((N:Int) - (q.length:Int)=(o.length:Int))=true:=decide_eq_true hA1
     have hq:(q.length:Int)≤(N:Int):=by omega
     have HA:=Lib.hid hA
     clear hA
     obtain ⟨T,hT⟩:∃T,Lib.trimS o Ba=T:=⟨_,rfl⟩
     have HT:=Lib.hid hT
     have Lm:=L4 o
     rw [hT] at Lm
     clear hT
     go_wp2_with fail
     refine (Gb wr o (by omega)).mono ?_
     rintro r w5 ⟨rfl,ll⟩
     rw [HT.out]
     have S1:=Lib.hid (HR.out.below ll)
     have jw:=Lib.hid ll
     clear ll
     by_cases hd:T=[]
     ·
      subst hd
      have hall:o.all oG=true:=Lm.1 rfl
      have t1:((str []).toList==[])=true:=by rw [rC];rfl
      go_wp2_with fail
      refine (ae w5 b q K g vl vh S1.out [60]).mono ?_
      rintro r w6 ⟨rfl,xl⟩
      obtain rfl:=xl.symm
      by_cases TV:has [60] q=true
      ·
       rw [TV]
       have FL:Hid (kR s o q=true):=by show _=_;rw [HI.out,decide_eq_true HA.out,hall,TV];rfl
       clear TV hall Lm
       go_wp2_with fail
       go_meet
       exact ⟨by rw [FL.out],jw.out⟩
      ·
       have TV:has [60] q=false:=by simpa using TV
       rw [TV]
       have FL:Hid (kR s o q=has [62] q):=by show _=_;rw [HI.out,decide_eq_true HA.out,hall,TV];rfl
       clear TV hall Lm
       go_wp2_with fail
       refine (ae w5 b q K g vl vh S1.out [62]).mono ?_
       rintro r w6 ⟨rfl,xl⟩
       obtain rfl:=xl.symm
       go_wp2_with fail
       go_meet
       exact ⟨by rw [FL.out],jw.out⟩
     ·
      have t1:((str T).toList==[])=false:=by rw [rC];simpa using hd
      have FL:Hid (kR s o q=false):=by
       show _=_
       rw [HI.out]
       have:o.all oG=false:=by
        rcases ho:o.all oG with _ | _
        · rfl
        · exact absurd (Lm.2 ho) hd
       rw [this];simp
      clear hd Lm
      go_wp2_with fail
      go_meet
      exact ⟨by rw [FL.out],jw.out⟩
    ·
     have hA1:¬(N:Int) - (q.length:Int)=(o.length:Int):=by omega
     have hA2:decide ((N:Int) - (q.length:Int)=(o.length:Int))=false:=decide_eq_false hA1
     have HIf:Hid (kR s o q=false):=by show _=_;rw [HI.out,decide_eq_false hA];rfl
     have hq:(q.length:Int)≤(N:Int):=by omega
     clear hA
     go_wp2_with fail
     go_meet
     exact ⟨by rw [HIf.out],Below.refl _ _⟩
   case rest=>
    obtain ⟨rfl,ll⟩:=hcut
    have Io:=Lib.hid (HL.out.1.below ll)
    have jw:Hid (Below B W wc):=HL.out.2.trans (ll.mono (Nat.le_trans HS.out.size HL.out.2.size))
    clear ll HL HR
    clear c0 c1 c2 c3 c4 f0 f1 f2 f3 f4
    obtain ⟨⟨c0,c1,c2,c3,c4⟩,f0,f1,f2,f3,f4⟩:=bg Io.out.rd.box
    obtain ⟨a3,q3,rfl,b1,off,hcs,mB⟩:=vO Io.out.l6
    cases hv:kR s o q with
    | true=>
      have HV:=Lib.hid hv
      clear hv
      go_wp2_with fail
      refine (bQ wc b B K g l hh q _ vh Io.out 5 o (by omega)).mono ?_
      rintro r w6 ⟨rfl,iY,vl6,Ps⟩
      have Qk:=Lib.hid Ps
      have Bv:=Lib.hid (jw.out.trans iY)
      clear iY Ps
      go_wp2_with fail
      refine bodyPost_end (v:=.tuple #[]) (results_none rfl _ _ _) rfl ?_
      exact Qx HE.out HV.out Bv.out Qk.out
    | false=>
      have HV:=Lib.hid hv
      clear hv
      obtain ⟨L,hL⟩:∃L,l.length=L:=⟨_,rfl⟩
      rw [hL] at c3
      have Px:=Lib.hid hL
      have hLb:L≤90000:=by omega
      clear hL hcs mB
      go_upto_region 8 with fail
      go_cut [75] (fun s75 wx=>s75=.bool (cW l)∧wx=wc)
      case first=>
       by_cases hn:l=[]
       ·
        subst hn
        obtain rfl:L=0:=Px.out.symm
        go_wp2_with fail
        go_meet
        exact ⟨rfl,rfl⟩
       ·
        obtain ⟨l',t,rfl⟩:=wz hn
        obtain ⟨a4,q4,XO,b2,z,d0,d1,d3,mB⟩:=Ik Px.out Io.out.l6
        rw [Px.out] at XO
        obtain ⟨rfl,rfl⟩:a3=a4∧q3=q4:=by injection XO with h1 h2 h3;exact ⟨h1,h3⟩
        have HI:Hid (cW (l'++[t])=(decide (t.k=2) && decide (t.t=[60,60]))):=Hl l' t
        have hL0:0 < L:=by have:=Px.out;simp at this;omega
        have u1:decide ((0:Int) < (L:Int))=true:=decide_eq_true (by omega)
        have u2:(0:Int) < (L:Int):=by omega
        by_cases hk:t.k=2
        ·
         have k1:((t.k:Int)==2)=true:=by rw [hk];rfl
         have k2:decide ((t.k:Int)=2)=true:=by rw [hk];rfl
         by_cases ht:t.t=[60,60]
         ·
          have t1:((str t.t).toList==[60,60])=true:=by rw [rC,ht];rfl
          have FL:Hid (cW (l'++[t])=true):=by show _=_;rw [HI.out,hk,ht];rfl
          clear ht hk hn XO
          go_wp2_with fail
          go_meet
          exact ⟨by rw [FL.out],rfl⟩
         ·
          have t1:((str t.t).toList==[60,60])=false:=by rw [rC];simpa using ht
          have FL:Hid (cW (l'++[t])=false):=by show _=_;rw [HI.out,decide_eq_false ht];simp
          clear ht hk hn XO
          go_wp2_with fail
          go_meet
          exact ⟨by rw [FL.out],rfl⟩
        ·
         have k0:¬(t.k:Int)=2:=by omega
         have k1:((t.k:Int)==2)=false:=by simpa using k0
         have k2:decide ((t.k:Int)=2)=false:=decide_eq_false k0
         have FL:Hid (cW (l'++[t])=false):=by show _=_;rw [HI.out,decide_eq_false hk];rfl
         clear hk hn XO k0
         go_wp2_with fail
         go_meet
         exact ⟨by rw [FL.out],rfl⟩
      case rest=>
       obtain ⟨rfl,hw⟩:=hcut
       subst hw
       cases yU:cW l with
       | false=>
         have HH2:Hid ((if cW l then hh++[l.length] else hh)=hh):=by show _=_;rw [yU];rfl
         clear yU
         go_wp2_with fail
         refine (bQ wc b B K g l hh q _ vh Io.out 1 o (by omega)).mono ?_
         rintro r w6 ⟨rfl,iY,vl6,Ps⟩
         have Qk:=Lib.hid Ps
         have Bv:=Lib.hid (jw.out.trans iY)
         clear iY Ps
         go_wp2_with fail
         refine bodyPost_end (v:=.tuple #[]) (results_none rfl _ _ _) rfl ?_
         exact I0 HE.out HV.out HH2.out Bv.out Qk.out
       | true=>
         have HH2:Hid ((if cW l then hh++[l.length] else hh)=hh++[L]):=by show _=_;rw [yU,Px.out];rfl
         clear yU
         obtain ⟨i0,iy,hz0,hz1,hz2⟩:=info_parts jy
         have cU:=(Below.refl wc.heap.size wc).alloc (Nat.le_refl _) (.cells #[iv L] dU)
         have XL:=Lib.hid (Io.out.below cU)
         have Sn:=Lib.hid (jw.out.trans (cU.mono (Io.out.size)))
         have HOA:=Lib.hid XL.out.here
         have Ku:=Lib.hid (vC (P:=Tryz.prog) wc [iv L] dU 1 1 rfl (by intro u hu;obtain rfl:=List.mem_singleton.1 hu;rfl) 1)
         unfold iv at Ku
         have xc:Hid (B≤(wc.alloc (.cells #[iv L] dU)).heap.size):=XL.out.size
         clear cU
         go_wp2_with (at_builtin;refine eI rfl (.tmp 80) (.tmp 82) 35 35 rfl B dU i0 (.int .i64 0) 1 8 Tryz.underlying35 (bw Tryz.underlying35) iy hz0 hz1 hz2 rfl (by decide) (by decide) _ hh.length _ rfl HOA.out _ 1 _ rfl Ku.out ?_ ?_ ?_ ?_)
         case _=>unfold maxLen;omega
         case _=>omega
         case _=>exact xc.out
         intro v' w' h1 h2 _
         have h1:w'.ownsRow B dU 1 v' (hh.length+1) (hh.map iv++[iv L]):=h1
         have HA:=XL.out.hereAdd h2 h1
         obtain ⟨⟨c0,c1,c2,c3,c4⟩,f0,f1,f2,f3,f4⟩:=bg (HA.1.trans XL.out.rd.box)
         have Zd:=Lib.hid HA.2.1
         have Cl:=Lib.hid (Sn.out.trans HA.2.2)
         obtain ⟨a9,q9,rfl,_⟩:=aA h1
         clear h1 h2 HA
         go_wp2_with fail
         refine (bQ _ b B K g l (hh++[L]) q _ _ Zd.out 1 o (by omega)).mono ?_
         rintro r w6 ⟨rfl,iY,vl6,Ps⟩
         have Qk:=Lib.hid Ps
         have Bv:=Lib.hid (Cl.out.trans iY)
         clear iY Ps
         go_wp2_with fail
         refine bodyPost_end (v:=.tuple #[]) (results_none rfl _ _ _) rfl ?_
         exact I0 HE.out HV.out HH2.out Bv.out Qk.out
end Go.Proofs.YtiklkhbfilbpeaaGreatDoor
