import Derived.Test.YtiklkhbfilbpeaaGreatDoorTbGUnB
set_option maxRecDepth 100000
set_option maxHeartbeats 16000000
set_option linter.unusedVariables false
set_option linter.unusedSimpArgs false
namespace Go.Proofs.YtiklkhbfilbpeaaGreatDoor.Ux
open Go.RowKit Base Lx Sy Sx Un
theorem lj (W:World) (b B:Nat) (tv bv:Value) (s:PS) (l:List Nd) (h:Pr W b B tv bv s) (ht:dX W B tv l) (n:Nd) (uw ur uk:Value) (hr:Sx.Rows W (fun g=>g < B) n uw ur uk) (eo:n.ks.length=1) (f:PS→PS) (c:Nat) (hk:lD l b B tv (kid n 0:Int) f c) (hl:aT s+(n.t.length+3+c)≤big):
 Calls Tryz.prog 38 #[.pointer (some ⟨b,0,none⟩),qM n uw ur uk] W fun r W'=>Post W b B tv bv (f (aG (n.t++[40,41,32]) s)) r W':=by
 obtain ⟨w1,N,cU,hN,HX⟩:=gM h ht hr
 obtain ⟨g,cc,mV,ck⟩:=HX.out.2.2.2.kid (i:=0) (by omega)
 rw [eo] at mV
 subst mV
 obtain ⟨c0,c1,c2,c3,c5,c6⟩:=HX.out.2.2.2.cells
 have LQ:gb [n.t,[40,41,32]] s=aG (n.t++[40,41,32]) s:=by simp [gb,aG]
 have hput:=rM w1 b B tv bv s HX.out.2.1 2 [n.t,[40,41,32]] (by have:=eu s;simp only [List.flatten_cons,List.flatten_nil,List.length_append,List.length_cons,List.length_nil];omega) (by simp)
 rw [LQ] at hput
 have HP:=Lib.hid hput
 have HL:=Lib.hid hl
 have HK:=Lib.hid hk
 have wh:=Lib.hid eo
 unfold qM
 clear h ht hr hk hl eo hput LQ
 go_enter Tryz.func38,Tryz.ntmps38
 go_wp2_with fail
 refine HP.out.mono ?_
 rintro r w2 ⟨jA,rfl,ep,fh⟩
 have fK:Hid (Sx.aj b bv W jA w2):=(Sx.aj.of_below HX.out.1).trans ep
 have bO:=HX.out.2.2.2.turn HX.out.2.1 ep
 have d6:=bO.cells.2.2.2.2.2
 have k2:=bO.kcell (i:=0) (by rw [wh.out];decide)
 have Ub:=Lib.hid (HK.out w2 jA _ fh (HX.out.2.2.1.below (bH HX.out.2.1 ep)) (by have h1:=HL.out;have h2:=iQ (n.t++[40,41,32]) s;simp only [List.length_append,List.length_cons,List.length_nil] at *;omega))
 clear ep fh bO
 go_wp2_with fail
 refine Ub.out.mono ?_
 rintro r w3 ⟨qs,rfl,gI,lp⟩
 go_wp2
 go_end0
 exact ⟨qs,rfl,fK.out.trans gI,lp⟩
theorem Jw (W:World) (b B:Nat) (tv bv:Value) (s:PS) (l:List Nd) (h:Pr W b B tv bv s) (ht:dX W B tv l) (n:Nd) (uw ur uk:Value) (hr:Sx.Rows W (fun g=>g < B) n uw ur uk) (f:Nat→PS→PS) (c:Nat→Nat) (hk:∀k∈n.ks,lD l b B tv (k:Int) (f k) (c k)) (hc:∀k∈n.ks,∀s,aT (f k s)≤aT s+c k) (hn:n.ks.length≤100000) (hl:aT s+yI 4 c n.ks≤big):
 Calls Tryz.prog 28 #[.pointer (some ⟨b,0,none⟩),qM n uw ur uk] W fun r W'=>Post W b B tv bv (iD [32,38,38,32] f n.ks s) r W':=by
 obtain ⟨w1,N,cU,hN,HX⟩:=gM h ht hr
 obtain ⟨c0,c1,c2,c3,c5,c6⟩:=HX.out.2.2.2.cells
 have HP:=Lib.hid (gY w1 b B tv bv s l HX.out.2.1 HX.out.2.2.1 [32,38,38,32] uk n.ks (kq HX.out.2.2.2.rows.k HX.out.2.2.2.rows.qk) f c hk hc hn hl)
 unfold qM
 clear h ht hr hk hl hc hn
 go_enter Tryz.func28,Tryz.ntmps28
 go_wp2_with fail
 refine HP.out.mono ?_
 rintro r w2 ⟨jA,rfl,ep,fh⟩
 go_wp2
 go_end0
 exact ⟨jA,rfl,(Sx.aj.of_below HX.out.1).trans ep,fh⟩
theorem MH (W:World) (b B:Nat) (tv bv:Value) (s:PS) (l:List Nd) (h:Pr W b B tv bv s) (ht:dX W B tv l) (n:Nd) (uw ur uk:Value) (hr:Sx.Rows W (fun g=>g < B) n uw ur uk) (f:Nat→PS→PS) (c:Nat→Nat) (hk:∀k∈n.ks,lD l b B tv (k:Int) (f k) (c k)) (hc:∀k∈n.ks,∀s,aT (f k s)≤aT s+c k) (hn:n.ks.length≤100000) (hl:aT s+yI 4 c n.ks≤big):
 Calls Tryz.prog 29 #[.pointer (some ⟨b,0,none⟩),qM n uw ur uk] W fun r W'=>Post W b B tv bv (iD [32,124,124,32] f n.ks s) r W':=by
 obtain ⟨w1,N,cU,hN,HX⟩:=gM h ht hr
 obtain ⟨c0,c1,c2,c3,c5,c6⟩:=HX.out.2.2.2.cells
 have HP:=Lib.hid (gY w1 b B tv bv s l HX.out.2.1 HX.out.2.2.1 [32,124,124,32] uk n.ks (kq HX.out.2.2.2.rows.k HX.out.2.2.2.rows.qk) f c hk hc hn hl)
 unfold qM
 clear h ht hr hk hl hc hn
 go_enter Tryz.func29,Tryz.ntmps29
 go_wp2_with fail
 refine HP.out.mono ?_
 rintro r w2 ⟨jA,rfl,ep,fh⟩
 go_wp2
 go_end0
 exact ⟨jA,rfl,(Sx.aj.of_below HX.out.1).trans ep,fh⟩
theorem Gi (W:World) (b B:Nat) (tv bv:Value) (s:PS) (l:List Nd) (h:Pr W b B tv bv s) (ht:dX W B tv l) (n:Nd) (uw ur uk:Value) (hr:Sx.Rows W (fun g=>g < B) n uw ur uk) (f:Nat→PS→PS) (c:Nat→Nat) (hk:∀k∈n.ks,lD l b B tv (k:Int) (f k) (c k)) (hc:∀k∈n.ks,∀s,aT (f k s)≤aT s+c k) (hn:n.ks.length≤100000) (hl:aT s+((if n.fl then 2 else 0)+yI 3 c n.ks)≤big):
 Calls Tryz.prog 27 #[.pointer (some ⟨b,0,none⟩),qM n uw ur uk] W fun r W'=>Post W b B tv bv (iD [32,124,32] f n.ks (if n.fl then aG [33,32] s else s)) r W':=by
 obtain ⟨w1,N,cU,hN,HX⟩:=gM h ht hr
 obtain ⟨c0,c1,c2,c3,c5,c6⟩:=HX.out.2.2.2.cells
 have HK:=Lib.hid hk
 have HC:=Lib.hid hc
 have HN:=Lib.hid hn
 obtain ⟨fl,ot⟩:∃fl,n.fl=fl:=⟨_,rfl⟩
 rw [ot] at c2 hl ⊢
 unfold qM at *
 rw [ot] at cU ⊢
 clear ot
 have HL:=Lib.hid hl
 clear h ht hr hk hl hc hn
 go_enter Tryz.func27,Tryz.ntmps27
 cases fl with
 | false=>
   have HP:=Lib.hid (gY w1 b B tv bv s l HX.out.2.1 HX.out.2.2.1 [32,124,32] uk n.ks (kq HX.out.2.2.2.rows.k HX.out.2.2.2.rows.qk) f c HK.out HC.out HN.out (by have:=HL.out;simpa using this))
   go_wp2_with fail
   refine HP.out.mono ?_
   rintro r w2 ⟨jA,rfl,ep,fh⟩
   go_wp2
   go_end0
   exact ⟨jA,rfl,(Sx.aj.of_below HX.out.1).trans ep,fh⟩
 | true=>
   have vD:Hid (aT s+(2+yI 3 c n.ks)≤big):=by have:=HL.out;show _≤_;simpa using this
   have vn:=Lib.hid (cK w1 b B tv bv s HX.out.2.1 [33,32] (by have:=vD.out;have:=eu s;simp only [List.length_cons,List.length_nil];omega))
   go_wp2_with fail
   refine vn.out.mono ?_
   rintro r w2 ⟨jA,rfl,ep,fh⟩
   have fK:Hid (Sx.aj b bv W jA w2):=(Sx.aj.of_below HX.out.1).trans ep
   have bO:=HX.out.2.2.2.turn HX.out.2.1 ep
   have d6:=bO.cells.2.2.2.2.2
   have HP:=Lib.hid (gY w2 b B tv jA _ l fh (HX.out.2.2.1.below (bH HX.out.2.1 ep)) [32,124,32] uk n.ks (kq bO.rows.k bO.rows.qk) f c HK.out HC.out HN.out (by have h1:=vD.out;show aT (aG [33,32] s)+yI 3 c n.ks≤big;rw [iQ];show aT s+2+yI 3 c n.ks≤big;omega))
   clear ep fh bO
   go_wp2_with fail
   refine HP.out.mono ?_
   rintro r w3 ⟨qs,rfl,gI,lp⟩
   go_wp2
   go_end0
   exact ⟨qs,rfl,fK.out.trans gI,lp⟩
theorem JV (W:World) (b B:Nat) (tv bv:Value) (s:PS) (l:List Nd) (h:Pr W b B tv bv s) (ht:dX W B tv l) (n:Nd) (uw ur uk:Value) (hr:Sx.Rows W (fun g=>g < B) n uw ur uk) (f:Nat→PS→PS) (c:Nat→Nat) (hk:∀k∈n.ks,lD l b B tv (k:Int) (f k) (c k)) (hc:∀k∈n.ks,∀s,aT (f k s)≤aT s+c k) (hn:n.ks.length≤100000) (hl:aT s+(n.ks.map fun k=>c k+1).sum≤big):
 Calls Tryz.prog 30 #[.pointer (some ⟨b,0,none⟩),qM n uw ur uk] W fun r W'=>Post W b B tv bv (rj f n.ks s) r W':=by
 obtain ⟨w1,N,cU,hN,HX⟩:=gM h ht hr
 obtain ⟨c0,c1,c2,c3,c5,c6⟩:=HX.out.2.2.2.cells
 obtain ⟨ua,uc,hu,hcs⟩:=kq HX.out.2.2.2.rows.k HX.out.2.2.2.rows.qk
 obtain ⟨ks,eo⟩:∃ks,n.ks=ks:=⟨_,rfl⟩
 rw [eo] at hu hcs hk hc hn hl ⊢
 clear eo
 subst hu
 have UC:Hid (∀W',Below B w1 W'→∀(j k:Nat),ks[j]? =some k→∃g,ua=some ⟨g,0,none⟩∧g < B∧W'.cell? ⟨g,j,none⟩=some (.int .i64 (k:Int))):=fun W' hb j k hj=>by
  obtain ⟨a',c',h1,h2⟩:=qV.below (u:=.slice ua ks.length uc) ⟨ua,uc,rfl,hcs⟩ hb
  injection h1 with h1
  subst h1
  exact h2 j k hj
 have HK:=Lib.hid hk
 have HC:=Lib.hid hc
 have HL:=Lib.hid hl
 obtain ⟨m,hm⟩:∃m,ks.length=m:=⟨_,rfl⟩
 have dA:=Lib.hid hm
 have uz:m≤100000:=by omega
 rw [hm] at c6
 unfold qM
 rw [hm] at cU ⊢
 clear hcs h ht hr hk hc hl hn hm
 go_enter Tryz.func30,Tryz.ntmps30
 go_wp2_with fail
 go_loopw [9] (fun v9 wr=>∃(i:Nat) (eL:Value) (s':PS),i≤m∧v9=.int .i64 (i:Int)∧Sx.aj b bv w1 eL wr∧Pr wr b B tv eL s'∧rj f ks s=rj f (ks.drop i) s'∧aT s'+((ks.drop i).map fun k=>c k+1).sum≤big) (fun v9 _=>m - LB v9)
 case atStart=>exact ⟨0,bv,s,Nat.zero_le _,rfl,Sx.aj.refl _ _ _,HX.out.2.1,rfl,HL.out⟩
 case round=>
  obtain ⟨i,eL,s',hi,rfl,hT,hR,h0,h1⟩:=hrel
  have HT:=Lib.hid hT
  have HR:=Lib.hid hR
  have H0:=Lib.hid h0
  have H1:=Lib.hid h1
  clear hT hR h0 h1
  by_cases kG:i < m
  case neg=>
   obtain rfl:i=m:=by omega
   have a3:decide (i < i)=false:=decide_eq_false (by omega)
   have a1:decide ((i:Int) < (i:Int))=false:=decide_eq_false (by omega)
   have a2:¬((i:Int) < (i:Int)):=by omega
   go_wp2_with fail
   go_end0
   refine ⟨eL,rfl,(Sx.aj.of_below HX.out.1).trans HT.out,?_⟩
   rw [H0.out,List.drop_of_length_le (by rw [dA.out];exact Nat.le_refl _)]
   exact HR.out
  obtain ⟨k,hk⟩:∃k,ks[i]? =some k:=⟨_,List.getElem?_eq_getElem (by have:=dA.out;omega)⟩
  obtain ⟨g,Xl,Xt,k0⟩:=UC.out wr (bH HX.out.2.1 HT.out) i k hk
  have HKi:=Lib.hid hk
  have vA:Hid (k∈ks):=List.mem_of_getElem? hk
  subst Xl
  clear hk
  have XI:=fun w'=>vT (g:=g) (n:=m) (c:=uc) i kG w'
  have a3:decide (i < m)=true:=decide_eq_true (by omega)
  have a1:decide ((i:Int) < (m:Int))=true:=decide_eq_true (by omega)
  have a2:(i:Int) < (m:Int):=by omega
  have HD:Hid (ks.drop i=k::ks.drop (i+1)):=by
   have h2:=HKi.out
   obtain ⟨h3,h4⟩:=List.getElem?_eq_some_iff.1 h2
   show _=_
   rw [List.drop_eq_getElem_cons h3,h4]
  have LA:Hid (aT s'+(c k+1+((ks.drop (i+1)).map fun k=>c k+1).sum)≤big):=by
   have:=H1.out
   rw [HD.out,List.map_cons,List.sum_cons] at this
   exact this
  have Ub:=Lib.hid (HK.out k vA.out wr eL s' HR.out (HX.out.2.2.1.below (bH HX.out.2.1 HT.out)) (by have:=LA.out;omega))
  go_wp2_with fail
  refine Ub.out.mono ?_
  rintro r w2 ⟨jA,rfl,ep,fh⟩
  have fK:=Lib.hid (HT.out.trans ep)
  have yE:=Lib.hid (lh w2 b B tv jA _ fh (by have:=LA.out;have:=HC.out k vA.out s';omega))
  clear ep fh
  go_wp2_with fail
  refine yE.out.mono ?_
  rintro r w3 ⟨qs,rfl,gI,lp⟩
  have jf:=Lib.hid (fK.out.trans gI)
  have UF:=Lib.hid lp
  clear gI lp
  go_wp2
  refine ⟨⟨i+1,qs,mA (f k s'),by omega,by simp,jf.out,UF.out,?_,?_⟩,?_⟩
  · rw [H0.out,HD.out];rfl
  ·
   have h5:=HC.out k vA.out s'
   have:=LA.out
   rw [ny]
   omega
  · simp [LB];omega
theorem nM (W:World) (b B:Nat) (tv bv:Value) (s:PS) (l:List Nd) (h:Pr W b B tv bv s) (ht:dX W B tv l) (n:Nd) (uw ur uk:Value) (hr:Sx.Rows W (fun g=>g < B) n uw ur uk) (eo:n.ks.length=2) (f:Nat→PS→PS) (c:Nat→Nat) (hk:∀k∈n.ks,lD l b B tv (k:Int) (f k) (c k)) (hc:∀k∈n.ks,∀s,aT (f k s)≤aT s+c k) (hl:aT s+(5+1+(2+1)+4+(c (kid n 0)+c (kid n 1)))≤big):
 Calls Tryz.prog 32 #[.pointer (some ⟨b,0,none⟩),qM n uw ur uk] W fun r W'=>Post W b B tv bv (yu f n s) r W':=by
 obtain ⟨w1,N,cU,hN,HX⟩:=gM h ht hr
 obtain ⟨g,cc,mV,k0⟩:=HX.out.2.2.2.kid (i:=0) (by omega)
 rw [eo] at mV
 subst mV
 have k1:=HX.out.2.2.2.kcell (i:=1) (by omega)
 obtain ⟨c0,c1,c2,c3,c5,c6⟩:=HX.out.2.2.2.cells
 have lU:Hid (kid n 0∈n.ks):=bV (by omega)
 have PB:Hid (kid n 1∈n.ks):=bV (by omega)
 have HK:=Lib.hid hk
 have HC:=Lib.hid hc
 have HL:=Lib.hid hl
 have wh:=Lib.hid eo
 obtain ⟨wd,hwd⟩:∃wd:Nm,(if n.fl then [117,110,116,105,108] else [119,104,105,108,101])=wd:=⟨_,rfl⟩
 have hwl:wd.length=5:=by rw [←hwd];split<;>rfl
 have Lz:yu f n s=aG [100,111,110,101] (aQ [100,111] (f (kid n 1)) (aQ wd (f (kid n 0)) s)):=by unfold yu;rw [hwd]
 have Tn:=Lib.hid Lz
 have HWl:=Lib.hid hwl
 have HP:=Lib.hid (bZ w1 b B tv bv s l HX.out.2.1 HX.out.2.2.1 wd (kid n 0:Int) _ _ (hk _ lU.out) (by omega))
 obtain ⟨fl,ot⟩:∃fl,n.fl=fl:=⟨_,rfl⟩
 rw [ot] at c2 hwd cU
 unfold qM
 rw [ot]
 clear ot h ht hr hk hl hc eo Lz hwl
 go_enter Tryz.func32,Tryz.ntmps32
 have HGo:Hid (∀(r:Ending) (w2:World),Post w1 b B tv bv (aQ wd (f (kid n 0)) s) r w2→True):=fun _ _ _=>trivial
 cases fl with
 | false=>
   have hwd:([119,104,105,108,101]:Nm)=wd:=hwd
   subst hwd
   go_wp2_with fail
   refine HP.out.mono ?_
   rintro r w2 ⟨jA,rfl,ep,fh⟩
   have fK:Hid (Sx.aj b bv W jA w2):=(Sx.aj.of_below HX.out.1).trans ep
   have bO:=HX.out.2.2.2.turn HX.out.2.1 ep
   have d6:=bO.cells.2.2.2.2.2
   have k2:=bO.kcell (i:=1) (by rw [wh.out];decide)
   have vD:Hid (aT (aQ [119,104,105,108,101] (f (kid n 0)) s)≤aT s+5+1+c (kid n 0)):=eB (w:=[119,104,105,108,101]) (s:=s) (HC.out _ lU.out)
   have NB:=Lib.hid (bZ w2 b B tv jA _ l fh (HX.out.2.2.1.below (bH HX.out.2.1 ep)) [100,111] (kid n 1:Int) _ _ (HK.out _ PB.out) (by have h1:=HL.out;have h2:=vD.out;simp only [List.length_cons,List.length_nil];omega))
   clear ep fh bO
   go_wp2_with fail
   refine NB.out.mono ?_
   rintro r w3 ⟨qs,rfl,gI,lp⟩
   have jf:=Lib.hid (fK.out.trans gI)
   have vn:=Lib.hid (cK w3 b B tv qs _ lp [100,111,110,101] (by have h1:=HL.out;have h2:=vD.out;have h3:=eB (w:=[100,111]) (s:=aQ [119,104,105,108,101] (f (kid n 0)) s) (HC.out _ PB.out);have h4:=eu (aQ [100,111] (f (kid n 1)) (aQ [119,104,105,108,101] (f (kid n 0)) s));simp only [List.length_cons,List.length_nil] at *;omega))
   clear gI lp
   go_wp2_with fail
   refine vn.out.mono ?_
   rintro r w4 ⟨ID,rfl,lK,MQ⟩
   go_wp2
   go_end0
   refine ⟨ID,rfl,jf.out.trans lK,?_⟩
   rw [Tn.out]
   exact MQ
 | true=>
   have hwd:([117,110,116,105,108]:Nm)=wd:=hwd
   subst hwd
   go_wp2_with fail
   refine HP.out.mono ?_
   rintro r w2 ⟨jA,rfl,ep,fh⟩
   have fK:Hid (Sx.aj b bv W jA w2):=(Sx.aj.of_below HX.out.1).trans ep
   have bO:=HX.out.2.2.2.turn HX.out.2.1 ep
   have d6:=bO.cells.2.2.2.2.2
   have k2:=bO.kcell (i:=1) (by rw [wh.out];decide)
   have vD:Hid (aT (aQ [117,110,116,105,108] (f (kid n 0)) s)≤aT s+5+1+c (kid n 0)):=eB (w:=[117,110,116,105,108]) (s:=s) (HC.out _ lU.out)
   have NB:=Lib.hid (bZ w2 b B tv jA _ l fh (HX.out.2.2.1.below (bH HX.out.2.1 ep)) [100,111] (kid n 1:Int) _ _ (HK.out _ PB.out) (by have h1:=HL.out;have h2:=vD.out;simp only [List.length_cons,List.length_nil];omega))
   clear ep fh bO
   go_wp2_with fail
   refine NB.out.mono ?_
   rintro r w3 ⟨qs,rfl,gI,lp⟩
   have jf:=Lib.hid (fK.out.trans gI)
   have vn:=Lib.hid (cK w3 b B tv qs _ lp [100,111,110,101] (by have h1:=HL.out;have h2:=vD.out;have h3:=eB (w:=[100,111]) (s:=aQ [117,110,116,105,108] (f (kid n 0)) s) (HC.out _ PB.out);have h4:=eu (aQ [100,111] (f (kid n 1)) (aQ [117,110,116,105,108] (f (kid n 0)) s));simp only [List.length_cons,List.length_nil] at *;omega))
   clear gI lp
   go_wp2_with fail
   refine vn.out.mono ?_
   rintro r w4 ⟨ID,rfl,lK,MQ⟩
   go_wp2
   go_end0
   refine ⟨ID,rfl,jf.out.trans lK,?_⟩
   rw [Tn.out]
   exact MQ
def Nh (W:World) (u:Value) (l:List Nm):Prop:=(l=[]∧∃a c,u=.slice a 0 c)∨∃g c,u=.slice (some ⟨g,0,none⟩) l.length c∧l.length≤c∧g < W.heap.size∧∀(j:Nat) (x:Nm),l[j]? =some x→W.cell? ⟨g,j,none⟩=some (.string (str x))
theorem rU {W:World} {B:Nat} {u:Value} {l:List Nm} (h:W.ownsRow B eZ 1 u l.length (l.map sv)):Nh W u l:=by
 rcases h.2 with ⟨hv,h0⟩ | ⟨g,cap,cur,hv,_,hg,Ey,_,_,_⟩
 · exact .inl ⟨List.eq_nil_of_length_eq_zero h0,none,0,hv⟩
 ·
  refine .inr ⟨g,cap,hv,Ey,(Array.getElem?_eq_some_iff.1 hg).1,fun j x hj=>?_⟩
  have:=h.cells (g:=g) (by rw [hv];rfl) j (sv x) (by simp [hj])
  simpa [Addr.add_lit,sv] using this
theorem jQ (W:World) (u:Value) (l:List Nm) (sep:Nm) (h:Nh W u l) (hl:l.length≤big) (hj:(Lib.join l sep).length≤big):
 Calls Tryz.prog 56 #[u,.string (str sep)] W fun e w'=>e=.returned (.string (str (Lib.join l sep)))∧Below W.heap.size W w':=by
 rcases h with ⟨rfl,a,c,rfl⟩ | ⟨g,c,rfl,hc,hg,hcs⟩
 ·
  refine (Tryz.strings_Join_none a c (str sep) W).mono ?_
  rintro e w' ⟨rfl,rfl⟩
  exact ⟨rfl,Below.refl _ _⟩
 ·
  have hm:(l.map str).map (·.data.toList)=l:=by
   rw [List.map_map]
   exact List.map_id _
  have hs:(str sep).data.toList=sep:=rfl
  have:=Tryz.strings_Join g 0 c (l.map str) (str sep) W (fun j x hx=>by
   rw [List.getElem?_map] at hx
   obtain ⟨y,hy,rfl⟩:=Option.map_eq_some_iff.1 hx
   rw [Nat.zero_add]
   exact hcs j y hy) hg (by rw [List.length_map];exact hl) (by rw [List.length_map];exact hc) (by rw [hm,hs];exact hj)
  rw [hm,hs,List.length_map] at this
  exact this
theorem yn (l:List Nd) (b B:Nat) (tv:Value):lD l b B tv (-1) (fun s=>s) 0:=by
 intro W bv s h ht hl
 have HP:=Lib.hid h
 clear h ht hl
 go_enter Tryz.func14,Tryz.ntmps14
 go_wp2_with fail
 go_end0
 exact ⟨bv,rfl,Sx.aj.refl _ _ _,HP.out⟩
theorem pC (W:World) (b B:Nat) (tv bv:Value) (s:PS) (l:List Nd) (h:Pr W b B tv bv s) (ht:dX W B tv l) (n:Nd) (uw ur uk:Value) (hr:Sx.Rows W (fun g=>g < B) n uw ur uk) (f:Nat→PS→PS) (c:Nat→Nat) (hk:∀k∈n.ks,lD l b B tv (k:Int) (f k) (c k)) (hc:∀k∈n.ks,∀s,aT (f k s)≤aT s+c k) (hb4:aT (iD [] f n.ks (mA (aG ([99,97,115,101,32]++n.t++[32,105,110]) s)))+4≤big) (hn:n.ks.length≤100000) (hl:aT s+(n.t.length+8+1+yI 0 c n.ks)≤big):
 Calls Tryz.prog 34 #[.pointer (some ⟨b,0,none⟩),qM n uw ur uk] W fun r W'=>Post W b B tv bv (xe f n s) r W':=by
 obtain ⟨w1,N,cU,hN,HX⟩:=gM h ht hr
 obtain ⟨c0,c1,c2,c3,c5,c6⟩:=HX.out.2.2.2.cells
 have e1:(⟨#[99,97,115,101,32]⟩:ByteArray)++str n.t=str (99::97::115::101::32::n.t):=bn [99,97,115,101,32] n.t
 have e2:str (99::97::115::101::32::n.t)++(⟨#[32,105,110]⟩:ByteArray)=str (99::97::115::101::32::(n.t++[32,105,110])):=bn (99::97::115::101::32::n.t) [32,105,110]
 have l1:5+(str n.t).size≤9223372036854775807:=by rw [aU];unfold big at hl;omega
 have l2:(str (99::97::115::101::32::n.t)).size+3≤9223372036854775807:=by rw [aU];simp only [List.length_cons];unfold big at hl;omega
 have HP:=Lib.hid (bZ w1 b B tv bv s l HX.out.2.1 HX.out.2.2.1 (99::97::115::101::32::(n.t++[32,105,110])) (-1) (fun s=>s) 0 (yn l b B tv) (by simp only [List.length_cons,List.length_append,List.length_nil];omega))
 have HK:=Lib.hid hk
 have HC:=Lib.hid hc
 have HN:=Lib.hid hn
 have HL:=Lib.hid hl
 have iE:=Lib.hid hb4
 unfold qM
 clear h ht hr hk hl hc hn hb4
 go_enter Tryz.func34,Tryz.ntmps34
 go_wp2_with fail
 refine HP.out.mono ?_
 rintro r w2 ⟨jA,rfl,ep,fh⟩
 have fK:Hid (Sx.aj b bv W jA w2):=(Sx.aj.of_below HX.out.1).trans ep
 have bO:=HX.out.2.2.2.turn HX.out.2.1 ep
 have d6:=bO.cells.2.2.2.2.2
 have HBt:=Lib.hid (gY w2 b B tv jA _ l fh (HX.out.2.2.1.below (bH HX.out.2.1 ep)) [] uk n.ks (kq bO.rows.k bO.rows.qk) f c HK.out HC.out HN.out (by have h1:=HL.out;show aT (mA (aG (99::97::115::101::32::(n.t++[32,105,110])) s))+yI 0 c n.ks≤big;rw [ny,iQ];simp only [List.length_cons,List.length_append,List.length_nil];omega))
 clear ep fh bO
 go_wp2_with fail
 refine HBt.out.mono ?_
 rintro r w3 ⟨qs,rfl,gI,lp⟩
 have jf:=Lib.hid (fK.out.trans gI)
 have vn:=Lib.hid (cK w3 b B tv qs _ lp [101,115,97,99] (by have h1:=iE.out;have h2:=eu (iD [] f n.ks (mA (aG ([99,97,115,101,32]++n.t++[32,105,110]) s)));show (iD [] f n.ks (mA (aG ([99,97,115,101,32]++n.t++[32,105,110]) s))).1.length+4≤big;omega))
 clear gI lp
 go_wp2_with fail
 refine vn.out.mono ?_
 rintro r w4 ⟨ID,rfl,lK,MQ⟩
 go_wp2
 go_end0
 exact ⟨ID,rfl,jf.out.trans lK,MQ⟩
theorem IA (a b:Nm) (w:World) (h:a.length+b.length≤big):(binOp .add 9 (.string (str a)) (.string (str b))).run Tryz.prog w=.ok (.string (str (a++b))) w:=by
 have hs:¬9223372036854775807 < (str a).size+(str b).size:=by rw [aU,aU];unfold big at h;omega
 simp [binOp,Op.stringOp,hs,bn]
 omega
theorem RS {w:World} {ad:Addr} {v:Value} (h:w.cell? ad=some v):(Instr.loadAt 33 (.pointer (some ad))).run Tryz.prog w=.ok v w:=Ap.aW (by simp [isAgg]) h
theorem Qw {w:World} {ad:Addr} {v:Value} (h:w.cell? ad=some v):(Instr.loadAt 35 (.pointer (some ad))).run Tryz.prog w=.ok v w:=Ap.aW (by simp [isAgg]) h
theorem Qs {w:World} {ad:Addr} {v:Value} (h:w.cell? ad=some v):(Instr.loadAt 3 (.pointer (some ad))).run Tryz.prog w=.ok v w:=Ap.aW (by simp [isAgg]) h
theorem ri (W:World) (b B:Nat) (tv bv:Value) (s:PS) (l:List Nd) (h:Pr W b B tv bv s) (ht:dX W B tv l) (n:Nd) (uw ur uk:Value) (hr:Sx.Rows W (fun g=>g < B) n uw ur uk) (eo:n.ks.length=1) (hw:n.ws.length≤big) (f:Nat→PS→PS) (c:Nat→Nat) (hk:∀k∈n.ks,lD l b B tv (k:Int) (f k) (c k)) (hc:∀k∈n.ks,∀s,aT (f k s)≤aT s+c k) (hl:aT s+((Lib.join n.ws [124]).length+2+1+2+1+c (kid n 0))≤big):
 Calls Tryz.prog 35 #[.pointer (some ⟨b,0,none⟩),qM n uw ur uk] W fun r W'=>Post W b B tv bv (xf f n s) r W':=by
 obtain ⟨w1,N,cU,hN,HX⟩:=gM h ht hr
 obtain ⟨g,cc,mV,k0⟩:=HX.out.2.2.2.kid (i:=0) (by omega)
 rw [eo] at mV
 subst mV
 have lU:Hid (kid n 0∈n.ks):=bV (by omega)
 have HK:=Lib.hid hk
 have HC:=Lib.hid hc
 have HL:=Lib.hid hl
 have wh:=Lib.hid eo
 have HW:=Lib.hid hw
 obtain ⟨J,hJ⟩:∃J,Lib.join n.ws [124]=J:=⟨_,rfl⟩
 have HJ:=Lib.hid hJ
 have HI:Hid (xf f n s=mA (aG [59,59] (aQ (40::(J++[41])) (f (kid n 0)) s))):=by show _=_;unfold xf;rw [hJ];rfl
 have RQ:Hid (aT s+(J.length+2+1+2+1+c (kid n 0))≤big):=by rw [←hJ];exact hl
 unfold qM
 clear h ht hr hk hl hc eo hw hJ
 go_enter Tryz.func35,Tryz.ntmps35
 go_upto_region 1 with fail
 refine Rp.cq (fun _ _=>False) 11 [] [Rg.Is (.pointer (some ⟨b,0,none⟩)),Rg.Is (.pointer (some ⟨N,3,none⟩)),Rg.Is (uw),Rg.Is (.string (str J)),Rg.Is (.string (str (40::J))),Rg.Is (.string (str (40::(J++[41])))),Rg.Is (.pointer (some ⟨N,6,none⟩)),Rg.Is (.slice (some ⟨g,0,none⟩) 1 cc),Rg.Is (.pointer (some ⟨g,0,none⟩)),Rg.Is (.int .i64 (kid n 0:Int)),(fun u y=>∃eL,Sx.aj b bv w1 eL y∧Pr y b B tv eL (aQ (40::(J++[41])) (f (kid n 0)) s))] (fun _ _=>True) (fun ls x=>ls 10=false→Below w1.heap.size w1 x) (fun k x y=>if k=10 then ∃eL,Sx.aj b bv x eL y else Below x.heap.size x y) (by kernel_rfl) (by kernel_rfl) (of_decide_eq_true (by kernel_rfl)) (by kernel_rfl) (by kernel_rfl) trivial (fun _=>⟨rfl,rfl,rfl,Nat.le_refl _,fun _ _=>rfl⟩) (fun ls mC x e h1 h2=>h1 (by rw [e];exact h2)) (fun _ _ _ _ _=>trivial) (fun i ls x _ h1=>by rw [show ([]:List Bool).getD i true=true from rfl] at h1;cases h1) ?_ ⟨rfl,rfl,rfl,rfl,rfl,rfl,rfl,rfl,rfl,rfl,rfl,trivial⟩ ⟨?_,?_,?_,?_,?_,?_,?_,?_,?_,?_,?_,trivial⟩ ?_ ?_
 ·
  intro i k u x y hik _ h1 hK
  match i,h1,hik with
  | 0,h1,_=>exact h1
  | 1,h1,_=>exact h1
  | 2,h1,_=>exact h1
  | 3,h1,_=>exact h1
  | 4,h1,_=>exact h1
  | 5,h1,_=>exact h1
  | 6,h1,_=>exact h1
  | 7,h1,_=>exact h1
  | 8,h1,_=>exact h1
  | 9,h1,_=>exact h1
  | 10,h1,hik=>
    rw [if_neg (fun e=>hik e.symm)] at hK
    obtain ⟨eL,h2,h3⟩:=h1
    exact ⟨eL,h2.trans (Sx.aj.of_below hK),h3.below hK⟩
  | _+11,_,_=>trivial
 ·
  intro _ b9 x ls hR hS ai bI bf hk
  have h0:b9.eval (.tmp 0)=.pointer (some ⟨b,0,none⟩):=Eq.mp (by kernel_rfl) (hk 0 (by decide))
  have lA:ls 10=false:=bf [] 10 _ rfl (by kernel_rfl)
  have hb:=hS lA
  refine Rp.ag ?_
  exact Rg.az ⟨by rw [if_neg (by decide)];exact Below.refl _ _,h0,fun hh=>hS hh⟩
 ·
  intro _ b9 x ls hR hS ai bI bf hk
  have h3:b9.eval (.tmp 3)=.pointer (some ⟨N,0,none⟩):=Eq.mp (by kernel_rfl) (hk 3 (by decide))
  have lA:ls 10=false:=bf [3,2] 10 _ rfl (by kernel_rfl)
  have hb:=hS lA
  refine Rp.ag ?_
  exact Rs.aR _ _ h3 (j6 N 0 3 (by decide) x) ⟨by rw [if_neg (by decide)];exact Below.refl _ _,rfl,fun hh=>hS hh⟩
 ·
  intro _ b9 x ls hR hS ai bI bf hk
  have h5:b9.eval (.tmp 5)=.pointer (some ⟨N,3,none⟩):=Eq.mp (by kernel_rfl) (hk 5 (by decide))
  have lA:ls 10=false:=bf [3] 10 _ rfl (by kernel_rfl)
  have hb:=hS lA
  refine Rp.ag ?_
  exact Rg.aK _ _ h5 (RS (HX.out.2.2.2.below hb).cells.2.2.2.1) ⟨by rw [if_neg (by decide)];exact Below.refl _ _,rfl,fun hh=>hS hh⟩
 ·
  intro _ b9 x ls hR hS ai bI bf hk
  have h6:b9.eval (.tmp 6)=uw:=Eq.mp (by kernel_rfl) (hk 6 (by decide))
  have lA:ls 10=false:=bf [] 10 _ rfl (by kernel_rfl)
  have hb:=hS lA
  refine Rp.ag ?_
  refine Rg.bW #[uw,.string (str [124])] Tryz.func56 (by kernel_rfl) (by kernel_rfl) (by simp [h6,show ∀v,b9.eval (.const v)=v from fun _=>rfl];rfl) (jQ x uw n.ws [124] (rU (HX.out.2.2.2.below hb).rows.w) HW.out (by rw [HJ.out];have:=RQ.out;omega)) ?_
  rintro e w' ⟨rfl,Pt⟩
  exact ⟨_,rfl,by rw [if_neg (by decide)];exact Pt,by show Value.string (str (Lib.join n.ws [124]))=.string (str J);rw [HJ.out],fun hh=>(hS hh).trans (Pt.mono (hS hh).size)⟩
 ·
  intro _ b9 x ls hR hS ai bI bf hk
  have h7:b9.eval (.tmp 7)=.string (str J):=Eq.mp (by kernel_rfl) (hk 7 (by decide))
  have lA:ls 10=false:=bf [5] 10 _ rfl (by kernel_rfl)
  have hb:=hS lA
  refine Rp.ag ?_
  exact Sw.rV (str [40]) (str J) _ rfl h7 (IA [40] J _ (by have:=RQ.out;simp only [List.length_cons,List.length_nil];omega)) ⟨by rw [if_neg (by decide)];exact Below.refl _ _,rfl,fun hh=>hS hh⟩
 ·
  intro _ b9 x ls hR hS ai bI bf hk
  have h8:b9.eval (.tmp 8)=.string (str (40::J)):=Eq.mp (by kernel_rfl) (hk 8 (by decide))
  have lA:ls 10=false:=bf [] 10 _ rfl (by kernel_rfl)
  have hb:=hS lA
  refine Rp.ag ?_
  exact Sw.rV (str (40::J)) (str [41]) _ h8 rfl (IA (40::J) [41] _ (by have:=RQ.out;simp only [List.length_cons,List.length_nil];omega)) ⟨by rw [if_neg (by decide)];exact Below.refl _ _,rfl,fun hh=>hS hh⟩
 ·
  intro _ b9 x ls hR hS ai bI bf hk
  have h3:b9.eval (.tmp 3)=.pointer (some ⟨N,0,none⟩):=Eq.mp (by kernel_rfl) (hk 3 (by decide))
  have lA:ls 10=false:=bf [9,8,7] 10 _ rfl (by kernel_rfl)
  have hb:=hS lA
  refine Rp.ag ?_
  exact Rs.aR _ _ h3 (j6 N 0 6 (by decide) x) ⟨by rw [if_neg (by decide)];exact Below.refl _ _,rfl,fun hh=>hS hh⟩
 ·
  intro _ b9 x ls hR hS ai bI bf hk
  have h10:b9.eval (.tmp 10)=.pointer (some ⟨N,6,none⟩):=Eq.mp (by kernel_rfl) (hk 10 (by decide))
  have lA:ls 10=false:=bf [9,8] 10 _ rfl (by kernel_rfl)
  have hb:=hS lA
  refine Rp.ag ?_
  exact Rg.aK _ _ h10 (Qw (HX.out.2.2.2.below hb).cells.2.2.2.2.2) ⟨by rw [if_neg (by decide)];exact Below.refl _ _,rfl,fun hh=>hS hh⟩
 ·
  intro _ b9 x ls hR hS ai bI bf hk
  have h11:b9.eval (.tmp 11)=.slice (some ⟨g,0,none⟩) 1 cc:=Eq.mp (by kernel_rfl) (hk 11 (by decide))
  have lA:ls 10=false:=bf [9] 10 _ rfl (by kernel_rfl)
  have hb:=hS lA
  refine Rp.ag ?_
  exact Rg.dI _ _ _ h11 rfl (vT 0 (by decide) x) ⟨by rw [if_neg (by decide)];exact Below.refl _ _,rfl,fun hh=>hS hh⟩
 ·
  intro _ b9 x ls hR hS ai bI bf hk
  have zL:b9.eval (.tmp 12)=.pointer (some ⟨g,0,none⟩):=Eq.mp (by kernel_rfl) (hk 12 (by decide))
  have lA:ls 10=false:=bf [] 10 _ rfl (by kernel_rfl)
  have hb:=hS lA
  refine Rp.ag ?_
  exact Rg.aK _ _ zL (Qs ((HX.out.2.2.2.below hb).kcell (by rw [wh.out];decide))) ⟨by rw [if_neg (by decide)];exact Below.refl _ _,rfl,fun hh=>hS hh⟩
 ·
  intro _ b9 x ls hR hS ai bI bf hk
  have h4:b9.eval (.tmp 4)=.pointer (some ⟨b,0,none⟩):=Eq.mp (by kernel_rfl) (hk 4 (by decide))
  have h9:b9.eval (.tmp 9)=.string (str (40::(J++[41]))):=Eq.mp (by kernel_rfl) (hk 9 (by decide))
  have E0:b9.eval (.tmp 13)=.int .i64 (kid n 0:Int):=Eq.mp (by kernel_rfl) (hk 13 (by decide))
  have hb:=hS ai
  refine Rp.bW #[.pointer (some ⟨b,0,none⟩),.string (str (40::(J++[41]))),.int .i64 (kid n 0:Int)] Tryz.func59 (by kernel_rfl) (by kernel_rfl) (by simp [h4,h9,E0]) (bZ x b B tv bv s l (HX.out.2.1.below hb) (HX.out.2.2.1.below (hb.mono HX.out.2.1.size)) (40::(J++[41])) _ _ _ (HK.out _ lU.out) (by have:=RQ.out;simp only [List.length_cons,List.length_append,List.length_nil];omega)) ?_
  rintro e w' ⟨eL,he,ht,hp⟩
  exact .inl ⟨_,he,by rw [if_pos rfl];exact ⟨eL,ht⟩,⟨eL,(Sx.aj.of_below hb).trans ht,hp⟩,fun hh=>by simp [Rs.upd] at hh⟩
 ·
  intro ch a' w' yN hD
  exact hD.elim
 intro vals wD ls _ uj _ hL
 obtain ⟨g0,g1,g2,g3,g4,g5,g6,g7,g8,g9,g10,_⟩:=hL
 obtain ⟨xE,nX,yT⟩:∃eL,Sx.aj b bv w1 eL wD∧Pr wD b B tv eL (aQ (40::(J++[41])) (f (kid n 0)) s):=g10
 simp only [Rg.bh,List.take_succ_cons,List.take_zero,List.drop_succ_cons,List.drop_zero,List.setIfInBounds_toArray,List.set_cons_succ,List.set_cons_zero]
 have wK:Hid (Sx.aj b bv W xE wD):=(Sx.aj.of_below HX.out.1).trans nX
 have HPa:=Lib.hid (bZ wD b B tv xE _ l yT (HX.out.2.2.1.below (bH HX.out.2.1 nX)) [59,59] (-1) (fun s=>s) 0 (yn l b B tv) (by have h1:=RQ.out;have h2:=eB (w:=40::(J++[41])) (s:=s) (HC.out _ lU.out);simp only [List.length_cons,List.length_append,List.length_nil] at *;omega))
 clear nX yT g0 g1 g2 g3 g4 g5 g6 g7 g8 g9
 go_wp2_with fail
 refine HPa.out.mono ?_
 rintro r w3 ⟨qs,rfl,gI,lp⟩
 go_wp2
 go_end0
 refine ⟨qs,rfl,wK.out.trans gI,?_⟩
 rw [HI.out]
 exact lp
end Go.Proofs.YtiklkhbfilbpeaaGreatDoor.Ux
