import Derived.Test.YtiklkhbfilbpeaaGreatDoorTbGSyG
import Derived.Test.YtiklkhbfilbpeaaGreatDoorTbGUnH
import Derived.Test.YtiklkhbfilbpeaaGreatDoorTbGUnE
import Derived.Test.YtiklkhbfilbpeaaGreatDoorTbGUnD
set_option maxRecDepth 100000
set_option maxHeartbeats 16000000
set_option linter.unusedVariables false
set_option linter.unusedSimpArgs false
namespace Go.Proofs.YtiklkhbfilbpeaaGreatDoor.Ux
open Go.RowKit Base Lx Sy Sx
theorem Kf (W:World):∃w1,((W.alloc (.cells #[.slice none 0 0] GL)).alloc (.cells #[.int .i64 0] uy)).alloc (.cells #[.int .i64 0] dU)=w1∧
 w1.heap[W.heap.size]? =some (.cells #[.slice none 0 0] GL)∧w1.heap[W.heap.size+1]? =some (.cells #[.int .i64 0] uy)∧w1.heap[W.heap.size+1+1]? =some (.cells #[.int .i64 0] dU)∧
 Below W.heap.size W w1∧w1.heap.size=W.heap.size+1+1+1:=by
 obtain ⟨h0,h1,h2⟩:=Ap.Jg W (.cells #[.slice none 0 0] GL) (.cells #[.int .i64 0] uy) (.cells #[.int .i64 0] dU)
 have hB:=(((Below.refl W.heap.size W).alloc (Nat.le_refl _) (.cells #[.slice none 0 0] GL)).alloc (by simp only [World.size_alloc];omega) (.cells #[.int .i64 0] uy)).alloc (by simp only [World.size_alloc];omega) (.cells #[.int .i64 0] dU)
 exact ⟨_,rfl,h0,h1,h2,hB,by simp only [World.size_alloc]⟩
theorem QD (W:World) (s:Nm) (hs:4096 < s.length):Calls Tryz.prog 11 #[.string (str s)] W fun r W'=>r=.returned (.tuple #[.slice none 0 0,.int .i64 13,.int .i64 0])∧Below W.heap.size W W':=by
 obtain ⟨w1,gZ,hp,hq,hr,hb,hsz⟩:=Kf W
 have qa:Hid (((W.alloc (.cells #[.slice none 0 0] GL)).alloc (.cells #[.int .i64 0] uy)).alloc (.cells #[.int .i64 0] dU)=w1):=gZ
 have HP:=Lib.hid hp
 have HQ:=Lib.hid hq
 have HR:=Lib.hid hr
 have HB:=Lib.hid hb
 have HZ:=Lib.hid hsz
 have e1:(str s).size=s.length:=rfl
 have a1:decide ((4096:Int) < ((str s).size:Int))=true:=decide_eq_true (by omega)
 have a2:(4096:Int) < ((str s).size:Int):=by omega
 clear gZ hp hq hr hb hsz
 obtain ⟨N,hN⟩:∃N,W.heap.size=N:=⟨_,rfl⟩
 have HN:=Lib.hid hN
 rw [hN] at HP HQ HR HZ HB ⊢
 clear hN
 go_enter_defers Tryz.func11,Tryz.ntmps11
 go_upto_region 2 with fail
 rw [qa.out,HN.out]
 have e01:¬N+1=N:=by omega
 have e02:¬N+1+1=N:=by omega
 have zg:¬N+1+1=N+1:=by omega
 obtain ⟨m0,n0⟩:=cell_of HP.out
 obtain ⟨m1,n1⟩:=cell_of HQ.out
 obtain ⟨m2,n2⟩:=cell_of HR.out
 clear a1 a2 e1
 have hc0:Go.Proofs.YtiklkhbfilbpeaaGreatDoor.br w1 w1 N (N+1) (N+1+1) (.slice none 0 0) (.int .i64 0) (.int .i64 0):=⟨HP.out,HQ.out,HR.out,rfl,rfl,rfl,rfl,fun _ _ _ _ _=>rfl⟩
 have hc1:=((hc0.setp (.slice none 0 0)).setq (.int .i64 13)).setr (.int .i64 0)
 obtain ⟨w3,hw3⟩:∃w3,((w1.setCell ⟨N,0,none⟩ (.slice none 0 0)).setCell ⟨N+1,0,none⟩ (.int .i64 13)).setCell ⟨N+1+1,0,none⟩ (.int .i64 0)=w3:=⟨_,rfl⟩
 rw [hw3] at hc1
 have k0:=(cell_of hc1.hp).1
 have k1:=(cell_of hc1.hq).1
 have k2:=(cell_of hc1.hr).1
 have HF:Hid (Below N W w3):=by
  have h1:Below N w1 w3:=⟨hc1.os,hc1.tape,hc1.output,by rw [hc1.size];exact Nat.le_refl _,fun k hk=>hc1.block k (by have:=HZ.out;omega) (by omega) (by omega) (by omega)⟩
  exact HB.out.trans h1
 clear hc0 hc1
 go_wp2_with fail
 simp [bodyPostD,Leaves,settle,results,Tryz.results11,go_sem,k0,k1,k2]
 exact HF.out
theorem Kl (W:World) (s:Nm) (hs:4096 < s.length):Calls Tryz.prog 6 #[.string (str s)] W fun r W'=>r=.returned (.tuple #[.agg #[.slice none 0 0],.int .i64 13,.int .i64 0])∧Below W.heap.size W W':=by
 obtain ⟨w1,gZ,hp,hq,hr,hb,hsz⟩:=zR W
 have qa:Hid (((W.alloc (.cells #[.slice none 0 0] BJ)).alloc (.cells #[.int .i64 0] uy)).alloc (.cells #[.int .i64 0] dU)=w1):=gZ
 have HP:=Lib.hid hp
 have HQ:=Lib.hid hq
 have HR:=Lib.hid hr
 have HB:=Lib.hid hb
 have HZ:=Lib.hid hsz
 have HS:Hid (4096 < s.length):=hs
 clear gZ hp hq hr hb hsz hs
 obtain ⟨N,hN⟩:∃N,W.heap.size=N:=⟨_,rfl⟩
 have HN:=Lib.hid hN
 rw [hN] at HP HQ HR HZ HB ⊢
 clear hN
 go_enter_defers Tryz.func6,Tryz.ntmps6
 go_wp2_with fail
 rw [qa.out,HN.out]
 refine (QD w1 s HS.out).mono ?_
 rintro r w2 ⟨rfl,hb2⟩
 have dp:Hid (Below (N+1+1+1) w1 w2):=by show Below _ _ _;rw [←HZ.out];exact hb2
 have oy:Hid (N+1+1+1≤w2.heap.size):=by have:=dp.out.size;have:=HZ.out;show _≤_;omega
 have fh:w2.heap[N]? =some (.cells #[.slice none 0 0] BJ):=(dp.out.block N (by omega)).trans HP.out
 have sK:w2.heap[N+1]? =some (.cells #[.int .i64 0] uy):=(dp.out.block (N+1) (by omega)).trans HQ.out
 have hr2:w2.heap[N+1+1]? =some (.cells #[.int .i64 0] dU):=(dp.out.block (N+1+1) (by omega)).trans HR.out
 obtain ⟨m0,n0⟩:=cell_of fh
 obtain ⟨m1,n1⟩:=cell_of sK
 obtain ⟨m2,n2⟩:=cell_of hr2
 have hc0:Sx.br w2 w2 N (N+1) (N+1+1) (.slice none 0 0) (.int .i64 0) (.int .i64 0):=⟨fh,sK,hr2,rfl,rfl,rfl,rfl,fun _ _ _ _ _=>rfl⟩
 have e01:¬N+1=N:=by omega
 have e02:¬N+1+1=N:=by omega
 have zg:¬N+1+1=N+1:=by omega
 have QG:Hid (Below N W w2):=by
  have h0:Below N W w1:=HB.out
  exact h0.trans (dp.out.mono (by omega))
 clear hb2 fh sK hr2
 have hc1:=(hc0.setq (.int .i64 13)).setr (.int .i64 0)
 obtain ⟨w3,hw3⟩:∃w3,(w2.setCell ⟨N+1,0,none⟩ (.int .i64 13)).setCell ⟨N+1+1,0,none⟩ (.int .i64 0)=w3:=⟨_,rfl⟩
 rw [hw3] at hc1
 have vg:=Lib.hid hc1
 have hq3:=cell_of hc1.hq
 obtain ⟨k1,l1⟩:=hq3
 clear hc0 hc1
 go_upto_region 3 with fail
 apply iO (by kernel_rfl)
 have HCd:Hid (Sx.br w2 w3.drew N (N+1) (N+1+1) (.slice none 0 0) (.int .i64 13) (.int .i64 0)):=⟨vg.out.hp,vg.out.hq,vg.out.hr,vg.out.os,vg.out.tape,vg.out.output,vg.out.size,vg.out.block⟩
 refine Rq.pZ 0 [] [Rg.Is (.agg #[.slice none 0 0]),Rg.Is (.int .i64 13),Rg.Is (.int .i64 0),(fun _ _=>True),(fun _ _=>True),(fun _ _=>True)] (fun _ _=>True) (fun ls x'=>Sx.br w2 x' N (N+1) (N+1+1) (.slice none 0 0) (.int .i64 13) (.int .i64 0)) (fun _ _ _=>True) (by kernel_rfl) (of_decide_eq_true (by kernel_rfl)) (by kernel_rfl) (by kernel_rfl) trivial ?_ ?_ (fun _ _ _ _ _=>trivial) ⟨?_,?_,?_,?_,?_,?_,trivial⟩ ?_ ?_ trivial ?_
 ·
  intro i hi
  match i,hi with
  | j+0,hi=>exact absurd hi (by omega)
 ·
  intro i k u x y _ _ h1 _
  match i,h1 with
  | 0,h1=>exact h1
  | 1,h1=>exact h1
  | 2,h1=>exact h1
  | 3,h1=>exact h1
  | 4,h1=>exact h1
  | 5,h1=>exact h1
  | _+6,_=>trivial
 ·
  intro b9 x ls _ hS ai bI bf hk
  exact Rp.ag (yy ⟨trivial,rfl,hS⟩)
 ·
  intro b9 x ls _ hS ai bI bf hk
  have h3:b9.eval (.tmp 3)=.pointer (some ⟨N+1,0,none⟩):=Eq.mp (by kernel_rfl) (hk 3 (by decide))
  exact Rp.ag (Rg.aK _ _ h3 (I9 (cell_of hS.hq).1) ⟨trivial,rfl,hS⟩)
 ·
  intro b9 x ls _ hS ai bI bf hk
  have h4:b9.eval (.tmp 4)=.pointer (some ⟨N+1+1,0,none⟩):=Eq.mp (by kernel_rfl) (hk 4 (by decide))
  exact Rp.ag (Rg.aK _ _ h4 (mE (cell_of hS.hr).1) ⟨trivial,rfl,hS⟩)
 ·
  intro b9 x ls _ hS ai bI bf hk
  have h2:b9.eval (.tmp 2)=.pointer (some ⟨N,0,none⟩):=Eq.mp (by kernel_rfl) (hk 2 (by decide))
  have Dr:b9.eval (.tmp 15)=.agg #[.slice none 0 0]:=Eq.mp (by kernel_rfl) (hk 15 (by decide))
  exact Rq.kY N 0 #[.slice none 0 0] h2 Dr (ez hS.hp) (by kernel_rfl) (by kernel_rfl) ⟨trivial,trivial,hS.setp _⟩
 ·
  intro b9 x ls _ hS ai bI bf hk
  have h3:b9.eval (.tmp 3)=.pointer (some ⟨N+1,0,none⟩):=Eq.mp (by kernel_rfl) (hk 3 (by decide))
  have Fo:b9.eval (.tmp 16)=.int .i64 13:=Eq.mp (by kernel_rfl) (hk 16 (by decide))
  exact Rq.cN (N+1) 0 _ h3 Fo rfl rfl (ez hS.hq) (by kernel_rfl) ⟨trivial,trivial,hS.setq _⟩
 ·
  intro b9 x ls _ hS ai bI bf hk
  have h4:b9.eval (.tmp 4)=.pointer (some ⟨N+1+1,0,none⟩):=Eq.mp (by kernel_rfl) (hk 4 (by decide))
  have G1:b9.eval (.tmp 17)=.int .i64 0:=Eq.mp (by kernel_rfl) (hk 17 (by decide))
  exact Rq.cN (N+1+1) 0 _ h4 G1 rfl rfl (ez hS.hr) (by kernel_rfl) ⟨trivial,trivial,hS.setr _⟩
 · exact fun ls mC x' h hS=>hS
 ·
  intro vals wE ls _ hS hall hL
  have hc:Sx.br w2 wE N (N+1) (N+1+1) (.slice none 0 0) (.int .i64 13) (.int .i64 0):=hS
  have k0:=(cell_of hc.hp).1
  have k1:=(cell_of hc.hq).1
  have k2:=(cell_of hc.hr).1
  have hb3:Below N w2 wE:=hc.below (Nat.le_refl _) (by omega) (by omega) (by have:=oy.out;omega)
  have HF:Hid (Below N W wE):=QG.out.trans hb3
  clear hc hb3 hS
  go_wp2_with fail
  simp [Rg.bh,bodyPostD,Leaves,settle,results,Tryz.results6,go_sem,k0,k1,k2]
  exact HF.out
 · exact HCd.out
end Go.Proofs.YtiklkhbfilbpeaaGreatDoor.Ux
namespace Go.Proofs.YtiklkhbfilbpeaaGreatDoor.Ux
open Go.RowKit Base Lx Sy Sx Un
theorem Ui {l:List Nd} {i:Nat} {n:Nd} (h:l[i]? =some n) (he:KR l n=true):Cj l=true:=by
 unfold Cj
 rw [List.any_eq_true]
 exact ⟨n,List.mem_of_getElem? h,he⟩
theorem QH {l:List Nd} (h:∀(j:Nat) (n:Nd),l[j]? =some n→KR l n=false):Cj l=false:=by
 unfold Cj
 rw [List.any_eq_false]
 intro n hn
 obtain ⟨j,hj⟩:=List.mem_iff_getElem?.1 hn
 rw [h j n hj];decide
theorem yw (W:World) (B:Nat) (P:Nat→Prop) (v:Value) (l:List Nd) (hr:lu W B P v l) (ht:Tr l) (hl:l.length≤50000):Calls Tryz.prog 8 #[v] W fun r W'=>r=.returned (.bool (Cj l))∧W'=W:=by
 obtain ⟨ta,tc,E1,b1,off,hnd,mB⟩:=fZ hr
 obtain ⟨L,hL⟩:∃L,l.length=L:=⟨_,rfl⟩
 rw [hL] at E1 mB hl
 subst E1
 have HNd:=Lib.hid hnd
 have HIx:=Lib.hid mB
 have HL:=Lib.hid hL
 have HT:=Lib.hid ht
 clear hr hnd mB hL ht
 go_enter Tryz.func8,Tryz.ntmps8
 go_upto_region 2 with fail
 go_loopw [3] (fun v3 wr=>∃i:Nat,i≤L∧v3=.int .i64 (i:Int)∧(∀(j:Nat) (n:Nd),j < i→l[j]? =some n→KR l n=false)∧wr=W) (fun v3 _=>(match v3 with | .int _ z=>L - z.toNat | _=>0))
 case atStart=>exact ⟨0,Nat.zero_le _,rfl,fun j n h=>absurd h (Nat.not_lt_zero _),rfl⟩
 case round=>
  obtain ⟨i,hi,rfl,hall,hw⟩:=hrel
  have hw2:=hw.symm
  subst hw2
  clear hw
  have Cc:=Lib.hid hall
  clear hall
  by_cases kG:i < L
  case neg=>
   obtain rfl:i=L:=by omega
   have a3:decide (i < i)=false:=decide_eq_false (by omega)
   have a1:decide ((i:Int) < (i:Int))=false:=decide_eq_false (by omega)
   have a2:¬((i:Int) < (i:Int)):=by omega
   have HF:Hid (Cj l=false):=QH fun j n hj=>Cc.out j n (by have:=(List.getElem?_eq_some_iff.1 hj).1;rw [HL.out] at this;exact this) hj
   go_wp2_with fail
   go_ret
   exact ⟨by rw [HF.out];rfl,rfl⟩
  have a3:decide (i < L)=true:=decide_eq_true (by omega)
  have a1:decide ((i:Int) < (L:Int))=true:=decide_eq_true (by omega)
  have a2:(i:Int) < (L:Int):=by omega
  obtain ⟨n,hn⟩:∃n,l[i]? =some n:=⟨_,List.getElem?_eq_getElem (by rw [HL.out];exact kG)⟩
  obtain ⟨nu,nr,nk,wT⟩:=HNd.out i n hn
  have x0:W.cell? ⟨b1,off+i * 8,none⟩=some (.int .i64 (n.k:Int)):=wT.cells 0 _ rfl
  have x6:W.cell? ⟨b1,off+i * 8+6,none⟩=some nk:=wT.cells 6 _ rfl
  have j1:∀w,(Instr.indexAt 23 (.slice ta L tc) (.int .i64 (i:Int))).run Tryz.prog w=.ok (.pointer (some ⟨b1,off+i * 8,none⟩)) w:=fun w=>HIx.out i w kG
  have lx:∀k∈n.ks,k < i:=fun k hk=>by
   have Am:=(List.getElem?_eq_some_iff.1 hn)
   obtain ⟨h1,h2⟩:=Am
   exact HT.out.kids i h1 k (by rw [h2];exact hk)
  obtain ⟨ka,kc,ZN,eo⟩:=kq (B:=W.heap.size) wT.rows.k (fun g hg=>by
   rcases wT.rows.k.2 with ⟨hv,_⟩ | ⟨g',cap,cur,hv,_,Ns,_⟩
   · rw [hv] at hg;cases hg
   ·
    rw [hv] at hg
    injection hg with hg
    rw [←hg]
    exact (Array.getElem?_eq_some_iff.1 Ns).1)
  obtain ⟨kk,Pz⟩:∃kk,n.k=kk:=⟨_,rfl⟩
  obtain ⟨mk,Vs⟩:∃m,n.ks.length=m:=⟨_,rfl⟩
  have Nf:KR l n=(decide (kk=6) && decide (mk=3) && decide (en l (kid n 2)=6)):=by rw [←Pz,←Vs];rfl
  rw [Pz] at x0
  rw [ZN,Vs] at x6
  have Xo:=Lib.hid Nf
  have wU:=Lib.hid Vs
  have HNi:=Lib.hid hn
  have wh:=Lib.hid eo
  have ZaQ:=Lib.hid lx
  have hstep:KR l n=false→∀(j:Nat) (m:Nd),j < i+1→l[j]? =some m→KR l m=false:=fun hf j m hj hm=>by
   by_cases h:j < i
   · exact Cc.out j m h hm
   ·
    obtain rfl:j=i:=by omega
    rw [HNi.out] at hm
    injection hm with hm
    subst hm
    exact hf
  have eO:=Lib.hid hstep
  clear hn wT lx ZN eo Pz Vs Nf hstep
  by_cases h6:kk=6
  case neg=>
   have HF:Hid (KR l n=false):=by show _=_;rw [Xo.out,decide_eq_false h6];rfl
   have d0:¬(kk:Int)=6:=by omega
   have d1:((kk:Int)==6)=false:=beq_eq_false_iff_ne.2 d0
   have d2:decide ((kk:Int)=6)=false:=decide_eq_false d0
   clear h6
   go_wp2_with fail
   go_roundw
   case rel=>exact ⟨i+1,by omega,by go_num,eO.out HF.out,trivial⟩
   case measure=>simp;omega
  subst h6
  by_cases h3:mk=3
  case neg=>
   have HF:Hid (KR l n=false):=by show _=_;rw [Xo.out,decide_eq_false h3];rfl
   have d0:¬(mk:Int)=3:=by omega
   have d1:((mk:Int)==3)=false:=beq_eq_false_iff_ne.2 d0
   have d2:decide ((mk:Int)=3)=false:=decide_eq_false d0
   clear h3
   go_wp2_with fail
   go_roundw
   case rel=>exact ⟨i+1,by omega,by go_num,eO.out HF.out,trivial⟩
   case measure=>simp;omega
  subst h3
  have gQ:=bV (n:=n) (i:=2) (by rw [wU.out];decide)
  obtain ⟨gk,hka,_,y2⟩:=wh.out 2 (kid n 2) (by unfold kid;rw [List.getD_eq_getElem?_getD,List.getElem?_eq_getElem (by rw [wU.out];decide)];rfl)
  subst hka
  have W5:=ZaQ.out _ gQ
  obtain ⟨kn,yY⟩:∃k,kid n 2=k:=⟨_,rfl⟩
  rw [yY] at y2 W5
  have HKn:=Lib.hid yY
  clear gQ yY
  obtain ⟨q,hq⟩:∃q,l[kn]? =some q:=⟨_,List.getElem?_eq_getElem (by rw [HL.out];omega)⟩
  obtain ⟨qu,qr,qk,hqk⟩:=HNd.out kn q hq
  have z0:W.cell? ⟨b1,off+kn * 8,none⟩=some (.int .i64 (q.k:Int)):=hqk.cells 0 _ rfl
  have j2:∀w,(Instr.indexAt 23 (.slice ta L tc) (.int .i64 (kn:Int))).run Tryz.prog w=.ok (.pointer (some ⟨b1,off+kn * 8,none⟩)) w:=fun w=>HIx.out kn w (by omega)
  have j3:∀w,(Instr.indexAt 35 (.slice (some ⟨gk,0,none⟩) 3 kc) (.int .i64 2)).run Tryz.prog w=.ok (.pointer (some ⟨gk,2,none⟩)) w:=fun w=>vT 2 (by decide) w
  obtain ⟨qq,hqq⟩:∃x,q.k=x:=⟨_,rfl⟩
  rw [hqq] at z0
  have Xc:Hid (en l (kid n 2)=qq):=by show _=_;rw [HKn.out];unfold en;rw [hq,←hqq];rfl
  clear hqk hq hqq
  by_cases hq6:qq=6
  ·
   have VW:Hid (Cj l=true):=Ui HNi.out (by rw [Xo.out,Xc.out,decide_eq_true hq6];rfl)
   subst hq6
   go_wp2_with fail
   go_ret
   exact ⟨by rw [VW.out];rfl,rfl⟩
  ·
   have HF:Hid (KR l n=false):=by show _=_;rw [Xo.out,Xc.out,decide_eq_false hq6];rfl
   have d0:¬(qq:Int)=6:=by omega
   have d1:((qq:Int)==6)=false:=beq_eq_false_iff_ne.2 d0
   have d2:decide ((qq:Int)=6)=false:=decide_eq_false d0
   clear hq6
   go_wp2_with fail
   go_roundw
   case rel=>exact ⟨i+1,by omega,by go_num,eO.out HF.out,trivial⟩
   case measure=>simp;omega
end Go.Proofs.YtiklkhbfilbpeaaGreatDoor.Ux
