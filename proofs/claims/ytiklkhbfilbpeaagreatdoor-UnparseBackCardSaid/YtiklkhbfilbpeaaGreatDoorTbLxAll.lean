import Derived.Test.YtiklkhbfilbpeaaGreatDoorTbLxCatch
set_option maxRecDepth 100000
set_option maxHeartbeats 16000000
set_option linter.unusedVariables false
set_option linter.unusedSimpArgs false
namespace Go.Proofs.YtiklkhbfilbpeaaGreatDoor
open Go.RowKit Base Lx
structure MK (l:List Tok) (hh:List Nat) (s:Nm):Prop where
 idx:∀i∈hh,i < l.length
 few:hh.length≤l.length
 len:l.length+s.length≤5000
 bd:Bd l s.length
theorem Bd.less {l:List Tok} {n m:Nat} (h:Bd l n) (hm:m≤n):Bd l m:=fun t ht=>by have:=h t ht;exact ⟨by omega,this.2⟩
theorem Bd.add {l:List Tok} {n:Nat} {t:Tok} (h:Bd l n) (h1:t.b.length+n≤100001) (h2:t.t.length≤100000):Bd (l++[t]) n:=fun u hu=>by
 rcases List.mem_append.1 hu with hu | hu
 · exact h u hu
 · obtain rfl:=List.mem_singleton.1 hu;exact ⟨h1,h2⟩
theorem wS (e:Nm):∀f s x,ji e f s=.ok x→x.1.length+x.2.length≤s.length
 | 0,s,x,h=>by cases h
 | f+1,s,x,h=>by
   unfold ji at h
   split at h
   · cases h
   ·
    rename_i hs
    have hsp:(cD s).1.length+(cD s).2.length≤s.length∧((cD s).2≠[]→(cD s).1.length+(cD s).2.length+1≤s.length):=by
     unfold cD
     cases hc:cutAt 10 s with
     | none=>simp
     | some y=>have:=congrArg List.length (kC hc);simp at this ⊢;omega
    split at h
    · injection h with h;subst h;simp;exact Nat.le_trans (Nat.le_add_left _ _) hsp.1
    ·
     obtain ⟨p,h2,h3⟩:=cH h
     have h4:=wS e f _ (p,x.2) h2
     rw [h3]
     have hne:(cD s).2≠[]:=fun h0=>by
      rw [h0] at h2
      cases f with
      | zero=>cases h2
      | succ f=>cases h2
     have:=hsp.2 hne
     simp at h4 ⊢;omega
theorem zS:∀(hh:List Nat) (l:List Tok) (s:Nm) (x:List Tok × Nm),cX hh l s=.ok x→Bd l s.length→x.1.length=l.length∧x.2.length≤s.length∧Bd x.1 x.2.length
 | [],l,s,x,e,hb=>by injection e with e;subst e;exact ⟨rfl,Nat.le_refl _,hb⟩
 | i::is,l,s,x,e,hb=>by
   obtain ⟨y,h1,h2⟩:=aZ (x:=gW (ed l i) s) e
   have h3:=wS _ _ _ _ h1
   have h4:=zS is _ _ _ h2 (hb.modify h3)
   rw [List.length_modify] at h4
   exact ⟨h4.1,by omega,h4.2.2⟩
theorem xG {s:Nm} {x:Nm × Nm} (h:fe s=.ok x):x.1.length+x.2.length≤s.length:=kJ (oU 0) _ _ _ h
theorem NG {g:Nat} {l:List Tok} {hh:List Nat} {c:UInt8} {s:Nm} {x:St} (h:MK l hh (c::s)) (e:eY g l hh (c::s)=.ok x):MK x.1 x.2.1 x.2.2:=by
 have hl:=h.len
 have hlt:=one_len (by simp) e
 simp only [List.length_cons] at hl hlt
 unfold eY at e
 simp only at e
 split at e
 ·
  obtain ⟨y,h1,h2⟩:=aZ e
  injection h2 with h2;subst h2
  have h3:=zS _ _ _ _ h1 ((h.bd.less (by simp)).add (by simp;omega) (by simp))
  rw [List.length_append,List.length_singleton] at h3
  exact ⟨fun i hi=>absurd hi List.not_mem_nil,Nat.zero_le _,by simp only;omega,h3.2.2⟩
 ·
  rename_i h10
  split at e
  ·
   injection e with e;subst e
   exact ⟨h.idx,h.few,by simp only at hlt ⊢;omega,h.bd.less (by simp only at hlt;simp only [List.length_cons];omega)⟩
  ·
   split at e
   ·
    injection e with e;subst e
    exact ⟨h.idx,h.few,by simp only at hlt ⊢;omega,h.bd.less (by simp only at hlt;simp only [List.length_cons];omega)⟩
   ·
    split at e
    ·
     injection e with e;subst e
     exact ⟨h.idx,h.few,by simp only at hlt ⊢;omega,h.bd.less (by simp only at hlt;simp only [List.length_cons];omega)⟩
    ·
     rename_i hb
     split at e
     ·
      rename_i o ho
      injection e with e;subst e
      have ho2:=xq (rL ho).2
      simp only at hlt
      refine ⟨fun i hi=>?_,?_,?_,(h.bd.less ?_).add ?_ ?_⟩
      · have:=h.idx i hi;simp;omega
      · have:=h.few;simp;omega
      · simp only [List.length_append,List.length_singleton];omega
      · simp only [List.length_cons];omega
      · simp only [List.length_nil];omega
      · simp only;omega
     ·
      rename_i hn
      split at e
      · cases e
      ·
       rename_i ET
       obtain ⟨y,h1,h2⟩:=aZ e
       have h3:=yj (vM h10 hb hn ET) h1
       have h4:=xG h1
       simp only [List.length_cons] at h3 h4
       split at h2
       ·
        injection h2 with h2;subst h2
        refine ⟨fun i hi=>?_,?_,?_,(h.bd.less ?_).add ?_ ?_⟩
        · have:=h.idx i hi;simp;omega
        · have:=h.few;simp;omega
        · simp only [List.length_append,List.length_singleton];omega
        · simp only [List.length_cons];omega
        · simp only [List.length_nil];omega
        · simp only;omega
       ·
        injection h2 with h2;subst h2
        refine ⟨fun i hi=>?_,?_,?_,(h.bd.less ?_).add ?_ ?_⟩
        ·
         simp only at hi
         split at hi
         ·
          rcases List.mem_append.1 hi with hi | hi
          · have:=h.idx i hi;simp;omega
          · obtain rfl:=List.mem_singleton.1 hi;simp
         · have:=h.idx i hi;simp;omega
        ·
         have:=h.few
         simp only
         split<;>simp<;>omega
        · simp only [List.length_append,List.length_singleton];omega
        · simp only [List.length_cons];omega
        · simp only [List.length_nil];omega
        · simp only;omega
theorem cell_of {w:World} {p:Nat} {x:Value} {t:TypeId} (h:w.heap[p]? =some (.cells #[x] t)):w.cell? ⟨p,0,none⟩=some x∧w.frozen? ⟨p,0,none⟩=false:=by simp [World.cell?,World.frozen?,h]
theorem QK (b o:Nat) (w:World):(Instr.fieldAt mK (.pointer (some ⟨b,o,none⟩)) 3).run Tryz.prog w=.ok (.pointer (some ⟨b,o+3,none⟩)) w:=by rfl
theorem Gv (l:List Tok) (t:Tok):tT (l++[t])=t.ln:=by unfold tT;rw [List.getLast?_append];rfl
def nK (W:World) (x:RA) (r:Ending) (W':World):Prop:=
 Below W.heap.size W W'∧match x with
  | .error y=>r=.returned (.tuple #[.slice none 0 0,.int .i64 y.1,.int .i64 (y.2:Int)])
  | .ok l=>∃v,r=.returned (.tuple #[v,.int .i64 0,.int .i64 0])∧W'.ownsRow W.heap.size mK 4 v l.length (l.flatMap rT)
theorem ZR (w:World) (o0 o1 o2 o3:Obj):((((w.alloc o0).alloc o1).alloc o2).alloc o3).heap[w.heap.size]? =some o0∧((((w.alloc o0).alloc o1).alloc o2).alloc o3).heap[w.heap.size+1]? =some o1∧((((w.alloc o0).alloc o1).alloc o2).alloc o3).heap[w.heap.size+1+1]? =some o2∧((((w.alloc o0).alloc o1).alloc o2).alloc o3).heap[w.heap.size+1+1+1]? =some o3:=by
 obtain ⟨h0,h1,h2⟩:=Ap.Jg w o0 o1 o2
 have cU:=(Below.refl (((w.alloc o0).alloc o1).alloc o2).heap.size (((w.alloc o0).alloc o1).alloc o2)).alloc (Nat.le_refl _) o3
 have h3:=heap_alloc_new (((w.alloc o0).alloc o1).alloc o2) o3
 simp only [World.size_alloc] at h3
 exact ⟨(cU.block _ (Array.getElem?_eq_some_iff.1 h0).1).trans h0,(cU.block _ (Array.getElem?_eq_some_iff.1 h1).1).trans h1,(cU.block _ (Array.getElem?_eq_some_iff.1 h2).1).trans h2,h3⟩
theorem Kp (W:World) (s:Nm) (hs:s.length≤4096):∃w1,(((W.alloc (.cells #[.slice none 0 0] GL)).alloc (.cells #[.int .i64 0] uy)).alloc (.cells #[.int .i64 0] dU)).alloc (.cells #[.string (str s),.int .i64 1,.int .i64 0,.slice none 0 0,.slice none 0 0] nc)=w1∧
 w1.heap[W.heap.size]? =some (.cells #[.slice none 0 0] GL)∧w1.heap[W.heap.size+1]? =some (.cells #[.int .i64 0] uy)∧w1.heap[W.heap.size+1+1]? =some (.cells #[.int .i64 0] dU)∧
 dP w1 (W.heap.size+1+1+1) (W.heap.size+1+1+1) (1+nl s) 0 [] [] s (.slice none 0 0) (.slice none 0 0)∧Below W.heap.size W w1∧w1.heap.size=W.heap.size+1+1+1+1:=by
 obtain ⟨h0,h1,h2,h3⟩:=ZR W (.cells #[.slice none 0 0] GL) (.cells #[.int .i64 0] uy) (.cells #[.int .i64 0] dU) (.cells #[.string (str s),.int .i64 1,.int .i64 0,.slice none 0 0,.slice none 0 0] nc)
 have hB:=((((Below.refl W.heap.size W).alloc (Nat.le_refl _) (.cells #[.slice none 0 0] GL)).alloc (by simp only [World.size_alloc];omega) (.cells #[.int .i64 0] uy)).alloc (by simp only [World.size_alloc];omega) (.cells #[.int .i64 0] dU)).alloc (by simp only [World.size_alloc];omega) (.cells #[.string (str s),.int .i64 1,.int .i64 0,.slice none 0 0,.slice none 0 0] nc)
 have hn:=Y3 s
 refine ⟨_,rfl,h0,h1,h2,⟨⟨?_,by omega,by omega,by omega⟩,World.ownsRow_nil _ _ _ _,World.ownsRow_nil _ _ _ _,Nat.le_refl _⟩,hB,by simp only [World.size_alloc]⟩
 rw [show (1+nl s - nl s:Nat)=1 by omega]
 exact h3
theorem JO (W:World) (s:Nm) (hs:s.length≤4096) (hO:sB W):Calls Tryz.prog 11 #[.string (str s)] W (nK W (allM s)):=by
 have QU:∀(fn:Fn) (first cap:Array Value) (w:World),(Instr.makeFunc fn first cap).run Tryz.prog w=.ok (.func fn first cap) w:=fun _ _ _ _=>rfl
 obtain ⟨w1,gZ,hp,hq,hr,hst,hb,hsz⟩:=Kp W s hs
 have qa:Hid ((((W.alloc (.cells #[.slice none 0 0] GL)).alloc (.cells #[.int .i64 0] uy)).alloc (.cells #[.int .i64 0] dU)).alloc (.cells #[.string (str s),.int .i64 1,.int .i64 0,.slice none 0 0,.slice none 0 0] nc)=w1):=gZ
 have HP:=Lib.hid hp
 have HQ:=Lib.hid hq
 have HR:=Lib.hid hr
 have HS:=Lib.hid hst
 have HB:=Lib.hid hb
 have HZ:=Lib.hid hsz
 have Cz:Hid (sB w1):=by have:=hO.lt;exact hO.below hb this
 have HG:Hid (DL < W.heap.size+1+1+1):=by have:=hO.lt;show _ < _;omega
 have e1:(str s).size=s.length:=rfl
 have a1:decide ((4096:Int) < ((str s).size:Int))=false:=decide_eq_false (by omega)
 have a2:¬((4096:Int) < ((str s).size:Int)):=by omega
 clear gZ hp hq hr hst hb hsz hO
 obtain ⟨N,hN⟩:∃N,W.heap.size=N:=⟨_,rfl⟩
 have HN:=Lib.hid hN
 rw [hN] at HP HQ HR HZ HG HS
 clear hN
 obtain ⟨K,hK⟩:∃K,1+nl s=K:=⟨_,rfl⟩
 have Lv:Hid (mF K ([],[],s)=allM s):=by show _=_;rw [←hK];rfl
 have kF:Hid (MK [] [] s):=⟨fun i hi=>absurd hi List.not_mem_nil,Nat.le_refl _,by simp;omega,fun t ht=>absurd ht List.not_mem_nil⟩
 rw [hK] at HS
 clear hK
 go_enter_defers Tryz.func11,Tryz.ntmps11
 go_upto_region 5 with fail
 rw [qa.out,HN.out]
 clear a1 a2 e1
 go_loopw [] (fun wr=>∃(l:List Tok) (hh:List Nat) (q:Nm) (g:Nat) (vl vh:Value),dP wr (N+1+1+1) (N+1+1+1) K g l hh q vl vh∧Below (N+1+1+1) w1 wr∧mF K (l,hh,q)=allM s∧MK l hh q) (fun wr=>mo wr (N+1+1+1))
 case atStart=>exact ⟨[],[],s,0,_,_,HS.out,Below.refl _ _,Lv.out,kF.out⟩
 case round=>
  clear Lv kF HS
  obtain ⟨l,hh,q,g,vl,vh,hst,qU,hx,Cg⟩:=hrel
  have HS:=Lib.hid hst
  have Qi:=Lib.hid qU
  have HX:=Lib.hid hx
  have kF:=Lib.hid Cg
  obtain ⟨⟨c0,c1,c2,c3,c4⟩,f0,f1,f2,f3,f4⟩:=bg hst.rd.box
  clear hst qU hx Cg
  cases q with
  | cons c q=>
    have t1:((str (c::q)).toList==[])=false:=by rw [dx];rfl
    have hlen:=kF.out.len
    have Zct:=kF.out.few
    have hzl:mo wr (N+1+1+1)=(c::q).length:=cB HS.out.rd
    go_wp2_with fail
    clear c0 c1 c2 c3 c4 f0 f1 f2 f3 f4
    obtain ⟨Y,hY⟩:∃Y,eY (K - nl (c::q)) l hh (c::q)=Y:=⟨_,rfl⟩
    refine (K6 wr _ _ K g l hh c q vl vh HS.out kF.out.idx (by omega) (by omega) kF.out.bd (Cz.out.below Qi.out HG.out) HG.out Y hY).mono ?_
    rintro r w2 hp
    cases Y with
    | error e=>
      obtain ⟨rfl,hb2⟩:=hp
      have HE:Hid (allM s=.error (e,K - nl (c::q))):=by show _=_;rw [←HX.out,dn K l hh (by simp),hY]
      have dp:=Lib.hid (Qi.out.trans hb2)
      clear hb2 hY
      have fh:w2.heap[N]? =some (.cells #[.slice none 0 0] GL):=(dp.out.block N (by omega)).trans HP.out
      have sK:w2.heap[N+1]? =some (.cells #[.int .i64 0] uy):=(dp.out.block (N+1) (by omega)).trans HQ.out
      have hr2:w2.heap[N+1+1]? =some (.cells #[.int .i64 0] dU):=(dp.out.block (N+1+1) (by omega)).trans HR.out
      refine leaves_cons (f:=19) (args:=#[.pointer (some ⟨N,0,none⟩),.pointer (some ⟨N+1,0,none⟩),.pointer (some ⟨N+1+1,0,none⟩)]) (by simp) (by simp [go_sem]) ?_
      refine (lM N (N+1) (N+1+1) _ _ _ e (K - nl (c::q)) [] w2 fh sK hr2).mono ?_
      rintro r u' w3 ⟨rfl,rfl,hc⟩
      have k0:=(cell_of hc.hp).1
      have k1:=(cell_of hc.hq).1
      have k2:=(cell_of hc.hr).1
      have hb3:Below N w2 w3:=hc.below (Nat.le_refl _) (by omega) (by omega) (by have:=dp.out.size;rw [HZ.out] at this;omega)
      have HF:Hid (nK W (allM s) (.returned (.tuple #[.slice none 0 0,.int .i64 e,.int .i64 (((K - nl (c::q)):Nat):Int)])) w3):=by
       show nK _ _ _ _
       rw [HE.out]
       refine ⟨?_,rfl⟩
       rw [HN.out]
       have h0:Below N W w1:=by rw [←HN.out];exact HB.out
       exact (h0.trans (dp.out.mono (by omega))).trans hb3
      clear hc hb3 fh sK hr2
      simp [Leaves,settle,results,Tryz.results11,go_sem,k0,k1,k2]
      exact HF.out
    | ok y=>
      obtain ⟨rfl,hb2,vl2,vh2,hs2⟩:=hp
      have oA:Hid (mF K (y.1,y.2.1,y.2.2)=allM s):=by show _=_;rw [←HX.out,dn K l hh (by simp),hY]
      have qc:=Lib.hid hs2
      have dp:=Lib.hid (Qi.out.trans hb2)
      have Zbf:=Lib.hid (NG kF.out hY)
      have hlt:y.2.2.length < (c::q).length:=one_len (by simp) hY
      have hz2:mo w2 (N+1+1+1)=y.2.2.length:=cB hs2.rd
      clear hb2 hs2 hY
      go_wp2_with fail
      go_roundw
      case rel=>exact ⟨_,_,_,_,_,_,qc.out,dp.out,oA.out,Zbf.out⟩
      case measure=>rw [hz2,hzl];exact hlt
  | nil=>
    have t1:((str []).toList==[])=true:=by rw [dx];rfl
    obtain ⟨ah,ch,hv,_⟩:=aA HS.out.here
    subst hv
    by_cases Yd:hh=[]
    ·
     subst Yd
     have eP:nl ([]:Nm)=0:=rfl
     have HE:Hid (allM s=.ok (l++[⟨4,[],[],K⟩])):=by show _=_;rw [←HX.out];rfl
     rw [eP,Nat.sub_zero] at c1
     have VO:=HS.out.begin K
     have HSb:=Lib.hid VO.1
     have HBb:=Lib.hid (Qi.out.trans VO.2)
     have hlen:=kF.out.len
     clear VO
     go_wp2_with fail
     clear c0 c1 c2 c3 c4 f0 f1 f2 f3 f4
     refine (bQ _ _ _ K K l [] [] vl _ HSb.out 4 [] (by simp at hlen;omega)).mono ?_
     rintro r w2 ⟨rfl,hb2,vl2,hs2⟩
     have qc:=Lib.hid hs2
     have dp:=Lib.hid (HBb.out.trans hb2)
     obtain ⟨⟨c0,c1,c2,c3,c4⟩,f0,f1,f2,f3,f4⟩:=bg hs2.rd.box
     obtain ⟨a9,q9,hv9,_⟩:=aA hs2.l6
     subst hv9
     have fh:w2.heap[N]? =some (.cells #[.slice none 0 0] GL):=(dp.out.block N (by omega)).trans HP.out
     have sK:w2.heap[N+1]? =some (.cells #[.int .i64 0] uy):=(dp.out.block (N+1) (by omega)).trans HQ.out
     have hr2:w2.heap[N+1+1]? =some (.cells #[.int .i64 0] dU):=(dp.out.block (N+1+1) (by omega)).trans HR.out
     have m0:=(cell_of fh).1
     have m1:=(cell_of sK).1
     have m2:=(cell_of hr2).1
     have n0:=(cell_of fh).2
     have n1:=(cell_of sK).2
     have n2:=(cell_of hr2).2
     have hc0:br w2 w2 N (N+1) (N+1+1) (.slice none 0 0) (.int .i64 0) (.int .i64 0):=⟨fh,sK,hr2,rfl,rfl,rfl,rfl,fun _ _ _ _ _=>rfl⟩
     have HC:=Lib.hid (((hc0.setp (.slice a9 (l++[(⟨4,[],[],K⟩:Tok)]).length q9)).setq (.int .i64 0)).setr (.int .i64 0))
     have e01:¬N+1=N:=by omega
     have e02:¬N+1+1=N:=by omega
     have zg:¬N+1+1=N+1:=by omega
     obtain ⟨L2,hL2⟩:∃L2,(l++[(⟨4,[],[],K⟩:Tok)]).length=L2:=⟨_,rfl⟩
     have vD:=Lib.hid hL2
     rw [hL2] at c3 HC
     clear hb2 hs2 fh sK hr2 hc0 hL2
     go_wp2_with fail
     refine leaves_cons (f:=19) (args:=#[.pointer (some ⟨N,0,none⟩),.pointer (some ⟨N+1,0,none⟩),.pointer (some ⟨N+1+1,0,none⟩)]) (by simp) (by simp [go_sem]) ?_
     refine (qR N (N+1) (N+1+1) _).mono ?_
     rintro r u' w3 ⟨rfl,rfl,hw3⟩
     have V5:Hid (br w2 w3 N (N+1) (N+1+1) (.slice a9 L2 q9) (.int .i64 0) (.int .i64 0)):=by show br _ _ _ _ _ _ _ _;rw [hw3];exact HC.out
     clear hw3 m0 m1 m2 n0 n1 n2 c0 c1 c2 c3 c4 f0 f1 f2 f3 f4
     have k0:=(cell_of V5.out.hp).1
     have k1:=(cell_of V5.out.hq).1
     have k2:=(cell_of V5.out.hr).1
     have hb3:Below N w2 w3:=V5.out.below (Nat.le_refl _) (by omega) (by omega) (by have:=dp.out.size;rw [HZ.out] at this;omega)
     have HF:Hid (nK W (allM s) (.returned (.tuple #[.slice a9 L2 q9,.int .i64 0,.int .i64 0])) w3):=by
      show nK _ _ _ _
      rw [HE.out]
      have h0:Below N W w1:=by rw [←HN.out];exact HB.out
      refine ⟨by rw [HN.out];exact (h0.trans (dp.out.mono (by omega))).trans hb3,_,rfl,?_⟩
      rw [HN.out]
      have h5:=sM qc.out.l6 (base':=N) (by omega)
      have h6:=qc.out.l6
      rw [vD.out] at h5 h6 ⊢
      refine bG h5 (fun j X hj hX=>V5.out.block j (Array.getElem?_eq_some_iff.1 hX).1 ?_ ?_ ?_)
      · intro e;have:=(h6.lt j hj).1;omega
      · intro e;have:=(h6.lt j hj).1;omega
      · intro e;have:=(h6.lt j hj).1;omega
     clear hb3
     simp [Leaves,settle,results,Tryz.results11,go_sem,k0,k1,k2]
     exact HF.out
    ·
     have HE:Hid (allM s=.error (20,tT l)):=by show _=_;rw [←HX.out,oC,if_neg Yd]
     obtain ⟨i,hi⟩:=List.exists_mem_of_ne_nil _ Yd
     have ZE:l≠[]:=fun e=>by have:=kF.out.idx i hi;rw [e] at this;simp at this
     have vz:0 < hh.length:=List.length_pos_iff.2 Yd
     obtain ⟨L,hL⟩:∃L,hh.length=L:=⟨_,rfl⟩
     rw [hL] at c4 vz
     have a1:decide ((0:Int) < (L:Int))=true:=decide_eq_true (by omega)
     have a2:(0:Int) < (L:Int):=by omega
     obtain ⟨l',t,rfl⟩:=wz ZE
     obtain ⟨T,hT⟩:∃T,(l'++[t]).length=T:=⟨_,rfl⟩
     obtain ⟨a5,q5,PZ,b5,z5,d0,d1,d3,mB⟩:=Ik hT HS.out.l6
     subst PZ
     have HD3:=Lib.hid d3
     have HIx:=Lib.hid mB
     have hT1:1≤T:=by rw [←hT];simp
     have PA:T≤5000:=by rw [←hT];have:=kF.out.len;omega
     have VO:=HS.out.begin t.ln
     have HSb:=Lib.hid VO.1
     have HBb:=Lib.hid (Qi.out.trans VO.2)
     rw [Gv] at HE
     clear d0 d1 d3 mB hi ZE Yd hT VO
     go_upto_region 8 with fail
     refine Rg.dR 14 [] [Rg.Is (.pointer (some ⟨N+1+1+1,0,none⟩)),Rg.Is (.pointer (some ⟨N+1+1+1,0,none⟩)),Rg.Is (.pointer (some ⟨N+1+1+1,0,none⟩)),Rg.Is (.pointer (some ⟨N+1+1+1,3,none⟩)),Rg.Is (.slice a5 T q5),Rg.Is (.pointer (some ⟨N+1+1+1,0,none⟩)),Rg.Is (.pointer (some ⟨N+1+1+1,0,none⟩)),Rg.Is (.pointer (some ⟨N+1+1+1,3,none⟩)),Rg.Is (.slice a5 T q5),Rg.Is (.int .i64 (T:Int)),Rg.Is (.int .i64 ((T:Int) - 1)),Rg.Is (.pointer (some ⟨b5,z5,none⟩)),Rg.Is (.pointer (some ⟨b5,z5+3,none⟩)),Rg.Is (.int .i64 (t.ln:Int))] (by kernel_rfl) (by kernel_rfl) (of_decide_eq_true (by kernel_rfl)) (by kernel_rfl) (by kernel_rfl) ⟨Rg.aH _,Rg.aH _,Rg.aH _,Rg.aH _,Rg.aH _,Rg.aH _,Rg.aH _,Rg.aH _,Rg.aH _,Rg.aH _,Rg.aH _,Rg.aH _,Rg.aH _,Rg.aH _,trivial⟩ ⟨rfl,rfl,rfl,rfl,rfl,rfl,rfl,rfl,rfl,rfl,rfl,rfl,rfl,rfl,trivial⟩ ⟨?_,?_,?_,?_,?_,?_,?_,?_,?_,?_,?_,?_,?_,?_,trivial⟩ ?_
     ·
      intro _ a wx hb hk
      have h5:a.eval (.tmp 5)=.pointer (some ⟨N+1+1+1,0,none⟩):=Eq.mp (by kernel_rfl) (hk 5 (by decide))
      exact Rg.az ⟨Below.refl _ _,h5⟩
     ·
      intro _ a wx hb hk
      have h5:a.eval (.tmp 5)=.pointer (some ⟨N+1+1+1,0,none⟩):=Eq.mp (by kernel_rfl) (hk 5 (by decide))
      exact Rg.az ⟨Below.refl _ _,h5⟩
     ·
      intro _ a wx hb hk
      have Vq:a.eval (.tmp 27)=.pointer (some ⟨N+1+1+1,0,none⟩):=Eq.mp (by kernel_rfl) (hk 27 (by decide))
      exact Ap.fN _ Vq ⟨Below.refl _ _,rfl⟩
     ·
      intro _ a wx hb hk
      have UG:a.eval (.tmp 28)=.pointer (some ⟨N+1+1+1,0,none⟩):=Eq.mp (by kernel_rfl) (hk 28 (by decide))
      exact Rs.aR _ _ UG (rf (N+1+1+1) 0 3 (by decide) wx) ⟨Below.refl _ _,rfl⟩
     ·
      intro _ a wx hb hk
      have YQ:a.eval (.tmp 29)=.pointer (some ⟨N+1+1+1,3,none⟩):=Eq.mp (by kernel_rfl) (hk 29 (by decide))
      exact Rg.aK _ _ YQ (tN (bg (HS.out.rd.below hb).box).1.2.2.2.1) ⟨Below.refl _ _,rfl⟩
     ·
      intro _ a wx hb hk
      have h5:a.eval (.tmp 5)=.pointer (some ⟨N+1+1+1,0,none⟩):=Eq.mp (by kernel_rfl) (hk 5 (by decide))
      exact Rg.az ⟨Below.refl _ _,h5⟩
     ·
      intro _ a wx hb hk
      have h31:a.eval (.tmp 31)=.pointer (some ⟨N+1+1+1,0,none⟩):=Eq.mp (by kernel_rfl) (hk 31 (by decide))
      exact Ap.fN _ h31 ⟨Below.refl _ _,rfl⟩
     ·
      intro _ a wx hb hk
      have h32:a.eval (.tmp 32)=.pointer (some ⟨N+1+1+1,0,none⟩):=Eq.mp (by kernel_rfl) (hk 32 (by decide))
      exact Rs.aR _ _ h32 (rf (N+1+1+1) 0 3 (by decide) wx) ⟨Below.refl _ _,rfl⟩
     ·
      intro _ a wx hb hk
      have h33:a.eval (.tmp 33)=.pointer (some ⟨N+1+1+1,3,none⟩):=Eq.mp (by kernel_rfl) (hk 33 (by decide))
      exact Rg.aK _ _ h33 (tN (bg (HS.out.rd.below hb).box).1.2.2.2.1) ⟨Below.refl _ _,rfl⟩
     ·
      intro _ a wx hb hk
      have yX:a.eval (.tmp 34)=.slice a5 T q5:=Eq.mp (by kernel_rfl) (hk 34 (by decide))
      exact Rg.sU _ _ _ Tryz.underlying39 yX ⟨Below.refl _ _,rfl⟩
     ·
      intro _ a wx hb hk
      have uR:a.eval (.tmp 35)=.int .i64 (T:Int):=Eq.mp (by kernel_rfl) (hk 35 (by decide))
      exact Rg.fF _ _ _ _ uR rfl (Sw.pW (by omega) (by omega)) ⟨Below.refl _ _,rfl⟩
     ·
      intro _ a wx hb hk
      have h30:a.eval (.tmp 30)=.slice a5 T q5:=Eq.mp (by kernel_rfl) (hk 30 (by decide))
      have om:a.eval (.tmp 36)=.int .i64 ((T:Int) - 1):=Eq.mp (by kernel_rfl) (hk 36 (by decide))
      exact Rg.dI _ _ _ h30 om (HIx.out wx) ⟨Below.refl _ _,rfl⟩
     ·
      intro _ a wx hb hk
      have h37:a.eval (.tmp 37)=.pointer (some ⟨b5,z5,none⟩):=Eq.mp (by kernel_rfl) (hk 37 (by decide))
      exact Rs.aR _ _ h37 (QK b5 z5 wx) ⟨Below.refl _ _,rfl⟩
     ·
      intro _ a wx hb hk
      have ET:a.eval (.tmp 38)=.pointer (some ⟨b5,z5+3,none⟩):=Eq.mp (by kernel_rfl) (hk 38 (by decide))
      exact Rg.aK _ _ ET (mE (a7 hb (Nat.le_refl _) HD3.out)) ⟨Below.refl _ _,rfl⟩
     intro vals wD pL hL
     obtain ⟨g0,g1,g2,g3,g4,g5,g6,g7,g8,g9,g10,g11,g12,g13,_⟩:=hL
     have e0:vals 0=.pointer (some ⟨N+1+1+1,0,none⟩):=g0
     have Qd:vals 13=.int .i64 (t.ln:Int):=g13
     simp only [Rg.bh,List.take_succ_cons,List.take_zero,List.drop_succ_cons,List.drop_zero,List.setIfInBounds_toArray,List.set_cons_succ,List.set_cons_zero,e0,Qd]
     have HSD:=(HS.out.below pL).begin t.ln
     have Y8:=Lib.hid HSD.1
     have dp:Hid (Below (N+1+1+1) w1 (wD.setCell ⟨N+1+1+1,2,none⟩ (.int .i64 (t.ln:Int)))):=(Qi.out.trans (pL.mono HS.out.size)).trans HSD.2
     obtain ⟨⟨c0,c1,c2,c3,c4⟩,f0,f1,f2,f3,f4⟩:=bg (HS.out.rd.below pL).box
     clear g0 g1 g2 g3 g4 g5 g6 g7 g8 g9 g10 g11 g12 g13 e0 Qd pL HSD HSb HBb
     go_wp2_with fail
     obtain ⟨w2,hw2⟩:∃w2,wD.setCell ⟨N+1+1+1,2,none⟩ (.int .i64 (t.ln:Int))=w2:=⟨_,rfl⟩
     rw [hw2] at Y8 dp ⊢
     clear hw2
     refine (bq w2 _ [] K t.ln _ _ Y8.out.rd 20).mono ?_
     rintro r w9 ⟨rfl,KF⟩
     obtain rfl:=KF.symm
     have fh:w2.heap[N]? =some (.cells #[.slice none 0 0] GL):=(dp.out.block N (by omega)).trans HP.out
     have sK:w2.heap[N+1]? =some (.cells #[.int .i64 0] uy):=(dp.out.block (N+1) (by omega)).trans HQ.out
     have hr2:w2.heap[N+1+1]? =some (.cells #[.int .i64 0] dU):=(dp.out.block (N+1+1) (by omega)).trans HR.out
     refine leaves_cons (f:=19) (args:=#[.pointer (some ⟨N,0,none⟩),.pointer (some ⟨N+1,0,none⟩),.pointer (some ⟨N+1+1,0,none⟩)]) (by simp) (by simp [go_sem]) ?_
     refine (lM N (N+1) (N+1+1) _ _ _ 20 t.ln [] w2 fh sK hr2).mono ?_
     rintro r u' w3 ⟨rfl,rfl,hc⟩
     have k0:=(cell_of hc.hp).1
     have k1:=(cell_of hc.hq).1
     have k2:=(cell_of hc.hr).1
     have hb3:Below N w2 w3:=hc.below (Nat.le_refl _) (by omega) (by omega) (by have:=dp.out.size;rw [HZ.out] at this;omega)
     have HF:Hid (nK W (allM s) (.returned (.tuple #[.slice none 0 0,.int .i64 20,.int .i64 ((t.ln:Nat):Int)])) w3):=by
      show nK _ _ _ _
      rw [HE.out]
      refine ⟨?_,rfl⟩
      rw [HN.out]
      have h0:Below N W w1:=by rw [←HN.out];exact HB.out
      exact (h0.trans (dp.out.mono (by omega))).trans hb3
     clear hc hb3 fh sK hr2
     simp [Leaves,settle,results,Tryz.results11,go_sem,k0,k1,k2]
     exact HF.out
end Go.Proofs.YtiklkhbfilbpeaaGreatDoor
