import Derived.Test.YtiklkhbfilbpeaaGreatDoorTbLxRep
import Derived.Test.YtiklkhbfilbpeaaGreatDoorTbLxRead
set_option maxRecDepth 100000
set_option maxHeartbeats 16000000
set_option linter.unusedVariables false
set_option linter.unusedSimpArgs false
namespace Go.Proofs.YtiklkhbfilbpeaaGreatDoor
open Go.RowKit Base Lx
def kp (c:UInt8):Bool:=c != 39 && c != 34 && c != 92
theorem pT (s:Nm):bare s=s.filter kp:=rfl
theorem OW (c:UInt8):kp c=false↔c=39∨c=34∨c=92:=by
 unfold kp
 simp only [Bool.and_eq_false_iff,bne_eq_false_iff_eq]
 exact or_assoc
theorem Ko (c:UInt8) (r:Nm):bare (c::r)=if kp c then c::bare r else bare r:=by
 rw [pT,List.filter_cons];rfl
theorem o9 (s:Nm):(bare s).length+s.count 92+s.count 34+s.count 39=s.length:=by
 induction s with
 | nil=>rfl
 | cons c r ih=>
   rw [Ko,List.count_cons,List.count_cons,List.count_cons,List.length_cons]
   by_cases h:kp c=true
   ·
    rw [if_pos h,List.length_cons]
    have h1:¬(c=39∨c=34∨c=92):=fun e=>by rw [(OW c).2 e] at h;cases h
    have n1:(c==92)=false:=by simpa using fun e=>h1 (.inr (.inr e))
    have n2:(c==34)=false:=by simpa using fun e=>h1 (.inr (.inl e))
    have n3:(c==39)=false:=by simpa using fun e=>h1 (.inl e)
    simp only [n1,n2,n3,Bool.false_eq_true,if_false]
    omega
   ·
    have h0:kp c=false:=by simpa using h
    rw [if_neg h]
    rcases (OW c).1 h0 with rfl | rfl | rfl
    · simp only [show ((39:UInt8)==92)=false from rfl,show ((39:UInt8)==34)=false from rfl,show ((39:UInt8)==39)=true from rfl,Bool.false_eq_true,if_false,if_true];omega
    · simp only [show ((34:UInt8)==92)=false from rfl,show ((34:UInt8)==34)=true from rfl,show ((34:UInt8)==39)=false from rfl,Bool.false_eq_true,if_false,if_true];omega
    · simp only [show ((92:UInt8)==92)=true from rfl,show ((92:UInt8)==34)=false from rfl,show ((92:UInt8)==39)=false from rfl,Bool.false_eq_true,if_false,if_true];omega
theorem BS (s:Nm):(bare s).length≤s.length:=by have:=o9 s;omega
theorem KW {s:Nm} (h:(bare s).length=s.length):bare s=s:=by
 rw [pT] at h ⊢
 exact List.filter_eq_self.2 (fun a ha=>by
  have:=List.length_filter_eq_length_iff.1 h
  exact this a ha)
theorem Av (s:Nm) (k:Nat) (h:k < s.length):bare (s.take (k+1))=if kp s[k] then bare (s.take k)++[s[k]] else bare (s.take k):=by
 rw [List.take_succ_eq_append_getElem h,pT,pT,List.filter_append]
 by_cases hk:kp s[k]=true
 · rw [if_pos hk,List.filter_cons_of_pos hk];rfl
 · rw [if_neg hk,List.filter_cons_of_neg hk];simp
theorem A7 (s:Nm) (k:Nat):(bare (s.take k)).length≤(bare s).length:=by
 rw [pT,pT]
 exact ((List.take_sublist k s).filter kp).length_le
theorem N1:∀i:Nat,i < 256→kQ.contains (UInt8.ofNat i)= !kp (UInt8.ofNat i):=by
 have h:∀n:Fin 256,kQ.contains (UInt8.ofNat n.val)= !kp (UInt8.ofNat n.val):=by decide
 exact fun i hi=>h ⟨i,hi⟩
theorem fW.keep {B:Nat} {W0 W:World} {g:Nat} {cs:List Value} {v3:Value} (h:fW B W0 W g 3 cs v3) (c:UInt8) (hk:kp c=true):W.cell? ⟨g,c.toNat,none⟩=some (.slice none 0 0):=by
 have h1:=h.nilAt c.toNat c.toNat_lt (by
  have h3:UInt8.ofNat c.toNat=c:=by simp
  rw [show kQ.take 3=kQ from rfl,N1 _ c.toNat_lt,h3,hk];rfl)
 exact h1.1
theorem fW.off {B:Nat} {W0 W:World} {g:Nat} {cs:List Value} {v3:Value} (h:fW B W0 W g 3 cs v3) (c:UInt8) (hk:kp c=false):∃(ad:Addr) (cc:Nat),W.cell? ⟨g,c.toNat,none⟩=some (.slice (some ad) 0 cc):=by
 have h1:=h.cellAt c.toNat (by have:=c.toNat_lt;omega)
 rw [List.getElem?_append_left (by rw [h.len];exact c.toNat_lt)] at h1
 have h2:=h.cell c.toNat c.toNat_lt
 have h3:UInt8.ofNat c.toNat=c:=by simp
 rw [show kQ.take 3=kQ from rfl,N1 _ c.toNat_lt,h3,hk] at h2
 obtain ⟨ad,cc,h4⟩:∃(ad:Addr) (c1:Nat),cs[c.toNat]? =some (.slice (some ad) 0 c1):=by simpa using h2
 exact ⟨ad,cc,h1.1.trans h4⟩
def td (s:Nm):Nat→Nat
 | 0=>0
 | 1=>s.count 92
 | 2=>s.count 92+s.count 34
 | _=>s.count 92+s.count 34+s.count 39
theorem vR (s:Nm) (k:Nat):td s k≤s.length:=by
 have:=o9 s
 unfold td
 split<;>omega
theorem WQ (s:Nm):td s 3+(bare s).length=s.length:=by
 have:=o9 s
 show s.count 92+s.count 34+s.count 39+_=_
 omega
theorem cS (w:World) (n:Nat):Below w.heap.size w (w.drewN n):=⟨rfl,rfl,rfl,Nat.le_refl _,fun _ _=>rfl⟩
theorem qP {P:Program} {w:World} {t:TypeId} {n:Int} (h1:-9223372036854775808≤-n) (h2:-n≤9223372036854775807):(binOp .mul t (.int .i64 n) (.int .i64 (-1))).run P w=.ok (.int .i64 (-n)) w:=by
 rw [binOp_mul]
 simp only [Op.intArith,IntKind.wrap_i64]
 simp
 omega
theorem uu (g:Nat) (c:UInt8) (w:World):(Instr.indexAt 176 (.pointer (some ⟨g,0,none⟩)) (.int .u8 (c.toNat:Int))).run Tryz.prog w=.ok (.pointer (some ⟨g,c.toNat,none⟩)) w:=by
 have:=c.toNat_lt
 rw [run_indexAt_array w 176 _ _ _ (by kernel_rfl),show Tryz.prog.arrayLen 176=256 from rfl,if_pos ⟨by omega,by omega⟩]
 have h1:(sizeOf (Tryz.prog.elem 176)).run Tryz.prog w=.ok 1 w:=by rfl
 rw [h1]
 simp [Result.andThen,Addr.add_lit]
theorem Zz (w:World) (base:Option Addr) (dl dc:Nat) (a:Addr) (sc:Nat) (ty:TypeId):(Builtin.copy_ #[49,49] ty #[.slice base dl dc,.slice (some a) 0 sc]).run Tryz.prog w=.ok (.int .i64 0) w:=by
 obtain ⟨i0,iy,hz0,hz1,hz2⟩:=info_parts pK
 have hs:(sizeOf 5).run Tryz.prog w=.ok 1 w:=by simp [sizeOf,typeInfo,iy,hz1]
 have hm:Nat.min 0 dl=0:=Nat.zero_min dl
 have hl:(loadCells a 0).run Tryz.prog w=.ok #[] w:=by rfl
 cases base with
 | none=>simp [Builtin.copy_,run_underlying Tryz.underlying49,Builtin.lenOf,Builtin.firstCells,hs,hl,goInt]
 | some b=>
   have hst:(storeCells b []).run Tryz.prog w=.ok () w:=by rfl
   simp [Builtin.copy_,run_underlying Tryz.underlying49,Builtin.lenOf,Builtin.firstCells,hs,hl,goInt,hst]
theorem KO {P:Program} {a:Act} {w:World} {post:Value→World→Prop} {dst:Option Tmp} {s x:Operand} {t u:TypeId} {ty:TypeId} {pos:String} {after:Array Edge} {guard:Option (Nat × Bool)} (v y v':Value) (w':World)
 (hs:a.eval s=v) (hy:a.eval x=y) (hr:(Builtin.copy_ #[t,u] ty #[v,y]).run P w=.ok v' w') (hp:post v' w'):Rg.does P { dst,op:=.call { callee:=.builtin .copy,args:=#[s,x],argTypes:=#[t,u] },type:=ty,pos,after,guard } a w post:=by
 refine Rg.bA (v:=v') (w':=w') ?_ hp
 simp only [execOp,resolve,invoke,builtin,Sem.run_bind,Sem.run_pure,Result.andThen_ok,List.map_toArray,List.map_cons,List.map_nil,hs,hy,hr]
theorem QC {w:World} {base:Nat} {e:TypeId} {g n cap:Nat} {xs:List Value} (h:w.ownsRow base e 1 (.slice (some ⟨g,0,none⟩) n cap) n xs) (j:Nat) (hj:j < n) (u:Value):
 (w.setCell ⟨g,j,none⟩ u).ownsRow base e 1 (.slice (some ⟨g,0,none⟩) n cap) n (xs.set j u)∧(w.cell? ⟨g,j,none⟩).isSome=true∧w.frozen? ⟨g,j,none⟩=false∧w.grownBy (w.setCell ⟨g,j,none⟩ u) (some g):=by
 obtain ⟨q,c,cur,hv,h2,h3,h4,h5,h6,h7⟩:=Sl.vI h (by omega)
 obtain ⟨rfl,rfl⟩:g=q∧cap=c:=by injection hv with h1 h2 h3;injection h1 with h1;injection h1 with h1;exact ⟨h1,h3⟩
 have yR:=heap_setCell_same w g j _ _ u h3
 refine ⟨Sl.LU (cur:=cur.set j u) h2 (by rw [yR,List.setIfInBounds_toArray]) h4 h5 (by rw [List.length_set];exact h6) (by rw [List.take_set,h7]),?_,Sl.xj h3 j,Sl.aq g [u] j w⟩
 exact Sl.O0 h3 j (by omega)
theorem O6 (l:Nm) (n:Nat) (c:UInt8) (h:l.length < n):((l++List.replicate (n - l.length) (0:UInt8)).map bv).set l.length (bv c)=((l++[c])++List.replicate (n - (l++[c]).length) (0:UInt8)).map bv:=by
 rw [←List.map_set,List.set_append_right _ _ (Nat.le_refl _),Nat.sub_self]
 obtain ⟨d,hd⟩:∃d,n - l.length=d+1:=⟨n - l.length - 1,by omega⟩
 rw [hd,List.replicate_succ,List.set_cons_zero,List.length_append,List.length_singleton,show n - (l.length+1)=d by omega]
 simp
theorem WH (q n k:Nat) (w':World) (hk:k < n):(Instr.indexAt 49 (.slice (some ⟨q,0,none⟩) n n) (.int .i64 (k:Int))).run Tryz.prog w'=.ok (.pointer (some ⟨q,k,none⟩)) w':=by
 obtain ⟨i,hi',_,hs,_⟩:=info_parts pK
 rw [run_indexAt_slice w' 49 _ n n .i64 k (by simp [Program.elem,Tryz.underlying49]),if_pos ⟨by omega,by omega⟩]
 simp [Program.elem,Tryz.underlying49,sizeOf,typeInfo,hi',hs,Result.andThen,Addr.add_lit]
theorem lG {w:World} {ad:Addr} {v:Value} (h:w.cell? ad=some v):(Instr.loadAt 49 (.pointer (some ad))).run Tryz.prog w=.ok v w:=Ap.aW (by simp [isAgg]) h
theorem G9 (W:World) (B:Nat) (W0:World) (g:Nat) (cs:List Value) (v3:Value) (h:fW B W0 W g 3 cs v3) (s:Nm) (hs:s.length≤100000):
 Calls Tryz.prog 218 #[.pointer (some ⟨g,0,none⟩),.string (str s)] W fun r W'=>r=.returned (.string (str (bare s)))∧Below W.heap.size W W':=by
 obtain ⟨i0,iy,hz0,hz1,hz2⟩:=info_parts pK
 have HR:=Lib.hid h
 obtain ⟨a3,q3,hv3,hst⟩:=Ef (l:=kQ.map fun c=>[c]) (by have:=h.row;rw [List.map_map];exact this)
 obtain rfl:=hv3
 obtain ⟨b1,o1,hcs,mB⟩:=Ip hst
 have q0:=hcs 0 (by decide)
 have q1:=hcs 1 (by decide)
 have q2:=hcs 2 (by decide)
 simp only [kQ,List.map_cons,List.map_nil,List.getElem_cons_zero,List.getElem_cons_succ,Nat.add_zero] at q0 q1 q2
 have HQ0:=Lib.hid q0;have Vc:=Lib.hid q1;have JQ:=Lib.hid q2
 have j0:∀W,(Instr.indexAt 33 (.slice a3 3 q3) (.int .i64 0)).run Tryz.prog W=.ok (.pointer (some ⟨b1,o1,none⟩)) W:=fun W=>mB .i64 0 W (by decide)
 have j1:∀W,(Instr.indexAt 33 (.slice a3 3 q3) (.int .i64 1)).run Tryz.prog W=.ok (.pointer (some ⟨b1,o1+1,none⟩)) W:=fun W=>mB .i64 1 W (by decide)
 have j2:∀W,(Instr.indexAt 33 (.slice a3 3 q3) (.int .i64 2)).run Tryz.prog W=.ok (.pointer (some ⟨b1,o1+2,none⟩)) W:=fun W=>mB .i64 2 W (by decide)
 obtain ⟨l1,l2⟩:=h.last
 obtain ⟨N,hN⟩:∃N,s.length=N:=⟨_,rfl⟩
 have HN:=Lib.hid hN
 have e1:(str s).size=N:=hN
 rw [hN] at hs
 have LJ:=Lib.hid l1
 clear hcs mB hst h hN q0 q1 q2
 go_enter Tryz.func218,Tryz.ntmps218
 obtain ⟨hb,hhb⟩:∃hb,decide ((24:Int)≤(N:Int))=hb:=⟨_,rfl⟩
 go_upto_if 26 with fail
 go_cut [5,6] (fun s5 s6 wx=>s5=.int .i64 ((bare s).length:Int)∧s6=.bool (decide ((bare s).length≠N))∧Below W.heap.size W wx)
 case first=>
  cases hb with
  | true=>
    clear hhb
    go_wp2_with fail
    go_loopw [5,6,32] (fun v5 v6 v32 wr=>∃k:Nat,k≤3∧v32=.int .i64 (k:Int)∧v5=.int .i64 ((N:Int) - (td s k:Int))∧v6=.bool (decide (td s k≠0))∧Below W.heap.size W wr) (fun _ _ v32 _=>(match v32 with | .int _ n=>3 - n.toNat | _=>0))
    case atStart=>exact ⟨0,by decide,rfl,by simp [td],rfl,Below.refl _ _⟩
    case round=>
     obtain ⟨k,hk,rfl,rfl,rfl,hb⟩:=hrel
     have Lt:=Lib.hid (HR.out.below hb HR.out.size)
     have HB:=Lib.hid hb
     have l1:=Lt.out.last.1
     clear l2
     obtain ⟨m,hm⟩:∃m,td s k=m:=⟨_,rfl⟩
     have hmN:m≤N:=by rw [←hm,←HN.out];exact vR s k
     rcases (show k=0∨k=1∨k=2∨k=3 by omega) with rfl | rfl | rfl | rfl
     ·
      obtain ⟨n,hn⟩:∃n,Lib.countByte s 92=n:=⟨_,rfl⟩
      have Ka:td s 1=m+n:=by
       rw [←hm,←hn]
       simp [td,Lib.countByte]
      have hnN:m+n≤N:=by rw [←Ka,←HN.out];exact vR s _
      have k0:=a7 hb (Nat.le_refl _) HQ0.out
      obtain ⟨ad,cc,wR⟩:=Lt.out.off 92 rfl
      have hb0:∀h:0 < (str [92]).size,(str [92])[0]'h=92:=fun _=>rfl
      have hb1:(92:UInt8).toNat=92:=rfl
      rw [hb1] at wR
      have Hr:=Lib.hid Ka
      have HM:=Lib.hid hm
      have vy:=Lib.hid hn
      rw [hm]
      clear hb Ka hm hn
      go_wp2_with fail
      refine (Tryz.strings_Count_one (str s) 92 wr).mono ?_
      rintro r w2 ⟨rfl,hw2⟩
      obtain rfl:=hw2.symm
      rw [ng,vy.out]
      by_cases h0:n=0
      ·
       subst h0
       go_wp2_with fail
       go_roundw
       case rel=>exact ⟨1,by decide,by go_num,by rw [Hr.out];go_num,by rw [Hr.out];simp,HB.out⟩
       case measure=>simp
      ·
       have d1:((n:Int)==0)=false:=by simpa using h0
       have d2:decide ((n:Int)=0)=false:=decide_eq_false (by omega)
       have h1:0 < n:=by omega
       have h2:0 < (n:Int):=by omega
       clear h0
       have HO:=Lib.hid wR
       clear wR d1 d2
       go_upto_region 9 with fail
       refine Rg.dR 13 [] [Rg.Is (.int .i64 ((N:Int) - (m:Int))),Rg.Is (.int .i64 (n:Int)),Rg.Is (.pointer (some ⟨g,0,none⟩)),Rg.Is (.string (str [92])),Rg.Is (.int .u8 92),Rg.Is (.pointer (some ⟨g,0,none⟩)),Rg.Is (.pointer (some ⟨g,0,none⟩)),Rg.Is (.pointer (some ⟨g,92,none⟩)),Rg.Is (.slice (some ad) 0 cc),Rg.Is (.int .i64 0),Rg.Is (.int .i64 (-1)),Rg.Is (.int .i64 (-(n:Int))),Rg.Is (.int .i64 ((N:Int) - (m:Int)+-(n:Int)))] (by kernel_rfl) (by kernel_rfl) (of_decide_eq_true (by kernel_rfl)) (by kernel_rfl) (by kernel_rfl) ⟨Rg.aH _,Rg.aH _,Rg.aH _,Rg.aH _,Rg.aH _,Rg.aH _,Rg.aH _,Rg.aH _,Rg.aH _,Rg.aH _,Rg.aH _,Rg.aH _,Rg.aH _,trivial⟩ ⟨rfl,rfl,rfl,rfl,rfl,rfl,rfl,rfl,rfl,rfl,rfl,rfl,rfl,trivial⟩ ⟨?_,?_,?_,?_,?_,?_,?_,?_,?_,?_,?_,?_,?_,trivial⟩ ?_
       ·
        intro _ a wx hb hk
        have h5:a.eval (.tmp 5)=.int .i64 ((N:Int) - (m:Int)):=Eq.mp (by kernel_rfl) (hk 5 (by decide))
        exact Rg.az ⟨Below.refl _ _,h5⟩
       ·
        intro _ a wx hb hk
        have h9:a.eval (.tmp 9)=.int .i64 (n:Int):=Eq.mp (by kernel_rfl) (hk 9 (by decide))
        exact Rg.az ⟨Below.refl _ _,h9⟩
       ·
        intro _ a wx hb hk
        have h0:a.eval (.tmp 0)=.pointer (some ⟨g,0,none⟩):=Eq.mp (by kernel_rfl) (hk 0 (by decide))
        exact Rg.az ⟨Below.refl _ _,h0⟩
       ·
        intro _ a wx hb hk
        have h8:a.eval (.tmp 8)=.string (str [92]):=Eq.mp (by kernel_rfl) (hk 8 (by decide))
        exact Rg.az ⟨Below.refl _ _,h8⟩
       ·
        intro _ a wx hb hk
        have UH:a.eval (.tmp 44)=.string (str [92]):=Eq.mp (by kernel_rfl) (hk 44 (by decide))
        exact Sw.xW _ _ _ UH rfl (Sw.mg Tryz.underlying9 [92] .i64 0 (by decide)) ⟨Below.refl _ _,rfl⟩
       ·
        intro _ a wx hb hk
        have T9:a.eval (.tmp 43)=.pointer (some ⟨g,0,none⟩):=Eq.mp (by kernel_rfl) (hk 43 (by decide))
        exact Ap.fN _ T9 ⟨Below.refl _ _,rfl⟩
       ·
        intro _ a wx hb hk
        have Qb:a.eval (.tmp 46)=.pointer (some ⟨g,0,none⟩):=Eq.mp (by kernel_rfl) (hk 46 (by decide))
        exact Rs.aR _ _ Qb (Jk g wx) ⟨Below.refl _ _,rfl⟩
       ·
        intro _ a wx hb hk
        have Qm:a.eval (.tmp 47)=.pointer (some ⟨g,0,none⟩):=Eq.mp (by kernel_rfl) (hk 47 (by decide))
        have Wu:a.eval (.tmp 45)=.int .u8 92:=Eq.mp (by kernel_rfl) (hk 45 (by decide))
        exact Rg.dI _ _ _ Qm Wu (uu g 92 wx) ⟨Below.refl _ _,rfl⟩
       ·
        intro _ a wx hb hk
        have VS:a.eval (.tmp 48)=.pointer (some ⟨g,92,none⟩):=Eq.mp (by kernel_rfl) (hk 48 (by decide))
        exact Rg.aK _ _ VS (lG (a7 hb (Nat.le_refl _) HO.out)) ⟨Below.refl _ _,rfl⟩
       ·
        intro _ a wx hb hk
        have V2:a.eval (.tmp 49)=.slice (some ad) 0 cc:=Eq.mp (by kernel_rfl) (hk 49 (by decide))
        exact Rg.sU _ _ _ Tryz.underlying49 V2 ⟨Below.refl _ _,rfl⟩
       ·
        intro _ a wx hb hk
        have h50:a.eval (.tmp 50)=.int .i64 0:=Eq.mp (by kernel_rfl) (hk 50 (by decide))
        exact Rg.fF _ _ _ _ h50 rfl (Sw.pW (by decide) (by decide)) ⟨Below.refl _ _,rfl⟩
       ·
        intro _ a wx hb hk
        have Yw:a.eval (.tmp 42)=.int .i64 (n:Int):=Eq.mp (by kernel_rfl) (hk 42 (by decide))
        have Yz:a.eval (.tmp 51)=.int .i64 (-1):=Eq.mp (by kernel_rfl) (hk 51 (by decide))
        exact Rg.fF _ _ _ _ Yw Yz (qP (by omega) (by omega)) ⟨Below.refl _ _,rfl⟩
       ·
        intro _ a wx hb hk
        have zM:a.eval (.tmp 41)=.int .i64 ((N:Int) - (m:Int)):=Eq.mp (by kernel_rfl) (hk 41 (by decide))
        have Z6:a.eval (.tmp 52)=.int .i64 (-(n:Int)):=Eq.mp (by kernel_rfl) (hk 52 (by decide))
        exact Rg.fF _ _ _ _ zM Z6 (Sw.rR (by omega) (by omega)) ⟨Below.refl _ _,rfl⟩
       intro vals wD pL hL
       obtain ⟨g0,g1,g2,g3,g4,g5,g6,g7,g8,g9,g10,g11,g12,_⟩:=hL
       have zg:vals 12=.int .i64 ((N:Int) - (m:Int)+-(n:Int)):=g12
       simp only [Rg.bh,List.take_succ_cons,List.take_zero,List.drop_succ_cons,List.drop_zero,List.setIfInBounds_toArray,List.set_cons_succ,List.set_cons_zero,zg]
       have Wa:=Lib.hid (HB.out.trans (pL.mono HB.out.size))
       clear g0 g1 g2 g3 g4 g5 g6 g7 g8 g9 g10 g11 g12 zg pL
       go_wp2_with fail
       go_roundw
       case rel=>exact ⟨1,by decide,by go_num,by rw [Hr.out];go_num,by rw [Hr.out];simp;omega,Wa.out⟩
       case measure=>simp
     ·
      obtain ⟨n,hn⟩:∃n,Lib.countByte s 34=n:=⟨_,rfl⟩
      have Ka:td s 2=m+n:=by
       rw [←hm,←hn]
       simp [td,Lib.countByte]
      have hnN:m+n≤N:=by rw [←Ka,←HN.out];exact vR s _
      have k0:=a7 hb (Nat.le_refl _) Vc.out
      obtain ⟨ad,cc,wR⟩:=Lt.out.off 34 rfl
      have hb0:∀h:0 < (str [34]).size,(str [34])[0]'h=34:=fun _=>rfl
      have hb1:(34:UInt8).toNat=34:=rfl
      rw [hb1] at wR
      have Hr:=Lib.hid Ka
      have HM:=Lib.hid hm
      have vy:=Lib.hid hn
      rw [hm]
      clear hb Ka hm hn
      go_wp2_with fail
      refine (Tryz.strings_Count_one (str s) 34 wr).mono ?_
      rintro r w2 ⟨rfl,hw2⟩
      obtain rfl:=hw2.symm
      rw [ng,vy.out]
      by_cases h0:n=0
      ·
       subst h0
       go_wp2_with fail
       go_roundw
       case rel=>exact ⟨2,by decide,by go_num,by rw [Hr.out];go_num,by rw [Hr.out];simp,HB.out⟩
       case measure=>simp
      ·
       have d1:((n:Int)==0)=false:=by simpa using h0
       have d2:decide ((n:Int)=0)=false:=decide_eq_false (by omega)
       have h1:0 < n:=by omega
       have h2:0 < (n:Int):=by omega
       clear h0
       have HO:=Lib.hid wR
       clear wR d1 d2
       go_upto_region 9 with fail
       refine Rg.dR 13 [] [Rg.Is (.int .i64 ((N:Int) - (m:Int))),Rg.Is (.int .i64 (n:Int)),Rg.Is (.pointer (some ⟨g,0,none⟩)),Rg.Is (.string (str [34])),Rg.Is (.int .u8 34),Rg.Is (.pointer (some ⟨g,0,none⟩)),Rg.Is (.pointer (some ⟨g,0,none⟩)),Rg.Is (.pointer (some ⟨g,34,none⟩)),Rg.Is (.slice (some ad) 0 cc),Rg.Is (.int .i64 0),Rg.Is (.int .i64 (-1)),Rg.Is (.int .i64 (-(n:Int))),Rg.Is (.int .i64 ((N:Int) - (m:Int)+-(n:Int)))] (by kernel_rfl) (by kernel_rfl) (of_decide_eq_true (by kernel_rfl)) (by kernel_rfl) (by kernel_rfl) ⟨Rg.aH _,Rg.aH _,Rg.aH _,Rg.aH _,Rg.aH _,Rg.aH _,Rg.aH _,Rg.aH _,Rg.aH _,Rg.aH _,Rg.aH _,Rg.aH _,Rg.aH _,trivial⟩ ⟨rfl,rfl,rfl,rfl,rfl,rfl,rfl,rfl,rfl,rfl,rfl,rfl,rfl,trivial⟩ ⟨?_,?_,?_,?_,?_,?_,?_,?_,?_,?_,?_,?_,?_,trivial⟩ ?_
       ·
        intro _ a wx hb hk
        have h5:a.eval (.tmp 5)=.int .i64 ((N:Int) - (m:Int)):=Eq.mp (by kernel_rfl) (hk 5 (by decide))
        exact Rg.az ⟨Below.refl _ _,h5⟩
       ·
        intro _ a wx hb hk
        have h9:a.eval (.tmp 9)=.int .i64 (n:Int):=Eq.mp (by kernel_rfl) (hk 9 (by decide))
        exact Rg.az ⟨Below.refl _ _,h9⟩
       ·
        intro _ a wx hb hk
        have h0:a.eval (.tmp 0)=.pointer (some ⟨g,0,none⟩):=Eq.mp (by kernel_rfl) (hk 0 (by decide))
        exact Rg.az ⟨Below.refl _ _,h0⟩
       ·
        intro _ a wx hb hk
        have h8:a.eval (.tmp 8)=.string (str [34]):=Eq.mp (by kernel_rfl) (hk 8 (by decide))
        exact Rg.az ⟨Below.refl _ _,h8⟩
       ·
        intro _ a wx hb hk
        have UH:a.eval (.tmp 44)=.string (str [34]):=Eq.mp (by kernel_rfl) (hk 44 (by decide))
        exact Sw.xW _ _ _ UH rfl (Sw.mg Tryz.underlying9 [34] .i64 0 (by decide)) ⟨Below.refl _ _,rfl⟩
       ·
        intro _ a wx hb hk
        have T9:a.eval (.tmp 43)=.pointer (some ⟨g,0,none⟩):=Eq.mp (by kernel_rfl) (hk 43 (by decide))
        exact Ap.fN _ T9 ⟨Below.refl _ _,rfl⟩
       ·
        intro _ a wx hb hk
        have Qb:a.eval (.tmp 46)=.pointer (some ⟨g,0,none⟩):=Eq.mp (by kernel_rfl) (hk 46 (by decide))
        exact Rs.aR _ _ Qb (Jk g wx) ⟨Below.refl _ _,rfl⟩
       ·
        intro _ a wx hb hk
        have Qm:a.eval (.tmp 47)=.pointer (some ⟨g,0,none⟩):=Eq.mp (by kernel_rfl) (hk 47 (by decide))
        have Wu:a.eval (.tmp 45)=.int .u8 34:=Eq.mp (by kernel_rfl) (hk 45 (by decide))
        exact Rg.dI _ _ _ Qm Wu (uu g 34 wx) ⟨Below.refl _ _,rfl⟩
       ·
        intro _ a wx hb hk
        have VS:a.eval (.tmp 48)=.pointer (some ⟨g,34,none⟩):=Eq.mp (by kernel_rfl) (hk 48 (by decide))
        exact Rg.aK _ _ VS (lG (a7 hb (Nat.le_refl _) HO.out)) ⟨Below.refl _ _,rfl⟩
       ·
        intro _ a wx hb hk
        have V2:a.eval (.tmp 49)=.slice (some ad) 0 cc:=Eq.mp (by kernel_rfl) (hk 49 (by decide))
        exact Rg.sU _ _ _ Tryz.underlying49 V2 ⟨Below.refl _ _,rfl⟩
       ·
        intro _ a wx hb hk
        have h50:a.eval (.tmp 50)=.int .i64 0:=Eq.mp (by kernel_rfl) (hk 50 (by decide))
        exact Rg.fF _ _ _ _ h50 rfl (Sw.pW (by decide) (by decide)) ⟨Below.refl _ _,rfl⟩
       ·
        intro _ a wx hb hk
        have Yw:a.eval (.tmp 42)=.int .i64 (n:Int):=Eq.mp (by kernel_rfl) (hk 42 (by decide))
        have Yz:a.eval (.tmp 51)=.int .i64 (-1):=Eq.mp (by kernel_rfl) (hk 51 (by decide))
        exact Rg.fF _ _ _ _ Yw Yz (qP (by omega) (by omega)) ⟨Below.refl _ _,rfl⟩
       ·
        intro _ a wx hb hk
        have zM:a.eval (.tmp 41)=.int .i64 ((N:Int) - (m:Int)):=Eq.mp (by kernel_rfl) (hk 41 (by decide))
        have Z6:a.eval (.tmp 52)=.int .i64 (-(n:Int)):=Eq.mp (by kernel_rfl) (hk 52 (by decide))
        exact Rg.fF _ _ _ _ zM Z6 (Sw.rR (by omega) (by omega)) ⟨Below.refl _ _,rfl⟩
       intro vals wD pL hL
       obtain ⟨g0,g1,g2,g3,g4,g5,g6,g7,g8,g9,g10,g11,g12,_⟩:=hL
       have zg:vals 12=.int .i64 ((N:Int) - (m:Int)+-(n:Int)):=g12
       simp only [Rg.bh,List.take_succ_cons,List.take_zero,List.drop_succ_cons,List.drop_zero,List.setIfInBounds_toArray,List.set_cons_succ,List.set_cons_zero,zg]
       have Wa:=Lib.hid (HB.out.trans (pL.mono HB.out.size))
       clear g0 g1 g2 g3 g4 g5 g6 g7 g8 g9 g10 g11 g12 zg pL
       go_wp2_with fail
       go_roundw
       case rel=>exact ⟨2,by decide,by go_num,by rw [Hr.out];go_num,by rw [Hr.out];simp;omega,Wa.out⟩
       case measure=>simp
     ·
      obtain ⟨n,hn⟩:∃n,Lib.countByte s 39=n:=⟨_,rfl⟩
      have Ka:td s 3=m+n:=by
       rw [←hm,←hn]
       simp [td,Lib.countByte]
      have hnN:m+n≤N:=by rw [←Ka,←HN.out];exact vR s _
      have k0:=a7 hb (Nat.le_refl _) JQ.out
      obtain ⟨ad,cc,wR⟩:=Lt.out.off 39 rfl
      have hb0:∀h:0 < (str [39]).size,(str [39])[0]'h=39:=fun _=>rfl
      have hb1:(39:UInt8).toNat=39:=rfl
      rw [hb1] at wR
      have Hr:=Lib.hid Ka
      have HM:=Lib.hid hm
      have vy:=Lib.hid hn
      rw [hm]
      clear hb Ka hm hn
      go_wp2_with fail
      refine (Tryz.strings_Count_one (str s) 39 wr).mono ?_
      rintro r w2 ⟨rfl,hw2⟩
      obtain rfl:=hw2.symm
      rw [ng,vy.out]
      by_cases h0:n=0
      ·
       subst h0
       go_wp2_with fail
       go_roundw
       case rel=>exact ⟨3,by decide,by go_num,by rw [Hr.out];go_num,by rw [Hr.out];simp,HB.out⟩
       case measure=>simp
      ·
       have d1:((n:Int)==0)=false:=by simpa using h0
       have d2:decide ((n:Int)=0)=false:=decide_eq_false (by omega)
       have h1:0 < n:=by omega
       have h2:0 < (n:Int):=by omega
       clear h0
       have HO:=Lib.hid wR
       clear wR d1 d2
       go_upto_region 9 with fail
       refine Rg.dR 13 [] [Rg.Is (.int .i64 ((N:Int) - (m:Int))),Rg.Is (.int .i64 (n:Int)),Rg.Is (.pointer (some ⟨g,0,none⟩)),Rg.Is (.string (str [39])),Rg.Is (.int .u8 39),Rg.Is (.pointer (some ⟨g,0,none⟩)),Rg.Is (.pointer (some ⟨g,0,none⟩)),Rg.Is (.pointer (some ⟨g,39,none⟩)),Rg.Is (.slice (some ad) 0 cc),Rg.Is (.int .i64 0),Rg.Is (.int .i64 (-1)),Rg.Is (.int .i64 (-(n:Int))),Rg.Is (.int .i64 ((N:Int) - (m:Int)+-(n:Int)))] (by kernel_rfl) (by kernel_rfl) (of_decide_eq_true (by kernel_rfl)) (by kernel_rfl) (by kernel_rfl) ⟨Rg.aH _,Rg.aH _,Rg.aH _,Rg.aH _,Rg.aH _,Rg.aH _,Rg.aH _,Rg.aH _,Rg.aH _,Rg.aH _,Rg.aH _,Rg.aH _,Rg.aH _,trivial⟩ ⟨rfl,rfl,rfl,rfl,rfl,rfl,rfl,rfl,rfl,rfl,rfl,rfl,rfl,trivial⟩ ⟨?_,?_,?_,?_,?_,?_,?_,?_,?_,?_,?_,?_,?_,trivial⟩ ?_
       ·
        intro _ a wx hb hk
        have h5:a.eval (.tmp 5)=.int .i64 ((N:Int) - (m:Int)):=Eq.mp (by kernel_rfl) (hk 5 (by decide))
        exact Rg.az ⟨Below.refl _ _,h5⟩
       ·
        intro _ a wx hb hk
        have h9:a.eval (.tmp 9)=.int .i64 (n:Int):=Eq.mp (by kernel_rfl) (hk 9 (by decide))
        exact Rg.az ⟨Below.refl _ _,h9⟩
       ·
        intro _ a wx hb hk
        have h0:a.eval (.tmp 0)=.pointer (some ⟨g,0,none⟩):=Eq.mp (by kernel_rfl) (hk 0 (by decide))
        exact Rg.az ⟨Below.refl _ _,h0⟩
       ·
        intro _ a wx hb hk
        have h8:a.eval (.tmp 8)=.string (str [39]):=Eq.mp (by kernel_rfl) (hk 8 (by decide))
        exact Rg.az ⟨Below.refl _ _,h8⟩
       ·
        intro _ a wx hb hk
        have UH:a.eval (.tmp 44)=.string (str [39]):=Eq.mp (by kernel_rfl) (hk 44 (by decide))
        exact Sw.xW _ _ _ UH rfl (Sw.mg Tryz.underlying9 [39] .i64 0 (by decide)) ⟨Below.refl _ _,rfl⟩
       ·
        intro _ a wx hb hk
        have T9:a.eval (.tmp 43)=.pointer (some ⟨g,0,none⟩):=Eq.mp (by kernel_rfl) (hk 43 (by decide))
        exact Ap.fN _ T9 ⟨Below.refl _ _,rfl⟩
       ·
        intro _ a wx hb hk
        have Qb:a.eval (.tmp 46)=.pointer (some ⟨g,0,none⟩):=Eq.mp (by kernel_rfl) (hk 46 (by decide))
        exact Rs.aR _ _ Qb (Jk g wx) ⟨Below.refl _ _,rfl⟩
       ·
        intro _ a wx hb hk
        have Qm:a.eval (.tmp 47)=.pointer (some ⟨g,0,none⟩):=Eq.mp (by kernel_rfl) (hk 47 (by decide))
        have Wu:a.eval (.tmp 45)=.int .u8 39:=Eq.mp (by kernel_rfl) (hk 45 (by decide))
        exact Rg.dI _ _ _ Qm Wu (uu g 39 wx) ⟨Below.refl _ _,rfl⟩
       ·
        intro _ a wx hb hk
        have VS:a.eval (.tmp 48)=.pointer (some ⟨g,39,none⟩):=Eq.mp (by kernel_rfl) (hk 48 (by decide))
        exact Rg.aK _ _ VS (lG (a7 hb (Nat.le_refl _) HO.out)) ⟨Below.refl _ _,rfl⟩
       ·
        intro _ a wx hb hk
        have V2:a.eval (.tmp 49)=.slice (some ad) 0 cc:=Eq.mp (by kernel_rfl) (hk 49 (by decide))
        exact Rg.sU _ _ _ Tryz.underlying49 V2 ⟨Below.refl _ _,rfl⟩
       ·
        intro _ a wx hb hk
        have h50:a.eval (.tmp 50)=.int .i64 0:=Eq.mp (by kernel_rfl) (hk 50 (by decide))
        exact Rg.fF _ _ _ _ h50 rfl (Sw.pW (by decide) (by decide)) ⟨Below.refl _ _,rfl⟩
       ·
        intro _ a wx hb hk
        have Yw:a.eval (.tmp 42)=.int .i64 (n:Int):=Eq.mp (by kernel_rfl) (hk 42 (by decide))
        have Yz:a.eval (.tmp 51)=.int .i64 (-1):=Eq.mp (by kernel_rfl) (hk 51 (by decide))
        exact Rg.fF _ _ _ _ Yw Yz (qP (by omega) (by omega)) ⟨Below.refl _ _,rfl⟩
       ·
        intro _ a wx hb hk
        have zM:a.eval (.tmp 41)=.int .i64 ((N:Int) - (m:Int)):=Eq.mp (by kernel_rfl) (hk 41 (by decide))
        have Z6:a.eval (.tmp 52)=.int .i64 (-(n:Int)):=Eq.mp (by kernel_rfl) (hk 52 (by decide))
        exact Rg.fF _ _ _ _ zM Z6 (Sw.rR (by omega) (by omega)) ⟨Below.refl _ _,rfl⟩
       intro vals wD pL hL
       obtain ⟨g0,g1,g2,g3,g4,g5,g6,g7,g8,g9,g10,g11,g12,_⟩:=hL
       have zg:vals 12=.int .i64 ((N:Int) - (m:Int)+-(n:Int)):=g12
       simp only [Rg.bh,List.take_succ_cons,List.take_zero,List.drop_succ_cons,List.drop_zero,List.setIfInBounds_toArray,List.set_cons_succ,List.set_cons_zero,zg]
       have Wa:=Lib.hid (HB.out.trans (pL.mono HB.out.size))
       clear g0 g1 g2 g3 g4 g5 g6 g7 g8 g9 g10 g11 g12 zg pL
       go_wp2_with fail
       go_roundw
       case rel=>exact ⟨3,by decide,by go_num,by rw [Hr.out];go_num,by rw [Hr.out];simp;omega,Wa.out⟩
       case measure=>simp
     ·
      have h3:m+(bare s).length=N:=by rw [←hm,←HN.out];exact WQ s
      have HH3:=Lib.hid h3
      rw [hm]
      clear hb hm h3
      go_wp2_with fail
      go_meet
      refine ⟨by have:=HH3.out;go_num,?_,HB.out⟩
      have:=HH3.out
      congr 1
      simp
      omega
  | false=>
    clear hhb
    go_wp2_with fail
    go_loopw [5,6,10] (fun v5 v6 v10 wr=>∃k:Nat,k≤N∧v10=.int .i64 (k:Int)∧v5=.int .i64 ((N:Int) - (k:Int)+((bare (s.take k)).length:Int))∧v6=.bool (decide ((bare (s.take k)).length≠k))∧Below W.heap.size W wr) (fun _ _ v10 _=>(match v10 with | .int _ n=>N - n.toNat | _=>0))
    case atStart=>exact ⟨0,by omega,rfl,by simp [bare],rfl,Below.refl _ _⟩
    case round=>
     obtain ⟨k,hk,rfl,rfl,rfl,hb⟩:=hrel
     have Lt:=Lib.hid (HR.out.below hb HR.out.size)
     have HB:=Lib.hid hb
     clear hb l1 l2
     by_cases YN:k < N
     ·
      have eo:k < s.length:=by rw [HN.out];exact YN
      have HT:=Lib.hid (Av s k eo)
      have hbl:(bare (s.take k)).length≤k:=by have:=BS (s.take k);rw [List.length_take] at this;omega
      obtain ⟨m,hm⟩:∃m,(bare (s.take k)).length=m:=⟨_,rfl⟩
      obtain ⟨c,hc⟩:∃c,s[k]=c:=⟨_,rfl⟩
      have HM:=Lib.hid hm
      have HC:=Lib.hid hc
      have mB:=fun w=>Sw.mg (P:=Tryz.prog) (w:=w) Tryz.underlying9 s .i64 k eo
      rw [hc] at mB
      have hc2:=c.toNat_lt
      have ZbS:=fun w=>uu g c w
      rw [hm] at hbl ⊢
      have a3:decide (k < N)=true:=decide_eq_true (by omega)
      have a1:decide ((k:Int) < (N:Int))=true:=decide_eq_true (by omega)
      have a2:(k:Int) < (N:Int):=by omega
      have ZbW:∀(w:World) (a:Option Addr) (l c:Nat),(binOp .neq 49 (.slice a l c) (.slice none 0 0)).run Tryz.prog w=.ok (.bool (!a.isNone)) w:=fun w a l c=>run_neq_slice_nil w _ _ a l c Tryz.underlying49
      have Xx:Hid ((bare (s.take (k+1))).length=if kp c then m+1 else m):=by
       show _=_
       rw [HT.out,HC.out]
       split
       · rw [List.length_append,HM.out];rfl
       · exact HM.out
      clear hm hc HT HC eo
      by_cases hk:kp c=true
      ·
       have hcell:=Lt.out.keep c hk
       have tC:Hid ((bare (s.take (k+1))).length=m+1):=by show _=_;rw [Xx.out,if_pos hk]
       clear hk
       go_wp2_with fail
       go_roundw
       case rel=>exact ⟨k+1,by omega,by go_num,by rw [tC.out];go_num,by rw [tC.out];simp,HB.out⟩
       case measure=>simp;omega
      ·
       have hk:kp c=false:=by simpa using hk
       obtain ⟨ad,cc,hcell⟩:=Lt.out.off c hk
       have tC:Hid ((bare (s.take (k+1))).length=m):=by show _=_;rw [Xx.out,if_neg (by simp [hk])]
       clear hk
       go_wp2_with fail
       go_roundw
       case rel=>exact ⟨k+1,by omega,by go_num,by rw [tC.out];go_num,by rw [tC.out];simp;omega,HB.out⟩
       case measure=>simp;omega
     ·
      obtain rfl:k=N:=by omega
      have uU:s.take k=s:=by rw [←HN.out,List.take_length]
      rw [uU]
      have HL:=Lib.hid (BS s)
      have a3:decide (k < k)=false:=decide_eq_false (by omega)
      have a1:decide ((k:Int) < (k:Int))=false:=decide_eq_false (by omega)
      have a2:¬((k:Int) < (k:Int)):=by omega
      clear YN uU
      go_wp2_with fail
      go_meet
      exact ⟨by have:=HL.out;have:=HN.out;go_num,by simp,HB.out⟩
 case rest=>
  obtain ⟨rfl,rfl,hb⟩:=hcut
  have QG:=Lib.hid hb
  clear hb l1 l2 hhb e1
  have hle:(bare s).length≤N:=by rw [←HN.out];exact BS s
  by_cases sN:(bare s).length=N
  ·
   have HBS:Hid (bare s=s):=KW (by rw [HN.out];exact sN)
   have a1:decide ((bare s).length=N)=true:=decide_eq_true (by omega)
   have a2:(bare s).length=N:=by omega
   have b1:(!decide ((bare s).length=N))=false:=by rw [sN];simp
   clear sN
   go_wp2_with fail
   go_ret
   exact ⟨by rw [HBS.out];rfl,QG.out⟩
  ·
   have a1:decide ((bare s).length=N)=false:=decide_eq_false (by omega)
   have a2:¬((bare s).length=N):=by omega
   have HT:=Lib.hid (fun k=>A7 s k)
   obtain ⟨n,hn⟩:∃n,(bare s).length=n:=⟨_,rfl⟩
   rw [hn] at hle a1 a2 ⊢
   have vy:=Lib.hid hn
   clear sN hn
   have e1:(str s).size=N:=HN.out
   have hWs:W.heap.size≤wc.heap.size:=QG.out.size
   go_wp2_with (at_make;refine wpList_make_full _ rfl _ _ 49 rfl W.heap.size 5 i0 (.int .u8 0) 1 Tryz.underlying49 iy hz0 hz1 _ _ _ _ n rfl rfl rfl rfl ?_ ?_ ?_ ?_)
   case _=>rw [hz2];omega
   case _=>unfold maxLen;omega
   case _=>exact hWs
   intro w2 hown2 hg2
   rw [toList_madeCells_one] at hown2
   have HO2:Hid (w2.ownsRow W.heap.size 5 1 (.slice (some ⟨wc.heap.size,0,none⟩) n n) n ((bare (s.take 0)++List.replicate (n - (bare (s.take 0)).length) (0:UInt8)).map bv)):=by
    show World.ownsRow _ _ _ _ _ _ _
    simp only [List.take_zero,bare,List.filter_nil,List.length_nil,Nat.sub_zero,List.nil_append,List.map_replicate]
    exact hown2
   have dp:=Lib.hid (QG.out.grown hg2 hWs (fun j hj=>by cases hj))
   have hq:W.heap.size≤wc.heap.size:=hWs
   generalize wc.heap.size=q at *
   clear hown2 hg2 hWs
   go_wp2_with fail
   go_loopw [13,14] (fun v13 v14 wr=>∃k:Nat,k≤N∧v14=.int .i64 (k:Int)∧v13=.int .i64 ((bare (s.take k)).length:Int)∧wr.ownsRow W.heap.size 5 1 (.slice (some ⟨q,0,none⟩) n n) n ((bare (s.take k)++List.replicate (n - (bare (s.take k)).length) (0:UInt8)).map bv)∧Below W.heap.size W wr) (fun _ v14 _=>(match v14 with | .int _ z=>N - z.toNat | _=>0))
   case atStart=>exact ⟨0,by omega,rfl,by simp [bare],HO2.out,dp.out⟩
   case round=>
    clear HO2 dp QG
    obtain ⟨k,hk,rfl,rfl,hown,hb⟩:=hrel
    have Lt:=Lib.hid (HR.out.below hb HR.out.size)
    have HB:=Lib.hid hb
    have PJ:=Lib.hid hown
    clear hb hown
    by_cases YN:k < N
    ·
     have eo:k < s.length:=by rw [HN.out];exact YN
     have HTk:=Lib.hid (Av s k eo)
     have tW:=HT.out (k+1)
     obtain ⟨c,hc⟩:∃c,s[k]=c:=⟨_,rfl⟩
     have HC:=Lib.hid hc
     have mB:=fun w=>Sw.mg (P:=Tryz.prog) (w:=w) Tryz.underlying9 s .i64 k eo
     rw [hc] at mB
     have hc2:=c.toNat_lt
     have ZbS:=fun w=>uu g c w
     have a3:decide (k < N)=true:=decide_eq_true (by omega)
     have a1:decide ((k:Int) < (N:Int))=true:=decide_eq_true (by omega)
     have a2:(k:Int) < (N:Int):=by omega
     have ZbW:∀(w:World) (a:Option Addr) (l c:Nat),(binOp .neq 49 (.slice a l c) (.slice none 0 0)).run Tryz.prog w=.ok (.bool (!a.isNone)) w:=fun w a l c=>run_neq_slice_nil w _ _ a l c Tryz.underlying49
     have Xx:Hid (bare (s.take (k+1))=if kp c then bare (s.take k)++[c] else bare (s.take k)):=by
      show _=_
      rw [HTk.out,HC.out]
     rw [vy.out] at tW
     clear hc HTk HC eo
     obtain ⟨p,hp⟩:∃p,bare (s.take k)=p:=⟨_,rfl⟩
     rw [hp] at Xx PJ ⊢
     clear hp
     by_cases hk:kp c=true
     ·
      have hcell:=Lt.out.keep c hk
      have tC:Hid (bare (s.take (k+1))=p++[c]):=by show _=_;rw [Xx.out,if_pos hk]
      have hpl:p.length < n:=by rw [tC.out] at tW;simp at tW;omega
      obtain ⟨h1,h2,h3,h4⟩:=QC PJ.out p.length hpl (bv c)
      rw [O6 p n c hpl] at h1
      have Cz:=Lib.hid h1
      have X3:=Lib.hid h4
      obtain ⟨u0,hu0⟩:=Option.isSome_iff_exists.1 h2
      have Zcz:=fun w=>WH q n p.length w hpl
      have ZcD:(p.length:Int)+1≤(n:Int):=by omega
      clear hk h1 h2 h4 tW
      unfold bv at Cz X3
      go_wp2_with fail
      go_roundw
      case rel=>exact ⟨k+1,by omega,by go_num,by rw [tC.out,List.length_append,List.length_singleton];go_num,by rw [tC.out];exact Cz.out,HB.out.grown X3.out HB.out.size (fun j hj=>by obtain rfl:=Option.some.inj hj;exact hq)⟩
      case measure=>simp;omega
     ·
      have hk:kp c=false:=by simpa using hk
      obtain ⟨ad,cc,hcell⟩:=Lt.out.off c hk
      have tC:Hid (bare (s.take (k+1))=p):=by show _=_;rw [Xx.out,if_neg (by simp [hk])]
      have hpl:p.length≤n:=by rw [tC.out] at tW;exact tW
      have Z9:=Lib.hid hcell
      clear hk tW
      go_upto_region 28 with fail
      clear hcell
      obtain ⟨_,_,hvd,hrow⟩:=qG PJ.out
      cases hvd
      obtain ⟨a5,_,qZ⟩:=KH hrow p.length n hpl (Nat.le_refl _)
      have HSub:Hid (∀w',(Instr.slice 49 (.slice (some ⟨q,0,none⟩) n n) (some (.int .i64 (p.length:Int))) none none).run Tryz.prog w'=.ok (.slice a5 (n - p.length) (n - p.length)) w'):=fun w'=>(qZ w').2.2 rfl .i64
      have hNb:p.length≤100000:=by omega
      clear qZ hrow
      refine Rg.dR 12 [] [Rg.Is (.int .i64 (p.length:Int)),Rg.Is (.slice (some ⟨q,0,none⟩) n n),Rg.Is (.int .i64 (p.length:Int)),Rg.Is (.slice a5 (n - p.length) (n - p.length)),Rg.Is (.pointer (some ⟨g,0,none⟩)),Rg.Is (.int .u8 (c.toNat:Int)),Rg.Is (.pointer (some ⟨g,0,none⟩)),Rg.Is (.pointer (some ⟨g,0,none⟩)),Rg.Is (.pointer (some ⟨g,c.toNat,none⟩)),Rg.Is (.slice (some ad) 0 cc),Rg.Is (.int .i64 0),Rg.Is (.int .i64 (p.length:Int))] (by kernel_rfl) (by kernel_rfl) (of_decide_eq_true (by kernel_rfl)) (by kernel_rfl) (by kernel_rfl) ⟨Rg.aH _,Rg.aH _,Rg.aH _,Rg.aH _,Rg.aH _,Rg.aH _,Rg.aH _,Rg.aH _,Rg.aH _,Rg.aH _,Rg.aH _,Rg.aH _,trivial⟩ ⟨rfl,rfl,rfl,rfl,rfl,rfl,rfl,rfl,rfl,rfl,rfl,rfl,trivial⟩ ⟨?_,?_,?_,?_,?_,?_,?_,?_,?_,?_,?_,?_,trivial⟩ ?_
      ·
       intro _ a wx hb hk
       have E0:a.eval (.tmp 13)=.int .i64 (p.length:Int):=Eq.mp (by kernel_rfl) (hk 13 (by decide))
       exact Rg.az ⟨Below.refl _ _,E0⟩
      ·
       intro _ a wx hb hk
       have zL:a.eval (.tmp 12)=.slice (some ⟨q,0,none⟩) n n:=Eq.mp (by kernel_rfl) (hk 12 (by decide))
       exact Rg.az ⟨Below.refl _ _,zL⟩
      ·
       intro _ a wx hb hk
       have E0:a.eval (.tmp 13)=.int .i64 (p.length:Int):=Eq.mp (by kernel_rfl) (hk 13 (by decide))
       exact Rg.az ⟨Below.refl _ _,E0⟩
      ·
       intro _ a wx hb hk
       have ZbQ:a.eval (.tmp 103)=.slice (some ⟨q,0,none⟩) n n:=Eq.mp (by kernel_rfl) (hk 103 (by decide))
       have ZaS:a.eval (.tmp 104)=.int .i64 (p.length:Int):=Eq.mp (by kernel_rfl) (hk 104 (by decide))
       exact Rg.MS _ Tryz.underlying49 (by simp only [Option.map_some,Option.map_none,ZbQ,ZaS];exact HSub.out wx) ⟨Below.refl _ _,rfl⟩
      ·
       intro _ a wx hb hk
       have h0:a.eval (.tmp 0)=.pointer (some ⟨g,0,none⟩):=Eq.mp (by kernel_rfl) (hk 0 (by decide))
       exact Rg.az ⟨Below.refl _ _,h0⟩
      ·
       intro _ a wx hb hk
       have Dr:a.eval (.tmp 15)=.int .u8 (c.toNat:Int):=Eq.mp (by kernel_rfl) (hk 15 (by decide))
       exact Rg.az ⟨Below.refl _ _,Dr⟩
      ·
       intro _ a wx hb hk
       have Zbw:a.eval (.tmp 106)=.pointer (some ⟨g,0,none⟩):=Eq.mp (by kernel_rfl) (hk 106 (by decide))
       exact Ap.fN _ Zbw ⟨Below.refl _ _,rfl⟩
      ·
       intro _ a wx hb hk
       have ZaY:a.eval (.tmp 108)=.pointer (some ⟨g,0,none⟩):=Eq.mp (by kernel_rfl) (hk 108 (by decide))
       exact Rs.aR _ _ ZaY (Jk g wx) ⟨Below.refl _ _,rfl⟩
      ·
       intro _ a wx hb hk
       have ZaL:a.eval (.tmp 109)=.pointer (some ⟨g,0,none⟩):=Eq.mp (by kernel_rfl) (hk 109 (by decide))
       have Zbh:a.eval (.tmp 107)=.int .u8 (c.toNat:Int):=Eq.mp (by kernel_rfl) (hk 107 (by decide))
       exact Rg.dI _ _ _ ZaL Zbh (uu g c wx) ⟨Below.refl _ _,rfl⟩
      ·
       intro _ a wx hb hk
       have ZbM:a.eval (.tmp 110)=.pointer (some ⟨g,c.toNat,none⟩):=Eq.mp (by kernel_rfl) (hk 110 (by decide))
       exact Rg.aK _ _ ZbM (lG (a7 hb (Nat.le_refl _) Z9.out)) ⟨Below.refl _ _,rfl⟩
      ·
       intro _ a wx hb hk
       have ZbF:a.eval (.tmp 105)=.slice a5 (n - p.length) (n - p.length):=Eq.mp (by kernel_rfl) (hk 105 (by decide))
       have Zbc:a.eval (.tmp 111)=.slice (some ad) 0 cc:=Eq.mp (by kernel_rfl) (hk 111 (by decide))
       exact KO _ _ _ _ ZbF Zbc (Zz wx _ _ _ _ _ _) ⟨Below.refl _ _,rfl⟩
      ·
       intro _ a wx hb hk
       have Zbz:a.eval (.tmp 102)=.int .i64 (p.length:Int):=Eq.mp (by kernel_rfl) (hk 102 (by decide))
       have Zcb:a.eval (.tmp 112)=.int .i64 0:=Eq.mp (by kernel_rfl) (hk 112 (by decide))
       exact Rg.fF _ _ _ _ Zbz Zcb (Sw.rR (by omega) (by omega)) ⟨Below.refl _ _,by rw [Int.add_zero];rfl⟩
      intro vals wD pL hL
      obtain ⟨g0,g1,g2,g3,g4,g5,g6,g7,g8,g9,g10,g11,_⟩:=hL
      have e11:vals 11=.int .i64 (p.length:Int):=g11
      simp only [Rg.bh,List.take_succ_cons,List.take_zero,List.drop_succ_cons,List.drop_zero,List.setIfInBounds_toArray,List.set_cons_succ,List.set_cons_zero,e11]
      have Wa:=Lib.hid (HB.out.trans (pL.mono HB.out.size))
      have HOD:=Lib.hid (bz PJ.out pL)
      clear g0 g1 g2 g3 g4 g5 g6 g7 g8 g9 g10 g11 e11 pL
      go_wp2_with fail
      go_roundw
      case rel=>exact ⟨k+1,by omega,by go_num,by rw [tC.out],by rw [tC.out];exact HOD.out,Wa.out⟩
      case measure=>simp;omega
    ·
     obtain rfl:k=N:=by omega
     have uU:s.take k=s:=by rw [←HN.out,List.take_length]
     rw [uU,vy.out,Nat.sub_self,List.replicate_zero,List.append_nil] at PJ
     have a3:decide (k < k)=false:=decide_eq_false (by omega)
     have a1:decide ((k:Int) < (k:Int))=false:=decide_eq_false (by omega)
     have a2:¬((k:Int) < (k:Int)):=by omega
     obtain ⟨_,_,hvd,hrow⟩:=qG PJ.out
     cases hvd
     have hcv:=qb hrow
     clear YN uU hrow
     go_wp2_with fail
     go_ret
     exact ⟨rfl,HB.out⟩
end Go.Proofs.YtiklkhbfilbpeaaGreatDoor
