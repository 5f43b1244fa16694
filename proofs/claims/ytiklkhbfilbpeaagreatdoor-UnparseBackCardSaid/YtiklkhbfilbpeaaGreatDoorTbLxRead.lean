import Derived.Test.YtiklkhbfilbpeaaGreatDoorTbLxStrs
import Derived.Test.YtiklkhbfilbpeaaGreatDoorShelf
import Derived.WalkLawsBesides
import Derived.Deep.Cut
import Derived.Deep.QuietTactic
import Derived.BigQuiet
set_option maxRecDepth 100000
set_option maxHeartbeats 16000000
set_option linter.unusedVariables false
set_option linter.unusedSimpArgs false
namespace Go.Proofs.YtiklkhbfilbpeaaGreatDoor
open Go.RowKit Base Lx
theorem rf (b o k:Nat) (hk:k < 5) (w:World):(Instr.fieldAt nc (.pointer (some ⟨b,o,none⟩)) k).run Tryz.prog w=.ok (.pointer (some ⟨b,o+k,none⟩)) w:=by
 match k,hk with
 | 0,_=>rfl
 | 1,_=>rfl
 | 2,_=>rfl
 | 3,_=>rfl
 | 4,_=>rfl
theorem mE {w:World} {ad:Addr} {v:Value} (h:w.cell? ad=some v):(Instr.loadAt 3 (.pointer (some ad))).run Tryz.prog w=.ok v w:=Ap.aW (by simp [isAgg]) h
theorem AV {w:World} {ad:Addr} {v:Value} (h:w.cell? ad=some v):(Instr.loadAt 9 (.pointer (some ad))).run Tryz.prog w=.ok v w:=Ap.aW (by simp [isAgg]) h
theorem NN {P:Program} {a:Act} {w:World} {post:Value→World→Prop} {dst:Option Tmp} {x y:Operand} {ts:Array TypeId} {ty:TypeId} {pos:String} {after:Array Edge} {guard:Option (Nat × Bool)} (k:IntKind) (m n:Int)
 (hx:a.eval x=.int k m) (hy:a.eval y=.int k n) (hp:post (.int k (if n < m then n else m)) w):Rg.does P { dst,op:=.call { callee:=.builtin .min,args:=#[x,y],argTypes:=ts },type:=ty,pos,after,guard } a w post:=by
 refine Rg.bA (v:=.int k (if n < m then n else m)) ?_ hp
 have:=run_min_int2 (P:=P) (w:=w) ts ty k k m n
 simp [execOp,resolve,invoke,builtin,hx,hy,this,Result.andThen]
theorem ng (l:Nm):(str l).data.toList=l:=by rw [mZ]
theorem bq (W:World) (b:Nat) (s:Nm) (K g:Nat) (vl vh:Value) (h:Rd W b s K g vl vh) (e:Int):Calls Tryz.prog 21 #[.pointer (some ⟨b,0,none⟩),.int .i64 e] W fun r W'=>r=nC e g∧W'=W:=by
 obtain ⟨⟨c0,c1,c2,c3,c4⟩,f0,f1,f2,f3,f4⟩:=bg h.box
 clear h
 go_enter Tryz.func21,Tryz.ntmps21
 go_wp2_with fail
 exact ⟨rfl,rfl,rfl⟩
theorem ae (W:World) (b:Nat) (s:Nm) (K g:Nat) (vl vh:Value) (h:Rd W b s K g vl vh) (p:Nm):Calls Tryz.prog 45 #[.pointer (some ⟨b,0,none⟩),.string (str p)] W fun r W'=>r=.returned (.bool (has p s))∧W'=W:=by
 obtain ⟨⟨c0,c1,c2,c3,c4⟩,f0,f1,f2,f3,f4⟩:=bg h.box
 clear h
 go_enter Tryz.func45,Tryz.ntmps45
 go_wp2_with fail
 refine (Tryz.strings_HasPrefix (str s) (str p) W).mono ?_
 rintro r w2 ⟨rfl,rfl⟩
 rw [ng,ng]
 go_wp2_with fail
 go_ret
 exact ⟨rfl,rfl⟩
theorem pQ (c:UInt8):∀s:Nm,match cutAt c s with
  | none=>Lib.indexByte s c=-1
  | some x=>Lib.indexByte s c=(x.1.length:Int)∧s=x.1++c::x.2
 | []=>rfl
 | d::r=>by
   have ih:=pQ c r
   unfold cutAt Lib.indexByte
   by_cases hd:d=c
   ·
    subst hd
    rw [if_pos rfl]
    simp
   ·
    rw [if_neg hd]
    have hb:(d==c)=false:=by simpa using hd
    simp only [hb,Bool.false_eq_true,if_false]
    cases hc:cutAt c r with
    | none=>
      rw [hc] at ih
      simp only at ih
      simp [ih]
    | some x=>
      rw [hc] at ih
      simp only at ih
      obtain ⟨h1,h2⟩:=ih
      rw [h1]
      have:((x.1.length:Int)==-1)=false:=by rw [beq_eq_false_iff_ne];omega
      simp only [this,Option.map_some]
      refine ⟨by simp,?_⟩
      rw [h2]
      rfl
theorem uJ (W:World) (s:Nm) (c:UInt8) (hs:s.length≤1000000):Calls Tryz.prog 42 #[.string (str s),.string (str [c])] W fun r W'=>r=.returned (match cutAt c s with
  | none=>.tuple #[.string (str s),.string (str []),.bool false]
  | some x=>.tuple #[.string (str x.1),.string (str x.2),.bool true])∧∃n,W'=W.drewN n:=by
 have hi:=pQ c s
 have e1:(str s).size=s.length:=rfl
 have e2:(str [c]).size=1:=rfl
 cases hc:cutAt c s with
 | none=>
   rw [hc] at hi
   simp only at hi ⊢
   go_enter Tryz.func42,Tryz.ntmps42
   go_wp2_with fail
   refine (Tryz.stringslite_Index_one (str s) c W).mono ?_
   rintro r w2 ⟨rfl,rfl⟩
   rw [ng,hi]
   go_wp2_with fail
   refine bodyPost_ret (v:=.tuple #[.string (str s),.string (str []),.bool false]) (by simp [results,Tryz.results42,go_sem];rfl) rfl ?_
   exact ⟨rfl,0,rfl⟩
 | some x=>
   rw [hc] at hi
   simp only at hi ⊢
   obtain ⟨h1,h2⟩:=hi
   have hl:x.1.length < s.length:=by rw [h2];simp
   have s1:=fun W=>Sw.zO (P:=Tryz.prog) (w:=W) Tryz.underlying9 s .i64 x.1.length (by omega)
   have s2:=fun W=>Sw.tL (P:=Tryz.prog) (w:=W) Tryz.underlying9 s .i64 (x.1.length+1) (by omega)
   have t1:s.take x.1.length=x.1:=by rw [h2,List.take_left]
   have t2:s.drop (x.1.length+1)=x.2:=by rw [h2,List.drop_append,List.drop_of_length_le (by omega)];simp
   rw [t1] at s1
   rw [t2,show ((x.1.length+1:Nat):Int)=(x.1.length:Int)+1 by omega] at s2
   generalize x.1.length=k at *
   have k1:decide (0≤(k:Int))=true:=decide_eq_true (by omega)
   have k2:0≤(k:Int):=by omega
   clear h2 t1 t2
   go_enter Tryz.func42,Tryz.ntmps42
   go_wp2_with fail
   refine (Tryz.stringslite_Index_one (str s) c W).mono ?_
   rintro r w2 ⟨rfl,rfl⟩
   rw [ng,h1]
   clear h1
   go_wp2_with fail
   go_quiet (fail)
   go_wp2_with fail
   refine bodyPost_ret (v:=.tuple #[.string (str x.1),.string (str x.2),.bool true]) (by simp [results,Tryz.results42,go_sem]) rfl ?_
   exact ⟨rfl,_,rfl⟩
theorem kK (W:World) (s:Nm) (c:UInt8) (hs:s.length≤1000000):Calls Tryz.prog 18 #[.string (str s),.string (str [c])] W fun r W'=>r=.returned (match cutAt c s with
  | none=>.tuple #[.string (str s),.string (str []),.bool false]
  | some x=>.tuple #[.string (str x.1),.string (str x.2),.bool true])∧∃n,W'=W.drewN n:=by
 cases hc:cutAt c s with
 | none=>
   have h:=uJ W s c hs
   rw [hc] at h
   have H:=Lib.hid h
   clear h
   go_enter Tryz.func18,Tryz.ntmps18
   go_wp2_with fail
   refine H.out.mono ?_
   rintro r w2 ⟨rfl,n,rfl⟩
   go_wp2_with fail
   refine bodyPost_ret (v:=.tuple #[.string (str s),.string (str []),.bool false]) (by simp [results,Tryz.results18,go_sem]) rfl ?_
   exact ⟨rfl,_,rfl⟩
 | some x=>
   have h:=uJ W s c hs
   rw [hc] at h
   have H:=Lib.hid h
   clear h
   go_enter Tryz.func18,Tryz.ntmps18
   go_wp2_with fail
   refine H.out.mono ?_
   rintro r w2 ⟨rfl,n,rfl⟩
   go_wp2_with fail
   refine bodyPost_ret (v:=.tuple #[.string (str x.1),.string (str x.2),.bool true]) (by simp [results,Tryz.results18,go_sem]) rfl ?_
   exact ⟨rfl,_,rfl⟩
def OG (W:World) (b:Nat) (s:Nm) (K g n:Nat) (vl vh:Value) (r:Ending) (W':World):Prop:=
 r=.returned (.string (str (s.take n)))∧aj b W W'∧Rd W' b (s.drop n) K g vl vh
theorem cn (W:World) (b:Nat) (s:Nm) (K g:Nat) (vl vh:Value) (h:Rd W b s K g vl vh) (n:Nat) (hle:n≤s.length):
 Calls Tryz.prog 46 #[.pointer (some ⟨b,0,none⟩),.int .i64 (n:Int)] W (OG W b s K g n vl vh):=by
 obtain ⟨⟨c0,c1,c2,c3,c4⟩,f0,f1,f2,f3,f4⟩:=bg h.box
 have e1:(str s).size=s.length:=rfl
 have hlen:=h.len
 have s1:=fun W=>Sw.zO (P:=Tryz.prog) (w:=W) Tryz.underlying9 s .i64 n hle
 have s2:=fun W=>Sw.tL (P:=Tryz.prog) (w:=W) Tryz.underlying9 s .i64 n hle
 have a3:decide ((str s).size < n)=false:=decide_eq_false (by omega)
 have a1:decide (((str s).size:Int) < (n:Int))=false:=decide_eq_false (by omega)
 have a2:¬(((str s).size:Int) < (n:Int)):=by omega
 have HR:=Lib.hid h
 have hnl:=D3 s n
 have Uc:=h.le
 have MC:=h.big
 clear h hle
 go_enter Tryz.func46,Tryz.ntmps46
 go_upto_region 4 with fail
 refine Rg.dR 7 [] [Rg.Is (.pointer (some ⟨b,0,none⟩)),Rg.Is (.pointer (some ⟨b,0,none⟩)),Rg.Is (.pointer (some ⟨b,1,none⟩)),Rg.Is (.int .i64 ((K - nl s:Nat):Int)),Rg.Is (.string (str (s.take n))),Rg.Is (.int .i64 (nl (s.take n):Int)),Rg.Is (.int .i64 ((K - nl (s.drop n):Nat):Int))] (by kernel_rfl) (by kernel_rfl) (of_decide_eq_true (by kernel_rfl)) (by kernel_rfl) (by kernel_rfl) ⟨Rg.aH _,Rg.aH _,Rg.aH _,Rg.aH _,Rg.aH _,Rg.aH _,Rg.aH _,trivial⟩ ⟨rfl,rfl,rfl,rfl,rfl,rfl,rfl,trivial⟩ ⟨?_,?_,?_,?_,?_,?_,?_,trivial⟩ ?_
 ·
  intro _ a wx hb hk
  have h0:a.eval (.tmp 0)=.pointer (some ⟨b,0,none⟩):=Eq.mp (by kernel_rfl) (hk 0 (by decide))
  exact Rg.az ⟨Below.refl _ _,h0⟩
 ·
  intro _ a wx hb hk
  have h21:a.eval (.tmp 21)=.pointer (some ⟨b,0,none⟩):=Eq.mp (by kernel_rfl) (hk 21 (by decide))
  exact Ap.fN _ h21 ⟨Below.refl _ _,rfl⟩
 ·
  intro _ a wx hb hk
  have Ua:a.eval (.tmp 22)=.pointer (some ⟨b,0,none⟩):=Eq.mp (by kernel_rfl) (hk 22 (by decide))
  exact Rs.aR _ _ Ua (rf b 0 1 (by decide) wx) ⟨Below.refl _ _,rfl⟩
 ·
  intro _ a wx hb hk
  have UY:a.eval (.tmp 23)=.pointer (some ⟨b,1,none⟩):=Eq.mp (by kernel_rfl) (hk 23 (by decide))
  exact Rg.aK _ _ UY (mE (bg (HR.out.below hb).box).1.2.1) ⟨Below.refl _ _,rfl⟩
 ·
  intro _ a wx hb hk
  have h5:a.eval (.tmp 5)=.string (str (s.take n)):=Eq.mp (by kernel_rfl) (hk 5 (by decide))
  exact Rg.az ⟨Below.refl _ _,h5⟩
 ·
  intro _ a wx hb hk
  have Qp:a.eval (.tmp 25)=.string (str (s.take n)):=Eq.mp (by kernel_rfl) (hk 25 (by decide))
  refine Rg.bW #[.string (str (s.take n)),.string (str [10])] Tryz.func66 (by kernel_rfl) (by kernel_rfl) (by simp [Qp];rfl) (Tryz.strings_Count_one (str (s.take n)) 10 wx) ?_
  rintro e w' ⟨rfl,rfl⟩
  exact ⟨_,rfl,Below.refl _ _,rfl⟩
 ·
  intro _ a wx hb hk
  have UZ:a.eval (.tmp 24)=.int .i64 ((K - nl s:Nat):Int):=Eq.mp (by kernel_rfl) (hk 24 (by decide))
  have OU:a.eval (.tmp 26)=.int .i64 (nl (s.take n):Int):=Eq.mp (by kernel_rfl) (hk 26 (by decide))
  refine Rg.fF _ _ _ _ UZ OU (Sw.rR (by omega) (by omega)) ⟨Below.refl _ _,?_⟩
  rw [show (((K - nl s:Nat):Int)+(nl (s.take n):Int))=((K - nl (s.drop n):Nat):Int) by omega]
  rfl
 intro vals wD pL hL
 obtain ⟨g0,g1,g2,g3,g4,g5,g6,_⟩:=hL
 have e0:vals 0=.pointer (some ⟨b,0,none⟩):=g0
 have e6:vals 6=.int .i64 ((K - nl (s.drop n):Nat):Int):=g6
 simp only [Rg.bh,List.take_succ_cons,List.take_zero,List.drop_succ_cons,List.drop_zero,List.setIfInBounds_toArray,List.set_cons_succ,List.set_cons_zero,e0,e6]
 have HRD:=Lib.hid (HR.out.below pL)
 have HF:=Lib.hid (HR.out.took pL n)
 obtain ⟨⟨c0,c1,c2,c3,c4⟩,f0,f1,f2,f3,f4⟩:=bg HRD.out.box
 clear g0 g1 g2 g3 g4 g5 g6 e0 e6 pL hnl Uc MC
 go_wp2_with fail
 go_ret
 exact ⟨rfl,HF.out.2,HF.out.1⟩
theorem rO (W:World) (b:Nat) (s:Nm) (K g:Nat) (vl vh:Value) (h:Rd W b s K g vl vh) (n:Nat) (hle:¬n≤s.length):Calls Tryz.prog 46 #[.pointer (some ⟨b,0,none⟩),.int .i64 (n:Int)] W fun r W'=>r=nC 20 g∧W'=W:=by
 obtain ⟨⟨c0,c1,c2,c3,c4⟩,f0,f1,f2,f3,f4⟩:=bg h.box
 have e1:(str s).size=s.length:=rfl
 have a3:decide ((str s).size < n)=true:=decide_eq_true (by omega)
 have a1:decide (((str s).size:Int) < (n:Int))=true:=decide_eq_true (by omega)
 have a2:((str s).size:Int) < (n:Int):=by omega
 have HR:=Lib.hid h
 clear hle h
 go_enter Tryz.func46,Tryz.ntmps46
 go_wp2_with fail
 refine (bq _ b s K g vl vh HR.out 20).mono ?_
 rintro r w2 ⟨rfl,rfl⟩
 exact ⟨rfl,rfl,rfl⟩
def wH (c:UInt8) (s:Nm):R:=match cutAt c (s.drop 1) with
 | none=>.error 20
 | some x=>.ok (s.take 1++x.1++[c],x.2)
theorem Fh (W:World) (b:Nat) (s:Nm) (K g:Nat) (vl vh:Value) (h:Rd W b s K g vl vh) (c:UInt8) (hs:s≠[]):Calls Tryz.prog 85 #[.pointer (some ⟨b,0,none⟩),.string (str [c]),.int .i64 1] W (jI W b K g vl vh (wH c s)):=by
 have hlen:=h.len
 have vz:1≤s.length:=by
  cases s with
  | nil=>exact absurd rfl hs
  | cons=>simp
 have HR:=Lib.hid h
 clear h
 have hi:=pQ c (s.drop 1)
 have uf:∀w,(Instr.sliceAt 9 (.string (str s)) (some (.int .i64 1)) none none).run Tryz.prog w=.ok (.string (str (s.drop 1))) w:=fun w=>Sw.tL (P:=Tryz.prog) Tryz.underlying9 s .i64 1 vz
 go_enter Tryz.func85,Tryz.ntmps85
 go_upto_region 1 with fail
 refine Rg.dR 14 [] [Rg.Is (.pointer (some ⟨b,0,none⟩)),Rg.Is (.pointer (some ⟨b,0,none⟩)),Rg.Is (.pointer (some ⟨b,0,none⟩)),Rg.Is (.string (str s)),Rg.Is (.int .i64 1),Rg.Is (.pointer (some ⟨b,0,none⟩)),Rg.Is (.pointer (some ⟨b,0,none⟩)),Rg.Is (.pointer (some ⟨b,0,none⟩)),Rg.Is (.string (str s)),Rg.Is (.int .i64 (s.length:Int)),Rg.Is (.int .i64 1),Rg.Is (.string (str (s.drop 1))),Rg.Is (.string (str [c])),Rg.Is (.int .i64 (Lib.indexByte (s.drop 1) c))] (by kernel_rfl) (by kernel_rfl) (of_decide_eq_true (by kernel_rfl)) (by kernel_rfl) (by kernel_rfl) ⟨Rg.aH _,Rg.aH _,Rg.aH _,Rg.aH _,Rg.aH _,Rg.aH _,Rg.aH _,Rg.aH _,Rg.aH _,Rg.aH _,Rg.aH _,Rg.aH _,Rg.aH _,Rg.aH _,trivial⟩ ⟨rfl,rfl,rfl,rfl,rfl,rfl,rfl,rfl,rfl,rfl,rfl,rfl,rfl,rfl,trivial⟩ ⟨?_,?_,?_,?_,?_,?_,?_,?_,?_,?_,?_,?_,?_,?_,trivial⟩ ?_
 ·
  intro _ a wx hb hk
  have h0:a.eval (.tmp 0)=.pointer (some ⟨b,0,none⟩):=Eq.mp (by kernel_rfl) (hk 0 (by decide))
  exact Rg.az ⟨Below.refl _ _,h0⟩
 ·
  intro _ a wx hb hk
  have h8:a.eval (.tmp 8)=.pointer (some ⟨b,0,none⟩):=Eq.mp (by kernel_rfl) (hk 8 (by decide))
  exact Ap.fN _ h8 ⟨Below.refl _ _,rfl⟩
 ·
  intro _ a wx hb hk
  have h9:a.eval (.tmp 9)=.pointer (some ⟨b,0,none⟩):=Eq.mp (by kernel_rfl) (hk 9 (by decide))
  exact Rs.aR _ _ h9 (rf b 0 0 (by decide) wx) ⟨Below.refl _ _,rfl⟩
 ·
  intro _ a wx hb hk
  have h10:a.eval (.tmp 10)=.pointer (some ⟨b,0,none⟩):=Eq.mp (by kernel_rfl) (hk 10 (by decide))
  exact Rg.aK _ _ h10 (AV (bg (HR.out.below hb).box).1.1) ⟨Below.refl _ _,rfl⟩
 ·
  intro _ a wx hb hk
  have h2:a.eval (.tmp 2)=.int .i64 1:=Eq.mp (by kernel_rfl) (hk 2 (by decide))
  exact Rg.az ⟨Below.refl _ _,h2⟩
 ·
  intro _ a wx hb hk
  have h0:a.eval (.tmp 0)=.pointer (some ⟨b,0,none⟩):=Eq.mp (by kernel_rfl) (hk 0 (by decide))
  exact Rg.az ⟨Below.refl _ _,h0⟩
 ·
  intro _ a wx hb hk
  have E0:a.eval (.tmp 13)=.pointer (some ⟨b,0,none⟩):=Eq.mp (by kernel_rfl) (hk 13 (by decide))
  exact Ap.fN _ E0 ⟨Below.refl _ _,rfl⟩
 ·
  intro _ a wx hb hk
  have U2:a.eval (.tmp 14)=.pointer (some ⟨b,0,none⟩):=Eq.mp (by kernel_rfl) (hk 14 (by decide))
  exact Rs.aR _ _ U2 (rf b 0 0 (by decide) wx) ⟨Below.refl _ _,rfl⟩
 ·
  intro _ a wx hb hk
  have Dr:a.eval (.tmp 15)=.pointer (some ⟨b,0,none⟩):=Eq.mp (by kernel_rfl) (hk 15 (by decide))
  exact Rg.aK _ _ Dr (AV (bg (HR.out.below hb).box).1.1) ⟨Below.refl _ _,rfl⟩
 ·
  intro _ a wx hb hk
  have Fo:a.eval (.tmp 16)=.string (str s):=Eq.mp (by kernel_rfl) (hk 16 (by decide))
  exact Rs.vr (str s) Tryz.underlying9 Fo ⟨Below.refl _ _,rfl⟩
 ·
  intro _ a wx hb hk
  have zL:a.eval (.tmp 12)=.int .i64 1:=Eq.mp (by kernel_rfl) (hk 12 (by decide))
  have G1:a.eval (.tmp 17)=.int .i64 (s.length:Int):=Eq.mp (by kernel_rfl) (hk 17 (by decide))
  exact NN _ _ _ zL G1 ⟨Below.refl _ _,by rw [if_neg (by omega)];rfl⟩
 ·
  intro _ a wx hb hk
  have h11:a.eval (.tmp 11)=.string (str s):=Eq.mp (by kernel_rfl) (hk 11 (by decide))
  have N5:a.eval (.tmp 18)=.int .i64 1:=Eq.mp (by kernel_rfl) (hk 18 (by decide))
  refine Rg.yi _ ?_ ⟨Below.refl _ _,rfl⟩
  simp only [Option.map_some,Option.map_none,h11,N5]
  exact uf _
 ·
  intro _ a wx hb hk
  have h1:a.eval (.tmp 1)=.string (str [c]):=Eq.mp (by kernel_rfl) (hk 1 (by decide))
  exact Rg.az ⟨Below.refl _ _,h1⟩
 ·
  intro _ a wx hb hk
  have VB:a.eval (.tmp 19)=.string (str (s.drop 1)):=Eq.mp (by kernel_rfl) (hk 19 (by decide))
  have h20:a.eval (.tmp 20)=.string (str [c]):=Eq.mp (by kernel_rfl) (hk 20 (by decide))
  refine Rg.bW #[.string (str (s.drop 1)),.string (str [c])] Tryz.func67 (by kernel_rfl) (by kernel_rfl) (by simp [VB,h20]) (Tryz.strings_Index_one (str (s.drop 1)) c wx) ?_
  rintro e w' ⟨rfl,rfl⟩
  exact ⟨_,rfl,Below.refl _ _,rfl⟩
 intro vals wD pL hL
 obtain ⟨g0,g1,g2,g3,g4,g5,g6,g7,g8,g9,g10,g11,g12,g13,_⟩:=hL
 have Qd:vals 13=.int .i64 (Lib.indexByte (s.drop 1) c):=g13
 simp only [Rg.bh,List.take_succ_cons,List.take_zero,List.drop_succ_cons,List.drop_zero,List.setIfInBounds_toArray,List.set_cons_succ,List.set_cons_zero,Qd]
 have HRD:=Lib.hid (HR.out.below pL)
 have HT:Hid (aj b W wD):=aj.of_below pL
 clear g0 g1 g2 g3 g4 g5 g6 g7 g8 g9 g10 g11 g12 g13 Qd pL
 cases hc:cutAt c (s.drop 1) with
 | none=>
   rw [hc] at hi
   have hi:Lib.indexByte (s.drop 1) c=-1:=hi
   rw [hi]
   have HX:Hid (wH c s=.error 20):=by show _=_;unfold wH;rw [hc]
   clear hi hc
   go_wp2_with fail
   refine (bq _ b s K g vl vh HRD.out 20).mono ?_
   rintro r w2 ⟨rfl,rfl⟩
   exact ⟨rfl,eF HX.out HT.out⟩
 | some x=>
   rw [hc] at hi
   obtain ⟨h1,h2⟩:=(hi:Lib.indexByte (s.drop 1) c=(x.1.length:Int)∧s.drop 1=x.1++c::x.2)
   rw [h1]
   have hl:x.1.length+2≤s.length:=by have:=congrArg List.length h2;simp at this;omega
   have h3:s.take (x.1.length+2)=s.take 1++x.1++[c]:=by
    have hp:(s.take 1).length=1:=by rw [List.length_take];omega
    have hs:s=(s.take 1++x.1++[c])++x.2:=by
     have:=List.take_append_drop 1 s
     rw [h2] at this
     simpa using this.symm
    generalize s.take 1=p at *
    rw [hs]
    exact List.take_left' (by simp;omega)
   have h4:s.drop (x.1.length+2)=x.2:=by
    rw [show x.1.length+2=1+(x.1.length+1) by omega,←List.drop_drop,h2,List.drop_append,List.drop_of_length_le (by omega)]
    simp
   have HX:Hid (wH c s=.ok (s.take (x.1.length+2),x.2)):=by show _=_;unfold wH;rw [hc,h3]
   generalize x.1.length=k at *
   have HE:=Lib.hid h4
   have t0:(str [c]).size=1:=rfl
   have a1:decide ((k:Int) < 0)=false:=decide_eq_false (by omega)
   have a2:¬((k:Int) < 0):=by omega
   clear hc h1 h2 h3 h4
   go_wp2_with fail
   rw [show (1+(k:Int)+1)=((k+2:Nat):Int) by omega]
   refine (cn _ b s K g vl vh HRD.out (k+2) hl).mono ?_
   rintro r w2 ⟨rfl,ht,hr⟩
   have fK:Hid (aj b W w2):=HT.out.trans ht
   have gR:Hid (Rd w2 b x.2 K g vl vh):=by show Rd _ _ _ _ _ _ _;rw [←HE.out];exact hr
   clear ht hr a1 a2
   go_wp2_with fail
   go_ret
   exact lH HX.out fK.out gR.out
end Go.Proofs.YtiklkhbfilbpeaaGreatDoor
