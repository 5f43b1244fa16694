import Derived.Test.YtiklkhbfilbpeaaGreatDoorTbLxRepl
import Derived.Test.YtiklkhbfilbpeaaGreatDoorTbStrWords
import Derived.Test.YtiklkhbfilbpeaaGreatDoorShelf
import Derived.Deep.Cut
set_option maxRecDepth 100000
set_option maxHeartbeats 16000000
set_option linter.unusedVariables false
set_option linter.unusedSimpArgs false
namespace Go.Proofs.YtiklkhbfilbpeaaGreatDoor
open Go.RowKit Base Lx
def Ee (n:Int):Bool:=(n==95) || (decide (97≤n) && decide (n≤122)) || (decide (65≤n) && decide (n≤90))
def En (n:Int):Bool:=decide (48≤n) && decide (n≤57)
theorem rW (w:World) (c:UInt8) (first:Bool):Calls Tryz.prog 154 #[.int .u8 (c.toNat:Int),.bool first] w fun e w'=>e=.returned (.bool (Ee (c.toNat:Int) || (!first && En (c.toNat:Int))))∧w'=w:=by
 go_enter Tryz.func154,Tryz.ntmps154
 go_wp2_with fail
 all_goals
  go_ret
  refine ⟨?_,rfl⟩
  refine congrArg (fun b=>Ending.returned (Value.bool b)) (?_:_=_)
  rw [Bool.eq_iff_iff]
  simp [Ee,En, *]
  try omega
def wN (s:Nm) (j:Nat):Bool:=Ee ((s.getD j 0).toNat:Int) || (!decide (j=0) && En ((s.getD j 0).toNat:Int))
def mb (s:Nm) (k:Nat):Bool:=(List.range k).all (wN s)
def eG (s:Nm):Bool:=mb s s.length && !s.isEmpty
theorem jT (s:Nm) (k:Nat):mb s (k+1)=(mb s k && wN s k):=by
 unfold mb
 rw [List.range_succ,List.all_append]
 simp
theorem zC {s:Nm} {k n:Nat} (h:mb s k=false) (hk:k≤n):mb s n=false:=by
 induction n with
 | zero=>obtain rfl:k=0:=by omega
         exact h
 | succ n ih=>
   by_cases e:k=n+1
   · subst e;exact h
   · rw [jT,ih (by omega)];rfl
theorem Jm {s:Nm} {k:Nat} (h:k < s.length):s.getD k 0=s[k]:=by rw [List.getD_eq_getElem?_getD,List.getElem?_eq_getElem h,Option.getD_some]
theorem eK (l:List UInt8):(str l).toList=l:=by rw [ByteArray.toList_eq,mZ]
def intOf (v:Value):Int:=match v with | .int _ n=>n | _=>0
theorem ry (w:World) (s:Nm) (hs:s.length≤9223372036854775807):Calls Tryz.prog 131 #[.string (str s)] w fun e w'=>e=.returned (.bool (eG s))∧w=w':=by
 have e1:(str s).size=s.length:=rfl
 have yM:(str s).toList=s:=eK s
 go_enter Tryz.func131,Tryz.ntmps131
 go_wp2_with fail
 go_loopw [6] (fun v6 wr=>∃k:Nat,k≤s.length∧v6=.int .i64 k∧mb s k=true∧w=wr) (fun v6 _=>s.length - (intOf v6).toNat)
 case atStart=>exact ⟨0,Nat.zero_le _,rfl,rfl,rfl⟩
 case round=>
  obtain ⟨k,hk,rfl,hn,rfl⟩:=hrel
  have HN:=Lib.hid hn
  clear hn
  by_cases hlt:k < s.length
  ·
   have mB:=fun W=>Sw.mg (P:=Tryz.prog) (w:=W) Tryz.underlying9 s .i64 k hlt
   have HA:Hid (wN s k=(Ee (s[k].toNat:Int) || (!decide (k=0) && En (s[k].toNat:Int)))):=by show _=_;unfold wN;rw [Jm hlt]
   generalize s[k]'hlt=c at *
   have u3:decide (k < (str s).size)=true:=decide_eq_true (by omega)
   have u1:decide ((k:Int) < ((str s).size:Int))=true:=decide_eq_true (by omega)
   have u2:(k:Int) < ((str s).size:Int):=by omega
   by_cases Lh:k=0
   ·
    have d1:decide ((k:Int)=0)=true:=decide_eq_true (by omega)
    have d2:((k:Int)==0)=true:=by rw [beq_iff_eq];omega
    rw [decide_eq_true Lh] at HA
    have HK:=Lib.hid Lh
    clear Lh
    go_wp2_with fail
    refine (rW w c true).mono ?_
    rintro e w2 ⟨rfl,rfl⟩
    have hv:(Ee (c.toNat:Int) || (!true && En (c.toNat:Int)))=wN s k:=HA.out.symm
    rw [hv]
    have HV:=Lib.hid hv
    clear hv
    by_cases hv:wN s k=true
    ·
     rw [hv]
     have HF:Hid (mb s (k+1)=true):=by show _=_;rw [jT,HN.out,hv];rfl
     clear hv
     go_wp2_with fail
     go_roundw
     case rel=>exact ⟨k+1,by omega,by go_num,HF.out,trivial⟩
     case measure=>simp [intOf];omega
    ·
     have hv2:wN s k=false:=by simpa using hv
     rw [hv2]
     have HF:Hid (eG s=false):=by show _=_;unfold eG;rw [zC (k:=k+1) (by rw [jT,hv2,Bool.and_false]) (by omega)];rfl
     clear hv hv2
     go_wp2_with fail
     go_ret
     rw [HF.out]
     exact ⟨rfl,rfl⟩
   ·
    have d1:decide ((k:Int)=0)=false:=decide_eq_false (by omega)
    have d2:((k:Int)==0)=false:=by rw [beq_eq_false_iff_ne];omega
    rw [decide_eq_false Lh] at HA
    have HK:=Lib.hid Lh
    clear Lh
    go_wp2_with fail
    refine (rW w c false).mono ?_
    rintro e w2 ⟨rfl,rfl⟩
    have hv:(Ee (c.toNat:Int) || (!false && En (c.toNat:Int)))=wN s k:=HA.out.symm
    rw [hv]
    have HV:=Lib.hid hv
    clear hv
    by_cases hv:wN s k=true
    ·
     rw [hv]
     have HF:Hid (mb s (k+1)=true):=by show _=_;rw [jT,HN.out,hv];rfl
     clear hv
     go_wp2_with fail
     go_roundw
     case rel=>exact ⟨k+1,by omega,by go_num,HF.out,trivial⟩
     case measure=>simp [intOf];omega
    ·
     have hv2:wN s k=false:=by simpa using hv
     rw [hv2]
     have HF:Hid (eG s=false):=by show _=_;unfold eG;rw [zC (k:=k+1) (by rw [jT,hv2,Bool.and_false]) (by omega)];rfl
     clear hv hv2
     go_wp2_with fail
     go_ret
     rw [HF.out]
     exact ⟨rfl,rfl⟩
  ·
   obtain rfl:k=s.length:=by omega
   have u3:decide (s.length < (str s).size)=false:=decide_eq_false (by omega)
   have u1:decide ((s.length:Int) < ((str s).size:Int))=false:=decide_eq_false (by omega)
   have u2:¬((s.length:Int) < ((str s).size:Int)):=by omega
   by_cases h0:s=[]
   ·
    subst h0
    have t4:(str []).toList.isEmpty=true:=by rw [eK];rfl
    have t5:(!(str []).toList.isEmpty)=false:=by rw [eK];rfl
    go_wp2_with fail
    go_ret
    exact ⟨rfl,rfl⟩
   ·
    have t4:(str s).toList.isEmpty=false:=by rw [eK];simpa using h0
    have t5:s.isEmpty=false:=by simpa using h0
    have t7:(!(str s).toList.isEmpty)=true:=by rw [t4];rfl
    have HB:Hid (eG s=true):=by show _=_;unfold eG;rw [HN.out,t5];rfl
    clear h0
    go_wp2_with fail
    go_ret
    rw [HB.out]
    exact ⟨rfl,rfl⟩
def k7 (s:Nm):Nm × Nm × Bool:=match cutAt 61 s with
 | none=>([],[],false)
 | some x=>if eG x.1 then (x.1,x.2,true) else ([],[],false)
theorem FX (W:World) (s:Nm) (hs:s.length≤100000):Calls Tryz.prog 135 #[.string (str s)] W fun r W'=>r=.returned (.tuple #[.string (str (k7 s).1),.string (str (k7 s).2.1),.bool (k7 s).2.2])∧Below W.heap.size W W':=by
 cases hc:cutAt 61 s with
 | none=>
   have HX:Hid (k7 s=([],[],false)):=by show _=_;unfold k7;rw [hc]
   have h:=kK W s 61 (by omega)
   rw [hc] at h
   have H:=Lib.hid h
   clear h hc
   go_enter Tryz.func135,Tryz.ntmps135
   go_wp2_with fail
   refine H.out.mono ?_
   rintro r w2 ⟨rfl,n,hw⟩
   have HB:Hid (Below W.heap.size W w2):=by show Below _ _ _;rw [hw];exact cS _ _
   clear hw
   go_wp2_with fail
   refine bodyPost_ret (v:=.tuple #[.string (str []),.string (str []),.bool false]) (by simp [results,Tryz.results135,go_sem];rfl) rfl ?_
   rw [HX.out]
   exact ⟨rfl,HB.out⟩
 | some x=>
   have hl:=congrArg List.length (kC hc)
   simp at hl
   have HX:Hid (k7 s=if eG x.1 then (x.1,x.2,true) else ([],[],false)):=by show _=_;unfold k7;rw [hc]
   have h:=kK W s 61 (by omega)
   rw [hc] at h
   have H:=Lib.hid h
   have hxl:x.1.length≤100000:=by omega
   clear h hc hl
   go_enter Tryz.func135,Tryz.ntmps135
   go_wp2_with fail
   refine H.out.mono ?_
   rintro r w2 ⟨rfl,n,hw⟩
   have HB:Hid (Below W.heap.size W w2):=by show Below _ _ _;rw [hw];exact cS _ _
   clear hw
   go_wp2_with fail
   refine (ry w2 x.1 (by omega)).mono ?_
   rintro r w3 ⟨rfl,hw3⟩
   obtain rfl:=hw3.symm
   cases hn:eG x.1 with
   | true=>
     have Ed:Hid (k7 s=(x.1,x.2,true)):=by show _=_;rw [HX.out,hn];rfl
     clear hn
     go_wp2_with fail
     refine bodyPost_ret (v:=.tuple #[.string (str x.1),.string (str x.2),.bool true]) (by simp [results,Tryz.results135,go_sem]) rfl ?_
     rw [Ed.out]
     exact ⟨rfl,HB.out⟩
   | false=>
     have Ed:Hid (k7 s=([],[],false)):=by show _=_;rw [HX.out,hn];rfl
     clear hn
     go_wp2_with fail
     refine bodyPost_ret (v:=.tuple #[.string (str []),.string (str []),.bool false]) (by simp [results,Tryz.results135,go_sem];rfl) rfl ?_
     rw [Ed.out]
     exact ⟨rfl,HB.out⟩
end Go.Proofs.YtiklkhbfilbpeaaGreatDoor
