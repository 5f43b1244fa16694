import Derived.Test.YtiklkhbfilbpeaaGreatDoorTbUnPlain
import Derived.Test.YtiklkhbfilbpeaaGreatDoorTbLxAgain
import Derived.Test.YtiklkhbfilbpeaaGreatDoorTbUnFew
import Derived.Test.YtiklkhbfilbpeaaGreatDoorTbGUnA
set_option maxRecDepth 100000
set_option maxHeartbeats 16000000
set_option linter.unusedVariables false
set_option linter.unusedSimpArgs false
namespace Go.Proofs.YtiklkhbfilbpeaaGreatDoor.Un
open Lx Sy
inductive Lb where
 | uQ (ws:List Nm) (rs:List dZ)
 | pipe (fl:Bool)
 | qz
 | EW
 | seq
 | asks (rs:List dZ)
 | loop (fl:Bool) (rs:List dZ)
 | each (t:Nm) (ws:Option (List Nm)) (rs:List dZ)
 | cases (t:Nm) (rs:List dZ)
 | item (ws:List Nm)
 | group (rs:List dZ)
 | sub (rs:List dZ)
 | func (t:Nm)
def Mr (ws:List Nm):Nat:=(ws.foldl fk ({ k:=1,ln:=0 }:Nd)).st
def nd:Lb→List Nat→Nd
 | .uQ ws rs,ks=>{ k:=1,ws:=ws,st:=Mr ws,rs:=rs,ks:=ks,ln:=0 }
 | .pipe fl,ks=>{ k:=2,fl:=fl,ks:=ks,ln:=0 }
 | .qz,ks=>{ k:=3,ks:=ks,ln:=0 }
 | .EW,ks=>{ k:=4,ks:=ks,ln:=0 }
 | .seq,ks=>{ k:=5,ks:=ks,ln:=0 }
 | .asks rs,ks=>{ k:=6,rs:=rs,ks:=ks,ln:=0 }
 | .loop fl rs,ks=>{ k:=7,fl:=fl,rs:=rs,ks:=ks,ln:=0 }
 | .each t ws rs,ks=>{ k:=8,t:=t,fl:=ws.isNone,ws:=ws.getD [],rs:=rs,ks:=ks,ln:=0 }
 | .cases t rs,ks=>{ k:=9,t:=t,rs:=rs,ks:=ks,ln:=0 }
 | .item ws,ks=>{ k:=10,ws:=ws,ks:=ks,ln:=0 }
 | .group rs,ks=>{ k:=11,rs:=rs,ks:=ks,ln:=0 }
 | .sub rs,ks=>{ k:=12,rs:=rs,ks:=ks,ln:=0 }
 | .func t,ks=>{ k:=13,t:=t,ks:=ks,ln:=0 }
def Lb.k (x:Lb):Nat:=(nd x []).k
theorem V9 (x:Lb) (ks:List Nat):(nd x ks).k=x.k:=by cases x<;>rfl
theorem Yg (x:Lb) (ks:List Nat):(nd x ks).ks=ks:=by cases x<;>rfl
theorem Qj (x:Lb) (ks:List Nat):Sy.bare (nd x ks)=nd x ks:=by cases x<;>rfl
inductive F where
 | nil
 | cons (x:Lb) (k r:F)
namespace F
def len:F→Nat
 | nil=>0
 | cons _ k r=>k.len+1+r.len
def roots:F→Nat→List Nat
 | nil,_=>[]
 | cons _ k r,b=>(b+k.len)::r.roots (b+k.len+1)
def flat:F→Nat→List Nd
 | nil,_=>[]
 | cons x k r,b=>k.flat b++nd x (k.roots b)::r.flat (b+k.len+1)
def aJ:F→List Lb
 | nil=>[]
 | cons x _ r=>x::r.aJ
def app:F→F→F
 | nil,g=>g
 | cons x k r,g=>cons x k (r.app g)
theorem eh:∀(f:F) (b:Nat),(f.flat b).length=f.len
 | nil,_=>rfl
 | cons x k r,b=>by
   show (k.flat b++nd x (k.roots b)::r.flat (b+k.len+1)).length=k.len+1+r.len
   rw [List.length_append,List.length_cons,eh k,eh r];omega
theorem mM:∀(f:F) (b:Nat),(f.roots b).length=f.aJ.length
 | nil,_=>rfl
 | cons x k r,b=>by show (r.roots _).length+1=r.aJ.length+1;rw [mM r]
theorem Qu:∀f g:F,(f.app g).len=f.len+g.len
 | nil,g=>by show g.len=0+g.len;omega
 | cons x k r,g=>by show k.len+1+(r.app g).len=k.len+1+r.len+g.len;rw [Qu r];omega
theorem r8:∀f g:F,(f.app g).aJ=f.aJ++g.aJ
 | nil,g=>rfl
 | cons x k r,g=>by show x::(r.app g).aJ=x::(r.aJ++g.aJ);rw [r8 r]
theorem ye:∀(f g:F) (b:Nat),(f.app g).flat b=f.flat b++g.flat (b+f.len)
 | nil,g,b=>rfl
 | cons x k r,g,b=>by
   show k.flat b++nd x (k.roots b)::(r.app g).flat (b+k.len+1)=(k.flat b++nd x (k.roots b)::r.flat (b+k.len+1))++g.flat (b+(k.len+1+r.len))
   rw [ye r,List.append_assoc,List.cons_append]
   have e:b+k.len+1+r.len=b+(k.len+1+r.len):=by omega
   rw [e]
theorem p5:∀(f g:F) (b:Nat),(f.app g).roots b=f.roots b++g.roots (b+f.len)
 | nil,g,b=>rfl
 | cons x k r,g,b=>by
   show (b+k.len)::(r.app g).roots (b+k.len+1)=((b+k.len)::r.roots (b+k.len+1))++g.roots (b+(k.len+1+r.len))
   rw [p5 r]
   have e:b+k.len+1+r.len=b+(k.len+1+r.len):=by omega
   rw [e];rfl
end F
inductive Ac where
 | sp
 | wd (w:Nm)
 | op (o:Nm)
 | fn (w:Nm)
 | nl
 | rd (x:dZ)
def Pp:Ac→PS→PS
 | .sp,s=>aG [32] s
 | .wd w,s=>aG w s
 | .op o,s=>aG o s
 | .fn w,s=>aG (w++[40,41]) s
 | .nl,s=>mA s
 | .rd x,s=>fX x s
def dz (a:List Ac) (s:PS):PS:=a.foldl (fun s x=>Pp x s) s
theorem cM (a b:List Ac) (s:PS):dz (a++b) s=dz b (dz a s):=List.foldl_append
theorem bt (x:Ac) (a:List Ac) (s:PS):dz (x::a) s=dz a (Pp x s):=rfl
def bU (rs:List dZ):List Ac:=rs.flatMap fun x=>[.sp,.rd x]
def zy:List dZ→List Ac
 | []=>[]
 | x::rs=>.rd x::bU rs
def lg (sep:List Ac) (ws:List Nm):List Ac:=ws.flatMap fun w=>sep++[.wd w]
def oW (sep:List Ac):List Nm→List Ac
 | []=>[]
 | w::ws=>.wd w::lg sep ws
def Gg (sep:List Ac):List (List Ac)→List Ac
 | []=>[]
 | a::l=>a++l.flatMap fun a=>sep++a
def gH (A:List (List Ac)):List Ac:=A.flatMap fun a=>a++[.nl]
def mQ (A:List (List Ac)) (i:Nat):List Ac:=A.getD i []
def isIf:Lb→Bool
 | .asks _=>true
 | _=>false
def aD (x:Lb) (K:List Lb) (A:List (List Ac)):List Ac:=match x with
 | .uQ ws rs=>zy rs++((if 0 < rs.length∧0 < ws.length then [.sp] else [])++oW [.sp] ws)
 | .pipe fl=>(if fl then [.wd [33],.sp] else [])++Gg [.sp,.op [124],.sp] A
 | .qz=>Gg [.sp,.op [38,38],.sp] A
 | .EW=>Gg [.sp,.op [124,124],.sp] A
 | .seq=>gH A
 | .asks rs=>.wd [105,102]::.nl::(mQ A 0++.wd [116,104,101,110]::.nl::(mQ A 1++((if 2 < A.length then .wd [101,108,115,101]::.nl::(mQ A 2++(if isIf (K.getD 2 .seq) then [.nl] else [])) else [])++.wd [102,105]::bU rs)))
 | .loop fl rs=>.wd (if fl then [117,110,116,105,108] else [119,104,105,108,101])::.nl::(mQ A 0++.wd [100,111]::.nl::(mQ A 1++.wd [100,111,110,101]::bU rs))
 | .each t ws rs=>.wd [102,111,114]::.sp::.wd t::((match ws with
   | none=>[]
   | some ws=>.sp::.wd [105,110]::lg [.sp] ws)++.nl::.wd [100,111]::.nl::(mQ A 0++.wd [100,111,110,101]::bU rs))
 | .cases t rs=>.wd [99,97,115,101]::.sp::.wd t::.sp::.wd [105,110]::.nl::(A.flatten++.wd [101,115,97,99]::bU rs)
 | .item ws=>.op [40]::(oW [.op [124]] ws++.op [41]::.nl::(mQ A 0++[.op [59,59],.nl]))
 | .group rs=>.wd [123]::.nl::(mQ A 0++.wd [125]::bU rs)
 | .sub rs=>.op [40]::.nl::(mQ A 0++.op [41]::bU rs)
 | .func t=>.fn t::.sp::mQ A 0
def F.acts:F→List (List Ac)
 | .nil=>[]
 | .cons x k r=>aD x k.aJ k.acts::r.acts
theorem QI (s:PS):aG [] s=s:=by unfold aG;rw [List.append_nil]
theorem dN (a b:Nm) (s:PS):aG b (aG a s)=aG (a++b) s:=by unfold aG;rw [List.append_assoc]
theorem jF:∀(rs:List dZ) (s:PS),dz (bU rs) s=iz rs s
 | [],s=>rfl
 | x::rs,s=>by
   show dz (.sp::.rd x::bU rs) s=_
   rw [bt,bt,jF rs]
   rfl
theorem NH (rs:List dZ) (s:PS):dz (zy rs) s=Ad rs s:=by
 cases rs with
 | nil=>rfl
 | cons x rs=>show dz (.rd x::bU rs) s=_;rw [bt,jF];rfl
theorem A4 (w v:Nm) (ws:List Nm) (sep:Nm):Lib.join (w::v::ws) sep=w++(sep++Lib.join (v::ws) sep):=by
 simp [Lib.join,List.intercalate_cons_cons]
theorem join_one (w sep:Nm):Lib.join [w] sep=w:=by simp [Lib.join]
theorem BM {sep:List Ac} {t:Nm} (h:∀s,dz sep s=aG t s):∀(w:Nm) (ws:List Nm) (s:PS),dz (.wd w::lg sep ws) s=aG (Lib.join (w::ws) t) s
 | w,[],s=>by rw [join_one];rfl
 | w,v::ws,s=>by
   have e:(Ac.wd w::lg sep (v::ws))=(Ac.wd w::sep)++(Ac.wd v::lg sep ws):=by
    show Ac.wd w::((sep++[.wd v])++lg sep ws)=_
    simp
   rw [e,cM,BM h v ws,bt,h,A4,dN]
   show aG _ (aG w s)=_
   rw [dN]
theorem Eo {sep:List Ac} {t:Nm} (h:∀s,dz sep s=aG t s) (ws:List Nm) (s:PS):dz (oW sep ws) s=aG (Lib.join ws t) s:=by
 cases ws with
 | nil=>show s=aG (Lib.join [] t) s;simp [Lib.join,aG]
 | cons w ws=>exact BM h w ws s
inductive Pw (f:Nat→PS→PS):List Nat→List (List Ac)→Prop where
 | nil:Pw f [] []
 | cons {k ks a A} (h:∀s,f k s=dz a s) (t:Pw f ks A):Pw f (k::ks) (a::A)
theorem Pw.len {f:Nat→PS→PS} {ks:List Nat} {A:List (List Ac)} (h:Pw f ks A):ks.length=A.length:=by
 induction h with
 | nil=>rfl
 | cons _ _ ih=>rw [List.length_cons,List.length_cons,ih]
theorem Pw.at {f:Nat→PS→PS} {ks:List Nat} {A:List (List Ac)} (h:Pw f ks A):∀(i:Nat),i < ks.length→∀s,f (ks.getD i 0) s=dz (mQ A i) s:=by
 induction h with
 | nil=>exact fun i hi=>absurd hi (Nat.not_lt_zero _)
 | cons h t ih=>
   intro i hi s
   cases i with
   | zero=>exact h s
   | succ i=>exact ih i (by simpa using hi) s
theorem M9 {f:Nat→PS→PS} {sep:List Ac} {t:Nm} (h:∀s,dz sep s=aG t s) {ks:List Nat} {A:List (List Ac)} (hp:Pw f ks A):∀s,rE t f ks s=dz (A.flatMap fun a=>sep++a) s:=by
 induction hp with
 | nil=>exact fun s=>rfl
 | @cons k ks a A hk _ ih=>
   intro s
   show rE t f ks (f k (aG t s))=dz ((sep++a)++A.flatMap fun a=>sep++a) s
   rw [cM,cM,h,←hk,ih]
theorem sS {f:Nat→PS→PS} {sep:List Ac} {t:Nm} (h:∀s,dz sep s=aG t s) {ks:List Nat} {A:List (List Ac)} (hp:Pw f ks A) (s:PS):iD t f ks s=dz (Gg sep A) s:=by
 cases hp with
 | nil=>rfl
 | cons hk ht=>
   show rE t f _ (f _ s)=dz (_++_) s
   rw [cM,←hk,M9 h ht]
theorem L8 {f:Nat→PS→PS} {ks:List Nat} {A:List (List Ac)} (hp:Pw f ks A) (s:PS):iD [] f ks s=dz A.flatten s:=by
 have h0:∀s:PS,dz [] s=aG [] s:=fun s=>(QI s).symm
 rw [sS h0 hp]
 congr 1
 cases A with
 | nil=>rfl
 | cons a A=>show a++A.flatMap (fun a=>[]++a)=a++A.flatten;simp [List.flatMap_def]
theorem run_seq {f:Nat→PS→PS} {ks:List Nat} {A:List (List Ac)} (hp:Pw f ks A):∀s,rj f ks s=dz (gH A) s:=by
 induction hp with
 | nil=>exact fun s=>rfl
 | @cons k ks a A hk _ ih=>
   intro s
   show rj f ks (mA (f k s))=dz ((a++[.nl])++gH A) s
   rw [cM,cM,←hk,ih]
   rfl
theorem kT {g:PS→PS} {a:List Ac} (h:∀s,g s=dz a s) (w:Nm) (s:PS):aQ w g s=dz (.wd w::.nl::a) s:=by
 rw [bt,bt];exact h _
theorem Hw {g:PS→PS} {a:List Ac} (h:∀s,g s=dz a s) (w:Nm) (s:PS):aQ w g s=dz (.op w::.nl::a) s:=by
 rw [bt,bt];exact h _
theorem nH (a b:Ac) (l m:List Ac):a::b::(l++m)=(a::b::l)++m:=rfl
theorem M7 (l:List Nd) (x:Lb) {f:Nat→PS→PS} {ks:List Nat} {K:List Lb} {A:List (List Ac)} (hp:Pw f ks A) (eo:Gy (nd x ks)) (hK:2 < ks.length→(en l (ks.getD 2 0)=6↔isIf (K.getD 2 .seq)=true)) (s:PS):oc l f (nd x ks) s=dz (aD x K A) s:=by
 obtain ⟨h6,h7,h8,_,_⟩:=eo
 rw [V9,Yg] at h6 h7 h8
 have hat:=hp.at
 have hlen:=hp.len
 have Zc:∀s:PS,dz [.sp,.op [124],.sp] s=aG [32,124,32] s:=fun s=>by
  show aG [32] (aG [124] (aG [32] s))=_;rw [dN,dN];rfl
 have hand:∀s:PS,dz [.sp,.op [38,38],.sp] s=aG [32,38,38,32] s:=fun s=>by
  show aG [32] (aG [38,38] (aG [32] s))=_;rw [dN,dN];rfl
 have hor:∀s:PS,dz [.sp,.op [124,124],.sp] s=aG [32,124,124,32] s:=fun s=>by
  show aG [32] (aG [124,124] (aG [32] s))=_;rw [dN,dN];rfl
 unfold oc
 rw [V9]
 cases x with
 | uQ ws rs=>
   rw [show (Lb.uQ ws rs).k=1 from rfl,if_pos rfl]
   show tK (nd (.uQ ws rs) ks) s=dz (zy rs++(_++oW [.sp] ws)) s
   unfold tK
   rw [cM,cM,Eo (t:=[32]) (fun s=>rfl),NH]
   show aG (Lib.join ws [32]) (if 0 < rs.length∧0 < ws.length then _ else _)=_
   split<;>rfl
 | pipe fl=>
   rw [show (Lb.pipe fl).k=2 from rfl,if_neg (by decide)]
   show iD [32,124,32] f ks (if fl then aG [33,32] s else s)=dz (_++Gg _ A) s
   rw [cM,sS Zc hp]
   cases fl
   · rfl
   · show _=dz _ (aG [32] (aG [33] s));rw [dN];rfl
 | qz=>exact sS hand hp s
 | EW=>exact sS hor hp s
 | seq=>exact run_seq hp s
 | asks rs=>
   have hl:=h6 rfl
   have h0:=hat 0 (by omega)
   have h1:=hat 1 (by omega)
   rw [show (Lb.asks rs).k=6 from rfl,if_neg (by decide)]
   show iz rs (pd (en l) f (nd (.asks rs) ks) s)=_
   unfold pd
   simp only
   show iz rs (aG [102,105] (if 2 < ks.length then _ else _))=dz (.wd [105,102]::.nl::(mQ A 0++.wd [116,104,101,110]::.nl::(mQ A 1++(_++.wd [102,105]::bU rs)))) s
   rw [nH,cM,←kT h0,nH,cM,←kT h1,cM,bt,jF]
   congr 1
   show aG [102,105] _=aG [102,105] _
   congr 1
   rw [←hlen]
   by_cases h2:2 < ks.length
   ·
    rw [if_pos h2,if_pos h2,nH,cM,←kT (hat 2 h2)]
    have:=hK h2
    show (if en l (ks.getD 2 0)=6 then _ else _)=_
    by_cases h3:en l (ks.getD 2 0)=6
    · rw [if_pos h3,if_pos (this.1 h3)];rfl
    · rw [if_neg h3,if_neg (fun h=>h3 (this.2 h))];rfl
   · rw [if_neg h2,if_neg h2];rfl
 | loop fl rs=>
   have hl:=h7 rfl
   rw [show (Lb.loop fl rs).k=7 from rfl,if_neg (by decide)]
   show iz rs (aG _ (aQ _ (f (ks.getD 1 0)) (aQ (if fl then _ else _) (f (ks.getD 0 0)) s)))=dz (.wd _::.nl::(mQ A 0++.wd [100,111]::.nl::(mQ A 1++.wd [100,111,110,101]::bU rs))) s
   rw [nH,cM,←kT (hat 0 (by omega)),nH,cM,←kT (hat 1 (by omega)),bt,jF]
   rfl
 | each t ws rs=>
   have hl:=h8 (.inl rfl)
   rw [show (Lb.each t ws rs).k=8 from rfl,if_neg (by decide)]
   show iz rs (aG [100,111,110,101] (aQ [100,111] (f (ks.getD 0 0)) (mA (if ws.isNone=true then aG ([102,111,114,32]++t) s else aG (Lib.join ([32,105,110]::ws.getD []) [32]) (aG ([102,111,114,32]++t) s)))))=dz (.wd [102,111,114]::.sp::.wd t::(_++.nl::.wd [100,111]::.nl::(mQ A 0++.wd [100,111,110,101]::bU rs))) s
   rw [bt,bt,bt,cM,bt,nH,cM,←kT (hat 0 (by omega)),bt,jF]
   have e:aG ([102,111,114,32]++t) s=aG t (aG [32] (aG [102,111,114] s)):=by rw [dN,dN];rfl
   rw [e]
   cases ws with
   | none=>rfl
   | some ws=>
     have e2:dz (.sp::.wd [105,110]::lg [.sp] ws) (aG t (aG [32] (aG [102,111,114] s)))=aG (Lib.join ([32,105,110]::ws) [32]) (aG t (aG [32] (aG [102,111,114] s))):=by
      rw [bt,BM (t:=[32]) (fun s=>rfl)]
      show aG _ (aG [32] _)=_
      rw [dN]
      congr 1
      cases ws with
      | nil=>rw [join_one,join_one];rfl
      | cons v ws=>rw [A4,A4];rfl
     show iz rs (aG [100,111,110,101] (aQ [100,111] (f (ks.getD 0 0)) (mA (aG (Lib.join ([32,105,110]::ws) [32]) (aG t (aG [32] (aG [102,111,114] s)))))))=iz rs (aG [100,111,110,101] (aQ [100,111] (f (ks.getD 0 0)) (mA (dz (.sp::.wd [105,110]::lg [.sp] ws) (aG t (aG [32] (aG [102,111,114] s)))))))
     rw [e2]
 | cases t rs=>
   rw [show (Lb.cases t rs).k=9 from rfl,if_neg (by decide)]
   show iz rs (aG [101,115,97,99] (iD [] f ks (mA (aG ([99,97,115,101,32]++t++[32,105,110]) s))))=dz (.wd [99,97,115,101]::.sp::.wd t::.sp::.wd [105,110]::.nl::(A.flatten++.wd [101,115,97,99]::bU rs)) s
   rw [bt,bt,bt,bt,bt,bt,cM,←L8 hp,bt,jF]
   show _=iz rs (aG [101,115,97,99] (iD [] f ks (mA (aG [105,110] (aG [32] (aG t (aG [32] (aG [99,97,115,101] s))))))))
   rw [dN,dN,dN,dN]
   simp
 | item ws=>
   have hl:=h8 (.inr (show 10≤10 by decide))
   rw [show (Lb.item ws).k=10 from rfl,if_neg (by decide)]
   show mA (aG [59,59] (aQ ([40]++Lib.join ws [124]++[41]) (f (ks.getD 0 0)) s))=dz (.op [40]::(oW [.op [124]] ws++.op [41]::.nl::(mQ A 0++[.op [59,59],.nl]))) s
   rw [bt,cM,Eo (t:=[124]) (fun s=>rfl),nH,cM,←Hw (hat 0 (by omega))]
   show mA (aG [59,59] (f (ks.getD 0 0) (mA (aG ([40]++Lib.join ws [124]++[41]) s))))=mA (aG [59,59] (f (ks.getD 0 0) (mA (aG [41] (aG (Lib.join ws [124]) (aG [40] s))))))
   rw [dN,dN]
   simp
 | group rs=>
   have hl:=h8 (.inr (show 10≤11 by decide))
   rw [show (Lb.group rs).k=11 from rfl,if_neg (by decide)]
   show iz rs (aG [125] (aQ [123] (f (ks.getD 0 0)) s))=dz (.wd [123]::.nl::(mQ A 0++.wd [125]::bU rs)) s
   rw [nH,cM,←kT (hat 0 (by omega)),bt,jF]
   rfl
 | sub rs=>
   have hl:=h8 (.inr (show 10≤12 by decide))
   rw [show (Lb.sub rs).k=12 from rfl,if_neg (by decide)]
   show iz rs (aG [41] (aQ [40] (f (ks.getD 0 0)) s))=dz (.op [40]::.nl::(mQ A 0++.op [41]::bU rs)) s
   rw [nH,cM,←Hw (hat 0 (by omega)),bt,jF]
   rfl
 | func t=>
   have hl:=h8 (.inr (show 10≤13 by decide))
   rw [show (Lb.func t).k=13 from rfl,if_neg (by decide)]
   show f (ks.getD 0 0) (aG (t++[40,41,32]) s)=dz (.fn t::.sp::mQ A 0) s
   rw [bt,bt,←hat 0 (by omega)]
   show _=f _ (aG [32] (aG (t++[40,41]) s))
   rw [dN]
   simp
theorem Zaj {l:List Nd} {j:Nat} {n:Nd} (h:l[j]? =some n):en l j=n.k:=by unfold en;rw [h];rfl
theorem xU:∀(f:F) (l pre post:List Nd),l=pre++(f.flat pre.length++post)→(f.roots pre.length).map (en l)=f.aJ.map Lb.k
 | .nil,_,_,_,_=>rfl
 | .cons x k r,l,pre,post,h=>by
   have e:l=(pre++(k.flat pre.length++[nd x (k.roots pre.length)]))++(r.flat (pre++(k.flat pre.length++[nd x (k.roots pre.length)])).length++post):=by
    have e2:(pre++(k.flat pre.length++[nd x (k.roots pre.length)])).length=pre.length+k.len+1:=by
     simp only [List.length_append,F.eh,List.length_singleton];omega
    rw [e2,h]
    show pre++((k.flat pre.length++nd x (k.roots pre.length)::r.flat (pre.length+k.len+1))++post)=_
    simp
   have e2:(pre++(k.flat pre.length++[nd x (k.roots pre.length)])).length=pre.length+k.len+1:=by
    simp only [List.length_append,F.eh,List.length_singleton];omega
   have ih:=xU r l _ post e
   rw [e2] at ih
   show en l (pre.length+k.len)::(r.roots (pre.length+k.len+1)).map (en l)=x.k::r.aJ.map Lb.k
   rw [ih]
   congr 1
   rw [Zaj (n:=nd x (k.roots pre.length)),V9]
   rw [h]
   show (pre++((k.flat pre.length++nd x (k.roots pre.length)::r.flat (pre.length+k.len+1))++post))[pre.length+k.len]? =_
   rw [List.getElem?_append_right (by omega),Nat.add_sub_cancel_left,List.append_assoc,List.getElem?_append_right (by rw [F.eh];exact Nat.le_refl _),F.eh,Nat.sub_self]
   rfl
theorem Wl (x:Lb):x.k=6↔isIf x=true:=by cases x<;>simp [Lb.k,nd,isIf]
theorem tO {l:List Nd} (ht:Tr l):∀(f:F) (pre post:List Nd),l=pre++(f.flat pre.length++post)→Pw (cL l) (f.roots pre.length) f.acts
 | .nil,_,_,_=>.nil
 | .cons x k r,pre,post,h=>by
   have e2:(pre++(k.flat pre.length++[nd x (k.roots pre.length)])).length=pre.length+k.len+1:=by
    simp only [List.length_append,F.eh,List.length_singleton];omega
   have e:l=(pre++(k.flat pre.length++[nd x (k.roots pre.length)]))++(r.flat (pre++(k.flat pre.length++[nd x (k.roots pre.length)])).length++post):=by
    rw [e2,h]
    show pre++((k.flat pre.length++nd x (k.roots pre.length)::r.flat (pre.length+k.len+1))++post)=_
    simp
   have ihr:=tO ht r _ post e
   rw [e2] at ihr
   have ek:l=pre++(k.flat pre.length++(nd x (k.roots pre.length)::r.flat (pre.length+k.len+1)++post)):=by
    rw [h]
    show pre++((k.flat pre.length++nd x (k.roots pre.length)::r.flat (pre.length+k.len+1))++post)=_
    simp
   have ihk:=tO ht k pre _ ek
   have JY:=xU k l pre _ ek
   have hn:l[pre.length+k.len]? =some (nd x (k.roots pre.length)):=by
    rw [ek,List.getElem?_append_right (by omega),Nat.add_sub_cancel_left,List.getElem?_append_right (by rw [F.eh];exact Nat.le_refl _),F.eh,Nat.sub_self]
    rfl
   refine .cons (fun s=>?_) ihr
   rw [tA ht hn]
   refine M7 l x ihk (ht.fits _ (List.mem_of_getElem? hn)) (fun h2=>?_) s
   have h3:2 < k.aJ.length:=by rw [←F.mM k pre.length];exact h2
   have h4:=congrArg (fun l:List Nat=>l[2]?) JY
   simp only [List.getElem?_map,List.getElem?_eq_getElem h2,List.getElem?_eq_getElem h3,Option.map_some] at h4
   injection h4 with h4
   rw [List.getD_eq_getElem?_getD,List.getElem?_eq_getElem h2,List.getD_eq_getElem?_getD,List.getElem?_eq_getElem h3]
   show en l (k.roots pre.length)[2]=6↔_
   rw [h4]
   exact Wl _
theorem Hx (l:List Nd) (j:Nat):en (l.map Sy.bare) j=en l j:=by
 unfold en
 rw [List.getElem?_map]
 cases l[j]?<;>rfl
theorem Kq (l:List Nd) (f:Nat→PS→PS) (n:Nd) (s:PS):oc (l.map Sy.bare) f (Sy.bare n) s=oc l f n s:=by
 have h:en (l.map Sy.bare)=en l:=funext (Hx l)
 unfold oc
 rw [h]
 rfl
theorem ya (l:List Nd):∀(f k:Nat),jJ (l.map Sy.bare) f k=jJ l f k
 | 0,k=>rfl
 | f+1,k=>funext fun s=>by
   have ih:jJ (l.map Sy.bare) f=jJ l f:=funext (ya l f)
   unfold jJ
   rw [List.getElem?_map]
   cases h:l[k]? with
   | none=>rfl
   | some n=>
     show (if 1≤n.k∧n.k≤13 then oc (l.map Sy.bare) (jJ (l.map Sy.bare) f) (Sy.bare n) s else s)=if 1≤n.k∧n.k≤13 then oc l (jJ l f) n s else s
     rw [ih,Kq]
theorem JP (l:List Nd):gK (l.map Sy.bare)=gK l:=by
 unfold gK cL
 rw [ya,List.length_map]
 cases l with
 | nil=>rfl
 | cons n l=>rfl
theorem RY {l:List Nd} (h:Tr l):Tr (l.map Sy.bare) where
 kids j hj k hk:=h.kids j (by simpa using hj) k (by simpa [Sy.bare] using hk)
 fits n hn:=by
  obtain ⟨m,hm,rfl⟩:=List.mem_map.1 hn
  exact h.fits m hm
 one i hi:=by
  rw [List.length_map] at hi ⊢
  rw [List.flatMap_map]
  exact h.one i hi
theorem AK {l:List Nd} (ht:Tr l) {x:Lb} {k:F} (h:l.map Sy.bare=(F.cons x k .nil).flat 0):gK l=(dz (aD x k.aJ k.acts) ([],[])).1:=by
 rw [←JP]
 have h2:=tO (RY ht) (.cons x k .nil) [] [] (by rw [h];simp)
 cases h2 with
 | cons h3 _=>
   have hl:(l.map Sy.bare).length=k.len+1:=by rw [h,F.eh];rfl
   unfold gK
   rw [if_neg (fun e=>by rw [e] at hl;simp at hl),hl,←h3]
   show (cL _ (k.len+1 - 1) _).1=(cL _ (0+k.len) _).1
   rw [Nat.add_sub_cancel,Nat.zero_add]
end Go.Proofs.YtiklkhbfilbpeaaGreatDoor.Un
namespace Go.Proofs.YtiklkhbfilbpeaaGreatDoor.Lx
structure WG (w:Nm):Prop where
 ne:w≠[]
 nob:∀T,ends (w++T)=false
 Zn:w.head?≠some 35
 noj:∀T,has [92,10] (w++T)=false
 again:∀T,ends T=true→bad T=false→fe (w++T)=.ok (w,T)
theorem YZ {c:UInt8} {r w rest:Nm} (he:ends (c::r)=false) (uR:c≠35) (hj:has [92,10] (c::r)=false) (h:fe (c::r)=.ok (w,rest)):WG w:=by
 have hg:=AP 8 0 rfl
 have h':=h
 unfold fe at h'
 rw [jl (cj 0) (iU 0) he] at h'
 obtain ⟨x,hx,hz⟩:=aZ h'
 obtain ⟨p,hp,hy⟩:=cH hz
 simp only at hy
 rcases hg c r x.1 x.2 hx with ⟨hj2,_⟩ | W9
 · rw [hj] at hj2;cases hj2
 ·
  obtain ⟨o',ho⟩:=W9.head
  have h2:=W9.two
  rw [ho] at hy h2
  subst hy
  refine ⟨by simp,fun T=>?_,by simp [uR],fun T=>?_,fun T hT hb=>?_⟩
  · rw [List.cons_append,List.cons_append,zW c _ r];exact he
  ·
   by_cases hc:c=92
   ·
    obtain ⟨d,r',hr,YJ⟩:=h2 hc
    subst hc
    subst hr
    have bX:o'=[d]:=by injection YJ
    subst bX
    show has [92,10] (92::d::(p++T))=false
    rw [rX d _ r',hj]
   · rw [List.cons_append,List.cons_append];exact iN hc
  · exact (nU (cj 0) (iU 0) hg zW _ _ _ _ (Nat.le_refl _) h T hT hb).2
theorem uY (s:Nm):(10:UInt8)∉(cD s).1:=by
 unfold cD
 cases h:cutAt 10 s with
 | some x=>exact B7 h
 | none=>
   simp only
   induction s with
   | nil=>simp
   | cons c r ih=>
     unfold cutAt at h
     split at h
     · cases h
     ·
      rename_i hc
      have h2:cutAt 10 r=none:=by
       cases hr:cutAt 10 r with
       | none=>rfl
       | some y=>rw [hr] at h;cases h
      intro hm
      rcases List.mem_cons.1 hm with hm | hm
      · exact hc hm.symm
      · exact ih h2 hm
theorem wV (e:Nm):∀f s b r,ji e f s=.ok (b,r)→(10:UInt8)∉e∧∃xs,b=od xs∧∀x∈xs,(10:UInt8)∉x∧x≠e
 | 0,s,b,r,h=>by cases h
 | f+1,s,b,r,h=>by
   unfold ji at h
   split at h
   · cases h
   ·
    split at h
    ·
     rename_i he
     injection h with h
     injection h with h1 h2
     exact ⟨he ▸ uY s,[],h1.symm,fun x hx=>absurd hx List.not_mem_nil⟩
    ·
     rename_i he
     obtain ⟨p,h2,h3⟩:=cH h
     obtain ⟨h4,xs,h5,h6⟩:=wV e f _ _ _ h2
     simp only at h3
     refine ⟨h4,(cD s).1::xs,?_,fun x hx=>?_⟩
     ·
      rw [h3,h5]
      show (cD s).1++[10]++od xs=(cD s).1++10::od xs
      simp
     ·
      rcases List.mem_cons.1 hx with rfl | hx
      · exact ⟨uY s,he⟩
      · exact h6 x hx
def qQ (w b:Nm):Prop:=∀r,gW (bare w) (b++(bare w++10::r))=.ok (b,r)
theorem JA {w s b r:Nm} (h:gW (bare w) s=.ok (b,r)):qQ w b:=by
 obtain ⟨h1,xs,rfl,h2⟩:=wV _ _ _ _ _ h
 exact fun r=>xa _ _ h1 xs h2
def TK (u:Tok):Prop:=(u.k=1∧WG u.t)∨(u.k=2∧u.t∈jk)∨(u.k=3∧u.t=[])∨(u.k=4∧u.t=[])∨(u.k=5∧u.t.all oG=true)
def sf (t:Tok):Bool:=decide (t.k=2) && decide (t.t=[60,60])
def yC:Option Tok→Bool
 | some t=>sf t
 | none=>false
def hereAt (l:List Tok):Nat→Bool
 | 0=>false
 | j+1=>yC l[j]?
structure ud (l:List Tok) (h:List Nat):Prop where
 kind:∀u∈l,TK u
 nodup:h.Nodup
 low:∀i∈h,i < l.length
 ats:∀i u,l[i]? =some u→(i∈h→u.b=[]∧hereAt l i=true∧u.k=1)∧(i∉h→if hereAt l i=true∧u.k=1 then qQ u.t u.b else u.b=[])
theorem nP {l m:List Tok} {i:Nat} (h:i≤l.length):hereAt (l++m) i=hereAt l i:=by
 cases i with
 | zero=>rfl
 | succ j=>show yC (l++m)[j]? =yC l[j]?;rw [List.getElem?_append_left (by omega)]
theorem wu (l:List Tok):hereAt l l.length=cW l:=by
 unfold cW
 cases hl:l.getLast? with
 | none=>
   rw [List.getLast?_eq_none_iff.1 hl];rfl
 | some t=>
   cases hn:l.length with
   | zero=>
     rw [List.length_eq_zero_iff.1 hn] at hl
     cases hl
   | succ n=>
     show yC l[n]? =_
     rw [List.getLast?_eq_getElem?,hn] at hl
     rw [show l[n]? =some t from hl]
     rfl
theorem pc {l:List Tok} {h:List Nat} (hw:ud l h) {u:Tok} (hk:TK u) (hb:u.b=[]) (hn:hereAt l l.length=true→u.k≠1):ud (l++[u]) h where
 kind v hv:=by
  rcases List.mem_append.1 hv with hv | hv
  · exact hw.kind v hv
  · rw [List.mem_singleton.1 hv];exact hk
 nodup:=hw.nodup
 low i hi:=by have:=hw.low i hi;simp;omega
 ats i v hv:=by
  by_cases hl:i < l.length
  ·
   rw [List.getElem?_append_left hl] at hv
   rw [nP (Nat.le_of_lt hl)]
   exact hw.ats i v hv
  ·
   rw [List.getElem?_append_right (by omega)] at hv
   cases hj:i - l.length with
   | zero=>
     rw [hj] at hv
     injection hv with hv
     subst hv
     have e:i=l.length:=by omega
     subst e
     refine ⟨fun hm=>absurd (hw.low _ hm) (Nat.lt_irrefl _),fun _=>?_⟩
     rw [nP (Nat.le_refl _),if_neg (fun hc=>hn hc.1 hc.2)]
     exact hb
   | succ j=>rw [hj] at hv;cases hv
theorem KU {l:List Tok} {h:List Nat} (hw:ud l h) {u:Tok} (hk:TK u) (JG:u.k=1) (hb:u.b=[]) (hn:hereAt l l.length=true):ud (l++[u]) (h++[l.length]) where
 kind v hv:=by
  rcases List.mem_append.1 hv with hv | hv
  · exact hw.kind v hv
  · rw [List.mem_singleton.1 hv];exact hk
 nodup:=by
  rw [List.nodup_append]
  refine ⟨hw.nodup,by simp,fun a ha b hb e=>?_⟩
  have:=hw.low a ha
  rw [List.mem_singleton.1 hb] at e
  omega
 low i hi:=by
  rcases List.mem_append.1 hi with hi | hi
  · have:=hw.low i hi;simp;omega
  · rw [List.mem_singleton.1 hi];simp
 ats i v hv:=by
  by_cases hl:i < l.length
  ·
   rw [List.getElem?_append_left hl] at hv
   rw [nP (Nat.le_of_lt hl)]
   have:=hw.ats i v hv
   refine ⟨fun hi=>?_,fun hi=>this.2 fun h=>hi (List.mem_append_left _ h)⟩
   rcases List.mem_append.1 hi with hi | hi
   · exact this.1 hi
   · rw [List.mem_singleton.1 hi] at hl;omega
  ·
   rw [List.getElem?_append_right (by omega)] at hv
   cases hj:i - l.length with
   | zero=>
     rw [hj] at hv
     injection hv with hv
     subst hv
     have e:i=l.length:=by omega
     subst e
     exact ⟨fun _=>⟨hb,by rw [nP (Nat.le_refl _)];exact hn,JG⟩,fun hi=>absurd (List.mem_append_right _ (List.mem_singleton.2 rfl)) hi⟩
   | succ j=>rw [hj] at hv;cases hv
theorem nB (x:Nm) (l:List Tok) (i j:Nat):(l.modify i (dC x))[j]? =(l[j]?).map fun t=>if i=j then dC x t else t:=by
 rw [List.getElem?_modify]
 rfl
theorem G7 (x:Nm) (l:List Tok) (i j:Nat):hereAt (l.modify i (dC x)) j=hereAt l j:=by
 cases j with
 | zero=>rfl
 | succ j=>
   show yC (l.modify i (dC x))[j]? =yC l[j]?
   rw [nB]
   cases l[j]? with
   | none=>rfl
   | some t=>
     simp only [Option.map_some]
     split<;>rfl
theorem JM {l:List Tok} {i:Nat} {h:List Nat} (hw:ud l (i::h)) {s x r:Nm} (e:gW (ed l i) s=.ok (x,r)):ud (l.modify i (dC x)) h:=by
 have hi:=hw.low i List.mem_cons_self
 have hnd:=List.nodup_cons.1 hw.nodup
 have mv:=List.getElem?_eq_getElem hi
 have Lf:ed l i=bare l[i].t:=by unfold ed;rw [mv]
 rw [Lf] at e
 refine ⟨fun u hu=>?_,hnd.2,fun j hj=>?_,fun j u hj=>?_⟩
 ·
  obtain ⟨j,hj⟩:=List.mem_iff_getElem?.1 hu
  rw [nB] at hj
  obtain ⟨v,hv,rfl⟩:=Option.map_eq_some_iff.1 hj
  have:=hw.kind v (List.mem_of_getElem? hv)
  split
  · exact this
  · exact this
 · rw [List.length_modify];exact hw.low j (List.mem_cons_of_mem _ hj)
 ·
  rw [nB] at hj
  obtain ⟨v,hv,rfl⟩:=Option.map_eq_some_iff.1 hj
  have h1:=hw.ats j v hv
  rw [G7]
  by_cases hij:i=j
  ·
   subst hij
   rw [if_pos rfl]
   obtain ⟨hb,hp,hk⟩:=h1.1 List.mem_cons_self
   have hv2:v=l[i]:=by rw [mv] at hv;injection hv with hv;exact hv.symm
   have hx:(dC x v).b=x:=by show v.b++x=x;rw [hb];rfl
   refine ⟨fun hm=>absurd hm hnd.1,fun _=>?_⟩
   rw [if_pos ⟨hp,hk⟩,hx]
   show qQ v.t x
   rw [hv2]
   exact JA e
  ·
   rw [if_neg hij]
   refine ⟨fun hm=>h1.1 (List.mem_cons_of_mem _ hm),fun hm=>h1.2 fun h=>?_⟩
   rcases List.mem_cons.1 h with h | h
   · exact hij h.symm
   · exact hm h
theorem uL:∀(h:List Nat) (l:List Tok) (s:Nm) (x:List Tok × Nm),ud l h→cX h l s=.ok x→ud x.1 []
 | [],l,s,x,hw,e=>by injection e with e;subst e;exact hw
 | i::is,l,s,x,hw,e=>by
   obtain ⟨y,h1,h2⟩:=aZ (x:=gW (ed l i) s) e
   exact uL is _ _ x (JM hw (r:=y.2) h1) h2
theorem Oa {g:Nat} {l:List Tok} {h:List Nat} {s:Nm} {x:St} (hw:ud l h) (e:eY g l h s=.ok x):ud x.1 x.2.1:=by
 cases s with
 | nil=>injection e with e;subst e;exact hw
 | cons c r=>
   unfold eY at e
   simp only at e
   split at e
   ·
    obtain ⟨y,h1,h2⟩:=aZ e
    injection h2 with h2;subst h2
    exact uL h _ r y (pc hw (.inr (.inr (.inl ⟨rfl,rfl⟩))) rfl (fun _=>by show (3:Nat)≠1;decide)) h1
   ·
    rename_i h10
    split at e
    · injection e with e;subst e;exact hw
    ·
     rename_i uR
     split at e
     · injection e with e;subst e;exact hw
     ·
      rename_i hj
      split at e
      · injection e with e;subst e;exact hw
      ·
       rename_i hb
       split at e
       ·
        rename_i o ho
        injection e with e;subst e
        exact pc hw (.inr (.inl ⟨rfl,(rL ho).2⟩)) rfl (fun _=>by show (2:Nat)≠1;decide)
       ·
        rename_i hn
        split at e
        · cases e
        ·
         rename_i ET
         obtain ⟨y,h1,h2⟩:=aZ e
         split at h2
         ·
          rename_i rb
          injection h2 with h2;subst h2
          unfold kR at rb
          simp only [Bool.and_eq_true] at rb
          exact pc hw (.inr (.inr (.inr (.inr ⟨rfl,rb.1.2⟩)))) rfl (fun _=>by show (5:Nat)≠1;decide)
         ·
          injection h2 with h2;subst h2
          have hk:TK ⟨1,y.1,[],g⟩:=.inl ⟨rfl,YZ (rest:=y.2) (vM h10 hb hn ET) uR (by simpa using hj) h1⟩
          simp only
          split
          ·
           rename_i hh
           exact KU hw hk rfl rfl (by rw [wu];exact hh)
          ·
           rename_i hh
           exact pc hw hk rfl (fun hc=>absurd (by rw [←wu];exact hc) hh)
theorem C4 (K:Nat):∀(n:Nat) (l:List Tok) (h:List Nat) (s:Nm) (L:List Tok),s.length≤n→ud l h→mF K (l,h,s)=.ok L→ud L []
 | n,l,h,[],L,_,hw,e=>by
   rw [oC] at e
   split at e
   ·
    rename_i hh
    injection e with e
    subst e
    subst hh
    exact pc hw (.inr (.inr (.inr (.inl ⟨rfl,rfl⟩)))) rfl (fun _=>by show (4:Nat)≠1;decide)
   · cases e
 | 0,l,h,c::r,L,hl,_,_=>absurd hl (by simp)
 | n+1,l,h,c::r,L,hl,hw,e=>by
   rw [dn K l h (by simp)] at e
   cases ho:eY (K - nl (c::r)) l h (c::r) with
   | error z=>rw [ho] at e;cases e
   | ok x=>
     rw [ho] at e
     have:=one_len (by simp) ho
     exact C4 K n x.1 x.2.1 x.2.2 L (by simp at hl this;omega) (Oa hw ho) e
structure LOk (L:List Tok):Prop where
 kind:∀u∈L,TK u
 pair:∀pre t u post,L=pre++t::u::post→u.k=1→if sf t=true then qQ u.t u.b else u.b=[]
 io:∀pre t u post,L=pre++t::u::post→t.k=5→u.t∈vv
 last:∀pre t,L=pre++[t]→t.k=4
theorem Fl:∀(pre:List Tok) (t u:Tok) (post:List Tok),Pd (pre++t::u::post)→t.k=5→u.t∈vv
 | [],t,u,post,h,hk=>h.1 hk
 | [v],t,u,post,h,hk=>Fl [] t u post h.2 hk
 | v::w::pre,t,u,post,h,hk=>Fl (w::pre) t u post h.2 hk
theorem VZ {s:Nm} {L:List Tok} (e:allM s=.ok L):LOk L:=by
 have hw:ud L []:=C4 _ s.length [] [] s L (Nat.le_refl _) ⟨fun u hu=>absurd hu List.not_mem_nil,List.nodup_nil,fun i hi=>absurd hi List.not_mem_nil,fun i u hu=>by cases hu⟩ e
 obtain ⟨_,h2,l0,t0,h3,h4,_⟩:=Hy e
 refine ⟨hw.kind,fun pre t u post hL hk=>?_,fun pre t u post hL hk=>Fl pre t u post (hL ▸ h2) hk,fun pre t hL=>?_⟩
 ·
  have mv:L[pre.length+1]? =some u:=by rw [hL,List.getElem?_append_right (by omega),Nat.add_sub_cancel_left];rfl
  have hh:hereAt L (pre.length+1)=sf t:=by
   show yC L[pre.length]? =_
   rw [hL,List.getElem?_append_right (Nat.le_refl _),Nat.sub_self]
   rfl
  have:=(hw.ats _ u mv).2 List.not_mem_nil
  rw [hh] at this
  split
  ·
   rename_i ht
   rw [if_pos ⟨ht,hk⟩] at this
   exact this
  ·
   rename_i ht
   rw [if_neg (fun hc=>ht hc.1)] at this
   exact this
 ·
  rw [h3] at hL
  have:=(List.append_inj' hL rfl).2
  injection this with this
  rw [←this];exact h4
end Go.Proofs.YtiklkhbfilbpeaaGreatDoor.Lx
namespace Go.Proofs.YtiklkhbfilbpeaaGreatDoor.Un
open Lx Sy
structure RG (x:dZ):Prop where
 fd:x.fd≤99
 op:x.o=[60]∨x.o=[62]∨x.o=[60,60]∨x.o=[62,62]
 wg:WG x.w
 here:x.o=[60,60]→qQ x.w x.b
 none:x.o≠[60,60]→x.b=[]
structure Q6 (w:Nm):Prop where
 ne:w≠[]
 plain:w.all jm=true
 Zn:w.head?≠some 35
abbrev opsL:List Nm:=[[124],[38,38],[124,124],[40],[41],[59,59]]
def jb:List Ac→Prop
 | []=>True
 | .sp::_=>True
 | .nl::_=>True
 | .op o::_=>o=[124]∨o=[41]
 | _=>False
def Tm:List Ac→Prop
 | .sp::_=>True
 | .wd _::_=>True
 | _=>False
def ki:List Ac→Prop
 | []=>True
 | .sp::a=>ki a
 | .nl::a=>ki a
 | .wd w::a=>WG w∧jb a∧ki a
 | .op o::a=>o∈opsL∧(o=[124]→Tm a)∧ki a
 | .fn w::a=>Q6 w∧ki a
 | .rd x::a=>RG x∧jb a∧ki a
def CW:Ac→Nm→Nm × Nm
 | .sp,bs=>([32],bs)
 | .wd w,bs=>(w,bs)
 | .op o,bs=>(o,bs)
 | .fn w,bs=>(w++[40,41],bs)
 | .nl,bs=>(10::bs,[])
 | .rd x,bs=>(Lib.itoa (x.fd:Int)++(x.o++x.w),if x.o=[60,60] then bs++(x.b++(Lx.bare x.w++[10])) else bs)
def jR:List Ac→Nm→Nm × Nm
 | [],bs=>([],bs)
 | x::a,bs=>((CW x bs).1++(jR a (CW x bs).2).1,(jR a (CW x bs).2).2)
theorem Mt (x:Ac) (s:PS):Pp x s=(s.1++(CW x s.2).1,(CW x s.2).2):=by
 cases x with
 | rd x=>
   show fX x s=_
   unfold fX CW
   rfl
 | _=>rfl
theorem Jf:∀(a:List Ac) (s:PS),dz a s=(s.1++(jR a s.2).1,(jR a s.2).2)
 | [],s=>by show s=(s.1++[],s.2);rw [List.append_nil]
 | x::a,s=>by
   rw [bt,Jf a,Mt]
   show (_,_)=(_,_)
   simp only [jR,List.append_assoc]
def xX:Ac→List Tok
 | .sp=>[]
 | .wd w=>[⟨1,w,[],0⟩]
 | .op o=>[⟨2,o,[],0⟩]
 | .fn w=>[⟨1,w,[],0⟩,⟨2,[40],[],0⟩,⟨2,[41],[],0⟩]
 | .nl=>[⟨3,[],[],0⟩]
 | .rd x=>[⟨5,Lib.itoa (x.fd:Int),[],0⟩,⟨2,x.o,[],0⟩,⟨1,x.w,x.b,0⟩]
def aX (a:List Ac):List Tok:=a.flatMap xX
def z0 (t:Tok):Tok:={ t with ln:=0 }
def fill (p:List (Nat × Nm)) (l:List Tok):List Tok:=p.foldl (fun l x=>l.modify x.1 (dC x.2)) l
def fI (l:List Tok) (p:List (Nat × Nm)):Nm:=p.flatMap fun x=>x.2++(ed l x.1++[10])
def zb (l:List Tok) (p:List (Nat × Nm)):Prop:=∀x∈p,∃t,l[x.1]? =some t∧qQ t.t x.2
theorem FZ (x:Nm) (l:List Tok) (i j:Nat):ed (l.modify i (dC x)) j=ed l j:=by
 unfold ed
 rw [nB]
 cases l[j]? with
 | none=>rfl
 | some t=>simp only [Option.map_some];split<;>rfl
theorem Oe (x:Nm) (i:Nat) (l:List Tok) (p:List (Nat × Nm)):fI (l.modify i (dC x)) p=fI l p:=by
 unfold fI
 congr 1
 funext y
 rw [FZ]
theorem Nr {l:List Tok} {p:List (Nat × Nm)} (h:zb l p) (x:Nm) (i:Nat):zb (l.modify i (dC x)) p:=fun y hy=>by
 obtain ⟨t,h1,h2⟩:=h y hy
 refine ⟨if i=y.1 then dC x t else t,by rw [nB,h1];rfl,?_⟩
 split
 · exact h2
 · exact h2
theorem uK:∀(p:List (Nat × Nm)) (l:List Tok) (r:Nm),zb l p→cX (p.map Prod.fst) l (fI l p++r)=.ok (fill p l,r)
 | [],l,r,_=>rfl
 | (i,b)::p,l,r,h=>by
   obtain ⟨t,h1,h2⟩:=h (i,b) List.mem_cons_self
   have hb:ed l i=Lx.bare t.t:=by unfold ed;rw [show l[i]? =some t from h1]
   have e:fI l ((i,b)::p)++r=b++(ed l i++10::(fI l p++r)):=by
    unfold fI
    rw [List.flatMap_cons]
    simp
   show lz (gW (ed l i) (fI l ((i,b)::p)++r)) (fun x=>cX (p.map Prod.fst) (l.modify i (dC x.1)) x.2)=_
   rw [e,hb,h2,iL]
   simp only
   rw [←Oe b i l p,uK p (l.modify i (dC b)) r (Nr (fun y hy=>h y (List.mem_cons_of_mem _ hy)) b i)]
   rfl
theorem FV (x:Nm) (l m:List Tok) (i:Nat) (h:i < l.length):(l++m).modify i (dC x)=l.modify i (dC x)++m:=by
 apply List.ext_getElem?
 intro j
 rw [nB]
 by_cases hj:j < l.length
 · rw [List.getElem?_append_left hj,List.getElem?_append_left (by rw [List.length_modify];exact hj),nB]
 ·
  rw [List.getElem?_append_right (by omega),List.getElem?_append_right (by rw [List.length_modify];omega),List.length_modify]
  cases m[j - l.length]? with
  | none=>rfl
  | some t=>simp only [Option.map_some];rw [if_neg (by omega)]
theorem lf:∀(p:List (Nat × Nm)) (l m:List Tok),(∀x∈p,x.1 < l.length)→fill p (l++m)=fill p l++m
 | [],l,m,_=>rfl
 | x::p,l,m,h=>by
   show fill p ((l++m).modify x.1 (dC x.2))=fill p (l.modify x.1 (dC x.2))++m
   rw [FV _ _ _ _ (h x List.mem_cons_self),lf p _ m fun y hy=>by rw [List.length_modify];exact h y (List.mem_cons_of_mem _ hy)]
theorem kV {l:List Tok} {p:List (Nat × Nm)} (h:zb l p):∀x∈p,x.1 < l.length:=fun x hx=>by
 obtain ⟨t,h1,_⟩:=h x hx
 exact (List.getElem?_eq_some_iff.1 h1).1
theorem mN {l:List Tok} {p:List (Nat × Nm)} (h:zb l p) (m:List Tok):zb (l++m) p:=fun x hx=>by
 obtain ⟨t,h1,h2⟩:=h x hx
 exact ⟨t,by rw [List.getElem?_append_left (List.getElem?_eq_some_iff.1 h1).1];exact h1,h2⟩
theorem pJ {l:List Tok} {p:List (Nat × Nm)} (h:zb l p) (m:List Tok):fI (l++m) p=fI l p:=by
 unfold fI
 rw [List.flatMap_def,List.flatMap_def]
 congr 1
 refine List.map_congr_left fun x hx=>?_
 unfold ed
 rw [List.getElem?_append_left (kV h x hx)]
theorem JC (l:List Tok) (p:List (Nat × Nm)) (i:Nat) (b:Nm):fI l (p++[(i,b)])=fI l p++(b++(ed l i++[10])):=by
 unfold fI
 rw [List.flatMap_append]
 simp
theorem Kg (p:List (Nat × Nm)) (l:List Tok) (i:Nat) (b:Nm):fill (p++[(i,b)]) l=(fill p l).modify i (dC b):=by
 unfold fill
 rw [List.foldl_append];rfl
theorem DI:∀(p:List (Nat × Nm)) (l:List Tok),(fill p l).length=l.length
 | [],l=>rfl
 | x::p,l=>by show (fill p _).length=_;rw [DI p,List.length_modify]
def WT (T:Nm):Prop:=T=[]∨∃c r,T=c::r∧(c=32∨c=10∨c=124∨c=41)
theorem zB:∀{a:List Ac} (bs:Nm),jb a→WT (jR a bs).1
 | [],bs,_=>.inl rfl
 | .sp::a,bs,_=>.inr ⟨32,_,rfl,.inl rfl⟩
 | .nl::a,bs,_=>.inr ⟨10,_,rfl,.inr (.inl rfl)⟩
 | .op o::a,bs,h=>by
   rcases h with rfl | rfl
   · exact .inr ⟨124,_,rfl,.inr (.inr (.inl rfl))⟩
   · exact .inr ⟨41,_,rfl,.inr (.inr (.inr rfl))⟩
 | .wd _::_,_,h=>h.elim
 | .fn _::_,_,h=>h.elim
 | .rd _::_,_,h=>h.elim
theorem Ki {T:Nm} (h:WT T):ends T=true∧bad T=false∧has [60] T=false∧has [62] T=false:=by
 rcases h with rfl | ⟨c,r,rfl,hc⟩
 · exact ⟨rfl,rfl,rfl,rfl⟩
 ·
  rcases hc with rfl | rfl | rfl | rfl
  all_goals
   refine ⟨rfl,rD (by decide) (by decide) (by decide),?_,?_⟩<;>(rw [cm];rfl)
theorem vV {w:Nm} (h:WG w):∃c r,w=c::r∧xw.contains c=false∧c≠35∧c≠10:=by
 cases w with
 | nil=>exact absurd rfl h.ne
 | cons c r=>
   have hb:xw.contains c=false:=h.nob []
   exact ⟨c,r,rfl,hb,fun e=>h.Zn (by rw [e];rfl),fun e=>by subst e;exact absurd hb (by decide)⟩
theorem LP:∀{a:List Ac} (bs:Nm),ki a→Tm a→has [124] (jR a bs).1=false
 | .sp::a,bs,_,_=>by show has [124] (32::_)=false;rw [cm];rfl
 | .wd w::a,bs,h,_=>by
   obtain ⟨c,r,rfl,hb,_⟩:=vV h.1
   show has [124] (c::_)=false
   rw [cm]
   exact decide_eq_false fun e=>by subst e;exact absurd hb (by decide)
 | [],_,_,h=>h.elim
 | .nl::_,_,_,h=>h.elim
 | .op _::_,_,_,h=>h.elim
 | .fn _::_,_,_,h=>h.elim
 | .rd _::_,_,_,h=>h.elim
theorem Nn {g:Nat} {l:List Tok} {h:List Nat} {w:Nm} (hw:WG w) {T:Nm} (hT:WT T):eY g l h (w++T)=.ok (l++[⟨1,w,[],g⟩],if cW l then h++[l.length] else h,T):=by
 obtain ⟨h1,h2,h3,h4⟩:=Ki hT
 have QZ:=hw.again T h1 h2
 have hnj:=hw.noj T
 obtain ⟨c,r,rfl,hb,uR,h10⟩:=vV hw
 rw [List.cons_append] at QZ hnj ⊢
 rw [Cy h10 uR hnj hb,QZ,iL]
 have rb:kR (c::(r++T)) (c::r) T=false:=by
  unfold kR
  rw [h3,h4]
  simp
 simp only
 rw [if_neg (by simp only [rb];decide)]
theorem Ge {g:Nat} {l:List Tok} {h:List Nat} {o:Nm} (ho:o∈opsL) {T:Nm} (hb:o=[124]→has [124] T=false):eY g l h (o++T)=.ok (l++[⟨2,o,[],g⟩],h,T):=by
 simp [opsL] at ho
 rcases ho with rfl | rfl | rfl | rfl | rfl | rfl
 ·
  have hb:=hb rfl
  cases T with
  | nil=>rfl
  | cons c r=>
    rw [cm] at hb
    have hc:¬124=c:=of_decide_eq_false hb
    have hs:fq (124::c::r)=some [124]:=by
     unfold fq
     have h2:has [124,124] (124::c::r)=false:=by simp [has,List.isPrefixOf,hc]
     simp only [jk,List.find?_cons]
     rw [h2]
     simp [has,List.isPrefixOf]
    show eY g l h (124::c::r)=_
    unfold eY
    simp only
    rw [if_neg (by decide),if_neg (by decide),if_neg (by simp [iN (show (124:UInt8)≠92 by decide)]),if_neg (by decide),hs]
    rfl
 all_goals rfl
theorem KE {g:Nat} {l:List Tok} {h:List Nat} {o:Nm} (ho:o=[60]∨o=[62]∨o=[60,60]∨o=[62,62]) {w:Nm} (hw:WG w) (T:Nm):eY g l h (o++(w++T))=.ok (l++[⟨2,o,[],g⟩],h,w++T):=by
 obtain ⟨c,r,rfl,hb,uR,h10⟩:=vV hw
 have c60:¬(60:UInt8)=c:=fun e=>by subst e;exact absurd hb (by decide)
 have c62:¬(62:UInt8)=c:=fun e=>by subst e;exact absurd hb (by decide)
 have hs:∀d:UInt8,d=60∨d=62→fq (d::c::(r++T))=some [d]:=fun d hd=>by
  unfold fq
  rcases hd with rfl | rfl<;>simp [jk,has,List.isPrefixOf,c60,c62]
 rcases ho with rfl | rfl | rfl | rfl
 ·
  show eY g l h (60::c::(r++T))=_
  unfold eY
  simp only
  rw [if_neg (by decide),if_neg (by decide),if_neg (by simp [iN (show (60:UInt8)≠92 by decide)]),if_neg (by decide),hs 60 (.inl rfl)]
  rfl
 ·
  show eY g l h (62::c::(r++T))=_
  unfold eY
  simp only
  rw [if_neg (by decide),if_neg (by decide),if_neg (by simp [iN (show (62:UInt8)≠92 by decide)]),if_neg (by decide),hs 62 (.inr rfl)]
  rfl
 · rfl
 · rfl
theorem BL (n:Nat) (h:n≤99):(Lib.itoa (n:Int)).all oG=true∧(Lib.itoa (n:Int)).all jm=true∧Lib.itoa (n:Int)≠[]∧(Lib.itoa (n:Int)).head?≠some 35∧num (Lib.itoa (n:Int))=n:=by
 have key:∀m:Fin 100,(Lib.itoa ((m.val:Nat):Int)).all oG=true∧(Lib.itoa ((m.val:Nat):Int)).all jm=true∧Lib.itoa ((m.val:Nat):Int)≠[]∧(Lib.itoa ((m.val:Nat):Int)).head?≠some 35∧num (Lib.itoa ((m.val:Nat):Int))=m.val:=by decide+kernel
 exact key ⟨n,by omega⟩
theorem wM {w:Nm} (hp:w.all jm=true) {T:Nm} (hT:ends T=true):fe (w++T)=.ok (w,T):=by
 rw [wP w T hp,Yf hT,xD,List.append_nil]
theorem zH {g:Nat} {l:List Tok} {h:List Nat} {w:Nm} (hp:w.all jm=true) (hne:w≠[]) (uR:w.head?≠some 35) {T:Nm} (hT:ends T=true):eY g l h (w++T)=if kR (w++T) w T then .ok (l++[⟨5,w,[],g⟩],h,T) else .ok (l++[⟨1,w,[],g⟩],if cW l then h++[l.length] else h,T):=by
 have hw:=wM hp hT
 cases w with
 | nil=>exact absurd rfl hne
 | cons c r=>
   rw [List.all_cons,Bool.and_eq_true] at hp
   obtain ⟨hb,kg,_⟩:=oO hp.1
   have h10:c≠10:=fun e=>by subst e;exact absurd hb (by decide)
   rw [List.cons_append] at hw ⊢
   rw [Cy h10 (fun e=>uR (by rw [e];rfl)) (iN kg) hb,hw,iL]
theorem F5 {g:Nat} {l:List Tok} {h:List Nat} (n:Nat) (hn:n≤99) {o:Nm} (ho:o=[60]∨o=[62]∨o=[60,60]∨o=[62,62]) (T:Nm):eY g l h (Lib.itoa (n:Int)++(o++T))=.ok (l++[⟨5,Lib.itoa (n:Int),[],g⟩],h,o++T):=by
 obtain ⟨h1,h2,h3,h4,_⟩:=BL n hn
 have he:ends (o++T)=true:=by rcases ho with rfl | rfl | rfl | rfl<;>rfl
 rw [zH h2 h3 h4 he,if_pos]
 unfold kR
 rw [h1]
 have:(has [60] (o++T) || has [62] (o++T))=true:=by rcases ho with rfl | rfl | rfl | rfl<;>(simp [has,List.isPrefixOf])
 rw [this]
 simp
theorem Wt {g:Nat} {l:List Tok} {h:List Nat} {w:Nm} (hw:Q6 w) (hl:cW l=false) (T:Nm):eY g l h (w++40::T)=.ok (l++[⟨1,w,[],g⟩],h,40::T):=by
 rw [zH hw.plain hw.ne hw.Zn rfl,if_neg,hl]
 · rfl
 ·
  unfold kR
  rw [cm,cm]
  simp
theorem Wx {g:Nat} {l:List Tok} {p:List (Nat × Nm)} (hp:zb l p) (T:Nm):eY g l (p.map Prod.fst) (10::(fI l p++T))=.ok (fill p l++[⟨3,[],[],g⟩],[],T):=by
 show lz (cX (p.map Prod.fst) (l++[⟨3,[],[],g⟩]) (fI l p++T)) (fun x=>Except.ok (x.1,([]:List Nat),x.2))=_
 rw [←pJ hp [⟨3,[],[],g⟩],uK p _ T (mN hp _),iL]
 simp only
 rw [lf p l _ (kV hp)]
theorem oP (a b:List Tok):(a++b).map z0=a.map z0++b.map z0:=List.map_append
theorem xp (l:List Tok) (k:Nat) (t:Nm) (g:Nat) (h:k≠2):cW (l++[⟨k,t,[],g⟩])=false:=by
 unfold cW
 rw [List.getLast?_append]
 show (decide (k=2) && _)=false
 rw [decide_eq_false h];rfl
theorem BI (l:List Tok) (o:Nm) (g:Nat):cW (l++[⟨2,o,[],g⟩])=decide (o=[60,60]):=by
 unfold cW
 rw [List.getLast?_append]
 show (decide ((2:Nat)=2) && decide (o=[60,60]))=_
 rw [decide_eq_true rfl];rfl
theorem lJ (K:Nat):∀(a:List Ac),ki a→∀(l:List Tok) (p:List (Nat × Nm)),zb l p→cW l=false→(jR a (fI l p)).2=[]→
 ∃L,mF K (l,p.map Prod.fst,(jR a (fI l p)).1)=.ok L∧L.map z0=(fill p l).map z0++(aX a++[⟨4,[],[],0⟩])
 | [],_,l,p,hp,hl,he=>by
   have he:fI l p=[]:=he
   have jN:p=[]:=by
    cases p with
    | nil=>rfl
    | cons x p=>
      exfalso
      unfold fI at he
      rw [List.flatMap_cons] at he
      have:=congrArg List.length he
      simp at this
   subst jN
   refine ⟨l++[⟨4,[],[],K⟩],?_,?_⟩
   ·
    show mF K (l,[],[])=_
    rw [oC,if_pos rfl]
   · rw [oP];rfl
 | .sp::a,h,l,p,hp,hl,he=>by
   obtain ⟨L,h1,h2⟩:=lJ K a h l p hp hl he
   refine ⟨L,?_,h2⟩
   show mF K (l,p.map Prod.fst,32::(jR a (fI l p)).1)=_
   rw [dn K l _ (by simp),Ky]
   exact h1
 | .nl::a,h,l,p,hp,hl,he=>by
   obtain ⟨g,hg⟩:∃g,K - nl (10::(fI l p++(jR a []).1))=g:=⟨_,rfl⟩
   have he:(jR a []).2=[]:=he
   obtain ⟨L,h1,h2⟩:=lJ K a h (fill p l++[⟨3,[],[],g⟩]) [] (fun x hx=>absurd hx List.not_mem_nil) (xp _ _ _ _ (by decide)) he
   refine ⟨L,?_,?_⟩
   ·
    show mF K (l,p.map Prod.fst,(10::fI l p)++(jR a []).1)=_
    rw [List.cons_append,dn K l _ (by simp),hg,Wx hp]
    exact h1
   ·
    rw [h2]
    show (fill p l++[(⟨3,[],[],g⟩:Tok)]).map z0++(aX a++_)=(fill p l).map z0++((⟨3,[],[],0⟩:Tok)::aX a++_)
    rw [oP]
    simp [z0]
 | .wd w::a,h,l,p,hp,hl,he=>by
   obtain ⟨hw,hn,ha⟩:=h
   have hT:=zB (fI l p) hn
   obtain ⟨g,hg⟩:∃g,K - nl (w++(jR a (fI l p)).1)=g:=⟨_,rfl⟩
   have Kj:=pJ hp [⟨1,w,[],g⟩]
   obtain ⟨L,h1,h2⟩:=lJ K a ha (l++[⟨1,w,[],g⟩]) p (mN hp _) (xp _ _ _ _ (by decide)) (by rw [Kj];exact he)
   rw [Kj] at h1
   refine ⟨L,?_,?_⟩
   ·
    show mF K (l,p.map Prod.fst,w++(jR a (fI l p)).1)=_
    rw [dn K l _ (by obtain ⟨c,r,rfl,_⟩:=vV hw;simp),hg,Nn hw hT,hl]
    exact h1
   ·
    rw [h2,lf p l _ (kV hp),oP]
    show _=(fill p l).map z0++((⟨1,w,[],0⟩:Tok)::aX a++_)
    simp [z0]
 | .op o::a,h,l,p,hp,hl,he=>by
   obtain ⟨ho,hn,ha⟩:=h
   have hT:=fun e=>LP (fI l p) ha (hn e)
   obtain ⟨g,hg⟩:∃g,K - nl (o++(jR a (fI l p)).1)=g:=⟨_,rfl⟩
   have Kj:=pJ hp [⟨2,o,[],g⟩]
   have hh:cW (l++[⟨2,o,[],g⟩])=false:=by
    rw [BI]
    refine decide_eq_false fun e=>?_
    subst e
    revert ho
    decide
   obtain ⟨L,h1,h2⟩:=lJ K a ha (l++[⟨2,o,[],g⟩]) p (mN hp _) hh (by rw [Kj];exact he)
   rw [Kj] at h1
   refine ⟨L,?_,?_⟩
   ·
    show mF K (l,p.map Prod.fst,o++(jR a (fI l p)).1)=_
    rw [dn K l _ (by simp [opsL] at ho;rcases ho with rfl | rfl | rfl | rfl | rfl | rfl<;>simp),hg,Ge ho hT]
    exact h1
   ·
    rw [h2,lf p l _ (kV hp),oP]
    show _=(fill p l).map z0++((⟨2,o,[],0⟩:Tok)::aX a++_)
    simp [z0]
 | .fn w::a,h,l,p,hp,hl,he=>by
   obtain ⟨hw,ha⟩:=h
   obtain ⟨T,hT⟩:∃T,(jR a (fI l p)).1=T:=⟨_,rfl⟩
   obtain ⟨g,hg⟩:∃g,K - nl (w++40::41::T)=g:=⟨_,rfl⟩
   obtain ⟨g2,hg2⟩:∃g,K - nl (40::41::T)=g:=⟨_,rfl⟩
   obtain ⟨g3,hg3⟩:∃g,K - nl (41::T)=g:=⟨_,rfl⟩
   have Kj:=pJ hp [⟨1,w,[],g⟩,⟨2,[40],[],g2⟩,⟨2,[41],[],g3⟩]
   have e3:l++[(⟨1,w,[],g⟩:Tok)]++[⟨2,[40],[],g2⟩]++[⟨2,[41],[],g3⟩]=l++[⟨1,w,[],g⟩,⟨2,[40],[],g2⟩,⟨2,[41],[],g3⟩]:=by simp
   obtain ⟨L,h1,h2⟩:=lJ K a ha (l++[⟨1,w,[],g⟩,⟨2,[40],[],g2⟩,⟨2,[41],[],g3⟩]) p (mN hp _) (by rw [←e3,BI];rfl) (by rw [Kj];exact he)
   rw [Kj,hT] at h1
   refine ⟨L,?_,?_⟩
   ·
    show mF K (l,p.map Prod.fst,(w++[40,41])++(jR a (fI l p)).1)=_
    have e:(w++[40,41])++(jR a (fI l p)).1=w++40::41::T:=by rw [hT];simp
    rw [e,dn K l _ (by simp),hg,Wt hw hl]
    simp only
    rw [dn K _ _ (by simp),hg2]
    have o1:=Ge (g:=g2) (l:=l++[⟨1,w,[],g⟩]) (h:=p.map Prod.fst) (o:=[40]) (by decide) (T:=41::T) (fun e=>by cases e)
    rw [show ([40]:Nm)++41::T=40::41::T from rfl] at o1
    rw [o1]
    simp only
    rw [dn K _ _ (by simp),hg3]
    have o2:=Ge (g:=g3) (l:=l++[⟨1,w,[],g⟩]++[⟨2,[40],[],g2⟩]) (h:=p.map Prod.fst) (o:=[41]) (by decide) (T:=T) (fun e=>by cases e)
    rw [show ([41]:Nm)++T=41::T from rfl] at o2
    rw [o2]
    simp only
    rw [e3]
    exact h1
   ·
    rw [h2,lf p l _ (kV hp),oP]
    show _=(fill p l).map z0++((⟨1,w,[],0⟩:Tok)::⟨2,[40],[],0⟩::⟨2,[41],[],0⟩::aX a++_)
    simp [z0]
 | .rd x::a,h,l,p,hp,hl,he=>by
   obtain ⟨hx,hn,ha⟩:=h
   obtain ⟨bs2,RO⟩:∃b,(CW (.rd x) (fI l p)).2=b:=⟨_,rfl⟩
   have hT:=zB bs2 hn
   obtain ⟨T,Xw⟩:∃T,(jR a bs2).1=T:=⟨_,rfl⟩
   rw [Xw] at hT
   have he:(jR a bs2).2=[]:=by rw [←RO];exact he
   obtain ⟨g,hg⟩:∃g,K - nl (Lib.itoa (x.fd:Int)++(x.o++(x.w++T)))=g:=⟨_,rfl⟩
   obtain ⟨g2,hg2⟩:∃g,K - nl (x.o++(x.w++T))=g:=⟨_,rfl⟩
   obtain ⟨g3,hg3⟩:∃g,K - nl (x.w++T)=g:=⟨_,rfl⟩
   obtain ⟨m,hm⟩:∃m:List Tok,m=[⟨5,Lib.itoa (x.fd:Int),[],g⟩,⟨2,x.o,[],g2⟩,⟨1,x.w,[],g3⟩]:=⟨_,rfl⟩
   have e3:l++[(⟨5,Lib.itoa (x.fd:Int),[],g⟩:Tok)]++[⟨2,x.o,[],g2⟩]++[⟨1,x.w,[],g3⟩]=l++m:=by rw [hm];simp
   have Kj:=pJ hp m
   have hlen:(l++[(⟨5,Lib.itoa (x.fd:Int),[],g⟩:Tok)]++[(⟨2,x.o,[],g2⟩:Tok)]).length=l.length+2:=by simp
   have mv:(l++m)[l.length+2]? =some ⟨1,x.w,[],g3⟩:=by
    rw [List.getElem?_append_right (by omega),Nat.add_sub_cancel_left,hm];rfl
   have run:∀(q:List Nat),(if decide (x.o=[60,60])=true then p.map Prod.fst++[l.length+2] else p.map Prod.fst)=q→∀L,mF K (l++m,q,T)=.ok L→mF K (l,p.map Prod.fst,(jR (.rd x::a) (fI l p)).1)=.ok L:=by
    intro q hq L hL
    have e:(jR (.rd x::a) (fI l p)).1=Lib.itoa (x.fd:Int)++(x.o++(x.w++T)):=by
     show (Lib.itoa (x.fd:Int)++(x.o++x.w))++(jR a (CW (.rd x) (fI l p)).2).1=_
     rw [RO,Xw]
     simp
    have hne:∀(u v:Nm),u≠[]→u++v≠[]:=fun u v h e=>h (List.append_eq_nil_iff.1 e).1
    rw [e,dn K l _ (hne _ _ (BL x.fd hx.fd).2.2.1),hg,F5 x.fd hx.fd hx.op]
    simp only
    rw [dn K _ _ (hne _ _ (by rcases hx.op with h | h | h | h<;>rw [h]<;>simp)),hg2,KE hx.op hx.wg]
    simp only
    rw [dn K _ _ (hne _ _ hx.wg.ne),hg3,Nn hx.wg hT,BI]
    simp only
    rw [hlen,e3,hq]
    exact hL
   have Am:cW (l++m)=false:=by rw [←e3];exact xp _ _ _ _ (by decide)
   by_cases ho:x.o=[60,60]
   ·
    have hb2:bs2=fI (l++m) (p++[(l.length+2,x.b)]):=by
     rw [JC,Kj,←RO]
     show (if x.o=[60,60] then _ else _)=_
     rw [if_pos ho]
     unfold ed
     rw [mv]
    have fh:zb (l++m) (p++[(l.length+2,x.b)]):=fun y hy=>by
     rcases List.mem_append.1 hy with hy | hy
     · exact mN hp m y hy
     ·
      rw [List.mem_singleton.1 hy]
      exact ⟨_,mv,hx.here ho⟩
    rw [hb2] at Xw he
    obtain ⟨L,h1,h2⟩:=lJ K a ha (l++m) (p++[(l.length+2,x.b)]) fh Am he
    rw [Xw] at h1
    refine ⟨L,run _ (by rw [if_pos (decide_eq_true ho)]) L (by rw [List.map_append] at h1;exact h1),?_⟩
    rw [h2,Kg,lf p l m (kV hp),←DI p l,hm,qK,oP]
    show _=(fill p l).map z0++((⟨5,Lib.itoa (x.fd:Int),[],0⟩:Tok)::⟨2,x.o,[],0⟩::⟨1,x.w,x.b,0⟩::aX a++_)
    simp [z0,dC]
   ·
    have hb2:bs2=fI (l++m) p:=by
     rw [Kj,←RO]
     show (if x.o=[60,60] then _ else _)=_
     rw [if_neg ho]
    rw [hb2] at Xw he
    obtain ⟨L,h1,h2⟩:=lJ K a ha (l++m) p (mN hp m) Am he
    rw [Xw] at h1
    refine ⟨L,run _ (by rw [if_neg (by simpa using ho)]) L h1,?_⟩
    rw [h2,lf p l m (kV hp),oP,hm]
    show _=(fill p l).map z0++((⟨5,Lib.itoa (x.fd:Int),[],0⟩:Tok)::⟨2,x.o,[],0⟩::⟨1,x.w,x.b,0⟩::aX a++_)
    rw [hx.none ho]
    simp [z0]
theorem QY {a:List Ac} (h:ki a) (he:(dz a ([],[])).2=[]):∃L,allM (dz a ([],[])).1=.ok L∧L.map z0=aX a++[⟨4,[],[],0⟩]:=by
 rw [Jf] at he ⊢
 obtain ⟨L,h1,h2⟩:=lJ (1+nl (jR a []).1) a h [] [] (fun x hx=>absurd hx List.not_mem_nil) rfl he
 exact ⟨L,by rw [List.nil_append];exact h1,h2⟩
end Go.Proofs.YtiklkhbfilbpeaaGreatDoor.Un
