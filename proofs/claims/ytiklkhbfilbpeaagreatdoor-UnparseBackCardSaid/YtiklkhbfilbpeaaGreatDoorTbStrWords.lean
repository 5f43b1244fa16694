import Derived.Test.YtiklkhbfilbpeaaGreatDoorTbRegion
import Derived.Test.YtiklkhbfilbpeaaGreatDoorTbWords
set_option maxRecDepth 100000
set_option maxHeartbeats 16000000
set_option linter.unusedVariables false
set_option linter.unusedSimpArgs false
namespace Go.Proofs.YtiklkhbfilbpeaaGreatDoor.Rs
open Go.RowKit Rg
def ft (ops:Array Oper) (o:Oper):List Nat→Nat→Bool
 | [],j=>waits o j
 | k::r,j=>waits o k && match ops[k]? with | none=>false | some ok=>ft ops ok r j
theorem aR {P:Program} {a:Act} {w:World} {post:Value→World→Prop} {dst:Option Tmp} {x:Operand} {s:TypeId} {f:Nat} {ty:TypeId} {pos:String} {after:Array Edge} {guard:Option (Nat × Bool)} (ad:Addr) (u:Value)
 (hx:a.eval x=.pointer (some ad)) (hr:(Instr.fieldAt s (.pointer (some ad)) f).run P w=.ok u w) (hp:post u w):does P { dst,op:=.fieldAddr s x f,type:=ty,pos,after,guard } a w post:=by
 refine bA (v:=u) ?_ hp
 simp [execOp,hx,hr,Result.andThen]
theorem vr {P:Program} {a:Act} {w:World} {post:Value→World→Prop} {dst:Option Tmp} {x:Operand} {t:TypeId} {ty:TypeId} {pos:String} {after:Array Edge} {guard:Option (Nat × Bool)} (s:ByteArray) (ht:P.underlying t=some .string)
 (hx:a.eval x=.string s) (hp:post (.int .i64 (s.size:Int)) w):does P { dst,op:=.call { callee:=.builtin .len,args:=#[x],argTypes:=#[t] },type:=ty,pos,after,guard } a w post:=by
 refine bA (v:=.int .i64 (s.size:Int)) ?_ hp
 have:=run_len_string (P:=P) w t ty s ht
 simp [execOp,resolve,invoke,builtin,hx,this,Result.andThen,goInt]
def upd (ls:Nat→Bool) (i:Nat):Nat→Bool:=fun j=>if j=i then true else ls j
section
variable {P:Program} {ops:Array Oper} {Q:Exit→Act→World→Prop} {R:World→World→Prop} {S:(Nat→Bool)→World→Prop}
structure Inv (R:World→World→Prop) (S:(Nat→Bool)→World→Prop) (n:Nat) (ops:Array Oper) (runs:Nat→Bool) (G:Nat→Value→World→Prop) (a0:Act) (w0:World) (listed:Array Bool) (a:Act) (w:World) (vals:Nat→Value):Prop where
 ext:R w0 w
 st:S (fun i=>listed.getD i false) w
 defers:a.defers=a0.defers
 size:a.tmps.size=a0.tmps.size
 iJ:listed.size=ops.size
 g:∀i,listed.getD i false=true→Gx runs G i (vals i) w
 old:∀t,(∀(j:Nat) (o:Oper),ops[j]? =some o→o.dst=some t→listed.getD j false=false)→a.tmps[t]? =a0.tmps[t]?
 new:∀(j:Nat) (o:Oper) (t:Tmp),ops[j]? =some o→o.dst=some t→listed.getD j false=true→t < a0.tmps.size→a.tmps[t]? =some (vals j)
 closed:∀(j:Nat) (o:Oper),ops[j]? =some o→listed.getD j false=true→∀e∈o.after,Region.binds .any e=true→listed.getD e.on false=true
 tail:∀t,n≤t→listed.getD t false=false
theorem lR {n:Nat} {runs:Nat→Bool} {G:Nat→Value→World→Prop} {a0:Act} {w0:World} {listed:Array Bool} {a:Act} {w:World} {vals:Nat→Value} (inv:Inv R S n ops runs G a0 w0 listed a w vals):
 ∀(p:List Nat) (o:Oper) (j:Nat),(∀e∈o.after,Region.binds .any e=true→listed.getD e.on false=true)→ft ops o p j=true→listed.getD j false=true:=by
 intro p
 induction p with
 | nil=>
   intro o j h hp
   obtain ⟨e,he,hb,vB⟩:=dm hp
   rw [←vB];exact h e he hb
 | cons k r ih=>
   intro o j h hp
   rw [ft,Bool.and_eq_true] at hp
   obtain ⟨e,he,hb,vB⟩:=dm hp.1
   have hk:=h e he hb
   rw [vB] at hk
   cases Cg:ops[k]? with
   | none=>rw [Cg] at hp;simp at hp
   | some ok=>
     rw [Cg] at hp
     exact ih ok j (inv.closed k ok Cg hk) hp.2
end
end Go.Proofs.YtiklkhbfilbpeaaGreatDoor.Rs
namespace Go.Proofs.YtiklkhbfilbpeaaGreatDoor.Sw
open Go.RowKit Base
theorem vH (l:List UInt8) (lo hi:Nat):(str l).extract lo hi=str ((l.take hi).drop lo):=by
 apply Oy
 rw [mZ,ByteArray.data_extract]
 simp only [Array.toList_extract,List.extract_eq_take_drop]
 rw [mZ,List.drop_take]
theorem zO {P:Program} {w:World} {t:TypeId} (ht:P.underlying t=some .string) (l:List UInt8) (k:IntKind) (hi:Nat) (h:hi≤l.length):
 (Instr.sliceAt t (.string (str l)) none (some (.int k (hi:Int))) none).run P w=.ok (.string (str (l.take hi))) w:=by
 rw [run_sliceAt_string w t _ _ _ _ ht,run_slice_string_h w t (str l) ht k hi (by omega) (by rw [aU];omega)]
 rw [Int.toNat_natCast,vH,List.drop_zero]
theorem tL {P:Program} {w:World} {t:TypeId} (ht:P.underlying t=some .string) (l:List UInt8) (k:IntKind) (lo:Nat) (h:lo≤l.length):
 (Instr.sliceAt t (.string (str l)) (some (.int k (lo:Int))) none none).run P w=.ok (.string (str (l.drop lo))) w:=by
 rw [run_sliceAt_string w t _ _ _ _ ht,run_slice_string_l w t (str l) ht k lo (by omega) (by rw [aU];omega)]
 rw [Int.toNat_natCast,vH,List.take_of_length_le (by rw [aU];omega)]
theorem pW {P:Program} {w:World} {t:TypeId} {a b:Int} (h1:-9223372036854775808≤a - b) (h2:a - b≤9223372036854775807):(binOp .sub t (.int .i64 a) (.int .i64 b)).run P w=.ok (.int .i64 (a - b)) w:=by
 rw [binOp_sub]
 simp [Op.intArith,IntKind.wrap_i64]
 omega
theorem rR {P:Program} {w:World} {t:TypeId} {a b:Int} (h1:-9223372036854775808≤a+b) (h2:a+b≤9223372036854775807):(binOp .add t (.int .i64 a) (.int .i64 b)).run P w=.ok (.int .i64 (a+b)) w:=by
 rw [binOp_add]
 simp [Op.intArith,IntKind.wrap_i64]
 omega
theorem mg {P:Program} {w:World} {t:TypeId} (ht:P.underlying t=some .string) (l:List UInt8) (k:IntKind) (i:Nat) (h:i < l.length):
 (Instr.index t (.string (str l)) (.int k (i:Int))).run P w=.ok (.int .u8 ((l[i]).toNat:Int)) w:=by
 have h2:i < (str l).size:=h
 rw [run_index_string w t (str l) k i ht]
 simp [h2]
 rfl
theorem xW {P:Program} {a:Act} {w:World} {post:Value→World→Prop} {dst:Option Tmp} {x y:Operand} {t:TypeId} {ty:TypeId} {pos:String} {after:Array Edge} {guard:Option (Nat × Bool)} (v i u:Value)
 (hx:a.eval x=v) (hy:a.eval y=i) (hr:(Instr.index t v i).run P w=.ok u w) (hp:post u w):Rg.does P { dst,op:=.index t x y,type:=ty,pos,after,guard } a w post:=by
 refine Rg.bA (v:=u) ?_ hp
 simp [execOp,hx,hy,hr,Result.andThen]
theorem rV {P:Program} {a:Act} {w:World} {post:Value→World→Prop} {dst:Option Tmp} {op:BinOp} {x y:Operand} {t u:TypeId} {ty:TypeId} {pos:String} {after:Array Edge} {guard:Option (Nat × Bool)} (m n:ByteArray) (v:Value)
 (hx:a.eval x=.string m) (hy:a.eval y=.string n) (hr:(binOp op t (.string m) (.string n)).run P w=.ok v w) (hp:post v w):Rg.does P { dst,op:=.binOp op t x y u,type:=ty,pos,after,guard } a w post:=by
 refine Rg.bA (v:=v) ?_ hp
 simp [execOp,hx,hy,eqGuard_at_string,hr,Result.andThen]
end Go.Proofs.YtiklkhbfilbpeaaGreatDoor.Sw
