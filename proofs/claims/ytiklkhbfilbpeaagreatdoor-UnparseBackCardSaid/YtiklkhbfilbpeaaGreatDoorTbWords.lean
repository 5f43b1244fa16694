import Derived.Test.YtiklkhbfilbpeaaGreatDoorProg
import Derived.Test.YtiklkhbfilbpeaaGreatDoorTbBase
set_option maxRecDepth 100000
set_option maxHeartbeats 16000000
set_option linter.unusedVariables false
set_option linter.unusedSimpArgs false
namespace Go.Proofs.YtiklkhbfilbpeaaGreatDoor
open Go.RowKit Base
theorem pK:(Tryz.prog.info? 5).map (fun i=>(i.zero,i.size,i.bytes))=some (some (.int .u8 0),1,1):=by kernel_rfl
theorem KH {w:World} {a:Option Addr} {n cap:Nat} {l:List UInt8} (h:Bytes w a n cap l) (lo hi:Nat) (Lz:lo≤hi) (hhi:hi≤n):
 ∃a':Option Addr,Bytes w a' (hi - lo) (cap - lo) ((l.take hi).drop lo)∧∀w':World,
  (∀(k1 k2:IntKind),(Instr.slice 49 (.slice a n cap) (some (.int k1 (lo:Int))) (some (.int k2 (hi:Int))) none).run Tryz.prog w'=.ok (.slice a' (hi - lo) (cap - lo)) w')∧
  (lo=0→∀(k2:IntKind),(Instr.slice 49 (.slice a n cap) none (some (.int k2 (hi:Int))) none).run Tryz.prog w'=.ok (.slice a' (hi - lo) (cap - lo)) w')∧
  (hi=n→∀(k1:IntKind),(Instr.slice 49 (.slice a n cap) (some (.int k1 (lo:Int))) none none).run Tryz.prog w'=.ok (.slice a' (hi - lo) (cap - lo)) w'):=by
 obtain ⟨i,hi',_,hs,_⟩:=info_parts pK
 obtain ⟨a',h1,h2⟩:=h.sub (P:=Tryz.prog) lo hi Lz hhi
 exact ⟨a',h1,fun w'=>h2 49 5 i Tryz.underlying49 hi' hs w'⟩
theorem qb {w:World} {a:Option Addr} {n cap:Nat} {l:List UInt8} (h:Bytes w a n cap l):(convert 49 9 (.slice a n cap)).run Tryz.prog w=.ok (.string (str l)) w:=
 tG h 49 5 9 Tryz.underlying49 Tryz.underlying5 Tryz.underlying9
theorem bw {P:Program} {u:TypeId} {e:TypeId} (h:P.underlying u=some (.slice e)):∃d,P.underlying u=some d∧∀k,d≠.int k:=⟨_,h,fun k=>by simp⟩
theorem Oy {a b:ByteArray} (h:a.data.toList=b.data.toList):a=b:=by
 cases a;cases b;simp at h;rw [h]
theorem bn (l m:List UInt8):str l++str m=str (l++m):=by
 apply Oy
 simp [str]
theorem um (w:World) (n:Int) (c:UInt8) (h:n=(c.toNat:Int)) (e:TypeId):Bytes (w.alloc (.cells #[.int .u8 n] e)) (some ⟨w.heap.size,0,none⟩) 1 1 [c]:=by
 subst h
 exact KP w [c] e (by simp [maxLen])
end Go.Proofs.YtiklkhbfilbpeaaGreatDoor
