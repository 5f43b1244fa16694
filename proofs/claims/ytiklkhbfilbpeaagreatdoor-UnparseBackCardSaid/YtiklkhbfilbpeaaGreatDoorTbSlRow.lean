import Derived.Test.YtiklkhbfilbpeaaGreatDoorTbAppendAt
import Derived.Laws.IdiomCopy
import Derived.Laws.CopyOwn
import Derived.Deep.AppendSrc
import Derived.Deep.RegionLaw
set_option maxRecDepth 100000
set_option maxHeartbeats 16000000
set_option linter.unusedVariables false
set_option linter.unusedSimpArgs false
namespace Go.Proofs.YtiklkhbfilbpeaaGreatDoor.Sl
open Go.RowKit Base
theorem GK {α:Type} (L:List α) (o:Nat):splice L o []=L:=by simp [splice]
theorem EF {α:Type} (L:List α) (o:Nat) (v:α) (r:List α) (h:o < L.length):splice (L.set o v) (o+1) r=splice L o (v::r):=by
 unfold splice
 rw [List.take_succ_eq_append_getElem (by rw [List.length_set];exact h),List.getElem_set_self,List.append_assoc,List.length_cons]
 congr 1
 · rw [List.take_set_of_le (Nat.le_refl _)]
 ·
  show v::(r++_)=v::(r++_)
  rw [List.drop_set_of_lt (by omega)]
  congr 3
  omega
theorem gS (g:Nat) (t:TypeId):∀(vs:List Value) (o:Nat) (w:World) (cur:List Value),w.heap[g]? =some (.cells cur.toArray t (0,0))→o+vs.length≤cur.length→
 (w.setCells g o vs).heap[g]? =some (.cells (splice cur o vs).toArray t (0,0))
 | [],o,w,cur,h,_=>by rw [GK];exact h
 | v::r,o,w,cur,h,hl=>by
   have hlt:o < cur.length:=by rw [List.length_cons] at hl;omega
   have h1:=heap_setCell_same w g o cur.toArray t v h
   have h2:=gS g t r (o+1) (w.setCell ⟨g,o,none⟩ v) (cur.set o v) (by rw [h1];simp) (by rw [List.length_set];rw [List.length_cons] at hl;omega)
   rw [EF cur o v r hlt] at h2
   exact h2
theorem aq (g:Nat):∀(vs:List Value) (o:Nat) (w:World),w.grownBy (w.setCells g o vs) (some g)
 | [],_,w=>⟨rfl,rfl,rfl,Nat.le_refl _,fun _ _ _=>rfl⟩
 | v::r,o,w=>by
   have h1:=Ap.Kh w g o v
   have h2:=aq g r (o+1) (w.setCell ⟨g,o,none⟩ v)
   exact ⟨h2.os.trans h1.os,h2.tape.trans h1.tape,h2.output.trans h1.output,Nat.le_trans h1.size h2.size,fun k hk hne=>(h2.block k (Nat.lt_of_lt_of_le hk h1.size) hne).trans (h1.block k hk hne)⟩
theorem dv (g:Nat):∀(vs:List Value) (o:Nat) (w:World),(w.setCells g o vs).heap.size=w.heap.size
 | [],_,_=>rfl
 | v::r,o,w=>by
   show ((w.setCell ⟨g,o,none⟩ v).setCells g (o+1) r).heap.size=_
   rw [dv];simp [World.setCell]
theorem lO {w w1 w2:World} {q:Option Nat} (h1:w.grownBy w1 q) (h2:w1.grownBy w2 q):w.grownBy w2 q:=
 ⟨h2.os.trans h1.os,h2.tape.trans h1.tape,h2.output.trans h1.output,Nat.le_trans h1.size h2.size,fun k hk hne=>(h2.block k (Nat.lt_of_lt_of_le hk h1.size) hne).trans (h1.block k hk hne)⟩
theorem lT {w w1:World} (h:Below w.heap.size w w1) (q:Option Nat):w.grownBy w1 q:=⟨h.os,h.tape,h.output,h.size,fun k hk _=>h.block k hk⟩
theorem jM {w:World} {g:Nat} {cur:List Value} {t:TypeId} (h:w.heap[g]? =some (.cells cur.toArray t (0,0))) (j:Nat):w.cell? ⟨g,j,none⟩=cur[j]?:=by
 simp [World.cell?,h]
theorem xj {w:World} {g:Nat} {cur:List Value} {t:TypeId} (h:w.heap[g]? =some (.cells cur.toArray t (0,0))) (j:Nat):w.frozen? ⟨g,j,none⟩=false:=by
 simp [World.frozen?,h]
theorem O0 {w:World} {g:Nat} {cur:List Value} {t:TypeId} (h:w.heap[g]? =some (.cells cur.toArray t (0,0))) (j:Nat) (hj:j < cur.length):(w.cell? ⟨g,j,none⟩).isSome=true:=by
 rw [jM h,List.getElem?_eq_getElem hj];rfl
theorem vI {w:World} {base:Nat} {e:TypeId} {size:Nat} {v:Value} {n:Nat} {xs:List Value} (h:w.ownsRow base e size v n xs) (hn:0 < n):
 ∃(g cap:Nat) (cur:List Value),v=.slice (some ⟨g,0,none⟩) n cap∧base≤g∧w.heap[g]? =some (.cells cur.toArray e (0,0))∧n≤cap∧cap≤maxLen∧cur.length=cap * size∧cur.take (n * size)=xs:=by
 rcases h.2 with ⟨_,h0⟩ | ⟨g,cap,cur,h1,h2,h3,h4,h5,h6,h7⟩
 · omega
 · exact ⟨g,cap,cur.toList,h1,h2,h3,h4,h5,by rw [Array.length_toList];exact h6,h7⟩
theorem LU {w:World} {base:Nat} {e:TypeId} {size g n cap:Nat} {cur xs:List Value} (hb:base≤g) (h:w.heap[g]? =some (.cells cur.toArray e (0,0))) (hn:n≤cap) (hc:cap≤maxLen) (hl:cur.length=cap * size) (hx:cur.take (n * size)=xs):
 w.ownsRow base e size (.slice (some ⟨g,0,none⟩) n cap) n xs:=by
 refine ⟨?_,.inr ⟨g,cap,cur.toArray,rfl,hb,h,hn,hc,by simpa using hl,by simpa using hx⟩⟩
 rw [←hx,List.length_take,hl]
 have:=Nat.mul_le_mul_right size hn
 omega
section
variable {P:Program}
end
end Go.Proofs.YtiklkhbfilbpeaaGreatDoor.Sl
