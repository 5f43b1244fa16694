import Derived.Test.YtiklkhbfilbpeaaGreatDoorCards
import Derived.Test.YtiklkhbfilbpeaaGreatDoorTie
import Derived.Test.YtiklkhbfilbpeaaGreatDoorTbUnOpen
import Derived.ShutString
import Derived.WalkKit
import Derived.ProofKit
import Derived.OpenShut
import Derived.ChangeOld
import Derived.Below
import Derived.Deep.DeepHandedRow
import Derived.Lib.LaidTab
import Derived.Deep.DeepWitnessRowRef
set_option maxRecDepth 100000
set_option maxHeartbeats 16000000
set_option linter.unusedVariables false
set_option linter.unusedSimpArgs false
namespace Go.Proofs.YtiklkhbfilbpeaaGreatDoor.unparseBack
open Base Opn
open Go.ChangeShapes Go.WideShapes Go.ChangeAt Go.RowKit
open Go.ChangeMaps (open_string shut_string)
theorem own:ownKnob Tryz.prog.godebug=none:=by kernel_rfl
theorem laidOut:laidOutB Tryz.prog=true:=by kernel_rfl
theorem contract (H:Type) (enc:TypeId × Value→H) (W:World) (base:Nat) (args:Array Value) (ds gs:List (DataW H)) (before:List MemPlace)
 (hval:∀(j:Nat) t v,Tryz.f3.params[j]? =some t→args[j]? =some v→Value.okWide Tryz.prog W .any base t v)
 (hW:DataW.Whole enc Tryz.prog Tryz.f3.params.toList Rows.unparseBackSpec.vars false W args.toList ds gs before)  (hsz:(DataW.weightsEach Tryz.prog (Tryz.f3.params.toList++(OpenSpec.ofChange Rows.unparseBackSpec).bare.plain.varTypes Tryz.prog) (ds++gs)).all (· ≤reachBytes)=true) (hL:laidMetH Tryz.prog Rows.unparseBackRow.laid W):
 Calls Tryz.prog 3 args W fun e W'=>∃v,e=.returned v∧Rows.unparseBackSpec.post enc Tryz.prog Tryz.f3 false true false false W args v W':=by
 have hN:Sx.Gl W:=UnOpen.X0 hL
 have hW':=hW
 obtain ⟨p,q,hA0,hV,rfl,hfz,hnd⟩:=hW
 have hA:DataW.TrodAll enc Tryz.prog W 0 (fun _=>true) true Tryz.f3.params.toList args.toList ds p:=hA0
 rw [Tryz.params3] at hA hval
 obtain ⟨v0,vs0,d0,ds0,p0,q_0,hargs,rfl,rfl,h0,r0⟩:=trodAll_cons hA
 obtain ⟨rfl,rfl,rfl⟩:=trodAll_nil r0
 obtain rfl:args=#[v0]:=by cases args;simp_all
 obtain ⟨rfl,rfl⟩:=trodVars_none hV
 have k0:=h0
 have lt0:∀x∈p0,x.block < W.heap.size:=by obtain ⟨m,hm⟩:=k0;exact DataW.trod_lt m _ _ _ hm
 obtain ⟨s0,rfl,rfl,rfl,ws0⟩:=open_string Tryz.underlying9 (hval 0 9 v0 rfl rfl) h0
 clear hA0
 have walk:Calls Tryz.prog 3 #[.string s0] W fun e w'=>e=.returned (.bool true)∧Below W.heap.size W w':=by
  rw [←UnOpen.Be s0]
  exact Ux.Gp W _ hN
 refine walk.mono fun e W' ⟨he,bel⟩=>?_
 subst he
 exact ⟨_,rfl,_,_,_,[],_,[],hW',trodAll_mk1 (shut_bool Tryz.underlying4 _),(trodAll_cons_mk (Below.trod laidOut (by kernel_rfl) (of_decide_eq_true (by kernel_rfl)) k0 bel lt0) trodAll_mk0),rfl,bel.frame _,fun h=>by cases h⟩
noncomputable def low:Nat:=(World.holding Tryz.prog default ⟨#[],#[],[]⟩).heap.size
noncomputable def laidWorld (os:Os):World:=
 { World.holding Tryz.prog os ⟨#[],#[],[]⟩ with heap:=((((((((((World.holding Tryz.prog os ⟨#[.cells #[.string ⟨#[118,97,108,117,101,32,111,117,116,32,111,102,32,114,97,110,103,101]⟩] 230,.cells #[.string ⟨#[105,110,118,97,108,105,100,32,115,121,110,116,97,120]⟩] 230,.cells #[.string ⟨#[33]⟩,.string ⟨#[123]⟩,.string ⟨#[125]⟩,.string ⟨#[99,97,115,101]⟩,.string ⟨#[100,111]⟩,.string ⟨#[100,111,110,101]⟩,.string ⟨#[101,108,105,102]⟩,.string ⟨#[101,108,115,101]⟩,.string ⟨#[101,115,97,99]⟩,.string ⟨#[102,105]⟩,.string ⟨#[102,111,114]⟩,.string ⟨#[105,102]⟩,.string ⟨#[116,104,101,110]⟩,.string ⟨#[117,110,116,105,108]⟩,.string ⟨#[119,104,105,108,101]⟩] 9],#[],[]⟩).heap.modify 6 fun
   | .cells _ t frozen=>.cells #[.int .u8 0,.int .u8 1,.int .u8 28,.int .u8 2,.int .u8 29,.int .u8 14,.int .u8 24,.int .u8 3,.int .u8 30,.int .u8 22,.int .u8 20,.int .u8 15,.int .u8 25,.int .u8 17,.int .u8 4,.int .u8 8,.int .u8 31,.int .u8 27,.int .u8 13,.int .u8 23,.int .u8 21,.int .u8 19,.int .u8 16,.int .u8 7,.int .u8 26,.int .u8 12,.int .u8 18,.int .u8 6,.int .u8 11,.int .u8 5,.int .u8 10,.int .u8 9] t frozen
   | o=>o).modify 7 fun
   | .cells _ t frozen=>.cells #[.int .u8 0,.int .u8 1,.int .u8 56,.int .u8 2,.int .u8 57,.int .u8 49,.int .u8 28,.int .u8 3,.int .u8 61,.int .u8 58,.int .u8 42,.int .u8 50,.int .u8 38,.int .u8 29,.int .u8 17,.int .u8 4,.int .u8 62,.int .u8 47,.int .u8 59,.int .u8 36,.int .u8 45,.int .u8 43,.int .u8 51,.int .u8 22,.int .u8 53,.int .u8 39,.int .u8 33,.int .u8 30,.int .u8 24,.int .u8 18,.int .u8 12,.int .u8 5,.int .u8 63,.int .u8 55,.int .u8 48,.int .u8 27,.int .u8 60,.int .u8 41,.int .u8 37,.int .u8 16,.int .u8 46,.int .u8 35,.int .u8 44,.int .u8 21,.int .u8 52,.int .u8 32,.int .u8 23,.int .u8 11,.int .u8 54,.int .u8 26,.int .u8 40,.int .u8 15,.int .u8 34,.int .u8 20,.int .u8 31,.int .u8 10,.int .u8 25,.int .u8 14,.int .u8 19,.int .u8 9,.int .u8 13,.int .u8 8,.int .u8 7,.int .u8 6] t frozen
   | o=>o).modify 3 fun
   | .cells _ t frozen=>.cells #[.int .u64 1,.int .u64 10,.int .u64 100,.int .u64 1000,.int .u64 10000,.int .u64 100000,.int .u64 1000000,.int .u64 10000000,.int .u64 100000000,.int .u64 1000000000,.int .u64 10000000000,.int .u64 100000000000,.int .u64 1000000000000,.int .u64 10000000000000,.int .u64 100000000000000,.int .u64 1000000000000000,.int .u64 10000000000000000,.int .u64 100000000000000000,.int .u64 1000000000000000000,.int .u64 10000000000000000000] t frozen
   | o=>o).modify 5 fun
   | .cells _ t frozen=>.cells #[.int .u8 128,.int .u8 191,.int .u8 160,.int .u8 191,.int .u8 128,.int .u8 159,.int .u8 144,.int .u8 191,.int .u8 128,.int .u8 143,.int .u8 0,.int .u8 0,.int .u8 0,.int .u8 0,.int .u8 0,.int .u8 0,.int .u8 0,.int .u8 0,.int .u8 0,.int .u8 0,.int .u8 0,.int .u8 0,.int .u8 0,.int .u8 0,.int .u8 0,.int .u8 0,.int .u8 0,.int .u8 0,.int .u8 0,.int .u8 0,.int .u8 0,.int .u8 0] t frozen
   | o=>o).modify 9 fun
   | .cells _ t frozen=>.cells #[.iface 228 (.pointer (some ⟨low+0,0,none⟩))] t frozen
   | o=>o).modify 8 fun
   | .cells _ t frozen=>.cells #[.iface 228 (.pointer (some ⟨low+1,0,none⟩))] t frozen
   | o=>o).modify 0 fun
   | .cells _ t frozen=>.cells #[.string ⟨#[38,38]⟩,.string ⟨#[124,124]⟩,.string ⟨#[59,59]⟩,.string ⟨#[60,60]⟩,.string ⟨#[62,62]⟩,.string ⟨#[59]⟩,.string ⟨#[124]⟩,.string ⟨#[40]⟩,.string ⟨#[41]⟩,.string ⟨#[60]⟩,.string ⟨#[62]⟩] t frozen
   | o=>o).modify 1 fun
   | .cells _ t frozen=>.cells #[.slice (some ⟨low+2,0,none⟩) 15 15] t frozen
   | o=>o).modify 4 fun
   | .cells _ t frozen=>.cells (Go.Pinned.utf8FirstZ.map fun z:Nat=>Value.int .u8 (z:Int)).toArray t frozen
   | o=>o) }
theorem laid_met (os:Os):laidMet Tryz.prog Rows.unparseBackRow.laid ((laidWorld os).forCall (fun _ _=>0) ⟨#[],#[.string ⟨#[]⟩],[]⟩).memory:=
 laidMet_of_run' 8 (by kernel_rfl) (by kernel_rfl)
theorem reads (os:Os) {H:Type} (enc:TypeId × Value→H):∃places,DataW.whole enc Tryz.prog ((laidWorld os).forCall (fun _ _=>0) ⟨#[],#[.string ⟨#[]⟩],[]⟩).memory Tryz.f3.params.toList Rows.unparseBackSpec.vars false (#[.string ⟨#[]⟩]:Array Value).toList 8=some ([.lit (.string [])],[],places):=
 ⟨[],by kernel_rfl⟩
theorem lifted (os:Os) (started:os.Started) (H:Type) (enc:TypeId × Value→H) (F:Stop.Interp):
 ReturnsInHanded {} Tryz.checked os 3 .any ((OpenSpec.ofChange Rows.unparseBackSpec).preRow enc Tryz.prog Tryz.f3 Rows.unparseBackRow.domain false Rows.unparseBackRow.laid) (((OpenSpec.ofChange Rows.unparseBackSpec).at F).post enc Tryz.prog Tryz.f3 false true false false):=by
 obtain ⟨places,hx⟩:=reads os enc
 refine returnsInHanded_of_row (C:=Tryz.checked) (s:=OpenSpec.ofChange Rows.unparseBackSpec) own started (by kernel_rfl) Tryz.func3
  (witness_row_atRef (enc:=enc) (C:=Tryz.checked) false (laidWorld os) #[.string ⟨#[]⟩] rfl (by kernel_rfl) (by kernel_rfl) (by kernel_rfl)
   (OpenSpec.preRow_of_cond 8 hx (by kernel_rfl) (fun k hk=>by cases hk) (by kernel_rfl) (laid_met os))) ?_
 intro W base args ds gs before hval hW _ hk hsz hL _ _
 exact contract H enc W base args ds gs before hval hW hsz hL
theorem said:Rows.UnparseBackSaid:=
 OpenClaim.holds_of_cond 3 Tryz.f3 rfl rfl rfl rfl rfl rfl rfl ⟨rfl,rfl,rfl,rfl,rfl⟩ rfl rfl rfl rfl rfl (by kernel_rfl) Tryz.func3 (by kernel_rfl)
  (of_decide_eq_true (by kernel_rfl)) (by unfold Func.isWrapper;first | (rw [if_pos (by decide+kernel)];kernel_rfl) | (rw [if_neg (by decide+kernel)];exact ⟨rfl,rfl⟩))
  (fun os started H enc _ F=>by rw [OpenClaim.pre_eq_preRow];exact lifted os started H enc F)
theorem plain (f:FuncId) (fn:Func) (hf:Tryz.pinned.checked.prog.funcNamed "kinetoscope/kinetoscopelaw08.UnparseBack"=some f) (hfn:Tryz.pinned.checked.prog.funcs[f]? =some fn):
 true=Tryz.pinned.checked.prog.looks []∧∀(j:Nat) t,fn.params[j]? =some t→Tryz.pinned.checked.prog.wantsStandIn t=false:=by
 obtain rfl:f=3:=Option.some.inj ((show Tryz.prog.funcNamed "kinetoscope/kinetoscopelaw08.UnparseBack"=some 3 by kernel_rfl).symm.trans hf) |>.symm
 obtain rfl:fn=Tryz.f3:=(Option.some.inj (Tryz.func3.symm.trans hfn)).symm
 refine ⟨by kernel_rfl,fun j t ht=>?_⟩
 rw [Tryz.params3] at ht
 have hall:∀t∈(#[9]:Array TypeId),Tryz.prog.wantsStandIn t=false:=by
  intro t ht
  simp only [List.mem_toArray,List.mem_cons,List.not_mem_nil,or_false] at ht
  rcases ht with rfl<;>kernel_rfl
 exact hall t (Array.mem_of_getElem? ht)
theorem card:Rows.UnparseBackCardSaid:=
 Claim7.holds_tied_plain_at .later [] _ _ _ _ said (fun _ h=>by cases h) (by kernel_rfl) (fun _ h=>by cases h) unparseBack_row_tie rfl ⟨rfl,rfl⟩ (by kernel_rfl) rfl plain (by kernel_rfl)
#print axioms card
end Go.Proofs.YtiklkhbfilbpeaaGreatDoor.unparseBack
