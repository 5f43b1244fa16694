import Derived.Test.YtiklkhbfilbpeaaGreatDoorTbLxStrs
import Derived.Tactics
import Derived.Tactics2
import Derived.Defers
import Derived.Laws.Pointers
import Derived.Laws.LoneSync
import Derived.RegionTactic
import Derived.RegionCalls
import Derived.ChangeAlike
import Derived.Laws.NewBlocks
set_option maxRecDepth 100000
set_option maxHeartbeats 16000000
set_option linter.unusedVariables false
set_option linter.unusedSimpArgs false
namespace Go.Proofs.YtiklkhbfilbpeaaGreatDoor
open Go.RowKit Base Lx
namespace Oc
theorem disable (w:World):(callFunc 166 #[]).run Tryz.prog w=.ok (.value (.tuple #[])) w:=run_call_mark0 Tryz.func166 (by kernel_rfl) (by kernel_rfl) (by kernel_rfl) .disable (by kernel_rfl) w
theorem enable (w:World):(callFunc 168 #[]).run Tryz.prog w=.ok (.value (.tuple #[])) w:=run_call_mark0 Tryz.func168 (by kernel_rfl) (by kernel_rfl) (by kernel_rfl) .enable (by kernel_rfl) w
theorem acquire (a:Addr) (w:World):(callFunc 169 #[.pointer (some a)]).run Tryz.prog w=.ok (.value (.tuple #[])) w:=run_call_marked Tryz.func169 (by kernel_rfl) (by kernel_rfl) (by kernel_rfl) .acquire (by kernel_rfl) a w
theorem releaseMerge (a:Addr) (w:World):(callFunc 171 #[.pointer (some a)]).run Tryz.prog w=.ok (.value (.tuple #[])) w:=run_call_marked Tryz.func171 (by kernel_rfl) (by kernel_rfl) (by kernel_rfl) .releaseMerge (by kernel_rfl) a w
theorem xm (a:Addr) (x:Value) (u:FrameMode) (w:World) (hc:w.cell? a=some x) (hz:w.frozen? a=false):
 CallsD Tryz.prog 146 #[.pointer (some a),.bool true] u w fun e u' w'=>u'=u∧(e=.returned (.tuple #[])∧w'=w.drew.setCell a (.int .u32 1)):=by
 have hc':w.drew.cell? a=some x:=by go_simp
 have hz':w.drew.frozen? a=false:=by go_simp
 have hst:=run_call_store (P:=Tryz.prog) Tryz.func160 (by kernel_rfl) (by kernel_rfl) (by kernel_rfl) (by kernel_rfl) (k:=.u32) (y:=1) hc' hz'
 go_enter_d Tryz.func146,Tryz.ntmps146
 go_wp2
 go_region_calls
 all_goals (go_end0;exact ⟨rfl,rfl⟩)
theorem vo (a:Addr) (u:FrameMode) (w:World) (hc:w.cell? a=some (.int .i32 1)) (hz:w.frozen? a=false):
 CallsD Tryz.prog 145 #[.pointer (some a)] u w fun e u' w'=>u'=u∧(e=.returned (.tuple #[])∧w'=w.setCell a (.int .i32 0)):=by
 have hd:=disable
 have he:=enable
 have hr:=releaseMerge
 have QM:=run_call_add (P:=Tryz.prog) Tryz.func172 (by kernel_rfl) (by kernel_rfl) (by kernel_rfl) .i32 (by kernel_rfl) (y:=-1) (s:=0) hc hz (by simp [go_sem];rfl)
 have hcv:=run_convert_to_unsafe (P:=Tryz.prog) (src:=204) (dst:=117) Tryz.underlying204 Tryz.underlying117 (by kernel_rfl) hc
 go_enter_d Tryz.func145,Tryz.ntmps145
 go_wp2
 go_end0
 go_wp2
 all_goals exact ⟨rfl,rfl⟩
theorem Kw (a:Addr) (w:World) (hc:w.cell? a=some (.int .i32 0)) (hz:w.frozen? a=false):
 Calls Tryz.prog 144 #[.pointer (some a)] w fun e w'=>e=.returned (.tuple #[])∧w'=w.setCell a (.int .i32 1):=by
 have hd:=disable
 have he:=enable
 have ha:=acquire
 have ZcK:=run_call_cas_hit (P:=Tryz.prog) Tryz.func167 (by kernel_rfl) (by kernel_rfl) (by kernel_rfl) .i32 (by kernel_rfl) (y:=1) hc hz
 have hc':(w.setCell a (.int .i32 1)).cell? a=some (.int .i32 1):=World.cell?_setCell_same w a _ hc
 have hcv:=run_convert_to_unsafe (P:=Tryz.prog) (src:=204) (dst:=117) Tryz.underlying204 Tryz.underlying117 (by kernel_rfl) hc'
 go_enter Tryz.func144,Tryz.ntmps144
 go_wp2
 first | go_end0 | (simp only [Exit.inBlock,Exit.then];refine bodyPost_ret (results_none rfl _ _ _) rfl ?_) | refine bodyPost_ret (results_none rfl _ _ _) rfl ?_
 go_wp2
 all_goals exact ⟨rfl,rfl⟩
structure tI (W:World) (b:Nat) (d m:Int):Prop where
 c0:W.cell? ⟨b,0,none⟩=some (.int .u32 d)
 c1:W.cell? ⟨b,1,none⟩=some (.int .i32 m)
 f0:W.frozen? ⟨b,0,none⟩=false
 f1:W.frozen? ⟨b,1,none⟩=false
theorem yx (a:Addr) (d:Int) (w:World) (h0:w.cell? a=some (.int .u32 d)):Calls Tryz.prog 119 #[.pointer (some a)] w fun e w'=>e=.returned (.bool (d != 0))∧w'=w:=by
 have hl:=run_call_load (P:=Tryz.prog) Tryz.func143 (by kernel_rfl) (by kernel_rfl) (by kernel_rfl) .u32 (by kernel_rfl) h0
 go_enter Tryz.func119,Tryz.ntmps119
 go_wp2
 go_ret
 exact ⟨rfl,rfl⟩
theorem Ox (b:Nat) (W6:Value) (w:World) (P:World→Prop) (h:tI w b 0 0)
 (hc:Calls Tryz.prog 102 #[W6] (w.setCell ⟨b,1,none⟩ (.int .i32 1)) fun e w1=>e=.returned (.tuple #[])∧tI w1 b 0 1∧P w1):
 Calls Tryz.prog 120 #[.pointer (some ⟨b,0,none⟩),.func (.func 102) #[W6] #[]] w fun e w'=>e=.returned (.tuple #[])∧∃w1,P w1∧w'=(w1.drew.setCell ⟨b,0,none⟩ (.int .u32 1)).setCell ⟨b,1,none⟩ (.int .i32 0):=by
 obtain ⟨h0,h1,f0,f1⟩:=h
 have ZaG:∀(x:Bool) (w:World),(Op.unary .not (.bool x)).run Tryz.prog w=.ok (.bool (!x)) w:=fun _ _=>rfl
 go_enter_defers Tryz.func120,Tryz.ntmps120
 go_wp2_with (first | (go_at_call 144;refine (Kw ⟨b,1,none⟩ _ (by go_simp) (by go_simp)).mono ?_;rintro e w' ⟨rfl,rfl⟩) | (go_at_call 119;refine (yx ⟨b,0,none⟩ 0 _ ((World.cell?_setCell_other _ ⟨b,1,none⟩ ⟨b,0,none⟩ _ (by simp)).trans h0)).mono ?_;rintro e w' ⟨rfl,rfl⟩))
 refine hc.mono ?_
 rintro e w1 ⟨rfl,ho,hp⟩
 go_wp2
 refine leaves_cons (f:=146) (args:=#[.pointer (some ⟨b,0,none⟩),.bool true]) (by simp) (by simp [go_sem]) ?_
 refine (xm ⟨b,0,none⟩ (.int .u32 0) .returning _ ho.c0 ho.f0).mono ?_
 rintro e u' w'' ⟨rfl,rfl,rfl⟩
 refine leaves_cons (f:=145) (args:=#[.pointer (some ⟨b,1,none⟩)]) (by simp [settle]) (by simp [go_sem]) ?_
 refine (vo ⟨b,1,none⟩ _ _ ?_ (by simp [ho.f1])).mono ?_
 ·
  refine (World.cell?_setCell_other _ ⟨b,0,none⟩ ⟨b,1,none⟩ _ (by simp)).trans ?_
  rw [World.cell?_drew]
  exact ho.c1
 rintro e u' w'' ⟨rfl,rfl,rfl⟩
 simp [Leaves,settle,results,Tryz.results120]
 exact ⟨w1,hp,rfl⟩
theorem Ng (b:Nat) (W6:Value) (w:World) (P:World→Prop) (h:tI w b 0 0)
 (hc:Calls Tryz.prog 102 #[W6] (w.setCell ⟨b,1,none⟩ (.int .i32 1)) fun e w1=>e=.returned (.tuple #[])∧tI w1 b 0 1∧P w1):
 Calls Tryz.prog 101 #[.pointer (some ⟨b,0,none⟩),.func (.func 102) #[W6] #[]] w fun e w'=>e=.returned (.tuple #[])∧∃w1,P w1∧w'=(w1.drew.setCell ⟨b,0,none⟩ (.int .u32 1)).setCell ⟨b,1,none⟩ (.int .i32 0):=by
 have ZaG:∀(x:Bool) (w:World),(Op.unary .not (.bool x)).run Tryz.prog w=.ok (.bool (!x)) w:=fun _ _=>rfl
 go_enter Tryz.func101,Tryz.ntmps101
 go_wp2_with (go_at_call 119;refine (yx ⟨b,0,none⟩ 0 _ h.c0).mono ?_;rintro e w' ⟨rfl,rfl⟩)
 refine (Ox b W6 _ P h hc).mono ?_
 rintro e w' ⟨rfl,w1,hp,rfl⟩
 go_wp2
 go_end0
 exact ⟨rfl,w1,hp,rfl⟩
end Oc
end Go.Proofs.YtiklkhbfilbpeaaGreatDoor
