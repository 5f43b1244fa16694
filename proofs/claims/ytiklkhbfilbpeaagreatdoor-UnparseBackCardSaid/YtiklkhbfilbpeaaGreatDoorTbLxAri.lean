import Derived.Test.YtiklkhbfilbpeaaGreatDoorTbLxRead
import Derived.Deep.CutBlock
import Derived.Deep.DeepCutAuto
set_option maxRecDepth 100000
set_option maxHeartbeats 16000000
set_option linter.unusedVariables false
set_option linter.unusedSimpArgs false
namespace Go.Proofs.YtiklkhbfilbpeaaGreatDoor
open Go.RowKit Base Lx
theorem Qf {q:Nm} (h:has [41,41] q=true):fz 0 q=.ok (q.take 2,q.drop 2)∧2≤q.length:=by
 match q,h with
 | [],h=>simp [has,List.isPrefixOf] at h
 | [c],h=>simp [has,List.isPrefixOf] at h
 | c::d::r,h=>
   have h2:=h
   simp only [has,List.isPrefixOf,Bool.and_true,Bool.and_eq_true,beq_iff_eq] at h2
   obtain ⟨rfl,rfl⟩:=h2
   refine ⟨?_,by simp⟩
   rw [fz,if_pos ⟨rfl,h⟩]
   rfl
theorem Pn (d:Nat) (c:UInt8) (r:Nm) (h:¬(d=0∧has [41,41] (c::r)=true)):fz d (c::r)=if c=41 then (if d=0 then .error 20 else pre [c] (fz (d - 1) r)) else if c=40 then pre [c] (fz (d+1) r) else pre [c] (fz d r):=by
 rw [fz,if_neg h]
theorem rC (l:Nm):(str l).toList=l:=by rw [ByteArray.toList_eq];rfl
theorem I7 (c d:UInt8):((str [c]).toList==[d])=decide (c=d):=by
 rw [rC]
 by_cases h:c=d
 · subst h;simp
 · simp [h]
theorem tM (W:World) (b:Nat) (s:Nm) (K g:Nat) (vl vh:Value) (h:Rd W b s K g vl vh) (h3:has [36,40,40] s=true) (X:R) (hX:pre [36,40,40] (fz 0 (s.drop 3))=X):
 Calls Tryz.prog 105 #[.pointer (some ⟨b,0,none⟩)] W (jI W b K g vl vh X):=by
 have HH:=Lib.hid h
 have h3l:=eE h3
 have h3t:s.take 3=[36,40,40]:=by
  obtain ⟨t,rfl⟩:=List.isPrefixOf_iff_prefix.1 h3
  rfl
 have qZ:=h.len
 simp at h3l
 clear h h3
 go_enter Tryz.func105,Tryz.ntmps105
 go_wp2_with fail
 refine (cn _ b s K g vl vh HH.out 3 h3l).mono ?_
 rintro r w1 ⟨rfl,ht,hr⟩
 rw [h3t]
 have J8:=Lib.hid hr
 have wK:=Lib.hid ht
 clear ht hr h3t
 have R5:=Lib.hid hX
 clear hX
 obtain ⟨N,hN⟩:∃N,s.length=N:=⟨_,rfl⟩
 have hdl:(s.drop 3).length+3=N:=by rw [List.length_drop];omega
 obtain ⟨z,hz⟩:∃z,s.drop 3=z:=⟨_,rfl⟩
 rw [hz] at R5 J8 hdl
 rw [hN] at qZ
 clear hN h3l hz
 go_wp2_with fail
 go_loopw [3,4] (fun v3 v4 wr=>∃(o:Nm) (k:Nat) (q:Nm),v3=.string (str o)∧v4=.int .i64 (k:Int)∧pre o (fz k q)=X∧o.length+q.length=N∧k≤o.length∧Rd wr b q K g vl vh∧aj b W wr) (fun v3 _ _=>N - (match v3 with | .string t=>t.size | _=>0))
 case atStart=>exact ⟨[36,40,40],0,z,rfl,rfl,R5.out,by simp;omega,Nat.zero_le _,J8.out,wK.out⟩
 case round=>
  clear J8 wK R5
  obtain ⟨o,k,q,rfl,rfl,hx,hl,hk,hr,ht⟩:=hrel
  have HX:=Lib.hid hx
  have HR:=Lib.hid hr
  have HT:=Lib.hid ht
  clear hx hr ht
  have Vh:(str o).size=o.length:=rfl
  by_cases hend:k=0∧has [41,41] q=true
  ·
   obtain ⟨rfl,hh⟩:=hend
   have HE:=Lib.hid (Qf hh)
   go_wp2_with fail
   refine (ae wr b q K g vl vh HR.out [41,41]).mono ?_
   rintro r w2 ⟨rfl,hw⟩
   obtain rfl:=hw.symm
   rw [hh]
   clear hh
   go_wp2_with fail
   refine (cn _ b q K g vl vh HR.out 2 HE.out.2).mono ?_
   rintro r w3 ⟨rfl,ht,hr⟩
   have jf:=Lib.hid (HT.out.trans ht)
   have l4:=Lib.hid hr
   have EE:(str o).size+(str (q.take 2)).size≤9223372036854775807:=by rw [aU,aU,List.length_take];omega
   clear ht hr
   go_wp2_with fail
   go_ret
   rw [bn]
   refine lH ?_ jf.out l4.out
   rw [←HX.out,HE.out.1,xD]
  ·
   go_upto_region 3 with fail
   go_cut [14] (fun s14 wx=>s14=.bool true∧wx=wr)
   case first=>
    by_cases Lh:k=0
    ·
     subst Lh
     have hh:has [41,41] q=false:=by
      rcases hq:has [41,41] q with _ | _
      · rfl
      · exact absurd ⟨rfl,hq⟩ hend
     clear hend
     go_wp2_with fail
     refine (ae wr b q K g vl vh HR.out [41,41]).mono ?_
     rintro r w2 ⟨rfl,hw⟩
     obtain rfl:=hw.symm
     rw [hh]
     clear hh
     go_wp2_with fail
     go_meet
     exact ⟨rfl,rfl⟩
    ·
     have d0:0 < k:=by omega
     have u1:decide ((0:Int) < (k:Int))=true:=decide_eq_true (by omega)
     have u2:(0:Int) < (k:Int):=by omega
     clear hend
     go_wp2_with fail
     go_meet
     exact ⟨rfl,rfl⟩
   case rest=>
    obtain ⟨rfl,hw⟩:=hcut
    subst hw
    have ZaU:=Lib.hid hend
    clear hend
    cases q with
    | nil=>
      have YX:Hid (X=.error 20):=HX.out.symm
      go_wp2_with fail
      refine (rO _ b [] K g vl vh HR.out 1 (by simp)).mono ?_
      rintro r w3 ⟨rfl,rfl⟩
      exact ⟨rfl,eF YX.out HT.out⟩
    | cons c q=>
      have PO:=Lib.hid (Pn k c q ZaU.out)
      have Vx:o.length+q.length+1=N:=by have:=hl;simp at this;omega
      go_wp2_with fail
      refine (cn _ b (c::q) K g vl vh HR.out 1 (by simp)).mono ?_
      rintro r w3 ⟨rfl,ht,hr⟩
      have l4:Hid (Rd w3 b q K g vl vh):=hr
      have jf:=Lib.hid (HT.out.trans ht)
      clear ht hr hl
      rw [show (c::q).take 1=[c] from rfl]
      have EE:(str o).size+(str [c]).size≤9223372036854775807:=by rw [aU,aU];simp;omega
      have Xz:=I7 c 40
      have Ol:=I7 c 41
      by_cases zM:c=41
      ·
       subst zM
       replace Xz:((str [41]).toList==[40])=false:=Xz
       replace Ol:((str [41]).toList==[41])=true:=Ol
       by_cases Lh:k=0
       ·
        subst Lh
        have YX:Hid (X=.error 20):=by
         show _=_
         rw [←HX.out,PO.out,if_pos rfl,if_pos rfl]
         rfl
        go_wp2_with fail
        refine (bq _ b q K g vl vh l4.out 20).mono ?_
        rintro r w6 ⟨rfl,rfl⟩
        exact ⟨rfl,eF YX.out jf.out⟩
       ·
        obtain ⟨k',rfl⟩:∃k',k=k'+1:=⟨k - 1,by omega⟩
        have oA:Hid (pre (o++[41]) (fz k' q)=X):=by
         show _=_
         rw [←HX.out,PO.out,if_pos rfl,if_neg Lh,nt]
         rfl
        clear Lh
        have d1:¬(k':Int)+1 - 1 < 0:=by omega
        have d2:decide ((k':Int)+1 - 1 < 0)=false:=decide_eq_false (by omega)
        have d3:¬(k':Int) < 0:=by omega
        have d4:decide ((k':Int) < 0)=false:=decide_eq_false (by omega)
        go_wp2_with fail
        go_roundw
        case rel=>exact ⟨o++[41],k',q,by rw [bn],by go_num,oA.out,by simp;omega,by simp;omega,l4.out,jf.out⟩
        case measure=>rw [bn];simp only [aU,List.length_append,List.length_singleton];omega
      ·
       by_cases Ow:c=40
       ·
        subst Ow
        replace Xz:((str [40]).toList==[40])=true:=Xz
        replace Ol:((str [40]).toList==[41])=false:=Ol
        have oA:Hid (pre (o++[40]) (fz (k+1) q)=X):=by
         show _=_
         rw [←HX.out,PO.out,if_neg zM,if_pos rfl,nt]
        clear zM
        have d1:¬(k:Int)+1 < 0:=by omega
        have d3:decide ((k:Int)+1 < 0)=false:=decide_eq_false (by omega)
        go_wp2_with fail
        go_roundw
        case rel=>exact ⟨o++[40],k+1,q,by rw [bn],by go_num,oA.out,by simp;omega,by simp;omega,l4.out,jf.out⟩
        case measure=>rw [bn];simp only [aU,List.length_append,List.length_singleton];omega
       ·
        have oA:Hid (pre (o++[c]) (fz k q)=X):=by
         show _=_
         rw [←HX.out,PO.out,if_neg zM,if_neg Ow,nt]
        replace Xz:((str [c]).toList==[40])=false:=by rw [Xz];exact decide_eq_false Ow
        replace Ol:((str [c]).toList==[41])=false:=by rw [Ol];exact decide_eq_false zM
        clear zM Ow
        have d1:¬(k:Int) < 0:=by omega
        have d3:decide ((k:Int) < 0)=false:=decide_eq_false (by omega)
        go_wp2_with fail
        go_roundw
        case rel=>exact ⟨o++[c],k,q,by rw [bn],by go_num,oA.out,by simp;omega,by simp;omega,l4.out,jf.out⟩
        case measure=>rw [bn];simp only [aU,List.length_append,List.length_singleton];omega
end Go.Proofs.YtiklkhbfilbpeaaGreatDoor
