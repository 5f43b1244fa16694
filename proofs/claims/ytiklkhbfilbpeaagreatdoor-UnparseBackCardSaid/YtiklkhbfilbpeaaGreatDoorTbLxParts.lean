import Derived.Test.YtiklkhbfilbpeaaGreatDoorTbLxAri
set_option maxRecDepth 100000
set_option maxHeartbeats 16000000
set_option linter.unusedVariables false
set_option linter.unusedSimpArgs false
namespace Go.Proofs.YtiklkhbfilbpeaaGreatDoor
open Go.RowKit Base Lx
def rA (n:Nat):Prop:=∀(W:World) (b:Nat) (s:Nm) (d:Nat) (K g:Nat) (vl vh:Value) (wi:Bool),Rd W b s K g vl vh→s.length < n→d≤8→
 Calls Tryz.prog 69 #[.pointer (some ⟨b,0,none⟩),.int .i64 (d:Int),.bool wi] W (jI W b K g vl vh (j8 d s))
theorem jz {W:World} {b:Nat} {s:Nm} {K g:Nat} {vl vh:Value} (h:Rd W b s K g vl vh):(match W.cell? ⟨b,0,none⟩ with | some (.string t)=>t.size | _=>0)=s.length:=by
 rw [(bg h.box).1.1];rfl
theorem se {n:Nat} (ih:rA n) (W:World) (b:Nat) (s:Nm) (d:Nat) (K g:Nat) (vl vh:Value) (h:Rd W b s K g vl vh) (om:has [36] s=true) (hn:s.length≤n) (hd:d≤8) (X:R) (hX:ij d s=X):
 Calls Tryz.prog 87 #[.pointer (some ⟨b,0,none⟩),.int .i64 (d:Int)] W (jI W b K g vl vh X):=by
 have S7:Hid (rA n):=ih
 have HR:=Lib.hid h
 have qZ:=h.len
 have hs1:=eE om
 simp at hs1
 have HX:Hid (ld (inner d) d s=X):=hX
 have VL:Hid (s.take 1=[36]):=by
  obtain ⟨t,rfl⟩:=List.isPrefixOf_iff_prefix.1 om
  rfl
 clear ih h hX om
 go_enter Tryz.func87,Tryz.ntmps87
 by_cases h3:has [36,40,40] s=true
 ·
  have HE:Hid (pre [36,40,40] (fz 0 (s.drop 3))=X):=by show _=_;rw [←HX.out];unfold ld;rw [if_pos h3]
  have H3:=Lib.hid h3
  clear h3
  go_wp2_with fail
  refine (ae _ b (s) K g vl vh HR.out [36,40,40]).mono ?_
  rintro r wn ⟨rfl,bu⟩
  obtain rfl:=bu.symm
  rw [show has [36,40,40] (s)=true from H3.out]
  go_wp2_with fail
  refine (tM _ b s K g vl vh HR.out H3.out X HE.out).mono ?_
  rintro r w2 hp
  cases X with
  | error e=>
    obtain ⟨rfl,ht⟩:=hp
    exact ⟨rfl,rfl,ht⟩
  | ok y=>
    obtain ⟨rfl,ht,hr⟩:=hp
    have fK:=Lib.hid ht
    have gR:=Lib.hid hr
    clear ht hr
    go_wp2_with fail
    go_ret
    exact ⟨rfl,fK.out,gR.out⟩
 ·
  have h3:has [36,40,40] s=false:=by simpa using h3
  have H3:=Lib.hid h3
  by_cases h2:has [36,40] s=true
  ·
   have HE:Hid (X=.error 20):=by show _=_;rw [←HX.out];unfold ld;rw [if_neg (by simp [h3]),if_pos (.inl h2)]
   have H2:=Lib.hid h2
   clear h3 h2
   go_wp2_with fail
   refine (ae _ b (s) K g vl vh HR.out [36,40,40]).mono ?_
   rintro r wn ⟨rfl,bu⟩
   obtain rfl:=bu.symm
   rw [show has [36,40,40] (s)=false from H3.out]
   go_wp2_with fail
   refine (ae _ b (s) K g vl vh HR.out [36,40]).mono ?_
   rintro r wn ⟨rfl,bu⟩
   obtain rfl:=bu.symm
   rw [show has [36,40] (s)=true from H2.out]
   go_wp2_with fail
   refine (bq _ b (s) K g vl vh HR.out 20).mono ?_
   rintro r w9 ⟨rfl,rfl⟩
   exact ⟨rfl,eF HE.out (aj.refl _ _)⟩
  ·
   have h2:has [36,40] s=false:=by simpa using h2
   have H2:=Lib.hid h2
   by_cases hj:has [36,92,10] s=true
   ·
    have HE:Hid (X=.error 20):=by show _=_;rw [←HX.out];unfold ld;rw [if_neg (by simp [h3]),if_pos (.inr hj)]
    have HJ:=Lib.hid hj
    clear h3 h2 hj
    go_wp2_with fail
    refine (ae _ b (s) K g vl vh HR.out [36,40,40]).mono ?_
    rintro r wn ⟨rfl,bu⟩
    obtain rfl:=bu.symm
    rw [show has [36,40,40] (s)=false from H3.out]
    go_wp2_with fail
    refine (ae _ b (s) K g vl vh HR.out [36,40]).mono ?_
    rintro r wn ⟨rfl,bu⟩
    obtain rfl:=bu.symm
    rw [show has [36,40] (s)=false from H2.out]
    go_wp2_with fail
    refine (ae _ b (s) K g vl vh HR.out [36,92,10]).mono ?_
    rintro r wn ⟨rfl,bu⟩
    obtain rfl:=bu.symm
    rw [show has [36,92,10] (s)=true from HJ.out]
    go_wp2_with fail
    refine (bq _ b (s) K g vl vh HR.out 20).mono ?_
    rintro r w9 ⟨rfl,rfl⟩
    exact ⟨rfl,eF HE.out (aj.refl _ _)⟩
   ·
    have hj:has [36,92,10] s=false:=by simpa using hj
    have HJ:=Lib.hid hj
    by_cases hb:has [36,123] s=true
    ·
     have HB:=Lib.hid hb
     by_cases h8:d=8
     ·
      have HE:Hid (X=.error 21):=by show _=_;rw [←HX.out];unfold ld;rw [if_neg (by simp [h3]),if_neg (by simp [h2,hj]),if_neg (by simp [hb]),if_pos h8]
      subst h8
      clear h3 h2 hj hb
      go_wp2_with fail
      refine (ae _ b (s) K g vl vh HR.out [36,40,40]).mono ?_
      rintro r wn ⟨rfl,bu⟩
      obtain rfl:=bu.symm
      rw [show has [36,40,40] (s)=false from H3.out]
      go_wp2_with fail
      refine (ae _ b (s) K g vl vh HR.out [36,40]).mono ?_
      rintro r wn ⟨rfl,bu⟩
      obtain rfl:=bu.symm
      rw [show has [36,40] (s)=false from H2.out]
      go_wp2_with fail
      refine (ae _ b (s) K g vl vh HR.out [36,92,10]).mono ?_
      rintro r wn ⟨rfl,bu⟩
      obtain rfl:=bu.symm
      rw [show has [36,92,10] (s)=false from HJ.out]
      go_wp2_with fail
      refine (ae _ b (s) K g vl vh HR.out [36,123]).mono ?_
      rintro r wn ⟨rfl,bu⟩
      obtain rfl:=bu.symm
      rw [show has [36,123] (s)=true from HB.out]
      go_wp2_with fail
      refine (bq _ b (s) K g vl vh HR.out 21).mono ?_
      rintro r w9 ⟨rfl,rfl⟩
      exact ⟨rfl,eF HE.out (aj.refl _ _)⟩
     ·
      have hb2:=eE hb
      simp at hb2
      have ep:s.take 2=[36,123]:=by
       obtain ⟨t,rfl⟩:=List.isPrefixOf_iff_prefix.1 hb
       rfl
      have HE:Hid (lz (pre [36,123] (loop (j8 (d+1)) (has [125]) (s.drop 2))) (fin 125)=X):=by
       show _=_
       rw [←HX.out];unfold ld;rw [if_neg (by simp [h3]),if_neg (by simp [h2,hj]),if_neg (by simp [hb]),if_neg h8]
       rw [Kn];rfl
      have a1:decide ((d:Int)=8)=false:=decide_eq_false (by omega)
      have a2:¬((d:Int)=8):=by omega
      have Vp:d+1≤8:=by omega
      clear h3 h2 hj hb h8
      go_wp2_with fail
      refine (ae _ b (s) K g vl vh HR.out [36,40,40]).mono ?_
      rintro r wn ⟨rfl,bu⟩
      obtain rfl:=bu.symm
      rw [show has [36,40,40] (s)=false from H3.out]
      go_wp2_with fail
      refine (ae _ b (s) K g vl vh HR.out [36,40]).mono ?_
      rintro r wn ⟨rfl,bu⟩
      obtain rfl:=bu.symm
      rw [show has [36,40] (s)=false from H2.out]
      go_wp2_with fail
      refine (ae _ b (s) K g vl vh HR.out [36,92,10]).mono ?_
      rintro r wn ⟨rfl,bu⟩
      obtain rfl:=bu.symm
      rw [show has [36,92,10] (s)=false from HJ.out]
      go_wp2_with fail
      refine (ae _ b (s) K g vl vh HR.out [36,123]).mono ?_
      rintro r wn ⟨rfl,bu⟩
      obtain rfl:=bu.symm
      rw [show has [36,123] (s)=true from HB.out]
      go_wp2_with fail
      refine (cn _ b (s) K g vl vh HR.out 2 (hb2)).mono ?_
      rintro r w2 ⟨rfl,ht,hr⟩
      have gR:Hid (Rd w2 b (s.drop 2) K g vl vh):=hr
      have fK:=Lib.hid (ht)
      clear ht hr
      rw [ep]
      obtain ⟨z,hz⟩:∃z,s.drop 2=z:=⟨_,rfl⟩
      obtain ⟨N,hN⟩:∃N,s.length=N:=⟨_,rfl⟩
      have hzl:z.length+2=N:=by rw [←hz,List.length_drop];omega
      rw [hz] at HE gR
      rw [hN] at qZ hn
      clear hz hN ep hb2 hs1 a1 a2
      clear H3 H2 HJ HB
      have XK:(d:Int)+1≤9:=by omega
      go_wp2_with fail
      go_loopw [5] (fun v5 wr=>∃(o q:Nm),v5=.string (str o)∧lz (pre o (loop (j8 (d+1)) (has [125]) q)) (fin 125)=X∧o.length+q.length≤N∧q.length+2≤N∧Rd wr b q K g vl vh∧aj b W wr) (fun _ wr=>match wr.cell? ⟨b,0,none⟩ with | some (.string t)=>t.size | _=>0)
      case atStart=>exact ⟨[36,123],z,rfl,HE.out,by simp;omega,by omega,gR.out,fK.out⟩
      case round=>
       clear HE gR fK
       obtain ⟨o,q,rfl,hx,hl,hq,hr,ht⟩:=hrel
       have HX:=Lib.hid hx
       have HR:=Lib.hid hr
       have HT:=Lib.hid ht
       have Vh:(str o).size=o.length:=rfl
       clear hx hr ht
       by_cases hs:has [125] q=true
       ·
        have PI:=eE hs
        have sK:q.take 1=[125]:=by
         obtain ⟨t,rfl⟩:=List.isPrefixOf_iff_prefix.1 hs
         rfl
        have HE:Hid (X=.ok (o++[125],q.drop 1)):=by show _=_;rw [←HX.out,BA hs];rfl
        have EE:(str o).size+(str [125]).size≤9223372036854775807:=by rw [aU,aU];simp;omega
        simp at PI
        have HS:=Lib.hid hs
        clear hs
        go_wp2_with fail
        refine (ae _ b (q) K g vl vh HR.out [125]).mono ?_
        rintro r wn ⟨rfl,bu⟩
        obtain rfl:=bu.symm
        rw [show has [125] (q)=true from HS.out]
        go_wp2_with fail
        refine (cn _ b (q) K g vl vh HR.out 1 (PI)).mono ?_
        rintro r w3 ⟨rfl,ht,hr⟩
        have l4:Hid (Rd w3 b (q.drop 1) K g vl vh):=hr
        have jf:=Lib.hid (HT.out.trans ht)
        clear ht hr
        rw [sK]
        go_wp2_with fail
        go_ret
        rw [bn]
        exact lH HE.out jf.out l4.out
       ·
        have hs:has [125] q=false:=by simpa using hs
        have HS:=Lib.hid hs
        clear hs
        go_wp2_with fail
        refine (ae _ b (q) K g vl vh HR.out [125]).mono ?_
        rintro r wn ⟨rfl,bu⟩
        obtain rfl:=bu.symm
        rw [show has [125] (q)=false from HS.out]
        go_wp2_with fail
        refine (S7.out _ b q (d+1) K g vl vh true HR.out (by omega) Vp).mono ?_
        rintro r w3 hp
        cases Fw:j8 (d+1) q with
        | error e=>
          rw [Fw] at hp
          obtain ⟨rfl,ht⟩:=hp
          exact ⟨rfl,eF (by rw [←HX.out,tX (cj _) (iU _) HS.out Fw]) (HT.out.trans ht)⟩
        | ok y=>
          rw [Fw] at hp
          obtain ⟨rfl,ht,hr⟩:=hp
          have oA:Hid (lz (pre (o++y.1) (loop (j8 (d+1)) (has [125]) y.2)) (fin 125)=X):=by show _=_;rw [←HX.out,pV (cj _) (iU _) HS.out Fw]
          have hlt:=cj _ _ _ Fw
          have Vd:=oU _ _ _ Fw
          have jf:=Lib.hid (HT.out.trans ht)
          have hc3:=jz hr
          have hc2:=jz HR.out
          have l4:=Lib.hid hr
          have EE:(str o).size+(str y.1).size≤9223372036854775807:=by rw [aU,aU];omega
          clear ht hr Fw
          go_wp2_with fail
          go_roundw
          case rel=>exact ⟨o++y.1,y.2,by rw [bn],oA.out,by rw [List.length_append];omega,by omega,l4.out,jf.out⟩
          case measure=>rw [hc3,hc2];exact hlt
    ·
     have hb:has [36,123] s=false:=by simpa using hb
     have HB:=Lib.hid hb
     have nX:s.take 1=[36]:=VL.out
     have HE:Hid (X=.ok ([36],s.drop 1)):=by show _=_;rw [←HX.out];unfold ld;rw [if_neg (by simp [h3]),if_neg (by simp [h2,hj]),if_pos hb]
     clear h3 h2 hj hb
     go_wp2_with fail
     refine (ae _ b (s) K g vl vh HR.out [36,40,40]).mono ?_
     rintro r wn ⟨rfl,bu⟩
     obtain rfl:=bu.symm
     rw [show has [36,40,40] (s)=false from H3.out]
     go_wp2_with fail
     refine (ae _ b (s) K g vl vh HR.out [36,40]).mono ?_
     rintro r wn ⟨rfl,bu⟩
     obtain rfl:=bu.symm
     rw [show has [36,40] (s)=false from H2.out]
     go_wp2_with fail
     refine (ae _ b (s) K g vl vh HR.out [36,92,10]).mono ?_
     rintro r wn ⟨rfl,bu⟩
     obtain rfl:=bu.symm
     rw [show has [36,92,10] (s)=false from HJ.out]
     go_wp2_with fail
     refine (ae _ b (s) K g vl vh HR.out [36,123]).mono ?_
     rintro r wn ⟨rfl,bu⟩
     obtain rfl:=bu.symm
     rw [show has [36,123] (s)=false from HB.out]
     go_wp2_with fail
     refine (cn _ b (s) K g vl vh HR.out 1 (hs1)).mono ?_
     rintro r w2 ⟨rfl,ht,hr⟩
     have gR:Hid (Rd w2 b (s.drop 1) K g vl vh):=hr
     have fK:=Lib.hid (ht)
     clear ht hr
     rw [nX]
     go_wp2_with fail
     go_ret
     exact lH HE.out fK.out gR.out
theorem km (d:Nat):Gc d []=.error 20:=rfl
theorem rh {r:Nm} {c:UInt8} (h:has [92,10] (c::r)=true):c=92∧1≤r.length:=by
 cases r with
 | nil=>simp [has,List.isPrefixOf] at h
 | cons e r=>simp [has,List.isPrefixOf] at h;exact ⟨h.1.symm,by simp⟩
theorem A3 {n:Nat} (ih:rA n) (W:World) (b:Nat) (s:Nm) (d:Nat) (K g:Nat) (vl vh:Value) (h:Rd W b (34::s) K g vl vh) (hn:s.length≤n) (hd:d≤8) (X:R) (hX:Lx.quoted d s=X):
 Calls Tryz.prog 86 #[.pointer (some ⟨b,0,none⟩),.int .i64 (d:Int)] W (jI W b K g vl vh X):=by
 have S7:Hid (rA n):=ih
 have HR:=Lib.hid h
 have qZ:=h.len
 obtain ⟨N,hN⟩:∃N,s.length=N:=⟨_,rfl⟩
 have HE:Hid (lz (pre [34] (loop (Gc d) (has [34]) s)) (fin 34)=X):=by
  show _=_
  rw [←hX,←Sz];rfl
 simp at qZ
 have hNs:s.length≤N:=by omega
 rw [hN] at qZ hn
 clear ih h hX hN
 go_enter Tryz.func86,Tryz.ntmps86
 go_wp2_with fail
 refine (cn _ b (34::s) K g vl vh HR.out 1 (by simp)).mono ?_
 rintro r w2 ⟨rfl,ht,hr⟩
 have gR:Hid (Rd w2 b (s) K g vl vh):=hr
 have fK:=Lib.hid (ht)
 clear ht hr
 rw [show (34::s).take 1=[34] from rfl]
 go_wp2_with fail
 go_loopw [5] (fun v5 wr=>∃(o q:Nm),v5=.string (str o)∧lz (pre o (loop (Gc d) (has [34]) q)) (fin 34)=X∧o.length+q.length≤N+1∧q.length≤N∧Rd wr b q K g vl vh∧aj b W wr) (fun _ wr=>match wr.cell? ⟨b,0,none⟩ with | some (.string t)=>t.size | _=>0)
 case atStart=>exact ⟨[34],s,rfl,HE.out,by simp;omega,by omega,gR.out,fK.out⟩
 case round=>
  clear HE gR fK HR hNs
  obtain ⟨o,q,rfl,hx,hl,hq,hr,ht⟩:=hrel
  have HX:=Lib.hid hx
  have HR:=Lib.hid hr
  have HT:=Lib.hid ht
  have Vh:(str o).size=o.length:=rfl
  clear hx hr ht
  cases q with
  | nil=>
    have HE:Hid (X=.error 20):=by show _=_;rw [←HX.out,tX (dQ _) (km _) rfl (km d)]
    go_wp2_with fail
    refine (ae _ b ([]) K g vl vh HR.out [34]).mono ?_
    rintro r wn ⟨rfl,bu⟩
    obtain rfl:=bu.symm
    rw [show has [34] ([])=false from rfl]
    go_wp2_with fail
    refine (ae _ b ([]) K g vl vh HR.out [92,10]).mono ?_
    rintro r wn ⟨rfl,bu⟩
    obtain rfl:=bu.symm
    rw [show has [92,10] ([])=false from rfl]
    go_wp2_with fail
    refine (ae _ b ([]) K g vl vh HR.out [92]).mono ?_
    rintro r wn ⟨rfl,bu⟩
    obtain rfl:=bu.symm
    rw [show has [92] ([])=false from rfl]
    go_wp2_with fail
    refine (ae _ b ([]) K g vl vh HR.out [36]).mono ?_
    rintro r wn ⟨rfl,bu⟩
    obtain rfl:=bu.symm
    rw [show has [36] ([])=false from rfl]
    go_wp2_with fail
    refine (ae _ b ([]) K g vl vh HR.out [96]).mono ?_
    rintro r wn ⟨rfl,bu⟩
    obtain rfl:=bu.symm
    rw [show has [96] ([])=false from rfl]
    go_wp2_with fail
    refine (rO _ b [] K g vl vh HR.out 1 (by simp)).mono ?_
    rintro r w9 ⟨rfl,rfl⟩
    exact ⟨rfl,eF HE.out HT.out⟩
  | cons c q=>
    have hl2:o.length+q.length≤N:=by simp at hl;omega
    have sK:q.length+1≤N:=by simpa using hq
    have hlq:(c::q).length=q.length+1:=rfl
    clear hl hq
    by_cases yX:c=34
    ·
     subst yX
     have HE:Hid (X=.ok (o++[34],q)):=by show _=_;rw [←HX.out,BA rfl];rfl
     have EE:(str o).size+(str [34]).size≤9223372036854775807:=by rw [aU,aU];simp;omega
     go_wp2_with fail
     refine (ae _ b (34::q) K g vl vh HR.out [34]).mono ?_
     rintro r wn ⟨rfl,bu⟩
     obtain rfl:=bu.symm
     rw [show has [34] (34::q)=true from rfl]
     go_wp2_with fail
     refine (cn _ b (34::q) K g vl vh HR.out 1 (by simp)).mono ?_
     rintro r w3 ⟨rfl,ht,hr⟩
     have l4:Hid (Rd w3 b (q) K g vl vh):=hr
     have jf:=Lib.hid (HT.out.trans ht)
     clear ht hr
     rw [show (34::q).take 1=[34] from rfl]
     go_wp2_with fail
     go_ret
     rw [bn]
     exact lH HE.out jf.out l4.out
    have DJ:Hid (has [34] (c::q)=false):=cO (Ne.symm yX)
    clear yX
    by_cases hj:has [92,10] (c::q)=true
    ·
     obtain ⟨rfl,PI⟩:=rh hj
     have oA:Hid (lz (pre o (loop (Gc d) (has [34]) (q.drop 1))) (fin 34)=X):=by
      show _=_
      rw [←HX.out,pV (p:=[]) (q':=q.drop 1) (dQ _) (km _) DJ.out (by rw [iX,if_pos hj]),List.append_nil]
     have HJ:=Lib.hid hj
     have hdl:(q.drop 1).length+1=q.length:=by rw [List.length_drop];omega
     clear hj
     go_wp2_with fail
     refine (ae _ b (92::q) K g vl vh HR.out [34]).mono ?_
     rintro r wn ⟨rfl,bu⟩
     obtain rfl:=bu.symm
     rw [show has [34] (92::q)=false from DJ.out]
     go_wp2_with fail
     refine (ae _ b (92::q) K g vl vh HR.out [92,10]).mono ?_
     rintro r wn ⟨rfl,bu⟩
     obtain rfl:=bu.symm
     rw [show has [92,10] (92::q)=true from HJ.out]
     go_wp2_with fail
     refine (cn _ b (92::q) K g vl vh HR.out 2 (by simp;omega)).mono ?_
     rintro r w3 ⟨rfl,ht,hr⟩
     have l4:Hid (Rd w3 b (q.drop 1) K g vl vh):=hr
     have jf:=Lib.hid (HT.out.trans ht)
     clear ht hr
     have hc3:=jz l4.out
     have hc2:=jz HR.out
     generalize q.drop 1=q' at *
     go_wp2_with fail
     go_roundw
     case rel=>exact ⟨o,q',rfl,oA.out,by omega,by omega,l4.out,jf.out⟩
     case measure=>rw [hc3,hc2,hlq];omega
    have hj:has [92,10] (c::q)=false:=by simpa using hj
    have HJ:=Lib.hid hj
    by_cases kg:c=92
    ·
     subst kg
     cases q with
     | nil=>
       have HE:Hid (X=.error 20):=by show _=_;rw [←HX.out,tX (e:=20) (dQ _) (km _) DJ.out (by rfl)]
       clear hj
       go_wp2_with fail
       refine (ae _ b ([92]) K g vl vh HR.out [34]).mono ?_
       rintro r wn ⟨rfl,bu⟩
       obtain rfl:=bu.symm
       rw [show has [34] ([92])=false from DJ.out]
       go_wp2_with fail
       refine (ae _ b ([92]) K g vl vh HR.out [92,10]).mono ?_
       rintro r wn ⟨rfl,bu⟩
       obtain rfl:=bu.symm
       rw [show has [92,10] ([92])=false from HJ.out]
       go_wp2_with fail
       refine (ae _ b ([92]) K g vl vh HR.out [92]).mono ?_
       rintro r wn ⟨rfl,bu⟩
       obtain rfl:=bu.symm
       rw [show has [92] ([92])=true from rfl]
       go_wp2_with fail
       refine (rO _ b [92] K g vl vh HR.out 2 (by simp)).mono ?_
       rintro r w9 ⟨rfl,rfl⟩
       exact ⟨rfl,eF HE.out HT.out⟩
     | cons e q=>
       have oA:Hid (lz (pre (o++[92,e]) (loop (Gc d) (has [34]) q)) (fin 34)=X):=by
        show _=_
        rw [←HX.out,pV (p:=[92,e]) (q':=q) (dQ _) (km _) DJ.out (by rw [iX,if_neg (by simp [hj]),if_pos rfl])]
       have EE:(str o).size+(str [92,e]).size≤9223372036854775807:=by rw [aU,aU];simp at hl2 ⊢;omega
       have hl3:o.length+q.length+1≤N:=by simp at hl2;omega
       have hq3:q.length+2≤N:=by simp at sK;omega
       clear hj
       go_wp2_with fail
       refine (ae _ b (92::e::q) K g vl vh HR.out [34]).mono ?_
       rintro r wn ⟨rfl,bu⟩
       obtain rfl:=bu.symm
       rw [show has [34] (92::e::q)=false from DJ.out]
       go_wp2_with fail
       refine (ae _ b (92::e::q) K g vl vh HR.out [92,10]).mono ?_
       rintro r wn ⟨rfl,bu⟩
       obtain rfl:=bu.symm
       rw [show has [92,10] (92::e::q)=false from HJ.out]
       go_wp2_with fail
       refine (ae _ b (92::e::q) K g vl vh HR.out [92]).mono ?_
       rintro r wn ⟨rfl,bu⟩
       obtain rfl:=bu.symm
       rw [show has [92] (92::e::q)=true from rfl]
       go_wp2_with fail
       refine (cn _ b (92::e::q) K g vl vh HR.out 2 (by simp)).mono ?_
       rintro r w3 ⟨rfl,ht,hr⟩
       have l4:Hid (Rd w3 b (q) K g vl vh):=hr
       have jf:=Lib.hid (HT.out.trans ht)
       clear ht hr
       rw [show (92::e::q).take 2=[92,e] from rfl]
       have hc3:=jz l4.out
       have hc2:=jz HR.out
       go_wp2_with fail
       go_roundw
       case rel=>exact ⟨o++[92,e],q,by rw [bn],oA.out,by simp;omega,by omega,l4.out,jf.out⟩
       case measure=>rw [hc3,hc2];simp only [List.length_cons];omega
    have Rh:Hid (has [92] (c::q)=false):=cO (Ne.symm kg)
    by_cases om:c=36
    ·
     subst om
     clear kg
     go_wp2_with fail
     refine (ae _ b (36::q) K g vl vh HR.out [34]).mono ?_
     rintro r wn ⟨rfl,bu⟩
     obtain rfl:=bu.symm
     rw [show has [34] (36::q)=false from DJ.out]
     go_wp2_with fail
     refine (ae _ b (36::q) K g vl vh HR.out [92,10]).mono ?_
     rintro r wn ⟨rfl,bu⟩
     obtain rfl:=bu.symm
     rw [show has [92,10] (36::q)=false from HJ.out]
     go_wp2_with fail
     refine (ae _ b (36::q) K g vl vh HR.out [92]).mono ?_
     rintro r wn ⟨rfl,bu⟩
     obtain rfl:=bu.symm
     rw [show has [92] (36::q)=false from Rh.out]
     go_wp2_with fail
     refine (ae _ b (36::q) K g vl vh HR.out [36]).mono ?_
     rintro r wn ⟨rfl,bu⟩
     obtain rfl:=bu.symm
     rw [show has [36] (36::q)=true from rfl]
     go_wp2_with fail
     obtain ⟨Y,hY⟩:∃Y,ij d (36::q)=Y:=⟨_,rfl⟩
     refine (se S7.out _ b (36::q) d K g vl vh HR.out rfl (by simp;omega) hd Y hY).mono ?_
     rintro r w3 hp
     have ZB:Gc d (36::q)=Y:=by rw [←hY,iX,if_neg (by simp [hj]),if_neg (by decide),if_pos rfl]
     cases Y with
     | error e=>
       obtain ⟨rfl,ht⟩:=hp
       exact ⟨rfl,eF (by rw [←HX.out,tX (dQ _) (km _) DJ.out ZB]) (HT.out.trans ht)⟩
     | ok y=>
       obtain ⟨rfl,ht,hr⟩:=hp
       have oA:Hid (lz (pre (o++y.1) (loop (Gc d) (has [34]) y.2)) (fin 34)=X):=by show _=_;rw [←HX.out,pV (dQ _) (km _) DJ.out ZB]
       have hlt:=dQ _ _ _ ZB
       have Vd:=LY _ _ _ ZB
       have jf:=Lib.hid (HT.out.trans ht)
       have hc3:=jz hr
       have hc2:=jz HR.out
       have l4:=Lib.hid hr
       have EE:(str o).size+(str y.1).size≤9223372036854775807:=by rw [aU,aU];simp at Vd;omega
       clear ht hr hY ZB hj
       go_wp2_with fail
       go_roundw
       case rel=>exact ⟨o++y.1,y.2,by rw [bn],oA.out,by rw [List.length_append];simp at Vd;omega,by simp at hlt;omega,l4.out,jf.out⟩
       case measure=>rw [hc3,hc2];exact hlt
    have VL:Hid (has [36] (c::q)=false):=cO (Ne.symm om)
    by_cases KA:c=96
    ·
     subst KA
     have HE:Hid (X=.error 20):=by show _=_;rw [←HX.out,tX (e:=20) (dQ _) (km _) DJ.out (by rw [iX,if_neg (by simp [hj]),if_neg kg,if_neg om,if_pos rfl])]
     clear kg om hj
     go_wp2_with fail
     refine (ae _ b (96::q) K g vl vh HR.out [34]).mono ?_
     rintro r wn ⟨rfl,bu⟩
     obtain rfl:=bu.symm
     rw [show has [34] (96::q)=false from DJ.out]
     go_wp2_with fail
     refine (ae _ b (96::q) K g vl vh HR.out [92,10]).mono ?_
     rintro r wn ⟨rfl,bu⟩
     obtain rfl:=bu.symm
     rw [show has [92,10] (96::q)=false from HJ.out]
     go_wp2_with fail
     refine (ae _ b (96::q) K g vl vh HR.out [92]).mono ?_
     rintro r wn ⟨rfl,bu⟩
     obtain rfl:=bu.symm
     rw [show has [92] (96::q)=false from Rh.out]
     go_wp2_with fail
     refine (ae _ b (96::q) K g vl vh HR.out [36]).mono ?_
     rintro r wn ⟨rfl,bu⟩
     obtain rfl:=bu.symm
     rw [show has [36] (96::q)=false from VL.out]
     go_wp2_with fail
     refine (ae _ b (96::q) K g vl vh HR.out [96]).mono ?_
     rintro r wn ⟨rfl,bu⟩
     obtain rfl:=bu.symm
     rw [show has [96] (96::q)=true from rfl]
     go_wp2_with fail
     refine (bq _ b (96::q) K g vl vh HR.out 20).mono ?_
     rintro r w9 ⟨rfl,rfl⟩
     exact ⟨rfl,eF HE.out HT.out⟩
    have H96:Hid (has [96] (c::q)=false):=cO (Ne.symm KA)
    have oA:Hid (lz (pre (o++[c]) (loop (Gc d) (has [34]) q)) (fin 34)=X):=by
     show _=_
     rw [←HX.out,pV (p:=[c]) (q':=q) (dQ _) (km _) DJ.out (by rw [iX,if_neg (by simp [hj]),if_neg kg,if_neg om,if_neg KA])]
    have EE:(str o).size+(str [c]).size≤9223372036854775807:=by rw [aU,aU];simp;omega
    clear kg om KA hj
    go_wp2_with fail
    refine (ae _ b (c::q) K g vl vh HR.out [34]).mono ?_
    rintro r wn ⟨rfl,bu⟩
    obtain rfl:=bu.symm
    rw [show has [34] (c::q)=false from DJ.out]
    go_wp2_with fail
    refine (ae _ b (c::q) K g vl vh HR.out [92,10]).mono ?_
    rintro r wn ⟨rfl,bu⟩
    obtain rfl:=bu.symm
    rw [show has [92,10] (c::q)=false from HJ.out]
    go_wp2_with fail
    refine (ae _ b (c::q) K g vl vh HR.out [92]).mono ?_
    rintro r wn ⟨rfl,bu⟩
    obtain rfl:=bu.symm
    rw [show has [92] (c::q)=false from Rh.out]
    go_wp2_with fail
    refine (ae _ b (c::q) K g vl vh HR.out [36]).mono ?_
    rintro r wn ⟨rfl,bu⟩
    obtain rfl:=bu.symm
    rw [show has [36] (c::q)=false from VL.out]
    go_wp2_with fail
    refine (ae _ b (c::q) K g vl vh HR.out [96]).mono ?_
    rintro r wn ⟨rfl,bu⟩
    obtain rfl:=bu.symm
    rw [show has [96] (c::q)=false from H96.out]
    go_wp2_with fail
    refine (cn _ b (c::q) K g vl vh HR.out 1 (by simp)).mono ?_
    rintro r w3 ⟨rfl,ht,hr⟩
    have l4:Hid (Rd w3 b (q) K g vl vh):=hr
    have jf:=Lib.hid (HT.out.trans ht)
    clear ht hr
    rw [show (c::q).take 1=[c] from rfl]
    have hc3:=jz l4.out
    have hc2:=jz HR.out
    go_wp2_with fail
    go_roundw
    case rel=>exact ⟨o++[c],q,by rw [bn],oA.out,by simp;omega,by omega,l4.out,jf.out⟩
    case measure=>rw [hc3,hc2];simp only [List.length_cons];omega
theorem bZ {n:Nat} (ih:rA n) (W:World) (b:Nat) (s:Nm) (d:Nat) (K g:Nat) (vl vh:Value) (wi:Bool) (h:Rd W b s K g vl vh) (hn:s.length≤n) (hd:d≤8) (X:R) (hX:j8 d s=X):
 Calls Tryz.prog 69 #[.pointer (some ⟨b,0,none⟩),.int .i64 (d:Int),.bool wi] W (jI W b K g vl vh X):=by
 have S7:Hid (rA n):=ih
 have HR:=Lib.hid h
 have HX:=Lib.hid hX
 clear ih h hX
 go_enter Tryz.func69,Tryz.ntmps69
 cases s with
 | nil=>
   have HE:Hid (X=.error 20):=HX.out.symm
   go_wp2_with fail
   refine (ae _ b ([]) K g vl vh HR.out [92,10]).mono ?_
   rintro r wn ⟨rfl,bu⟩
   obtain rfl:=bu.symm
   rw [show has [92,10] ([])=false from rfl]
   go_wp2_with fail
   refine (ae _ b ([]) K g vl vh HR.out [92]).mono ?_
   rintro r wn ⟨rfl,bu⟩
   obtain rfl:=bu.symm
   rw [show has [92] ([])=false from rfl]
   go_wp2_with fail
   refine (ae _ b ([]) K g vl vh HR.out [39]).mono ?_
   rintro r wn ⟨rfl,bu⟩
   obtain rfl:=bu.symm
   rw [show has [39] ([])=false from rfl]
   go_wp2_with fail
   refine (ae _ b ([]) K g vl vh HR.out [34]).mono ?_
   rintro r wn ⟨rfl,bu⟩
   obtain rfl:=bu.symm
   rw [show has [34] ([])=false from rfl]
   go_wp2_with fail
   refine (ae _ b ([]) K g vl vh HR.out [36]).mono ?_
   rintro r wn ⟨rfl,bu⟩
   obtain rfl:=bu.symm
   rw [show has [36] ([])=false from rfl]
   go_wp2_with fail
   refine (ae _ b ([]) K g vl vh HR.out [96]).mono ?_
   rintro r wn ⟨rfl,bu⟩
   obtain rfl:=bu.symm
   rw [show has [96] ([])=false from rfl]
   go_wp2_with fail
   refine (rO _ b [] K g vl vh HR.out 1 (by simp)).mono ?_
   rintro r w9 ⟨rfl,rfl⟩
   exact ⟨rfl,eF HE.out (aj.refl _ _)⟩
 | cons c q=>
   have hnq:q.length+1≤n:=by simpa using hn
   clear hn
   by_cases hj:has [92,10] (c::q)=true
   ·
    obtain ⟨rfl,PI⟩:=rh hj
    have HE:Hid (X=.ok ([],q.drop 1)):=by show _=_;rw [←HX.out,fu,if_pos hj]
    have HJ:=Lib.hid hj
    clear hj
    go_wp2_with fail
    refine (ae _ b (92::q) K g vl vh HR.out [92,10]).mono ?_
    rintro r wn ⟨rfl,bu⟩
    obtain rfl:=bu.symm
    rw [show has [92,10] (92::q)=true from HJ.out]
    go_wp2_with fail
    refine (cn _ b (92::q) K g vl vh HR.out 2 (by simp;omega)).mono ?_
    rintro r w2 ⟨rfl,ht,hr⟩
    have gR:Hid (Rd w2 b (q.drop 1) K g vl vh):=hr
    have fK:=Lib.hid (ht)
    clear ht hr
    go_wp2_with fail
    go_ret
    exact lH HE.out fK.out gR.out
   have hj:has [92,10] (c::q)=false:=by simpa using hj
   have HJ:=Lib.hid hj
   by_cases kg:c=92
   ·
    subst kg
    cases q with
    | nil=>
      have HE:Hid (X=.error 20):=HX.out.symm
      clear hj
      go_wp2_with fail
      refine (ae _ b ([92]) K g vl vh HR.out [92,10]).mono ?_
      rintro r wn ⟨rfl,bu⟩
      obtain rfl:=bu.symm
      rw [show has [92,10] ([92])=false from HJ.out]
      go_wp2_with fail
      refine (ae _ b ([92]) K g vl vh HR.out [92]).mono ?_
      rintro r wn ⟨rfl,bu⟩
      obtain rfl:=bu.symm
      rw [show has [92] ([92])=true from rfl]
      go_wp2_with fail
      refine (rO _ b [92] K g vl vh HR.out 2 (by simp)).mono ?_
      rintro r w9 ⟨rfl,rfl⟩
      exact ⟨rfl,eF HE.out (aj.refl _ _)⟩
    | cons e q=>
      have HE:Hid (X=.ok ([92,e],q)):=by show _=_;rw [←HX.out,fu,if_neg (by simp [hj]),if_pos rfl]
      clear hj
      go_wp2_with fail
      refine (ae _ b (92::e::q) K g vl vh HR.out [92,10]).mono ?_
      rintro r wn ⟨rfl,bu⟩
      obtain rfl:=bu.symm
      rw [show has [92,10] (92::e::q)=false from HJ.out]
      go_wp2_with fail
      refine (ae _ b (92::e::q) K g vl vh HR.out [92]).mono ?_
      rintro r wn ⟨rfl,bu⟩
      obtain rfl:=bu.symm
      rw [show has [92] (92::e::q)=true from rfl]
      go_wp2_with fail
      refine (cn _ b (92::e::q) K g vl vh HR.out 2 (by simp)).mono ?_
      rintro r w2 ⟨rfl,ht,hr⟩
      have gR:Hid (Rd w2 b (q) K g vl vh):=hr
      have fK:=Lib.hid (ht)
      clear ht hr
      rw [show (92::e::q).take 2=[92,e] from rfl]
      go_wp2_with fail
      go_ret
      exact lH HE.out fK.out gR.out
   have Rh:Hid (has [92] (c::q)=false):=cO (Ne.symm kg)
   by_cases E7:c=39
   ·
    subst E7
    have HE:Hid (wH 39 (39::q)=X):=by
     show _=_
     rw [←HX.out,fu,if_neg (by simp [hj]),if_neg kg,if_pos rfl]
     unfold wH
     show (match cutAt 39 q with | none=>_ | some x=>_)=_
     cases cutAt 39 q<;>rfl
    clear hj kg
    go_wp2_with fail
    refine (ae _ b (39::q) K g vl vh HR.out [92,10]).mono ?_
    rintro r wn ⟨rfl,bu⟩
    obtain rfl:=bu.symm
    rw [show has [92,10] (39::q)=false from HJ.out]
    go_wp2_with fail
    refine (ae _ b (39::q) K g vl vh HR.out [92]).mono ?_
    rintro r wn ⟨rfl,bu⟩
    obtain rfl:=bu.symm
    rw [show has [92] (39::q)=false from Rh.out]
    go_wp2_with fail
    refine (ae _ b (39::q) K g vl vh HR.out [39]).mono ?_
    rintro r wn ⟨rfl,bu⟩
    obtain rfl:=bu.symm
    rw [show has [39] (39::q)=true from rfl]
    go_wp2_with fail
    refine (Fh _ b (39::q) K g vl vh HR.out 39 (by simp)).mono ?_
    rintro r w3 hp
    rw [HE.out] at hp
    cases X with
    | error e=>
      obtain ⟨rfl,ht⟩:=hp
      exact ⟨rfl,rfl,ht⟩
    | ok y=>
      obtain ⟨rfl,ht,hr⟩:=hp
      have fK:=Lib.hid ht
      have gR:=Lib.hid hr
      clear ht hr
      go_wp2_with fail
      go_ret
      exact ⟨rfl,fK.out,gR.out⟩
   have H39:Hid (has [39] (c::q)=false):=cO (Ne.symm E7)
   by_cases yX:c=34
   ·
    subst yX
    have HE:Hid (Lx.quoted d q=X):=by show _=_;rw [←HX.out,fu,if_neg (by simp [hj]),if_neg kg,if_neg E7,if_pos rfl]
    clear hj kg E7
    go_wp2_with fail
    refine (ae _ b (34::q) K g vl vh HR.out [92,10]).mono ?_
    rintro r wn ⟨rfl,bu⟩
    obtain rfl:=bu.symm
    rw [show has [92,10] (34::q)=false from HJ.out]
    go_wp2_with fail
    refine (ae _ b (34::q) K g vl vh HR.out [92]).mono ?_
    rintro r wn ⟨rfl,bu⟩
    obtain rfl:=bu.symm
    rw [show has [92] (34::q)=false from Rh.out]
    go_wp2_with fail
    refine (ae _ b (34::q) K g vl vh HR.out [39]).mono ?_
    rintro r wn ⟨rfl,bu⟩
    obtain rfl:=bu.symm
    rw [show has [39] (34::q)=false from H39.out]
    go_wp2_with fail
    refine (ae _ b (34::q) K g vl vh HR.out [34]).mono ?_
    rintro r wn ⟨rfl,bu⟩
    obtain rfl:=bu.symm
    rw [show has [34] (34::q)=true from rfl]
    go_wp2_with fail
    refine (A3 S7.out _ b q d K g vl vh HR.out (by omega) hd X HE.out).mono ?_
    rintro r w3 hp
    cases X with
    | error e=>
      obtain ⟨rfl,ht⟩:=hp
      exact ⟨rfl,rfl,ht⟩
    | ok y=>
      obtain ⟨rfl,ht,hr⟩:=hp
      have fK:=Lib.hid ht
      have gR:=Lib.hid hr
      clear ht hr
      go_wp2_with fail
      go_ret
      exact ⟨rfl,fK.out,gR.out⟩
   have DJ:Hid (has [34] (c::q)=false):=cO (Ne.symm yX)
   by_cases om:c=36
   ·
    subst om
    have HE:Hid (ij d (36::q)=X):=by show _=_;rw [←HX.out,fu,if_neg (by simp [hj]),if_neg kg,if_neg E7,if_neg yX,if_pos rfl]
    clear hj kg E7 yX
    go_wp2_with fail
    refine (ae _ b (36::q) K g vl vh HR.out [92,10]).mono ?_
    rintro r wn ⟨rfl,bu⟩
    obtain rfl:=bu.symm
    rw [show has [92,10] (36::q)=false from HJ.out]
    go_wp2_with fail
    refine (ae _ b (36::q) K g vl vh HR.out [92]).mono ?_
    rintro r wn ⟨rfl,bu⟩
    obtain rfl:=bu.symm
    rw [show has [92] (36::q)=false from Rh.out]
    go_wp2_with fail
    refine (ae _ b (36::q) K g vl vh HR.out [39]).mono ?_
    rintro r wn ⟨rfl,bu⟩
    obtain rfl:=bu.symm
    rw [show has [39] (36::q)=false from H39.out]
    go_wp2_with fail
    refine (ae _ b (36::q) K g vl vh HR.out [34]).mono ?_
    rintro r wn ⟨rfl,bu⟩
    obtain rfl:=bu.symm
    rw [show has [34] (36::q)=false from DJ.out]
    go_wp2_with fail
    refine (ae _ b (36::q) K g vl vh HR.out [36]).mono ?_
    rintro r wn ⟨rfl,bu⟩
    obtain rfl:=bu.symm
    rw [show has [36] (36::q)=true from rfl]
    go_wp2_with fail
    refine (se S7.out _ b (36::q) d K g vl vh HR.out rfl (by simp;omega) hd X HE.out).mono ?_
    rintro r w3 hp
    cases X with
    | error e=>
      obtain ⟨rfl,ht⟩:=hp
      exact ⟨rfl,rfl,ht⟩
    | ok y=>
      obtain ⟨rfl,ht,hr⟩:=hp
      have fK:=Lib.hid ht
      have gR:=Lib.hid hr
      clear ht hr
      go_wp2_with fail
      go_ret
      exact ⟨rfl,fK.out,gR.out⟩
   have VL:Hid (has [36] (c::q)=false):=cO (Ne.symm om)
   by_cases KA:c=96
   ·
    subst KA
    have HE:Hid (X=.error 20):=by show _=_;rw [←HX.out,fu,if_neg (by simp [hj]),if_neg kg,if_neg E7,if_neg yX,if_neg om,if_pos rfl]
    clear hj kg E7 yX om
    go_wp2_with fail
    refine (ae _ b (96::q) K g vl vh HR.out [92,10]).mono ?_
    rintro r wn ⟨rfl,bu⟩
    obtain rfl:=bu.symm
    rw [show has [92,10] (96::q)=false from HJ.out]
    go_wp2_with fail
    refine (ae _ b (96::q) K g vl vh HR.out [92]).mono ?_
    rintro r wn ⟨rfl,bu⟩
    obtain rfl:=bu.symm
    rw [show has [92] (96::q)=false from Rh.out]
    go_wp2_with fail
    refine (ae _ b (96::q) K g vl vh HR.out [39]).mono ?_
    rintro r wn ⟨rfl,bu⟩
    obtain rfl:=bu.symm
    rw [show has [39] (96::q)=false from H39.out]
    go_wp2_with fail
    refine (ae _ b (96::q) K g vl vh HR.out [34]).mono ?_
    rintro r wn ⟨rfl,bu⟩
    obtain rfl:=bu.symm
    rw [show has [34] (96::q)=false from DJ.out]
    go_wp2_with fail
    refine (ae _ b (96::q) K g vl vh HR.out [36]).mono ?_
    rintro r wn ⟨rfl,bu⟩
    obtain rfl:=bu.symm
    rw [show has [36] (96::q)=false from VL.out]
    go_wp2_with fail
    refine (ae _ b (96::q) K g vl vh HR.out [96]).mono ?_
    rintro r wn ⟨rfl,bu⟩
    obtain rfl:=bu.symm
    rw [show has [96] (96::q)=true from rfl]
    go_wp2_with fail
    refine (bq _ b (96::q) K g vl vh HR.out 20).mono ?_
    rintro r w9 ⟨rfl,rfl⟩
    exact ⟨rfl,eF HE.out (aj.refl _ _)⟩
   have H96:Hid (has [96] (c::q)=false):=cO (Ne.symm KA)
   have HE:Hid (X=.ok ([c],q)):=by show _=_;rw [←HX.out,fu,if_neg (by simp [hj]),if_neg kg,if_neg E7,if_neg yX,if_neg om,if_neg KA]
   clear hj kg E7 yX om KA
   go_wp2_with fail
   refine (ae _ b (c::q) K g vl vh HR.out [92,10]).mono ?_
   rintro r wn ⟨rfl,bu⟩
   obtain rfl:=bu.symm
   rw [show has [92,10] (c::q)=false from HJ.out]
   go_wp2_with fail
   refine (ae _ b (c::q) K g vl vh HR.out [92]).mono ?_
   rintro r wn ⟨rfl,bu⟩
   obtain rfl:=bu.symm
   rw [show has [92] (c::q)=false from Rh.out]
   go_wp2_with fail
   refine (ae _ b (c::q) K g vl vh HR.out [39]).mono ?_
   rintro r wn ⟨rfl,bu⟩
   obtain rfl:=bu.symm
   rw [show has [39] (c::q)=false from H39.out]
   go_wp2_with fail
   refine (ae _ b (c::q) K g vl vh HR.out [34]).mono ?_
   rintro r wn ⟨rfl,bu⟩
   obtain rfl:=bu.symm
   rw [show has [34] (c::q)=false from DJ.out]
   go_wp2_with fail
   refine (ae _ b (c::q) K g vl vh HR.out [36]).mono ?_
   rintro r wn ⟨rfl,bu⟩
   obtain rfl:=bu.symm
   rw [show has [36] (c::q)=false from VL.out]
   go_wp2_with fail
   refine (ae _ b (c::q) K g vl vh HR.out [96]).mono ?_
   rintro r wn ⟨rfl,bu⟩
   obtain rfl:=bu.symm
   rw [show has [96] (c::q)=false from H96.out]
   go_wp2_with fail
   refine (cn _ b (c::q) K g vl vh HR.out 1 (by simp)).mono ?_
   rintro r w2 ⟨rfl,ht,hr⟩
   have gR:Hid (Rd w2 b (q) K g vl vh):=hr
   have fK:=Lib.hid (ht)
   clear ht hr
   rw [show (c::q).take 1=[c] from rfl]
   go_wp2_with fail
   go_ret
   exact lH HE.out fK.out gR.out
theorem Iz:∀n,rA n
 | 0=>fun W b s d K g vl vh wi h hn=>absurd hn (Nat.not_lt_zero _)
 | n+1=>fun W b s d K g vl vh wi h hn hd=>bZ (Iz n) W b s d K g vl vh wi h (Nat.le_of_lt_succ hn) hd _ rfl
end Go.Proofs.YtiklkhbfilbpeaaGreatDoor
