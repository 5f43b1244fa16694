import Derived.Test.YtiklkhbfilbpeaaGreatDoorTbLxPlain
set_option maxRecDepth 100000
set_option maxHeartbeats 16000000
set_option linter.unusedVariables false
set_option linter.unusedSimpArgs false
namespace Go.Proofs.YtiklkhbfilbpeaaGreatDoor.Lx
theorem Yf {s:Nm} (h:ends s=true):fe s=.ok ([],s):=qd h
theorem WY {s:Nm} (h:ends s=false):fe s=lz (j8 0 s) fun x=>pre x.1 (fe x.2):=jl (cj 0) (iU 0) h
theorem Dk {c d:UInt8} {r:Nm}:has [92,10] (c::d::r)=(decide (92=c) && decide (10=d)):=by
 simp only [has,List.isPrefixOf,Bool.and_true]
 by_cases h:(92:UInt8)=c<;>by_cases h2:(10:UInt8)=d<;>simp [h,h2]
theorem iN {c:UInt8} {r:Nm} (h:c≠92):has [92,10] (c::r)=false:=cO (Ne.symm h)
def jm (c:UInt8):Bool:=!xw.contains c && c != 92 && c != 39 && c != 34 && c != 36 && c != 96
theorem oO {c:UInt8} (h:jm c=true):xw.contains c=false∧c≠92∧c≠39∧c≠34∧c≠36∧c≠96:=by
 unfold jm at h
 simp only [Bool.and_eq_true,Bool.not_eq_true',bne_iff_ne] at h
 exact ⟨h.1.1.1.1.1,h.1.1.1.1.2,h.1.1.1.2,h.1.1.2,h.1.2,h.2⟩
theorem Fj {c:UInt8} (h:jm c=true) (deep:Nat) (r:Nm):j8 deep (c::r)=.ok ([c],r):=by
 obtain ⟨_,h1,h2,h3,h4,h5⟩:=oO h
 rw [fu,if_neg (by simp [iN h1]),if_neg h1,if_neg h2,if_neg h3,if_neg h4,if_neg h5]
theorem wP:∀(p t:Nm),p.all jm=true→fe (p++t)=pre p (fe t)
 | [],t,_=>by rw [List.nil_append,pre_nil]
 | c::p,t,h=>by
   rw [List.all_cons,Bool.and_eq_true] at h
   have he:ends (c::(p++t))=false:=(oO h.1).1
   rw [List.cons_append,WY he,Fj h.1,iL,wP p t h.2,nt]
   rfl
theorem AY {c:UInt8} {r:Nm} (h:c≠59∧c≠124∧c≠40∧c≠41∧c≠60∧c≠62∧c≠38):fq (c::r)=none:=by
 obtain ⟨h1,h2,h3,h4,h5,h6,h7⟩:=h
 unfold fq
 rw [List.find?_eq_none]
 intro o ho
 simp [jk] at ho
 rcases ho with rfl | rfl | rfl | rfl | rfl | rfl | rfl | rfl | rfl | rfl | rfl<;>simp [has,List.isPrefixOf,Ne.symm h1,Ne.symm h2,Ne.symm h3,Ne.symm h4,Ne.symm h5,Ne.symm h6,Ne.symm h7]
theorem Cy {g:Nat} {l:List Tok} {h:List Nat} {c:UInt8} {r:Nm} (h10:c≠10) (uR:c≠35) (hj:has [92,10] (c::r)=false) (hb:xw.contains c=false):eY g l h (c::r)=lz (fe (c::r)) fun x=>
 if kR (c::r) x.1 x.2 then .ok (l++[⟨5,x.1,[],g⟩],h,x.2) else .ok (l++[⟨1,x.1,[],g⟩],if cW l then h++[l.length] else h,x.2):=by
 simp [xw] at hb
 obtain ⟨b1,b2,b3,b4,b5,b6,b7,b8,b9,b10⟩:=hb
 unfold eY
 simp only
 rw [if_neg h10,if_neg uR,if_neg (by simp [hj]),if_neg (by simp [b1,b2]),AY ⟨b4,b6,b7,b8,b9,b10,b5⟩]
 simp only
 rw [if_neg b5]
theorem Ky {g:Nat} {l:List Tok} {h:List Nat} (r:Nm):eY g l h (32::r)=.ok (l,h,r):=rfl
theorem Bw {c:UInt8}:∀(x r:Nm),c∉x→cutAt c (x++c::r)=some (x,r)
 | [],r,_=>by simp [cutAt]
 | d::x,r,h=>by
   have h1:d≠c:=fun e=>h (by rw [e];exact List.mem_cons_self)
   rw [List.cons_append,cutAt,if_neg h1,Bw x r (fun hm=>h (List.mem_cons_of_mem _ hm))]
   rfl
end Go.Proofs.YtiklkhbfilbpeaaGreatDoor.Lx
