/-
  State: what may be packed may be shown; what the reference's parts lie in stays.
-/
import Derived.Test.YtnmlnaoljkhjeaaStOf
import Derived.Test.YtnmlnaoljkhjeaaStRef7
set_option linter.unusedVariables false
set_option maxRecDepth 100000
namespace Go.Proofs.Ytnmlnaoljkhjeaa
open Go.RowKit Base

theorem rowPQ {α : Type} {P Q : α → Prop} (h : ∀ x, P x → Q x) {l : List α} (hr : RowP P l) : RowQ Q l := fun x hx => h x (hr.2 x hx)
theorem env_PQ {e : EnvD} (h : EnvP e) : EnvQ e := ⟨rowPQ (fun _ => id) h.1, rowPQ (fun _ => id) h.2.1, h.2.2.1, h.2.2.2⟩
theorem keep_PQ {k : KeepD} (h : KeepP k) : KeepQ k := ⟨env_PQ h.1, rowPQ (fun _ => id) h.2.1, rowPQ (fun _ => id) h.2.2.1, rowPQ (fun _ => id) h.2.2.2⟩
theorem frame_PQ {f : FrameD} (h : FrameP f) : FrameQ f := by
  obtain ⟨h1, h2, h3, h4, h5, h6, h7, h8, h9⟩ := h
  exact ⟨h1, h2, h3, h4, h5, rowPQ (fun _ => id) h6, rowPQ (fun _ => id) h7, rowPQ (fun _ => id) h8, keep_PQ h9⟩
theorem state_PQ {s : StateD} (h : StateP s) : StateQ s := by
  obtain ⟨q1, q2, q3, ⟨r1, r2, r3, r4, r5⟩, ⟨a1, a2, a3, a4, a5, a6⟩, q6, q7, q8, q9⟩ := h
  exact ⟨keep_PQ q1, rowPQ (fun _ => id) q2, rowPQ (fun _ => frame_PQ) q3, ⟨r1, r2, r3, r4, rowPQ (fun _ => id) r5⟩, ⟨a1, a2, a3, a4, rowPQ (fun _ => id) a5, a6⟩, rowPQ (fun _ => id) q6, q7, q8, q9⟩
theorem rStateA_below {W W' : World} (hb : Below W.heap.size W W') {vs : List Value} {s : StateD} (h : rStateA W vs s) : rStateA W' vs s :=
  pair_below (keepA_below hb) (pair_below (strsA_below hb) (pair_below (rowA_below (k := 15) (by decide) hb (rFrameA_below hb)) (pair_below (reqA_below hb) (pair_below (ansA_below hb) (pair_below (numsA_below hb) (pair_below (numsA_below hb) (pair_below (rowA_below (k := 1) (by decide) hb id) flat_bl))))))) h
end Go.Proofs.Ytnmlnaoljkhjeaa
