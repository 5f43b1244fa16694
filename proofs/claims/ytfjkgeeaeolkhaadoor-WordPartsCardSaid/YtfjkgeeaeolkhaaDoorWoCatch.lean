/-
  Word: what the deferred function does behind a panic, and behind none. Conditions: as each contract says.
-/
import Derived.Test.YtfjkgeeaeolkhaaDoorWoSteps
import Derived.Defers
import Derived.Recover
set_option linter.unusedVariables false
set_option linter.unusedSimpArgs false
set_option maxRecDepth 100000
namespace Go.Proofs.YtfjkgeeaeolkhaaDoor
open Go.RowKit Base Wo

theorem wp_region_rest {P : Program} {id : Nat} {ops : Array Oper} {Q : Exit → Act → World → Prop} {a : Act} {w : World} (hm : P.follows .mixedOrders = true) (h : Rq.Rest P ops Q 0 a w.drew) : (Code.region id ops true).wp P Q a w := by
  refine wp_region_any hm ?_
  refine h _ _ (by simp) (fun i hi => absurd hi (Nat.not_lt_zero _)) (fun i _ => getD_replicate_false _ _) ?_
  exact Nat.le_trans (List.length_filter_le _ _) (by simp)
abbrev psT : TypeId := 23
abbrev enT : TypeId := 24
/-- Two cells of their own, written. -/
structure Caught (w w' : World) (p q : Nat) (x y : Value) : Prop where
  hp : w'.heap[p]? = some (.cells #[x] psT)
  hq : w'.heap[q]? = some (.cells #[y] enT)
  os : w'.os = w.os
  tape : w'.tape = w.tape
  output : w'.output = w.output
  size : w'.heap.size = w.heap.size
  block : ∀ k, k < w.heap.size → k ≠ p → k ≠ q → w'.heap[k]? = w.heap[k]?
theorem Caught.setp {w w' : World} {p q : Nat} {x y : Value} (h : Caught w w' p q x y) (hne : p ≠ q) (u : Value) : Caught w (w'.setCell ⟨p, 0, none⟩ u) p q u y := by
  have hg : w'.grownBy (w'.setCell ⟨p, 0, none⟩ u) (some p) := Sl.setCells_grown p [u] 0 w'
  have hs := heap_setCell_same w' p 0 _ _ u h.hp
  refine ⟨by simpa using hs, (hg.block q (Array.getElem?_eq_some_iff.1 h.hq).1 (fun e => hne (Option.some.inj e).symm)).trans h.hq, hg.os.trans h.os, hg.tape.trans h.tape, hg.output.trans h.output, (Sl.size_setCells p [u] 0 w').trans h.size, fun k hk h1 h2 => (hg.block k (by rw [h.size]; exact hk) (fun e => h1 (Option.some.inj e))).trans (h.block k hk h1 h2)⟩
theorem Caught.setq {w w' : World} {p q : Nat} {x y : Value} (h : Caught w w' p q x y) (hne : p ≠ q) (u : Value) : Caught w (w'.setCell ⟨q, 0, none⟩ u) p q x u := by
  have hg : w'.grownBy (w'.setCell ⟨q, 0, none⟩ u) (some q) := Sl.setCells_grown q [u] 0 w'
  have hs := heap_setCell_same w' q 0 _ _ u h.hq
  refine ⟨(hg.block p (Array.getElem?_eq_some_iff.1 h.hp).1 (fun e => hne (Option.some.inj e))).trans h.hp, by simpa using hs, hg.os.trans h.os, hg.tape.trans h.tape, hg.output.trans h.output, (Sl.size_setCells q [u] 0 w').trans h.size, fun k hk h1 h2 => (hg.block k (by rw [h.size]; exact hk) (fun e => h2 (Option.some.inj e))).trans (h.block k hk h1 h2)⟩
theorem one_there {w : World} {p : Nat} {x : Value} {t : TypeId} (h : w.heap[p]? = some (.cells #[x] t)) : w.there p 0 1 := fun j hj => by
  obtain rfl : j = 0 := by omega
  exact ⟨by simp [World.cell?, h], by simp [World.frozen?, h]⟩
theorem does_assert {P : Program} {a : Act} {w : World} {post : Value → World → Prop} {dst : Option Tmp} {x : Operand} {s t : TypeId} {ty : TypeId} {pos : String} {after : Array Edge} {guard : Option (Nat × Bool)} (v u : Value)
    (hx : a.eval x = v) (hr : (Instr.typeAssert v s t false).run P w = .ok u w) (hp : post u w) : Rg.does P { dst, op := .typeAssert x s t false, type := ty, pos, after, guard } a w post := by
  refine Rg.does_value (v := u) ?_ hp
  simp [execOp, hx, hr, Result.andThen]
theorem assert_en (s : TypeId) (e : Int) (w : World) : (Instr.typeAssert (.iface enT (.int .i64 e)) s enT false).run Tryd.prog w = .ok (.int .i64 e) w := by
  simp [Instr.typeAssert, run_underlying Tryd.underlying24, Result.andThen]
set_option maxHeartbeats 2000000 in
theorem catch_panic (p q : Nat) (x y : Value) (e : Int) (older : List PanicEntry) (w : World) (hp : w.heap[p]? = some (.cells #[x] psT)) (hq : w.heap[q]? = some (.cells #[y] enT)) (hne : p ≠ q) :
    CallsD Tryd.prog 20 #[.pointer (some ⟨p, 0, none⟩), .pointer (some ⟨q, 0, none⟩)] (.panicking ({ v := .iface enT (.int .i64 e), recovered := false } :: older)) w fun r u' w' =>
      r = .returned (.tuple #[]) ∧ u' = .panicking ({ v := .iface enT (.int .i64 e), recovered := true } :: older) ∧ Caught w w' p q (.slice none 0 0) (.int .i64 e) := by
  refine callsD_of_wpS Tryd.func20 rfl fun c₀ cs hu => ?_
  apply wpS_seq
  apply wpS_region
  simp [wpOpsS, go_sem, recoverD, hu, Tryd.ntmps20, Exit.thenS]
  apply wpS_seq
  apply wpS_region
  simp [wpOpsS, go_sem, Exit.thenS]
  refine wpS_cond (t := true) (by simp [Act.eval, Array.replicate]) ?_
  simp only [if_true]
  apply wpS_of_wp
  change Code.wp _ _ _ ({ tmps := #[.pointer (some ⟨p, 0, none⟩), .pointer (some ⟨q, 0, none⟩), .iface enT (.int .i64 e), .iface enT (.int .i64 e), .iface enT (.int .i64 e), .bool true, undef, undef], defers := [] } : Act) w
  apply wp_region_rest (by kernel_rfl)
  have HC : Hid (Caught w w.drew p q x y) := ⟨hp, hq, rfl, rfl, rfl, rfl, fun _ _ _ _ => rfl⟩
  refine Rq.rest_list 0 [] [Rg.Is (.iface enT (.int .i64 e)), Rg.Is (.int .i64 e), (fun _ _ => True), (fun _ _ => True)] (fun _ _ => True) (fun ls x' => Caught w x' p q (if ls 2 then .slice none 0 0 else x) (if ls 3 then .int .i64 e else y)) (fun _ _ _ => True) (by kernel_rfl) (of_decide_eq_true (by kernel_rfl)) (by kernel_rfl) (by kernel_rfl) trivial ?_ ?_ (fun _ _ _ _ _ => trivial) ⟨?_, ?_, ?_, ?_, trivial⟩ ?_ ?_ trivial ?_
  · intro i hi
    match i, hi with
    | j + 0, hi => exact absurd hi (by omega)
  · intro i k u x y _ _ h1 _
    match i, h1 with
    | 0, h1 => exact h1
    | 1, h1 => exact h1
    | 2, h1 => exact h1
    | 3, h1 => exact h1
    | _ + 4, _ => trivial
  · intro b9 x ls _ hS hself hup hdn hk
    have h2 : b9.eval (.tmp 2) = .iface enT (.int .i64 e) := Eq.mp (by kernel_rfl) (hk 2 (by decide))
    exact Rp.doesX_of (Rg.does_move ⟨trivial, h2, hS⟩)
  · intro b9 x ls _ hS hself hup hdn hk
    have h6 : b9.eval (.tmp 6) = .iface enT (.int .i64 e) := Eq.mp (by kernel_rfl) (hk 6 (by decide))
    exact Rp.doesX_of (does_assert _ _ h6 (assert_en _ e _) ⟨trivial, rfl, hS⟩)
  · intro b9 x ls _ hS hself hup hdn hk
    have h0 : b9.eval (.tmp 0) = .pointer (some ⟨p, 0, none⟩) := Eq.mp (by kernel_rfl) (hk 0 (by decide))
    exact Rq.does_store_one p 0 _ h0 rfl rfl rfl (one_there hS.hp) (by kernel_rfl) ⟨trivial, trivial, hS.setp hne _⟩
  · intro b9 x ls _ hS hself hup hdn hk
    have h1 : b9.eval (.tmp 1) = .pointer (some ⟨q, 0, none⟩) := Eq.mp (by kernel_rfl) (hk 1 (by decide))
    have h7 : b9.eval (.tmp 7) = .int .i64 e := Eq.mp (by kernel_rfl) (hk 7 (by decide))
    exact Rq.does_store_one q 0 _ h1 h7 rfl rfl (one_there hS.hq) (by kernel_rfl) ⟨trivial, trivial, hS.setq hne _⟩
  · exact fun ls ls' x' h hS => by rw [← h 2, ← h 3]; exact hS
  · intro vals wE ls _ hS hall hL
    rw [hall 2 (by decide), hall 3 (by decide)] at hS
    have hS2 : Caught w wE p q (.slice none 0 0) (.int .i64 e) := hS
    simp [bodyPostS, results, Tryd.results20]
    exact hS2
  · exact HC.out
set_option maxHeartbeats 2000000 in
theorem catch_idle (p q : Nat) (w : World) :
    CallsD Tryd.prog 20 #[.pointer (some ⟨p, 0, none⟩), .pointer (some ⟨q, 0, none⟩)] .returning w fun r u' w' => r = .returned (.tuple #[]) ∧ u' = .returning ∧ w' = w := by
  refine callsD_of_wpS Tryd.func20 rfl fun c₀ cs hu => ?_
  apply wpS_seq
  apply wpS_region
  simp [wpOpsS, go_sem, recoverD, hu, Tryd.ntmps20, Exit.thenS]
  apply wpS_seq
  apply wpS_region
  simp [wpOpsS, go_sem, Exit.thenS]
  refine wpS_cond (t := false) (by simp [Act.eval, Array.replicate]) ?_
  simp only [Bool.false_eq_true, if_false]
  refine wpS_of_wp (wp_skip ?_)
  cases c₀
  simp_all [bodyPostS, results, Tryd.results20]
end Go.Proofs.YtfjkgeeaeolkhaaDoor
