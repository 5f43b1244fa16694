/-
  Lexer: what the deferred function does behind a panic, and behind none. Conditions: as each contract says.
-/
import Derived.Test.YtiklkhbfilbpeaaGreatDoorSkLxOne
import Derived.Test.YtiklkhbfilbpeaaGreatDoorSkRegionQ
import Derived.Defers
import Derived.Recover
set_option linter.unusedVariables false
set_option linter.unusedSimpArgs false
set_option maxRecDepth 100000
namespace Go.Proofs.YtiklkhbfilbpeaaGreatDoor
open Go.RowKit Base Lx
abbrev tsT : TypeId := 39
abbrev enT : TypeId := 26
theorem does_assert {P : Program} {a : Act} {w : World} {post : Value → World → Prop} {dst : Option Tmp} {x : Operand} {s t : TypeId} {ty : TypeId} {pos : String} {after : Array Edge} {guard : Option (Nat × Bool)} (v u : Value)
    (hx : a.eval x = v) (hr : (Instr.typeAssert v s t false).run P w = .ok u w) (hp : post u w) : Rg.does P { dst, op := .typeAssert x s t false, type := ty, pos, after, guard } a w post := by
  refine Rg.does_value (v := u) ?_ hp
  simp [execOp, hx, hr, Result.andThen]
theorem does_fldv {P : Program} {a : Act} {w : World} {post : Value → World → Prop} {dst : Option Tmp} {x : Operand} {s : TypeId} {i : Nat} {ty : TypeId} {pos : String} {after : Array Edge} {guard : Option (Nat × Bool)} (v u : Value)
    (hx : a.eval x = v) (hr : (Instr.field s v i).run P w = .ok u w) (hp : post u w) : Rg.does P { dst, op := .field s x i, type := ty, pos, after, guard } a w post := by
  refine Rg.does_value (v := u) ?_ hp
  simp [execOp, hx, hr, Result.andThen]
abbrev wrV (e : Int) (g : Nat) : Value := .agg #[.int .i64 e, .int .i64 (g : Int)]
theorem assert_wr (s : TypeId) (e : Int) (g : Nat) (w : World) : (Instr.typeAssert (.iface wrT (wrV e g)) s wrT false).run Tryz.prog w = .ok (wrV e g) w := by
  simp [Instr.typeAssert, run_underlying Tryz.underlying61, Result.andThen]
theorem fld_wr0 (e : Int) (g : Nat) (w : World) : (Instr.field wrT (wrV e g) 0).run Tryz.prog w = .ok (.int .i64 e) w := by rfl
theorem fld_wr1 (e : Int) (g : Nat) (w : World) : (Instr.field wrT (wrV e g) 1).run Tryz.prog w = .ok (.int .i64 (g : Int)) w := by rfl
theorem wp_region_rest {P : Program} {id : Nat} {ops : Array Oper} {Q : Exit → Act → World → Prop} {a : Act} {w : World} (hm : P.follows .mixedOrders = true) (h : Rq.Rest P ops Q 0 a w.drew) : (Code.region id ops true).wp P Q a w := by
  refine wp_region_any hm ?_
  refine h _ _ (by simp) (fun i hi => absurd hi (Nat.not_lt_zero _)) (fun i _ => getD_replicate_false _ _) ?_
  exact Nat.le_trans (List.length_filter_le _ _) (by simp)
/-- Three cells of their own, written. -/
structure Caught (w w' : World) (p q r : Nat) (x y z : Value) : Prop where
  hp : w'.heap[p]? = some (.cells #[x] tsT)
  hq : w'.heap[q]? = some (.cells #[y] enT)
  hr : w'.heap[r]? = some (.cells #[z] inT)
  os : w'.os = w.os
  tape : w'.tape = w.tape
  output : w'.output = w.output
  size : w'.heap.size = w.heap.size
  block : ∀ k, k < w.heap.size → k ≠ p → k ≠ q → k ≠ r → w'.heap[k]? = w.heap[k]?
theorem one_there {w : World} {p : Nat} {x : Value} {t : TypeId} (h : w.heap[p]? = some (.cells #[x] t)) : w.there p 0 1 := fun j hj => by
  obtain rfl : j = 0 := by omega
  exact ⟨by simp [World.cell?, h], by simp [World.frozen?, h]⟩
theorem type_ne {w : World} {p q : Nat} {x y : Value} {s t : TypeId} (hp : w.heap[p]? = some (.cells #[x] s)) (hq : w.heap[q]? = some (.cells #[y] t)) (h : s ≠ t) : p ≠ q := fun e => by
  subst e
  rw [hp] at hq
  injection hq with hq
  injection hq with _ hT _
  exact h hT
theorem Caught.setp {w w' : World} {p q r : Nat} {x y z : Value} (h : Caught w w' p q r x y z) (u : Value) : Caught w (w'.setCell ⟨p, 0, none⟩ u) p q r u y z := by
  have hg : w'.grownBy (w'.setCell ⟨p, 0, none⟩ u) (some p) := Sl.setCells_grown p [u] 0 w'
  have hs := heap_setCell_same w' p 0 _ _ u h.hp
  have n1 := type_ne h.hp h.hq (by decide)
  have n2 := type_ne h.hp h.hr (by decide)
  exact ⟨by simpa using hs, (hg.block q (Array.getElem?_eq_some_iff.1 h.hq).1 (fun e => n1 (Option.some.inj e).symm)).trans h.hq, (hg.block r (Array.getElem?_eq_some_iff.1 h.hr).1 (fun e => n2 (Option.some.inj e).symm)).trans h.hr, hg.os.trans h.os, hg.tape.trans h.tape, hg.output.trans h.output, (Sl.size_setCells p [u] 0 w').trans h.size, fun k hk h1 h2 h3 => (hg.block k (by rw [h.size]; exact hk) (fun e => h1 (Option.some.inj e))).trans (h.block k hk h1 h2 h3)⟩
theorem Caught.setq {w w' : World} {p q r : Nat} {x y z : Value} (h : Caught w w' p q r x y z) (u : Value) : Caught w (w'.setCell ⟨q, 0, none⟩ u) p q r x u z := by
  have hg : w'.grownBy (w'.setCell ⟨q, 0, none⟩ u) (some q) := Sl.setCells_grown q [u] 0 w'
  have hs := heap_setCell_same w' q 0 _ _ u h.hq
  have n1 := type_ne h.hp h.hq (by decide)
  have n2 := type_ne h.hq h.hr (by decide)
  exact ⟨(hg.block p (Array.getElem?_eq_some_iff.1 h.hp).1 (fun e => n1 (Option.some.inj e))).trans h.hp, by simpa using hs, (hg.block r (Array.getElem?_eq_some_iff.1 h.hr).1 (fun e => n2 (Option.some.inj e).symm)).trans h.hr, hg.os.trans h.os, hg.tape.trans h.tape, hg.output.trans h.output, (Sl.size_setCells q [u] 0 w').trans h.size, fun k hk h1 h2 h3 => (hg.block k (by rw [h.size]; exact hk) (fun e => h2 (Option.some.inj e))).trans (h.block k hk h1 h2 h3)⟩
theorem Caught.setr {w w' : World} {p q r : Nat} {x y z : Value} (h : Caught w w' p q r x y z) (u : Value) : Caught w (w'.setCell ⟨r, 0, none⟩ u) p q r x y u := by
  have hg : w'.grownBy (w'.setCell ⟨r, 0, none⟩ u) (some r) := Sl.setCells_grown r [u] 0 w'
  have hs := heap_setCell_same w' r 0 _ _ u h.hr
  have n1 := type_ne h.hp h.hr (by decide)
  have n2 := type_ne h.hq h.hr (by decide)
  exact ⟨(hg.block p (Array.getElem?_eq_some_iff.1 h.hp).1 (fun e => n1 (Option.some.inj e))).trans h.hp, (hg.block q (Array.getElem?_eq_some_iff.1 h.hq).1 (fun e => n2 (Option.some.inj e))).trans h.hq, by simpa using hs, hg.os.trans h.os, hg.tape.trans h.tape, hg.output.trans h.output, (Sl.size_setCells r [u] 0 w').trans h.size, fun k hk h1 h2 h3 => (hg.block k (by rw [h.size]; exact hk) (fun e => h3 (Option.some.inj e))).trans (h.block k hk h1 h2 h3)⟩
theorem Caught.below {w w' : World} {p q r : Nat} {x y z : Value} {B : Nat} (h : Caught w w' p q r x y z) (hp : B ≤ p) (hq : B ≤ q) (hr : B ≤ r) (hs : B ≤ w.heap.size) : Below B w w' :=
  ⟨h.os, h.tape, h.output, Nat.le_of_eq h.size.symm, fun k hk => h.block k (by omega) (by omega) (by omega) (by omega)⟩
set_option maxHeartbeats 2000000 in
theorem catch_panic (p q r : Nat) (x y z : Value) (e : Int) (g : Nat) (older : List PanicEntry) (w : World) (hp : w.heap[p]? = some (.cells #[x] tsT)) (hq : w.heap[q]? = some (.cells #[y] enT)) (hr : w.heap[r]? = some (.cells #[z] inT)) :
    CallsD Tryz.prog 19 #[.pointer (some ⟨p, 0, none⟩), .pointer (some ⟨q, 0, none⟩), .pointer (some ⟨r, 0, none⟩)] (.panicking ({ v := .iface wrT (wrV e g), recovered := false } :: older)) w fun rr u' w' =>
      rr = .returned (.tuple #[]) ∧ u' = .panicking ({ v := .iface wrT (wrV e g), recovered := true } :: older) ∧ Caught w w' p q r (.slice none 0 0) (.int .i64 e) (.int .i64 (g : Int)) := by
  refine callsD_of_wpS Tryz.func19 rfl fun c₀ cs hu => ?_
  apply wpS_seq
  apply wpS_region
  simp [wpOpsS, go_sem, recoverD, hu, Tryz.ntmps19, Exit.thenS]
  apply wpS_seq
  apply wpS_region
  simp [wpOpsS, go_sem, Exit.thenS]
  refine wpS_cond (t := true) (by simp [Act.eval, Array.replicate]) ?_
  simp only [if_true]
  apply wpS_of_wp
  change Code.wp _ _ _ ({ tmps := #[.pointer (some ⟨p, 0, none⟩), .pointer (some ⟨q, 0, none⟩), .pointer (some ⟨r, 0, none⟩), .iface wrT (wrV e g), .iface wrT (wrV e g), .iface wrT (wrV e g), .bool true, undef, undef, undef, undef, undef, undef], defers := [] } : Act) w
  apply wp_region_rest (by kernel_rfl)
  have HC : Hid (Caught w w.drew p q r x y z) := ⟨hp, hq, hr, rfl, rfl, rfl, rfl, fun _ _ _ _ _ => rfl⟩
  refine Rq.rest_list 0 [] [Rg.Is (.iface wrT (wrV e g)), Rg.Is (wrV e g), Rg.Is (.int .i64 e), Rg.Is (.iface wrT (wrV e g)), Rg.Is (wrV e g), Rg.Is (.int .i64 (g : Int)), (fun _ _ => True), (fun _ _ => True), (fun _ _ => True)] (fun _ _ => True) (fun ls x' => Caught w x' p q r (if ls 6 then .slice none 0 0 else x) (if ls 7 then .int .i64 e else y) (if ls 8 then .int .i64 (g : Int) else z)) (fun _ _ _ => True) (by kernel_rfl) (of_decide_eq_true (by kernel_rfl)) (by kernel_rfl) (by kernel_rfl) trivial ?_ ?_ (fun _ _ _ _ _ => trivial) ⟨?_, ?_, ?_, ?_, ?_, ?_, ?_, ?_, ?_, trivial⟩ ?_ ?_ trivial ?_
  · intro i hi
    match i, hi with
    | j + 0, hi => exact absurd hi (by omega)
  · intro i k u x y _ _ h1 _
    match i, h1 with
    | 0, h1 => exact h1
    | 1, h1 => exact h1
    | 2, h1 => exact h1
    | 3, h1 => exact h1
    | 4, h1 => exact h1
    | 5, h1 => exact h1
    | 6, h1 => exact h1
    | 7, h1 => exact h1
    | 8, h1 => exact h1
    | _ + 9, _ => trivial
  · intro b9 x ls _ hS hself hup hdn hk
    have h3 : b9.eval (.tmp 3) = .iface wrT (wrV e g) := Eq.mp (by kernel_rfl) (hk 3 (by decide))
    exact Rp.doesX_of (Rg.does_move ⟨trivial, h3, hS⟩)
  · intro b9 x ls _ hS hself hup hdn hk
    have h7 : b9.eval (.tmp 7) = .iface wrT (wrV e g) := Eq.mp (by kernel_rfl) (hk 7 (by decide))
    exact Rp.doesX_of (does_assert _ _ h7 (assert_wr _ e g _) ⟨trivial, rfl, hS⟩)
  · intro b9 x ls _ hS hself hup hdn hk
    have h8 : b9.eval (.tmp 8) = wrV e g := Eq.mp (by kernel_rfl) (hk 8 (by decide))
    exact Rp.doesX_of (does_fldv _ _ h8 (fld_wr0 e g _) ⟨trivial, rfl, hS⟩)
  · intro b9 x ls _ hS hself hup hdn hk
    have h3 : b9.eval (.tmp 3) = .iface wrT (wrV e g) := Eq.mp (by kernel_rfl) (hk 3 (by decide))
    exact Rp.doesX_of (Rg.does_move ⟨trivial, h3, hS⟩)
  · intro b9 x ls _ hS hself hup hdn hk
    have h10 : b9.eval (.tmp 10) = .iface wrT (wrV e g) := Eq.mp (by kernel_rfl) (hk 10 (by decide))
    exact Rp.doesX_of (does_assert _ _ h10 (assert_wr _ e g _) ⟨trivial, rfl, hS⟩)
  · intro b9 x ls _ hS hself hup hdn hk
    have h11 : b9.eval (.tmp 11) = wrV e g := Eq.mp (by kernel_rfl) (hk 11 (by decide))
    exact Rp.doesX_of (does_fldv _ _ h11 (fld_wr1 e g _) ⟨trivial, rfl, hS⟩)
  · intro b9 x ls _ hS hself hup hdn hk
    have h0 : b9.eval (.tmp 0) = .pointer (some ⟨p, 0, none⟩) := Eq.mp (by kernel_rfl) (hk 0 (by decide))
    exact Rq.does_store_one p 0 _ h0 rfl rfl rfl (one_there hS.hp) (by kernel_rfl) ⟨trivial, trivial, hS.setp _⟩
  · intro b9 x ls _ hS hself hup hdn hk
    have h1 : b9.eval (.tmp 1) = .pointer (some ⟨q, 0, none⟩) := Eq.mp (by kernel_rfl) (hk 1 (by decide))
    have h9 : b9.eval (.tmp 9) = .int .i64 e := Eq.mp (by kernel_rfl) (hk 9 (by decide))
    exact Rq.does_store_one q 0 _ h1 h9 rfl rfl (one_there hS.hq) (by kernel_rfl) ⟨trivial, trivial, hS.setq _⟩
  · intro b9 x ls _ hS hself hup hdn hk
    have h2 : b9.eval (.tmp 2) = .pointer (some ⟨r, 0, none⟩) := Eq.mp (by kernel_rfl) (hk 2 (by decide))
    have h12 : b9.eval (.tmp 12) = .int .i64 (g : Int) := Eq.mp (by kernel_rfl) (hk 12 (by decide))
    exact Rq.does_store_one r 0 _ h2 h12 rfl rfl (one_there hS.hr) (by kernel_rfl) ⟨trivial, trivial, hS.setr _⟩
  · exact fun ls ls' x' h hS => by rw [← h 6, ← h 7, ← h 8]; exact hS
  · intro vals wE ls _ hS hall hL
    rw [hall 6 (by decide), hall 7 (by decide), hall 8 (by decide)] at hS
    have hS2 : Caught w wE p q r (.slice none 0 0) (.int .i64 e) (.int .i64 (g : Int)) := hS
    simp [bodyPostS, results, Tryz.results19]
    exact hS2
  · exact HC.out
set_option maxHeartbeats 2000000 in
theorem catch_idle (p q r : Nat) (w : World) :
    CallsD Tryz.prog 19 #[.pointer (some ⟨p, 0, none⟩), .pointer (some ⟨q, 0, none⟩), .pointer (some ⟨r, 0, none⟩)] .returning w fun rr u' w' => rr = .returned (.tuple #[]) ∧ u' = .returning ∧ w' = w := by
  refine callsD_of_wpS Tryz.func19 rfl fun c₀ cs hu => ?_
  apply wpS_seq
  apply wpS_region
  simp [wpOpsS, go_sem, recoverD, hu, Tryz.ntmps19, Exit.thenS]
  apply wpS_seq
  apply wpS_region
  simp [wpOpsS, go_sem, Exit.thenS]
  refine wpS_cond (t := false) (by simp [Act.eval, Array.replicate]) ?_
  simp only [Bool.false_eq_true, if_false]
  refine wpS_of_wp (wp_skip ?_)
  cases c₀
  simp_all [bodyPostS, results, Tryz.results19]
end Go.Proofs.YtiklkhbfilbpeaaGreatDoor
