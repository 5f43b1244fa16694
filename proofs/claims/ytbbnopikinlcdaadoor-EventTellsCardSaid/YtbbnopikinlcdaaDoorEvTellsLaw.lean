/-
  The walk of the statement EventTells: any kind's name, whether any request, or answer, may be, whether two are the same, and their bytes, are the document's: true; nothing that was there turns. Conditions: the arguments can be read; the names stand where they were laid.
-/
import Derived.Test.YtbbnopikinlcdaaDoorEvAwake
set_option linter.unusedVariables false
namespace Go.Proofs.YtbbnopikinlcdaaDoor
open Go.RowKit Base

theorem does_same_bool {P : Program} {a : Act} {w : World} {post : Value → World → Prop} {dst : Option Tmp} {x y : Operand} {t u : TypeId} {ty : TypeId} {pos : String} {after : Array Edge} {guard : Option (Nat × Bool)} (m : Bool)
    (ht : P.underlying t = some .bool) (hx : a.eval x = .bool m) (hy : a.eval y = .bool m) (hp : post (.bool true) w) : Rg.does P { dst, op := .binOp .eql t x y u, type := ty, pos, after, guard } a w post := by
  refine Rg.does_value (v := .bool true) ?_ hp
  have h := run_eql_bool (P := P) (w := w) t m m ht
  rw [beq_self_eq_true] at h
  simp [execOp, hx, hy, eqGuard_at_bool, h, Result.andThen]
theorem heap3 (w : World) (o0 o1 o2 : Obj) : (((w.alloc o0).alloc o1).alloc o2).heap[w.heap.size]? = some o0 ∧ (((w.alloc o0).alloc o1).alloc o2).heap[w.heap.size + 1]? = some o1 ∧ (((w.alloc o0).alloc o1).alloc o2).heap[w.heap.size + 2]? = some o2 := by
  have h : (((w.alloc o0).alloc o1).alloc o2).heap = ((w.heap.push o0).push o1).push o2 := rfl
  rw [h]
  refine ⟨?_, ?_, ?_⟩
  · rw [Array.getElem?_push, Array.getElem?_push, Array.getElem?_push]; simp; omega
  · rw [Array.getElem?_push, Array.getElem?_push]; simp
  · rw [Array.getElem?_push]; simp
theorem few_texts {l : List (List UInt8)} (h : fewB l = true) : l.length ≤ 30 ∧ (texts l).length ≤ 100000000 := by
  unfold fewB at h
  rw [Bool.and_eq_true] at h
  have h30 : l.length ≤ 30 := by simpa using h.2
  have hall := List.all_eq_true.1 h.1
  refine ⟨h30, ?_⟩
  have key : ∀ m : List (List UInt8), (∀ s ∈ m, s.length ≤ 200) → (texts m).length ≤ 210 * m.length := by
    intro m
    induction m with
    | nil => intro _; simp [texts]
    | cons s m ih =>
      intro hs
      have h1 := ih (fun x hx => hs x (List.mem_cons_of_mem _ hx))
      have h2 := hs s List.mem_cons_self
      have h3 := textB_len s (by unfold Lt64; omega)
      have h5 : (texts (s :: m)).length = (textB s).length + (texts m).length := by show ((s :: m).map textB).flatten.length = _; rw [List.map_cons, List.flatten_cons, List.length_append]; rfl
      rw [h5, List.length_cons]
      omega
  have := key l (fun s hs => by have := hall s hs; simpa using this)
  omega

set_option maxHeartbeats 8000000 in
set_option maxRecDepth 100000 in
theorem ev_tells_law (w : World) (q p : Req) (r : Ans) (k : Int) (a0 a1 a2 : Option Addr) (c0 c1 c2 : Nat) (hs0 : Strs w a0 q.list.length c0 q.list) (hs1 : Strs w a1 p.list.length c1 p.list) (hs2 : Strs w a2 r.list.length c2 r.list) (hf0 : q.Fine) (hf2 : r.Fine) (hn : NamesAt w) :
    Calls Tryd.prog 3 #[reqV q a0 c0, reqV p a1 c1, ansV r a2 c2, .int .i64 k] w fun e w' => e = .returned (.bool true) ∧ Below w.heap.size w w' := by
  have hbA := (((Below.refl w.heap.size w).alloc (Nat.le_refl _) (.cells #[.int .i64 q.kind, .int .i64 q.n, .int .i64 q.m, .string (str q.text), .slice a0 q.list.length c0] 24)).alloc (by simp) (.cells #[.int .i64 p.kind, .int .i64 p.n, .int .i64 p.m, .string (str p.text), .slice a1 p.list.length c1] 24)).alloc (by simp; omega) (.cells #[.int .i64 r.kind, .int .i64 r.err, .int .i64 r.n, .int .i64 r.m, .string (str r.text), .slice a2 r.list.length c2, .int .i64 r.sig] 26)
  have HX0 : Hid ((((w.alloc (.cells #[.int .i64 q.kind, .int .i64 q.n, .int .i64 q.m, .string (str q.text), .slice a0 q.list.length c0] 24)).alloc (.cells #[.int .i64 p.kind, .int .i64 p.n, .int .i64 p.m, .string (str p.text), .slice a1 p.list.length c1] 24)).alloc (.cells #[.int .i64 r.kind, .int .i64 r.err, .int .i64 r.n, .int .i64 r.m, .string (str r.text), .slice a2 r.list.length c2, .int .i64 r.sig] 26)).heap[w.heap.size]? = some (.cells #[.int .i64 q.kind, .int .i64 q.n, .int .i64 q.m, .string (str q.text), .slice a0 q.list.length c0] 24)) := (heap3 w _ _ _).1
  have HX1 : Hid ((((w.alloc (.cells #[.int .i64 q.kind, .int .i64 q.n, .int .i64 q.m, .string (str q.text), .slice a0 q.list.length c0] 24)).alloc (.cells #[.int .i64 p.kind, .int .i64 p.n, .int .i64 p.m, .string (str p.text), .slice a1 p.list.length c1] 24)).alloc (.cells #[.int .i64 r.kind, .int .i64 r.err, .int .i64 r.n, .int .i64 r.m, .string (str r.text), .slice a2 r.list.length c2, .int .i64 r.sig] 26)).heap[w.heap.size + 1]? = some (.cells #[.int .i64 p.kind, .int .i64 p.n, .int .i64 p.m, .string (str p.text), .slice a1 p.list.length c1] 24)) := (heap3 w _ _ _).2.1
  have HX2 : Hid ((((w.alloc (.cells #[.int .i64 q.kind, .int .i64 q.n, .int .i64 q.m, .string (str q.text), .slice a0 q.list.length c0] 24)).alloc (.cells #[.int .i64 p.kind, .int .i64 p.n, .int .i64 p.m, .string (str p.text), .slice a1 p.list.length c1] 24)).alloc (.cells #[.int .i64 r.kind, .int .i64 r.err, .int .i64 r.n, .int .i64 r.m, .string (str r.text), .slice a2 r.list.length c2, .int .i64 r.sig] 26)).heap[w.heap.size + 2]? = some (.cells #[.int .i64 r.kind, .int .i64 r.err, .int .i64 r.n, .int .i64 r.m, .string (str r.text), .slice a2 r.list.length c2, .int .i64 r.sig] 26)) := (heap3 w _ _ _).2.2
  have Haw := Lib.hid (ev_awake_calls _ (hn.below hbA))
  have HN := Lib.hid hn; clear hn
  have HbA := Lib.hid hbA; clear hbA
  have HS0 := Lib.hid hs0; clear hs0
  have HS1 := Lib.hid hs1; clear hs1
  have HS2 := Lib.hid hs2; clear hs2
  have HF0 := Lib.hid hf0; clear hf0
  have HF2 := Lib.hid hf2; clear hf2
  have HFEW : Hid (∀ l, fewB l = true → l.length ≤ 30 ∧ (texts l).length ≤ 100000000) := fun l h => few_texts h
  unfold reqV ansV
  go_enter Tryd.func3, Tryd.ntmps3
  go_wp2_with fail
  refine Haw.out.mono ?_
  rintro e w1 ⟨rfl, hb1⟩
  have HB1 : Hid (Below w.heap.size w w1) := HbA.out.trans (hb1.mono (by simp; omega))
  have HY0 := Lib.hid (heap_below hb1 HX0.out)
  have HY1 := Lib.hid (heap_below hb1 HX1.out)
  have HY2 := Lib.hid (heap_below hb1 HX2.out)
  have hz1 : w.heap.size + 2 < w1.heap.size := by have := hb1.size; simp at this; omega
  have HT0 : Hid (Strs w1 a0 q.list.length c0 q.list) := HS0.out.below stable_strAt HB1.out
  have HT1 : Hid (Strs w1 a1 p.list.length c1 p.list) := HS1.out.below stable_strAt HB1.out
  have HT2 : Hid (Strs w1 a2 r.list.length c2 r.list) := HS2.out.below stable_strAt HB1.out
  have HN1 : Hid (NamesAt w1) := HN.out.below HB1.out
  clear hb1 HX0 HX1 HX2 HbA Haw HS0 HS1 HS2 HN
  have K00 : w1.cell? ⟨w.heap.size, 0, none⟩ = some (.int .i64 q.kind) := by have := HY0.out; simp [World.cell?, this]
  have K01 : w1.cell? ⟨w.heap.size, 1, none⟩ = some (.int .i64 q.n) := by have := HY0.out; simp [World.cell?, this]
  have K02 : w1.cell? ⟨w.heap.size, 2, none⟩ = some (.int .i64 q.m) := by have := HY0.out; simp [World.cell?, this]
  have K03 : w1.cell? ⟨w.heap.size, 3, none⟩ = some (.string (str q.text)) := by have := HY0.out; simp [World.cell?, this]
  have K04 : w1.cell? ⟨w.heap.size, 4, none⟩ = some (.slice a0 q.list.length c0) := by have := HY0.out; simp [World.cell?, this]
  have K10 : w1.cell? ⟨w.heap.size + 1, 0, none⟩ = some (.int .i64 p.kind) := by have := HY1.out; simp [World.cell?, this]
  have K11 : w1.cell? ⟨w.heap.size + 1, 1, none⟩ = some (.int .i64 p.n) := by have := HY1.out; simp [World.cell?, this]
  have K12 : w1.cell? ⟨w.heap.size + 1, 2, none⟩ = some (.int .i64 p.m) := by have := HY1.out; simp [World.cell?, this]
  have K13 : w1.cell? ⟨w.heap.size + 1, 3, none⟩ = some (.string (str p.text)) := by have := HY1.out; simp [World.cell?, this]
  have K14 : w1.cell? ⟨w.heap.size + 1, 4, none⟩ = some (.slice a1 p.list.length c1) := by have := HY1.out; simp [World.cell?, this]
  have K20 : w1.cell? ⟨w.heap.size + 2, 0, none⟩ = some (.int .i64 r.kind) := by have := HY2.out; simp [World.cell?, this]
  have K21 : w1.cell? ⟨w.heap.size + 2, 1, none⟩ = some (.int .i64 r.err) := by have := HY2.out; simp [World.cell?, this]
  have K22 : w1.cell? ⟨w.heap.size + 2, 2, none⟩ = some (.int .i64 r.n) := by have := HY2.out; simp [World.cell?, this]
  have K23 : w1.cell? ⟨w.heap.size + 2, 3, none⟩ = some (.int .i64 r.m) := by have := HY2.out; simp [World.cell?, this]
  have K24 : w1.cell? ⟨w.heap.size + 2, 4, none⟩ = some (.string (str r.text)) := by have := HY2.out; simp [World.cell?, this]
  have K25 : w1.cell? ⟨w.heap.size + 2, 5, none⟩ = some (.slice a2 r.list.length c2) := by have := HY2.out; simp [World.cell?, this]
  have K26 : w1.cell? ⟨w.heap.size + 2, 6, none⟩ = some (.int .i64 r.sig) := by have := HY2.out; simp [World.cell?, this]
  have E0 := Lib.hid (ev_few_calls w1 a0 _ c0 _ HT0.out)
  have E1 := Lib.hid (ev_few_calls w1 a1 _ c1 _ HT1.out)
  have E2 := Lib.hid (ev_few_calls w1 a2 _ c2 _ HT2.out)
  go_wp2_with fail
  refine E0.out.mono ?_
  rintro e we0 ⟨rfl, rfl⟩
  go_wp2_with fail
  refine E1.out.mono ?_
  rintro e we1 ⟨rfl, rfl⟩
  go_wp2_with fail
  refine E2.out.mono ?_
  rintro e we2 ⟨rfl, rfl⟩
  clear E0 E1 E2
  by_cases u0 : fewB q.list = true
  case neg =>
    have u0' : fewB q.list = false := by simpa using u0
    rw [u0']
    clear u0 u0'
    generalize fewB p.list = z1
    generalize fewB r.list = z2
    go_wp2_with fail
    go_ret
    exact ⟨rfl, HB1.out⟩
  by_cases u1 : fewB p.list = true
  case neg =>
    have u1' : fewB p.list = false := by simpa using u1
    rw [u0, u1']
    clear u0 u1 u1'
    generalize fewB r.list = z2
    go_wp2_with fail
    go_ret
    exact ⟨rfl, HB1.out⟩
  by_cases u2 : fewB r.list = true
  case neg =>
    have u2' : fewB r.list = false := by simpa using u2
    rw [u0, u1, u2']
    clear u0 u1 u2 u2'
    go_wp2_with fail
    go_ret
    exact ⟨rfl, HB1.out⟩
  rw [u0, u1, u2]
  have V0 := Lib.hid (HFEW.out _ u0)
  have V2 := Lib.hid (HFEW.out _ u2)
  clear u0 u1 u2
  have sz0 : (str q.text).size = q.text.length := rfl
  by_cases b0 : 500 < q.text.length
  case pos =>
    have d0 : decide ((500 : Int) < ((str q.text).size : Int)) = true := by rw [sz0]; simp; omega
    have d0' : decide ((500 : Int) < (q.text.length : Int)) = true := by simp; omega
    go_wp2_with fail
    go_ret
    exact ⟨rfl, HB1.out⟩
  have d0 : decide ((500 : Int) < ((str q.text).size : Int)) = false := by rw [sz0]; simp; omega
  have d0' : decide ((500 : Int) < (q.text.length : Int)) = false := by simp; omega
  have sz1 : (str r.text).size = r.text.length := rfl
  by_cases b1 : 500 < r.text.length
  case pos =>
    have d1 : decide ((500 : Int) < ((str r.text).size : Int)) = true := by rw [sz1]; simp; omega
    have d1' : decide ((500 : Int) < (r.text.length : Int)) = true := by simp; omega
    go_wp2_with fail
    go_ret
    exact ⟨rfl, HB1.out⟩
  have d1 : decide ((500 : Int) < ((str r.text).size : Int)) = false := by rw [sz1]; simp; omega
  have d1' : decide ((500 : Int) < (r.text.length : Int)) = false := by simp; omega
  have L0 : Hid (q.text.length ≤ 10000000) := by show _ ≤ _; omega
  have L2 : Hid (r.text.length ≤ 10000000) := by show _ ≤ _; omega
  go_wp2_with fail
  clear d0 d0' d1 d1' b0 b1 sz0 sz1
  refine Rg.wp_region_rgl [] [Rg.Is (.int .i64 k), Rg.Is (.string (str (nameOf k))), Rg.Is (.int .i64 k), Rg.Is (.string (str (nameOf k))), Rg.Is (.bool true), Rg.Is (.bool true), Rg.Is (.agg #[.int .i64 q.kind, .int .i64 q.n, .int .i64 q.m, .string (str q.text), .slice a0 q.list.length c0]), Rg.Is (.bool (rightB q)), Rg.Is (.agg #[.int .i64 q.kind, .int .i64 q.n, .int .i64 q.m, .string (str q.text), .slice a0 q.list.length c0]), Rg.Is (.bool (rightB q)), Rg.Is (.bool true), Rg.Is (.bool true), Rg.Is (.bool true), Rg.Is (.int .i64 k), Rg.Is (.agg #[.int .i64 r.kind, .int .i64 r.err, .int .i64 r.n, .int .i64 r.m, .string (str r.text), .slice a2 r.list.length c2, .int .i64 r.sig]), Rg.Is (.bool (fitsB k r)), Rg.Is (.int .i64 k), Rg.Is (.agg #[.int .i64 r.kind, .int .i64 r.err, .int .i64 r.n, .int .i64 r.m, .string (str r.text), .slice a2 r.list.length c2, .int .i64 r.sig]), Rg.Is (.bool (fitsB k r)), Rg.Is (.bool true), Rg.Is (.bool true), Rg.Is (.bool true), Rg.Is (.agg #[.int .i64 q.kind, .int .i64 q.n, .int .i64 q.m, .string (str q.text), .slice a0 q.list.length c0]), Rg.Is (.agg #[.int .i64 p.kind, .int .i64 p.n, .int .i64 p.m, .string (str p.text), .slice a1 p.list.length c1]), Rg.Is (.bool (sameB q p)), Rg.Is (.agg #[.int .i64 q.kind, .int .i64 q.n, .int .i64 q.m, .string (str q.text), .slice a0 q.list.length c0]), Rg.Is (.agg #[.int .i64 p.kind, .int .i64 p.n, .int .i64 p.m, .string (str p.text), .slice a1 p.list.length c1]), Rg.Is (.bool (sameB q p)), Rg.Is (.bool true), Rg.Is (.bool true), Rg.Is (.bool true), Rg.Is (.agg #[.int .i64 q.kind, .int .i64 q.n, .int .i64 q.m, .string (str q.text), .slice a0 q.list.length c0]), (fun v w => ∃ a c, v = .slice a (askBOut q).length c ∧ Bytes w a (askBOut q).length c (askBOut q)), Rg.Is (.string (str (askBOut q))), Rg.Is (.agg #[.int .i64 q.kind, .int .i64 q.n, .int .i64 q.m, .string (str q.text), .slice a0 q.list.length c0]), Rg.Is (.string (str (askBOut q))), Rg.Is (.bool true), Rg.Is (.bool true), Rg.Is (.bool true), Rg.Is (.agg #[.int .i64 r.kind, .int .i64 r.err, .int .i64 r.n, .int .i64 r.m, .string (str r.text), .slice a2 r.list.length c2, .int .i64 r.sig]), (fun v w => ∃ a c, v = .slice a (tellBOut r).length c ∧ Bytes w a (tellBOut r).length c (tellBOut r)), Rg.Is (.string (str (tellBOut r))), Rg.Is (.agg #[.int .i64 r.kind, .int .i64 r.err, .int .i64 r.n, .int .i64 r.m, .string (str r.text), .slice a2 r.list.length c2, .int .i64 r.sig]), Rg.Is (.string (str (tellBOut r))), Rg.Is (.bool true), Rg.Is (.bool true), Rg.Is (.bool true)] (by kernel_rfl) (by kernel_rfl) (by kernel_rfl) ⟨Rg.st_is _, Rg.st_is _, Rg.st_is _, Rg.st_is _, Rg.st_is _, Rg.st_is _, Rg.st_is _, Rg.st_is _, Rg.st_is _, Rg.st_is _, Rg.st_is _, Rg.st_is _, Rg.st_is _, Rg.st_is _, Rg.st_is _, Rg.st_is _, Rg.st_is _, Rg.st_is _, Rg.st_is _, Rg.st_is _, Rg.st_is _, Rg.st_is _, Rg.st_is _, Rg.st_is _, Rg.st_is _, Rg.st_is _, Rg.st_is _, Rg.st_is _, Rg.st_is _, Rg.st_is _, Rg.st_is _, Rg.st_is _, fun v w w' h hb => by obtain ⟨a, c, hv, hr⟩ := h; exact ⟨a, c, hv, hr.below stable_byteAt hb⟩, Rg.st_is _, Rg.st_is _, Rg.st_is _, Rg.st_is _, Rg.st_is _, Rg.st_is _, Rg.st_is _, fun v w w' h hb => by obtain ⟨a, c, hv, hr⟩ := h; exact ⟨a, c, hv, hr.below stable_byteAt hb⟩, Rg.st_is _, Rg.st_is _, Rg.st_is _, Rg.st_is _, Rg.st_is _, Rg.st_is _, trivial⟩ ⟨rfl, rfl, rfl, rfl, rfl, rfl, ⟨rfl, fun _ _ h => h⟩, ⟨rfl, fun _ _ h => h⟩, ⟨rfl, fun _ _ h => h⟩, ⟨rfl, fun _ _ h => h⟩, ⟨rfl, fun _ _ h => h⟩, rfl, rfl, ⟨rfl, fun _ _ h => h⟩, ⟨rfl, fun _ _ h => h⟩, ⟨rfl, fun _ _ h => h⟩, ⟨rfl, fun _ _ h => h⟩, ⟨rfl, fun _ _ h => h⟩, ⟨rfl, fun _ _ h => h⟩, ⟨rfl, fun _ _ h => h⟩, rfl, rfl, ⟨rfl, fun _ _ h => h⟩, ⟨rfl, fun _ _ h => h⟩, ⟨rfl, fun _ _ h => h⟩, ⟨rfl, fun _ _ h => h⟩, ⟨rfl, fun _ _ h => h⟩, ⟨rfl, fun _ _ h => h⟩, ⟨rfl, fun _ _ h => h⟩, rfl, rfl, ⟨rfl, fun _ _ h => h⟩, ⟨rfl, fun _ _ h => h⟩, ⟨rfl, fun _ _ h => h⟩, ⟨rfl, fun _ _ h => h⟩, ⟨rfl, fun _ _ h => h⟩, ⟨rfl, fun _ _ h => h⟩, rfl, rfl, ⟨rfl, fun _ _ h => h⟩, ⟨rfl, fun _ _ h => h⟩, ⟨rfl, fun _ _ h => h⟩, ⟨rfl, fun _ _ h => h⟩, ⟨rfl, fun _ _ h => h⟩, ⟨rfl, fun _ _ h => h⟩, rfl, rfl, trivial⟩ ⟨?_, ?_, ?_, ?_, ?_, ?_, ?_, ?_, ?_, ?_, ?_, ?_, ?_, ?_, ?_, ?_, ?_, ?_, ?_, ?_, ?_, ?_, ?_, ?_, ?_, ?_, ?_, ?_, ?_, ?_, ?_, ?_, ?_, ?_, ?_, ?_, ?_, ?_, ?_, ?_, ?_, ?_, ?_, ?_, ?_, ?_, ?_, trivial⟩ ?_
  · intro _ a wx hb hk
    have h3 : a.eval (.tmp 3) = .int .i64 k := Eq.mp (by kernel_rfl) (hk 3 (by decide))
    exact Rg.does_move ⟨Below.refl _ _, h3⟩
  · intro _ a wx hb hk
    have h47 : a.eval (.tmp 47) = .int .i64 k := Eq.mp (by kernel_rfl) (hk 47 (by decide))
    refine Rg.does_func #[.int .i64 k] Tryd.func10 (by kernel_rfl) (by kernel_rfl) (by simp [h47]) (ev_name_calls wx k (HN1.out.below hb)) ?_
    rintro e' w' ⟨rfl, rfl⟩
    exact ⟨_, rfl, Below.refl _ _, rfl⟩
  · intro _ a wx hb hk
    have h3 : a.eval (.tmp 3) = .int .i64 k := Eq.mp (by kernel_rfl) (hk 3 (by decide))
    exact Rg.does_move ⟨Below.refl _ _, h3⟩
  · intro _ a wx hb hk
    have h49 : a.eval (.tmp 49) = .int .i64 k := Eq.mp (by kernel_rfl) (hk 49 (by decide))
    refine Rg.does_func #[.int .i64 k] Tryd.func11 (by kernel_rfl) (by kernel_rfl) (by simp [h49]) (ev_ref_name_calls wx k) ?_
    rintro e' w' ⟨rfl, hb'⟩
    exact ⟨_, rfl, hb', rfl⟩
  · intro _ a wx hb hk
    have h48 : a.eval (.tmp 48) = .string (str (nameOf k)) := Eq.mp (by kernel_rfl) (hk 48 (by decide))
    have h50 : a.eval (.tmp 50) = .string (str (nameOf k)) := Eq.mp (by kernel_rfl) (hk 50 (by decide))
    exact Rg.does_same_string _ h48 h50 ⟨Below.refl _ _, rfl⟩
  · intro _ a wx hb hk
    have h51 : a.eval (.tmp 51) = .bool true := Eq.mp (by kernel_rfl) (hk 51 (by decide))
    exact Rg.does_move ⟨Below.refl _ _, h51⟩
  · intro _ a wx hb hk
    have h4 : a.eval (.tmp 4) = .pointer (some ⟨w.heap.size, 0, none⟩) := Eq.mp (by kernel_rfl) (hk 4 (by decide))
    exact Rg.does_load _ _ h4 (load_req (cell_below hb (Nat.le_refl _) K00) (cell_below hb (Nat.le_refl _) K01) (cell_below hb (Nat.le_refl _) K02) (cell_below hb (Nat.le_refl _) K03) (cell_below hb (Nat.le_refl _) K04)) ⟨Below.refl _ _, rfl⟩
  · intro _ a wx hb hk
    have h53 : a.eval (.tmp 53) = .agg #[.int .i64 q.kind, .int .i64 q.n, .int .i64 q.m, .string (str q.text), .slice a0 q.list.length c0] := Eq.mp (by kernel_rfl) (hk 53 (by decide))
    refine Rg.does_func #[.agg #[.int .i64 q.kind, .int .i64 q.n, .int .i64 q.m, .string (str q.text), .slice a0 q.list.length c0]] Tryd.func12 (by kernel_rfl) (by kernel_rfl) (by simp [h53]) (ev_right_calls wx q a0 c0) ?_
    rintro e' w' ⟨rfl, hb'⟩
    exact ⟨_, rfl, hb', rfl⟩
  · intro _ a wx hb hk
    have h4 : a.eval (.tmp 4) = .pointer (some ⟨w.heap.size, 0, none⟩) := Eq.mp (by kernel_rfl) (hk 4 (by decide))
    exact Rg.does_load _ _ h4 (load_req (cell_below hb (Nat.le_refl _) K00) (cell_below hb (Nat.le_refl _) K01) (cell_below hb (Nat.le_refl _) K02) (cell_below hb (Nat.le_refl _) K03) (cell_below hb (Nat.le_refl _) K04)) ⟨Below.refl _ _, rfl⟩
  · intro _ a wx hb hk
    have h55 : a.eval (.tmp 55) = .agg #[.int .i64 q.kind, .int .i64 q.n, .int .i64 q.m, .string (str q.text), .slice a0 q.list.length c0] := Eq.mp (by kernel_rfl) (hk 55 (by decide))
    refine Rg.does_func #[.agg #[.int .i64 q.kind, .int .i64 q.n, .int .i64 q.m, .string (str q.text), .slice a0 q.list.length c0]] Tryd.func13 (by kernel_rfl) (by kernel_rfl) (by simp [h55]) (ev_ref_right_calls wx q a0 c0) ?_
    rintro e' w' ⟨rfl, hb'⟩
    exact ⟨_, rfl, hb', rfl⟩
  · intro _ a wx hb hk
    have h54 : a.eval (.tmp 54) = .bool (rightB q) := Eq.mp (by kernel_rfl) (hk 54 (by decide))
    have h56 : a.eval (.tmp 56) = .bool (rightB q) := Eq.mp (by kernel_rfl) (hk 56 (by decide))
    exact does_same_bool _ Tryd.underlying4 h54 h56 ⟨Below.refl _ _, rfl⟩
  · intro _ a wx hb hk
    have h52 : a.eval (.tmp 52) = .bool true := Eq.mp (by kernel_rfl) (hk 52 (by decide))
    have h57 : a.eval (.tmp 57) = .bool true := Eq.mp (by kernel_rfl) (hk 57 (by decide))
    exact Rg.does_pick true h52 ⟨Below.refl _ _, h57⟩
  · intro _ a wx hb hk
    have h58 : a.eval (.tmp 58) = .bool true := Eq.mp (by kernel_rfl) (hk 58 (by decide))
    exact Rg.does_move ⟨Below.refl _ _, h58⟩
  · intro _ a wx hb hk
    have h3 : a.eval (.tmp 3) = .int .i64 k := Eq.mp (by kernel_rfl) (hk 3 (by decide))
    exact Rg.does_move ⟨Below.refl _ _, h3⟩
  · intro _ a wx hb hk
    have h6 : a.eval (.tmp 6) = .pointer (some ⟨w.heap.size + 2, 0, none⟩) := Eq.mp (by kernel_rfl) (hk 6 (by decide))
    exact Rg.does_load _ _ h6 (load_ans (cell_below hb (Nat.le_refl _) K20) (cell_below hb (Nat.le_refl _) K21) (cell_below hb (Nat.le_refl _) K22) (cell_below hb (Nat.le_refl _) K23) (cell_below hb (Nat.le_refl _) K24) (cell_below hb (Nat.le_refl _) K25) (cell_below hb (Nat.le_refl _) K26)) ⟨Below.refl _ _, rfl⟩
  · intro _ a wx hb hk
    have h60 : a.eval (.tmp 60) = .int .i64 k := Eq.mp (by kernel_rfl) (hk 60 (by decide))
    have h61 : a.eval (.tmp 61) = .agg #[.int .i64 r.kind, .int .i64 r.err, .int .i64 r.n, .int .i64 r.m, .string (str r.text), .slice a2 r.list.length c2, .int .i64 r.sig] := Eq.mp (by kernel_rfl) (hk 61 (by decide))
    refine Rg.does_func #[.int .i64 k, .agg #[.int .i64 r.kind, .int .i64 r.err, .int .i64 r.n, .int .i64 r.m, .string (str r.text), .slice a2 r.list.length c2, .int .i64 r.sig]] Tryd.func14 (by kernel_rfl) (by kernel_rfl) (by simp [h60, h61]) (ev_fits_calls wx k r a2 c2) ?_
    rintro e' w' ⟨rfl, hb'⟩
    exact ⟨_, rfl, hb', rfl⟩
  · intro _ a wx hb hk
    have h3 : a.eval (.tmp 3) = .int .i64 k := Eq.mp (by kernel_rfl) (hk 3 (by decide))
    exact Rg.does_move ⟨Below.refl _ _, h3⟩
  · intro _ a wx hb hk
    have h6 : a.eval (.tmp 6) = .pointer (some ⟨w.heap.size + 2, 0, none⟩) := Eq.mp (by kernel_rfl) (hk 6 (by decide))
    exact Rg.does_load _ _ h6 (load_ans (cell_below hb (Nat.le_refl _) K20) (cell_below hb (Nat.le_refl _) K21) (cell_below hb (Nat.le_refl _) K22) (cell_below hb (Nat.le_refl _) K23) (cell_below hb (Nat.le_refl _) K24) (cell_below hb (Nat.le_refl _) K25) (cell_below hb (Nat.le_refl _) K26)) ⟨Below.refl _ _, rfl⟩
  · intro _ a wx hb hk
    have h63 : a.eval (.tmp 63) = .int .i64 k := Eq.mp (by kernel_rfl) (hk 63 (by decide))
    have h64 : a.eval (.tmp 64) = .agg #[.int .i64 r.kind, .int .i64 r.err, .int .i64 r.n, .int .i64 r.m, .string (str r.text), .slice a2 r.list.length c2, .int .i64 r.sig] := Eq.mp (by kernel_rfl) (hk 64 (by decide))
    refine Rg.does_func #[.int .i64 k, .agg #[.int .i64 r.kind, .int .i64 r.err, .int .i64 r.n, .int .i64 r.m, .string (str r.text), .slice a2 r.list.length c2, .int .i64 r.sig]] Tryd.func15 (by kernel_rfl) (by kernel_rfl) (by simp [h63, h64]) (ev_ref_fits_calls wx k r a2 c2) ?_
    rintro e' w' ⟨rfl, hb'⟩
    exact ⟨_, rfl, hb', rfl⟩
  · intro _ a wx hb hk
    have h62 : a.eval (.tmp 62) = .bool (fitsB k r) := Eq.mp (by kernel_rfl) (hk 62 (by decide))
    have h65 : a.eval (.tmp 65) = .bool (fitsB k r) := Eq.mp (by kernel_rfl) (hk 65 (by decide))
    exact does_same_bool _ Tryd.underlying4 h62 h65 ⟨Below.refl _ _, rfl⟩
  · intro _ a wx hb hk
    have h59 : a.eval (.tmp 59) = .bool true := Eq.mp (by kernel_rfl) (hk 59 (by decide))
    have h66 : a.eval (.tmp 66) = .bool true := Eq.mp (by kernel_rfl) (hk 66 (by decide))
    exact Rg.does_pick true h59 ⟨Below.refl _ _, h66⟩
  · intro _ a wx hb hk
    have h67 : a.eval (.tmp 67) = .bool true := Eq.mp (by kernel_rfl) (hk 67 (by decide))
    exact Rg.does_move ⟨Below.refl _ _, h67⟩
  · intro _ a wx hb hk
    have h4 : a.eval (.tmp 4) = .pointer (some ⟨w.heap.size, 0, none⟩) := Eq.mp (by kernel_rfl) (hk 4 (by decide))
    exact Rg.does_load _ _ h4 (load_req (cell_below hb (Nat.le_refl _) K00) (cell_below hb (Nat.le_refl _) K01) (cell_below hb (Nat.le_refl _) K02) (cell_below hb (Nat.le_refl _) K03) (cell_below hb (Nat.le_refl _) K04)) ⟨Below.refl _ _, rfl⟩
  · intro _ a wx hb hk
    have h5 : a.eval (.tmp 5) = .pointer (some ⟨w.heap.size + 1, 0, none⟩) := Eq.mp (by kernel_rfl) (hk 5 (by decide))
    exact Rg.does_load _ _ h5 (load_req (cell_below hb (Nat.le_refl _) K10) (cell_below hb (Nat.le_refl _) K11) (cell_below hb (Nat.le_refl _) K12) (cell_below hb (Nat.le_refl _) K13) (cell_below hb (Nat.le_refl _) K14)) ⟨Below.refl _ _, rfl⟩
  · intro _ a wx hb hk
    have h69 : a.eval (.tmp 69) = .agg #[.int .i64 q.kind, .int .i64 q.n, .int .i64 q.m, .string (str q.text), .slice a0 q.list.length c0] := Eq.mp (by kernel_rfl) (hk 69 (by decide))
    have h70 : a.eval (.tmp 70) = .agg #[.int .i64 p.kind, .int .i64 p.n, .int .i64 p.m, .string (str p.text), .slice a1 p.list.length c1] := Eq.mp (by kernel_rfl) (hk 70 (by decide))
    refine Rg.does_func #[.agg #[.int .i64 q.kind, .int .i64 q.n, .int .i64 q.m, .string (str q.text), .slice a0 q.list.length c0], .agg #[.int .i64 p.kind, .int .i64 p.n, .int .i64 p.m, .string (str p.text), .slice a1 p.list.length c1]] Tryd.func16 (by kernel_rfl) (by kernel_rfl) (by simp [h69, h70]) (ev_same_calls wx q p a0 a1 c0 c1 (HT0.out.below stable_strAt hb) (HT1.out.below stable_strAt hb)) ?_
    rintro e' w' ⟨rfl, hb'⟩
    exact ⟨_, rfl, hb', rfl⟩
  · intro _ a wx hb hk
    have h4 : a.eval (.tmp 4) = .pointer (some ⟨w.heap.size, 0, none⟩) := Eq.mp (by kernel_rfl) (hk 4 (by decide))
    exact Rg.does_load _ _ h4 (load_req (cell_below hb (Nat.le_refl _) K00) (cell_below hb (Nat.le_refl _) K01) (cell_below hb (Nat.le_refl _) K02) (cell_below hb (Nat.le_refl _) K03) (cell_below hb (Nat.le_refl _) K04)) ⟨Below.refl _ _, rfl⟩
  · intro _ a wx hb hk
    have h5 : a.eval (.tmp 5) = .pointer (some ⟨w.heap.size + 1, 0, none⟩) := Eq.mp (by kernel_rfl) (hk 5 (by decide))
    exact Rg.does_load _ _ h5 (load_req (cell_below hb (Nat.le_refl _) K10) (cell_below hb (Nat.le_refl _) K11) (cell_below hb (Nat.le_refl _) K12) (cell_below hb (Nat.le_refl _) K13) (cell_below hb (Nat.le_refl _) K14)) ⟨Below.refl _ _, rfl⟩
  · intro _ a wx hb hk
    have h72 : a.eval (.tmp 72) = .agg #[.int .i64 q.kind, .int .i64 q.n, .int .i64 q.m, .string (str q.text), .slice a0 q.list.length c0] := Eq.mp (by kernel_rfl) (hk 72 (by decide))
    have h73 : a.eval (.tmp 73) = .agg #[.int .i64 p.kind, .int .i64 p.n, .int .i64 p.m, .string (str p.text), .slice a1 p.list.length c1] := Eq.mp (by kernel_rfl) (hk 73 (by decide))
    refine Rg.does_func #[.agg #[.int .i64 q.kind, .int .i64 q.n, .int .i64 q.m, .string (str q.text), .slice a0 q.list.length c0], .agg #[.int .i64 p.kind, .int .i64 p.n, .int .i64 p.m, .string (str p.text), .slice a1 p.list.length c1]] Tryd.func17 (by kernel_rfl) (by kernel_rfl) (by simp [h72, h73]) (ev_ref_same_calls wx q p a0 a1 c0 c1 (HT0.out.below stable_strAt hb) (HT1.out.below stable_strAt hb)) ?_
    rintro e' w' ⟨rfl, hb'⟩
    exact ⟨_, rfl, hb', rfl⟩
  · intro _ a wx hb hk
    have h71 : a.eval (.tmp 71) = .bool (sameB q p) := Eq.mp (by kernel_rfl) (hk 71 (by decide))
    have h74 : a.eval (.tmp 74) = .bool (sameB q p) := Eq.mp (by kernel_rfl) (hk 74 (by decide))
    exact does_same_bool _ Tryd.underlying4 h71 h74 ⟨Below.refl _ _, rfl⟩
  · intro _ a wx hb hk
    have h68 : a.eval (.tmp 68) = .bool true := Eq.mp (by kernel_rfl) (hk 68 (by decide))
    have h75 : a.eval (.tmp 75) = .bool true := Eq.mp (by kernel_rfl) (hk 75 (by decide))
    exact Rg.does_pick true h68 ⟨Below.refl _ _, h75⟩
  · intro _ a wx hb hk
    have h76 : a.eval (.tmp 76) = .bool true := Eq.mp (by kernel_rfl) (hk 76 (by decide))
    exact Rg.does_move ⟨Below.refl _ _, h76⟩
  · intro _ a wx hb hk
    have h4 : a.eval (.tmp 4) = .pointer (some ⟨w.heap.size, 0, none⟩) := Eq.mp (by kernel_rfl) (hk 4 (by decide))
    exact Rg.does_load _ _ h4 (load_req (cell_below hb (Nat.le_refl _) K00) (cell_below hb (Nat.le_refl _) K01) (cell_below hb (Nat.le_refl _) K02) (cell_below hb (Nat.le_refl _) K03) (cell_below hb (Nat.le_refl _) K04)) ⟨Below.refl _ _, rfl⟩
  · intro _ a wx hb hk
    have h78 : a.eval (.tmp 78) = .agg #[.int .i64 q.kind, .int .i64 q.n, .int .i64 q.m, .string (str q.text), .slice a0 q.list.length c0] := Eq.mp (by kernel_rfl) (hk 78 (by decide))
    refine Rg.does_func #[.agg #[.int .i64 q.kind, .int .i64 q.n, .int .i64 q.m, .string (str q.text), .slice a0 q.list.length c0]] Tryd.func18 (by kernel_rfl) (by kernel_rfl) (by simp [h78]) (ev_ask_calls wx q a0 c0 (HT0.out.below stable_strAt hb) HF0.out.n HF0.out.m L0.out V0.out.2) ?_
    rintro e' w' ⟨v, rfl, ho, hb'⟩
    obtain ⟨a2, c2, hv2, hr2⟩ := ownsRow_bytes ho
    exact ⟨_, rfl, hb', a2, c2, hv2, hr2⟩
  · intro _ a wx hb hk
    have h79 : (fun v w => ∃ a c, v = .slice a (askBOut q).length c ∧ Bytes w a (askBOut q).length c (askBOut q)) (a.eval (.tmp 79)) wx := Eq.mp (by kernel_rfl) (hk 79 (by decide))
    obtain ⟨a', c', hv, hr⟩ := h79
    exact Rg.does_convert _ _ hv (str_bytes hr) ⟨Below.refl _ _, rfl⟩
  · intro _ a wx hb hk
    have h4 : a.eval (.tmp 4) = .pointer (some ⟨w.heap.size, 0, none⟩) := Eq.mp (by kernel_rfl) (hk 4 (by decide))
    exact Rg.does_load _ _ h4 (load_req (cell_below hb (Nat.le_refl _) K00) (cell_below hb (Nat.le_refl _) K01) (cell_below hb (Nat.le_refl _) K02) (cell_below hb (Nat.le_refl _) K03) (cell_below hb (Nat.le_refl _) K04)) ⟨Below.refl _ _, rfl⟩
  · intro _ a wx hb hk
    have h81 : a.eval (.tmp 81) = .agg #[.int .i64 q.kind, .int .i64 q.n, .int .i64 q.m, .string (str q.text), .slice a0 q.list.length c0] := Eq.mp (by kernel_rfl) (hk 81 (by decide))
    refine Rg.does_func #[.agg #[.int .i64 q.kind, .int .i64 q.n, .int .i64 q.m, .string (str q.text), .slice a0 q.list.length c0]] Tryd.func19 (by kernel_rfl) (by kernel_rfl) (by simp [h81]) (ev_ref_ask_calls wx q a0 c0 (HT0.out.below stable_strAt hb) HF0.out.n HF0.out.m L0.out V0.out.2) ?_
    rintro e' w' ⟨rfl, hb'⟩
    exact ⟨_, rfl, hb', rfl⟩
  · intro _ a wx hb hk
    have h80 : a.eval (.tmp 80) = .string (str (askBOut q)) := Eq.mp (by kernel_rfl) (hk 80 (by decide))
    have h82 : a.eval (.tmp 82) = .string (str (askBOut q)) := Eq.mp (by kernel_rfl) (hk 82 (by decide))
    exact Rg.does_same_string _ h80 h82 ⟨Below.refl _ _, rfl⟩
  · intro _ a wx hb hk
    have h77 : a.eval (.tmp 77) = .bool true := Eq.mp (by kernel_rfl) (hk 77 (by decide))
    have h83 : a.eval (.tmp 83) = .bool true := Eq.mp (by kernel_rfl) (hk 83 (by decide))
    exact Rg.does_pick true h77 ⟨Below.refl _ _, h83⟩
  · intro _ a wx hb hk
    have h84 : a.eval (.tmp 84) = .bool true := Eq.mp (by kernel_rfl) (hk 84 (by decide))
    exact Rg.does_move ⟨Below.refl _ _, h84⟩
  · intro _ a wx hb hk
    have h6 : a.eval (.tmp 6) = .pointer (some ⟨w.heap.size + 2, 0, none⟩) := Eq.mp (by kernel_rfl) (hk 6 (by decide))
    exact Rg.does_load _ _ h6 (load_ans (cell_below hb (Nat.le_refl _) K20) (cell_below hb (Nat.le_refl _) K21) (cell_below hb (Nat.le_refl _) K22) (cell_below hb (Nat.le_refl _) K23) (cell_below hb (Nat.le_refl _) K24) (cell_below hb (Nat.le_refl _) K25) (cell_below hb (Nat.le_refl _) K26)) ⟨Below.refl _ _, rfl⟩
  · intro _ a wx hb hk
    have h86 : a.eval (.tmp 86) = .agg #[.int .i64 r.kind, .int .i64 r.err, .int .i64 r.n, .int .i64 r.m, .string (str r.text), .slice a2 r.list.length c2, .int .i64 r.sig] := Eq.mp (by kernel_rfl) (hk 86 (by decide))
    refine Rg.does_func #[.agg #[.int .i64 r.kind, .int .i64 r.err, .int .i64 r.n, .int .i64 r.m, .string (str r.text), .slice a2 r.list.length c2, .int .i64 r.sig]] Tryd.func20 (by kernel_rfl) (by kernel_rfl) (by simp [h86]) (ev_tell_calls wx r a2 c2 (HT2.out.below stable_strAt hb) HF2.out.n HF2.out.m L2.out V2.out.2) ?_
    rintro e' w' ⟨v, rfl, ho, hb'⟩
    obtain ⟨a2, c2, hv2, hr2⟩ := ownsRow_bytes ho
    exact ⟨_, rfl, hb', a2, c2, hv2, hr2⟩
  · intro _ a wx hb hk
    have h87 : (fun v w => ∃ a c, v = .slice a (tellBOut r).length c ∧ Bytes w a (tellBOut r).length c (tellBOut r)) (a.eval (.tmp 87)) wx := Eq.mp (by kernel_rfl) (hk 87 (by decide))
    obtain ⟨a', c', hv, hr⟩ := h87
    exact Rg.does_convert _ _ hv (str_bytes hr) ⟨Below.refl _ _, rfl⟩
  · intro _ a wx hb hk
    have h6 : a.eval (.tmp 6) = .pointer (some ⟨w.heap.size + 2, 0, none⟩) := Eq.mp (by kernel_rfl) (hk 6 (by decide))
    exact Rg.does_load _ _ h6 (load_ans (cell_below hb (Nat.le_refl _) K20) (cell_below hb (Nat.le_refl _) K21) (cell_below hb (Nat.le_refl _) K22) (cell_below hb (Nat.le_refl _) K23) (cell_below hb (Nat.le_refl _) K24) (cell_below hb (Nat.le_refl _) K25) (cell_below hb (Nat.le_refl _) K26)) ⟨Below.refl _ _, rfl⟩
  · intro _ a wx hb hk
    have h89 : a.eval (.tmp 89) = .agg #[.int .i64 r.kind, .int .i64 r.err, .int .i64 r.n, .int .i64 r.m, .string (str r.text), .slice a2 r.list.length c2, .int .i64 r.sig] := Eq.mp (by kernel_rfl) (hk 89 (by decide))
    refine Rg.does_func #[.agg #[.int .i64 r.kind, .int .i64 r.err, .int .i64 r.n, .int .i64 r.m, .string (str r.text), .slice a2 r.list.length c2, .int .i64 r.sig]] Tryd.func21 (by kernel_rfl) (by kernel_rfl) (by simp [h89]) (ev_ref_tell_calls wx r a2 c2 (HT2.out.below stable_strAt hb) HF2.out.n HF2.out.m L2.out V2.out.2) ?_
    rintro e' w' ⟨rfl, hb'⟩
    exact ⟨_, rfl, hb', rfl⟩
  · intro _ a wx hb hk
    have h88 : a.eval (.tmp 88) = .string (str (tellBOut r)) := Eq.mp (by kernel_rfl) (hk 88 (by decide))
    have h90 : a.eval (.tmp 90) = .string (str (tellBOut r)) := Eq.mp (by kernel_rfl) (hk 90 (by decide))
    exact Rg.does_same_string _ h88 h90 ⟨Below.refl _ _, rfl⟩
  · intro _ a wx hb hk
    have h85 : a.eval (.tmp 85) = .bool true := Eq.mp (by kernel_rfl) (hk 85 (by decide))
    have h91 : a.eval (.tmp 91) = .bool true := Eq.mp (by kernel_rfl) (hk 91 (by decide))
    exact Rg.does_pick true h85 ⟨Below.refl _ _, h91⟩
  · intro _ a wx hb hk
    have h92 : a.eval (.tmp 92) = .bool true := Eq.mp (by kernel_rfl) (hk 92 (by decide))
    exact Rg.does_assign ⟨Below.refl _ _, h92⟩
  intro vals wD hbD hL
  obtain ⟨g0, g1, g2, g3, g4, g5, g6, g7, g8, g9, g10, g11, g12, g13, g14, g15, g16, g17, g18, g19, g20, g21, g22, g23, g24, g25, g26, g27, g28, g29, g30, g31, g32, g33, g34, g35, g36, g37, g38, g39, g40, g41, g42, g43, g44, g45, g46, _⟩ := hL
  have HBD : Hid (Below w.heap.size w wD) := HB1.out.trans (hbD.mono HB1.out.size)
  have hres : vals 46 = .bool true := g46
  clear g0 g1 g2 g3 g4 g5 g6 g7 g8 g9 g10 g11 g12 g13 g14 g15 g16 g17 g18 g19 g20 g21 g22 g23 g24 g25 g26 g27 g28 g29 g30 g31 g32 g33 g34 g35 g36 g37 g38 g39 g40 g41 g42 g43 g44 g45 g46 hbD
  simp only [Rg.putAll, List.setIfInBounds_toArray, List.set_cons_succ, List.set_cons_zero]
  go_wp2_with fail
  go_ret
  exact ⟨by rw [← hres]; rfl, HBD.out⟩

end Go.Proofs.YtbbnopikinlcdaaDoor
