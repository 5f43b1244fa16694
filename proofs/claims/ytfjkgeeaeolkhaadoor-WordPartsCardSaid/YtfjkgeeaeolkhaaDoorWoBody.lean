/-
  Word: Body's function; read; Parse; Body. Conditions: as each contract says.
-/
import Derived.Test.YtfjkgeeaeolkhaaDoorWoParse
set_option linter.unusedVariables false
set_option linter.unusedSimpArgs false
set_option maxRecDepth 100000
namespace Go.Proofs.YtfjkgeeaeolkhaaDoor
open Go.RowKit Base Wo

def bodyE (f : Nat) (s : Nm) : M Em := loopM (innerM (withinM f 0) 0 [36, 96, 92]) (·.isEmpty) f s
def BodyFn (W : World) (b B : Nat) (v : Value) (s : Nm) (r : Ending) (W' : World) : Prop := ∃ f x, bodyE f s = some x ∧ StepR W b B v [] 0 x r W'
set_option maxHeartbeats 4000000 in
theorem body_fn_calls (W : World) (b B : Nat) (v : Value) (s : Nm) (h : Rd W b B v [] s 0) (hs : s.length ≤ 30000) (hB : B ≤ W.heap.size) (hO : OpsT W) (hg : gOps < B) :
    Calls Tryd.prog 18 #[.pointer (some ⟨b, 0, none⟩)] W (BodyFn W b B v s) := by
  have HO := Lib.hid hO
  have HH := Lib.hid h
  have HS0 : Hid (Sofar W W b B v v (puts [] []) s 0) := ⟨h, Turn.refl _ _ _, fun _ h _ => h⟩
  clear hO h
  go_enter Tryd.func18, Tryd.ntmps18
  go_wp2_with fail
  go_loopw [] (fun wr => ∃ (vi : Value) (ps : List Prt) (q : Nm), Sofar W wr b B v vi (puts [] ps) q 0 ∧ Upto (fun f => innerM (withinM f 0) 0 [36, 96, 92]) (·.isEmpty) (s) ps q ∧ wt ps + 2 * q.length ≤ 2 * s.length) (fun wr => match wr.cell? ⟨b, 1, none⟩ with | some (.string t) => t.size | _ => 0)
  case atStart => exact ⟨v, [], s, HS0.out, upto_start _ _ _, by rw [wt_nil]; omega⟩
  case round =>
    obtain ⟨vj, ps, q, hsf, hu, hq⟩ := hrel
    have HS := Lib.hid hsf
    have HU := Lib.hid hu
    have hqn : q.length ≤ s.length := by omega
    obtain ⟨⟨c0, c1, c2⟩, f0, f1, f2⟩ := rd_cells hsf.rd.box
    clear hsf hu
    by_cases h0 : q = []
    · subst h0
      have t4 : (str []).toList.isEmpty = true := by rw [str_toList]; rfl
      have t5 : (!(str []).toList.isEmpty) = false := by rw [str_toList]; rfl
      have HD := Lib.hid (upto_done HU.out rfl)
      go_wp2_with fail
      refine bodyPost_end (v := .tuple #[]) (results_none rfl _ _ _) rfl ?_
      obtain ⟨G, hG⟩ := HD.out
      exact ⟨G, .ok (ps, []), hG, HS.out.turn, rfl, vj, HS.out.rd, HS.out.own⟩
    · have t4 : (str q).toList.isEmpty = false := by rw [str_toList]; simpa using h0
      have t5 : (!(str q).toList.isEmpty) = true := by rw [t4]; rfl
      have HHq : Hid (q.isEmpty = false) := by show _ = _; simpa using h0
      have HWt : Hid (wt (puts [] ps) + 2 * q.length ≤ 100000) := by
        have := wt_puts ps []
        rw [wt_nil] at this
        show _ ≤ _
        omega
      clear h0
      go_wp2_with fail
      clear c0 c1 c2 f0 f1 f2 t4 t5
      refine (inner_calls (part_ih q.length) wr b B vj _ q 0 [36, 96, 92] HS.out.rd (Nat.le_refl _) HWt.out (Nat.le_trans hB HS.out.turn.size) (HO.out.turn HS.out.turn (Nat.lt_of_lt_of_le hg HH.out.bB) (fun g hg2 => Nat.lt_of_lt_of_le hg (HH.out.own g hg2).1)) hg).mono ?_
      rintro r w3 ⟨f, x, hx, hs⟩
      cases x with
      | error e =>
        obtain ⟨ht, rfl⟩ := hs
        obtain ⟨G, hG⟩ := upto_err (hm_inner 0 [36, 96, 92]) HU.out HHq.out hx
        exact ⟨rfl, G, .error e, hG, HS.out.turn2 ht, rfl⟩
      | ok y =>
        obtain ⟨v', hs3⟩ := HS.out.step hs
        obtain ⟨_, rfl, _⟩ := hs
        have hl := inner_less (p := y.1) (q := y.2) hx
        have HS3 : Hid (Sofar W w3 b B v v' (puts [] (ps ++ y.1)) y.2 0) := by show Sofar _ _ _ _ _ _ _ _ _; rw [puts_append]; exact hs3
        have HU3 := Lib.hid (upto_step (p := y.1) (q' := y.2) (hm_inner 0 [36, 96, 92]) HU.out HHq.out hx)
        have hc3 := (rd_cells hs3.rd.box).1.2.1
        have hc2 := (rd_cells HS.out.rd.box).1.2.1
        clear hs3 hx
        go_wp2_with fail
        go_roundw
        case rel => exact ⟨v', ps ++ y.1, y.2, HS3.out, HU3.out, by rw [wt_append]; omega⟩
        case measure => rw [hc3, hc2]; exact hl.1
/-- What read tells. -/
def ReadPost (W : World) (X : Except Int Em → Prop) (r : Ending) (W' : World) : Prop :=
  ∃ x, X x ∧ Below W.heap.size W W' ∧ match x with
    | .error e => r = .returned (.tuple #[.slice none 0 0, .int .i64 e])
    | .ok y => ∃ u, r = .returned (.tuple #[u, .int .i64 0]) ∧ TreeH 9 (fun g => W.heap.size ≤ g) W' u (puts [] y.1)
/-- The cells of read's own, ahead of the reader. -/
theorem read_start (W : World) (s : Nm) : ∃ w1, ((W.alloc (.cells #[.slice none 0 0] psT)).alloc (.cells #[.int .i64 0] enT)).alloc (.cells #[.slice none 0 0, .string (str s), .int .i64 0] rdT) = w1 ∧
    w1.heap[W.heap.size]? = some (.cells #[.slice none 0 0] psT) ∧ w1.heap[W.heap.size + 1]? = some (.cells #[.int .i64 0] enT) ∧ Rd w1 (W.heap.size + 1 + 1) (W.heap.size + 1 + 1) (.slice none 0 0) [] s 0 ∧ Below W.heap.size W w1 ∧ w1.heap.size = W.heap.size + 1 + 1 + 1 := by
  have hA := Ap.heap3 W (.cells #[.slice none 0 0] psT) (.cells #[.int .i64 0] enT) (.cells #[.slice none 0 0, .string (str s), .int .i64 0] rdT)
  have hB := (((Below.refl W.heap.size W).alloc (Nat.le_refl _) (.cells #[.slice none 0 0] psT)).alloc (by simp) (.cells #[.int .i64 0] enT)).alloc (by simp; omega) (.cells #[.slice none 0 0, .string (str s), .int .i64 0] rdT)
  obtain ⟨h0, h1, h2⟩ := hA
  exact ⟨_, rfl, h0, h1, ⟨h2, Nat.le_refl _, row_nil _ _ _, by omega⟩, hB, by simp⟩
set_option maxHeartbeats 4000000 in
theorem read_parse (W : World) (s : Nm) (hs : s.length ≤ 30000) (hO : OpsT W) (rb : Nat) (hr : W.cell? ⟨rb, 0, none⟩ = some (.string (str s))) :
    Calls Tryd.prog 12 #[.string (str s), .func (.func 13) #[] #[.pointer (some ⟨rb, 0, none⟩)]] W (ReadPost W fun x => ∃ f, parseE f s = some x) := by
  have hmf : ∀ (fn : Fn) (first cap : Array Value) (w : World), (Instr.makeFunc fn first cap).run Tryd.prog w = .ok (.func fn first cap) w := fun _ _ _ _ => rfl
  obtain ⟨w1, hw1, hp, hq, hR, hb, hsz⟩ := read_start W s
  have HW1 : Hid (((W.alloc (.cells #[.slice none 0 0] psT)).alloc (.cells #[.int .i64 0] enT)).alloc (.cells #[.slice none 0 0, .string (str s), .int .i64 0] rdT) = w1) := hw1
  have HP := Lib.hid hp
  have HQ := Lib.hid hq
  have HR := Lib.hid hR
  have HB := Lib.hid hb
  have HZ := Lib.hid hsz
  have HO1 := Lib.hid (hO.below hb)
  have HG : Hid (gOps < W.heap.size + 1 + 1) := by have := hO.lt; show _ < _; omega
  have HRb := Lib.hid (cell_below hb (Nat.le_refl _) hr)
  clear hr
  clear hw1 hp hq hR hb hsz hO
  obtain ⟨N, hN⟩ : ∃ N, W.heap.size = N := ⟨_, rfl⟩
  have HN := Lib.hid hN
  rw [hN] at HP HQ HR HZ HG
  clear hN
  go_enter_defers Tryd.func12, Tryd.ntmps12
  go_upto_region 3 with fail
  rw [HW1.out, HN.out]
  go_wp2_with fail
  refine (parse_fn_calls w1 (N + 1 + 1) (N + 1 + 1) rb (.slice none 0 0) s HR.out hs HRb.out (by rw [HZ.out]; omega) HO1.out HG.out).mono ?_
  rintro r w2 ⟨f, x, hx, ht, hp⟩
  have hp2 : w2.heap[N]? = some (.cells #[.slice none 0 0] psT) := (ht.block N (by rw [HZ.out]; omega) (by omega) (by simp [Value.ownBlock])).trans HP.out
  have hq2 : w2.heap[N + 1]? = some (.cells #[.int .i64 0] enT) := (ht.block (N + 1) (by rw [HZ.out]; omega) (by omega) (by simp [Value.ownBlock])).trans HQ.out
  have hbw : Below W.heap.size W w2 := HB.out.trans (ht.below (B := W.heap.size) (by rw [HN.out]; omega) (fun g hg => by simp [Value.ownBlock] at hg) (by rw [HZ.out, HN.out]; omega))
  have HP2 := Lib.hid hp2
  have HQ2 := Lib.hid hq2
  have HBW := Lib.hid hbw
  have HX := Lib.hid hx
  clear hp2 hq2 hbw hx
  cases x with
  | error e =>
    obtain rfl := hp
    clear ht
    refine leaves_cons (f := 20) (args := #[.pointer (some ⟨N, 0, none⟩), .pointer (some ⟨N + 1, 0, none⟩)]) (by simp) (by simp [go_sem]) ?_
    refine (catch_panic N (N + 1) (.slice none 0 0) (.int .i64 0) e [] w2 HP2.out HQ2.out (by omega)).mono ?_
    rintro r u' w3 ⟨rfl, rfl, hc⟩
    have k0 : w3.cell? ⟨N, 0, none⟩ = some (.slice none 0 0) := by have := hc.hp; simp [World.cell?, this]
    have k1 : w3.cell? ⟨N + 1, 0, none⟩ = some (.int .i64 e) := by have := hc.hq; simp [World.cell?, this]
    have HC := Lib.hid hc
    clear hc
    have HF : Hid (ReadPost W (fun x => ∃ f, parseE f s = some x) (.returned (.tuple #[.slice none 0 0, .int .i64 e])) w3) := by
      refine ⟨.error e, ⟨f, HX.out⟩, HBW.out.trans ⟨HC.out.os, HC.out.tape, HC.out.output, Nat.le_of_eq HC.out.size.symm, fun k hk => HC.out.block k (Nat.lt_of_lt_of_le hk HBW.out.size) (by rw [HN.out] at hk; omega) (by rw [HN.out] at hk; omega)⟩, rfl⟩
    simp [Leaves, settle, results, Tryd.results12, go_sem, k0, k1]
    exact HF.out
  | ok y =>
    obtain ⟨rfl, vi, hr, _⟩ := hp
    clear ht
    have HR2 := Lib.hid hr
    obtain ⟨⟨c0, c1, c2⟩, f0, f1, f2⟩ := rd_cells hr.box
    have k0 : w2.cell? ⟨N, 0, none⟩ = some (.slice none 0 0) := by have := HP2.out; simp [World.cell?, this]
    have k1 : w2.cell? ⟨N + 1, 0, none⟩ = some (.int .i64 0) := by have := HQ2.out; simp [World.cell?, this]
    have z0 : w2.frozen? ⟨N, 0, none⟩ = false := by have := HP2.out; simp [World.frozen?, this]
    have z1 : w2.frozen? ⟨N + 1, 0, none⟩ = false := by have := HQ2.out; simp [World.frozen?, this]
    obtain ⟨va, vc, rfl⟩ := hr.slice
    have hlt : N + 1 + 1 < w2.heap.size := hr.lt
    have HLt := Lib.hid hlt
    have hc0 : Caught w2 w2 N (N + 1) (.slice none 0 0) (.int .i64 0) := ⟨HP2.out, HQ2.out, rfl, rfl, rfl, rfl, fun _ _ _ _ => rfl⟩
    have hc1 := (hc0.setp (by omega) (.slice va (puts [] y.1).length vc)).setq (by omega) (.int .i64 0)
    have HC := Lib.hid hc1
    have hne : ¬ N + 1 = N := by omega
    clear hr hlt hc0 hc1
    go_wp2_with fail
    refine leaves_cons (f := 20) (args := #[.pointer (some ⟨N, 0, none⟩), .pointer (some ⟨N + 1, 0, none⟩)]) (by simp) (by simp [go_sem]) ?_
    refine (catch_idle N (N + 1) _).mono ?_
    rintro r u' w3 ⟨rfl, rfl, hw3⟩
    have HC3 : Hid (Caught w2 w3 N (N + 1) (.slice va (puts [] y.1).length vc) (.int .i64 0)) := by show Caught _ _ _ _ _ _; rw [hw3]; exact HC.out
    clear hw3 k0 k1 z0 z1 c0 c1 c2 f0 f1 f2
    have k0 : w3.cell? ⟨N, 0, none⟩ = some (.slice va (puts [] y.1).length vc) := by have := HC3.out.hp; simp [World.cell?, this]
    have k1 : w3.cell? ⟨N + 1, 0, none⟩ = some (.int .i64 0) := by have := HC3.out.hq; simp [World.cell?, this]
    have HF : Hid (ReadPost W (fun x => ∃ f, parseE f s = some x) (.returned (.tuple #[.slice va (puts [] y.1).length vc, .int .i64 0])) w3) := by
      refine ⟨.ok y, ⟨f, HX.out⟩, HBW.out.trans ⟨HC3.out.os, HC3.out.tape, HC3.out.output, Nat.le_of_eq HC3.out.size.symm, fun k hk => HC3.out.block k (Nat.lt_of_lt_of_le hk HBW.out.size) (by rw [HN.out] at hk; omega) (by rw [HN.out] at hk; omega)⟩, _, rfl, ?_⟩
      refine tree_less (fun g hg _ => by rw [HN.out]; exact Nat.le_trans (by omega) hg) (tree_keep (fun g X hg hX => HC3.out.block g (Array.getElem?_eq_some_iff.1 hX).1 (by have h9 : N + 1 + 1 ≤ g := hg; omega) (by have h9 : N + 1 + 1 ≤ g := hg; omega)) (row_tree HR2.out.row))
    simp [Leaves, settle, results, Tryd.results12, go_sem, k0, k1]
    exact HF.out

set_option maxHeartbeats 4000000 in
theorem read_body (W : World) (s : Nm) (hs : s.length ≤ 30000) (hO : OpsT W) :
    Calls Tryd.prog 12 #[.string (str s), .func (.func 18) #[] #[]] W (ReadPost W fun x => ∃ f, bodyE f s = some x) := by
  have hmf : ∀ (fn : Fn) (first cap : Array Value) (w : World), (Instr.makeFunc fn first cap).run Tryd.prog w = .ok (.func fn first cap) w := fun _ _ _ _ => rfl
  obtain ⟨w1, hw1, hp, hq, hR, hb, hsz⟩ := read_start W s
  have HW1 : Hid (((W.alloc (.cells #[.slice none 0 0] psT)).alloc (.cells #[.int .i64 0] enT)).alloc (.cells #[.slice none 0 0, .string (str s), .int .i64 0] rdT) = w1) := hw1
  have HP := Lib.hid hp
  have HQ := Lib.hid hq
  have HR := Lib.hid hR
  have HB := Lib.hid hb
  have HZ := Lib.hid hsz
  have HO1 := Lib.hid (hO.below hb)
  have HG : Hid (gOps < W.heap.size + 1 + 1) := by have := hO.lt; show _ < _; omega
  clear hw1 hp hq hR hb hsz hO
  obtain ⟨N, hN⟩ : ∃ N, W.heap.size = N := ⟨_, rfl⟩
  have HN := Lib.hid hN
  rw [hN] at HP HQ HR HZ HG
  clear hN
  go_enter_defers Tryd.func12, Tryd.ntmps12
  go_upto_region 3 with fail
  rw [HW1.out, HN.out]
  go_wp2_with fail
  refine (body_fn_calls w1 (N + 1 + 1) (N + 1 + 1) (.slice none 0 0) s HR.out hs (by rw [HZ.out]; omega) HO1.out HG.out).mono ?_
  rintro r w2 ⟨f, x, hx, ht, hp⟩
  have hp2 : w2.heap[N]? = some (.cells #[.slice none 0 0] psT) := (ht.block N (by rw [HZ.out]; omega) (by omega) (by simp [Value.ownBlock])).trans HP.out
  have hq2 : w2.heap[N + 1]? = some (.cells #[.int .i64 0] enT) := (ht.block (N + 1) (by rw [HZ.out]; omega) (by omega) (by simp [Value.ownBlock])).trans HQ.out
  have hbw : Below W.heap.size W w2 := HB.out.trans (ht.below (B := W.heap.size) (by rw [HN.out]; omega) (fun g hg => by simp [Value.ownBlock] at hg) (by rw [HZ.out, HN.out]; omega))
  have HP2 := Lib.hid hp2
  have HQ2 := Lib.hid hq2
  have HBW := Lib.hid hbw
  have HX := Lib.hid hx
  clear hp2 hq2 hbw hx
  cases x with
  | error e =>
    obtain rfl := hp
    clear ht
    refine leaves_cons (f := 20) (args := #[.pointer (some ⟨N, 0, none⟩), .pointer (some ⟨N + 1, 0, none⟩)]) (by simp) (by simp [go_sem]) ?_
    refine (catch_panic N (N + 1) (.slice none 0 0) (.int .i64 0) e [] w2 HP2.out HQ2.out (by omega)).mono ?_
    rintro r u' w3 ⟨rfl, rfl, hc⟩
    have k0 : w3.cell? ⟨N, 0, none⟩ = some (.slice none 0 0) := by have := hc.hp; simp [World.cell?, this]
    have k1 : w3.cell? ⟨N + 1, 0, none⟩ = some (.int .i64 e) := by have := hc.hq; simp [World.cell?, this]
    have HC := Lib.hid hc
    clear hc
    have HF : Hid (ReadPost W (fun x => ∃ f, bodyE f s = some x) (.returned (.tuple #[.slice none 0 0, .int .i64 e])) w3) := by
      refine ⟨.error e, ⟨f, HX.out⟩, HBW.out.trans ⟨HC.out.os, HC.out.tape, HC.out.output, Nat.le_of_eq HC.out.size.symm, fun k hk => HC.out.block k (Nat.lt_of_lt_of_le hk HBW.out.size) (by rw [HN.out] at hk; omega) (by rw [HN.out] at hk; omega)⟩, rfl⟩
    simp [Leaves, settle, results, Tryd.results12, go_sem, k0, k1]
    exact HF.out
  | ok y =>
    obtain ⟨rfl, vi, hr, _⟩ := hp
    clear ht
    have HR2 := Lib.hid hr
    obtain ⟨⟨c0, c1, c2⟩, f0, f1, f2⟩ := rd_cells hr.box
    have k0 : w2.cell? ⟨N, 0, none⟩ = some (.slice none 0 0) := by have := HP2.out; simp [World.cell?, this]
    have k1 : w2.cell? ⟨N + 1, 0, none⟩ = some (.int .i64 0) := by have := HQ2.out; simp [World.cell?, this]
    have z0 : w2.frozen? ⟨N, 0, none⟩ = false := by have := HP2.out; simp [World.frozen?, this]
    have z1 : w2.frozen? ⟨N + 1, 0, none⟩ = false := by have := HQ2.out; simp [World.frozen?, this]
    obtain ⟨va, vc, rfl⟩ := hr.slice
    have hlt : N + 1 + 1 < w2.heap.size := hr.lt
    have HLt := Lib.hid hlt
    have hc0 : Caught w2 w2 N (N + 1) (.slice none 0 0) (.int .i64 0) := ⟨HP2.out, HQ2.out, rfl, rfl, rfl, rfl, fun _ _ _ _ => rfl⟩
    have hc1 := (hc0.setp (by omega) (.slice va (puts [] y.1).length vc)).setq (by omega) (.int .i64 0)
    have HC := Lib.hid hc1
    have hne : ¬ N + 1 = N := by omega
    clear hr hlt hc0 hc1
    go_wp2_with fail
    refine leaves_cons (f := 20) (args := #[.pointer (some ⟨N, 0, none⟩), .pointer (some ⟨N + 1, 0, none⟩)]) (by simp) (by simp [go_sem]) ?_
    refine (catch_idle N (N + 1) _).mono ?_
    rintro r u' w3 ⟨rfl, rfl, hw3⟩
    have HC3 : Hid (Caught w2 w3 N (N + 1) (.slice va (puts [] y.1).length vc) (.int .i64 0)) := by show Caught _ _ _ _ _ _; rw [hw3]; exact HC.out
    clear hw3 k0 k1 z0 z1 c0 c1 c2 f0 f1 f2
    have k0 : w3.cell? ⟨N, 0, none⟩ = some (.slice va (puts [] y.1).length vc) := by have := HC3.out.hp; simp [World.cell?, this]
    have k1 : w3.cell? ⟨N + 1, 0, none⟩ = some (.int .i64 0) := by have := HC3.out.hq; simp [World.cell?, this]
    have HF : Hid (ReadPost W (fun x => ∃ f, bodyE f s = some x) (.returned (.tuple #[.slice va (puts [] y.1).length vc, .int .i64 0])) w3) := by
      refine ⟨.ok y, ⟨f, HX.out⟩, HBW.out.trans ⟨HC3.out.os, HC3.out.tape, HC3.out.output, Nat.le_of_eq HC3.out.size.symm, fun k hk => HC3.out.block k (Nat.lt_of_lt_of_le hk HBW.out.size) (by rw [HN.out] at hk; omega) (by rw [HN.out] at hk; omega)⟩, _, rfl, ?_⟩
      refine tree_less (fun g hg _ => by rw [HN.out]; exact Nat.le_trans (by omega) hg) (tree_keep (fun g X hg hX => HC3.out.block g (Array.getElem?_eq_some_iff.1 hX).1 (by have h9 : N + 1 + 1 ≤ g := hg; omega) (by have h9 : N + 1 + 1 ≤ g := hg; omega)) (row_tree HR2.out.row))
    simp [Leaves, settle, results, Tryd.results12, go_sem, k0, k1]
    exact HF.out

/-- What Parse, and Body, tell. -/
def WordPost (F : Nat → Nm → M (List Prt)) (W : World) (s : Nm) (r : Ending) (W' : World) : Prop :=
  ∃ f x, F f s = some x ∧ Below W.heap.size W W' ∧ match x with
    | .error e => r = .returned (.tuple #[.slice none 0 0, .int .i64 e])
    | .ok l => ∃ u, r = .returned (.tuple #[u, .int .i64 0]) ∧ TreeH 9 (fun g => W.heap.size ≤ g) W' u l
set_option maxHeartbeats 2000000 in
theorem parse_calls (W : World) (s : Nm) (hs : s.length ≤ 30000) (hO : OpsT W) : Calls Tryd.prog 9 #[.string (str s)] W (WordPost parseM W s) := by
  have hmf : ∀ (fn : Fn) (first cap : Array Value) (w : World), (Instr.makeFunc fn first cap).run Tryd.prog w = .ok (.func fn first cap) w := fun _ _ _ _ => rfl
  obtain ⟨w1, hw1⟩ : ∃ w1, W.alloc (.cells #[.string (str s)] 9) = w1 := ⟨_, rfl⟩
  have hb : Below W.heap.size W w1 := by rw [← hw1]; exact (Below.refl _ _).alloc (Nat.le_refl _) _
  have hr : w1.cell? ⟨W.heap.size, 0, none⟩ = some (.string (str s)) := by
    have := heap_alloc_new W (.cells #[.string (str s)] 9)
    rw [hw1] at this
    simp [World.cell?, this]
  obtain ⟨N, hN⟩ : ∃ N, W.heap.size = N := ⟨_, rfl⟩
  have HN := Lib.hid hN
  rw [hN] at hr
  have HW1 := Lib.hid hw1
  have HB := Lib.hid hb
  have HRd := Lib.hid (read_parse w1 s hs (hO.below hb) N hr)
  clear hw1 hb hO hN
  go_enter Tryd.func9, Tryd.ntmps9
  go_upto_region 1 with fail
  rw [HW1.out, HN.out]
  go_wp2_with fail
  refine HRd.out.mono ?_
  rintro r w2 ⟨x, ⟨f, hx⟩, hb2, hp⟩
  have HB2 : Hid (Below W.heap.size W w2) := HB.out.trans (hb2.mono HB.out.size)
  clear hb2 hr
  cases x with
  | error e =>
    obtain rfl := hp
    have HX : Hid (parseM f s = some (.error e)) := by show _ = _; unfold parseM; rw [hx]; rfl
    clear hx
    go_wp2_with fail
    refine bodyPost_ret (v := .tuple #[.slice none 0 0, .int .i64 e]) (by simp [results, Tryd.results9, go_sem]) rfl ?_
    exact ⟨f, _, HX.out, HB2.out, rfl⟩
  | ok y =>
    obtain ⟨u, rfl, ht⟩ := hp
    have HX : Hid (parseM f s = some (.ok (puts [] y.1))) := by show _ = _; unfold parseM; rw [hx]; rfl
    have HT := Lib.hid ht
    clear hx ht
    go_wp2_with fail
    refine bodyPost_ret (v := .tuple #[u, .int .i64 0]) (by simp [results, Tryd.results9, go_sem]) rfl ?_
    exact ⟨f, _, HX.out, HB2.out, u, rfl, tree_less (fun g hg _ => Nat.le_trans HB.out.size hg) HT.out⟩
set_option maxHeartbeats 2000000 in
theorem body_calls (W : World) (s : Nm) (hs : s.length ≤ 30000) (hO : OpsT W) : Calls Tryd.prog 11 #[.string (str s)] W (WordPost bodyM W s) := by
  have HRd := Lib.hid (read_body W s hs hO)
  clear hO
  go_enter Tryd.func11, Tryd.ntmps11
  go_wp2_with fail
  refine HRd.out.mono ?_
  rintro r w2 ⟨x, ⟨f, hx⟩, hb2, hp⟩
  have HB2 := Lib.hid hb2
  clear hb2
  cases x with
  | error e =>
    obtain rfl := hp
    have HX : Hid (bodyM f s = some (.error e)) := by show _ = _; unfold bodyM; show bnd (bodyE f s) _ = _; rw [hx]; rfl
    clear hx
    go_wp2_with fail
    refine bodyPost_ret (v := .tuple #[.slice none 0 0, .int .i64 e]) (by simp [results, Tryd.results11, go_sem]) rfl ?_
    exact ⟨f, _, HX.out, HB2.out, rfl⟩
  | ok y =>
    obtain ⟨u, rfl, ht⟩ := hp
    have HX : Hid (bodyM f s = some (.ok (puts [] y.1))) := by show _ = _; unfold bodyM; show bnd (bodyE f s) _ = _; rw [hx]; rfl
    have HT := Lib.hid ht
    clear hx ht
    go_wp2_with fail
    refine bodyPost_ret (v := .tuple #[u, .int .i64 0]) (by simp [results, Tryd.results11, go_sem]) rfl ?_
    exact ⟨f, _, HX.out, HB2.out, u, rfl, HT.out⟩
end Go.Proofs.YtfjkgeeaeolkhaaDoor
