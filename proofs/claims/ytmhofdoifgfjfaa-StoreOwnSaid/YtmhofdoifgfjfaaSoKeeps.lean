/-
  Store: the statement StoreKeeps, walked: the places. Conditions: as each contract says.
-/
import Derived.Test.YtmhofdoifgfjfaaSoRefK
set_option linter.unusedVariables false
set_option maxRecDepth 100000
namespace Go.Proofs.Ytmhofdoifgfjfaa
open Go.RowKit Base

def kB (ev mo : Int) (l : List Int) : List Int := l.foldl (keepB ev mo) []
theorem kB_take {ev mo : Int} {l : List Int} {k : Nat} (h : k < l.length) : kB ev mo (l.take (k + 1)) = keepB ev mo (kB ev mo (l.take k)) l[k] := by
  unfold kB
  rw [List.take_succ_eq_append_getElem h, List.foldl_append]
  rfl
/-- A store and the reference's value beside it. -/
structure Duo (W : World) (B T : Nat) (v u : Value) (ev mo : Int) (pl : List Int) (n : Nat) : Prop where
  sto : StoA W B (B + 1) B v ev mo pl n
  box : Cut T [.int .i64 ev, .int .i64 mo, u] rfT W
  row : OwnI W (T + 1) u pl
  T2 : B + 2 ≤ T
  ne : ∀ g, u.ownBlock = some g → v.ownBlock ≠ some g
theorem Duo.below {W W' : World} {B T : Nat} {v u : Value} {ev mo : Int} {pl : List Int} {n : Nat} (h : Duo W B T v u ev mo pl n) (hb : Below W.heap.size W W') : Duo W' B T v u ev mo pl n :=
  ⟨h.sto.below hb, cut_below h.box hb, ownsRow_below h.row hb, h.T2, h.ne⟩
/-- Behind the store's Keep, the reference's value stands as it did. -/
theorem Duo.kept {W W' : World} {B T : Nat} {v v' u : Value} {ev mo : Int} {pl pl' : List Int} {n n' : Nat} (h : Duo W B T v u ev mo pl n) (hs : StoA W' B (B + 1) B v' ev mo pl' n') (ht : Turns (B + 1) B v.ownBlock W W') (ha : ∀ g, v'.ownBlock = some g → g < W.heap.size → v.ownBlock = some g) :
    Cut T [.int .i64 ev, .int .i64 mo, u] rfT W' ∧ OwnI W' (T + 1) u pl ∧ ∀ g, u.ownBlock = some g → v'.ownBlock ≠ some g := by
  have hT := h.T2
  have hr : W.ownsRow (T + 1) 3 1 u pl.length (pl.map zv) := h.row
  refine ⟨(ht.block T h.box.lt (by omega) (by omega) (fun e => own_apart h.sto.row h.box (by decide) e.symm)).trans h.box, ⟨hr.1, ?_⟩, fun g hg hv => ?_⟩
  · rcases hr.2 with h2 | ⟨g, cap, cur, rfl, h4, hg, h5⟩
    · exact .inl h2
    · refine .inr ⟨g, cap, cur, rfl, h4, ?_, h5⟩
      exact (ht.block g (Array.getElem?_eq_some_iff.1 hg).1 (by omega) (by omega) (fun e => h.ne g rfl e.symm)).trans hg
  · exact h.ne g hg (ha g hv (hr.lt g hg).2)
theorem load_rf {w : World} {b : Nat} {us : List Value} (h : Cut b us rfT w) (hl : us.length = 3) : (Instr.loadAt rfT (.pointer (some ⟨b, 0, none⟩))).run Try.prog w = .ok (.agg us.toArray) w := by
  obtain ⟨d, hu, hr⟩ := Option.map_eq_some_iff.1 und_rf
  exact run_loadAt_mid w b 0 rfT us d (fun j v hv => by rw [Nat.zero_add, h.cell]; exact hv) hu hr (by rw [hl]; exact info_rf)
theorem idx_ints {g n c : Nat} (j : Nat) (hj : j < n) (kd : IntKind) (w' : World) : (Instr.indexAt 41 (.slice (some ⟨g, 0, none⟩) n c) (.int kd (j : Int))).run Try.prog w' = .ok (.pointer (some ⟨g, j, none⟩)) w' := by
  obtain ⟨i, hi, _, hs, _⟩ := info_parts zinfo_i64
  have he : Try.prog.elem 41 = 3 := by simp [Program.elem, Try.underlying41]
  rw [run_indexAt_slice w' 41 _ n c kd j (by rw [he]; exact Try.underlying41), if_pos ⟨by omega, by omega⟩, he]
  simp [sizeOf, typeInfo, hi, hs, Result.andThen, Addr.add_lit]
def mix (q : List Int) (j : Nat) : List Int := List.replicate j (-7) ++ q.drop j
theorem mix_len {q : List Int} {j : Nat} (h : j ≤ q.length) : (mix q j).length = q.length := by unfold mix; rw [List.length_append, List.length_replicate, List.length_drop]; omega
theorem mix_at {q : List Int} {j : Nat} (h : j < q.length) : (mix q j)[j]? = some q[j] := by
  unfold mix
  rw [List.getElem?_append_right (by rw [List.length_replicate]; exact Nat.le_refl _), List.length_replicate, Nat.sub_self, List.getElem?_drop, Nat.add_zero, List.getElem?_eq_getElem h]
theorem mix_set {q : List Int} {j : Nat} (h : j < q.length) : (mix q j).set j (-7) = mix q (j + 1) := by
  unfold mix
  rw [List.drop_eq_getElem_cons h, List.set_append_right _ _ (by rw [List.length_replicate]; exact Nat.le_refl _), List.length_replicate, Nat.sub_self, List.set_cons_zero, List.replicate_succ', List.append_assoc]
  rfl
theorem does_not {P : Program} {a : Act} {w : World} {post : Value → World → Prop} {dst : Option Tmp} {x : Operand} {t : TypeId} {ty : TypeId} {pos : String} {after : Array Edge} {guard : Option (Nat × Bool)} (b : Bool)
    (hx : a.eval x = .bool b) (hp : post (.bool (!b)) w) : Rg.does P { dst, op := .unOp .not t x, type := ty, pos, after, guard } a w post := by
  refine Rg.does_value (v := .bool (!b)) ?_ hp
  simp [execOp, hx, Op.unary]
theorem does_ne_int {P : Program} {a : Act} {w : World} {post : Value → World → Prop} {dst : Option Tmp} {x y : Operand} {t u : TypeId} {ty : TypeId} {pos : String} {after : Array Edge} {guard : Option (Nat × Bool)} (m : Int)
    (hx : a.eval x = .int .i64 m) (hy : a.eval y = .int .i64 m) (hp : post (.bool false) w) : Rg.does P { dst, op := .binOp .neq t x y u, type := ty, pos, after, guard } a w post := by
  refine Rg.does_value (v := .bool false) ?_ hp
  simp [execOp, hx, hy, eqGuard_at_int, binOp_neq]
theorem does_ne_bool {P : Program} {a : Act} {w : World} {post : Value → World → Prop} {dst : Option Tmp} {x y : Operand} {t u : TypeId} {ty : TypeId} {pos : String} {after : Array Edge} {guard : Option (Nat × Bool)} (m : Bool)
    (ht : P.underlying t = some .bool) (hx : a.eval x = .bool m) (hy : a.eval y = .bool m) (hp : post (.bool false) w) : Rg.does P { dst, op := .binOp .neq t x y u, type := ty, pos, after, guard } a w post := by
  refine Rg.does_value (v := .bool false) ?_ hp
  have h := run_neq_bool (P := P) (w := w) t m m ht
  rw [beq_self_eq_true] at h
  simp [execOp, hx, hy, eqGuard_at_bool, h, Result.andThen]
def NilPost (W : World) (r : Ending) (W' : World) : Prop := r = .returned (.tuple #[]) ∧ Below W.heap.size W W'
set_option maxHeartbeats 1000000 in
theorem keep_nil (W : World) (p : Int) (vs : List Value) (hl : vs.length = 29) : Calls Try.prog 8 #[.pointer none, .int .i64 p, .agg vs.toArray] W (NilPost W) := by
  have HB := Lib.hid ((Below.refl W.heap.size W).alloc (Nat.le_refl _) (.cells vs.toArray stT))
  go_enter Try.func8, Try.ntmps8
  go_wp2_with fail
  refine bodyPost_end (v := .tuple #[]) (results_none rfl _ _ _) rfl ?_
  exact ⟨rfl, HB.out⟩
set_option maxHeartbeats 1000000 in
theorem places_nil (W : World) : Calls Try.prog 10 #[.pointer none] W fun r W' => r = .returned (.slice none 0 0) ∧ Below W.heap.size W W' := by
  have HB := Lib.hid (Below.refl W.heap.size W)
  go_enter Try.func10, Try.ntmps10
  go_wp2_with fail
  go_ret
  exact ⟨rfl, HB.out⟩
set_option maxHeartbeats 4000000 in
theorem near_nil (W : World) (p : Int) : Calls Try.prog 11 #[.pointer none, .int .i64 p] W fun r W' => (∃ us : List Value, r = .returned (.tuple #[.int .i64 0, .agg us.toArray, .bool false]) ∧ us.length = 29 ∧ ∀ v ∈ us, v.oneCell' = true) ∧ Below W.heap.size W W' := by
  obtain ⟨w1, hw1, hc1, hb1⟩ : ∃ w1, W.alloc (.cells Z29 stT) = w1 ∧ Cut W.heap.size stZ stT w1 ∧ Below W.heap.size W w1 := ⟨_, rfl, heap_alloc_new W _, (Below.refl W.heap.size W).alloc (Nat.le_refl _) _⟩
  have HW : Hid (W.alloc (.cells #[.slice none 0 0, .slice none 0 0, .int .i64 0, .string ⟨#[]⟩, .slice none 0 0, .slice none 0 0, .slice none 0 0, .slice none 0 0, .slice none 0 0, .int .i64 0, .int .i64 0, .int .i64 0, .string ⟨#[]⟩, .slice none 0 0, .int .i64 0, .int .i64 0, .int .i64 0, .int .i64 0, .string ⟨#[]⟩, .slice none 0 0, .int .i64 0, .slice none 0 0, .int .i64 0, .int .i64 0, .int .i64 0, .bool false, .bool false, .bool false, .int .i64 0] stT) = w1) := hw1
  have HC1 := Lib.hid hc1
  have HB1 := Lib.hid hb1
  clear hw1 hc1 hb1
  go_enter Try.func11, Try.ntmps11
  go_upto_region 1 with fail
  rw [HW.out]
  obtain ⟨tb, htb⟩ : ∃ tb, W.heap.size = tb := ⟨_, rfl⟩
  have HTb := Lib.hid htb
  rw [htb] at HC1 ⊢
  clear htb
  go_wp2_with (refine wpList_store_mid rfl stT (.tmp 5) (.tmp 13) rfl tb 0 stZ.toArray rfl rfl (there_cut HC1.out _ (Nat.le_refl _)) info_st (all_oneCell_toArray (state_1.one (zero_state W))) ?_; (obtain ⟨wL, hwL⟩ : ∃ x, w1.setCells tb 0 stZ.toArray.toList = x := ⟨_, rfl⟩); have HWL := Lib.hid hwL; (refine (congrArg (wpList _ _ _ _ _) hwL).mpr ?_); clear hwL)
  have hwl : wL = w1 := by
    rw [← HWL.out]
    exact setCells_self tb stZ 0 w1 (fun j hj => by rw [Nat.zero_add, HC1.out.cell, List.getElem?_eq_getElem hj])
  subst hwl
  refine bodyPost_ret (results_cell3 rfl _ _ _ tb (.agg stZ.toArray) rfl (loadv_cut HC1.out und_st info_st)) rfl ?_
  exact ⟨⟨stZ, rfl, rfl, state_1.one (zero_state W)⟩, HB1.out⟩
/-- A block of another type is written. -/
theorem Sto.other {W W' : World} {B s m T : Nat} {v : Value} {ev mo : Int} {pl : List Int} {f : Int → StateD} {n : Nat} {us : List Value} {t : TypeId} (h : Sto W B s m v ev mo pl f n) (hT : Cut T us t W) (h1 : t ≠ soT) (h2 : t ≠ 3) (h3 : t ≠ 5) (hg : W.grownBy W' (some T)) : Sto W' B s m v ev mo pl f n := by
  obtain ⟨D, hD, hK⟩ := h.map
  have hsT : s ≠ T := fun e => by
    have := h.box
    rw [e, show W.heap[T]? = _ from hT] at this
    injection this with this
    injection this with _ this _
    exact h1 this
  have hmT : m ≠ T := fun e => by
    obtain ⟨es, ck, hm, _⟩ := hD
    rw [e, show W.heap[T]? = _ from hT] at hm
    cases hm
  refine ⟨h.sB, h.mB, (hg.block s h.lt (by simpa using hsT)).trans h.box, own_other h.row hg (fun j hj => by obtain rfl := Option.some.inj hj; exact own_apart h.row hT h2), ⟨D, hD.kept hg (by simpa using hmT), fun p hp => ?_⟩, h.up, h.lo, h.ev1, h.mo1, h.le, h.ln, h.fine⟩
  obtain ⟨u, g1, g2⟩ := hK p hp
  exact ⟨u, g1, own_other g2 hg (fun j hj => by obtain rfl := Option.some.inj hj; exact own_apart g2 hT h3)⟩
set_option maxHeartbeats 4000000 in
theorem so_keeps (W : World) (ev0 mo0 : Int) (he0 : I64 ev0) (hm0 : I64 mo0) (a2 : Option Addr) (n2 c2 : Nat) (ps : List Int) (h2 : Ints .i64 W a2 n2 c2 ps) (hp64 : ∀ z ∈ ps, I64 z) (a3 : Option Addr) (n3 c3 : Nat) (qs : List Int) (h3 : Ints .i64 W a3 n3 c3 qs) (hq64 : ∀ z ∈ qs, I64 z) :
    Calls Try.prog 5 #[.int .i64 ev0, .int .i64 mo0, .slice a2 n2 c2, .slice a3 n3 c3] W fun r W' => r = .returned (.bool true) ∧ Below W.heap.size W W' := by
  have HA2 := Lib.hid h2
  have HA3 := Lib.hid h3
  have HP6 := Lib.hid hp64
  have HQ6 := Lib.hid hq64
  obtain rfl := h2.1
  obtain rfl := h3.1
  have hn2 : ps.length ≤ 9223372036854775807 := by have := h2.2.1; have := h2.2.2.1; unfold maxLen at this; omega
  have hn3 : qs.length ≤ 9223372036854775807 := by have := h3.2.1; have := h3.2.2.1; unfold maxLen at this; omega
  clear h2 h3 hp64 hq64 he0 hm0
  go_enter Try.func5, Try.ntmps5
  go_wp2_with fail
  refine (awake_calls W).mono ?_
  rintro r w1 ⟨rfl, hb1⟩
  have HB1 := Lib.hid hb1
  clear hb1
  by_cases h80 : ps.length ≤ 80
  case neg =>
    have a1 : decide ((80 : Int) < (ps.length : Int)) = true := decide_eq_true (by omega)
    have a2 : (80 : Int) < (ps.length : Int) := by omega
    go_wp2_with fail
    go_ret
    exact ⟨rfl, HB1.out⟩
  have a1 : decide ((80 : Int) < (ps.length : Int)) = false := decide_eq_false (by omega)
  have a2 : ¬ ((80 : Int) < (ps.length : Int)) := by omega
  by_cases h20 : qs.length ≤ 20
  case neg =>
    have b1 : decide ((20 : Int) < (qs.length : Int)) = true := decide_eq_true (by omega)
    have b2 : (20 : Int) < (qs.length : Int) := by omega
    go_wp2_with fail
    go_ret
    exact ⟨rfl, HB1.out⟩
  have b1 : decide ((20 : Int) < (qs.length : Int)) = false := decide_eq_false (by omega)
  have b2 : ¬ ((20 : Int) < (qs.length : Int)) := by omega
  go_wp2_with fail
  clear a1 a2 b1 b2
  go_loopw [10] (fun v10 wr => ∃ k : Nat, k ≤ ps.length ∧ v10 = .int .i64 (k : Int) ∧ (∀ x ∈ ps.take k, x ≤ 1000000) ∧ Below w1.heap.size w1 wr) (fun v10 _ => ps.length - (intOf v10).toNat)
  case atStart => exact ⟨0, Nat.zero_le _, rfl, by simp, Below.refl _ _⟩
  case round =>
    obtain ⟨k, hk, rfl, hall, hbr⟩ := hrel
    have HBr := Lib.hid hbr
    have HWr : Hid (Below W.heap.size W wr) := HB1.out.trans (hbr.mono HB1.out.size)
    have HAll := Lib.hid hall
    clear hall
    by_cases hlt : k < ps.length
    · obtain ⟨b2, o2, hc, hi⟩ := at_ints (HA2.out.below (stable_intAt _) HWr.out)
      have e0 := hc k hlt
      have x0 := fun kd w' => hi kd k w' hlt
      have HT := Lib.hid (List.take_succ_eq_append_getElem hlt)
      have u3 : decide (k < ps.length) = true := decide_eq_true (by omega)
      have u1 : decide ((k : Int) < (ps.length : Int)) = true := decide_eq_true (by omega)
      have u2 : (k : Int) < (ps.length : Int) := by omega
      clear hbr hc hi
      generalize ps[k] = x at *
      by_cases hx : x ≤ 1000000
      · have t1 : decide ((1000000 : Int) < x) = false := decide_eq_false (by omega)
        have t2 : ¬ ((1000000 : Int) < x) := by omega
        have HAll2 : Hid (∀ z ∈ ps.take (k + 1), z ≤ 1000000) := fun z hz => by
          rw [HT.out] at hz
          rcases List.mem_append.1 hz with hz | hz
          · exact HAll.out z hz
          · obtain rfl : z = x := by simpa using hz
            exact hx
        go_wp2_with fail
        go_roundw
        case rel => exact ⟨k + 1, by omega, by go_num, HAll2.out, HBr.out⟩
        case measure => simp [intOf]; omega
      · have t1 : decide ((1000000 : Int) < x) = true := decide_eq_true (by omega)
        have t2 : (1000000 : Int) < x := by omega
        go_wp2_with fail
        go_ret
        exact ⟨rfl, HWr.out⟩
    · obtain rfl : k = ps.length := by omega
      have u3 : decide (ps.length < ps.length) = false := decide_eq_false (by omega)
      have u1 : decide ((ps.length : Int) < (ps.length : Int)) = false := decide_eq_false (by omega)
      have u2 : ¬ ((ps.length : Int) < (ps.length : Int)) := by omega
      have HP1 : Hid (∀ x ∈ ps, x ≤ 1000000) := by
        have := HAll.out
        rw [List.take_length] at this
        exact this
      clear hbr hk
      go_wp2_with fail
      obtain ⟨B, hB⟩ : ∃ B, wr.heap.size = B := ⟨_, rfl⟩
      have HNw := Lib.hid (new_calls wr ev0 mo0 fA)
      rw [hB] at HNw
      refine HNw.out.mono ?_
      rintro r w2 ⟨rfl, hs2, hb2⟩
      obtain ⟨ev, hev⟩ : ∃ ev, max ev0 1 = ev := ⟨_, rfl⟩
      obtain ⟨mo, hmo⟩ : ∃ mo, max mo0 1 = mo := ⟨_, rfl⟩
      rw [hev, hmo] at hs2
      have hev1 : 1 ≤ ev := by omega
      have hmo1 : 1 ≤ mo := by omega
      have HBe := Lib.hid hB
      have HS2 := Lib.hid hs2
      have HL2 : Hid (Below B wr w2) := hb2
      have HZ2 : Hid (B + 2 ≤ w2.heap.size) := hs2.lt
      have HRn := Lib.hid (ref_new_calls w2 ev0 mo0)
      rw [hev, hmo] at HRn
      have HEv := Lib.hid hev
      have HMo := Lib.hid hmo
      clear hs2 hb2 hB HNw hev hmo
      go_wp2_with fail
      refine HRn.out.mono ?_
      rintro r w3 ⟨rfl, hb3⟩
      obtain ⟨T, hT⟩ : ∃ T, w3.heap.size = T := ⟨_, rfl⟩
      obtain ⟨w4, hw4⟩ : ∃ w4, w3.alloc (.cells #[.int .i64 ev, .int .i64 mo, .slice none 0 0] rfT) = w4 := ⟨_, rfl⟩
      have hb4 : Below w3.heap.size w3 w4 := by rw [← hw4]; exact (Below.refl w3.heap.size w3).alloc (Nat.le_refl _) _
      have hc4 : Cut T [.int .i64 ev, .int .i64 mo, .slice none 0 0] rfT w4 := by rw [← hw4, ← hT]; exact heap_alloc_new w3 _
      have HD0 : Hid (Duo w4 B T (.slice none 0 0) (.slice none 0 0) ev mo (kB ev mo (ps.take 0)) 0) :=
        ⟨(HS2.out.below hb3).below hb4, hc4, World.ownsRow_nil _ _ _ _, by have := HZ2.out; have := hb3.size; omega, fun g h => by cases h⟩
      have HL4 : Hid (Below B wr w4) := (HL2.out.trans (hb3.mono (by have := HZ2.out; omega))).trans (hb4.mono (by have := HZ2.out; have := hb3.size; omega))
      have HZ4 : Hid (B + 2 ≤ w4.heap.size) := by have := HZ2.out; have := hb3.size; have := hb4.size; show _ ≤ _; omega
      have HW4 := Lib.hid hw4
      have HT := Lib.hid hT
      clear hb3 hb4 hc4 hw4 hT HRn
      go_upto_region 13 with fail
      rw [HW4.out, HT.out]
      obtain ⟨w0, hw0⟩ : ∃ w0, w0 = wr := ⟨_, rfl⟩
      rw [← hw0] at HWr HL4 HBe
      have HW0 := Lib.hid hw0
      clear hw0
      go_wp2_with fail
      go_loopw [13] (fun v13 wr => ∃ (k : Nat) (v u : Value), k ≤ ps.length ∧ v13 = .int .i64 (k : Int) ∧ Duo wr B T v u ev mo (kB ev mo (ps.take k)) k ∧ Below B w0 wr ∧ B + 2 ≤ wr.heap.size) (fun v13 _ => ps.length - (intOf v13).toNat)
      case atStart => exact ⟨0, _, _, Nat.zero_le _, rfl, HD0.out, HL4.out, HZ4.out⟩
      case round =>
        obtain ⟨k, v, u, hk, rfl, hd, hl, hz⟩ := hrel
        have HD := Lib.hid hd
        have HL := Lib.hid hl
        have HZ := Lib.hid hz
        have HWk : Hid (Below W.heap.size W wr) := HWr.out.trans (hl.mono (by have := HWr.out.size; have := HBe.out; omega))
        clear hd hl hz
        by_cases hlt : k < ps.length
        · obtain ⟨b2, o2, hc, hi⟩ := at_ints HA2.out
          have HC : Hid (∀ w', Below W.heap.size W w' → w'.cell? ⟨b2, o2 + k, none⟩ = some (.int .i64 ps[k])) := fun w' hb => cell_below hb (Nat.le_refl _) (hc k hlt)
          have HIx := Lib.hid fun kd w' => hi kd k w' hlt
          have HKt := Lib.hid (kB_take (ev := ev) (mo := mo) hlt)
          have hx6 := HP1.out ps[k] (List.getElem_mem _)
          have hx64 := HP6.out ps[k] (List.getElem_mem _)
          have t3 : decide (k < ps.length) = true := decide_eq_true (by omega)
          have t1 : decide ((k : Int) < (ps.length : Int)) = true := decide_eq_true (by omega)
          have t2 : (k : Int) < (ps.length : Int) := by omega
          generalize ps[k] = x at *
          obtain ⟨pl, hpl⟩ : ∃ pl, kB ev mo (ps.take k) = pl := ⟨_, rfl⟩
          rw [hpl] at HD HKt
          have HX6 := Lib.hid hx6
          have HX64 := Lib.hid hx64
          clear hc hi hx6 hx64 hpl
          go_upto_region 16 with fail
          refine Rg.wp_region_rgt 10 [] [Rg.Is (.pointer (some ⟨B + 1, 0, none⟩)), Rg.Is (.slice a2 ps.length c2), Rg.Is (.int .i64 (k : Int)), Rg.Is (.pointer (some ⟨b2, o2 + k, none⟩)), Rg.Is (.int .i64 x), Rg.Is (.slice a2 ps.length c2), Rg.Is (.int .i64 (k : Int)), Rg.Is (.pointer (some ⟨b2, o2 + k, none⟩)), Rg.Is (.int .i64 x), (fun u x' => ∃ a c, u = .agg (atV (.slice a 1 c) x false).toArray ∧ x'.ownsRow wr.heap.size 9 1 (.slice a 1 c) 1 [.string ⟨#[120]⟩])] (by kernel_rfl) (by kernel_rfl) (of_decide_eq_true (by kernel_rfl)) (by kernel_rfl) (by kernel_rfl) ⟨Rg.st_is _, Rg.st_is _, Rg.st_is _, Rg.st_is _, Rg.st_is _, Rg.st_is _, Rg.st_is _, Rg.st_is _, Rg.st_is _, fun v w w' h hb => by obtain ⟨a, c, h1, h2⟩ := h; exact ⟨a, c, h1, ownsRow_below h2 hb⟩, trivial⟩ ⟨rfl, rfl, rfl, rfl, rfl, rfl, rfl, rfl, rfl, rfl, trivial⟩ ⟨?_, ?_, ?_, ?_, ?_, ?_, ?_, ?_, ?_, ?_, trivial⟩ ?_
          · intro _ a wx hb hk
            have h11 : a.eval (.tmp 11) = .pointer (some ⟨B + 1, 0, none⟩) := Eq.mp (by kernel_rfl) (hk 11 (by decide))
            exact Rg.does_move ⟨Below.refl _ _, h11⟩
          · intro _ a wx hb hk
            have h2 : a.eval (.tmp 2) = .slice a2 ps.length c2 := Eq.mp (by kernel_rfl) (hk 2 (by decide))
            exact Rg.does_move ⟨Below.refl _ _, h2⟩
          · intro _ a wx hb hk
            have h13 : a.eval (.tmp 13) = .int .i64 (k : Int) := Eq.mp (by kernel_rfl) (hk 13 (by decide))
            exact Rg.does_move ⟨Below.refl _ _, h13⟩
          · intro _ a wx hb hk
            have h60 : a.eval (.tmp 60) = .slice a2 ps.length c2 := Eq.mp (by kernel_rfl) (hk 60 (by decide))
            have h61 : a.eval (.tmp 61) = .int .i64 (k : Int) := Eq.mp (by kernel_rfl) (hk 61 (by decide))
            exact Rg.does_index _ _ _ h60 h61 (HIx.out .i64 wx) ⟨Below.refl _ _, rfl⟩
          · intro _ a wx hb hk
            have h62 : a.eval (.tmp 62) = .pointer (some ⟨b2, o2 + k, none⟩) := Eq.mp (by kernel_rfl) (hk 62 (by decide))
            exact Rg.does_load _ _ h62 (load_int1 (HC.out wx (HWk.out.trans (hb.mono HWk.out.size)))) ⟨Below.refl _ _, rfl⟩
          · intro _ a wx hb hk
            have h2 : a.eval (.tmp 2) = .slice a2 ps.length c2 := Eq.mp (by kernel_rfl) (hk 2 (by decide))
            exact Rg.does_move ⟨Below.refl _ _, h2⟩
          · intro _ a wx hb hk
            have h13 : a.eval (.tmp 13) = .int .i64 (k : Int) := Eq.mp (by kernel_rfl) (hk 13 (by decide))
            exact Rg.does_move ⟨Below.refl _ _, h13⟩
          · intro _ a wx hb hk
            have h64 : a.eval (.tmp 64) = .slice a2 ps.length c2 := Eq.mp (by kernel_rfl) (hk 64 (by decide))
            have h65 : a.eval (.tmp 65) = .int .i64 (k : Int) := Eq.mp (by kernel_rfl) (hk 65 (by decide))
            exact Rg.does_index _ _ _ h64 h65 (HIx.out .i64 wx) ⟨Below.refl _ _, rfl⟩
          · intro _ a wx hb hk
            have h66 : a.eval (.tmp 66) = .pointer (some ⟨b2, o2 + k, none⟩) := Eq.mp (by kernel_rfl) (hk 66 (by decide))
            exact Rg.does_load _ _ h66 (load_int1 (HC.out wx (HWk.out.trans (hb.mono HWk.out.size)))) ⟨Below.refl _ _, rfl⟩
          · intro _ a wx hb hk
            have h67 : a.eval (.tmp 67) = .int .i64 x := Eq.mp (by kernel_rfl) (hk 67 (by decide))
            refine Rg.does_func #[.int .i64 x] Try.func9 (by kernel_rfl) (by kernel_rfl) (by simp [h67]) (at_calls wx x) ?_
            rintro e w' ⟨a, c, rfl, ho, hb'⟩
            exact ⟨_, rfl, hb', a, c, rfl, own_base ho hb.size⟩
          intro vals wD hbD hL
          obtain ⟨g0, g1, g2, g3, g4, g5, g6, g7, g8, g9, _⟩ := hL
          have e4 : vals 4 = .int .i64 x := g4
          have e0 : vals 0 = .pointer (some ⟨B + 1, 0, none⟩) := g0
          have g9' : ∃ a c, vals 9 = .agg (atV (.slice a 1 c) x false).toArray ∧ wD.ownsRow wr.heap.size 9 1 (.slice a 1 c) 1 [.string ⟨#[120]⟩] := g9
          obtain ⟨aa, cc, e9, ho9⟩ := g9'
          have HDD := Lib.hid (HD.out.below hbD)
          have HLD : Hid (Below B w0 wD) := HL.out.trans (hbD.mono (by have := HZ.out; omega))
          have HZD : Hid (B + 2 ≤ wD.heap.size) := Nat.le_trans HZ.out hbD.size
          have HK := Lib.hid (keep_at wD B (B + 1) B v ev mo pl k x _ aa cc HDD.out.sto HX64.out HX6.out (by omega) ho9 (by have := HZD.out; omega))
          simp only [Rg.putAll, List.take_succ_cons, List.take_zero, List.drop_succ_cons, List.drop_zero, List.setIfInBounds_toArray, List.set_cons_succ, List.set_cons_zero, e0, e4, e9]
          clear g0 g1 g2 g3 g4 g5 g6 g7 g8 g9 e0 e4 e9 ho9 hbD
          go_wp2_with fail
          refine HK.out.mono ?_
          rintro r w5 ⟨rfl, v5, hs5, ht5, ha5⟩
          obtain ⟨hc5, hr5, hn5⟩ := HDD.out.kept hs5 ht5 ha5
          have HS5 := Lib.hid hs5
          have HC5 := Lib.hid hc5
          have HR5 := Lib.hid hr5
          have HN5 := Lib.hid hn5
          have HL5 := Lib.hid (keep_low HDD.out.sto HLD.out (by have := HZD.out; omega) ht5).1
          have HZ5 : Hid (B + 2 ≤ w5.heap.size) := Nat.le_trans HZD.out ht5.size
          have HW5 : Hid (Below W.heap.size W w5) := HWr.out.trans (HL5.out.mono (by have := HWr.out.size; have := HBe.out; omega))
          clear hs5 ht5 ha5 hc5 hr5 hn5 HK
          go_upto_region 17 with fail
          have HSu : Hid (Up pl ∧ pl.length ≤ 1000 ∧ (pl.length : Int) ≤ mo ∧ ∀ z ∈ pl, 0 ≤ z ∧ z ≤ 1000000) := ⟨HDD.out.sto.up, by have := HDD.out.sto.ln; omega, HDD.out.sto.le, HDD.out.sto.lo⟩
          have HT2 : Hid (B + 2 ≤ T) := HDD.out.T2
          clear HD HDD HLD HZD HL HZ
          refine Rg.wp_region_rgt 6 [] [Rg.Is (.agg #[.int .i64 ev, .int .i64 mo, u]), Rg.Is (.slice a2 ps.length c2), Rg.Is (.int .i64 (k : Int)), Rg.Is (.pointer (some ⟨b2, o2 + k, none⟩)), Rg.Is (.int .i64 x), (fun y x' => ∃ u', y = .agg #[.int .i64 ev, .int .i64 mo, u'] ∧ OwnI x' (T + 1) u' (keepB ev mo pl x) ∧ (u' = u ∨ ∀ b, u'.ownBlock = some b → w5.heap.size ≤ b))] (by kernel_rfl) (by kernel_rfl) (of_decide_eq_true (by kernel_rfl)) (by kernel_rfl) (by kernel_rfl) ⟨Rg.st_is _, Rg.st_is _, Rg.st_is _, Rg.st_is _, Rg.st_is _, fun v w w' h hb => by obtain ⟨u', h1, h2, h3⟩ := h; exact ⟨u', h1, ownsRow_below h2 hb, h3⟩, trivial⟩ ⟨rfl, rfl, rfl, rfl, rfl, rfl, trivial⟩ ⟨?_, ?_, ?_, ?_, ?_, ?_, trivial⟩ ?_
          · intro _ a wx hb hk
            have h12 : a.eval (.tmp 12) = .pointer (some ⟨T, 0, none⟩) := Eq.mp (by kernel_rfl) (hk 12 (by decide))
            exact Rg.does_load _ _ h12 (load_rf (us := [.int .i64 ev, .int .i64 mo, u]) (cut_below HC5.out hb) rfl) ⟨Below.refl _ _, rfl⟩
          · intro _ a wx hb hk
            have h2 : a.eval (.tmp 2) = .slice a2 ps.length c2 := Eq.mp (by kernel_rfl) (hk 2 (by decide))
            exact Rg.does_move ⟨Below.refl _ _, h2⟩
          · intro _ a wx hb hk
            have h13 : a.eval (.tmp 13) = .int .i64 (k : Int) := Eq.mp (by kernel_rfl) (hk 13 (by decide))
            exact Rg.does_move ⟨Below.refl _ _, h13⟩
          · intro _ a wx hb hk
            have h71 : a.eval (.tmp 71) = .slice a2 ps.length c2 := Eq.mp (by kernel_rfl) (hk 71 (by decide))
            have h72 : a.eval (.tmp 72) = .int .i64 (k : Int) := Eq.mp (by kernel_rfl) (hk 72 (by decide))
            exact Rg.does_index _ _ _ h71 h72 (HIx.out .i64 wx) ⟨Below.refl _ _, rfl⟩
          · intro _ a wx hb hk
            have h73 : a.eval (.tmp 73) = .pointer (some ⟨b2, o2 + k, none⟩) := Eq.mp (by kernel_rfl) (hk 73 (by decide))
            exact Rg.does_load _ _ h73 (load_int1 (HC.out wx (HW5.out.trans (hb.mono HW5.out.size)))) ⟨Below.refl _ _, rfl⟩
          · intro _ a wx hb hk
            have h70 : a.eval (.tmp 70) = .agg #[.int .i64 ev, .int .i64 mo, u] := Eq.mp (by kernel_rfl) (hk 70 (by decide))
            have h74 : a.eval (.tmp 74) = .int .i64 x := Eq.mp (by kernel_rfl) (hk 74 (by decide))
            refine Rg.does_func #[.agg #[.int .i64 ev, .int .i64 mo, u], .int .i64 x] Try.func13 (by kernel_rfl) (by kernel_rfl) (by simp [h70, h74]) (ref_keep_calls wx (T + 1) u ev mo pl x (ownsRow_below HR5.out hb) (by have := (cut_below HC5.out hb).lt; omega) HSu.out.1 HSu.out.2.1 hev1 hmo1 HSu.out.2.2.1 HSu.out.2.2.2 HX64.out HX6.out) ?_
            rintro e w' ⟨u', rfl, ho, hor, hb'⟩
            exact ⟨_, rfl, hb', u', rfl, ho, hor.imp id (fun h b hb9 => Nat.le_trans hb.size (h b hb9))⟩
          intro vals wE hbD hL
          obtain ⟨g0, g1, g2, g3, g4, g5, _⟩ := hL
          have g5' : ∃ u', vals 5 = .agg #[.int .i64 ev, .int .i64 mo, u'] ∧ OwnI wE (T + 1) u' (keepB ev mo pl x) ∧ (u' = u ∨ ∀ b, u'.ownBlock = some b → w5.heap.size ≤ b) := g5
          obtain ⟨u', e5, ho5, hor⟩ := g5'
          obtain ⟨ua, uc, hue, hui⟩ := own_ints ho5
          obtain ⟨q, hq⟩ : ∃ q, keepB ev mo pl x = q := ⟨_, rfl⟩
          rw [hq] at HS5 HKt ho5 hue hui
          subst hue
          have hcE := cut_below HC5.out hbD
          have HcE := Lib.hid hcE
          simp only [Rg.putAll, List.take_succ_cons, List.take_zero, List.drop_succ_cons, List.drop_zero, List.setIfInBounds_toArray, List.set_cons_succ, List.set_cons_zero, e5]
          have HSE := Lib.hid (HS5.out.below hbD)
          have HLE : Hid (Below B w0 wE) := HL5.out.trans (hbD.mono (by have := HZ5.out; omega))
          have HZE : Hid (B + 2 ≤ wE.heap.size) := Nat.le_trans HZ5.out hbD.size
          have HOE := Lib.hid ho5
          have HNE : Hid (∀ g, (Value.slice ua q.length uc).ownBlock = some g → v5.ownBlock ≠ some g) := fun g hg hv => by
            rcases hor with h | h
            · exact HN5.out g (by rw [← h]; exact hg) hv
            · have h9 : w5.ownsRow B 3 1 v5 q.length (q.map zv) := HS5.out.row
              have := (h9.lt g hv).2
              have := h g hg
              omega
          clear g0 g1 g2 g3 g4 g5 e5 ho5 hor hui hq hbD hcE
          go_wp2_with (refine wpList_store_mid rfl rfT (.tmp 12) (.tmp 75) rfl T 0 ([.int .i64 ev, .int .i64 mo, .slice ua q.length uc] : List Value).toArray rfl rfl (there_cut HcE.out _ (Nat.le_refl _)) info_rf (all_oneCell_toArray (by intro v hv; simp at hv; rcases hv with rfl | rfl | rfl <;> rfl)) ?_; (obtain ⟨wL, hwL⟩ : ∃ x, wE.setCells T 0 ([.int .i64 ev, .int .i64 mo, .slice ua q.length uc] : List Value).toArray.toList = x := ⟨_, rfl⟩); have HWL := Lib.hid hwL; (refine (congrArg (wpList _ _ _ _ _) hwL).mpr ?_); clear hwL)
          have hgL := Sl.setCells_grown T [.int .i64 ev, .int .i64 mo, .slice ua q.length uc] 0 wE
          have hcL : Cut T [.int .i64 ev, .int .i64 mo, .slice ua q.length uc] rfT (wE.setCells T 0 [.int .i64 ev, .int .i64 mo, .slice ua q.length uc]) := set_cut HcE.out rfl
          have HWL2 : Hid (wE.setCells T 0 [.int .i64 ev, .int .i64 mo, .slice ua q.length uc] = wL) := HWL.out
          rw [HWL2.out] at hgL hcL
          have HDL : Hid (Duo wL B T v5 (.slice ua q.length uc) ev mo q (k + 1)) :=
            ⟨HSE.out.other HcE.out (by decide) (by decide) (by decide) hgL, hcL, own_other HOE.out hgL (fun j hj => by obtain rfl := Option.some.inj hj; intro e; have := (HOE.out.lt _ e).1; omega), HT2.out, HNE.out⟩
          have HLL : Hid (Below B w0 wL) := HLE.out.grown hgL (by have := HZE.out; omega) (fun j hj => by have := Option.some.inj hj; have := HT2.out; omega)
          have HZL : Hid (B + 2 ≤ wL.heap.size) := by have := hgL.size; have := HZE.out; show _ ≤ _; omega
          clear hgL hcL HSE HOE HNE HLE HZE HcE HS5 HC5 HR5 HN5 HL5 HZ5 HW5
          go_wp2_with fail
          refine (places_calls wL B (B + 1) B v5 ev mo q fA (k + 1) HDL.out.sto (by omega)).mono ?_
          rintro r w6 ⟨vl, rfl, hl6, hb6⟩
          obtain ⟨al, cl, rfl, hli⟩ := own_ints hl6
          obtain ⟨C6, hC6⟩ : ∃ C6, wL.heap.size = C6 := ⟨_, rfl⟩
          have HO6 : Hid (OwnI w6 C6 (.slice al q.length cl) q) := by show World.ownsRow _ _ _ _ _ _ _; rw [← hC6]; exact hl6
          have HB6 : Hid (Below C6 wL w6) := by show Below _ _ _; rw [← hC6]; exact hb6
          have HZ6 : Hid (C6 ≤ w6.heap.size) := by have := hb6.size; show _ ≤ _; omega
          have HC6 := Lib.hid hC6
          have hc9 := (HDL.out.below hb6).box
          obtain ⟨⟨y0, y1, y2⟩, _⟩ := cell3 hc9
          have hqb : q.length ≤ 1000 := by have := HDL.out.sto.ln; omega
          have u3 : ((q.length : Int) != (q.length : Int)) = false := by simp
          clear hl6 hb6 hli hC6 hc9 y0 y1
          go_wp2_with fail
          clear y2 u3
          go_loopw [15] (fun v15 wr2 => ∃ j : Nat, j ≤ q.length ∧ v15 = .int .i64 (j : Int) ∧ wr2.ownsRow C6 3 1 (.slice al q.length cl) q.length ((mix q j).map zv) ∧ Below C6 wL wr2) (fun v15 _ => q.length - (intOf v15).toNat)
          case atStart => exact ⟨0, Nat.zero_le _, rfl, HO6.out, HB6.out⟩
          case round =>
            obtain ⟨j, hj, rfl, hown, hbr⟩ := hrel
            have HBr := Lib.hid hbr
            have HOj := Lib.hid hown
            have hDj := HDL.out.below (HC6.out ▸ hbr)
            obtain ⟨⟨y0, y1, y2⟩, _⟩ := cell3 hDj.box
            by_cases hjl : j < q.length
            · obtain ⟨g, cap, cur, hale, hgb, hg, hcn, hcm, hcl, hcx⟩ := Sl.own_row hown (by omega)
              injection hale with e1 e2 e3
              subst e1
              subst e3
              have hcell : wr.cell? ⟨g, j, none⟩ = some (.int .i64 q[j]) := by
                rw [hown.cellAt j (by omega), List.getElem?_map, mix_at hjl]
                rfl
              have hfro := hown.frozenAt j
              have hu3 : Ints .i64 wr ua q.length uc q := by
                obtain ⟨a9, c9, h9, h10⟩ := own_ints hDj.row
                injection h9 with q1 q2 q3
                rw [q1, q3]
                exact h10
              obtain ⟨b3, o3, hc3, hi3⟩ := at_ints hu3
              have e3 := hc3 j hjl
              have x3 := fun kd w' => hi3 kd j w' hjl
              have x4 := fun kd w' => idx_ints (g := g) (n := q.length) (c := cl) j hjl kd w'
              have v1 : (q[j] != q[j]) = false := by simp
              have hst := (hown.stored j (.int .i64 (-7))).1
              have hset : ((mix q j).map zv).set j (.int .i64 (-7)) = (mix q (j + 1)).map zv := by rw [← mix_set hjl, List.map_set]
              rw [hset] at hst
              have hbw : ∀ n, Below C6 wL ((wr.drewN n).setCell ⟨g, j, none⟩ (.int .i64 (-7))) := fun n => (show Below C6 wL (wr.drewN n) from hbr.trans ⟨rfl, rfl, rfl, Nat.le_refl _, fun _ _ => rfl⟩).setCell (p := ⟨g, j, none⟩) hgb _
              have HSt := Lib.hid hst
              have HBw := Lib.hid hbw
              have u3 : decide (j < q.length) = true := decide_eq_true (by omega)
              have u1 : decide ((j : Int) < (q.length : Int)) = true := decide_eq_true (by omega)
              have u2 : (j : Int) < (q.length : Int) := by omega
              generalize q[j] = z at *
              clear hown hbr hDj hu3 hgb hg hcn hcm hcl hcx hc3 hi3 hst hset hbw e2
              go_upto_region 24 with fail
              go_quiet (fail)
              go_wp2_with fail
              go_roundw
              case rel => exact ⟨j + 1, by omega, by go_num, HSt.out, HBw.out _⟩
              case measure => simp [intOf]; omega
            · obtain rfl : j = q.length := by omega
              have u3 : decide (q.length < q.length) = false := decide_eq_false (by omega)
              have u1 : decide ((q.length : Int) < (q.length : Int)) = false := decide_eq_false (by omega)
              have u2 : ¬ ((q.length : Int) < (q.length : Int)) := by omega
              clear hown
              go_wp2_with fail
              go_roundw
              case rel => exact ⟨k + 1, v5, .slice ua q.length uc, by omega, by go_num, by rw [HKt.out]; exact hDj, HLL.out.trans (hbr.mono (by have := HZL.out; have := HC6.out; omega)), Nat.le_trans HZL.out hbr.size⟩
              case measure => simp [intOf]; omega
        · obtain rfl : k = ps.length := by omega
          rw [List.take_length] at HD
          have t3 : decide (ps.length < ps.length) = false := decide_eq_false (by omega)
          have t1 : decide ((ps.length : Int) < (ps.length : Int)) = false := decide_eq_false (by omega)
          have t2 : ¬ ((ps.length : Int) < (ps.length : Int)) := by omega
          obtain ⟨pl, hpl⟩ : ∃ pl, kB ev mo ps = pl := ⟨_, rfl⟩
          rw [hpl] at HD
          clear hpl
          obtain ⟨wz, hwz⟩ : ∃ wz, wz = wr := ⟨_, rfl⟩
          rw [← hwz] at HD HL HZ HWk
          have HWz := Lib.hid hwz
          clear hwz
          go_wp2_with fail
          go_loopw [16] (fun v16 wr => ∃ j : Nat, j ≤ qs.length ∧ v16 = .int .i64 (j : Int) ∧ Below wz.heap.size wz wr) (fun v16 _ => qs.length - (intOf v16).toNat)
          case atStart => exact ⟨0, Nat.zero_le _, rfl, by rw [HWz.out]; exact Below.refl _ _⟩
          case round =>
            obtain ⟨j, hj, rfl, hbr⟩ := hrel
            have HBr := Lib.hid hbr
            have HDj := Lib.hid (HD.out.below hbr)
            have HWj : Hid (Below W.heap.size W wr) := HWk.out.trans (hbr.mono HWk.out.size)
            clear hbr
            by_cases hjl : j < qs.length
            · obtain ⟨b3, o3, hc, hi⟩ := at_ints HA3.out
              have HC : Hid (∀ w', Below W.heap.size W w' → w'.cell? ⟨b3, o3 + j, none⟩ = some (.int .i64 qs[j])) := fun w' hb => cell_below hb (Nat.le_refl _) (hc j hjl)
              have HIx := Lib.hid fun kd w' => hi kd j w' hjl
              have x0 := fun kd w' => hi kd j w' hjl
              have e0 := HC.out wr HWj.out
              have hz64 := HQ6.out qs[j] (List.getElem_mem _)
              have s3 : decide (j < qs.length) = true := decide_eq_true (by omega)
              have s1 : decide ((j : Int) < (qs.length : Int)) = true := decide_eq_true (by omega)
              have s2 : (j : Int) < (qs.length : Int) := by omega
              generalize qs[j] = z at *
              have HZ64 := Lib.hid hz64
              clear hc hi hz64
              go_wp2_with fail
              refine (near_calls wr B (B + 1) B v ev mo pl fA ps.length z HDj.out.sto HZ64.out (by omega)).mono ?_
              rintro r w6 ⟨⟨us, rfl, hul, hus, hus0⟩, hb⟩
              obtain ⟨N, hN⟩ : ∃ N, (if uptoN pl z = 0 then 0 else nearB pl z) = N := ⟨_, rfl⟩
              obtain ⟨is, his⟩ : ∃ is, decide (uptoN pl z ≠ 0) = is := ⟨_, rfl⟩
              rw [hN, his]
              have HOne : Hid (∀ v ∈ us, v.oneCell' = true) := by
                by_cases h0 : uptoN pl z = 0
                · rw [hus0 h0]; exact state_1.one (zero_state w6)
                · exact state_1.one (hus h0)
              have HUs := Lib.hid hus
              have HUl := Lib.hid hul
              have HN := Lib.hid hN
              have HIs := Lib.hid his
              have HB6 := Lib.hid hb
              clear hus hus0 hul hN his hb e0 x0
              obtain ⟨t6, w7, hw7, ht6, hc6, hb6⟩ := new_box w6
              have HW7 : Hid (w6.alloc (.cells #[.slice none 0 0, .slice none 0 0, .int .i64 0, .string ⟨#[]⟩, .slice none 0 0, .slice none 0 0, .slice none 0 0, .slice none 0 0, .slice none 0 0, .int .i64 0, .int .i64 0, .int .i64 0, .string ⟨#[]⟩, .slice none 0 0, .int .i64 0, .int .i64 0, .int .i64 0, .int .i64 0, .string ⟨#[]⟩, .slice none 0 0, .int .i64 0, .slice none 0 0, .int .i64 0, .int .i64 0, .int .i64 0, .bool false, .bool false, .bool false, .int .i64 0] stT) = w7) := hw7
              have HT6 := Lib.hid ht6
              have HC6 := Lib.hid hc6
              have HB67 : Hid (Below w6.heap.size w6 (w7.setCells t6 0 us)) := hb6.grown (Sl.setCells_grown t6 us 0 w7) hb6.size (fun j hj => by have := Option.some.inj hj; omega)
              clear hw7 ht6 hc6 hb6
              go_upto_region 31 with (refine wpList_store_mid rfl stT (.tmp 18) (.tmp 117) rfl w6.heap.size 0 us.toArray rfl rfl (by rw [HW7.out, HT6.out]; exact there_cut HC6.out _ (by rw [List.size_toArray, HUl.out]; exact Nat.le_refl _)) (by rw [List.size_toArray, HUl.out]; exact info_st) (all_oneCell_toArray HOne.out) ?_)
              rw [HW7.out, HT6.out]
              have hCt : Cut t6 us stT (w7.setCells t6 0 us) := set_cut HC6.out (by rw [HUl.out]; rfl)
              change Code.wp _ _ _ _ (w7.setCells t6 0 us)
              generalize w7.setCells t6 0 us = w8 at *
              have HCt := Lib.hid hCt
              have HB8 : Hid (Below wr.heap.size wr w8) := HB6.out.trans (HB67.out.mono HB6.out.size)
              have HD8 := Lib.hid (HDj.out.below HB8.out)
              have HW8 : Hid (Below W.heap.size W w8) := HWj.out.trans (HB8.out.mono HWj.out.size)
              have HS8 : Hid (uptoN pl z ≠ 0 → stateH w8 us (fA (nearB pl z))) := fun h => stateH_below (HUs.out h) HB67.out
              obtain ⟨ua, uc, rfl, hui⟩ := own_ints HD8.out.row
              have HUi := Lib.hid hui
              have hplb : pl.length ≤ 1000 := by have := HD8.out.sto.ln; omega
              clear hCt hui
              refine Rg.wp_region_rgl [] [Rg.Is (.agg #[.int .i64 ev, .int .i64 mo, .slice ua pl.length uc]), Rg.Is (.slice a3 qs.length c3), Rg.Is (.int .i64 (j : Int)), Rg.Is (.pointer (some ⟨b3, o3 + j, none⟩)), Rg.Is (.int .i64 z), Rg.Is (.int .i64 (nearB pl z)), Rg.Is (.int .i64 (nearB pl z))] (by kernel_rfl) (by kernel_rfl) (by kernel_rfl) ⟨Rg.st_is _, Rg.st_is _, Rg.st_is _, Rg.st_is _, Rg.st_is _, Rg.st_is _, Rg.st_is _, trivial⟩ ⟨rfl, rfl, rfl, rfl, rfl, rfl, rfl, trivial⟩ ⟨?_, ?_, ?_, ?_, ?_, ?_, ?_, trivial⟩ ?_
              · intro _ a wx hb hk
                have h12 : a.eval (.tmp 12) = .pointer (some ⟨T, 0, none⟩) := Eq.mp (by kernel_rfl) (hk 12 (by decide))
                exact Rg.does_load _ _ h12 (load_rf (us := [.int .i64 ev, .int .i64 mo, .slice ua pl.length uc]) (cut_below HD8.out.box hb) rfl) ⟨Below.refl _ _, rfl⟩
              · intro _ a wx hb hk
                have h3 : a.eval (.tmp 3) = .slice a3 qs.length c3 := Eq.mp (by kernel_rfl) (hk 3 (by decide))
                exact Rg.does_move ⟨Below.refl _ _, h3⟩
              · intro _ a wx hb hk
                have h16 : a.eval (.tmp 16) = .int .i64 (j : Int) := Eq.mp (by kernel_rfl) (hk 16 (by decide))
                exact Rg.does_move ⟨Below.refl _ _, h16⟩
              · intro _ a wx hb hk
                have h120 : a.eval (.tmp 120) = .slice a3 qs.length c3 := Eq.mp (by kernel_rfl) (hk 120 (by decide))
                have h121 : a.eval (.tmp 121) = .int .i64 (j : Int) := Eq.mp (by kernel_rfl) (hk 121 (by decide))
                exact Rg.does_index _ _ _ h120 h121 (HIx.out .i64 wx) ⟨Below.refl _ _, rfl⟩
              · intro _ a wx hb hk
                have h122 : a.eval (.tmp 122) = .pointer (some ⟨b3, o3 + j, none⟩) := Eq.mp (by kernel_rfl) (hk 122 (by decide))
                exact Rg.does_load _ _ h122 (load_int1 (HC.out wx (HW8.out.trans (hb.mono HW8.out.size)))) ⟨Below.refl _ _, rfl⟩
              · intro _ a wx hb hk
                have h119 : a.eval (.tmp 119) = .agg #[.int .i64 ev, .int .i64 mo, .slice ua pl.length uc] := Eq.mp (by kernel_rfl) (hk 119 (by decide))
                have h123 : a.eval (.tmp 123) = .int .i64 z := Eq.mp (by kernel_rfl) (hk 123 (by decide))
                refine Rg.does_func #[.agg #[.int .i64 ev, .int .i64 mo, .slice ua pl.length uc], .int .i64 z] Try.func14 (by kernel_rfl) (by kernel_rfl) (by simp [h119, h123]) (ref_near_calls wx _ _ ua uc pl z (HUi.out.below (stable_intAt _) hb) HD8.out.sto.up (by omega) rfl rfl) ?_
                rintro e w' ⟨rfl, hb'⟩
                exact ⟨_, rfl, hb', rfl⟩
              · intro _ a wx hb hk
                have h124 : a.eval (.tmp 124) = .int .i64 (nearB pl z) := Eq.mp (by kernel_rfl) (hk 124 (by decide))
                exact Rg.does_assign ⟨Below.refl _ _, h124⟩
              intro vals w9 hbD hL
              obtain ⟨g0, g1, g2, g3, g4, g5, g6, _⟩ := hL
              have e6 : vals 6 = .int .i64 (nearB pl z) := g6
              have HBD := Lib.hid hbD
              clear g0 g1 g2 g3 g4 g5 g6 hbD
              simp only [Rg.putAll, List.setIfInBounds_toArray, List.set_cons_succ, List.set_cons_zero, e6]
              have HCt9 : Hid (Cut t6 us stT w9) := cut_below HCt.out HBD.out
              have HB9 : Hid (Below wz.heap.size wz w9) := HBr.out.trans ((HB8.out.trans (HBD.out.mono HB8.out.size)).mono HBr.out.size)
              have HS9 : Hid (uptoN pl z ≠ 0 → stateH w9 us (fA (nearB pl z))) := fun h => stateH_below (HS8.out h) HBD.out
              clear e6
              by_cases h0 : uptoN pl z = 0
              · have hNb : nearB pl z = -1 := by unfold nearB; rw [if_pos h0]
                have hN0 : N = 0 := by rw [← HN.out, if_pos h0]
                have hi0 : is = false := by rw [← HIs.out]; exact decide_eq_false (fun h => h h0)
                rw [hNb]
                subst hN0
                subst hi0
                go_upto_region 32 with fail
                go_quiet (fail)
                go_wp2_with fail
                go_roundw
                case rel => exact ⟨j + 1, by omega, by go_num, HB9.out.trans ⟨rfl, rfl, rfl, Nat.le_refl _, fun _ _ => rfl⟩⟩
                case measure => simp [intOf]; omega
              · have hN0 : N = nearB pl z := by rw [← HN.out, if_neg h0]
                have hi0 : is = true := by rw [← HIs.out]; exact decide_eq_true h0
                have hH9 := HS9.out h0
                have hnm := (near_at HD8.out.sto.up (p := z) h0).2.1
                have hn0 := (HD8.out.sto.lo _ hnm).1
                have hn1 := (HD8.out.sto.lo _ hnm).2
                subst hN0
                subst hi0
                have HGo : Hid (stateH w9 us (atD (nearB pl z) false)) := hH9
                have HI64 : Hid (I64 (nearB pl z)) := ⟨by omega, by omega⟩
                clear hH9 hnm
                generalize nearB pl z = n at *
                have HPn := Lib.hid (atD_P HI64.out false)
                have HLn : Hid ((stateC.enc (atD n false)).length ≤ 100000000) := Nat.le_trans (atD_len HI64.out false) (by decide)
                go_upto_region 32 with fail
                refine Rg.wp_region_rgl [true, true, true, true, true, true, true, true, true, true, true, true, true, true, true, true, true, true, true, true, true, true, true, false, false, true, true] [Rg.Is (.bool true), Rg.Is (.int .i64 n), Rg.Is (.bool true), Rg.Is (.bool false), Rg.Is (.bool false), Rg.Is (.bool true), Rg.Is (.bool true), Rg.Is (.int .i64 n), Rg.Is (.int .i64 n), Rg.Is (.bool false), Rg.Is (.bool false), Rg.Is (.agg us.toArray), Rg.Is (.int .i64 n), (fun y x' => ∃ a c, y = .agg (atV (.slice a 1 c) n false).toArray ∧ x'.ownsRow w9.heap.size 9 1 (.slice a 1 c) 1 [.string ⟨#[120]⟩]), Rg.Is (.bool true), Rg.Is (.bool false), Rg.Is (.bool false), Rg.Is (.bool false), Rg.Is (.bool false), Rg.Is (.bool false), Rg.Is (.bool true), Rg.Is (.bool false), Rg.Is (.bool false), (fun _ _ => True), (fun _ _ => True), Rg.Is (.bool false), Rg.Is (.bool false)] (by kernel_rfl) (by kernel_rfl) (by kernel_rfl) ⟨Rg.st_is _, Rg.st_is _, Rg.st_is _, Rg.st_is _, Rg.st_is _, Rg.st_is _, Rg.st_is _, Rg.st_is _, Rg.st_is _, Rg.st_is _, Rg.st_is _, Rg.st_is _, Rg.st_is _, fun v w w' h hb => by obtain ⟨a, c, h1, h2⟩ := h; exact ⟨a, c, h1, ownsRow_below h2 hb⟩, Rg.st_is _, Rg.st_is _, Rg.st_is _, Rg.st_is _, Rg.st_is _, Rg.st_is _, Rg.st_is _, Rg.st_is _, Rg.st_is _, fun _ _ _ h _ => h, fun _ _ _ h _ => h, Rg.st_is _, Rg.st_is _, trivial⟩ ⟨rfl, rfl, rfl, rfl, rfl, ⟨rfl, fun _ _ h => h⟩, ⟨rfl, fun _ _ h => h⟩, ⟨rfl, fun _ _ h => h⟩, ⟨rfl, fun _ _ h => h⟩, ⟨rfl, fun _ _ h => h⟩, ⟨rfl, fun _ _ h => h⟩, ⟨rfl, fun _ _ h => h⟩, ⟨rfl, fun _ _ h => h⟩, ⟨rfl, fun _ _ h => h⟩, ⟨rfl, fun _ _ h => h⟩, ⟨rfl, fun _ _ h => h⟩, ⟨rfl, fun _ _ h => h⟩, ⟨rfl, fun _ _ h => h⟩, rfl, rfl, ⟨rfl, fun _ _ h => h⟩, ⟨rfl, fun _ _ h => h⟩, ⟨rfl, fun _ _ h => h⟩, Or.inr fun _ _ h => h, Or.inr fun _ _ h => h, ⟨rfl, fun _ _ h => h⟩, rfl, trivial⟩ ⟨?_, ?_, ?_, ?_, ?_, ?_, ?_, ?_, ?_, ?_, ?_, ?_, ?_, ?_, ?_, ?_, ?_, ?_, ?_, ?_, ?_, ?_, ?_, ?_, ?_, ?_, ?_, trivial⟩ ?_
                · intro _ a wx hb hk
                  have h19 : a.eval (.tmp 19) = .bool true := Eq.mp (by kernel_rfl) (hk 19 (by decide))
                  exact Rg.does_move ⟨Below.refl _ _, h19⟩
                · intro _ a wx hb hk
                  have h20 : a.eval (.tmp 20) = .int .i64 n := Eq.mp (by kernel_rfl) (hk 20 (by decide))
                  exact Rg.does_move ⟨Below.refl _ _, h20⟩
                · intro _ a wx hb hk
                  have h126 : a.eval (.tmp 126) = .int .i64 n := Eq.mp (by kernel_rfl) (hk 126 (by decide))
                  exact Rg.does_bin .i64 _ _ (.bool true) h126 rfl (by have h9 : decide (0 ≤ n) = true := decide_eq_true hn0; simp [binOp, Op.intCmp, h9]) ⟨Below.refl _ _, rfl⟩
                · intro _ a wx hb hk
                  have h125 : a.eval (.tmp 125) = .bool true := Eq.mp (by kernel_rfl) (hk 125 (by decide))
                  have h127 : a.eval (.tmp 127) = .bool true := Eq.mp (by kernel_rfl) (hk 127 (by decide))
                  exact does_ne_bool true Try.underlying4 h125 h127 ⟨Below.refl _ _, rfl⟩
                · intro _ a wx hb hk
                  have h128 : a.eval (.tmp 128) = .bool false := Eq.mp (by kernel_rfl) (hk 128 (by decide))
                  exact Rg.does_move ⟨Below.refl _ _, h128⟩
                · intro _ a wx hb hk
                  have h19 : a.eval (.tmp 19) = .bool true := Eq.mp (by kernel_rfl) (hk 19 (by decide))
                  exact Rg.does_move ⟨Below.refl _ _, h19⟩
                · intro _ a wx hb hk
                  have h130 : a.eval (.tmp 130) = .bool true := Eq.mp (by kernel_rfl) (hk 130 (by decide))
                  exact Rg.does_move ⟨Below.refl _ _, h130⟩
                · intro _ a wx hb hk
                  have h17 : a.eval (.tmp 17) = .int .i64 n := Eq.mp (by kernel_rfl) (hk 17 (by decide))
                  exact Rg.does_move ⟨Below.refl _ _, h17⟩
                · intro _ a wx hb hk
                  have h20 : a.eval (.tmp 20) = .int .i64 n := Eq.mp (by kernel_rfl) (hk 20 (by decide))
                  exact Rg.does_move ⟨Below.refl _ _, h20⟩
                · intro _ a wx hb hk
                  have h132 : a.eval (.tmp 132) = .int .i64 n := Eq.mp (by kernel_rfl) (hk 132 (by decide))
                  have h133 : a.eval (.tmp 133) = .int .i64 n := Eq.mp (by kernel_rfl) (hk 133 (by decide))
                  exact does_ne_int n h132 h133 ⟨Below.refl _ _, rfl⟩
                · intro _ a wx hb hk
                  have h134 : a.eval (.tmp 134) = .bool false := Eq.mp (by kernel_rfl) (hk 134 (by decide))
                  exact Rg.does_move ⟨Below.refl _ _, h134⟩
                · intro _ a wx hb hk
                  have h18 : a.eval (.tmp 18) = .pointer (some ⟨t6, 0, none⟩) := Eq.mp (by kernel_rfl) (hk 18 (by decide))
                  exact Rg.does_load _ _ h18 (load_state (cut_below HCt9.out hb) HUl.out) ⟨Below.refl _ _, rfl⟩
                · intro _ a wx hb hk
                  have h20 : a.eval (.tmp 20) = .int .i64 n := Eq.mp (by kernel_rfl) (hk 20 (by decide))
                  exact Rg.does_move ⟨Below.refl _ _, h20⟩
                · intro _ a wx hb hk
                  have h137 : a.eval (.tmp 137) = .int .i64 n := Eq.mp (by kernel_rfl) (hk 137 (by decide))
                  refine Rg.does_func #[.int .i64 n] Try.func9 (by kernel_rfl) (by kernel_rfl) (by simp [h137]) (at_calls wx n) ?_
                  rintro e w' ⟨a, c, rfl, ho, hb'⟩
                  exact ⟨_, rfl, hb', a, c, rfl, own_base ho hb.size⟩
                · intro _ a wx hb hk
                  have h136 : a.eval (.tmp 136) = .agg us.toArray := Eq.mp (by kernel_rfl) (hk 136 (by decide))
                  have h138 : (fun y x' => ∃ a c, y = .agg (atV (.slice a 1 c) n false).toArray ∧ x'.ownsRow w9.heap.size 9 1 (.slice a 1 c) 1 [.string ⟨#[120]⟩]) (a.eval (.tmp 138)) wx := Eq.mp (by kernel_rfl) (hk 138 (by decide))
                  obtain ⟨a, c, e1, ho⟩ := h138
                  refine Rg.does_func #[.agg us.toArray, .agg (atV (.slice a 1 c) n false).toArray] Try.func15 (by kernel_rfl) (by kernel_rfl) (by simp [h136, e1]) (same_calls wx us (atV (.slice a 1 c) n false) (atD n false) (atD n false) (PkArg.of (stateH_below HGo.out hb) HUl.out) (PkArg.of (at_state (own_base ho (Nat.zero_le _))) rfl) HPn.out HPn.out HLn.out HLn.out) ?_
                  rintro e w' ⟨he, hb'⟩
                  subst he
                  exact ⟨_, rfl, hb', congrArg Value.bool (decide_eq_true rfl)⟩
                · intro _ a wx hb hk
                  have h139 : a.eval (.tmp 139) = .bool true := Eq.mp (by kernel_rfl) (hk 139 (by decide))
                  exact does_not true h139 ⟨Below.refl _ _, rfl⟩
                · intro _ a wx hb hk
                  have h135 : a.eval (.tmp 135) = .bool false := Eq.mp (by kernel_rfl) (hk 135 (by decide))
                  have h140 : a.eval (.tmp 140) = .bool false := Eq.mp (by kernel_rfl) (hk 140 (by decide))
                  exact Rg.does_pick false h135 ⟨Below.refl _ _, h140⟩
                · intro _ a wx hb hk
                  have h131 : a.eval (.tmp 131) = .bool true := Eq.mp (by kernel_rfl) (hk 131 (by decide))
                  have h141 : a.eval (.tmp 141) = .bool false := Eq.mp (by kernel_rfl) (hk 141 (by decide))
                  exact Rg.does_pick true h131 ⟨Below.refl _ _, h141⟩
                · intro _ a wx hb hk
                  have h129 : a.eval (.tmp 129) = .bool false := Eq.mp (by kernel_rfl) (hk 129 (by decide))
                  have h142 : a.eval (.tmp 142) = .bool false := Eq.mp (by kernel_rfl) (hk 142 (by decide))
                  exact Rg.does_pick false h129 ⟨Below.refl _ _, h142⟩
                · intro _ a wx hb hk
                  have h143 : a.eval (.tmp 143) = .bool false := Eq.mp (by kernel_rfl) (hk 143 (by decide))
                  exact Rg.does_move ⟨Below.refl _ _, h143⟩
                · intro _ a wx hb hk
                  have h19 : a.eval (.tmp 19) = .bool true := Eq.mp (by kernel_rfl) (hk 19 (by decide))
                  exact Rg.does_move ⟨Below.refl _ _, h19⟩
                · intro _ a wx hb hk
                  have h145 : a.eval (.tmp 145) = .bool true := Eq.mp (by kernel_rfl) (hk 145 (by decide))
                  exact does_not true h145 ⟨Below.refl _ _, rfl⟩
                · intro _ a wx hb hk
                  have h146 : a.eval (.tmp 146) = .bool false := Eq.mp (by kernel_rfl) (hk 146 (by decide))
                  exact Rg.does_move ⟨Below.refl _ _, h146⟩
                · intro h; exact absurd h (by decide)
                · intro h; exact absurd h (by decide)
                · intro _ a wx hb hk
                  have h147 : a.eval (.tmp 147) = .bool false := Eq.mp (by kernel_rfl) (hk 147 (by decide))
                  have h149 : a.eval (.tmp 149) = undef := Eq.mp (by kernel_rfl) (hk 149 (by decide))
                  exact Rg.does_pick false h147 ⟨Below.refl _ _, rfl⟩
                · intro _ a wx hb hk
                  have h144 : a.eval (.tmp 144) = .bool false := Eq.mp (by kernel_rfl) (hk 144 (by decide))
                  have h150 : a.eval (.tmp 150) = .bool false := Eq.mp (by kernel_rfl) (hk 150 (by decide))
                  exact Rg.does_pick false h144 ⟨Below.refl _ _, h150⟩
                intro vals w10 hbD hL
                obtain ⟨g0, g1, g2, g3, g4, g5, g6, g7, g8, g9, g10, g11, g12, g13, g14, g15, g16, g17, g18, g19, g20, g21, g22, g23, g24, g25, g26, _⟩ := hL
                have e26 : vals 26 = .bool false := g26
                have HBF := Lib.hid hbD
                simp only [Rg.putAll, List.setIfInBounds_toArray, List.set_cons_succ, List.set_cons_zero, e26]
                clear g0 g1 g2 g3 g4 g5 g6 g7 g8 g9 g10 g11 g12 g13 g14 g15 g16 g17 g18 g19 g20 g21 g22 g23 g24 g25 g26 e26 hbD
                go_wp2_with fail
                go_roundw
                case rel => exact ⟨j + 1, by omega, by go_num, HB9.out.trans (HBF.out.mono HB9.out.size)⟩
                case measure => simp [intOf]; omega
            · obtain rfl : j = qs.length := by omega
              have s3 : decide (qs.length < qs.length) = false := decide_eq_false (by omega)
              have s1 : decide ((qs.length : Int) < (qs.length : Int)) = false := decide_eq_false (by omega)
              have s2 : ¬ ((qs.length : Int) < (qs.length : Int)) := by omega
              go_wp2_with fail
              refine (at_calls wr 0).mono ?_
              rintro r w6 ⟨ax, cx, rfl, _, hb6⟩
              have HB6 := Lib.hid (HWj.out.trans (hb6.mono HWj.out.size))
              clear hb6
              go_wp2_with fail
              refine (keep_nil w6 0 _ rfl).mono ?_
              rintro r w7 ⟨rfl, hb7⟩
              have HB7 := Lib.hid (HB6.out.trans (hb7.mono HB6.out.size))
              clear hb7
              go_wp2_with fail
              refine (near_nil w7 9).mono ?_
              rintro r w8 ⟨⟨us, rfl, hul, hone⟩, hb8⟩
              have HUl := Lib.hid hul
              have HOne := Lib.hid hone
              clear hul hone
              have HB8 := Lib.hid (HB7.out.trans (hb8.mono HB7.out.size))
              clear hb8
              obtain ⟨t6, w9, hw9, ht6, hc6, hb6⟩ := new_box w8
              have HW9 : Hid (w8.alloc (.cells #[.slice none 0 0, .slice none 0 0, .int .i64 0, .string ⟨#[]⟩, .slice none 0 0, .slice none 0 0, .slice none 0 0, .slice none 0 0, .slice none 0 0, .int .i64 0, .int .i64 0, .int .i64 0, .string ⟨#[]⟩, .slice none 0 0, .int .i64 0, .int .i64 0, .int .i64 0, .int .i64 0, .string ⟨#[]⟩, .slice none 0 0, .int .i64 0, .slice none 0 0, .int .i64 0, .int .i64 0, .int .i64 0, .bool false, .bool false, .bool false, .int .i64 0] stT) = w9) := hw9
              have HT6 := Lib.hid ht6
              have HC6 := Lib.hid hc6
              have HB67 : Hid (Below w8.heap.size w8 (w9.setCells t6 0 us)) := hb6.grown (Sl.setCells_grown t6 us 0 w9) hb6.size (fun j hj => by have := Option.some.inj hj; omega)
              clear hw9 ht6 hc6 hb6
              go_upto_region 37 with (refine wpList_store_mid rfl stT (.tmp 23) (.tmp 159) rfl w8.heap.size 0 us.toArray rfl rfl (by rw [HW9.out, HT6.out]; exact there_cut HC6.out _ (by rw [List.size_toArray, HUl.out]; exact Nat.le_refl _)) (by rw [List.size_toArray, HUl.out]; exact info_st) (all_oneCell_toArray HOne.out) ?_)
              rw [HW9.out, HT6.out]
              change Code.wp _ _ _ _ (w9.setCells t6 0 us)
              generalize w9.setCells t6 0 us = w10 at *
              have HB10 := Lib.hid (HB8.out.trans (HB67.out.mono HB8.out.size))
              go_wp2_with fail
              refine (places_nil w10).mono ?_
              rintro r w11 ⟨rfl, hb11⟩
              have HB11 := Lib.hid (HB10.out.trans (hb11.mono HB10.out.size))
              clear hb11
              go_wp2_with fail
              go_ret
              exact ⟨rfl, HB11.out⟩
end Go.Proofs.Ytmhofdoifgfjfaa
