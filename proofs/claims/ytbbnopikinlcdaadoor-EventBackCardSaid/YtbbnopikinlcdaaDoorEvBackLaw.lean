/-
  The walk of the statement EventBack: what may be is read as it was; its bytes cut anywhere, or with more behind, are nothing's: true; nothing that was there turns. Conditions: the arguments can be read; the names stand where they were laid.
-/
import Derived.Test.YtbbnopikinlcdaaDoorEvAwake
set_option linter.unusedVariables false
namespace Go.Proofs.YtbbnopikinlcdaaDoor
open Go.RowKit Base

theorem few_texts {l : List (List UInt8)} (h : fewB l = true) : l.length ≤ 30 ∧ (texts l).length ≤ 1000000 := by
  unfold fewB at h
  rw [Bool.and_eq_true] at h
  have h30 : l.length ≤ 30 := by simpa using h.2
  have hall := List.all_eq_true.1 h.1
  refine ⟨h30, ?_⟩
  have key : ∀ m : List (List UInt8), (∀ s ∈ m, s.length ≤ 200) → (texts m).length ≤ 210 * m.length := by
    intro m
    induction m with
    | nil => intro _; simp [texts]
    | cons s m ih =>
      intro hs
      have h1 := ih (fun x hx => hs x (List.mem_cons_of_mem _ hx))
      have h2 := hs s List.mem_cons_self
      have h3 := textB_len s (by unfold Lt64; omega)
      have h5 : (texts (s :: m)).length = (textB s).length + (texts m).length := by show ((s :: m).map textB).flatten.length = _; rw [List.map_cons, List.flatten_cons, List.length_append]; rfl
      rw [h5, List.length_cons]
      omega
  have := key l (fun s hs => by have := hall s hs; simpa using this)
  omega
theorem heap2 (w : World) (o0 o1 : Obj) : ((w.alloc o0).alloc o1).heap[w.heap.size]? = some o0 ∧ ((w.alloc o0).alloc o1).heap[w.heap.size + 1]? = some o1 := by
  have h : ((w.alloc o0).alloc o1).heap = (w.heap.push o0).push o1 := rfl
  rw [h]
  refine ⟨?_, ?_⟩
  · rw [Array.getElem?_push, Array.getElem?_push]; simp
  · rw [Array.getElem?_push]; simp
theorem conv_u16 (w : World) (k : Nat) (h : k < 65536) : (convert 48 3 (.int .u16 (k : Int))).run Tryd.prog w = .ok (.int .i64 (k : Int)) w := by
  have hk : Tryd.prog.intKind 3 = .i64 := by simp [Program.intKind, Tryd.underlying3]
  have := run_convert_int (P := Tryd.prog) w 48 3 .u16 (k : Int) (by rw [Tryd.underlying48]; rfl) (by rw [hk]; exact Tryd.underlying3)
  rw [hk, IntWalk.i64_in _ (by omega)] at this
  exact this
theorem text_sz (s : List UInt8) (h : s.length ≤ 500) : 1 ≤ (textB s).length ∧ (textB s).length ≤ 510 := by
  have h1 := textB_len s (by unfold Lt64; omega)
  have h2 := num_pos s.length
  refine ⟨?_, by omega⟩
  unfold textB; rw [List.length_append]; omega
theorem row_sz (l : List (List UInt8)) (h : l.length ≤ 30 ∧ (texts l).length ≤ 1000000) : 1 ≤ (rowB l).length ∧ (rowB l).length ≤ 1000010 := by
  have h1 := rowB_len l (by omega)
  have h2 := num_pos l.length
  refine ⟨?_, by omega⟩
  unfold rowB; rw [List.length_append]; omega
theorem ask_sz (q : Req) (hf : q.Fine) (hr : rightB q = true) (ht : q.text.length ≤ 500) (hl : q.list.length ≤ 30 ∧ (texts q.list).length ≤ 1000000) : 5 ≤ (askB q).length ∧ (askB q).length ≤ 2000000 := by
  have h1 := text_sz _ ht
  have h2 := row_sz _ hl
  have h3 := num_pos q.kind.toNat
  have h4 := num_pos (VarPlain.zig q.n)
  have h5 := num_pos (VarPlain.zig q.m)
  have h6 := num_len (VarPlain.zig q.n) (zig_lt hf.n)
  have h7 := num_len (VarPlain.zig q.m) (zig_lt hf.m)
  have h8 := num_len q.kind.toNat (by have := (rightB_iff q).1 hr; unfold Lt64; omega)
  unfold askB
  simp only [List.length_append]
  omega
theorem tell_sz (q : Ans) (hf : q.Fine) (hr : fitsB q.kind q = true) (ht : q.text.length ≤ 500) (hl : q.list.length ≤ 30 ∧ (texts q.list).length ≤ 1000000) : 7 ≤ (tellB q).length ∧ (tellB q).length ≤ 2000000 := by
  obtain ⟨_, i1, i2, i3, i4, i5, i6, i7⟩ := (fitsB_iff _ q).1 hr
  have h1 := text_sz _ ht
  have h2 := row_sz _ hl
  have h3 := num_pos q.kind.toNat
  have h4 := num_pos (VarPlain.zig q.n)
  have h5 := num_pos (VarPlain.zig q.m)
  have h9 := num_pos q.err.toNat
  have h10 := num_pos q.sig.toNat
  have h6 := num_len (VarPlain.zig q.n) (zig_lt hf.n)
  have h7 := num_len (VarPlain.zig q.m) (zig_lt hf.m)
  have h8 := num_len q.kind.toNat (by unfold Lt64; omega)
  have h11 := num_len q.err.toNat (by unfold Lt64; omega)
  have h12 := num_len q.sig.toNat (by unfold Lt64; omega)
  unfold tellB
  simp only [List.length_append]
  omega
/-- The bytes of a request, and what is read of them. -/
theorem ask_bag (q : Req) (hf : q.Fine) (hr : rightB q = true) (ht : q.text.length ≤ 500) (hl : q.list.length ≤ 30 ∧ (texts q.list).length ≤ 1000000) :
    ∃ b, askBOut q = b ∧ (5 ≤ b.length ∧ b.length ≤ 2000000) ∧ (askedE b = 0 ∧ askedQ b = q) ∧ (∀ k, k < b.length → askedE (b.take k) = 10) ∧ ∀ m, askedE (b ++ [m]) = 14 :=
  ⟨askB q, by unfold askBOut; rw [if_pos hr], ask_sz q hf hr ht hl, asked_back q hf hr, fun k hk => asked_cut q hf hr k hk, fun m => asked_more q hf hr m⟩
theorem tell_bag (q : Ans) (hf : q.Fine) (hr : fitsB q.kind q = true) (ht : q.text.length ≤ 500) (hl : q.list.length ≤ 30 ∧ (texts q.list).length ≤ 1000000) :
    ∃ b, tellBOut q = b ∧ (7 ≤ b.length ∧ b.length ≤ 2000000) ∧ (toldE b = 0 ∧ toldA b = q) ∧ (∀ k, k < b.length → toldE (b.take k) = 10) ∧ ∀ m, toldE (b ++ [m]) = 14 :=
  ⟨tellB q, by unfold tellBOut; rw [if_pos hr], tell_sz q hf hr ht hl, told_back q hf hr, fun k hk => told_cut q hf hr k hk, fun m => told_more q hf hr m⟩
theorem own_some {w : World} {base : Nat} {v : Value} {n : Nat} {l : List UInt8} {e : TypeId} (h : w.ownsRow base e 1 v n (l.map bv)) (hn : 0 < n) : ∃ g cap, v = .slice (some ⟨g, 0, none⟩) n cap ∧ base ≤ g ∧ g < w.heap.size := by
  rcases h.2 with ⟨_, h0⟩ | ⟨g, cap, cur, hv, hb, hg, _⟩
  · omega
  · exact ⟨g, cap, hv, hb, (Array.getElem?_eq_some_iff.1 hg).1⟩
theorem own_bytes {w : World} {base : Nat} {a : Option Addr} {n cap : Nat} {l : List UInt8} {e : TypeId} (h : w.ownsRow base e 1 (.slice a n cap) n (l.map bv)) : Bytes w a n cap l := by
  obtain ⟨a', c', he, hr⟩ := ownsRow_bytes h
  simp at he
  obtain ⟨rfl, rfl⟩ := he
  exact hr
theorem strs_off {w w' : World} {q : Nat} {a : Option Addr} {n cap : Nat} {l : List (List UInt8)} (h : Strs w a n cap l) (ho : Rs.Off q a) (hg : w.grownBy w' (some q)) : Strs w' a n cap l := by
  obtain ⟨h1, h2, h3, b, off, h4, h5⟩ := h
  refine ⟨h1, h2, h3, b, off, h4, fun k hk => ?_⟩
  rcases h4 with h4 | h4
  · omega
  · have h6 := h5 k hk
    unfold strAt at h6 ⊢
    have hne : b ≠ q := ho _ h4
    rw [World.cell?_of_block (hg.block b (World.block_lt_of_cell? w _ h6) (by intro e; simp at e; exact hne e))]
    exact h6
theorem src_two {P : Program} (w : World) (o : Obj) (v : Value) (e : TypeId) (hv : v.oneCell' = true) : Src P ((w.alloc o).alloc (.cells #[v] e)) 1 (.slice (some ⟨w.heap.size + 1, 0, none⟩) 1 1) 1 [v] := by
  have h := src_new (P := P) (w.alloc o) [v] e 1 1 rfl (by intro u hu; simp at hu; subst hu; exact hv) 1
  have e : (w.alloc o).heap.size = w.heap.size + 1 := by simp
  rw [e] at h
  exact h
theorem heap_off {w w' : World} {q : Nat} (hg : w.grownBy w' (some q)) {k : Nat} {o : Obj} (h : w.heap[k]? = some o) (hk : k ≠ q) : w'.heap[k]? = some o := by
  rw [hg.block k (Array.getElem?_eq_some_iff.1 h).1 (by intro e; simp at e; exact hk e)]; exact h

set_option maxHeartbeats 8000000 in
set_option maxRecDepth 100000 in
theorem ev_back_law (w : World) (q : Req) (r : Ans) (cu : Nat) (more : UInt8) (a0 a2 : Option Addr) (c0 c2 : Nat) (hs0 : Strs w a0 q.list.length c0 q.list) (hs2 : Strs w a2 r.list.length c2 r.list) (hf0 : q.Fine) (hf2 : r.Fine) (hcu : cu < 65536) (hn : NamesAt w) :
    Calls Tryd.prog 5 #[reqV q a0 c0, ansV r a2 c2, .int .u16 (cu : Int), bv more] w fun e w' => e = .returned (.bool true) ∧ Below w.heap.size w w' := by
  obtain ⟨i0, hi, hz0, hz1, hz2⟩ := info_parts info_u8
  have hbA := ((Below.refl w.heap.size w).alloc (Nat.le_refl _) (.cells #[.int .i64 q.kind, .int .i64 q.n, .int .i64 q.m, .string (str q.text), .slice a0 q.list.length c0] 24)).alloc (by simp) (.cells #[.int .i64 r.kind, .int .i64 r.err, .int .i64 r.n, .int .i64 r.m, .string (str r.text), .slice a2 r.list.length c2, .int .i64 r.sig] 26)
  have HX0 : Hid (((w.alloc (.cells #[.int .i64 q.kind, .int .i64 q.n, .int .i64 q.m, .string (str q.text), .slice a0 q.list.length c0] 24)).alloc (.cells #[.int .i64 r.kind, .int .i64 r.err, .int .i64 r.n, .int .i64 r.m, .string (str r.text), .slice a2 r.list.length c2, .int .i64 r.sig] 26)).heap[w.heap.size]? = some (.cells #[.int .i64 q.kind, .int .i64 q.n, .int .i64 q.m, .string (str q.text), .slice a0 q.list.length c0] 24)) := (heap2 w _ _).1
  have HX2 : Hid (((w.alloc (.cells #[.int .i64 q.kind, .int .i64 q.n, .int .i64 q.m, .string (str q.text), .slice a0 q.list.length c0] 24)).alloc (.cells #[.int .i64 r.kind, .int .i64 r.err, .int .i64 r.n, .int .i64 r.m, .string (str r.text), .slice a2 r.list.length c2, .int .i64 r.sig] 26)).heap[w.heap.size + 1]? = some (.cells #[.int .i64 r.kind, .int .i64 r.err, .int .i64 r.n, .int .i64 r.m, .string (str r.text), .slice a2 r.list.length c2, .int .i64 r.sig] 26)) := (heap2 w _ _).2
  have Haw := Lib.hid (ev_awake_calls _ (hn.below hbA))
  clear hn
  have HbA := Lib.hid hbA; clear hbA
  have HS0 := Lib.hid hs0; clear hs0
  have HS2 := Lib.hid hs2; clear hs2
  have HF0 := Lib.hid hf0; clear hf0
  have HF2 := Lib.hid hf2; clear hf2
  have HCU := Lib.hid hcu; clear hcu
  have HFEW : Hid (∀ l, fewB l = true → l.length ≤ 30 ∧ (texts l).length ≤ 1000000) := fun l h => few_texts h
  have Hbv : Hid (bv more = .int .u8 (more.toNat : Int)) := rfl
  rw [Hbv.out]
  unfold reqV ansV
  go_enter Tryd.func5, Tryd.ntmps5
  go_wp2_with fail
  refine Haw.out.mono ?_
  rintro e w1 ⟨rfl, hb1⟩
  have HB1 : Hid (Below w.heap.size w w1) := HbA.out.trans (hb1.mono (by simp; omega))
  have HY0 := Lib.hid (heap_below hb1 HX0.out)
  have HY2 := Lib.hid (heap_below hb1 HX2.out)
  have hsz1 : w.heap.size + 1 < w1.heap.size := by have := hb1.size; simp at this; omega
  have HT0 : Hid (Strs w1 a0 q.list.length c0 q.list) := HS0.out.below stable_strAt HB1.out
  have HT2 : Hid (Strs w1 a2 r.list.length c2 r.list) := HS2.out.below stable_strAt HB1.out
  clear hb1 HX0 HX2 HbA Haw HS0 HS2
  have K00 : Hid (w1.cell? ⟨w.heap.size, 0, none⟩ = some (.int .i64 q.kind)) := by have := HY0.out; show _ = _; simp [World.cell?, this]
  have K01 : Hid (w1.cell? ⟨w.heap.size, 1, none⟩ = some (.int .i64 q.n)) := by have := HY0.out; show _ = _; simp [World.cell?, this]
  have K02 : Hid (w1.cell? ⟨w.heap.size, 2, none⟩ = some (.int .i64 q.m)) := by have := HY0.out; show _ = _; simp [World.cell?, this]
  have K03 : Hid (w1.cell? ⟨w.heap.size, 3, none⟩ = some (.string (str q.text))) := by have := HY0.out; show _ = _; simp [World.cell?, this]
  have K04 : Hid (w1.cell? ⟨w.heap.size, 4, none⟩ = some (.slice a0 q.list.length c0)) := by have := HY0.out; show _ = _; simp [World.cell?, this]
  have K20 : Hid (w1.cell? ⟨w.heap.size + 1, 0, none⟩ = some (.int .i64 r.kind)) := by have := HY2.out; show _ = _; simp [World.cell?, this]
  have K21 : Hid (w1.cell? ⟨w.heap.size + 1, 1, none⟩ = some (.int .i64 r.err)) := by have := HY2.out; show _ = _; simp [World.cell?, this]
  have K22 : Hid (w1.cell? ⟨w.heap.size + 1, 2, none⟩ = some (.int .i64 r.n)) := by have := HY2.out; show _ = _; simp [World.cell?, this]
  have K23 : Hid (w1.cell? ⟨w.heap.size + 1, 3, none⟩ = some (.int .i64 r.m)) := by have := HY2.out; show _ = _; simp [World.cell?, this]
  have K24 : Hid (w1.cell? ⟨w.heap.size + 1, 4, none⟩ = some (.string (str r.text))) := by have := HY2.out; show _ = _; simp [World.cell?, this]
  have K25 : Hid (w1.cell? ⟨w.heap.size + 1, 5, none⟩ = some (.slice a2 r.list.length c2)) := by have := HY2.out; show _ = _; simp [World.cell?, this]
  have K26 : Hid (w1.cell? ⟨w.heap.size + 1, 6, none⟩ = some (.int .i64 r.sig)) := by have := HY2.out; show _ = _; simp [World.cell?, this]
  have c00 : w1.cell? ⟨w.heap.size, 0, none⟩ = some (.int .i64 q.kind) := cell_below (Below.refl w1.heap.size w1) (Nat.le_refl _) K00.out
  have c01 : w1.cell? ⟨w.heap.size, 1, none⟩ = some (.int .i64 q.n) := cell_below (Below.refl w1.heap.size w1) (Nat.le_refl _) K01.out
  have c02 : w1.cell? ⟨w.heap.size, 2, none⟩ = some (.int .i64 q.m) := cell_below (Below.refl w1.heap.size w1) (Nat.le_refl _) K02.out
  have c03 : w1.cell? ⟨w.heap.size, 3, none⟩ = some (.string (str q.text)) := cell_below (Below.refl w1.heap.size w1) (Nat.le_refl _) K03.out
  have c04 : w1.cell? ⟨w.heap.size, 4, none⟩ = some (.slice a0 q.list.length c0) := cell_below (Below.refl w1.heap.size w1) (Nat.le_refl _) K04.out
  have c20 : w1.cell? ⟨w.heap.size + 1, 0, none⟩ = some (.int .i64 r.kind) := cell_below (Below.refl w1.heap.size w1) (Nat.le_refl _) K20.out
  have c21 : w1.cell? ⟨w.heap.size + 1, 1, none⟩ = some (.int .i64 r.err) := cell_below (Below.refl w1.heap.size w1) (Nat.le_refl _) K21.out
  have c22 : w1.cell? ⟨w.heap.size + 1, 2, none⟩ = some (.int .i64 r.n) := cell_below (Below.refl w1.heap.size w1) (Nat.le_refl _) K22.out
  have c23 : w1.cell? ⟨w.heap.size + 1, 3, none⟩ = some (.int .i64 r.m) := cell_below (Below.refl w1.heap.size w1) (Nat.le_refl _) K23.out
  have c24 : w1.cell? ⟨w.heap.size + 1, 4, none⟩ = some (.string (str r.text)) := cell_below (Below.refl w1.heap.size w1) (Nat.le_refl _) K24.out
  have c25 : w1.cell? ⟨w.heap.size + 1, 5, none⟩ = some (.slice a2 r.list.length c2) := cell_below (Below.refl w1.heap.size w1) (Nat.le_refl _) K25.out
  have c26 : w1.cell? ⟨w.heap.size + 1, 6, none⟩ = some (.int .i64 r.sig) := cell_below (Below.refl w1.heap.size w1) (Nat.le_refl _) K26.out
  have E0 := Lib.hid (ev_few_calls w1 a0 _ c0 _ HT0.out)
  have E2 := Lib.hid (ev_few_calls w1 a2 _ c2 _ HT2.out)
  go_wp2_with fail
  refine E0.out.mono ?_
  rintro e we0 ⟨rfl, rfl⟩
  go_wp2_with fail
  refine E2.out.mono ?_
  rintro e we2 ⟨rfl, rfl⟩
  clear E0 E2
  by_cases u0 : fewB q.list = true
  case neg =>
    have u0' : fewB q.list = false := by simpa using u0
    rw [u0']
    clear u0 u0'
    generalize fewB r.list = z2
    go_wp2_with fail
    go_ret
    exact ⟨rfl, HB1.out⟩
  by_cases u2 : fewB r.list = true
  case neg =>
    have u2' : fewB r.list = false := by simpa using u2
    rw [u0, u2']
    clear u0 u2 u2'
    go_wp2_with fail
    go_ret
    exact ⟨rfl, HB1.out⟩
  rw [u0, u2]
  have V0 := Lib.hid (HFEW.out _ u0)
  have V2 := Lib.hid (HFEW.out _ u2)
  clear u0 u2
  have sz0 : (str q.text).size = q.text.length := rfl
  by_cases b0 : 500 < q.text.length
  case pos =>
    have d0 : decide ((500 : Int) < ((str q.text).size : Int)) = true := by rw [sz0]; simp; omega
    have d0' : decide ((500 : Int) < (q.text.length : Int)) = true := by simp; omega
    go_wp2_with fail
    go_ret
    exact ⟨rfl, HB1.out⟩
  have d0 : decide ((500 : Int) < ((str q.text).size : Int)) = false := by rw [sz0]; simp; omega
  have d0' : decide ((500 : Int) < (q.text.length : Int)) = false := by simp; omega
  have sz2 : (str r.text).size = r.text.length := rfl
  by_cases b2 : 500 < r.text.length
  case pos =>
    have d2 : decide ((500 : Int) < ((str r.text).size : Int)) = true := by rw [sz2]; simp; omega
    have d2' : decide ((500 : Int) < (r.text.length : Int)) = true := by simp; omega
    go_wp2_with fail
    go_ret
    exact ⟨rfl, HB1.out⟩
  have d2 : decide ((500 : Int) < ((str r.text).size : Int)) = false := by rw [sz2]; simp; omega
  have d2' : decide ((500 : Int) < (r.text.length : Int)) = false := by simp; omega
  have L0 : Hid (q.text.length ≤ 500) := by show _ ≤ _; omega
  have L2 : Hid (r.text.length ≤ 500) := by show _ ≤ _; omega
  have HRt := Lib.hid (ev_right_calls w1 q a0 c0)
  go_wp2_with fail
  refine HRt.out.mono ?_
  rintro e w2 ⟨rfl, hb2⟩
  have HB2 := Lib.hid hb2; clear hb2 HRt
  clear d0 d0' d2 d2' b0 b2 sz0 sz2
  clear c00 c01 c02 c03 c04 c20 c21 c22 c23 c24 c25 c26
  by_cases hr : rightB q = true
  case neg =>
    have hr' : rightB q = false := by simpa using hr
    rw [hr']
    clear hr hr'
    go_wp2_with fail
    go_ret
    exact ⟨rfl, HB1.out.trans (HB2.out.mono HB1.out.size)⟩
  rw [hr]
  have c00 : w2.cell? ⟨w.heap.size, 0, none⟩ = some (.int .i64 q.kind) := cell_below HB2.out (Nat.le_refl _) K00.out
  have c01 : w2.cell? ⟨w.heap.size, 1, none⟩ = some (.int .i64 q.n) := cell_below HB2.out (Nat.le_refl _) K01.out
  have c02 : w2.cell? ⟨w.heap.size, 2, none⟩ = some (.int .i64 q.m) := cell_below HB2.out (Nat.le_refl _) K02.out
  have c03 : w2.cell? ⟨w.heap.size, 3, none⟩ = some (.string (str q.text)) := cell_below HB2.out (Nat.le_refl _) K03.out
  have c04 : w2.cell? ⟨w.heap.size, 4, none⟩ = some (.slice a0 q.list.length c0) := cell_below HB2.out (Nat.le_refl _) K04.out
  have c20 : w2.cell? ⟨w.heap.size + 1, 0, none⟩ = some (.int .i64 r.kind) := cell_below HB2.out (Nat.le_refl _) K20.out
  have c21 : w2.cell? ⟨w.heap.size + 1, 1, none⟩ = some (.int .i64 r.err) := cell_below HB2.out (Nat.le_refl _) K21.out
  have c22 : w2.cell? ⟨w.heap.size + 1, 2, none⟩ = some (.int .i64 r.n) := cell_below HB2.out (Nat.le_refl _) K22.out
  have c23 : w2.cell? ⟨w.heap.size + 1, 3, none⟩ = some (.int .i64 r.m) := cell_below HB2.out (Nat.le_refl _) K23.out
  have c24 : w2.cell? ⟨w.heap.size + 1, 4, none⟩ = some (.string (str r.text)) := cell_below HB2.out (Nat.le_refl _) K24.out
  have c25 : w2.cell? ⟨w.heap.size + 1, 5, none⟩ = some (.slice a2 r.list.length c2) := cell_below HB2.out (Nat.le_refl _) K25.out
  have c26 : w2.cell? ⟨w.heap.size + 1, 6, none⟩ = some (.int .i64 r.sig) := cell_below HB2.out (Nat.le_refl _) K26.out
  have HFt := Lib.hid (ev_fits_calls w2 r.kind r a2 c2)
  go_wp2_with fail
  refine HFt.out.mono ?_
  rintro e w3 ⟨rfl, hb3⟩
  clear c00 c01 c02 c03 c04 c20 c21 c22 c23 c24 c25 c26
  have HB3 : Hid (Below w1.heap.size w1 w3) := HB2.out.trans (hb3.mono HB2.out.size)
  clear hb3 HB2 HFt
  by_cases ht : fitsB r.kind r = true
  case neg =>
    have ht' : fitsB r.kind r = false := by simpa using ht
    rw [ht']
    clear ht ht'
    go_wp2_with fail
    go_ret
    exact ⟨rfl, HB1.out.trans (HB3.out.mono HB1.out.size)⟩
  rw [ht]
  obtain ⟨b, hb1, hb2, hb3, hb4, hb5⟩ := ask_bag q HF0.out hr L0.out V0.out
  obtain ⟨d, hd1, hd2, hd3, hd4, hd5⟩ := tell_bag r HF2.out ht L2.out V2.out
  have HAsk := Lib.hid (ev_ask_calls w3 q a0 c0 (HT0.out.below stable_strAt HB3.out) HF0.out.n HF0.out.m (by have := L0.out; omega) (by have := V0.out; omega))
  rw [hb1] at HAsk
  have HTell : Hid (∀ w4, Below w1.heap.size w1 w4 → Calls Tryd.prog 20 #[ansV r a2 c2] w4 fun e w' => ∃ v, e = .returned v ∧ w'.ownsRow w4.heap.size 5 1 v d.length (d.map bv) ∧ Below w4.heap.size w4 w') := by
    intro w4 h4
    have := ev_tell_calls w4 r a2 c2 (HT2.out.below stable_strAt h4) HF2.out.n HF2.out.m (by have := L2.out; omega) (by have := V2.out; omega)
    rw [hd1] at this
    exact this
  have HE := Lib.hid hb3; have HC := Lib.hid hb4; have HM := Lib.hid hb5
  have HG := Lib.hid hd3; have HD := Lib.hid hd4; have HN := Lib.hid hd5
  clear hb1 hb3 hb4 hb5 hd1 hd3 hd4 hd5 hr ht
  obtain ⟨hbl, hbu⟩ := hb2
  obtain ⟨hdl, hdu⟩ := hd2
  unfold reqV at HAsk
  unfold ansV at HTell
  have c00 : w3.cell? ⟨w.heap.size, 0, none⟩ = some (.int .i64 q.kind) := cell_below HB3.out (Nat.le_refl _) K00.out
  have c01 : w3.cell? ⟨w.heap.size, 1, none⟩ = some (.int .i64 q.n) := cell_below HB3.out (Nat.le_refl _) K01.out
  have c02 : w3.cell? ⟨w.heap.size, 2, none⟩ = some (.int .i64 q.m) := cell_below HB3.out (Nat.le_refl _) K02.out
  have c03 : w3.cell? ⟨w.heap.size, 3, none⟩ = some (.string (str q.text)) := cell_below HB3.out (Nat.le_refl _) K03.out
  have c04 : w3.cell? ⟨w.heap.size, 4, none⟩ = some (.slice a0 q.list.length c0) := cell_below HB3.out (Nat.le_refl _) K04.out
  have c20 : w3.cell? ⟨w.heap.size + 1, 0, none⟩ = some (.int .i64 r.kind) := cell_below HB3.out (Nat.le_refl _) K20.out
  have c21 : w3.cell? ⟨w.heap.size + 1, 1, none⟩ = some (.int .i64 r.err) := cell_below HB3.out (Nat.le_refl _) K21.out
  have c22 : w3.cell? ⟨w.heap.size + 1, 2, none⟩ = some (.int .i64 r.n) := cell_below HB3.out (Nat.le_refl _) K22.out
  have c23 : w3.cell? ⟨w.heap.size + 1, 3, none⟩ = some (.int .i64 r.m) := cell_below HB3.out (Nat.le_refl _) K23.out
  have c24 : w3.cell? ⟨w.heap.size + 1, 4, none⟩ = some (.string (str r.text)) := cell_below HB3.out (Nat.le_refl _) K24.out
  have c25 : w3.cell? ⟨w.heap.size + 1, 5, none⟩ = some (.slice a2 r.list.length c2) := cell_below HB3.out (Nat.le_refl _) K25.out
  have c26 : w3.cell? ⟨w.heap.size + 1, 6, none⟩ = some (.int .i64 r.sig) := cell_below HB3.out (Nat.le_refl _) K26.out
  go_wp2_with fail
  refine HAsk.out.mono ?_
  rintro e w4 ⟨v, rfl, ho, hb4⟩
  clear c00 c01 c02 c03 c04 c20 c21 c22 c23 c24 c25 c26
  obtain ⟨g, cb, rfl, hg3, hg4⟩ := own_some ho (by omega)
  have HB4 : Hid (Below w1.heap.size w1 w4) := HB3.out.trans (hb4.mono HB3.out.size)
  have hg1 : w1.heap.size ≤ g := Nat.le_trans HB3.out.size hg3
  have HO4 := Lib.hid ho
  clear ho hb4 HB3 HAsk
  have HTl := Lib.hid (HTell.out w4 HB4.out)
  have c00 : w4.cell? ⟨w.heap.size, 0, none⟩ = some (.int .i64 q.kind) := cell_below HB4.out (Nat.le_refl _) K00.out
  have c01 : w4.cell? ⟨w.heap.size, 1, none⟩ = some (.int .i64 q.n) := cell_below HB4.out (Nat.le_refl _) K01.out
  have c02 : w4.cell? ⟨w.heap.size, 2, none⟩ = some (.int .i64 q.m) := cell_below HB4.out (Nat.le_refl _) K02.out
  have c03 : w4.cell? ⟨w.heap.size, 3, none⟩ = some (.string (str q.text)) := cell_below HB4.out (Nat.le_refl _) K03.out
  have c04 : w4.cell? ⟨w.heap.size, 4, none⟩ = some (.slice a0 q.list.length c0) := cell_below HB4.out (Nat.le_refl _) K04.out
  have c20 : w4.cell? ⟨w.heap.size + 1, 0, none⟩ = some (.int .i64 r.kind) := cell_below HB4.out (Nat.le_refl _) K20.out
  have c21 : w4.cell? ⟨w.heap.size + 1, 1, none⟩ = some (.int .i64 r.err) := cell_below HB4.out (Nat.le_refl _) K21.out
  have c22 : w4.cell? ⟨w.heap.size + 1, 2, none⟩ = some (.int .i64 r.n) := cell_below HB4.out (Nat.le_refl _) K22.out
  have c23 : w4.cell? ⟨w.heap.size + 1, 3, none⟩ = some (.int .i64 r.m) := cell_below HB4.out (Nat.le_refl _) K23.out
  have c24 : w4.cell? ⟨w.heap.size + 1, 4, none⟩ = some (.string (str r.text)) := cell_below HB4.out (Nat.le_refl _) K24.out
  have c25 : w4.cell? ⟨w.heap.size + 1, 5, none⟩ = some (.slice a2 r.list.length c2) := cell_below HB4.out (Nat.le_refl _) K25.out
  have c26 : w4.cell? ⟨w.heap.size + 1, 6, none⟩ = some (.int .i64 r.sig) := cell_below HB4.out (Nat.le_refl _) K26.out
  go_wp2_with fail
  refine HTl.out.mono ?_
  rintro e w5 ⟨v, rfl, ho, hb5⟩
  clear c00 c01 c02 c03 c04 c20 c21 c22 c23 c24 c25 c26
  obtain ⟨h, cd, rfl, hh4, hh5⟩ := own_some ho (by omega)
  have HB5 : Hid (Below w1.heap.size w1 w5) := HB4.out.trans (hb5.mono HB4.out.size)
  have hgh : g < h := by omega
  have HO5 := Lib.hid (ownsRow_below HO4.out hb5)
  have HP5 := Lib.hid ho
  clear ho hb5 HB4 hg4 HO4 HTl HTell
  have s5 : decide ((b.length : Int) < 5) = false := by simp; omega
  have s5' : ¬ ((b.length : Int) < 5) := by omega
  have s7 : decide ((d.length : Int) < 7) = false := by simp; omega
  have s7' : ¬ ((d.length : Int) < 7) := by omega
  have HA1 := Lib.hid (asked_calls_at w5 _ _ _ b (own_bytes HO5.out) (by omega))
  rw [HE.out.1, HE.out.2] at HA1
  unfold reqV at HA1
  go_wp2_with fail
  refine HA1.out.mono ?_
  rintro e w6 ⟨a5, c5, rfl, hst5, hb6, hle5⟩
  clear s5 s5' s7 s7' HA1
  have hal := (Below.refl w6.heap.size w6).alloc (Nat.le_refl _) (.cells #[.int .i64 q.kind, .int .i64 q.n, .int .i64 q.m, .string (str q.text), .slice a5 q.list.length c5] 24)
  have HP7 : Hid ((w6.alloc (.cells #[.int .i64 q.kind, .int .i64 q.n, .int .i64 q.m, .string (str q.text), .slice a5 q.list.length c5] 24)).heap[w6.heap.size]? = some (.cells #[.int .i64 q.kind, .int .i64 q.n, .int .i64 q.m, .string (str q.text), .slice a5 q.list.length c5] 24)) := heap_alloc_new w6 _
  have hz6 := hb6.size
  have HB7 : Hid (Below w1.heap.size w1 (w6.alloc (.cells #[.int .i64 q.kind, .int .i64 q.n, .int .i64 q.m, .string (str q.text), .slice a5 q.list.length c5] 24))) := (HB5.out.trans (hb6.mono HB5.out.size)).alloc (by have := HB5.out.size; omega) _
  have HO7 := Lib.hid (ownsRow_below (ownsRow_below HO5.out hb6) hal)
  have HD7 := Lib.hid (ownsRow_below (ownsRow_below HP5.out hb6) hal)
  have HS7 := Lib.hid (hst5.below stable_strAt hal)
  have HU5 : Hid (Rs.Off g a5 ∧ Rs.Off h a5) := ⟨fun ad e => by have := hle5 ad e; omega, fun ad e => by have := hle5 ad e; omega⟩
  have hpg : h < w6.heap.size := by omega
  have hz7 : (w6.alloc (.cells #[.int .i64 q.kind, .int .i64 q.n, .int .i64 q.m, .string (str q.text), .slice a5 q.list.length c5] 24)).heap.size = w6.heap.size + 1 := by simp
  clear hal hst5 hb6 hle5 HO5 HP5 HB5 hh5
  have HA2 := Lib.hid (told_calls_at (w6.alloc (.cells #[.int .i64 q.kind, .int .i64 q.n, .int .i64 q.m, .string (str q.text), .slice a5 q.list.length c5] 24)) _ _ _ d (own_bytes HD7.out) (by omega))
  rw [HG.out.1, HG.out.2] at HA2
  unfold ansV at HA2
  go_wp2_with fail
  refine HA2.out.mono ?_
  generalize hpp : w6.heap.size = pp at *
  generalize hw7 : w6.alloc (.cells #[.int .i64 q.kind, .int .i64 q.n, .int .i64 q.m, .string (str q.text), .slice a5 q.list.length c5] 24) = w7 at *
  clear hw7 hpp hz6
  rintro e w8 ⟨a6, c6, rfl, hst6, hb8, hle6⟩
  clear HA2
  have hal := (Below.refl w8.heap.size w8).alloc (Nat.le_refl _) (.cells #[.int .i64 r.kind, .int .i64 r.err, .int .i64 r.n, .int .i64 r.m, .string (str r.text), .slice a6 r.list.length c6, .int .i64 r.sig] 26)
  have HD9 : Hid ((w8.alloc (.cells #[.int .i64 r.kind, .int .i64 r.err, .int .i64 r.n, .int .i64 r.m, .string (str r.text), .slice a6 r.list.length c6, .int .i64 r.sig] 26)).heap[w8.heap.size]? = some (.cells #[.int .i64 r.kind, .int .i64 r.err, .int .i64 r.n, .int .i64 r.m, .string (str r.text), .slice a6 r.list.length c6, .int .i64 r.sig] 26)) := heap_alloc_new w8 _
  have hz8 := hb8.size
  have hb9 := hb8.alloc hz8 (.cells #[.int .i64 r.kind, .int .i64 r.err, .int .i64 r.n, .int .i64 r.m, .string (str r.text), .slice a6 r.list.length c6, .int .i64 r.sig] 26)
  have HB9 : Hid (Below w1.heap.size w1 (w8.alloc (.cells #[.int .i64 r.kind, .int .i64 r.err, .int .i64 r.n, .int .i64 r.m, .string (str r.text), .slice a6 r.list.length c6, .int .i64 r.sig] 26))) := HB7.out.trans (hb9.mono HB7.out.size)
  have HP9 := Lib.hid (heap_below hb9 HP7.out)
  have HO9 := Lib.hid (ownsRow_below HO7.out hb9)
  have HQ9 := Lib.hid (ownsRow_below HD7.out hb9)
  have HS9 := Lib.hid (HS7.out.below stable_strAt hb9)
  have HT9 := Lib.hid (hst6.below stable_strAt hal)
  have HU6 : Hid (Rs.Off g a6 ∧ Rs.Off h a6) := ⟨fun ad e => by have := hle6 ad e; omega, fun ad e => by have := hle6 ad e; omega⟩
  have hpd : pp < w8.heap.size := by omega
  have hz9 : (w8.alloc (.cells #[.int .i64 r.kind, .int .i64 r.err, .int .i64 r.n, .int .i64 r.m, .string (str r.text), .slice a6 r.list.length c6, .int .i64 r.sig] 26)).heap.size = w8.heap.size + 1 := by simp
  clear hal hst6 hb8 hb9 hle6 HP7 HO7 HD7 HB7 HS7 hz7 hz8
  obtain ⟨m, hm, hmlt⟩ : ∃ m : Nat, (cu : Int) % (b.length : Int) = (m : Int) ∧ m < b.length := by
    have h1 := Int.emod_nonneg (cu : Int) (show (b.length : Int) ≠ 0 by omega)
    have h2 := Int.emod_lt_of_pos (cu : Int) (show 0 < (b.length : Int) by omega)
    exact ⟨((cu : Int) % (b.length : Int)).toNat, by omega, by omega⟩
  obtain ⟨k, hk, hklt⟩ : ∃ k : Nat, (cu : Int) % (d.length : Int) = (k : Int) ∧ k < d.length := by
    have h1 := Int.emod_nonneg (cu : Int) (show (d.length : Int) ≠ 0 by omega)
    have h2 := Int.emod_lt_of_pos (cu : Int) (show 0 < (d.length : Int) by omega)
    exact ⟨((cu : Int) % (d.length : Int)).toNat, by omega, by omega⟩
  have hb0 : ((b.length : Int) == 0) = false := by rw [beq_eq_false_iff_ne]; omega
  have hd0 : ((d.length : Int) == 0) = false := by rw [beq_eq_false_iff_ne]; omega
  have hcv : ∀ w, (convert 48 3 (.int .u16 (cu : Int))).run Tryd.prog w = .ok (.int .i64 (cu : Int)) w := fun w => conv_u16 w cu HCU.out
  obtain ⟨ax, hBx, hSx⟩ := sub_bytes (own_bytes HO9.out) 0 m (Nat.zero_le _) (Nat.le_of_lt hmlt)
  rw [List.drop_zero] at hBx
  have hsl := fun wx => (hSx wx).2.1 rfl .i64
  simp only [Nat.sub_zero] at hsl hBx
  clear hSx
  have HA3 := Lib.hid (asked_calls_at (w8.alloc (.cells #[.int .i64 r.kind, .int .i64 r.err, .int .i64 r.n, .int .i64 r.m, .string (str r.text), .slice a6 r.list.length c6, .int .i64 r.sig] 26)) _ _ _ _ hBx (by omega))
  rw [HC.out m hmlt] at HA3
  unfold reqV at HA3
  clear hBx
  go_wp2_with fail
  refine HA3.out.mono ?_
  generalize hdd : w8.heap.size = dd at *
  generalize hw9 : w8.alloc (.cells #[.int .i64 r.kind, .int .i64 r.err, .int .i64 r.n, .int .i64 r.m, .string (str r.text), .slice a6 r.list.length c6, .int .i64 r.sig] 26) = w9 at *
  clear hw9 hdd
  rintro e w10 ⟨a7, c7, rfl, hst7, hb10, hle7⟩
  clear HA3 hst7 hle7 hsl hm
  generalize askedQ (b.take m) = qx
  have hb11 := hb10.alloc hb10.size (.cells #[.int .i64 qx.kind, .int .i64 qx.n, .int .i64 qx.m, .string (str qx.text), .slice a7 qx.list.length c7] 24)
  have hz11 : (w10.alloc (.cells #[.int .i64 qx.kind, .int .i64 qx.n, .int .i64 qx.m, .string (str qx.text), .slice a7 qx.list.length c7] 24)).heap.size = w10.heap.size + 1 := by simp
  have hz10 := hb10.size
  have HB11 : Hid (Below w1.heap.size w1 (w10.alloc (.cells #[.int .i64 qx.kind, .int .i64 qx.n, .int .i64 qx.m, .string (str qx.text), .slice a7 qx.list.length c7] 24))) := HB9.out.trans (hb11.mono HB9.out.size)
  have HP11 := Lib.hid (heap_below hb11 HP9.out)
  have HR11 := Lib.hid (heap_below hb11 HD9.out)
  have HO11 := Lib.hid (ownsRow_below HO9.out hb11)
  have HQ11 := Lib.hid (ownsRow_below HQ9.out hb11)
  have HS11 := Lib.hid (HS9.out.below stable_strAt hb11)
  have HT11 := Lib.hid (HT9.out.below stable_strAt hb11)
  clear hb10 hb11 HB9 HP9 HD9 HO9 HQ9 HS9 HT9
  obtain ⟨ay, hBy, hSy⟩ := sub_bytes (own_bytes HQ11.out) 0 k (Nat.zero_le _) (Nat.le_of_lt hklt)
  rw [List.drop_zero] at hBy
  have hsl := fun wx => (hSy wx).2.1 rfl .i64
  simp only [Nat.sub_zero] at hsl hBy
  clear hSy
  have HA4 := Lib.hid (told_calls_at (w10.alloc (.cells #[.int .i64 qx.kind, .int .i64 qx.n, .int .i64 qx.m, .string (str qx.text), .slice a7 qx.list.length c7] 24)) _ _ _ _ hBy (by omega))
  rw [HD.out k hklt] at HA4
  unfold ansV at HA4
  clear hBy
  go_wp2_with fail
  refine HA4.out.mono ?_
  have hz12 : dd < (w10.alloc (.cells #[.int .i64 qx.kind, .int .i64 qx.n, .int .i64 qx.m, .string (str qx.text), .slice a7 qx.list.length c7] 24)).heap.size := by omega
  have hz13 : h < (w10.alloc (.cells #[.int .i64 qx.kind, .int .i64 qx.n, .int .i64 qx.m, .string (str qx.text), .slice a7 qx.list.length c7] 24)).heap.size := by omega
  clear hz11 hz10 hz9
  generalize w10.heap.size = xx at *
  generalize hw11 : w10.alloc (.cells #[.int .i64 qx.kind, .int .i64 qx.n, .int .i64 qx.m, .string (str qx.text), .slice a7 qx.list.length c7] 24) = w11 at *
  clear hw11
  rintro e w12 ⟨a8, c8, rfl, hst8, hb12, hle8⟩
  clear HA4 hst8 hle8 hsl hk
  generalize toldA (d.take k) = rx
  have hb13 := hb12.alloc hb12.size (.cells #[.int .i64 rx.kind, .int .i64 rx.err, .int .i64 rx.n, .int .i64 rx.m, .string (str rx.text), .slice a8 rx.list.length c8, .int .i64 rx.sig] 26)
  have HB13 : Hid (Below w1.heap.size w1 (w12.alloc (.cells #[.int .i64 rx.kind, .int .i64 rx.err, .int .i64 rx.n, .int .i64 rx.m, .string (str rx.text), .slice a8 rx.list.length c8, .int .i64 rx.sig] 26))) := HB11.out.trans (hb13.mono HB11.out.size)
  have HP13 := Lib.hid (heap_below hb13 HP11.out)
  have HR13 := Lib.hid (heap_below hb13 HR11.out)
  have HO13 := Lib.hid (ownsRow_below HO11.out hb13)
  have HQ13 := Lib.hid (ownsRow_below HQ11.out hb13)
  have HS13 := Lib.hid (HS11.out.below stable_strAt hb13)
  have HT13 := Lib.hid (HT11.out.below stable_strAt hb13)
  have hz14 : dd < (w12.alloc (.cells #[.int .i64 rx.kind, .int .i64 rx.err, .int .i64 rx.n, .int .i64 rx.m, .string (str rx.text), .slice a8 rx.list.length c8, .int .i64 rx.sig] 26)).heap.size := Nat.lt_of_lt_of_le hz12 hb13.size
  have hz15 : h < (w12.alloc (.cells #[.int .i64 rx.kind, .int .i64 rx.err, .int .i64 rx.n, .int .i64 rx.m, .string (str rx.text), .slice a8 rx.list.length c8, .int .i64 rx.sig] 26)).heap.size := Nat.lt_of_lt_of_le hz13 hb13.size
  clear hb12 hb13 HB11 HP11 HR11 HO11 HQ11 HS11 HT11 hz12 hz13 hcv hb0 hd0
  go_wp2_with (at_builtin; refine wpList_append_src rfl (.tmp 110) (.tmp 112) 33 33 rfl _ 5 i0 (.int .u8 0) 1 1 Tryd.underlying33 (append_side Tryd.underlying33) hi hz0 hz1 hz2 rfl (by decide) (by decide) _ b.length _ rfl (HO13.out.alloc _) _ 1 _ rfl (src_two _ _ (.int .u8 (more.toNat : Int)) 5 rfl) ?_ ?_ ?_ ?_)
  case _ => unfold maxLen; omega
  case _ => omega
  case _ => have e : (w12.alloc (.cells #[.int .i64 rx.kind, .int .i64 rx.err, .int .i64 rx.n, .int .i64 rx.m, .string (str rx.text), .slice a8 rx.list.length c8, .int .i64 rx.sig] 26)).heap.size = w12.heap.size + 1 := by simp
            simp; omega
  intro v14 w14 hown hg _
  have hg : (w12.alloc (.cells #[.int .i64 rx.kind, .int .i64 rx.err, .int .i64 rx.n, .int .i64 rx.m, .string (str rx.text), .slice a8 rx.list.length c8, .int .i64 rx.sig] 26)).grownBy w14 (some g) := grownBy_trans (World.grownBy_alloc _ _ _) hg
  have hrow : w14.ownsRow w3.heap.size 5 1 v14 (b.length + 1) ((b ++ [more]).map bv) := by rw [List.map_append]; exact hown
  obtain ⟨ab, cbb, rfl, hrb⟩ := ownsRow_bytes hrow
  have HB14 : Hid (Below w1.heap.size w1 w14) := HB13.out.grown hg HB13.out.size (fun j hj => by simp at hj; omega)
  have HP14 := Lib.hid (heap_off hg HP13.out (by omega))
  have HR14 := Lib.hid (heap_off hg HR13.out (by omega))
  have HQ14 := Lib.hid (HQ13.out.kept hg (.inr (by simp [Value.ownBlock]; omega)))
  have HS14 := Lib.hid (strs_off HS13.out HU5.out.1 hg)
  have HT14 := Lib.hid (strs_off HT13.out HU6.out.1 hg)
  have hz16 : dd < w14.heap.size := Nat.lt_of_lt_of_le hz14 hg.size
  have hz17 : h < w14.heap.size := Nat.lt_of_lt_of_le hz15 hg.size
  have HA5 := Lib.hid (asked_calls_at w14 _ _ _ _ hrb (by omega))
  rw [HM.out more] at HA5
  unfold reqV at HA5
  clear hrow hown hg hrb HB13 HP13 HR13 HQ13 HO13 HS13 HT13 hz14 hz15
  generalize w12.heap.size = yy
  go_wp2_with fail
  refine HA5.out.mono ?_
  rintro e w15 ⟨a9, c9, rfl, hst9, hb15, hle9⟩
  clear HA5 hst9 hle9
  generalize askedQ (b ++ [more]) = qy
  have hb16 := hb15.alloc hb15.size (.cells #[.int .i64 qy.kind, .int .i64 qy.n, .int .i64 qy.m, .string (str qy.text), .slice a9 qy.list.length c9] 24)
  have HB16 : Hid (Below w1.heap.size w1 (w15.alloc (.cells #[.int .i64 qy.kind, .int .i64 qy.n, .int .i64 qy.m, .string (str qy.text), .slice a9 qy.list.length c9] 24))) := HB14.out.trans (hb16.mono HB14.out.size)
  have HP16 := Lib.hid (heap_below hb16 HP14.out)
  have HR16 := Lib.hid (heap_below hb16 HR14.out)
  have HQ16 := Lib.hid (ownsRow_below HQ14.out hb16)
  have HS16 := Lib.hid (HS14.out.below stable_strAt hb16)
  have HT16 := Lib.hid (HT14.out.below stable_strAt hb16)
  have hz18 : dd < (w15.alloc (.cells #[.int .i64 qy.kind, .int .i64 qy.n, .int .i64 qy.m, .string (str qy.text), .slice a9 qy.list.length c9] 24)).heap.size := Nat.lt_of_lt_of_le hz16 hb16.size
  have hz19 : h < (w15.alloc (.cells #[.int .i64 qy.kind, .int .i64 qy.n, .int .i64 qy.m, .string (str qy.text), .slice a9 qy.list.length c9] 24)).heap.size := Nat.lt_of_lt_of_le hz17 hb16.size
  clear hb15 hb16 HB14 HP14 HR14 HQ14 HS14 HT14 hz16 hz17
  go_wp2_with (at_builtin; refine wpList_append_src rfl (.tmp 118) (.tmp 120) 33 33 rfl _ 5 i0 (.int .u8 0) 1 1 Tryd.underlying33 (append_side Tryd.underlying33) hi hz0 hz1 hz2 rfl (by decide) (by decide) _ d.length _ rfl (HQ16.out.alloc _) _ 1 _ rfl (src_two _ _ (.int .u8 (more.toNat : Int)) 5 rfl) ?_ ?_ ?_ ?_)
  case _ => unfold maxLen; omega
  case _ => omega
  case _ => have e : (w15.alloc (.cells #[.int .i64 qy.kind, .int .i64 qy.n, .int .i64 qy.m, .string (str qy.text), .slice a9 qy.list.length c9] 24)).heap.size = w15.heap.size + 1 := by simp
            simp; omega
  intro v17 w17 hown hg _
  have hg : (w15.alloc (.cells #[.int .i64 qy.kind, .int .i64 qy.n, .int .i64 qy.m, .string (str qy.text), .slice a9 qy.list.length c9] 24)).grownBy w17 (some h) := grownBy_trans (World.grownBy_alloc _ _ _) hg
  have hrow : w17.ownsRow w4.heap.size 5 1 v17 (d.length + 1) ((d ++ [more]).map bv) := by rw [List.map_append]; exact hown
  obtain ⟨ad, cdd, rfl, hrd⟩ := ownsRow_bytes hrow
  have HB17 : Hid (Below w1.heap.size w1 w17) := HB16.out.grown hg HB16.out.size (fun j hj => by simp at hj; omega)
  have HP17 := Lib.hid (heap_off hg HP16.out (by omega))
  have HR17 := Lib.hid (heap_off hg HR16.out (by omega))
  have HS17 := Lib.hid (strs_off HS16.out HU5.out.2 hg)
  have HT17 := Lib.hid (strs_off HT16.out HU6.out.2 hg)
  have HA6 := Lib.hid (told_calls_at w17 _ _ _ _ hrd (by omega))
  rw [HN.out more] at HA6
  unfold ansV at HA6
  clear hrow hown hg hrd HB16 HP16 HR16 HQ16 HS16 HT16 hz18
  generalize w15.heap.size = zz
  go_wp2_with fail
  refine HA6.out.mono ?_
  rintro e w18 ⟨a10, c10, rfl, hst10, hb18, hle10⟩
  clear HA6 hst10 hle10
  generalize toldA (d ++ [more]) = ry
  have hb19 := hb18.alloc hb18.size (.cells #[.int .i64 ry.kind, .int .i64 ry.err, .int .i64 ry.n, .int .i64 ry.m, .string (str ry.text), .slice a10 ry.list.length c10, .int .i64 ry.sig] 26)
  have HB19 : Hid (Below w1.heap.size w1 (w18.alloc (.cells #[.int .i64 ry.kind, .int .i64 ry.err, .int .i64 ry.n, .int .i64 ry.m, .string (str ry.text), .slice a10 ry.list.length c10, .int .i64 ry.sig] 26))) := HB17.out.trans (hb19.mono HB17.out.size)
  have HP19 := Lib.hid (heap_below hb19 HP17.out)
  have HR19 := Lib.hid (heap_below hb19 HR17.out)
  have HS19 := Lib.hid (HS17.out.below stable_strAt hb19)
  have HT19 := Lib.hid (HT17.out.below stable_strAt hb19)
  clear hb18 hb19 HB17 HP17 HR17 HS17 HT17
  have HSq := Lib.hid (ev_ref_same_calls _ q q a5 a0 c5 c0 HS19.out (HT0.out.below stable_strAt HB19.out))
  have hb20 : ∀ w20, Below (w18.alloc (.cells #[.int .i64 ry.kind, .int .i64 ry.err, .int .i64 ry.n, .int .i64 ry.m, .string (str ry.text), .slice a10 ry.list.length c10, .int .i64 ry.sig] 26)).heap.size (w18.alloc (.cells #[.int .i64 ry.kind, .int .i64 ry.err, .int .i64 ry.n, .int .i64 ry.m, .string (str ry.text), .slice a10 ry.list.length c10, .int .i64 ry.sig] 26)) w20 → Below w1.heap.size w1 w20 := fun w20 h => HB19.out.trans (h.mono HB19.out.size)
  have HSr : Hid (∀ w20, Below (w18.alloc (.cells #[.int .i64 ry.kind, .int .i64 ry.err, .int .i64 ry.n, .int .i64 ry.m, .string (str ry.text), .slice a10 ry.list.length c10, .int .i64 ry.sig] 26)).heap.size (w18.alloc (.cells #[.int .i64 ry.kind, .int .i64 ry.err, .int .i64 ry.n, .int .i64 ry.m, .string (str ry.text), .slice a10 ry.list.length c10, .int .i64 ry.sig] 26)) w20 → Calls Tryd.prog 26 #[ansV r a6 c6, ansV r a2 c2] w20 fun e w' => e = .returned (.bool true) ∧ Below w20.heap.size w20 w') := by
    intro w20 h20
    have := ev_ref_sameans_calls w20 r r a6 a2 c6 c2 (HT19.out.below stable_strAt h20) (HT2.out.below stable_strAt (hb20 w20 h20))
    rw [sameAB_self] at this
    exact this
  rw [sameB_self] at HSq
  have HB20 := Lib.hid hb20; clear hb20
  unfold reqV at HSq
  unfold ansV at HSr
  have m00 : (w18.alloc (.cells #[.int .i64 ry.kind, .int .i64 ry.err, .int .i64 ry.n, .int .i64 ry.m, .string (str ry.text), .slice a10 ry.list.length c10, .int .i64 ry.sig] 26)).cell? ⟨pp, 0, none⟩ = some (.int .i64 q.kind) := by have := HP19.out; simp only [World.cell?, this]; rfl
  have m01 : (w18.alloc (.cells #[.int .i64 ry.kind, .int .i64 ry.err, .int .i64 ry.n, .int .i64 ry.m, .string (str ry.text), .slice a10 ry.list.length c10, .int .i64 ry.sig] 26)).cell? ⟨pp, 1, none⟩ = some (.int .i64 q.n) := by have := HP19.out; simp only [World.cell?, this]; rfl
  have m02 : (w18.alloc (.cells #[.int .i64 ry.kind, .int .i64 ry.err, .int .i64 ry.n, .int .i64 ry.m, .string (str ry.text), .slice a10 ry.list.length c10, .int .i64 ry.sig] 26)).cell? ⟨pp, 2, none⟩ = some (.int .i64 q.m) := by have := HP19.out; simp only [World.cell?, this]; rfl
  have m03 : (w18.alloc (.cells #[.int .i64 ry.kind, .int .i64 ry.err, .int .i64 ry.n, .int .i64 ry.m, .string (str ry.text), .slice a10 ry.list.length c10, .int .i64 ry.sig] 26)).cell? ⟨pp, 3, none⟩ = some (.string (str q.text)) := by have := HP19.out; simp only [World.cell?, this]; rfl
  have m04 : (w18.alloc (.cells #[.int .i64 ry.kind, .int .i64 ry.err, .int .i64 ry.n, .int .i64 ry.m, .string (str ry.text), .slice a10 ry.list.length c10, .int .i64 ry.sig] 26)).cell? ⟨pp, 4, none⟩ = some (.slice a5 q.list.length c5) := by have := HP19.out; simp only [World.cell?, this]; rfl
  have m20 : (w18.alloc (.cells #[.int .i64 ry.kind, .int .i64 ry.err, .int .i64 ry.n, .int .i64 ry.m, .string (str ry.text), .slice a10 ry.list.length c10, .int .i64 ry.sig] 26)).cell? ⟨dd, 0, none⟩ = some (.int .i64 r.kind) := by have := HR19.out; simp only [World.cell?, this]; rfl
  have m21 : (w18.alloc (.cells #[.int .i64 ry.kind, .int .i64 ry.err, .int .i64 ry.n, .int .i64 ry.m, .string (str ry.text), .slice a10 ry.list.length c10, .int .i64 ry.sig] 26)).cell? ⟨dd, 1, none⟩ = some (.int .i64 r.err) := by have := HR19.out; simp only [World.cell?, this]; rfl
  have m22 : (w18.alloc (.cells #[.int .i64 ry.kind, .int .i64 ry.err, .int .i64 ry.n, .int .i64 ry.m, .string (str ry.text), .slice a10 ry.list.length c10, .int .i64 ry.sig] 26)).cell? ⟨dd, 2, none⟩ = some (.int .i64 r.n) := by have := HR19.out; simp only [World.cell?, this]; rfl
  have m23 : (w18.alloc (.cells #[.int .i64 ry.kind, .int .i64 ry.err, .int .i64 ry.n, .int .i64 ry.m, .string (str ry.text), .slice a10 ry.list.length c10, .int .i64 ry.sig] 26)).cell? ⟨dd, 3, none⟩ = some (.int .i64 r.m) := by have := HR19.out; simp only [World.cell?, this]; rfl
  have m24 : (w18.alloc (.cells #[.int .i64 ry.kind, .int .i64 ry.err, .int .i64 ry.n, .int .i64 ry.m, .string (str ry.text), .slice a10 ry.list.length c10, .int .i64 ry.sig] 26)).cell? ⟨dd, 4, none⟩ = some (.string (str r.text)) := by have := HR19.out; simp only [World.cell?, this]; rfl
  have m25 : (w18.alloc (.cells #[.int .i64 ry.kind, .int .i64 ry.err, .int .i64 ry.n, .int .i64 ry.m, .string (str ry.text), .slice a10 ry.list.length c10, .int .i64 ry.sig] 26)).cell? ⟨dd, 5, none⟩ = some (.slice a6 r.list.length c6) := by have := HR19.out; simp only [World.cell?, this]; rfl
  have m26 : (w18.alloc (.cells #[.int .i64 ry.kind, .int .i64 ry.err, .int .i64 ry.n, .int .i64 ry.m, .string (str ry.text), .slice a10 ry.list.length c10, .int .i64 ry.sig] 26)).cell? ⟨dd, 6, none⟩ = some (.int .i64 r.sig) := by have := HR19.out; simp only [World.cell?, this]; rfl
  have n00 : (w18.alloc (.cells #[.int .i64 ry.kind, .int .i64 ry.err, .int .i64 ry.n, .int .i64 ry.m, .string (str ry.text), .slice a10 ry.list.length c10, .int .i64 ry.sig] 26)).cell? ⟨w.heap.size, 0, none⟩ = some (.int .i64 q.kind) := cell_below HB19.out (Nat.le_refl _) K00.out
  have n01 : (w18.alloc (.cells #[.int .i64 ry.kind, .int .i64 ry.err, .int .i64 ry.n, .int .i64 ry.m, .string (str ry.text), .slice a10 ry.list.length c10, .int .i64 ry.sig] 26)).cell? ⟨w.heap.size, 1, none⟩ = some (.int .i64 q.n) := cell_below HB19.out (Nat.le_refl _) K01.out
  have n02 : (w18.alloc (.cells #[.int .i64 ry.kind, .int .i64 ry.err, .int .i64 ry.n, .int .i64 ry.m, .string (str ry.text), .slice a10 ry.list.length c10, .int .i64 ry.sig] 26)).cell? ⟨w.heap.size, 2, none⟩ = some (.int .i64 q.m) := cell_below HB19.out (Nat.le_refl _) K02.out
  have n03 : (w18.alloc (.cells #[.int .i64 ry.kind, .int .i64 ry.err, .int .i64 ry.n, .int .i64 ry.m, .string (str ry.text), .slice a10 ry.list.length c10, .int .i64 ry.sig] 26)).cell? ⟨w.heap.size, 3, none⟩ = some (.string (str q.text)) := cell_below HB19.out (Nat.le_refl _) K03.out
  have n04 : (w18.alloc (.cells #[.int .i64 ry.kind, .int .i64 ry.err, .int .i64 ry.n, .int .i64 ry.m, .string (str ry.text), .slice a10 ry.list.length c10, .int .i64 ry.sig] 26)).cell? ⟨w.heap.size, 4, none⟩ = some (.slice a0 q.list.length c0) := cell_below HB19.out (Nat.le_refl _) K04.out
  have n20 : (w18.alloc (.cells #[.int .i64 ry.kind, .int .i64 ry.err, .int .i64 ry.n, .int .i64 ry.m, .string (str ry.text), .slice a10 ry.list.length c10, .int .i64 ry.sig] 26)).cell? ⟨w.heap.size + 1, 0, none⟩ = some (.int .i64 r.kind) := cell_below HB19.out (Nat.le_refl _) K20.out
  have n21 : (w18.alloc (.cells #[.int .i64 ry.kind, .int .i64 ry.err, .int .i64 ry.n, .int .i64 ry.m, .string (str ry.text), .slice a10 ry.list.length c10, .int .i64 ry.sig] 26)).cell? ⟨w.heap.size + 1, 1, none⟩ = some (.int .i64 r.err) := cell_below HB19.out (Nat.le_refl _) K21.out
  have n22 : (w18.alloc (.cells #[.int .i64 ry.kind, .int .i64 ry.err, .int .i64 ry.n, .int .i64 ry.m, .string (str ry.text), .slice a10 ry.list.length c10, .int .i64 ry.sig] 26)).cell? ⟨w.heap.size + 1, 2, none⟩ = some (.int .i64 r.n) := cell_below HB19.out (Nat.le_refl _) K22.out
  have n23 : (w18.alloc (.cells #[.int .i64 ry.kind, .int .i64 ry.err, .int .i64 ry.n, .int .i64 ry.m, .string (str ry.text), .slice a10 ry.list.length c10, .int .i64 ry.sig] 26)).cell? ⟨w.heap.size + 1, 3, none⟩ = some (.int .i64 r.m) := cell_below HB19.out (Nat.le_refl _) K23.out
  have n24 : (w18.alloc (.cells #[.int .i64 ry.kind, .int .i64 ry.err, .int .i64 ry.n, .int .i64 ry.m, .string (str ry.text), .slice a10 ry.list.length c10, .int .i64 ry.sig] 26)).cell? ⟨w.heap.size + 1, 4, none⟩ = some (.string (str r.text)) := cell_below HB19.out (Nat.le_refl _) K24.out
  have n25 : (w18.alloc (.cells #[.int .i64 ry.kind, .int .i64 ry.err, .int .i64 ry.n, .int .i64 ry.m, .string (str ry.text), .slice a10 ry.list.length c10, .int .i64 ry.sig] 26)).cell? ⟨w.heap.size + 1, 5, none⟩ = some (.slice a2 r.list.length c2) := cell_below HB19.out (Nat.le_refl _) K25.out
  have n26 : (w18.alloc (.cells #[.int .i64 ry.kind, .int .i64 ry.err, .int .i64 ry.n, .int .i64 ry.m, .string (str ry.text), .slice a10 ry.list.length c10, .int .i64 ry.sig] 26)).cell? ⟨w.heap.size + 1, 6, none⟩ = some (.int .i64 r.sig) := cell_below HB19.out (Nat.le_refl _) K26.out
  go_wp2_with fail
  refine HSq.out.mono ?_
  rintro e w20 ⟨rfl, hb20⟩
  have x0 : w20.cell? ⟨dd, 0, none⟩ = some (.int .i64 r.kind) := cell_below hb20 (Nat.le_refl _) m20
  have x1 : w20.cell? ⟨dd, 1, none⟩ = some (.int .i64 r.err) := cell_below hb20 (Nat.le_refl _) m21
  have x2 : w20.cell? ⟨dd, 2, none⟩ = some (.int .i64 r.n) := cell_below hb20 (Nat.le_refl _) m22
  have x3 : w20.cell? ⟨dd, 3, none⟩ = some (.int .i64 r.m) := cell_below hb20 (Nat.le_refl _) m23
  have x4 : w20.cell? ⟨dd, 4, none⟩ = some (.string (str r.text)) := cell_below hb20 (Nat.le_refl _) m24
  have x5 : w20.cell? ⟨dd, 5, none⟩ = some (.slice a6 r.list.length c6) := cell_below hb20 (Nat.le_refl _) m25
  have x6 : w20.cell? ⟨dd, 6, none⟩ = some (.int .i64 r.sig) := cell_below hb20 (Nat.le_refl _) m26
  have y0 : w20.cell? ⟨w.heap.size + 1, 0, none⟩ = some (.int .i64 r.kind) := cell_below hb20 (Nat.le_refl _) n20
  have y1 : w20.cell? ⟨w.heap.size + 1, 1, none⟩ = some (.int .i64 r.err) := cell_below hb20 (Nat.le_refl _) n21
  have y2 : w20.cell? ⟨w.heap.size + 1, 2, none⟩ = some (.int .i64 r.n) := cell_below hb20 (Nat.le_refl _) n22
  have y3 : w20.cell? ⟨w.heap.size + 1, 3, none⟩ = some (.int .i64 r.m) := cell_below hb20 (Nat.le_refl _) n23
  have y4 : w20.cell? ⟨w.heap.size + 1, 4, none⟩ = some (.string (str r.text)) := cell_below hb20 (Nat.le_refl _) n24
  have y5 : w20.cell? ⟨w.heap.size + 1, 5, none⟩ = some (.slice a2 r.list.length c2) := cell_below hb20 (Nat.le_refl _) n25
  have y6 : w20.cell? ⟨w.heap.size + 1, 6, none⟩ = some (.int .i64 r.sig) := cell_below hb20 (Nat.le_refl _) n26
  clear m00 m01 m02 m03 m04 m20 m21 m22 m23 m24 m25 m26 n00 n01 n02 n03 n04 n20 n21 n22 n23 n24 n25 n26
  have HS2 := Lib.hid (HSr.out w20 hb20)
  have HB21 := Lib.hid (HB20.out w20 hb20)
  clear HSr HB20 hb20
  go_wp2_with fail
  refine HS2.out.mono ?_
  rintro e w21 ⟨rfl, hb21⟩
  have HB22 := Lib.hid (HB21.out.trans (hb21.mono HB21.out.size))
  go_wp2_with fail
  go_ret
  exact ⟨rfl, HB1.out.trans (HB22.out.mono HB1.out.size)⟩

end Go.Proofs.YtbbnopikinlcdaaDoor
