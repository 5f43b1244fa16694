/-
  The walk of the statement EventOwn: bytes that are read are those of what they are read as: true; nothing that was there turns. Conditions: the arguments can be read; the names stand where they were laid.
-/
import Derived.Test.YtbbnopikinlcdaaDoorEvAwake
set_option linter.unusedVariables false
namespace Go.Proofs.YtbbnopikinlcdaaDoor
open Go.RowKit Base

theorem does_not {P : Program} {a : Act} {w : World} {post : Value → World → Prop} {dst : Option Tmp} {x : Operand} {t : TypeId} {ty : TypeId} {pos : String} {after : Array Edge} {guard : Option (Nat × Bool)} (b : Bool)
    (hx : a.eval x = .bool b) (hp : post (.bool (!b)) w) : Rg.does P { dst, op := .unOp .not t x, type := ty, pos, after, guard } a w post := by
  refine Rg.does_value (v := .bool (!b)) ?_ hp
  simp [execOp, hx, Op.unary]
theorem askB_parts (q : Req) : q.text.length ≤ (askB q).length ∧ (texts q.list).length ≤ (askB q).length := by
  unfold askB textB rowB; simp only [List.length_append]; omega
theorem tellB_parts (q : Ans) : q.text.length ≤ (tellB q).length ∧ (texts q.list).length ≤ (tellB q).length := by
  unfold tellB textB rowB; simp only [List.length_append]; omega
theorem askBOut_own {b : List UInt8} (h : askedE b = 0) : askBOut (askedQ b) = b ∧ rightB (askedQ b) = true := by
  obtain ⟨_, h2, h3⟩ := asked_own b h
  exact ⟨by unfold askBOut; rw [if_pos h2, h3], h2⟩
theorem tellBOut_own {b : List UInt8} (h : toldE b = 0) : tellBOut (toldA b) = b ∧ fitsB (toldA b).kind (toldA b) = true := by
  obtain ⟨_, h2, h3⟩ := told_own b h
  exact ⟨by unfold tellBOut; rw [if_pos h2, h3], h2⟩

set_option maxHeartbeats 8000000 in
set_option maxRecDepth 100000 in
theorem ev_own_law (w : World) (a0 : Option Addr) (n cap : Nat) (b : List UInt8) (h0 : Bytes w a0 n cap b) (hn : NamesAt w) :
    Calls Tryd.prog 6 #[.slice a0 n cap] w fun e w' => e = .returned (.bool true) ∧ Below w.heap.size w w' := by
  have hc0 := h0.2.2.1
  have hn0 := h0.2.1
  unfold maxLen at hc0
  have Haw := Lib.hid (ev_awake_calls w hn)
  clear hn
  have Hn0 := Lib.hid h0.1
  have H0 := Lib.hid h0; clear h0
  by_cases hbig : 3000 < n
  · have hb' : decide ((3000 : Int) < (n : Int)) = true := by simp; omega
    go_enter Tryd.func6, Tryd.ntmps6
    go_wp2_with fail
    refine Haw.out.mono ?_
    rintro e w1 ⟨rfl, hb1⟩
    go_wp2_with fail
    go_ret
    exact ⟨rfl, hb1⟩
  have hb0 : decide ((3000 : Int) < (n : Int)) = false := by simp; omega
  have hbl : b.length ≤ 3000 := by have := Hn0.out; omega
  have HBL := Lib.hid hbl; clear hbl
  go_enter Tryd.func6, Tryd.ntmps6
  go_wp2_with fail
  refine Haw.out.mono ?_
  rintro e w1 ⟨rfl, hb1⟩
  have HB1 := Lib.hid hb1; clear hb1
  go_wp2_with fail
  refine (asked_calls w1 a0 n cap b (H0.out.below stable_byteAt HB1.out) (by omega)).mono ?_
  rintro e w2 ⟨aq, cq, rfl, hsq, hb2⟩
  have HB2 : Hid (Below w.heap.size w w2) := HB1.out.trans (hb2.mono HB1.out.size)
  have Hsq := Lib.hid hsq
  clear hsq hb2 HB1
  unfold reqV
  have hal := (Below.refl w2.heap.size w2).alloc (Nat.le_refl _) (.cells #[.int .i64 (askedQ b).kind, .int .i64 (askedQ b).n, .int .i64 (askedQ b).m, .string (str (askedQ b).text), .slice aq (askedQ b).list.length cq] 24)
  have HQ3 : Hid ((w2.alloc (.cells #[.int .i64 (askedQ b).kind, .int .i64 (askedQ b).n, .int .i64 (askedQ b).m, .string (str (askedQ b).text), .slice aq (askedQ b).list.length cq] 24)).heap[w2.heap.size]? = some (.cells #[.int .i64 (askedQ b).kind, .int .i64 (askedQ b).n, .int .i64 (askedQ b).m, .string (str (askedQ b).text), .slice aq (askedQ b).list.length cq] 24)) := heap_alloc_new w2 _
  have HB3 : Hid (Below w.heap.size w (w2.alloc (.cells #[.int .i64 (askedQ b).kind, .int .i64 (askedQ b).n, .int .i64 (askedQ b).m, .string (str (askedQ b).text), .slice aq (askedQ b).list.length cq] 24))) := HB2.out.trans (hal.mono HB2.out.size)
  have Hsq3 := Lib.hid (Hsq.out.below stable_strAt hal)
  clear hal Hsq HB2
  go_wp2_with fail
  refine (told_calls _ a0 n cap b (H0.out.below stable_byteAt HB3.out) (by omega)).mono ?_
  rintro e w4 ⟨aa, ca, rfl, hsa, hb4⟩
  have hz4 : w2.heap.size < w4.heap.size := by have := hb4.size; simp at this; omega
  have HB4 : Hid (Below w.heap.size w w4) := HB3.out.trans (hb4.mono HB3.out.size)
  have HQ4 := Lib.hid (heap_below hb4 HQ3.out)
  have Hsq4 := Lib.hid (Hsq3.out.below stable_strAt hb4)
  have Hsa := Lib.hid hsa
  clear hsa hb4 HB3 HQ3 Hsq3
  unfold ansV
  have hal := (Below.refl w4.heap.size w4).alloc (Nat.le_refl _) (.cells #[.int .i64 (toldA b).kind, .int .i64 (toldA b).err, .int .i64 (toldA b).n, .int .i64 (toldA b).m, .string (str (toldA b).text), .slice aa (toldA b).list.length ca, .int .i64 (toldA b).sig] 26)
  have HA5 : Hid ((w4.alloc (.cells #[.int .i64 (toldA b).kind, .int .i64 (toldA b).err, .int .i64 (toldA b).n, .int .i64 (toldA b).m, .string (str (toldA b).text), .slice aa (toldA b).list.length ca, .int .i64 (toldA b).sig] 26)).heap[w4.heap.size]? = some (.cells #[.int .i64 (toldA b).kind, .int .i64 (toldA b).err, .int .i64 (toldA b).n, .int .i64 (toldA b).m, .string (str (toldA b).text), .slice aa (toldA b).list.length ca, .int .i64 (toldA b).sig] 26)) := heap_alloc_new w4 _
  have HB5 : Hid (Below w.heap.size w (w4.alloc (.cells #[.int .i64 (toldA b).kind, .int .i64 (toldA b).err, .int .i64 (toldA b).n, .int .i64 (toldA b).m, .string (str (toldA b).text), .slice aa (toldA b).list.length ca, .int .i64 (toldA b).sig] 26))) := HB4.out.trans (hal.mono HB4.out.size)
  have HQ5 := Lib.hid (heap_below hal HQ4.out)
  have Hsq5 := Lib.hid (Hsq4.out.below stable_strAt hal)
  have Hsa5 := Lib.hid (Hsa.out.below stable_strAt hal)
  have hz5 : w2.heap.size < w4.heap.size := hz4
  clear hal HQ4 Hsq4 Hsa HB4
  go_wp2_with fail
  generalize hPQ : w2.heap.size = pq at *
  generalize hPA : w4.heap.size = pa at *
  generalize hW5 : w4.alloc (.cells #[.int .i64 (toldA b).kind, .int .i64 (toldA b).err, .int .i64 (toldA b).n, .int .i64 (toldA b).m, .string (str (toldA b).text), .slice aa (toldA b).list.length ca, .int .i64 (toldA b).sig] 26) = w5 at *
  clear hW5 hPQ hPA
  have HF := Lib.hid (asked_own b)
  have HG := Lib.hid (told_own b)
  have HFO := Lib.hid (@askBOut_own b)
  have HGO := Lib.hid (@tellBOut_own b)
  have HFZ := Lib.hid (@askedQ_bad b)
  have HGZ := Lib.hid (@toldA_bad b)
  have Hrow5 : Hid (Bytes w5 a0 n cap b) := H0.out.below stable_byteAt HB5.out
  generalize askedE b = e at *
  generalize askedQ b = q at *
  generalize toldE b = f at *
  generalize toldA b = r at *
  by_cases he : e = 0
  · obtain ⟨hF1, hF2, hF3⟩ := HF.out he
    obtain ⟨hX1, hX2⟩ := HFO.out he
    have HFin := Lib.hid hF1
    have HOW := Lib.hid hX1
    have HRT := Lib.hid hX2
    have HTX : Hid (q.text.length ≤ 10000000 ∧ (texts q.list).length ≤ 100000000) := by have h1 := askB_parts q; rw [hF3] at h1; have := HBL.out; exact ⟨by omega, by omega⟩
    subst he
    clear hF1 hF2 hF3 hX1 hX2
    have HK0 : Hid (w5.cell? ⟨pq, 0, none⟩ = some (.int .i64 q.kind)) := by have := HQ5.out; show _ = _; simp [World.cell?, this]
    have HK1 : Hid (w5.cell? ⟨pq, 1, none⟩ = some (.int .i64 q.n)) := by have := HQ5.out; show _ = _; simp [World.cell?, this]
    have HK2 : Hid (w5.cell? ⟨pq, 2, none⟩ = some (.int .i64 q.m)) := by have := HQ5.out; show _ = _; simp [World.cell?, this]
    have HK3 : Hid (w5.cell? ⟨pq, 3, none⟩ = some (.string (str q.text))) := by have := HQ5.out; show _ = _; simp [World.cell?, this]
    have HK4 : Hid (w5.cell? ⟨pq, 4, none⟩ = some (.slice aq q.list.length cq)) := by have := HQ5.out; show _ = _; simp [World.cell?, this]
    refine Rg.wp_region_rgl [true, true, true, true, true, true, true, true, true, true, true, true, true, true, true, true, true, true, true, false, false, false, true, true] [Rg.Is (.int .i64 0), Rg.Is (.bool true), Rg.Is (.bool true), Rg.Is (.agg #[.int .i64 q.kind, .int .i64 q.n, .int .i64 q.m, .string (str q.text), .slice aq q.list.length cq]), (fun v w => ∃ a c, v = .slice a b.length c ∧ Bytes w a b.length c b), Rg.Is (.string (str b)), Rg.Is (.slice a0 n cap), Rg.Is (.string (str b)), Rg.Is (.bool false), Rg.Is (.bool false), Rg.Is (.agg #[.int .i64 q.kind, .int .i64 q.n, .int .i64 q.m, .string (str q.text), .slice aq q.list.length cq]), Rg.Is (.bool true), Rg.Is (.bool false), Rg.Is (.bool false), Rg.Is (.bool false), Rg.Is (.bool false), Rg.Is (.int .i64 0), Rg.Is (.bool false), Rg.Is (.bool false), (fun _ _ => True), (fun _ _ => True), (fun _ _ => True), Rg.Is (.bool false), Rg.Is (.bool false)] (by kernel_rfl) (by kernel_rfl) (by kernel_rfl) ⟨Rg.st_is _, Rg.st_is _, Rg.st_is _, Rg.st_is _, fun v w w' h hb => by obtain ⟨a, c, hv, hr⟩ := h; exact ⟨a, c, hv, hr.below stable_byteAt hb⟩, Rg.st_is _, Rg.st_is _, Rg.st_is _, Rg.st_is _, Rg.st_is _, Rg.st_is _, Rg.st_is _, Rg.st_is _, Rg.st_is _, Rg.st_is _, Rg.st_is _, Rg.st_is _, Rg.st_is _, Rg.st_is _, fun _ _ _ h _ => h, fun _ _ _ h _ => h, fun _ _ _ h _ => h, Rg.st_is _, Rg.st_is _, trivial⟩ ⟨rfl, rfl, rfl, ⟨rfl, fun _ _ h => h⟩, ⟨rfl, fun _ _ h => h⟩, ⟨rfl, fun _ _ h => h⟩, ⟨rfl, fun _ _ h => h⟩, ⟨rfl, fun _ _ h => h⟩, ⟨rfl, fun _ _ h => h⟩, ⟨rfl, fun _ _ h => h⟩, ⟨rfl, fun _ _ h => h⟩, ⟨rfl, fun _ _ h => h⟩, ⟨rfl, fun _ _ h => h⟩, ⟨rfl, fun _ _ h => h⟩, rfl, rfl, ⟨rfl, fun _ _ h => h⟩, ⟨rfl, fun _ _ h => h⟩, ⟨rfl, fun _ _ h => h⟩, Or.inr fun _ _ h => h, Or.inr fun _ _ h => h, Or.inr fun _ _ h => h, ⟨rfl, fun _ _ h => h⟩, rfl, trivial⟩ ⟨?_, ?_, ?_, ?_, ?_, ?_, ?_, ?_, ?_, ?_, ?_, ?_, ?_, ?_, ?_, ?_, ?_, ?_, ?_, ?_, ?_, ?_, ?_, ?_, trivial⟩ ?_
    · intro _ a wx hb hk
      have h5 : a.eval (.tmp 5) = .int .i64 0 := Eq.mp (by kernel_rfl) (hk 5 (by decide))
      exact Rg.does_move ⟨Below.refl _ _, h5⟩
    · intro _ a wx hb hk
      have h24 : a.eval (.tmp 24) = .int .i64 0 := Eq.mp (by kernel_rfl) (hk 24 (by decide))
      exact Rg.does_same_int .i64 _ h24 rfl ⟨Below.refl _ _, rfl⟩
    · intro _ a wx hb hk
      have h25 : a.eval (.tmp 25) = .bool true := Eq.mp (by kernel_rfl) (hk 25 (by decide))
      exact Rg.does_move ⟨Below.refl _ _, h25⟩
    · intro _ a wx hb hk
      have h4 : a.eval (.tmp 4) = .pointer (some ⟨pq, 0, none⟩) := Eq.mp (by kernel_rfl) (hk 4 (by decide))
      exact Rg.does_load _ _ h4 (load_req (cell_below hb (Nat.le_refl _) HK0.out) (cell_below hb (Nat.le_refl _) HK1.out) (cell_below hb (Nat.le_refl _) HK2.out) (cell_below hb (Nat.le_refl _) HK3.out) (cell_below hb (Nat.le_refl _) HK4.out)) ⟨Below.refl _ _, rfl⟩
    · intro _ a wx hb hk
      have h27 : a.eval (.tmp 27) = .agg #[.int .i64 q.kind, .int .i64 q.n, .int .i64 q.m, .string (str q.text), .slice aq q.list.length cq] := Eq.mp (by kernel_rfl) (hk 27 (by decide))
      refine Rg.does_func #[.agg #[.int .i64 q.kind, .int .i64 q.n, .int .i64 q.m, .string (str q.text), .slice aq q.list.length cq]] Tryd.func18 (by kernel_rfl) (by kernel_rfl) (by simp [h27]) (ev_ask_calls wx q aq cq (Hsq5.out.below stable_strAt hb) HFin.out.n HFin.out.m HTX.out.1 HTX.out.2) ?_
      rintro e' w' ⟨v, rfl, ho, hb'⟩
      rw [HOW.out] at ho
      obtain ⟨a2, c2, hv2, hr2⟩ := ownsRow_bytes ho
      exact ⟨_, rfl, hb', a2, c2, hv2, hr2⟩
    · intro _ a wx hb hk
      have h28 : (fun v w => ∃ a c, v = .slice a b.length c ∧ Bytes w a b.length c b) (a.eval (.tmp 28)) wx := Eq.mp (by kernel_rfl) (hk 28 (by decide))
      obtain ⟨a', c', hv, hr⟩ := h28
      exact Rg.does_convert _ _ hv (str_bytes hr) ⟨Below.refl _ _, rfl⟩
    · intro _ a wx hb hk
      have h0 : a.eval (.tmp 0) = .slice a0 n cap := Eq.mp (by kernel_rfl) (hk 0 (by decide))
      exact Rg.does_move ⟨Below.refl _ _, h0⟩
    · intro _ a wx hb hk
      have h30 : a.eval (.tmp 30) = .slice a0 n cap := Eq.mp (by kernel_rfl) (hk 30 (by decide))
      exact Rg.does_convert _ _ h30 (str_bytes (Hrow5.out.below stable_byteAt hb)) ⟨Below.refl _ _, rfl⟩
    · intro _ a wx hb hk
      have h29 : a.eval (.tmp 29) = .string (str b) := Eq.mp (by kernel_rfl) (hk 29 (by decide))
      have h31 : a.eval (.tmp 31) = .string (str b) := Eq.mp (by kernel_rfl) (hk 31 (by decide))
      exact Rs.does_neq0_string _ h29 h31 ⟨Below.refl _ _, rfl⟩
    · intro _ a wx hb hk
      have h32 : a.eval (.tmp 32) = .bool false := Eq.mp (by kernel_rfl) (hk 32 (by decide))
      exact Rg.does_move ⟨Below.refl _ _, h32⟩
    · intro _ a wx hb hk
      have h4 : a.eval (.tmp 4) = .pointer (some ⟨pq, 0, none⟩) := Eq.mp (by kernel_rfl) (hk 4 (by decide))
      exact Rg.does_load _ _ h4 (load_req (cell_below hb (Nat.le_refl _) HK0.out) (cell_below hb (Nat.le_refl _) HK1.out) (cell_below hb (Nat.le_refl _) HK2.out) (cell_below hb (Nat.le_refl _) HK3.out) (cell_below hb (Nat.le_refl _) HK4.out)) ⟨Below.refl _ _, rfl⟩
    · intro _ a wx hb hk
      have h34 : a.eval (.tmp 34) = .agg #[.int .i64 q.kind, .int .i64 q.n, .int .i64 q.m, .string (str q.text), .slice aq q.list.length cq] := Eq.mp (by kernel_rfl) (hk 34 (by decide))
      refine Rg.does_func #[.agg #[.int .i64 q.kind, .int .i64 q.n, .int .i64 q.m, .string (str q.text), .slice aq q.list.length cq]] Tryd.func12 (by kernel_rfl) (by kernel_rfl) (by simp [h34]) (ev_right_calls wx q aq cq) ?_
      rintro e' w' ⟨rfl, hb'⟩
      exact ⟨_, rfl, hb', by show _ = _; rw [HRT.out]⟩
    · intro _ a wx hb hk
      have h35 : a.eval (.tmp 35) = .bool true := Eq.mp (by kernel_rfl) (hk 35 (by decide))
      exact does_not true h35 ⟨Below.refl _ _, rfl⟩
    · intro _ a wx hb hk
      have h33 : a.eval (.tmp 33) = .bool false := Eq.mp (by kernel_rfl) (hk 33 (by decide))
      have h36 : a.eval (.tmp 36) = .bool false := Eq.mp (by kernel_rfl) (hk 36 (by decide))
      exact Rg.does_pick false h33 ⟨Below.refl _ _, h36⟩
    · intro _ a wx hb hk
      have h26 : a.eval (.tmp 26) = .bool true := Eq.mp (by kernel_rfl) (hk 26 (by decide))
      have h37 : a.eval (.tmp 37) = .bool false := Eq.mp (by kernel_rfl) (hk 37 (by decide))
      exact Rg.does_pick true h26 ⟨Below.refl _ _, h37⟩
    · intro _ a wx hb hk
      have h38 : a.eval (.tmp 38) = .bool false := Eq.mp (by kernel_rfl) (hk 38 (by decide))
      exact Rg.does_move ⟨Below.refl _ _, h38⟩
    · intro _ a wx hb hk
      have h5 : a.eval (.tmp 5) = .int .i64 0 := Eq.mp (by kernel_rfl) (hk 5 (by decide))
      exact Rg.does_move ⟨Below.refl _ _, h5⟩
    · intro _ a wx hb hk
      have h40 : a.eval (.tmp 40) = .int .i64 0 := Eq.mp (by kernel_rfl) (hk 40 (by decide))
      exact Rg.does_bin .i64 _ _ _ h40 rfl Rs.run_neq0 ⟨Below.refl _ _, rfl⟩
    · intro _ a wx hb hk
      have h41 : a.eval (.tmp 41) = .bool false := Eq.mp (by kernel_rfl) (hk 41 (by decide))
      exact Rg.does_move ⟨Below.refl _ _, h41⟩
    · intro h; exact absurd h (by decide)
    · intro h; exact absurd h (by decide)
    · intro h; exact absurd h (by decide)
    · intro _ a wx hb hk
      have h42 : a.eval (.tmp 42) = .bool false := Eq.mp (by kernel_rfl) (hk 42 (by decide))
      have h45 : a.eval (.tmp 45) = undef := Eq.mp (by kernel_rfl) (hk 45 (by decide))
      exact Rg.does_pick false h42 ⟨Below.refl _ _, rfl⟩
    · intro _ a wx hb hk
      have h39 : a.eval (.tmp 39) = .bool false := Eq.mp (by kernel_rfl) (hk 39 (by decide))
      have h46 : a.eval (.tmp 46) = .bool false := Eq.mp (by kernel_rfl) (hk 46 (by decide))
      exact Rg.does_pick false h39 ⟨Below.refl _ _, h46⟩
    intro vals wD hbD hL
    obtain ⟨g0, g1, g2, g3, g4, g5, g6, g7, g8, g9, g10, g11, g12, g13, g14, g15, g16, g17, g18, g19, g20, g21, g22, g23, _⟩ := hL
    have HQD := Lib.hid (heap_below hbD HQ5.out)
    have HAD := Lib.hid (heap_below hbD HA5.out)
    have Hsa6 := Lib.hid (Hsa5.out.below stable_strAt hbD)
    have Hrow6 := Lib.hid (Hrow5.out.below stable_byteAt hbD)
    have HBD : Hid (Below w.heap.size w wD) := HB5.out.trans (hbD.mono HB5.out.size)
    have hres : vals 23 = .bool false := g23
    clear g0 g1 g2 g3 g4 g5 g6 g7 g8 g9 g10 g11 g12 g13 g14 g15 g16 g17 g18 g19 g20 g21 g22 g23 hbD
    simp only [Rg.putAll, List.setIfInBounds_toArray, List.set_cons_succ, List.set_cons_zero, hres]
    by_cases hf : f = 0
    · obtain ⟨hG1, hG2, hG3⟩ := HG.out hf
      obtain ⟨hX1, hX2⟩ := HGO.out hf
      have HGin := Lib.hid hG1
      have HOX := Lib.hid hX1
      have HFT := Lib.hid hX2
      have HTY : Hid (r.text.length ≤ 10000000 ∧ (texts r.list).length ≤ 100000000) := by have h1 := tellB_parts r; rw [hG3] at h1; have := HBL.out; exact ⟨by omega, by omega⟩
      subst hf
      clear hG1 hG2 hG3 hX1 hX2
      have HM0 : Hid (wD.cell? ⟨pa, 0, none⟩ = some (.int .i64 r.kind)) := by have := HAD.out; show _ = _; simp [World.cell?, this]
      have HM1 : Hid (wD.cell? ⟨pa, 1, none⟩ = some (.int .i64 r.err)) := by have := HAD.out; show _ = _; simp [World.cell?, this]
      have HM2 : Hid (wD.cell? ⟨pa, 2, none⟩ = some (.int .i64 r.n)) := by have := HAD.out; show _ = _; simp [World.cell?, this]
      have HM3 : Hid (wD.cell? ⟨pa, 3, none⟩ = some (.int .i64 r.m)) := by have := HAD.out; show _ = _; simp [World.cell?, this]
      have HM4 : Hid (wD.cell? ⟨pa, 4, none⟩ = some (.string (str r.text))) := by have := HAD.out; show _ = _; simp [World.cell?, this]
      have HM5 : Hid (wD.cell? ⟨pa, 5, none⟩ = some (.slice aa r.list.length ca)) := by have := HAD.out; show _ = _; simp [World.cell?, this]
      have HM6 : Hid (wD.cell? ⟨pa, 6, none⟩ = some (.int .i64 r.sig)) := by have := HAD.out; show _ = _; simp [World.cell?, this]
      go_wp2_with fail
      refine Rg.wp_region_rgl [true, true, true, true, true, true, true, true, true, true, true, true, true, true, true, true, true, false, false, false, false, false, false, false, false, false, false, false, false, false, true, true] [Rg.Is (.int .i64 0), Rg.Is (.bool true), Rg.Is (.bool true), Rg.Is (.agg #[.int .i64 r.kind, .int .i64 r.err, .int .i64 r.n, .int .i64 r.m, .string (str r.text), .slice aa r.list.length ca, .int .i64 r.sig]), (fun v w => ∃ a c, v = .slice a b.length c ∧ Bytes w a b.length c b), Rg.Is (.string (str b)), Rg.Is (.slice a0 n cap), Rg.Is (.string (str b)), Rg.Is (.bool true), Rg.Is (.bool true), Rg.Is (.bool true), Rg.Is (.pointer (some ⟨pa, 0, none⟩)), Rg.Is (.int .i64 r.kind), Rg.Is (.agg #[.int .i64 r.kind, .int .i64 r.err, .int .i64 r.n, .int .i64 r.m, .string (str r.text), .slice aa r.list.length ca, .int .i64 r.sig]), Rg.Is (.bool true), Rg.Is (.bool true), Rg.Is (.bool true), (fun _ _ => True), (fun _ _ => True), (fun _ _ => True), (fun _ _ => True), (fun _ _ => True), (fun _ _ => True), (fun _ _ => True), (fun _ _ => True), (fun _ _ => True), (fun _ _ => True), (fun _ _ => True), (fun _ _ => True), (fun _ _ => True), Rg.Is (.bool true), Rg.Is (.bool true)] (by kernel_rfl) (by kernel_rfl) (by kernel_rfl) ⟨Rg.st_is _, Rg.st_is _, Rg.st_is _, Rg.st_is _, fun v w w' h hb => by obtain ⟨a, c, hv, hr⟩ := h; exact ⟨a, c, hv, hr.below stable_byteAt hb⟩, Rg.st_is _, Rg.st_is _, Rg.st_is _, Rg.st_is _, Rg.st_is _, Rg.st_is _, Rg.st_is _, Rg.st_is _, Rg.st_is _, Rg.st_is _, Rg.st_is _, Rg.st_is _, fun _ _ _ h _ => h, fun _ _ _ h _ => h, fun _ _ _ h _ => h, fun _ _ _ h _ => h, fun _ _ _ h _ => h, fun _ _ _ h _ => h, fun _ _ _ h _ => h, fun _ _ _ h _ => h, fun _ _ _ h _ => h, fun _ _ _ h _ => h, fun _ _ _ h _ => h, fun _ _ _ h _ => h, fun _ _ _ h _ => h, Rg.st_is _, Rg.st_is _, trivial⟩ ⟨rfl, rfl, rfl, ⟨rfl, fun _ _ h => h⟩, ⟨rfl, fun _ _ h => h⟩, ⟨rfl, fun _ _ h => h⟩, ⟨rfl, fun _ _ h => h⟩, ⟨rfl, fun _ _ h => h⟩, ⟨rfl, fun _ _ h => h⟩, rfl, rfl, ⟨rfl, fun _ _ h => h⟩, ⟨rfl, fun _ _ h => h⟩, ⟨rfl, fun _ _ h => h⟩, ⟨rfl, fun _ _ h => h⟩, rfl, rfl, Or.inr fun _ _ h => h, Or.inr fun _ _ h => h, Or.inr fun _ _ h => h, Or.inl rfl, Or.inl rfl, Or.inl rfl, Or.inr fun _ _ h => h, Or.inr fun _ _ h => h, Or.inl rfl, Or.inl rfl, Or.inl rfl, Or.inl rfl, Or.inr fun _ _ h => h, rfl, rfl, trivial⟩ ⟨?_, ?_, ?_, ?_, ?_, ?_, ?_, ?_, ?_, ?_, ?_, ?_, ?_, ?_, ?_, ?_, ?_, ?_, ?_, ?_, ?_, ?_, ?_, ?_, ?_, ?_, ?_, ?_, ?_, ?_, ?_, ?_, trivial⟩ ?_
      · intro _ a wx hb hk
        have h7 : a.eval (.tmp 7) = .int .i64 0 := Eq.mp (by kernel_rfl) (hk 7 (by decide))
        exact Rg.does_move ⟨Below.refl _ _, h7⟩
      · intro _ a wx hb hk
        have h48 : a.eval (.tmp 48) = .int .i64 0 := Eq.mp (by kernel_rfl) (hk 48 (by decide))
        exact Rg.does_same_int .i64 _ h48 rfl ⟨Below.refl _ _, rfl⟩
      · intro _ a wx hb hk
        have h49 : a.eval (.tmp 49) = .bool true := Eq.mp (by kernel_rfl) (hk 49 (by decide))
        exact Rg.does_move ⟨Below.refl _ _, h49⟩
      · intro _ a wx hb hk
        have h6 : a.eval (.tmp 6) = .pointer (some ⟨pa, 0, none⟩) := Eq.mp (by kernel_rfl) (hk 6 (by decide))
        exact Rg.does_load _ _ h6 (load_ans (cell_below hb (Nat.le_refl _) HM0.out) (cell_below hb (Nat.le_refl _) HM1.out) (cell_below hb (Nat.le_refl _) HM2.out) (cell_below hb (Nat.le_refl _) HM3.out) (cell_below hb (Nat.le_refl _) HM4.out) (cell_below hb (Nat.le_refl _) HM5.out) (cell_below hb (Nat.le_refl _) HM6.out)) ⟨Below.refl _ _, rfl⟩
      · intro _ a wx hb hk
        have h51 : a.eval (.tmp 51) = .agg #[.int .i64 r.kind, .int .i64 r.err, .int .i64 r.n, .int .i64 r.m, .string (str r.text), .slice aa r.list.length ca, .int .i64 r.sig] := Eq.mp (by kernel_rfl) (hk 51 (by decide))
        refine Rg.does_func #[.agg #[.int .i64 r.kind, .int .i64 r.err, .int .i64 r.n, .int .i64 r.m, .string (str r.text), .slice aa r.list.length ca, .int .i64 r.sig]] Tryd.func20 (by kernel_rfl) (by kernel_rfl) (by simp [h51]) (ev_tell_calls wx r aa ca (Hsa6.out.below stable_strAt hb) HGin.out.n HGin.out.m HTY.out.1 HTY.out.2) ?_
        rintro e' w' ⟨v, rfl, ho, hb'⟩
        rw [HOX.out] at ho
        obtain ⟨a2, c2, hv2, hr2⟩ := ownsRow_bytes ho
        exact ⟨_, rfl, hb', a2, c2, hv2, hr2⟩
      · intro _ a wx hb hk
        have h52 : (fun v w => ∃ a c, v = .slice a b.length c ∧ Bytes w a b.length c b) (a.eval (.tmp 52)) wx := Eq.mp (by kernel_rfl) (hk 52 (by decide))
        obtain ⟨a', c', hv, hr⟩ := h52
        exact Rg.does_convert _ _ hv (str_bytes hr) ⟨Below.refl _ _, rfl⟩
      · intro _ a wx hb hk
        have h0 : a.eval (.tmp 0) = .slice a0 n cap := Eq.mp (by kernel_rfl) (hk 0 (by decide))
        exact Rg.does_move ⟨Below.refl _ _, h0⟩
      · intro _ a wx hb hk
        have h54 : a.eval (.tmp 54) = .slice a0 n cap := Eq.mp (by kernel_rfl) (hk 54 (by decide))
        exact Rg.does_convert _ _ h54 (str_bytes (Hrow6.out.below stable_byteAt hb)) ⟨Below.refl _ _, rfl⟩
      · intro _ a wx hb hk
        have h53 : a.eval (.tmp 53) = .string (str b) := Eq.mp (by kernel_rfl) (hk 53 (by decide))
        have h55 : a.eval (.tmp 55) = .string (str b) := Eq.mp (by kernel_rfl) (hk 55 (by decide))
        exact Rg.does_same_string _ h53 h55 ⟨Below.refl _ _, rfl⟩
      · intro _ a wx hb hk
        have h50 : a.eval (.tmp 50) = .bool true := Eq.mp (by kernel_rfl) (hk 50 (by decide))
        have h56 : a.eval (.tmp 56) = .bool true := Eq.mp (by kernel_rfl) (hk 56 (by decide))
        exact Rg.does_pick true h50 ⟨Below.refl _ _, h56⟩
      · intro _ a wx hb hk
        have h57 : a.eval (.tmp 57) = .bool true := Eq.mp (by kernel_rfl) (hk 57 (by decide))
        exact Rg.does_move ⟨Below.refl _ _, h57⟩
      · intro _ a wx hb hk
        have h6 : a.eval (.tmp 6) = .pointer (some ⟨pa, 0, none⟩) := Eq.mp (by kernel_rfl) (hk 6 (by decide))
        exact Rs.does_field _ _ h6 (ans_f0 _ _) ⟨Below.refl _ _, rfl⟩
      · intro _ a wx hb hk
        have h59 : a.eval (.tmp 59) = .pointer (some ⟨pa, 0, none⟩) := Eq.mp (by kernel_rfl) (hk 59 (by decide))
        exact Rg.does_load _ _ h59 (load_int (cell_below hb (Nat.le_refl _) HM0.out)) ⟨Below.refl _ _, rfl⟩
      · intro _ a wx hb hk
        have h6 : a.eval (.tmp 6) = .pointer (some ⟨pa, 0, none⟩) := Eq.mp (by kernel_rfl) (hk 6 (by decide))
        exact Rg.does_load _ _ h6 (load_ans (cell_below hb (Nat.le_refl _) HM0.out) (cell_below hb (Nat.le_refl _) HM1.out) (cell_below hb (Nat.le_refl _) HM2.out) (cell_below hb (Nat.le_refl _) HM3.out) (cell_below hb (Nat.le_refl _) HM4.out) (cell_below hb (Nat.le_refl _) HM5.out) (cell_below hb (Nat.le_refl _) HM6.out)) ⟨Below.refl _ _, rfl⟩
      · intro _ a wx hb hk
        have h60 : a.eval (.tmp 60) = .int .i64 r.kind := Eq.mp (by kernel_rfl) (hk 60 (by decide))
        have h61 : a.eval (.tmp 61) = .agg #[.int .i64 r.kind, .int .i64 r.err, .int .i64 r.n, .int .i64 r.m, .string (str r.text), .slice aa r.list.length ca, .int .i64 r.sig] := Eq.mp (by kernel_rfl) (hk 61 (by decide))
        refine Rg.does_func #[.int .i64 r.kind, .agg #[.int .i64 r.kind, .int .i64 r.err, .int .i64 r.n, .int .i64 r.m, .string (str r.text), .slice aa r.list.length ca, .int .i64 r.sig]] Tryd.func14 (by kernel_rfl) (by kernel_rfl) (by simp [h60, h61]) (ev_fits_calls wx r.kind r aa ca) ?_
        rintro e' w' ⟨rfl, hb'⟩
        exact ⟨_, rfl, hb', by show _ = _; rw [HFT.out]⟩
      · intro _ a wx hb hk
        have h58 : a.eval (.tmp 58) = .bool true := Eq.mp (by kernel_rfl) (hk 58 (by decide))
        have h62 : a.eval (.tmp 62) = .bool true := Eq.mp (by kernel_rfl) (hk 62 (by decide))
        exact Rg.does_pick true h58 ⟨Below.refl _ _, h62⟩
      · intro _ a wx hb hk
        have h63 : a.eval (.tmp 63) = .bool true := Eq.mp (by kernel_rfl) (hk 63 (by decide))
        exact Rg.does_move ⟨Below.refl _ _, h63⟩
      · intro h; exact absurd h (by decide)
      · intro h; exact absurd h (by decide)
      · intro h; exact absurd h (by decide)
      · intro h; exact absurd h (by decide)
      · intro h; exact absurd h (by decide)
      · intro h; exact absurd h (by decide)
      · intro h; exact absurd h (by decide)
      · intro h; exact absurd h (by decide)
      · intro h; exact absurd h (by decide)
      · intro h; exact absurd h (by decide)
      · intro h; exact absurd h (by decide)
      · intro h; exact absurd h (by decide)
      · intro h; exact absurd h (by decide)
      · intro _ a wx hb hk
        have h64 : a.eval (.tmp 64) = .bool true := Eq.mp (by kernel_rfl) (hk 64 (by decide))
        have h77 : a.eval (.tmp 77) = undef := Eq.mp (by kernel_rfl) (hk 77 (by decide))
        exact Rg.does_pick true h64 ⟨Below.refl _ _, rfl⟩
      · intro _ a wx hb hk
        have h78 : a.eval (.tmp 78) = .bool true := Eq.mp (by kernel_rfl) (hk 78 (by decide))
        exact Rg.does_assign ⟨Below.refl _ _, h78⟩
      intro vals wE hbD hL
      obtain ⟨g0, g1, g2, g3, g4, g5, g6, g7, g8, g9, g10, g11, g12, g13, g14, g15, g16, g17, g18, g19, g20, g21, g22, g23, g24, g25, g26, g27, g28, g29, g30, g31, _⟩ := hL
      have HBE : Hid (Below w.heap.size w wE) := HBD.out.trans (hbD.mono HBD.out.size)
      have hres2 : vals 31 = .bool true := g31
      clear g0 g1 g2 g3 g4 g5 g6 g7 g8 g9 g10 g11 g12 g13 g14 g15 g16 g17 g18 g19 g20 g21 g22 g23 g24 g25 g26 g27 g28 g29 g30 g31 hbD
      simp only [Rg.putAll, List.setIfInBounds_toArray, List.set_cons_succ, List.set_cons_zero]
      go_wp2_with fail
      go_ret
      exact ⟨by rw [← hres2]; rfl, HBE.out⟩
    · have hz := HGZ.out hf
      subst hz
      have HNY := Lib.hid hf
      have HNF : Hid ((f == 0) = false) := by show _ = _; rw [beq_eq_false_iff_ne]; exact hf
      clear hf
      have HM0 : Hid (wD.cell? ⟨pa, 0, none⟩ = some (.int .i64 Ans.zero.kind)) := by have := HAD.out; show _ = _; simp [World.cell?, this]
      have HM1 : Hid (wD.cell? ⟨pa, 1, none⟩ = some (.int .i64 Ans.zero.err)) := by have := HAD.out; show _ = _; simp [World.cell?, this]
      have HM2 : Hid (wD.cell? ⟨pa, 2, none⟩ = some (.int .i64 Ans.zero.n)) := by have := HAD.out; show _ = _; simp [World.cell?, this]
      have HM3 : Hid (wD.cell? ⟨pa, 3, none⟩ = some (.int .i64 Ans.zero.m)) := by have := HAD.out; show _ = _; simp [World.cell?, this]
      have HM4 : Hid (wD.cell? ⟨pa, 4, none⟩ = some (.string (str Ans.zero.text))) := by have := HAD.out; show _ = _; simp [World.cell?, this]
      have HM5 : Hid (wD.cell? ⟨pa, 5, none⟩ = some (.slice aa Ans.zero.list.length ca)) := by have := HAD.out; show _ = _; simp [World.cell?, this]
      have HM6 : Hid (wD.cell? ⟨pa, 6, none⟩ = some (.int .i64 Ans.zero.sig)) := by have := HAD.out; show _ = _; simp [World.cell?, this]
      go_wp2_with fail
      refine Rg.wp_region_rgl [true, true, true, false, false, false, false, false, false, true, true, false, false, false, false, true, true, true, true, true, true, true, true, true, true, true, true, true, true, true, true, true] [Rg.Is (.int .i64 f), Rg.Is (.bool false), Rg.Is (.bool false), (fun _ _ => True), (fun _ _ => True), (fun _ _ => True), (fun _ _ => True), (fun _ _ => True), (fun _ _ => True), Rg.Is (.bool false), Rg.Is (.bool false), (fun _ _ => True), (fun _ _ => True), (fun _ _ => True), (fun _ _ => True), Rg.Is (.bool false), Rg.Is (.bool false), Rg.Is (.int .i64 f), Rg.Is (.bool true), Rg.Is (.bool true), Rg.Is (.pointer (some ⟨pa, 0, none⟩)), Rg.Is (.int .i64 0), Rg.Is (.bool true), Rg.Is (.bool true), Rg.Is (.bool true), Rg.Is (.pointer (some ⟨pa, 5, none⟩)), Rg.Is (.slice aa 0 ca), Rg.Is (.int .i64 0), Rg.Is (.bool true), Rg.Is (.bool true), Rg.Is (.bool true), Rg.Is (.bool true)] (by kernel_rfl) (by kernel_rfl) (by kernel_rfl) ⟨Rg.st_is _, Rg.st_is _, Rg.st_is _, fun _ _ _ h _ => h, fun _ _ _ h _ => h, fun _ _ _ h _ => h, fun _ _ _ h _ => h, fun _ _ _ h _ => h, fun _ _ _ h _ => h, Rg.st_is _, Rg.st_is _, fun _ _ _ h _ => h, fun _ _ _ h _ => h, fun _ _ _ h _ => h, fun _ _ _ h _ => h, Rg.st_is _, Rg.st_is _, Rg.st_is _, Rg.st_is _, Rg.st_is _, Rg.st_is _, Rg.st_is _, Rg.st_is _, Rg.st_is _, Rg.st_is _, Rg.st_is _, Rg.st_is _, Rg.st_is _, Rg.st_is _, Rg.st_is _, Rg.st_is _, Rg.st_is _, trivial⟩ ⟨rfl, rfl, rfl, Or.inr fun _ _ h => h, Or.inr fun _ _ h => h, Or.inr fun _ _ h => h, Or.inr fun _ _ h => h, Or.inr fun _ _ h => h, Or.inr fun _ _ h => h, rfl, rfl, Or.inr fun _ _ h => h, Or.inr fun _ _ h => h, Or.inr fun _ _ h => h, Or.inr fun _ _ h => h, rfl, rfl, ⟨rfl, fun _ _ h => h⟩, ⟨rfl, fun _ _ h => h⟩, ⟨rfl, fun _ _ h => h⟩, ⟨rfl, fun _ _ h => h⟩, ⟨rfl, fun _ _ h => h⟩, ⟨rfl, fun _ _ h => h⟩, ⟨rfl, fun _ _ h => h⟩, ⟨rfl, fun _ _ h => h⟩, ⟨rfl, fun _ _ h => h⟩, ⟨rfl, fun _ _ h => h⟩, ⟨rfl, fun _ _ h => h⟩, ⟨rfl, fun _ _ h => h⟩, ⟨rfl, fun _ _ h => h⟩, rfl, rfl, trivial⟩ ⟨?_, ?_, ?_, ?_, ?_, ?_, ?_, ?_, ?_, ?_, ?_, ?_, ?_, ?_, ?_, ?_, ?_, ?_, ?_, ?_, ?_, ?_, ?_, ?_, ?_, ?_, ?_, ?_, ?_, ?_, ?_, ?_, trivial⟩ ?_
      · intro _ a wx hb hk
        have h7 : a.eval (.tmp 7) = .int .i64 f := Eq.mp (by kernel_rfl) (hk 7 (by decide))
        exact Rg.does_move ⟨Below.refl _ _, h7⟩
      · intro _ a wx hb hk
        have h48 : a.eval (.tmp 48) = .int .i64 f := Eq.mp (by kernel_rfl) (hk 48 (by decide))
        exact Rg.does_eq_int .i64 _ _ h48 rfl ⟨Below.refl _ _, by show _ = _; rw [HNF.out]⟩
      · intro _ a wx hb hk
        have h49 : a.eval (.tmp 49) = .bool false := Eq.mp (by kernel_rfl) (hk 49 (by decide))
        exact Rg.does_move ⟨Below.refl _ _, h49⟩
      · intro h; exact absurd h (by decide)
      · intro h; exact absurd h (by decide)
      · intro h; exact absurd h (by decide)
      · intro h; exact absurd h (by decide)
      · intro h; exact absurd h (by decide)
      · intro h; exact absurd h (by decide)
      · intro _ a wx hb hk
        have h50 : a.eval (.tmp 50) = .bool false := Eq.mp (by kernel_rfl) (hk 50 (by decide))
        have h56 : a.eval (.tmp 56) = undef := Eq.mp (by kernel_rfl) (hk 56 (by decide))
        exact Rg.does_pick false h50 ⟨Below.refl _ _, rfl⟩
      · intro _ a wx hb hk
        have h57 : a.eval (.tmp 57) = .bool false := Eq.mp (by kernel_rfl) (hk 57 (by decide))
        exact Rg.does_move ⟨Below.refl _ _, h57⟩
      · intro h; exact absurd h (by decide)
      · intro h; exact absurd h (by decide)
      · intro h; exact absurd h (by decide)
      · intro h; exact absurd h (by decide)
      · intro _ a wx hb hk
        have h58 : a.eval (.tmp 58) = .bool false := Eq.mp (by kernel_rfl) (hk 58 (by decide))
        have h62 : a.eval (.tmp 62) = undef := Eq.mp (by kernel_rfl) (hk 62 (by decide))
        exact Rg.does_pick false h58 ⟨Below.refl _ _, rfl⟩
      · intro _ a wx hb hk
        have h63 : a.eval (.tmp 63) = .bool false := Eq.mp (by kernel_rfl) (hk 63 (by decide))
        exact Rg.does_move ⟨Below.refl _ _, h63⟩
      · intro _ a wx hb hk
        have h7 : a.eval (.tmp 7) = .int .i64 f := Eq.mp (by kernel_rfl) (hk 7 (by decide))
        exact Rg.does_move ⟨Below.refl _ _, h7⟩
      · intro _ a wx hb hk
        have h65 : a.eval (.tmp 65) = .int .i64 f := Eq.mp (by kernel_rfl) (hk 65 (by decide))
        exact Rg.does_bin .i64 _ _ _ h65 rfl (Rs.run_neq HNY.out) ⟨Below.refl _ _, rfl⟩
      · intro _ a wx hb hk
        have h66 : a.eval (.tmp 66) = .bool true := Eq.mp (by kernel_rfl) (hk 66 (by decide))
        exact Rg.does_move ⟨Below.refl _ _, h66⟩
      · intro _ a wx hb hk
        have h6 : a.eval (.tmp 6) = .pointer (some ⟨pa, 0, none⟩) := Eq.mp (by kernel_rfl) (hk 6 (by decide))
        exact Rs.does_field _ _ h6 (ans_f0 _ _) ⟨Below.refl _ _, rfl⟩
      · intro _ a wx hb hk
        have h68 : a.eval (.tmp 68) = .pointer (some ⟨pa, 0, none⟩) := Eq.mp (by kernel_rfl) (hk 68 (by decide))
        exact Rg.does_load _ _ h68 (load_int (cell_below hb (Nat.le_refl _) HM0.out)) ⟨Below.refl _ _, rfl⟩
      · intro _ a wx hb hk
        have h69 : a.eval (.tmp 69) = .int .i64 0 := Eq.mp (by kernel_rfl) (hk 69 (by decide))
        exact Rg.does_same_int .i64 _ h69 rfl ⟨Below.refl _ _, rfl⟩
      · intro _ a wx hb hk
        have h67 : a.eval (.tmp 67) = .bool true := Eq.mp (by kernel_rfl) (hk 67 (by decide))
        have h70 : a.eval (.tmp 70) = .bool true := Eq.mp (by kernel_rfl) (hk 70 (by decide))
        exact Rg.does_pick true h67 ⟨Below.refl _ _, h70⟩
      · intro _ a wx hb hk
        have h71 : a.eval (.tmp 71) = .bool true := Eq.mp (by kernel_rfl) (hk 71 (by decide))
        exact Rg.does_move ⟨Below.refl _ _, h71⟩
      · intro _ a wx hb hk
        have h6 : a.eval (.tmp 6) = .pointer (some ⟨pa, 0, none⟩) := Eq.mp (by kernel_rfl) (hk 6 (by decide))
        exact Rs.does_field _ _ h6 (ans_f5 _ _) ⟨Below.refl _ _, rfl⟩
      · intro _ a wx hb hk
        have h73 : a.eval (.tmp 73) = .pointer (some ⟨pa, 5, none⟩) := Eq.mp (by kernel_rfl) (hk 73 (by decide))
        exact Rg.does_load _ _ h73 (load_strs (cell_below hb (Nat.le_refl _) HM5.out)) ⟨Below.refl _ _, rfl⟩
      · intro _ a wx hb hk
        have h74 : a.eval (.tmp 74) = .slice aa 0 ca := Eq.mp (by kernel_rfl) (hk 74 (by decide))
        exact Rg.does_len _ _ _ Tryd.underlying22 h74 ⟨Below.refl _ _, rfl⟩
      · intro _ a wx hb hk
        have h75 : a.eval (.tmp 75) = .int .i64 0 := Eq.mp (by kernel_rfl) (hk 75 (by decide))
        exact Rg.does_same_int .i64 _ h75 rfl ⟨Below.refl _ _, rfl⟩
      · intro _ a wx hb hk
        have h72 : a.eval (.tmp 72) = .bool true := Eq.mp (by kernel_rfl) (hk 72 (by decide))
        have h76 : a.eval (.tmp 76) = .bool true := Eq.mp (by kernel_rfl) (hk 76 (by decide))
        exact Rg.does_pick true h72 ⟨Below.refl _ _, h76⟩
      · intro _ a wx hb hk
        have h64 : a.eval (.tmp 64) = .bool false := Eq.mp (by kernel_rfl) (hk 64 (by decide))
        have h77 : a.eval (.tmp 77) = .bool true := Eq.mp (by kernel_rfl) (hk 77 (by decide))
        exact Rg.does_pick false h64 ⟨Below.refl _ _, h77⟩
      · intro _ a wx hb hk
        have h78 : a.eval (.tmp 78) = .bool true := Eq.mp (by kernel_rfl) (hk 78 (by decide))
        exact Rg.does_assign ⟨Below.refl _ _, h78⟩
      intro vals wE hbD hL
      obtain ⟨g0, g1, g2, g3, g4, g5, g6, g7, g8, g9, g10, g11, g12, g13, g14, g15, g16, g17, g18, g19, g20, g21, g22, g23, g24, g25, g26, g27, g28, g29, g30, g31, _⟩ := hL
      have HBE : Hid (Below w.heap.size w wE) := HBD.out.trans (hbD.mono HBD.out.size)
      have hres2 : vals 31 = .bool true := g31
      clear g0 g1 g2 g3 g4 g5 g6 g7 g8 g9 g10 g11 g12 g13 g14 g15 g16 g17 g18 g19 g20 g21 g22 g23 g24 g25 g26 g27 g28 g29 g30 g31 hbD
      simp only [Rg.putAll, List.setIfInBounds_toArray, List.set_cons_succ, List.set_cons_zero]
      go_wp2_with fail
      go_ret
      exact ⟨by rw [← hres2]; rfl, HBE.out⟩
  · have hz := HFZ.out he
    subst hz
    have HNZ := Lib.hid he
    have HNE : Hid ((e == 0) = false) := by show _ = _; rw [beq_eq_false_iff_ne]; exact he
    clear he
    have HK0 : Hid (w5.cell? ⟨pq, 0, none⟩ = some (.int .i64 Req.zero.kind)) := by have := HQ5.out; show _ = _; simp [World.cell?, this]
    have HK1 : Hid (w5.cell? ⟨pq, 1, none⟩ = some (.int .i64 Req.zero.n)) := by have := HQ5.out; show _ = _; simp [World.cell?, this]
    have HK2 : Hid (w5.cell? ⟨pq, 2, none⟩ = some (.int .i64 Req.zero.m)) := by have := HQ5.out; show _ = _; simp [World.cell?, this]
    have HK3 : Hid (w5.cell? ⟨pq, 3, none⟩ = some (.string (str Req.zero.text))) := by have := HQ5.out; show _ = _; simp [World.cell?, this]
    have HK4 : Hid (w5.cell? ⟨pq, 4, none⟩ = some (.slice aq Req.zero.list.length cq)) := by have := HQ5.out; show _ = _; simp [World.cell?, this]
    refine Rg.wp_region_rgl [true, true, true, false, false, false, false, false, false, false, false, false, false, false, true, true, true, true, true, true, true, true, true, true] [Rg.Is (.int .i64 e), Rg.Is (.bool false), Rg.Is (.bool false), (fun _ _ => True), (fun _ _ => True), (fun _ _ => True), (fun _ _ => True), (fun _ _ => True), (fun _ _ => True), (fun _ _ => True), (fun _ _ => True), (fun _ _ => True), (fun _ _ => True), (fun _ _ => True), Rg.Is (.bool false), Rg.Is (.bool false), Rg.Is (.int .i64 e), Rg.Is (.bool true), Rg.Is (.bool true), Rg.Is (.pointer (some ⟨pq, 0, none⟩)), Rg.Is (.int .i64 0), Rg.Is (.bool false), Rg.Is (.bool false), Rg.Is (.bool false)] (by kernel_rfl) (by kernel_rfl) (by kernel_rfl) ⟨Rg.st_is _, Rg.st_is _, Rg.st_is _, fun _ _ _ h _ => h, fun _ _ _ h _ => h, fun _ _ _ h _ => h, fun _ _ _ h _ => h, fun _ _ _ h _ => h, fun _ _ _ h _ => h, fun _ _ _ h _ => h, fun _ _ _ h _ => h, fun _ _ _ h _ => h, fun _ _ _ h _ => h, fun _ _ _ h _ => h, Rg.st_is _, Rg.st_is _, Rg.st_is _, Rg.st_is _, Rg.st_is _, Rg.st_is _, Rg.st_is _, Rg.st_is _, Rg.st_is _, Rg.st_is _, trivial⟩ ⟨rfl, rfl, rfl, Or.inr fun _ _ h => h, Or.inr fun _ _ h => h, Or.inr fun _ _ h => h, Or.inr fun _ _ h => h, Or.inr fun _ _ h => h, Or.inr fun _ _ h => h, Or.inr fun _ _ h => h, Or.inl rfl, Or.inl rfl, Or.inl rfl, Or.inr fun _ _ h => h, rfl, rfl, ⟨rfl, fun _ _ h => h⟩, ⟨rfl, fun _ _ h => h⟩, ⟨rfl, fun _ _ h => h⟩, ⟨rfl, fun _ _ h => h⟩, ⟨rfl, fun _ _ h => h⟩, ⟨rfl, fun _ _ h => h⟩, ⟨rfl, fun _ _ h => h⟩, rfl, trivial⟩ ⟨?_, ?_, ?_, ?_, ?_, ?_, ?_, ?_, ?_, ?_, ?_, ?_, ?_, ?_, ?_, ?_, ?_, ?_, ?_, ?_, ?_, ?_, ?_, ?_, trivial⟩ ?_
    · intro _ a wx hb hk
      have h5 : a.eval (.tmp 5) = .int .i64 e := Eq.mp (by kernel_rfl) (hk 5 (by decide))
      exact Rg.does_move ⟨Below.refl _ _, h5⟩
    · intro _ a wx hb hk
      have h24 : a.eval (.tmp 24) = .int .i64 e := Eq.mp (by kernel_rfl) (hk 24 (by decide))
      exact Rg.does_eq_int .i64 _ _ h24 rfl ⟨Below.refl _ _, by show _ = _; rw [HNE.out]⟩
    · intro _ a wx hb hk
      have h25 : a.eval (.tmp 25) = .bool false := Eq.mp (by kernel_rfl) (hk 25 (by decide))
      exact Rg.does_move ⟨Below.refl _ _, h25⟩
    · intro h; exact absurd h (by decide)
    · intro h; exact absurd h (by decide)
    · intro h; exact absurd h (by decide)
    · intro h; exact absurd h (by decide)
    · intro h; exact absurd h (by decide)
    · intro h; exact absurd h (by decide)
    · intro h; exact absurd h (by decide)
    · intro h; exact absurd h (by decide)
    · intro h; exact absurd h (by decide)
    · intro h; exact absurd h (by decide)
    · intro h; exact absurd h (by decide)
    · intro _ a wx hb hk
      have h26 : a.eval (.tmp 26) = .bool false := Eq.mp (by kernel_rfl) (hk 26 (by decide))
      have h37 : a.eval (.tmp 37) = undef := Eq.mp (by kernel_rfl) (hk 37 (by decide))
      exact Rg.does_pick false h26 ⟨Below.refl _ _, rfl⟩
    · intro _ a wx hb hk
      have h38 : a.eval (.tmp 38) = .bool false := Eq.mp (by kernel_rfl) (hk 38 (by decide))
      exact Rg.does_move ⟨Below.refl _ _, h38⟩
    · intro _ a wx hb hk
      have h5 : a.eval (.tmp 5) = .int .i64 e := Eq.mp (by kernel_rfl) (hk 5 (by decide))
      exact Rg.does_move ⟨Below.refl _ _, h5⟩
    · intro _ a wx hb hk
      have h40 : a.eval (.tmp 40) = .int .i64 e := Eq.mp (by kernel_rfl) (hk 40 (by decide))
      exact Rg.does_bin .i64 _ _ _ h40 rfl (Rs.run_neq HNZ.out) ⟨Below.refl _ _, rfl⟩
    · intro _ a wx hb hk
      have h41 : a.eval (.tmp 41) = .bool true := Eq.mp (by kernel_rfl) (hk 41 (by decide))
      exact Rg.does_move ⟨Below.refl _ _, h41⟩
    · intro _ a wx hb hk
      have h4 : a.eval (.tmp 4) = .pointer (some ⟨pq, 0, none⟩) := Eq.mp (by kernel_rfl) (hk 4 (by decide))
      exact Rs.does_field _ _ h4 (req_f0 _ _) ⟨Below.refl _ _, rfl⟩
    · intro _ a wx hb hk
      have h43 : a.eval (.tmp 43) = .pointer (some ⟨pq, 0, none⟩) := Eq.mp (by kernel_rfl) (hk 43 (by decide))
      exact Rg.does_load _ _ h43 (load_int (cell_below hb (Nat.le_refl _) HK0.out)) ⟨Below.refl _ _, rfl⟩
    · intro _ a wx hb hk
      have h44 : a.eval (.tmp 44) = .int .i64 0 := Eq.mp (by kernel_rfl) (hk 44 (by decide))
      exact Rg.does_bin .i64 _ _ _ h44 rfl Rs.run_neq0 ⟨Below.refl _ _, rfl⟩
    · intro _ a wx hb hk
      have h42 : a.eval (.tmp 42) = .bool true := Eq.mp (by kernel_rfl) (hk 42 (by decide))
      have h45 : a.eval (.tmp 45) = .bool false := Eq.mp (by kernel_rfl) (hk 45 (by decide))
      exact Rg.does_pick true h42 ⟨Below.refl _ _, h45⟩
    · intro _ a wx hb hk
      have h39 : a.eval (.tmp 39) = .bool false := Eq.mp (by kernel_rfl) (hk 39 (by decide))
      have h46 : a.eval (.tmp 46) = .bool false := Eq.mp (by kernel_rfl) (hk 46 (by decide))
      exact Rg.does_pick false h39 ⟨Below.refl _ _, h46⟩
    intro vals wD hbD hL
    obtain ⟨g0, g1, g2, g3, g4, g5, g6, g7, g8, g9, g10, g11, g12, g13, g14, g15, g16, g17, g18, g19, g20, g21, g22, g23, _⟩ := hL
    have HQD := Lib.hid (heap_below hbD HQ5.out)
    have HAD := Lib.hid (heap_below hbD HA5.out)
    have Hsa6 := Lib.hid (Hsa5.out.below stable_strAt hbD)
    have Hrow6 := Lib.hid (Hrow5.out.below stable_byteAt hbD)
    have HBD : Hid (Below w.heap.size w wD) := HB5.out.trans (hbD.mono HB5.out.size)
    have hres : vals 23 = .bool false := g23
    clear g0 g1 g2 g3 g4 g5 g6 g7 g8 g9 g10 g11 g12 g13 g14 g15 g16 g17 g18 g19 g20 g21 g22 g23 hbD
    simp only [Rg.putAll, List.setIfInBounds_toArray, List.set_cons_succ, List.set_cons_zero, hres]
    by_cases hf : f = 0
    · obtain ⟨hG1, hG2, hG3⟩ := HG.out hf
      obtain ⟨hX1, hX2⟩ := HGO.out hf
      have HGin := Lib.hid hG1
      have HOX := Lib.hid hX1
      have HFT := Lib.hid hX2
      have HTY : Hid (r.text.length ≤ 10000000 ∧ (texts r.list).length ≤ 100000000) := by have h1 := tellB_parts r; rw [hG3] at h1; have := HBL.out; exact ⟨by omega, by omega⟩
      subst hf
      clear hG1 hG2 hG3 hX1 hX2
      have HM0 : Hid (wD.cell? ⟨pa, 0, none⟩ = some (.int .i64 r.kind)) := by have := HAD.out; show _ = _; simp [World.cell?, this]
      have HM1 : Hid (wD.cell? ⟨pa, 1, none⟩ = some (.int .i64 r.err)) := by have := HAD.out; show _ = _; simp [World.cell?, this]
      have HM2 : Hid (wD.cell? ⟨pa, 2, none⟩ = some (.int .i64 r.n)) := by have := HAD.out; show _ = _; simp [World.cell?, this]
      have HM3 : Hid (wD.cell? ⟨pa, 3, none⟩ = some (.int .i64 r.m)) := by have := HAD.out; show _ = _; simp [World.cell?, this]
      have HM4 : Hid (wD.cell? ⟨pa, 4, none⟩ = some (.string (str r.text))) := by have := HAD.out; show _ = _; simp [World.cell?, this]
      have HM5 : Hid (wD.cell? ⟨pa, 5, none⟩ = some (.slice aa r.list.length ca)) := by have := HAD.out; show _ = _; simp [World.cell?, this]
      have HM6 : Hid (wD.cell? ⟨pa, 6, none⟩ = some (.int .i64 r.sig)) := by have := HAD.out; show _ = _; simp [World.cell?, this]
      go_wp2_with fail
      refine Rg.wp_region_rgl [true, true, true, true, true, true, true, true, true, true, true, true, true, true, true, true, true, false, false, false, false, false, false, false, false, false, false, false, false, false, true, true] [Rg.Is (.int .i64 0), Rg.Is (.bool true), Rg.Is (.bool true), Rg.Is (.agg #[.int .i64 r.kind, .int .i64 r.err, .int .i64 r.n, .int .i64 r.m, .string (str r.text), .slice aa r.list.length ca, .int .i64 r.sig]), (fun v w => ∃ a c, v = .slice a b.length c ∧ Bytes w a b.length c b), Rg.Is (.string (str b)), Rg.Is (.slice a0 n cap), Rg.Is (.string (str b)), Rg.Is (.bool true), Rg.Is (.bool true), Rg.Is (.bool true), Rg.Is (.pointer (some ⟨pa, 0, none⟩)), Rg.Is (.int .i64 r.kind), Rg.Is (.agg #[.int .i64 r.kind, .int .i64 r.err, .int .i64 r.n, .int .i64 r.m, .string (str r.text), .slice aa r.list.length ca, .int .i64 r.sig]), Rg.Is (.bool true), Rg.Is (.bool true), Rg.Is (.bool true), (fun _ _ => True), (fun _ _ => True), (fun _ _ => True), (fun _ _ => True), (fun _ _ => True), (fun _ _ => True), (fun _ _ => True), (fun _ _ => True), (fun _ _ => True), (fun _ _ => True), (fun _ _ => True), (fun _ _ => True), (fun _ _ => True), Rg.Is (.bool true), Rg.Is (.bool true)] (by kernel_rfl) (by kernel_rfl) (by kernel_rfl) ⟨Rg.st_is _, Rg.st_is _, Rg.st_is _, Rg.st_is _, fun v w w' h hb => by obtain ⟨a, c, hv, hr⟩ := h; exact ⟨a, c, hv, hr.below stable_byteAt hb⟩, Rg.st_is _, Rg.st_is _, Rg.st_is _, Rg.st_is _, Rg.st_is _, Rg.st_is _, Rg.st_is _, Rg.st_is _, Rg.st_is _, Rg.st_is _, Rg.st_is _, Rg.st_is _, fun _ _ _ h _ => h, fun _ _ _ h _ => h, fun _ _ _ h _ => h, fun _ _ _ h _ => h, fun _ _ _ h _ => h, fun _ _ _ h _ => h, fun _ _ _ h _ => h, fun _ _ _ h _ => h, fun _ _ _ h _ => h, fun _ _ _ h _ => h, fun _ _ _ h _ => h, fun _ _ _ h _ => h, fun _ _ _ h _ => h, Rg.st_is _, Rg.st_is _, trivial⟩ ⟨rfl, rfl, rfl, ⟨rfl, fun _ _ h => h⟩, ⟨rfl, fun _ _ h => h⟩, ⟨rfl, fun _ _ h => h⟩, ⟨rfl, fun _ _ h => h⟩, ⟨rfl, fun _ _ h => h⟩, ⟨rfl, fun _ _ h => h⟩, rfl, rfl, ⟨rfl, fun _ _ h => h⟩, ⟨rfl, fun _ _ h => h⟩, ⟨rfl, fun _ _ h => h⟩, ⟨rfl, fun _ _ h => h⟩, rfl, rfl, Or.inr fun _ _ h => h, Or.inr fun _ _ h => h, Or.inr fun _ _ h => h, Or.inl rfl, Or.inl rfl, Or.inl rfl, Or.inr fun _ _ h => h, Or.inr fun _ _ h => h, Or.inl rfl, Or.inl rfl, Or.inl rfl, Or.inl rfl, Or.inr fun _ _ h => h, rfl, rfl, trivial⟩ ⟨?_, ?_, ?_, ?_, ?_, ?_, ?_, ?_, ?_, ?_, ?_, ?_, ?_, ?_, ?_, ?_, ?_, ?_, ?_, ?_, ?_, ?_, ?_, ?_, ?_, ?_, ?_, ?_, ?_, ?_, ?_, ?_, trivial⟩ ?_
      · intro _ a wx hb hk
        have h7 : a.eval (.tmp 7) = .int .i64 0 := Eq.mp (by kernel_rfl) (hk 7 (by decide))
        exact Rg.does_move ⟨Below.refl _ _, h7⟩
      · intro _ a wx hb hk
        have h48 : a.eval (.tmp 48) = .int .i64 0 := Eq.mp (by kernel_rfl) (hk 48 (by decide))
        exact Rg.does_same_int .i64 _ h48 rfl ⟨Below.refl _ _, rfl⟩
      · intro _ a wx hb hk
        have h49 : a.eval (.tmp 49) = .bool true := Eq.mp (by kernel_rfl) (hk 49 (by decide))
        exact Rg.does_move ⟨Below.refl _ _, h49⟩
      · intro _ a wx hb hk
        have h6 : a.eval (.tmp 6) = .pointer (some ⟨pa, 0, none⟩) := Eq.mp (by kernel_rfl) (hk 6 (by decide))
        exact Rg.does_load _ _ h6 (load_ans (cell_below hb (Nat.le_refl _) HM0.out) (cell_below hb (Nat.le_refl _) HM1.out) (cell_below hb (Nat.le_refl _) HM2.out) (cell_below hb (Nat.le_refl _) HM3.out) (cell_below hb (Nat.le_refl _) HM4.out) (cell_below hb (Nat.le_refl _) HM5.out) (cell_below hb (Nat.le_refl _) HM6.out)) ⟨Below.refl _ _, rfl⟩
      · intro _ a wx hb hk
        have h51 : a.eval (.tmp 51) = .agg #[.int .i64 r.kind, .int .i64 r.err, .int .i64 r.n, .int .i64 r.m, .string (str r.text), .slice aa r.list.length ca, .int .i64 r.sig] := Eq.mp (by kernel_rfl) (hk 51 (by decide))
        refine Rg.does_func #[.agg #[.int .i64 r.kind, .int .i64 r.err, .int .i64 r.n, .int .i64 r.m, .string (str r.text), .slice aa r.list.length ca, .int .i64 r.sig]] Tryd.func20 (by kernel_rfl) (by kernel_rfl) (by simp [h51]) (ev_tell_calls wx r aa ca (Hsa6.out.below stable_strAt hb) HGin.out.n HGin.out.m HTY.out.1 HTY.out.2) ?_
        rintro e' w' ⟨v, rfl, ho, hb'⟩
        rw [HOX.out] at ho
        obtain ⟨a2, c2, hv2, hr2⟩ := ownsRow_bytes ho
        exact ⟨_, rfl, hb', a2, c2, hv2, hr2⟩
      · intro _ a wx hb hk
        have h52 : (fun v w => ∃ a c, v = .slice a b.length c ∧ Bytes w a b.length c b) (a.eval (.tmp 52)) wx := Eq.mp (by kernel_rfl) (hk 52 (by decide))
        obtain ⟨a', c', hv, hr⟩ := h52
        exact Rg.does_convert _ _ hv (str_bytes hr) ⟨Below.refl _ _, rfl⟩
      · intro _ a wx hb hk
        have h0 : a.eval (.tmp 0) = .slice a0 n cap := Eq.mp (by kernel_rfl) (hk 0 (by decide))
        exact Rg.does_move ⟨Below.refl _ _, h0⟩
      · intro _ a wx hb hk
        have h54 : a.eval (.tmp 54) = .slice a0 n cap := Eq.mp (by kernel_rfl) (hk 54 (by decide))
        exact Rg.does_convert _ _ h54 (str_bytes (Hrow6.out.below stable_byteAt hb)) ⟨Below.refl _ _, rfl⟩
      · intro _ a wx hb hk
        have h53 : a.eval (.tmp 53) = .string (str b) := Eq.mp (by kernel_rfl) (hk 53 (by decide))
        have h55 : a.eval (.tmp 55) = .string (str b) := Eq.mp (by kernel_rfl) (hk 55 (by decide))
        exact Rg.does_same_string _ h53 h55 ⟨Below.refl _ _, rfl⟩
      · intro _ a wx hb hk
        have h50 : a.eval (.tmp 50) = .bool true := Eq.mp (by kernel_rfl) (hk 50 (by decide))
        have h56 : a.eval (.tmp 56) = .bool true := Eq.mp (by kernel_rfl) (hk 56 (by decide))
        exact Rg.does_pick true h50 ⟨Below.refl _ _, h56⟩
      · intro _ a wx hb hk
        have h57 : a.eval (.tmp 57) = .bool true := Eq.mp (by kernel_rfl) (hk 57 (by decide))
        exact Rg.does_move ⟨Below.refl _ _, h57⟩
      · intro _ a wx hb hk
        have h6 : a.eval (.tmp 6) = .pointer (some ⟨pa, 0, none⟩) := Eq.mp (by kernel_rfl) (hk 6 (by decide))
        exact Rs.does_field _ _ h6 (ans_f0 _ _) ⟨Below.refl _ _, rfl⟩
      · intro _ a wx hb hk
        have h59 : a.eval (.tmp 59) = .pointer (some ⟨pa, 0, none⟩) := Eq.mp (by kernel_rfl) (hk 59 (by decide))
        exact Rg.does_load _ _ h59 (load_int (cell_below hb (Nat.le_refl _) HM0.out)) ⟨Below.refl _ _, rfl⟩
      · intro _ a wx hb hk
        have h6 : a.eval (.tmp 6) = .pointer (some ⟨pa, 0, none⟩) := Eq.mp (by kernel_rfl) (hk 6 (by decide))
        exact Rg.does_load _ _ h6 (load_ans (cell_below hb (Nat.le_refl _) HM0.out) (cell_below hb (Nat.le_refl _) HM1.out) (cell_below hb (Nat.le_refl _) HM2.out) (cell_below hb (Nat.le_refl _) HM3.out) (cell_below hb (Nat.le_refl _) HM4.out) (cell_below hb (Nat.le_refl _) HM5.out) (cell_below hb (Nat.le_refl _) HM6.out)) ⟨Below.refl _ _, rfl⟩
      · intro _ a wx hb hk
        have h60 : a.eval (.tmp 60) = .int .i64 r.kind := Eq.mp (by kernel_rfl) (hk 60 (by decide))
        have h61 : a.eval (.tmp 61) = .agg #[.int .i64 r.kind, .int .i64 r.err, .int .i64 r.n, .int .i64 r.m, .string (str r.text), .slice aa r.list.length ca, .int .i64 r.sig] := Eq.mp (by kernel_rfl) (hk 61 (by decide))
        refine Rg.does_func #[.int .i64 r.kind, .agg #[.int .i64 r.kind, .int .i64 r.err, .int .i64 r.n, .int .i64 r.m, .string (str r.text), .slice aa r.list.length ca, .int .i64 r.sig]] Tryd.func14 (by kernel_rfl) (by kernel_rfl) (by simp [h60, h61]) (ev_fits_calls wx r.kind r aa ca) ?_
        rintro e' w' ⟨rfl, hb'⟩
        exact ⟨_, rfl, hb', by show _ = _; rw [HFT.out]⟩
      · intro _ a wx hb hk
        have h58 : a.eval (.tmp 58) = .bool true := Eq.mp (by kernel_rfl) (hk 58 (by decide))
        have h62 : a.eval (.tmp 62) = .bool true := Eq.mp (by kernel_rfl) (hk 62 (by decide))
        exact Rg.does_pick true h58 ⟨Below.refl _ _, h62⟩
      · intro _ a wx hb hk
        have h63 : a.eval (.tmp 63) = .bool true := Eq.mp (by kernel_rfl) (hk 63 (by decide))
        exact Rg.does_move ⟨Below.refl _ _, h63⟩
      · intro h; exact absurd h (by decide)
      · intro h; exact absurd h (by decide)
      · intro h; exact absurd h (by decide)
      · intro h; exact absurd h (by decide)
      · intro h; exact absurd h (by decide)
      · intro h; exact absurd h (by decide)
      · intro h; exact absurd h (by decide)
      · intro h; exact absurd h (by decide)
      · intro h; exact absurd h (by decide)
      · intro h; exact absurd h (by decide)
      · intro h; exact absurd h (by decide)
      · intro h; exact absurd h (by decide)
      · intro h; exact absurd h (by decide)
      · intro _ a wx hb hk
        have h64 : a.eval (.tmp 64) = .bool true := Eq.mp (by kernel_rfl) (hk 64 (by decide))
        have h77 : a.eval (.tmp 77) = undef := Eq.mp (by kernel_rfl) (hk 77 (by decide))
        exact Rg.does_pick true h64 ⟨Below.refl _ _, rfl⟩
      · intro _ a wx hb hk
        have h78 : a.eval (.tmp 78) = .bool true := Eq.mp (by kernel_rfl) (hk 78 (by decide))
        exact Rg.does_assign ⟨Below.refl _ _, h78⟩
      intro vals wE hbD hL
      obtain ⟨g0, g1, g2, g3, g4, g5, g6, g7, g8, g9, g10, g11, g12, g13, g14, g15, g16, g17, g18, g19, g20, g21, g22, g23, g24, g25, g26, g27, g28, g29, g30, g31, _⟩ := hL
      have HBE : Hid (Below w.heap.size w wE) := HBD.out.trans (hbD.mono HBD.out.size)
      have hres2 : vals 31 = .bool true := g31
      clear g0 g1 g2 g3 g4 g5 g6 g7 g8 g9 g10 g11 g12 g13 g14 g15 g16 g17 g18 g19 g20 g21 g22 g23 g24 g25 g26 g27 g28 g29 g30 g31 hbD
      simp only [Rg.putAll, List.setIfInBounds_toArray, List.set_cons_succ, List.set_cons_zero]
      go_wp2_with fail
      go_ret
      exact ⟨by rw [← hres2]; rfl, HBE.out⟩
    · have hz := HGZ.out hf
      subst hz
      have HNY := Lib.hid hf
      have HNF : Hid ((f == 0) = false) := by show _ = _; rw [beq_eq_false_iff_ne]; exact hf
      clear hf
      have HM0 : Hid (wD.cell? ⟨pa, 0, none⟩ = some (.int .i64 Ans.zero.kind)) := by have := HAD.out; show _ = _; simp [World.cell?, this]
      have HM1 : Hid (wD.cell? ⟨pa, 1, none⟩ = some (.int .i64 Ans.zero.err)) := by have := HAD.out; show _ = _; simp [World.cell?, this]
      have HM2 : Hid (wD.cell? ⟨pa, 2, none⟩ = some (.int .i64 Ans.zero.n)) := by have := HAD.out; show _ = _; simp [World.cell?, this]
      have HM3 : Hid (wD.cell? ⟨pa, 3, none⟩ = some (.int .i64 Ans.zero.m)) := by have := HAD.out; show _ = _; simp [World.cell?, this]
      have HM4 : Hid (wD.cell? ⟨pa, 4, none⟩ = some (.string (str Ans.zero.text))) := by have := HAD.out; show _ = _; simp [World.cell?, this]
      have HM5 : Hid (wD.cell? ⟨pa, 5, none⟩ = some (.slice aa Ans.zero.list.length ca)) := by have := HAD.out; show _ = _; simp [World.cell?, this]
      have HM6 : Hid (wD.cell? ⟨pa, 6, none⟩ = some (.int .i64 Ans.zero.sig)) := by have := HAD.out; show _ = _; simp [World.cell?, this]
      go_wp2_with fail
      refine Rg.wp_region_rgl [true, true, true, false, false, false, false, false, false, true, true, false, false, false, false, true, true, true, true, true, true, true, true, true, true, true, true, true, true, true, true, true] [Rg.Is (.int .i64 f), Rg.Is (.bool false), Rg.Is (.bool false), (fun _ _ => True), (fun _ _ => True), (fun _ _ => True), (fun _ _ => True), (fun _ _ => True), (fun _ _ => True), Rg.Is (.bool false), Rg.Is (.bool false), (fun _ _ => True), (fun _ _ => True), (fun _ _ => True), (fun _ _ => True), Rg.Is (.bool false), Rg.Is (.bool false), Rg.Is (.int .i64 f), Rg.Is (.bool true), Rg.Is (.bool true), Rg.Is (.pointer (some ⟨pa, 0, none⟩)), Rg.Is (.int .i64 0), Rg.Is (.bool true), Rg.Is (.bool true), Rg.Is (.bool true), Rg.Is (.pointer (some ⟨pa, 5, none⟩)), Rg.Is (.slice aa 0 ca), Rg.Is (.int .i64 0), Rg.Is (.bool true), Rg.Is (.bool true), Rg.Is (.bool true), Rg.Is (.bool true)] (by kernel_rfl) (by kernel_rfl) (by kernel_rfl) ⟨Rg.st_is _, Rg.st_is _, Rg.st_is _, fun _ _ _ h _ => h, fun _ _ _ h _ => h, fun _ _ _ h _ => h, fun _ _ _ h _ => h, fun _ _ _ h _ => h, fun _ _ _ h _ => h, Rg.st_is _, Rg.st_is _, fun _ _ _ h _ => h, fun _ _ _ h _ => h, fun _ _ _ h _ => h, fun _ _ _ h _ => h, Rg.st_is _, Rg.st_is _, Rg.st_is _, Rg.st_is _, Rg.st_is _, Rg.st_is _, Rg.st_is _, Rg.st_is _, Rg.st_is _, Rg.st_is _, Rg.st_is _, Rg.st_is _, Rg.st_is _, Rg.st_is _, Rg.st_is _, Rg.st_is _, Rg.st_is _, trivial⟩ ⟨rfl, rfl, rfl, Or.inr fun _ _ h => h, Or.inr fun _ _ h => h, Or.inr fun _ _ h => h, Or.inr fun _ _ h => h, Or.inr fun _ _ h => h, Or.inr fun _ _ h => h, rfl, rfl, Or.inr fun _ _ h => h, Or.inr fun _ _ h => h, Or.inr fun _ _ h => h, Or.inr fun _ _ h => h, rfl, rfl, ⟨rfl, fun _ _ h => h⟩, ⟨rfl, fun _ _ h => h⟩, ⟨rfl, fun _ _ h => h⟩, ⟨rfl, fun _ _ h => h⟩, ⟨rfl, fun _ _ h => h⟩, ⟨rfl, fun _ _ h => h⟩, ⟨rfl, fun _ _ h => h⟩, ⟨rfl, fun _ _ h => h⟩, ⟨rfl, fun _ _ h => h⟩, ⟨rfl, fun _ _ h => h⟩, ⟨rfl, fun _ _ h => h⟩, ⟨rfl, fun _ _ h => h⟩, ⟨rfl, fun _ _ h => h⟩, rfl, rfl, trivial⟩ ⟨?_, ?_, ?_, ?_, ?_, ?_, ?_, ?_, ?_, ?_, ?_, ?_, ?_, ?_, ?_, ?_, ?_, ?_, ?_, ?_, ?_, ?_, ?_, ?_, ?_, ?_, ?_, ?_, ?_, ?_, ?_, ?_, trivial⟩ ?_
      · intro _ a wx hb hk
        have h7 : a.eval (.tmp 7) = .int .i64 f := Eq.mp (by kernel_rfl) (hk 7 (by decide))
        exact Rg.does_move ⟨Below.refl _ _, h7⟩
      · intro _ a wx hb hk
        have h48 : a.eval (.tmp 48) = .int .i64 f := Eq.mp (by kernel_rfl) (hk 48 (by decide))
        exact Rg.does_eq_int .i64 _ _ h48 rfl ⟨Below.refl _ _, by show _ = _; rw [HNF.out]⟩
      · intro _ a wx hb hk
        have h49 : a.eval (.tmp 49) = .bool false := Eq.mp (by kernel_rfl) (hk 49 (by decide))
        exact Rg.does_move ⟨Below.refl _ _, h49⟩
      · intro h; exact absurd h (by decide)
      · intro h; exact absurd h (by decide)
      · intro h; exact absurd h (by decide)
      · intro h; exact absurd h (by decide)
      · intro h; exact absurd h (by decide)
      · intro h; exact absurd h (by decide)
      · intro _ a wx hb hk
        have h50 : a.eval (.tmp 50) = .bool false := Eq.mp (by kernel_rfl) (hk 50 (by decide))
        have h56 : a.eval (.tmp 56) = undef := Eq.mp (by kernel_rfl) (hk 56 (by decide))
        exact Rg.does_pick false h50 ⟨Below.refl _ _, rfl⟩
      · intro _ a wx hb hk
        have h57 : a.eval (.tmp 57) = .bool false := Eq.mp (by kernel_rfl) (hk 57 (by decide))
        exact Rg.does_move ⟨Below.refl _ _, h57⟩
      · intro h; exact absurd h (by decide)
      · intro h; exact absurd h (by decide)
      · intro h; exact absurd h (by decide)
      · intro h; exact absurd h (by decide)
      · intro _ a wx hb hk
        have h58 : a.eval (.tmp 58) = .bool false := Eq.mp (by kernel_rfl) (hk 58 (by decide))
        have h62 : a.eval (.tmp 62) = undef := Eq.mp (by kernel_rfl) (hk 62 (by decide))
        exact Rg.does_pick false h58 ⟨Below.refl _ _, rfl⟩
      · intro _ a wx hb hk
        have h63 : a.eval (.tmp 63) = .bool false := Eq.mp (by kernel_rfl) (hk 63 (by decide))
        exact Rg.does_move ⟨Below.refl _ _, h63⟩
      · intro _ a wx hb hk
        have h7 : a.eval (.tmp 7) = .int .i64 f := Eq.mp (by kernel_rfl) (hk 7 (by decide))
        exact Rg.does_move ⟨Below.refl _ _, h7⟩
      · intro _ a wx hb hk
        have h65 : a.eval (.tmp 65) = .int .i64 f := Eq.mp (by kernel_rfl) (hk 65 (by decide))
        exact Rg.does_bin .i64 _ _ _ h65 rfl (Rs.run_neq HNY.out) ⟨Below.refl _ _, rfl⟩
      · intro _ a wx hb hk
        have h66 : a.eval (.tmp 66) = .bool true := Eq.mp (by kernel_rfl) (hk 66 (by decide))
        exact Rg.does_move ⟨Below.refl _ _, h66⟩
      · intro _ a wx hb hk
        have h6 : a.eval (.tmp 6) = .pointer (some ⟨pa, 0, none⟩) := Eq.mp (by kernel_rfl) (hk 6 (by decide))
        exact Rs.does_field _ _ h6 (ans_f0 _ _) ⟨Below.refl _ _, rfl⟩
      · intro _ a wx hb hk
        have h68 : a.eval (.tmp 68) = .pointer (some ⟨pa, 0, none⟩) := Eq.mp (by kernel_rfl) (hk 68 (by decide))
        exact Rg.does_load _ _ h68 (load_int (cell_below hb (Nat.le_refl _) HM0.out)) ⟨Below.refl _ _, rfl⟩
      · intro _ a wx hb hk
        have h69 : a.eval (.tmp 69) = .int .i64 0 := Eq.mp (by kernel_rfl) (hk 69 (by decide))
        exact Rg.does_same_int .i64 _ h69 rfl ⟨Below.refl _ _, rfl⟩
      · intro _ a wx hb hk
        have h67 : a.eval (.tmp 67) = .bool true := Eq.mp (by kernel_rfl) (hk 67 (by decide))
        have h70 : a.eval (.tmp 70) = .bool true := Eq.mp (by kernel_rfl) (hk 70 (by decide))
        exact Rg.does_pick true h67 ⟨Below.refl _ _, h70⟩
      · intro _ a wx hb hk
        have h71 : a.eval (.tmp 71) = .bool true := Eq.mp (by kernel_rfl) (hk 71 (by decide))
        exact Rg.does_move ⟨Below.refl _ _, h71⟩
      · intro _ a wx hb hk
        have h6 : a.eval (.tmp 6) = .pointer (some ⟨pa, 0, none⟩) := Eq.mp (by kernel_rfl) (hk 6 (by decide))
        exact Rs.does_field _ _ h6 (ans_f5 _ _) ⟨Below.refl _ _, rfl⟩
      · intro _ a wx hb hk
        have h73 : a.eval (.tmp 73) = .pointer (some ⟨pa, 5, none⟩) := Eq.mp (by kernel_rfl) (hk 73 (by decide))
        exact Rg.does_load _ _ h73 (load_strs (cell_below hb (Nat.le_refl _) HM5.out)) ⟨Below.refl _ _, rfl⟩
      · intro _ a wx hb hk
        have h74 : a.eval (.tmp 74) = .slice aa 0 ca := Eq.mp (by kernel_rfl) (hk 74 (by decide))
        exact Rg.does_len _ _ _ Tryd.underlying22 h74 ⟨Below.refl _ _, rfl⟩
      · intro _ a wx hb hk
        have h75 : a.eval (.tmp 75) = .int .i64 0 := Eq.mp (by kernel_rfl) (hk 75 (by decide))
        exact Rg.does_same_int .i64 _ h75 rfl ⟨Below.refl _ _, rfl⟩
      · intro _ a wx hb hk
        have h72 : a.eval (.tmp 72) = .bool true := Eq.mp (by kernel_rfl) (hk 72 (by decide))
        have h76 : a.eval (.tmp 76) = .bool true := Eq.mp (by kernel_rfl) (hk 76 (by decide))
        exact Rg.does_pick true h72 ⟨Below.refl _ _, h76⟩
      · intro _ a wx hb hk
        have h64 : a.eval (.tmp 64) = .bool false := Eq.mp (by kernel_rfl) (hk 64 (by decide))
        have h77 : a.eval (.tmp 77) = .bool true := Eq.mp (by kernel_rfl) (hk 77 (by decide))
        exact Rg.does_pick false h64 ⟨Below.refl _ _, h77⟩
      · intro _ a wx hb hk
        have h78 : a.eval (.tmp 78) = .bool true := Eq.mp (by kernel_rfl) (hk 78 (by decide))
        exact Rg.does_assign ⟨Below.refl _ _, h78⟩
      intro vals wE hbD hL
      obtain ⟨g0, g1, g2, g3, g4, g5, g6, g7, g8, g9, g10, g11, g12, g13, g14, g15, g16, g17, g18, g19, g20, g21, g22, g23, g24, g25, g26, g27, g28, g29, g30, g31, _⟩ := hL
      have HBE : Hid (Below w.heap.size w wE) := HBD.out.trans (hbD.mono HBD.out.size)
      have hres2 : vals 31 = .bool true := g31
      clear g0 g1 g2 g3 g4 g5 g6 g7 g8 g9 g10 g11 g12 g13 g14 g15 g16 g17 g18 g19 g20 g21 g22 g23 g24 g25 g26 g27 g28 g29 g30 g31 hbD
      simp only [Rg.putAll, List.setIfInBounds_toArray, List.set_cons_succ, List.set_cons_zero]
      go_wp2_with fail
      go_ret
      exact ⟨by rw [← hres2]; rfl, HBE.out⟩

end Go.Proofs.YtbbnopikinlcdaaDoor
