/-
  EnvPlays: whatever is done, the program's Env is the document's: the walk. Conditions: the library lies where it was laid; what is asked fits.
-/
import Derived.Test.YtchmpkgjjkfjcaaDoorEpState
import Derived.OneCell
import Derived.Deep.CutBlock
import Derived.Deep.DeepCutAuto
set_option linter.unusedVariables false
set_option maxRecDepth 100000
namespace Go.Proofs.YtchmpkgjjkfjcaaDoor
open Go.RowKit Base

theorem load_envE {w : World} {b : Nat} {v0 v1 v2 v3 : Value} (h0 : w.cell? ⟨b, 0, none⟩ = some v0) (h1 : w.cell? ⟨b, 1, none⟩ = some v1) (h2 : w.cell? ⟨b, 2, none⟩ = some v2) (h3 : w.cell? ⟨b, 3, none⟩ = some v3) : (Instr.loadAt 28 (.pointer (some ⟨b, 0, none⟩))).run Tryd.prog w = .ok (.agg #[v0, v1, v2, v3]) w := by
  go_simp
theorem does_not {P : Program} {a : Act} {w : World} {post : Value → World → Prop} {dst : Option Tmp} {x : Operand} {t : TypeId} {ty : TypeId} {pos : String} {after : Array Edge} {guard : Option (Nat × Bool)} (b : Bool)
    (hx : a.eval x = .bool b) (hp : post (.bool (!b)) w) : Rg.does P { dst, op := .unOp .not t x, type := ty, pos, after, guard } a w post := by
  refine Rg.does_value (v := .bool (!b)) ?_ hp
  simp [execOp, hx, Op.unary]
theorem does_ne_bool {P : Program} {a : Act} {w : World} {post : Value → World → Prop} {dst : Option Tmp} {x y : Operand} {t u : TypeId} {ty : TypeId} {pos : String} {after : Array Edge} {guard : Option (Nat × Bool)} (m : Bool)
    (ht : P.underlying t = some .bool) (hx : a.eval x = .bool m) (hy : a.eval y = .bool m) (hp : post (.bool false) w) : Rg.does P { dst, op := .binOp .neq t x y u, type := ty, pos, after, guard } a w post := by
  refine Rg.does_value (v := .bool false) ?_ hp
  have h := run_neq_bool (P := P) (w := w) t m m ht
  rw [beq_self_eq_true] at h
  simp [execOp, hx, hy, eqGuard_at_bool, h, Result.andThen]
def asksL : Nm := [101, 102, 117, 120, 63, 97]
theorem asks_index {k : Nat} {f : UInt8} (h : asksL[k]? = some f) (W : World) : (Instr.index 9 (.string { data := #[101, 102, 117, 120, 63, 97] }) (.int .i64 (k : Int))).run Tryd.prog W = .ok (.int .u8 (f.toNat : Int)) W := by
  obtain ⟨hk, rfl⟩ := List.getElem?_eq_some_iff.1 h
  exact Sw.run_at (P := Tryd.prog) (w := W) Tryd.underlying9 asksL .i64 k hk
set_option maxHeartbeats 8000000 in
theorem env_plays (w : World) (sl : Option Addr) (n c : Nat) (l : List Act5) (h : Acts w sl n c l) (ad : Option Addr) (m mc : Nat) (ask : List Nm) (ha : Sts w ad m mc ask) (hw : ∀ s ∈ ask, s.length ≤ 281474976710656) (hL : Lw w) :
    Calls Tryd.prog 4 #[.slice sl n c, .slice ad m mc] w fun e w' => e = .returned (.bool true) ∧ Below w.heap.size w w' := by
  obtain rfl := h.1
  obtain rfl := ha.1
  have H := Lib.hid h
  have HK := Lib.hid ha
  have HW := Lib.hid hw
  have HL := Lib.hid hL
  clear h ha hw hL
  go_enter Tryd.func4, Tryd.ntmps4
  go_wp2_with fail
  refine (awake_calls w HL.out).mono ?_
  rintro e w0 ⟨rfl, hb0⟩
  have HB0 := Lib.hid hb0
  clear hb0
  go_wp2_with fail
  refine (few_calls w0 sl _ c l (H.out.below (Ap.stable_cellsAt actC5) HB0.out)).mono ?_
  rintro e w1 ⟨rfl, rfl⟩
  by_cases hf : fewB l = true
  rotate_left
  · have hf2 : fewB l = false := by simpa using hf
    rw [hf2]
    clear hf hf2
    go_wp2_with fail
    go_ret
    exact ⟨rfl, HB0.out⟩
  obtain ⟨hl60, hsz⟩ := few_sizes hf
  have HL60 := Lib.hid hl60
  have HSz := Lib.hid hsz
  rw [hf]
  clear hf hl60 hsz
  by_cases hn : ask.length ≤ 20
  rotate_left
  · have t1 : decide ((20 : Int) < (ask.length : Int)) = true := decide_eq_true (by omega)
    go_wp2_with fail
    go_ret
    exact ⟨rfl, HB0.out⟩
  have t1 : decide ((20 : Int) < (ask.length : Int)) = false := decide_eq_false (by omega)
  have HN := Lib.hid hn
  clear hn
  go_upto_region 9 with fail
  clear t1
  obtain ⟨hb0, hb1, hbB, hbs⟩ := two_boxes w1 (.cells #[.slice none 0 0, .slice none 0 0, .int .i64 0, .string ⟨#[]⟩] 28) (.cells #[.slice none 0 0, .slice none 0 0, .int .i64 0, .string ⟨#[]⟩] 41)
  generalize (w1.alloc (.cells #[.slice none 0 0, .slice none 0 0, .int .i64 0, .string ⟨#[]⟩] 28)).alloc (.cells #[.slice none 0 0, .slice none 0 0, .int .i64 0, .string ⟨#[]⟩] 41) = w2 at *
  have HBl : Hid (w.heap.size ≤ w1.heap.size) := HB0.out.size
  have HB2 := Lib.hid (HB0.out.trans (hbB.mono HB0.out.size))
  generalize w1.heap.size = B at *
  have HE0 : Hid (BxE B [] [] [] none 0 none 0 w2) := ⟨hb0, ⟨World.ownsRow_nil _ _ _ _, sts_nil w2⟩, (fun ad h => by cases h), by omega⟩
  have HR0 : Hid (BxR B [] [] [] none 0 none 0 w2) := ⟨hb1, World.ownsRow_nil _ _ _ _, sts_nil w2, (fun ad h => by cases h), by omega⟩
  clear hb0 hb1 hbB hbs HB0
  go_wp2_with fail
  go_loopw [9] (fun v9 wr => ∃ (k : Nat) (vl : List Vr) (A : List Nm) (fl : Nm) (a : Option Addr) (c : Nat) (ga : Option Addr) (gc : Nat) (a2 : Option Addr) (c2 : Nat) (ga2 : Option Addr) (gc2 : Nat), k ≤ l.length ∧ v9 = .int .i64 k ∧ BxE B vl A fl a c ga gc wr ∧ BxR B vl A fl a2 c2 ga2 gc2 wr ∧ Sm vl A fl k ∧ Below w.heap.size w wr) (fun v9 _ => l.length - (intOf v9).toNat)
  case atStart => exact ⟨0, [], [], [], none, 0, none, 0, none, 0, none, 0, Nat.zero_le _, rfl, HE0.out, HR0.out, ⟨List.Pairwise.nil, Nat.le_refl _, by decide, by decide, by decide⟩, HB2.out⟩
  case round =>
    clear HE0 HR0 HB2
    obtain ⟨k, vl, A, fl, a1, c', ga, gc, a2, c2, ga2, gc2, hk, rfl, he, hr, hs, hlow⟩ := hrel
    have HE := Lib.hid he
    have HR := Lib.hid hr
    have HS := Lib.hid hs
    have HLow := Lib.hid hlow
    clear he hr hs hlow
    by_cases hlt : k < l.length
    · obtain ⟨b, off, hcs, hix⟩ := acts_at (H.out.below (Ap.stable_cellsAt actC5) HLow.out)
      have hx := fun W => hix 22 Tryd.underlying22 .i64 k W hlt
      obtain ⟨x0, x1, x2, x3, x4⟩ := hcs k hlt
      have HQ := Lib.hid (HSz.out k hlt)
      have HLt := Lib.hid hlt
      clear hcs hix
      generalize l[k]'hlt = q at *
      generalize off + k * 5 = q0 at *
      have u3 : decide (k < l.length) = true := decide_eq_true (by omega)
      have u1 : decide ((k : Int) < (l.length : Int)) = true := decide_eq_true (by omega)
      have u2 : (k : Int) < (l.length : Int) := by omega
      go_upto_region 13 with fail
      clear x0 x1 x2 x3 x4 hx
      have hba := (Below.refl wr.heap.size wr).alloc (Nat.le_refl _) (.cells #[.int .u8 q.1, .string (str q.2.1), .string (str q.2.2.1), .bool q.2.2.2.1, .int .i64 q.2.2.2.2] 31)
      obtain ⟨⟨e0, e1, e2, e3⟩, f0, f1, f2, f3⟩ := env4 (HE.out.below hba).k
      go_upto_region 14 with fail
      have hbb := hba.alloc (by rw [World.size_alloc]; omega) (.cells #[.slice a1 vl.length c', .slice ga A.length gc, .int .i64 0, .string (str fl)] 28)
      obtain ⟨⟨d0, d1, d2, d3⟩, g0, g1, g2, g3⟩ := env4 (HR.out.below hbb).k
      clear e0 e1 e2 e3 f0 f1 f2 f3
      go_upto_region 15 with fail
      clear d0 d1 d2 d3 g0 g1 g2 g3 hba hbb
      obtain ⟨hws, hwb⟩ := Was.start HE.out HR.out q
      unfold actC5 at hws hwb
      have HE3 := Lib.hid (HE.out.below hwb)
      have HR3 := Lib.hid (HR.out.below hwb)
      have HLow3 := Lib.hid (HLow.out.trans (hwb.mono HLow.out.size))
      have HWas := Lib.hid hws
      clear hws hwb HE HR HLow
      generalize ((wr.alloc (.cells #[.int .u8 q.1, .string (str q.2.1), .string (str q.2.2.1), .bool q.2.2.2.1, .int .i64 q.2.2.2.2] 31)).alloc (.cells #[.slice a1 vl.length c', .slice ga A.length gc, .int .i64 0, .string (str fl)] 28)).alloc (.cells #[.slice a2 vl.length c2, .slice ga2 A.length gc2, .int .i64 0, .string (str fl)] 41) = w3 at *
      generalize wr.heap.size = bq at *
      obtain ⟨x0, x1, x2, x3, x4⟩ := act_five HWas.out.q
      go_upto_block 2 with fail
      clear x0 x1 x2 x3 x4
      go_cut [13] (fun s13 wx => Step B (k + 1) w3 wx)
      case first =>
        obtain ⟨x0, x1, x2, x3, x4⟩ := act_five HWas.out.q
        obtain ⟨⟨e0, e1, e2, e3⟩, f0, f1, f2, f3⟩ := env4 HE3.out.k
        have hq9 := HQ.out
        by_cases h0 : q.1 = 0
        · have t0 : decide (q.1 = 0) = true := decide_eq_true h0
          have t0' : (q.1 == 0) = true := by simpa using h0
          clear h0
          go_wp2_with fail
          refine (ev_set_calls w3 (B + 2) a1 c' vl ga gc A 0 fl q.2.1 q.2.2.1 HE3.out.ev HE3.out.size HS.out.rises (by have := HS.out.len; have := HL60.out; omega) (by omega)).mono ?_
          rintro e w4 ⟨a', cc, rfl, hev, hb4⟩
          have HSm := Lib.hid (HS.out.set q.2.1 q.2.2.1)
          have HRef := Lib.hid fun W (hv : Vrs W a2 vl.length c2 vl) => ref_set_calls W a2 vl.length c2 vl 0 fl q.2.1 q.2.2.1 ga2 A.length gc2 hv (by have := HS.out.len; have := HL60.out; omega) (by have := HQ.out; omega)
          generalize setB q.2.1 q.2.2.1 vl = vn at *
          have hE5 := (HE3.out.below hb4).set (fl' := fl) hev HE3.out.ap
          have hR5 := (HR3.out.below hb4).setE (.slice a' vn.length cc) (.slice ga A.length gc) 0 fl
          have hU5 := (Up2.of_below (B := B) hb4).trans (up2_set4 (B := B) w4 (.inl rfl) (.slice a' vn.length cc) (.slice ga A.length gc) 0 fl)
          unfold set4E at hE5 hR5 hU5
          have k4 := (HE3.out.below hb4).k
          clear e0 e1 e2 e3 f0 f1 f2 f3 x0 x1 x2 x3 x4
          obtain ⟨⟨e0, e1, e2, e3⟩, f0, f1, f2, f3⟩ := env4 k4
          have HE5 := Lib.hid hE5
          have HR5 := Lib.hid hR5
          have HU5 := Lib.hid hU5
          clear hE5 hR5 hU5 k4 hev
          go_upto_region 21 with fail
          generalize (((w4.setCell ⟨B, 0, none⟩ (.slice a' vn.length cc)).setCell ⟨B, 1, none⟩ (.slice ga A.length gc)).setCell ⟨B, 2, none⟩ (.int .i64 0)).setCell ⟨B, 3, none⟩ (.string (str fl)) = w5 at *
          have hW5 := HWas.out.up HU5.out
          obtain ⟨x0, x1, x2, x3, x4⟩ := act_five hW5.q
          clear e0 e1 e2 e3 f0 f1 f2 f3 hb4 hW5
          obtain ⟨⟨e0, e1, e2, e3⟩, f0, f1, f2, f3⟩ := env4 HR5.out.k
          go_wp2_with fail
          refine (HRef.out w5 HR5.out.vrs).mono ?_
          rintro e w6 ⟨v, rfl, hov, hb6⟩
          have ho6 := hov (B + 2) HR5.out.size HR5.out.own
          obtain ⟨a3, c3, rfl, _⟩ := rv_of_own ho6
          have hR7 := (HR5.out.below hb6).set (fl' := fl) ho6 (row_up2 HR5.out.args HR5.out.ap (Up2.of_below hb6)) HR5.out.ap
          have hE7 := (HE5.out.below hb6).setR (.slice a3 vn.length c3) (.slice ga2 A.length gc2) 0 fl
          have hU7 := (HU5.out.trans (Up2.of_below (B := B) hb6)).trans (up2_set4 (B := B) w6 (.inr rfl) (.slice a3 vn.length c3) (.slice ga2 A.length gc2) 0 fl)
          have k6 := (HR5.out.below hb6).k
          clear e0 e1 e2 e3 f0 f1 f2 f3 x0 x1 x2 x3 x4
          obtain ⟨⟨e0, e1, e2, e3⟩, f0, f1, f2, f3⟩ := env4 k6
          have HFin : Hid (Step B (k + 1) w3 _) := ⟨_, _, _, _, _, _, _, _, _, _, _, hE7, hR7, HSm.out, hU7⟩
          clear hE7 hR7 hU7 k6 ho6 hov hb6
          go_wp2_with fail
          go_meet
          exact HFin.out
        have t0 : decide (q.1 = 0) = false := decide_eq_false h0
        have t0' : (q.1 == 0) = false := by simpa using h0
        clear h0
        by_cases h0 : q.1 = 1
        · have t1 : decide (q.1 = 1) = true := decide_eq_true h0
          have t1' : (q.1 == 1) = true := by simpa using h0
          clear h0
          go_wp2_with fail
          refine (ev_unset_calls w3 (B + 2) a1 c' vl ga gc A 0 fl q.2.1 HE3.out.ev HE3.out.size HS.out.rises (by have := HS.out.len; have := HL60.out; omega)).mono ?_
          rintro e w4 ⟨a', cc, rfl, hev, hb4⟩
          have HSm := Lib.hid (HS.out.unset q.2.1)
          have HRef := Lib.hid fun W (hv : Vrs W a2 vl.length c2 vl) => ref_unset_calls W a2 vl.length c2 vl 0 fl q.2.1 ga2 A.length gc2 hv (by have := HS.out.len; have := HL60.out; omega)
          generalize withoutB vl q.2.1 = vn at *
          have hE5 := (HE3.out.below hb4).set (fl' := fl) hev HE3.out.ap
          have hR5 := (HR3.out.below hb4).setE (.slice a' vn.length cc) (.slice ga A.length gc) 0 fl
          have hU5 := (Up2.of_below (B := B) hb4).trans (up2_set4 (B := B) w4 (.inl rfl) (.slice a' vn.length cc) (.slice ga A.length gc) 0 fl)
          unfold set4E at hE5 hR5 hU5
          have k4 := (HE3.out.below hb4).k
          clear e0 e1 e2 e3 f0 f1 f2 f3 x0 x1 x2 x3 x4
          obtain ⟨⟨e0, e1, e2, e3⟩, f0, f1, f2, f3⟩ := env4 k4
          have HE5 := Lib.hid hE5
          have HR5 := Lib.hid hR5
          have HU5 := Lib.hid hU5
          clear hE5 hR5 hU5 k4 hev
          go_upto_region 24 with fail
          generalize (((w4.setCell ⟨B, 0, none⟩ (.slice a' vn.length cc)).setCell ⟨B, 1, none⟩ (.slice ga A.length gc)).setCell ⟨B, 2, none⟩ (.int .i64 0)).setCell ⟨B, 3, none⟩ (.string (str fl)) = w5 at *
          have hW5 := HWas.out.up HU5.out
          obtain ⟨x0, x1, x2, x3, x4⟩ := act_five hW5.q
          clear e0 e1 e2 e3 f0 f1 f2 f3 hb4 hW5
          obtain ⟨⟨e0, e1, e2, e3⟩, f0, f1, f2, f3⟩ := env4 HR5.out.k
          go_wp2_with fail
          refine (HRef.out w5 HR5.out.vrs).mono ?_
          rintro e w6 ⟨v, rfl, hov, hb6⟩
          have ho6 : OwnRv w6 (B + 2) v vn := by
            show World.ownsRow _ _ _ _ _ _ _
            exact own_base hov HR5.out.size
          obtain ⟨a3, c3, rfl, _⟩ := rv_of_own ho6
          have hR7 := (HR5.out.below hb6).set (fl' := fl) ho6 (row_up2 HR5.out.args HR5.out.ap (Up2.of_below hb6)) HR5.out.ap
          have hE7 := (HE5.out.below hb6).setR (.slice a3 vn.length c3) (.slice ga2 A.length gc2) 0 fl
          have hU7 := (HU5.out.trans (Up2.of_below (B := B) hb6)).trans (up2_set4 (B := B) w6 (.inr rfl) (.slice a3 vn.length c3) (.slice ga2 A.length gc2) 0 fl)
          have k6 := (HR5.out.below hb6).k
          clear e0 e1 e2 e3 f0 f1 f2 f3 x0 x1 x2 x3 x4
          obtain ⟨⟨e0, e1, e2, e3⟩, f0, f1, f2, f3⟩ := env4 k6
          have HFin : Hid (Step B (k + 1) w3 _) := ⟨_, _, _, _, _, _, _, _, _, _, _, hE7, hR7, HSm.out, hU7⟩
          clear hE7 hR7 hU7 k6 ho6 hov hb6
          go_wp2_with fail
          go_meet
          exact HFin.out
        have t1 : decide (q.1 = 1) = false := decide_eq_false h0
        have t1' : (q.1 == 1) = false := by simpa using h0
        clear h0
        by_cases h0 : q.1 = 2
        · have t2 : decide (q.1 = 2) = true := decide_eq_true h0
          have t2' : (q.1 == 2) = true := by simpa using h0
          clear h0
          obtain ⟨cb, hcb⟩ := byte_of q.2.2.2.2
          go_upto_region 27 with fail
          rw [← hcb]
          have HCb := Lib.hid hcb
          clear hcb
          go_wp2_with fail
          refine (en_flag_calls w3 _ _ _ 0 fl _ _ _ cb q.2.2.2.1).mono ?_
          rintro e w4 ⟨rfl, hb4⟩
          have HSm := Lib.hid (HS.out.flag cb q.2.2.2.1)
          have HRef := Lib.hid fun W => ref_flag_calls W a2 vl.length c2 0 fl ga2 A.length gc2 cb q.2.2.2.1 (by have := HS.out.fl; omega)
          generalize flagB fl cb q.2.2.2.1 = fn at *
          have hE5 := (HE3.out.below hb4).set (fl' := fn) (HE3.out.below hb4).ev HE3.out.ap
          have hR5 := (HR3.out.below hb4).setE (.slice a1 vl.length c') (.slice ga A.length gc) 0 fn
          have hU5 := (Up2.of_below (B := B) hb4).trans (up2_set4 (B := B) w4 (.inl rfl) (.slice a1 vl.length c') (.slice ga A.length gc) 0 fn)
          unfold set4E at hE5 hR5 hU5
          have k4 := (HE3.out.below hb4).k
          clear e0 e1 e2 e3 f0 f1 f2 f3 x0 x1 x2 x3 x4
          obtain ⟨⟨e0, e1, e2, e3⟩, f0, f1, f2, f3⟩ := env4 k4
          have HE5 := Lib.hid hE5
          have HR5 := Lib.hid hR5
          have HU5 := Lib.hid hU5
          clear hE5 hR5 hU5 k4
          go_upto_region 28 with fail
          generalize (((w4.setCell ⟨B, 0, none⟩ (.slice a1 vl.length c')).setCell ⟨B, 1, none⟩ (.slice ga A.length gc)).setCell ⟨B, 2, none⟩ (.int .i64 0)).setCell ⟨B, 3, none⟩ (.string (str fn)) = w5 at *
          have hW5 := HWas.out.up HU5.out
          obtain ⟨x0, x1, x2, x3, x4⟩ := act_five hW5.q
          clear e0 e1 e2 e3 f0 f1 f2 f3 hb4 hW5
          obtain ⟨⟨e0, e1, e2, e3⟩, f0, f1, f2, f3⟩ := env4 HR5.out.k
          go_wp2_with fail
          refine (HRef.out w5).mono ?_
          rintro e w6 ⟨rfl, hb6⟩
          have hR7 := (HR5.out.below hb6).set (fl' := fn) (HR5.out.below hb6).own (HR5.out.below hb6).args HR5.out.ap
          have hE7 := (HE5.out.below hb6).setR (.slice a2 vl.length c2) (.slice ga2 A.length gc2) 0 fn
          have hU7 := (HU5.out.trans (Up2.of_below (B := B) hb6)).trans (up2_set4 (B := B) w6 (.inr rfl) (.slice a2 vl.length c2) (.slice ga2 A.length gc2) 0 fn)
          have k6 := (HR5.out.below hb6).k
          clear e0 e1 e2 e3 f0 f1 f2 f3 x0 x1 x2 x3 x4
          obtain ⟨⟨e0, e1, e2, e3⟩, f0, f1, f2, f3⟩ := env4 k6
          have HFin : Hid (Step B (k + 1) w3 _) := ⟨_, _, _, _, _, _, _, _, _, _, _, hE7, hR7, HSm.out, hU7⟩
          clear hE7 hR7 hU7 k6 hb6
          go_wp2_with fail
          go_meet
          exact HFin.out
        have t2 : decide (q.1 = 2) = false := decide_eq_false h0
        have t2' : (q.1 == 2) = false := by simpa using h0
        clear h0
        by_cases h0 : q.1 = 3
        · have t3 : decide (q.1 = 3) = true := decide_eq_true h0
          have t3' : (q.1 == 3) = true := by simpa using h0
          clear h0
          by_cases hN : 0 ≤ q.2.2.2.2 ∧ q.2.2.2.2 ≤ (A.length : Int)
          · obtain ⟨z, hz, hzA⟩ : ∃ z : Nat, q.2.2.2.2 = (z : Int) ∧ z ≤ A.length := ⟨q.2.2.2.2.toNat, by omega, by omega⟩
            rw [hz] at x4
            have HZ := Lib.hid hz
            have HZA := Lib.hid hzA
            clear hN hz hzA
            go_wp2_with fail
            refine (en_shift_calls w3 a1 vl.length c' 0 fl ga A.length gc A z HE3.out.ev.args HZA.out (by have := HS.out.two; omega)).mono ?_
            rintro e w4 ⟨g, rfl, hg, hb4⟩
            have hap : ∀ ad, g.ownBlock = some ad → B + 2 ≤ ad := fun ad h => Nat.le_trans HE3.out.size (hg.lt ad h).1
            obtain ⟨a4, c4, hgv, hst4⟩ := sts_of_own hg
            subst hgv
            have hap4 : ∀ ad, a4 = some ad → B + 2 ≤ ad.block := fun ad h => Nat.le_trans HE3.out.size (own_ad hg ad h)
            have HSm := Lib.hid (HS.out.shift z)
            obtain ⟨a5, c5, hst5, hap5, hrun⟩ := sts_sub3 (HR3.out.below hb4).args z HZA.out
            generalize A.drop z = D at *
            have hk5 := heap_alloc_new w4 (.cells #[.slice a1 vl.length c', .slice a4 D.length c4, .int .i64 0, .string (str fl)] 28)
            have hba := (Below.refl w4.heap.size w4).alloc (Nat.le_refl _) (.cells #[.slice a1 vl.length c', .slice a4 D.length c4, .int .i64 0, .string (str fl)] 28)
            have hE5 := ((HE3.out.below hb4).below hba)
            have hR5 := ((HR3.out.below hb4).below hba)
            have hU5 := (Up2.of_below (B := B) hb4).trans (Up2.of_below (B := B) hba)
            have hS5 : Sts (w4.alloc (.cells #[.slice a1 vl.length c', .slice a4 D.length c4, .int .i64 0, .string (str fl)] 28)) a4 D.length c4 D := hst4.below (Ap.stable_cellsAt stC) hba
            have hT5 := hst5.below (Ap.stable_cellsAt stC) hba
            have hbn : w4.heap.size ≠ B := by have := (HE3.out.below hb4).size; omega
            have HHap5 : Hid (∀ ad, a5 = some ad → B + 2 ≤ ad.block) := fun ad h => by
              obtain ⟨ad0, h0, h1⟩ := hap5 ad h
              rw [h1]
              exact HR3.out.ap ad0 h0
            clear hap5 hst5 hst4 hap hg
            clear e0 e1 e2 e3 f0 f1 f2 f3 x0 x1 x2 x3 x4
            go_upto_region 31 with fail
            generalize w4.alloc (.cells #[.slice a1 vl.length c', .slice a4 D.length c4, .int .i64 0, .string (str fl)] 28) = w5 at *
            generalize w4.heap.size = bf at *
            have hE6 := hE5.set (l' := vl) (fl' := fl) ⟨hE5.ev.own, hS5⟩ hap4
            have hR6 := hR5.setE (.slice a1 vl.length c') (.slice a4 D.length c4) 0 fl
            have hU6 := hU5.trans (up2_set4 (B := B) w5 (.inl rfl) (.slice a1 vl.length c') (.slice a4 D.length c4) 0 fl)
            have hT6 := row_up2 hT5 HHap5.out (up2_set4 (B := B) w5 (.inl rfl) (.slice a1 vl.length c') (.slice a4 D.length c4) 0 fl)
            unfold set4E at hE6 hR6 hU6 hT6
            obtain ⟨⟨e0, e1, e2, e3⟩, f0, f1, f2, f3⟩ := env4 hE5.k
            obtain ⟨⟨d0, d1, d2, d3⟩, g0, g1, g2, g3⟩ := env4 hk5
            have HE6 := Lib.hid hE6
            have HR6 := Lib.hid hR6
            have HU6 := Lib.hid hU6
            have HT6 := Lib.hid hT6
            clear hE6 hR6 hU6 hT6 hE5 hR5 hU5 hS5 hT5 hk5 hb4 hba
            go_upto_region 32 with fail
            generalize (((w5.setCell ⟨B, 0, none⟩ (.slice a1 vl.length c')).setCell ⟨B, 1, none⟩ (.slice a4 D.length c4)).setCell ⟨B, 2, none⟩ (.int .i64 0)).setCell ⟨B, 3, none⟩ (.string (str fl)) = w6 at *
            clear e0 e1 e2 e3 f0 f1 f2 f3 d0 d1 d2 d3 g0 g1 g2 g3
            obtain ⟨x0, x1, x2, x3, x4⟩ := act_five (HWas.out.up HU6.out).q
            rw [HZ.out] at x4
            obtain ⟨⟨e0, e1, e2, e3⟩, f0, f1, f2, f3⟩ := env4 HR6.out.k
            have hzA := HZA.out
            have y1 : decide ((0 : Int) ≤ (z : Int)) = true := decide_eq_true (by omega)
            have y2 : decide ((z : Int) ≤ (A.length : Int)) = true := decide_eq_true (by omega)
            have y3 := fun W => hrun .i64 W
            have hE7 := HE6.out.setR1 (.slice a5 D.length c5)
            have hR7 := HR6.out.set1 HT6.out HHap5.out
            have hU7 := HU6.out.trans (Up2.set (B := B) w6 (F := B + 1) (.inr rfl) 1 (.slice a5 D.length c5))
            have HFin : Hid (Step B (k + 1) w3 _) := ⟨_, _, _, _, _, _, _, _, _, _, _, hE7, hR7, HSm.out, hU7⟩
            clear hE7 hR7 hU7 hrun
            go_wp2_with fail
            go_meet
            exact HFin.out
          · go_wp2_with fail
            refine (en_shift_no w3 a1 vl.length c' 0 fl ga A.length gc q.2.2.2.2 (by omega)).mono ?_
            rintro e w4 ⟨rfl, hb4⟩
            have hk5 := heap_alloc_new w4 (.cells #[.slice a1 vl.length c', .slice ga A.length gc, .int .i64 0, .string (str fl)] 28)
            have hba := (Below.refl w4.heap.size w4).alloc (Nat.le_refl _) (.cells #[.slice a1 vl.length c', .slice ga A.length gc, .int .i64 0, .string (str fl)] 28)
            have hE5 := ((HE3.out.below hb4).below hba)
            have hR5 := ((HR3.out.below hb4).below hba)
            have hU5 := (Up2.of_below (B := B) hb4).trans (Up2.of_below (B := B) hba)
            have hbn : w4.heap.size ≠ B := by have := (HE3.out.below hb4).size; omega
            clear e0 e1 e2 e3 f0 f1 f2 f3 x0 x1 x2 x3 x4
            go_upto_region 31 with fail
            generalize w4.alloc (.cells #[.slice a1 vl.length c', .slice ga A.length gc, .int .i64 0, .string (str fl)] 28) = w5 at *
            generalize w4.heap.size = bf at *
            have hE6 := hE5.set (l' := vl) (fl' := fl) hE5.ev HE3.out.ap
            have hR6 := hR5.setE (.slice a1 vl.length c') (.slice ga A.length gc) 0 fl
            have hU6 := hU5.trans (up2_set4 (B := B) w5 (.inl rfl) (.slice a1 vl.length c') (.slice ga A.length gc) 0 fl)
            unfold set4E at hE6 hR6 hU6
            obtain ⟨⟨e0, e1, e2, e3⟩, f0, f1, f2, f3⟩ := env4 hE5.k
            obtain ⟨⟨d0, d1, d2, d3⟩, g0, g1, g2, g3⟩ := env4 hk5
            have HE6 := Lib.hid hE6
            have HR6 := Lib.hid hR6
            have HU6 := Lib.hid hU6
            clear hE6 hR6 hU6 hE5 hR5 hU5 hk5 hb4 hba
            go_upto_region 32 with fail
            generalize (((w5.setCell ⟨B, 0, none⟩ (.slice a1 vl.length c')).setCell ⟨B, 1, none⟩ (.slice ga A.length gc)).setCell ⟨B, 2, none⟩ (.int .i64 0)).setCell ⟨B, 3, none⟩ (.string (str fl)) = w6 at *
            clear e0 e1 e2 e3 f0 f1 f2 f3 d0 d1 d2 d3 g0 g1 g2 g3
            obtain ⟨x0, x1, x2, x3, x4⟩ := act_five (HWas.out.up HU6.out).q
            obtain ⟨⟨e0, e1, e2, e3⟩, f0, f1, f2, f3⟩ := env4 HR6.out.k
            have HFin : Hid (Step B (k + 1) w3 _) := ⟨_, _, _, _, _, _, _, _, _, _, _, HE6.out, HR6.out, HS.out.up, HU6.out⟩
            by_cases hz : 0 ≤ q.2.2.2.2
            · have y1 : decide ((0 : Int) ≤ q.2.2.2.2) = true := decide_eq_true hz
              have y2 : decide (q.2.2.2.2 ≤ (A.length : Int)) = false := decide_eq_false (fun h => hN ⟨hz, h⟩)
              clear hN hz
              go_wp2_with fail
              go_meet
              exact HFin.out
            · have y1 : decide ((0 : Int) ≤ q.2.2.2.2) = false := decide_eq_false hz
              clear hN hz
              go_wp2_with fail
              go_meet
              exact HFin.out
        have t3 : decide (q.1 = 3) = false := decide_eq_false h0
        have t3' : (q.1 == 3) = false := by simpa using h0
        clear h0
        go_upto_region 17 with fail
        have hba := (Below.refl w3.heap.size w3).alloc (Nat.le_refl _) (.cells #[.string (str q.2.1), .string (str q.2.2.1)] 9)
        have hp := sts_pair w3 q.2.1 q.2.2.1
        have hE4 := HE3.out.below hba
        have hR4 := HR3.out.below hba
        have hU4 := Up2.of_below (B := B) hba
        have hs3 := HE3.out.size
        have hap : ∀ ad : Addr, some (⟨w3.heap.size, 0, none⟩ : Addr) = some ad → B + 2 ≤ ad.block := fun ad h => by cases h; exact hs3
        generalize w3.alloc (.cells #[.string (str q.2.1), .string (str q.2.2.1)] 9) = w4 at *
        generalize w3.heap.size = bz at *
        have hE5 := hE4.set1 (A' := [q.2.1, q.2.2.1]) hp hap
        have hR5 := hR4.setE1 (.slice (some ⟨bz, 0, none⟩) 2 2)
        have hU5 := hU4.trans (Up2.set (B := B) w4 (F := B) (.inl rfl) 1 (.slice (some ⟨bz, 0, none⟩) 2 2))
        have hp5 := row_up2 hp hap (Up2.set (B := B) w4 (F := B) (.inl rfl) 1 (.slice (some ⟨bz, 0, none⟩) 2 2))
        have HE5 := Lib.hid hE5
        have HR5 := Lib.hid hR5
        have HU5 := Lib.hid hU5
        have HP5 := Lib.hid hp5
        have HAp := Lib.hid hap
        clear e0 e1 e2 e3 f0 f1 f2 f3 x0 x1 x2 x3 x4 hba hp hR4 hU4 hE5 hR5 hU5 hp5 hap
        obtain ⟨⟨e0, e1, e2, e3⟩, f0, f1, f2, f3⟩ := env4 hE4.k
        clear hE4 hs3
        go_upto_region 18 with fail
        generalize w4.setCell ⟨B, 1, none⟩ (.slice (some ⟨bz, 0, none⟩) 2 2) = w5 at *
        have hE6 := HE5.out.setR1 (.slice (some ⟨bz, 0, none⟩) 2 2)
        have hR6 := HR5.out.set1 (A' := [q.2.1, q.2.2.1]) HP5.out HAp.out
        have hU6 := HU5.out.trans (Up2.set (B := B) w5 (F := B + 1) (.inr rfl) 1 (.slice (some ⟨bz, 0, none⟩) 2 2))
        have HFin : Hid (Step B (k + 1) w3 _) := ⟨_, _, _, _, _, _, _, _, _, _, _, hE6, hR6, HS.out.args hq9, hU6⟩
        clear e0 e1 e2 e3 f0 f1 f2 f3 hE6 hR6 hU6
        obtain ⟨⟨e0, e1, e2, e3⟩, f0, f1, f2, f3⟩ := env4 HR5.out.k
        go_wp2_with fail
        go_meet
        exact HFin.out
      case rest =>
        obtain ⟨vn, An, fn, a5, c5, ga5, gc5, a6, c6, ga6, gc6, hE, hR, hSm, hU⟩ := hcut
        have HE := Lib.hid hE
        have HR := Lib.hid hR
        have HSm := Lib.hid hSm
        have HW := Lib.hid (HWas.out.up hU)
        have HLow := Lib.hid (HLow3.out.trans (hU.low HBl.out HLow3.out.size))
        have HLn : Hid (vn.length ≤ 1000000) := by have := hSm.len; have := HL60.out; show _ ≤ _; omega
        have HLv : Hid (vl.length ≤ 1000000) := by have := HS.out.len; have := HL60.out; show _ ≤ _; omega
        have HLA : Hid (An.length ≤ 1000000) := by have := hSm.two; show _ ≤ _; omega
        have HLa : Hid (A.length ≤ 1000000) := by have := HS.out.two; show _ ≤ _; omega
        clear hE hR hSm hU HE3 HR3 HWas HLow3
        have HcE := Lib.hid (env4 HE.out.k).1
        have HcR := Lib.hid (env4 HR.out.k).1
        go_upto_region 37 with fail
        refine Rg.wp_region_rgt 5 [] [Rg.Is (.agg #[.slice a5 vn.length c5, .slice ga5 An.length gc5, .int .i64 0, .string (str fn)]), (fun u x => ∃ (a7 : Option Addr) (c7 : Nat), u = .agg #[.slice a7 vn.length c7, .slice ga5 An.length gc5, .int .i64 0, .string (str fn)] ∧ Vrs x a7 vn.length c7 vn), Rg.Is (.agg #[.slice a6 vn.length c6, .slice ga6 An.length gc6, .int .i64 0, .string (str fn)]), Rg.Is (.bool true), Rg.Is (.bool true)] (by kernel_rfl) (by kernel_rfl) (of_decide_eq_true (by kernel_rfl)) (by kernel_rfl) (by kernel_rfl) ⟨Rg.st_is _, fun v w w' h hb => h.elim fun a h => h.elim fun c h => ⟨a, c, h.1, h.2.below (Ap.stable_cellsAt vrC) hb⟩, Rg.st_is _, Rg.st_is _, Rg.st_is _, trivial⟩ ⟨rfl, rfl, rfl, rfl, rfl, trivial⟩ ⟨?_, ?_, ?_, ?_, ?_, trivial⟩ ?_
        · intro _ a wx hb hk
          have h7 : a.eval (.tmp 7) = .pointer (some ⟨B, 0, none⟩) := Eq.mp (by kernel_rfl) (hk 7 (by decide))
          exact Rg.does_load _ _ h7 (load_envE (cell_below hb (Nat.le_refl _) HcE.out.1) (cell_below hb (Nat.le_refl _) HcE.out.2.1) (cell_below hb (Nat.le_refl _) HcE.out.2.2.1) (cell_below hb (Nat.le_refl _) HcE.out.2.2.2)) ⟨Below.refl _ _, rfl⟩
        · intro _ a wx hb hk
          have h134 : a.eval (.tmp 134) = .agg #[.slice a5 vn.length c5, .slice ga5 An.length gc5, .int .i64 0, .string (str fn)] := Eq.mp (by kernel_rfl) (hk 134 (by decide))
          refine Rg.does_func #[.agg #[.slice a5 vn.length c5, .slice ga5 An.length gc5, .int .i64 0, .string (str fn)]] Tryd.func18 (by kernel_rfl) (by kernel_rfl) (by simp [h134]) (of_calls wx a5 _ c5 vn 0 fn ga5 An.length gc5 ((HE.out.below hb).ev.vrs) HLn.out) ?_
          rintro e w' ⟨v, rfl, hown, hb'⟩
          obtain ⟨a7, c7, rfl, hv⟩ := rv_of_own hown
          exact ⟨_, rfl, hb', a7, c7, rfl, hv⟩
        · intro _ a wx hb hk
          have h8 : a.eval (.tmp 8) = .pointer (some ⟨B + 1, 0, none⟩) := Eq.mp (by kernel_rfl) (hk 8 (by decide))
          exact Rg.does_load _ _ h8 (load_rE (cell_below hb (Nat.le_refl _) HcR.out.1) (cell_below hb (Nat.le_refl _) HcR.out.2.1) (cell_below hb (Nat.le_refl _) HcR.out.2.2.1) (cell_below hb (Nat.le_refl _) HcR.out.2.2.2)) ⟨Below.refl _ _, rfl⟩
        · intro _ a wx hb hk
          have h135 : (fun u x => ∃ (a7 : Option Addr) (c7 : Nat), u = .agg #[.slice a7 vn.length c7, .slice ga5 An.length gc5, .int .i64 0, .string (str fn)] ∧ Vrs x a7 vn.length c7 vn) (a.eval (.tmp 135)) wx := Eq.mp (by kernel_rfl) (hk 135 (by decide))
          have h136 : a.eval (.tmp 136) = .agg #[.slice a6 vn.length c6, .slice ga6 An.length gc6, .int .i64 0, .string (str fn)] := Eq.mp (by kernel_rfl) (hk 136 (by decide))
          obtain ⟨a7, c7, hu, hv⟩ := h135
          refine Rg.does_func #[.agg #[.slice a7 vn.length c7, .slice ga5 An.length gc5, .int .i64 0, .string (str fn)], .agg #[.slice a6 vn.length c6, .slice ga6 An.length gc6, .int .i64 0, .string (str fn)]] Tryd.func17 (by kernel_rfl) (by kernel_rfl) (by simp [hu, h136]) (ref_same_calls wx a7 _ c7 vn a6 _ c6 vn ga5 _ gc5 An ga6 _ gc6 An 0 fn fn hv ((HR.out.below hb).vrs) ((HE.out.below hb).ev.args) ((HR.out.below hb).args) HLn.out HLn.out HLA.out HLA.out) ?_
          rintro e w' ⟨rfl, hb'⟩
          rw [same_refl]
          exact ⟨_, rfl, hb', rfl⟩
        · intro _ a wx hb hk
          have h137 : a.eval (.tmp 137) = .bool true := Eq.mp (by kernel_rfl) (hk 137 (by decide))
          exact Rg.does_assign ⟨Below.refl _ _, h137⟩
        intro vals wD hbD hL
        obtain ⟨g0, g1, g2, g3, g4, _⟩ := hL
        have g4' : vals 4 = .bool true := g4
        have HE2 := Lib.hid (HE.out.below hbD)
        have HR2 := Lib.hid (HR.out.below hbD)
        have HW2 := Lib.hid (HW.out.up (Up2.of_below hbD))
        have HLow2 := Lib.hid (HLow.out.trans (hbD.mono HLow.out.size))
        simp only [Rg.putAll, List.take_succ_cons, List.take_zero, List.drop_succ_cons, List.drop_zero, List.setIfInBounds_toArray, List.set_cons_succ, List.set_cons_zero, g4']
        clear g0 g1 g2 g3 g4 g4' hbD HE HR HW HLow HcE HcR
        generalize wD = wa at *
        have HcE := Lib.hid (env4 HW2.out.e).1
        have HcR := Lib.hid (env4 HW2.out.r).1
        go_upto_region 38 with fail
        refine Rg.wp_region_rgt 5 [] [Rg.Is (.agg #[.slice a1 vl.length c', .slice ga A.length gc, .int .i64 0, .string (str fl)]), (fun u x => ∃ (a7 : Option Addr) (c7 : Nat), u = .agg #[.slice a7 vl.length c7, .slice ga A.length gc, .int .i64 0, .string (str fl)] ∧ Vrs x a7 vl.length c7 vl), Rg.Is (.agg #[.slice a2 vl.length c2, .slice ga2 A.length gc2, .int .i64 0, .string (str fl)]), Rg.Is (.bool true), Rg.Is (.bool true)] (by kernel_rfl) (by kernel_rfl) (of_decide_eq_true (by kernel_rfl)) (by kernel_rfl) (by kernel_rfl) ⟨Rg.st_is _, fun v w w' h hb => h.elim fun a h => h.elim fun c h => ⟨a, c, h.1, h.2.below (Ap.stable_cellsAt vrC) hb⟩, Rg.st_is _, Rg.st_is _, Rg.st_is _, trivial⟩ ⟨rfl, rfl, rfl, rfl, rfl, trivial⟩ ⟨?_, ?_, ?_, ?_, ?_, trivial⟩ ?_
        · intro _ a wx hb hk
          have h11 : a.eval (.tmp 11) = .pointer (some ⟨bq + 1, 0, none⟩) := Eq.mp (by kernel_rfl) (hk 11 (by decide))
          exact Rg.does_load _ _ h11 (load_envE (cell_below hb (Nat.le_refl _) HcE.out.1) (cell_below hb (Nat.le_refl _) HcE.out.2.1) (cell_below hb (Nat.le_refl _) HcE.out.2.2.1) (cell_below hb (Nat.le_refl _) HcE.out.2.2.2)) ⟨Below.refl _ _, rfl⟩
        · intro _ a wx hb hk
          have h138 : a.eval (.tmp 138) = .agg #[.slice a1 vl.length c', .slice ga A.length gc, .int .i64 0, .string (str fl)] := Eq.mp (by kernel_rfl) (hk 138 (by decide))
          refine Rg.does_func #[.agg #[.slice a1 vl.length c', .slice ga A.length gc, .int .i64 0, .string (str fl)]] Tryd.func18 (by kernel_rfl) (by kernel_rfl) (by simp [h138]) (of_calls wx a1 _ c' vl 0 fl ga A.length gc ((HW2.out.up (Up2.of_below hb)).ev.vrs) HLv.out) ?_
          rintro e w' ⟨v, rfl, hown, hb'⟩
          obtain ⟨a7, c7, rfl, hv⟩ := rv_of_own hown
          exact ⟨_, rfl, hb', a7, c7, rfl, hv⟩
        · intro _ a wx hb hk
          have h12 : a.eval (.tmp 12) = .pointer (some ⟨bq + 1 + 1, 0, none⟩) := Eq.mp (by kernel_rfl) (hk 12 (by decide))
          exact Rg.does_load _ _ h12 (load_rE (cell_below hb (Nat.le_refl _) HcR.out.1) (cell_below hb (Nat.le_refl _) HcR.out.2.1) (cell_below hb (Nat.le_refl _) HcR.out.2.2.1) (cell_below hb (Nat.le_refl _) HcR.out.2.2.2)) ⟨Below.refl _ _, rfl⟩
        · intro _ a wx hb hk
          have h139 : (fun u x => ∃ (a7 : Option Addr) (c7 : Nat), u = .agg #[.slice a7 vl.length c7, .slice ga A.length gc, .int .i64 0, .string (str fl)] ∧ Vrs x a7 vl.length c7 vl) (a.eval (.tmp 139)) wx := Eq.mp (by kernel_rfl) (hk 139 (by decide))
          have h140 : a.eval (.tmp 140) = .agg #[.slice a2 vl.length c2, .slice ga2 A.length gc2, .int .i64 0, .string (str fl)] := Eq.mp (by kernel_rfl) (hk 140 (by decide))
          obtain ⟨a7, c7, hu, hv⟩ := h139
          refine Rg.does_func #[.agg #[.slice a7 vl.length c7, .slice ga A.length gc, .int .i64 0, .string (str fl)], .agg #[.slice a2 vl.length c2, .slice ga2 A.length gc2, .int .i64 0, .string (str fl)]] Tryd.func17 (by kernel_rfl) (by kernel_rfl) (by simp [hu, h140]) (ref_same_calls wx a7 _ c7 vl a2 _ c2 vl ga _ gc A ga2 _ gc2 A 0 fl fl hv ((HW2.out.up (Up2.of_below hb)).vrs) ((HW2.out.up (Up2.of_below hb)).ev.args) ((HW2.out.up (Up2.of_below hb)).args) HLv.out HLv.out HLa.out HLa.out) ?_
          rintro e w' ⟨rfl, hb'⟩
          rw [same_refl]
          exact ⟨_, rfl, hb', rfl⟩
        · intro _ a wx hb hk
          have h141 : a.eval (.tmp 141) = .bool true := Eq.mp (by kernel_rfl) (hk 141 (by decide))
          exact Rg.does_assign ⟨Below.refl _ _, h141⟩
        intro vals wD hbD hL
        obtain ⟨g0, g1, g2, g3, g4, _⟩ := hL
        have g4' : vals 4 = .bool true := g4
        have HE := Lib.hid (HE2.out.below hbD)
        have HR := Lib.hid (HR2.out.below hbD)
        have HW := Lib.hid (HW2.out.up (Up2.of_below hbD))
        have HLow := Lib.hid (HLow2.out.trans (hbD.mono HLow2.out.size))
        simp only [Rg.putAll, List.take_succ_cons, List.take_zero, List.drop_succ_cons, List.drop_zero, List.setIfInBounds_toArray, List.set_cons_succ, List.set_cons_zero, g4']
        clear g0 g1 g2 g3 g4 g4' hbD HE2 HR2 HW2 HLow2 HcE HcR
        generalize wD = wb at *
        have HcE := Lib.hid (env4 HE.out.k).1
        have HcR := Lib.hid (env4 HR.out.k).1
        have HcW := Lib.hid (env4 HW.out.e).1
        have HcO := Lib.hid (env4 HW.out.r).1
        obtain ⟨S, hS⟩ : ∃ S, sameB vn vl An A 0 0 fn fl = S := ⟨_, rfl⟩
        have HSs := Lib.hid hS
        clear hS
        go_upto_region 39 with fail
        refine Rg.wp_region_rgt 22 [] [Rg.Is (.bool true), Rg.Is (.bool false), Rg.Is (.bool false), Rg.Is (.bool true), Rg.Is (.bool false), Rg.Is (.bool false), Rg.Is (.bool false), Rg.Is (.agg #[.slice a5 vn.length c5, .slice ga5 An.length gc5, .int .i64 0, .string (str fn)]), Rg.Is (.string (str (ifsB vn))), Rg.Is (.agg #[.slice a6 vn.length c6, .slice ga6 An.length gc6, .int .i64 0, .string (str fn)]), Rg.Is (.string (str (ifsB vn))), Rg.Is (.bool false), Rg.Is (.bool false), Rg.Is (.bool false), Rg.Is (.agg #[.slice a5 vn.length c5, .slice ga5 An.length gc5, .int .i64 0, .string (str fn)]), Rg.Is (.agg #[.slice a1 vl.length c', .slice ga A.length gc, .int .i64 0, .string (str fl)]), Rg.Is (.bool S), Rg.Is (.agg #[.slice a6 vn.length c6, .slice ga6 An.length gc6, .int .i64 0, .string (str fn)]), Rg.Is (.agg #[.slice a2 vl.length c2, .slice ga2 A.length gc2, .int .i64 0, .string (str fl)]), Rg.Is (.bool S), Rg.Is (.bool false), Rg.Is (.bool false)] (by kernel_rfl) (by kernel_rfl) (of_decide_eq_true (by kernel_rfl)) (by kernel_rfl) (by kernel_rfl) ⟨Rg.st_is _, Rg.st_is _, Rg.st_is _, Rg.st_is _, Rg.st_is _, Rg.st_is _, Rg.st_is _, Rg.st_is _, Rg.st_is _, Rg.st_is _, Rg.st_is _, Rg.st_is _, Rg.st_is _, Rg.st_is _, Rg.st_is _, Rg.st_is _, Rg.st_is _, Rg.st_is _, Rg.st_is _, Rg.st_is _, Rg.st_is _, Rg.st_is _, trivial⟩ ⟨rfl, rfl, rfl, ⟨rfl, fun _ _ h => h⟩, ⟨rfl, fun _ _ h => h⟩, rfl, rfl, ⟨rfl, fun _ _ h => h⟩, ⟨rfl, fun _ _ h => h⟩, ⟨rfl, fun _ _ h => h⟩, ⟨rfl, fun _ _ h => h⟩, ⟨rfl, fun _ _ h => h⟩, rfl, rfl, ⟨rfl, fun _ _ h => h⟩, ⟨rfl, fun _ _ h => h⟩, ⟨rfl, fun _ _ h => h⟩, ⟨rfl, fun _ _ h => h⟩, ⟨rfl, fun _ _ h => h⟩, ⟨rfl, fun _ _ h => h⟩, ⟨rfl, fun _ _ h => h⟩, rfl, trivial⟩ ⟨?_, ?_, ?_, ?_, ?_, ?_, ?_, ?_, ?_, ?_, ?_, ?_, ?_, ?_, ?_, ?_, ?_, ?_, ?_, ?_, ?_, ?_, trivial⟩ ?_
        · intro _ a wx hb hk
          have h18 : a.eval (.tmp 18) = .bool true := Eq.mp (by kernel_rfl) (hk 18 (by decide))
          exact Rg.does_move ⟨Below.refl _ _, h18⟩
        · intro _ a wx hb hk
          have h142 : a.eval (.tmp 142) = .bool true := Eq.mp (by kernel_rfl) (hk 142 (by decide))
          exact does_not true h142 ⟨Below.refl _ _, rfl⟩
        · intro _ a wx hb hk
          have h143 : a.eval (.tmp 143) = .bool false := Eq.mp (by kernel_rfl) (hk 143 (by decide))
          exact Rg.does_move ⟨Below.refl _ _, h143⟩
        · intro _ a wx hb hk
          have h19 : a.eval (.tmp 19) = .bool true := Eq.mp (by kernel_rfl) (hk 19 (by decide))
          exact Rg.does_move ⟨Below.refl _ _, h19⟩
        · intro _ a wx hb hk
          have h145 : a.eval (.tmp 145) = .bool true := Eq.mp (by kernel_rfl) (hk 145 (by decide))
          exact does_not true h145 ⟨Below.refl _ _, rfl⟩
        · intro _ a wx hb hk
          have h144 : a.eval (.tmp 144) = .bool false := Eq.mp (by kernel_rfl) (hk 144 (by decide))
          have h146 : a.eval (.tmp 146) = .bool false := Eq.mp (by kernel_rfl) (hk 146 (by decide))
          exact Rg.does_pick false h144 ⟨Below.refl _ _, h146⟩
        · intro _ a wx hb hk
          have h147 : a.eval (.tmp 147) = .bool false := Eq.mp (by kernel_rfl) (hk 147 (by decide))
          exact Rg.does_move ⟨Below.refl _ _, h147⟩
        · intro _ a wx hb hk
          have h7 : a.eval (.tmp 7) = .pointer (some ⟨B, 0, none⟩) := Eq.mp (by kernel_rfl) (hk 7 (by decide))
          exact Rg.does_load _ _ h7 (load_envE (cell_below hb (Nat.le_refl _) HcE.out.1) (cell_below hb (Nat.le_refl _) HcE.out.2.1) (cell_below hb (Nat.le_refl _) HcE.out.2.2.1) (cell_below hb (Nat.le_refl _) HcE.out.2.2.2)) ⟨Below.refl _ _, rfl⟩
        · intro _ a wx hb hk
          have h149 : a.eval (.tmp 149) = .agg #[.slice a5 vn.length c5, .slice ga5 An.length gc5, .int .i64 0, .string (str fn)] := Eq.mp (by kernel_rfl) (hk 149 (by decide))
          refine Rg.does_func #[.agg #[.slice a5 vn.length c5, .slice ga5 An.length gc5, .int .i64 0, .string (str fn)]] Tryd.func19 (by kernel_rfl) (by kernel_rfl) (by simp [h149]) (en_ifs_calls wx a5 _ c5 vn 0 fn ga5 _ gc5 ((HE.out.below hb).ev.vrs) HSm.out.rises HLn.out) ?_
          rintro e w' ⟨rfl, hb'⟩
          exact ⟨_, rfl, hb', rfl⟩
        · intro _ a wx hb hk
          have h8 : a.eval (.tmp 8) = .pointer (some ⟨B + 1, 0, none⟩) := Eq.mp (by kernel_rfl) (hk 8 (by decide))
          exact Rg.does_load _ _ h8 (load_rE (cell_below hb (Nat.le_refl _) HcR.out.1) (cell_below hb (Nat.le_refl _) HcR.out.2.1) (cell_below hb (Nat.le_refl _) HcR.out.2.2.1) (cell_below hb (Nat.le_refl _) HcR.out.2.2.2)) ⟨Below.refl _ _, rfl⟩
        · intro _ a wx hb hk
          have h151 : a.eval (.tmp 151) = .agg #[.slice a6 vn.length c6, .slice ga6 An.length gc6, .int .i64 0, .string (str fn)] := Eq.mp (by kernel_rfl) (hk 151 (by decide))
          refine Rg.does_func #[.agg #[.slice a6 vn.length c6, .slice ga6 An.length gc6, .int .i64 0, .string (str fn)]] Tryd.func20 (by kernel_rfl) (by kernel_rfl) (by simp [h151]) (ref_ifs_calls wx a6 _ c6 vn 0 fn ga6 _ gc6 ((HR.out.below hb).vrs) HLn.out) ?_
          rintro e w' ⟨rfl, hb'⟩
          exact ⟨_, rfl, hb', rfl⟩
        · intro _ a wx hb hk
          have h150 : a.eval (.tmp 150) = .string (str (ifsB vn)) := Eq.mp (by kernel_rfl) (hk 150 (by decide))
          have h152 : a.eval (.tmp 152) = .string (str (ifsB vn)) := Eq.mp (by kernel_rfl) (hk 152 (by decide))
          refine Sw.does_bin_str _ _ (.bool false) h150 h152 ?_ ⟨Below.refl _ _, rfl⟩
          rw [neq_txt]
          simp
        · intro _ a wx hb hk
          have h148 : a.eval (.tmp 148) = .bool false := Eq.mp (by kernel_rfl) (hk 148 (by decide))
          have h153 : a.eval (.tmp 153) = .bool false := Eq.mp (by kernel_rfl) (hk 153 (by decide))
          exact Rg.does_pick false h148 ⟨Below.refl _ _, h153⟩
        · intro _ a wx hb hk
          have h154 : a.eval (.tmp 154) = .bool false := Eq.mp (by kernel_rfl) (hk 154 (by decide))
          exact Rg.does_move ⟨Below.refl _ _, h154⟩
        · intro _ a wx hb hk
          have h7 : a.eval (.tmp 7) = .pointer (some ⟨B, 0, none⟩) := Eq.mp (by kernel_rfl) (hk 7 (by decide))
          exact Rg.does_load _ _ h7 (load_envE (cell_below hb (Nat.le_refl _) HcE.out.1) (cell_below hb (Nat.le_refl _) HcE.out.2.1) (cell_below hb (Nat.le_refl _) HcE.out.2.2.1) (cell_below hb (Nat.le_refl _) HcE.out.2.2.2)) ⟨Below.refl _ _, rfl⟩
        · intro _ a wx hb hk
          have h11 : a.eval (.tmp 11) = .pointer (some ⟨bq + 1, 0, none⟩) := Eq.mp (by kernel_rfl) (hk 11 (by decide))
          exact Rg.does_load _ _ h11 (load_envE (cell_below hb (Nat.le_refl _) HcW.out.1) (cell_below hb (Nat.le_refl _) HcW.out.2.1) (cell_below hb (Nat.le_refl _) HcW.out.2.2.1) (cell_below hb (Nat.le_refl _) HcW.out.2.2.2)) ⟨Below.refl _ _, rfl⟩
        · intro _ a wx hb hk
          have h156 : a.eval (.tmp 156) = .agg #[.slice a5 vn.length c5, .slice ga5 An.length gc5, .int .i64 0, .string (str fn)] := Eq.mp (by kernel_rfl) (hk 156 (by decide))
          have h157 : a.eval (.tmp 157) = .agg #[.slice a1 vl.length c', .slice ga A.length gc, .int .i64 0, .string (str fl)] := Eq.mp (by kernel_rfl) (hk 157 (by decide))
          refine Rg.does_func #[.agg #[.slice a5 vn.length c5, .slice ga5 An.length gc5, .int .i64 0, .string (str fn)], .agg #[.slice a1 vl.length c', .slice ga A.length gc, .int .i64 0, .string (str fl)]] Tryd.func11 (by kernel_rfl) (by kernel_rfl) (by simp [h156, h157]) (en_same_calls wx _ _ _ vn _ _ _ vl _ _ _ An _ _ _ A 0 0 fn fl ((HE.out.below hb).ev.vrs) ((HW.out.up (Up2.of_below hb)).ev.vrs) ((HE.out.below hb).ev.args) ((HW.out.up (Up2.of_below hb)).ev.args) HLn.out HLv.out HLA.out HLa.out) ?_
          rintro e w' ⟨rfl, hb'⟩
          rw [HSs.out]
          exact ⟨_, rfl, hb', rfl⟩
        · intro _ a wx hb hk
          have h8 : a.eval (.tmp 8) = .pointer (some ⟨B + 1, 0, none⟩) := Eq.mp (by kernel_rfl) (hk 8 (by decide))
          exact Rg.does_load _ _ h8 (load_rE (cell_below hb (Nat.le_refl _) HcR.out.1) (cell_below hb (Nat.le_refl _) HcR.out.2.1) (cell_below hb (Nat.le_refl _) HcR.out.2.2.1) (cell_below hb (Nat.le_refl _) HcR.out.2.2.2)) ⟨Below.refl _ _, rfl⟩
        · intro _ a wx hb hk
          have h12 : a.eval (.tmp 12) = .pointer (some ⟨bq + 1 + 1, 0, none⟩) := Eq.mp (by kernel_rfl) (hk 12 (by decide))
          exact Rg.does_load _ _ h12 (load_rE (cell_below hb (Nat.le_refl _) HcO.out.1) (cell_below hb (Nat.le_refl _) HcO.out.2.1) (cell_below hb (Nat.le_refl _) HcO.out.2.2.1) (cell_below hb (Nat.le_refl _) HcO.out.2.2.2)) ⟨Below.refl _ _, rfl⟩
        · intro _ a wx hb hk
          have h159 : a.eval (.tmp 159) = .agg #[.slice a6 vn.length c6, .slice ga6 An.length gc6, .int .i64 0, .string (str fn)] := Eq.mp (by kernel_rfl) (hk 159 (by decide))
          have h160 : a.eval (.tmp 160) = .agg #[.slice a2 vl.length c2, .slice ga2 A.length gc2, .int .i64 0, .string (str fl)] := Eq.mp (by kernel_rfl) (hk 160 (by decide))
          refine Rg.does_func #[.agg #[.slice a6 vn.length c6, .slice ga6 An.length gc6, .int .i64 0, .string (str fn)], .agg #[.slice a2 vl.length c2, .slice ga2 A.length gc2, .int .i64 0, .string (str fl)]] Tryd.func17 (by kernel_rfl) (by kernel_rfl) (by simp [h159, h160]) (ref_same_calls wx _ _ _ vn _ _ _ vl _ _ _ An _ _ _ A 0 fn fl ((HR.out.below hb).vrs) ((HW.out.up (Up2.of_below hb)).vrs) ((HR.out.below hb).args) ((HW.out.up (Up2.of_below hb)).args) HLn.out HLv.out HLA.out HLa.out) ?_
          rintro e w' ⟨rfl, hb'⟩
          rw [HSs.out]
          exact ⟨_, rfl, hb', rfl⟩
        · intro _ a wx hb hk
          have h158 : a.eval (.tmp 158) = .bool S := Eq.mp (by kernel_rfl) (hk 158 (by decide))
          have h161 : a.eval (.tmp 161) = .bool S := Eq.mp (by kernel_rfl) (hk 161 (by decide))
          exact does_ne_bool S Tryd.underlying4 h158 h161 ⟨Below.refl _ _, rfl⟩
        · intro _ a wx hb hk
          have h155 : a.eval (.tmp 155) = .bool false := Eq.mp (by kernel_rfl) (hk 155 (by decide))
          have h162 : a.eval (.tmp 162) = .bool false := Eq.mp (by kernel_rfl) (hk 162 (by decide))
          exact Rg.does_pick false h155 ⟨Below.refl _ _, h162⟩
        intro vals wD hbD hL
        obtain ⟨g0, g1, g2, g3, g4, g5, g6, g7, g8, g9, g10, g11, g12, g13, g14, g15, g16, g17, g18, g19, g20, g21, _⟩ := hL
        have g21' : vals 21 = .bool false := g21
        have HE2 := Lib.hid (HE.out.below hbD)
        have HR2 := Lib.hid (HR.out.below hbD)
        have HLow2 := Lib.hid (HLow.out.trans (hbD.mono HLow.out.size))
        simp only [Rg.putAll, List.take_succ_cons, List.take_zero, List.drop_succ_cons, List.drop_zero, List.setIfInBounds_toArray, List.set_cons_succ, List.set_cons_zero, g21']
        clear g0 g1 g2 g3 g4 g5 g6 g7 g8 g9 g10 g11 g12 g13 g14 g15 g16 g17 g18 g19 g20 g21 g21' hbD HE HR HW HLow HcE HcR HcW HcO HSs
        generalize wD = wc2 at *
        go_upto_region 41 with fail
        have HT1 : Hid (tot An ≤ 1000000) := by have := HSm.out.tot; show _ ≤ _; omega
        go_wp2_with fail
        go_loopw [20] (fun v20 wz => ∃ j : Nat, j ≤ ask.length ∧ v20 = .int .i64 j ∧ Below wc2.heap.size wc2 wz) (fun v20 _ => ask.length - (intOf v20).toNat)
        case atStart => exact ⟨0, Nat.zero_le _, rfl, Below.refl _ _⟩
        case round =>
          obtain ⟨j, hj, rfl, hb0⟩ := hrel
          have HB := Lib.hid hb0
          clear hb0
          by_cases hjt : j < ask.length
          · have HE := Lib.hid (HE2.out.below HB.out)
            have HR := Lib.hid (HR2.out.below HB.out)
            have HLow := Lib.hid (HLow2.out.trans (HB.out.mono HLow2.out.size))
            obtain ⟨b, off, hcs, hix⟩ := sts_at (HK.out.below (Ap.stable_cellsAt stC) HLow.out)
            have HIx := Lib.hid fun W => hix 26 Tryd.underlying26 .i64 j W hjt
            have HC := Lib.hid (hcs j hjt)
            have HWl := Lib.hid (HW.out (ask[j]'hjt) (List.getElem_mem hjt))
            have HcE := Lib.hid (env4 HE.out.k).1
            have HcR := Lib.hid (env4 HR.out.k).1
            have hN20 := HN.out
            have HGe := Lib.hid fun W (hv : Ev W (B + 2) a5 c5 vn ga5 gc5 An) (hL : Lw W) => ev_get_calls W (B + 2) a5 c5 vn ga5 gc5 An 0 fn (ask[j]'hjt) hv HSm.out.rises HLn.out HWl.out hL (by have := HLA.out; have := HSm.out.two; omega) ⟨by decide, by decide⟩ (fun _ => Nat.le_trans (join_len _ (take1_len _)) (by have := HT1.out; omega))
            have HGr := Lib.hid fun W (hv : Vrs W a6 vn.length c6 vn) (hs : Sts W ga6 An.length gc6 An) => ref_get_calls W a6 vn.length c6 vn fn (ask[j]'hjt) ga6 An.length gc6 An hv HLn.out hs HWl.out HSm.out.two HT1.out
            clear hcs hix
            generalize ask[j]'hjt = x at *
            generalize off + j = o1 at *
            generalize gotB vn An 0 fn x = got at *
            have z3 : decide (j < ask.length) = true := decide_eq_true (by omega)
            have z1 : decide ((j : Int) < (ask.length : Int)) = true := decide_eq_true (by omega)
            have z2 : (j : Int) < (ask.length : Int) := by omega
            go_upto_region 44 with fail
            refine Rg.wp_region_rgt 11 [] [Rg.Is (.agg #[.slice a5 vn.length c5, .slice ga5 An.length gc5, .int .i64 0, .string (str fn)]), Rg.Is (.slice ad ask.length mc), Rg.Is (.int .i64 (j : Int)), Rg.Is (.pointer (some ⟨b, o1, none⟩)), Rg.Is (.string (str x)), Rg.Is (.tuple #[.string (str (got.getD [])), .bool got.isSome]), Rg.Is (.tuple #[.string (str (got.getD [])), .bool got.isSome]), Rg.Is (.string (str (got.getD []))), Rg.Is (.bool got.isSome), Rg.Is (.string (str (got.getD []))), Rg.Is (.bool got.isSome)] (by kernel_rfl) (by kernel_rfl) (of_decide_eq_true (by kernel_rfl)) (by kernel_rfl) (by kernel_rfl) ⟨Rg.st_is _, Rg.st_is _, Rg.st_is _, Rg.st_is _, Rg.st_is _, Rg.st_is _, Rg.st_is _, Rg.st_is _, Rg.st_is _, Rg.st_is _, Rg.st_is _, trivial⟩ ⟨rfl, rfl, rfl, rfl, rfl, rfl, rfl, rfl, rfl, rfl, rfl, trivial⟩ ⟨?_, ?_, ?_, ?_, ?_, ?_, ?_, ?_, ?_, ?_, ?_, trivial⟩ ?_
            · intro _ a wx hb hk
              have h7 : a.eval (.tmp 7) = .pointer (some ⟨B, 0, none⟩) := Eq.mp (by kernel_rfl) (hk 7 (by decide))
              exact Rg.does_load _ _ h7 (load_envE (cell_below hb (Nat.le_refl _) HcE.out.1) (cell_below hb (Nat.le_refl _) HcE.out.2.1) (cell_below hb (Nat.le_refl _) HcE.out.2.2.1) (cell_below hb (Nat.le_refl _) HcE.out.2.2.2)) ⟨Below.refl _ _, rfl⟩
            · intro _ a wx hb hk
              have h1 : a.eval (.tmp 1) = .slice ad ask.length mc := Eq.mp (by kernel_rfl) (hk 1 (by decide))
              exact Rg.does_move ⟨Below.refl _ _, h1⟩
            · intro _ a wx hb hk
              have h20 : a.eval (.tmp 20) = .int .i64 (j : Int) := Eq.mp (by kernel_rfl) (hk 20 (by decide))
              exact Rg.does_move ⟨Below.refl _ _, h20⟩
            · intro _ a wx hb hk
              have h172 : a.eval (.tmp 172) = .slice ad ask.length mc := Eq.mp (by kernel_rfl) (hk 172 (by decide))
              have h173 : a.eval (.tmp 173) = .int .i64 (j : Int) := Eq.mp (by kernel_rfl) (hk 173 (by decide))
              exact Rg.does_index _ _ _ h172 h173 (HIx.out wx) ⟨Below.refl _ _, rfl⟩
            · intro _ a wx hb hk
              have h174 : a.eval (.tmp 174) = .pointer (some ⟨b, o1, none⟩) := Eq.mp (by kernel_rfl) (hk 174 (by decide))
              exact Rg.does_load _ _ h174 (load_txt (cell_below hb (Nat.le_refl _) HC.out)) ⟨Below.refl _ _, rfl⟩
            · intro _ a wx hb hk
              have h171 : a.eval (.tmp 171) = .agg #[.slice a5 vn.length c5, .slice ga5 An.length gc5, .int .i64 0, .string (str fn)] := Eq.mp (by kernel_rfl) (hk 171 (by decide))
              have h175 : a.eval (.tmp 175) = .string (str x) := Eq.mp (by kernel_rfl) (hk 175 (by decide))
              refine Rg.does_func #[.agg #[.slice a5 vn.length c5, .slice ga5 An.length gc5, .int .i64 0, .string (str fn)], .string (str x)] Tryd.func9 (by kernel_rfl) (by kernel_rfl) (by simp [h171, h175]) (HGe.out wx ((HE.out.below hb).ev) (HL.out.below (HLow.out.trans (hb.mono HLow.out.size)))) ?_
              rintro e w' ⟨rfl, hb'⟩
              exact ⟨_, rfl, hb', rfl⟩
            · intro _ a wx hb hk
              have h176 : a.eval (.tmp 176) = .tuple #[.string (str (got.getD [])), .bool got.isSome] := Eq.mp (by kernel_rfl) (hk 176 (by decide))
              exact Rg.does_move ⟨Below.refl _ _, h176⟩
            · intro _ a wx hb hk
              have h170 : a.eval (.tmp 170) = .tuple #[.string (str (got.getD [])), .bool got.isSome] := Eq.mp (by kernel_rfl) (hk 170 (by decide))
              exact Ap.does_extract _ _ h170 rfl ⟨Below.refl _ _, rfl⟩
            · intro _ a wx hb hk
              have h170 : a.eval (.tmp 170) = .tuple #[.string (str (got.getD [])), .bool got.isSome] := Eq.mp (by kernel_rfl) (hk 170 (by decide))
              exact Ap.does_extract _ _ h170 rfl ⟨Below.refl _ _, rfl⟩
            · intro _ a wx hb hk
              have h177 : a.eval (.tmp 177) = .string (str (got.getD [])) := Eq.mp (by kernel_rfl) (hk 177 (by decide))
              exact Rg.does_assign ⟨Below.refl _ _, h177⟩
            · intro _ a wx hb hk
              have h178 : a.eval (.tmp 178) = .bool got.isSome := Eq.mp (by kernel_rfl) (hk 178 (by decide))
              exact Rg.does_assign ⟨Below.refl _ _, h178⟩
            intro vals wD hbD hL
            obtain ⟨g0, g1, g2, g3, g4, g5, g6, g7, g8, g9, g10, _⟩ := hL
            have k9 : vals 9 = .string (str (got.getD [])) := g9
            have k10 : vals 10 = .bool got.isSome := g10
            have HE3 := Lib.hid (HE.out.below hbD)
            have HR3 := Lib.hid (HR.out.below hbD)
            have HB3 := Lib.hid (HB.out.trans (hbD.mono HB.out.size))
            have HC3 := Lib.hid (cell_below hbD (Nat.le_refl _) HC.out)
            simp only [Rg.putAll, List.take_succ_cons, List.take_zero, List.drop_succ_cons, List.drop_zero, List.setIfInBounds_toArray, List.set_cons_succ, List.set_cons_zero, k9, k10]
            clear g0 g1 g2 g3 g4 g5 g6 g7 g8 g9 g10 k9 k10 hbD HE HR HB HC HcE HcR HGe HLow
            generalize wD = wd at *
            have HcR := Lib.hid (env4 HR3.out.k).1
            go_upto_region 45 with fail
            refine Rg.wp_region_rgt 11 [] [Rg.Is (.agg #[.slice a6 vn.length c6, .slice ga6 An.length gc6, .int .i64 0, .string (str fn)]), Rg.Is (.slice ad ask.length mc), Rg.Is (.int .i64 (j : Int)), Rg.Is (.pointer (some ⟨b, o1, none⟩)), Rg.Is (.string (str x)), Rg.Is (.tuple #[.string (str (got.getD [])), .bool got.isSome]), Rg.Is (.tuple #[.string (str (got.getD [])), .bool got.isSome]), Rg.Is (.string (str (got.getD []))), Rg.Is (.bool got.isSome), Rg.Is (.string (str (got.getD []))), Rg.Is (.bool got.isSome)] (by kernel_rfl) (by kernel_rfl) (of_decide_eq_true (by kernel_rfl)) (by kernel_rfl) (by kernel_rfl) ⟨Rg.st_is _, Rg.st_is _, Rg.st_is _, Rg.st_is _, Rg.st_is _, Rg.st_is _, Rg.st_is _, Rg.st_is _, Rg.st_is _, Rg.st_is _, Rg.st_is _, trivial⟩ ⟨rfl, rfl, rfl, rfl, rfl, rfl, rfl, rfl, rfl, rfl, rfl, trivial⟩ ⟨?_, ?_, ?_, ?_, ?_, ?_, ?_, ?_, ?_, ?_, ?_, trivial⟩ ?_
            · intro _ a wx hb hk
              have h8 : a.eval (.tmp 8) = .pointer (some ⟨B + 1, 0, none⟩) := Eq.mp (by kernel_rfl) (hk 8 (by decide))
              exact Rg.does_load _ _ h8 (load_rE (cell_below hb (Nat.le_refl _) HcR.out.1) (cell_below hb (Nat.le_refl _) HcR.out.2.1) (cell_below hb (Nat.le_refl _) HcR.out.2.2.1) (cell_below hb (Nat.le_refl _) HcR.out.2.2.2)) ⟨Below.refl _ _, rfl⟩
            · intro _ a wx hb hk
              have h1 : a.eval (.tmp 1) = .slice ad ask.length mc := Eq.mp (by kernel_rfl) (hk 1 (by decide))
              exact Rg.does_move ⟨Below.refl _ _, h1⟩
            · intro _ a wx hb hk
              have h20 : a.eval (.tmp 20) = .int .i64 (j : Int) := Eq.mp (by kernel_rfl) (hk 20 (by decide))
              exact Rg.does_move ⟨Below.refl _ _, h20⟩
            · intro _ a wx hb hk
              have h181 : a.eval (.tmp 181) = .slice ad ask.length mc := Eq.mp (by kernel_rfl) (hk 181 (by decide))
              have h182 : a.eval (.tmp 182) = .int .i64 (j : Int) := Eq.mp (by kernel_rfl) (hk 182 (by decide))
              exact Rg.does_index _ _ _ h181 h182 (HIx.out wx) ⟨Below.refl _ _, rfl⟩
            · intro _ a wx hb hk
              have h183 : a.eval (.tmp 183) = .pointer (some ⟨b, o1, none⟩) := Eq.mp (by kernel_rfl) (hk 183 (by decide))
              exact Rg.does_load _ _ h183 (load_txt (cell_below hb (Nat.le_refl _) HC3.out)) ⟨Below.refl _ _, rfl⟩
            · intro _ a wx hb hk
              have h180 : a.eval (.tmp 180) = .agg #[.slice a6 vn.length c6, .slice ga6 An.length gc6, .int .i64 0, .string (str fn)] := Eq.mp (by kernel_rfl) (hk 180 (by decide))
              have h184 : a.eval (.tmp 184) = .string (str x) := Eq.mp (by kernel_rfl) (hk 184 (by decide))
              refine Rg.does_func #[.agg #[.slice a6 vn.length c6, .slice ga6 An.length gc6, .int .i64 0, .string (str fn)], .string (str x)] Tryd.func21 (by kernel_rfl) (by kernel_rfl) (by simp [h180, h184]) (HGr.out wx ((HR3.out.below hb).vrs) ((HR3.out.below hb).args)) ?_
              rintro e w' ⟨rfl, hb'⟩
              exact ⟨_, rfl, hb', rfl⟩
            · intro _ a wx hb hk
              have h185 : a.eval (.tmp 185) = .tuple #[.string (str (got.getD [])), .bool got.isSome] := Eq.mp (by kernel_rfl) (hk 185 (by decide))
              exact Rg.does_move ⟨Below.refl _ _, h185⟩
            · intro _ a wx hb hk
              have h179 : a.eval (.tmp 179) = .tuple #[.string (str (got.getD [])), .bool got.isSome] := Eq.mp (by kernel_rfl) (hk 179 (by decide))
              exact Ap.does_extract _ _ h179 rfl ⟨Below.refl _ _, rfl⟩
            · intro _ a wx hb hk
              have h179 : a.eval (.tmp 179) = .tuple #[.string (str (got.getD [])), .bool got.isSome] := Eq.mp (by kernel_rfl) (hk 179 (by decide))
              exact Ap.does_extract _ _ h179 rfl ⟨Below.refl _ _, rfl⟩
            · intro _ a wx hb hk
              have h186 : a.eval (.tmp 186) = .string (str (got.getD [])) := Eq.mp (by kernel_rfl) (hk 186 (by decide))
              exact Rg.does_assign ⟨Below.refl _ _, h186⟩
            · intro _ a wx hb hk
              have h187 : a.eval (.tmp 187) = .bool got.isSome := Eq.mp (by kernel_rfl) (hk 187 (by decide))
              exact Rg.does_assign ⟨Below.refl _ _, h187⟩
            intro vals wD hbD hL
            obtain ⟨g0, g1, g2, g3, g4, g5, g6, g7, g8, g9, g10, _⟩ := hL
            have k9 : vals 9 = .string (str (got.getD [])) := g9
            have k10 : vals 10 = .bool got.isSome := g10
            have HB4 := Lib.hid (HB3.out.trans (hbD.mono HB3.out.size))
            simp only [Rg.putAll, List.take_succ_cons, List.take_zero, List.drop_succ_cons, List.drop_zero, List.setIfInBounds_toArray, List.set_cons_succ, List.set_cons_zero, k9, k10]
            clear g0 g1 g2 g3 g4 g5 g6 g7 g8 g9 g10 k9 k10 hbD HE3 HR3 HB3 HC3 HcR HGr HIx
            generalize wD = we at *
            generalize got.getD [] = gx at *
            generalize got.isSome = gb at *
            have hbe : ((str gx).toList == (str gx).toList) = true := beq_self_eq_true _
            have hbb : (gb == gb) = true := beq_self_eq_true _
            go_wp2_with fail
            go_roundw
            case rel => exact ⟨j + 1, by omega, by go_num, HB4.out⟩
            case measure => simp [intOf]; omega
          · obtain rfl : j = ask.length := by omega
            have HE := Lib.hid (HE2.out.below HB.out)
            have HR := Lib.hid (HR2.out.below HB.out)
            have HLow := Lib.hid (HLow2.out.trans (HB.out.mono HLow2.out.size))
            clear HE2 HR2 HLow2 HB hj hjt
            have z3 : decide (ask.length < ask.length) = false := decide_eq_false (by omega)
            have z1 : decide ((ask.length : Int) < (ask.length : Int)) = false := decide_eq_false (by omega)
            have z2 : ¬ ((ask.length : Int) < (ask.length : Int)) := by omega
            go_upto_region 48 with fail
            clear z1 z2 z3
            generalize wr = wf at *
            go_wp2_with fail
            go_loopw [25] (fun v25 wy => ∃ i : Nat, i ≤ 6 ∧ v25 = .int .i64 i ∧ Below wf.heap.size wf wy) (fun v25 _ => 6 - (intOf v25).toNat)
            case atStart => exact ⟨0, by decide, rfl, Below.refl _ _⟩
            case round =>
              obtain ⟨i, hi, rfl, hb0⟩ := hrel
              have HB := Lib.hid hb0
              clear hb0
              by_cases hit : i < 6
              · obtain ⟨ch, hch⟩ : ∃ ch, asksL[i]? = some ch := ⟨_, List.getElem?_eq_getElem (l := asksL) hit⟩
                have hchx := asks_index hch
                have HE4 := Lib.hid (HE.out.below HB.out)
                have HR4 := Lib.hid (HR.out.below HB.out)
                have HcE := Lib.hid (env4 HE4.out.k).1
                have HcR := Lib.hid (env4 HR4.out.k).1
                have d0 : decide ((i : Int) < 6) = true := decide_eq_true (by omega)
                have d0' : (i : Int) < 6 := by omega
                clear hch
                go_upto_region 52 with fail
                obtain ⟨hs, hhs⟩ : ∃ hs, hasFl fn ch = hs := ⟨_, rfl⟩
                have HHs := Lib.hid hhs
                clear hhs
                refine Rg.wp_region_rgt 7 [] [Rg.Is (.agg #[.slice a5 vn.length c5, .slice ga5 An.length gc5, .int .i64 0, .string (str fn)]), Rg.Is (.int .u8 (ch.toNat : Int)), Rg.Is (.bool hs), Rg.Is (.agg #[.slice a6 vn.length c6, .slice ga6 An.length gc6, .int .i64 0, .string (str fn)]), Rg.Is (.int .u8 (ch.toNat : Int)), Rg.Is (.bool hs), Rg.Is (.bool false)] (by kernel_rfl) (by kernel_rfl) (of_decide_eq_true (by kernel_rfl)) (by kernel_rfl) (by kernel_rfl) ⟨Rg.st_is _, Rg.st_is _, Rg.st_is _, Rg.st_is _, Rg.st_is _, Rg.st_is _, Rg.st_is _, trivial⟩ ⟨rfl, rfl, rfl, rfl, rfl, rfl, rfl, trivial⟩ ⟨?_, ?_, ?_, ?_, ?_, ?_, ?_, trivial⟩ ?_
                · intro _ a wx hb hk
                  have h7 : a.eval (.tmp 7) = .pointer (some ⟨B, 0, none⟩) := Eq.mp (by kernel_rfl) (hk 7 (by decide))
                  exact Rg.does_load _ _ h7 (load_envE (cell_below hb (Nat.le_refl _) HcE.out.1) (cell_below hb (Nat.le_refl _) HcE.out.2.1) (cell_below hb (Nat.le_refl _) HcE.out.2.2.1) (cell_below hb (Nat.le_refl _) HcE.out.2.2.2)) ⟨Below.refl _ _, rfl⟩
                · intro _ a wx hb hk
                  have h26 : a.eval (.tmp 26) = .int .u8 (ch.toNat : Int) := Eq.mp (by kernel_rfl) (hk 26 (by decide))
                  exact Rg.does_move ⟨Below.refl _ _, h26⟩
                · intro _ a wx hb hk
                  have h202 : a.eval (.tmp 202) = .agg #[.slice a5 vn.length c5, .slice ga5 An.length gc5, .int .i64 0, .string (str fn)] := Eq.mp (by kernel_rfl) (hk 202 (by decide))
                  have h203 : a.eval (.tmp 203) = .int .u8 (ch.toNat : Int) := Eq.mp (by kernel_rfl) (hk 203 (by decide))
                  refine Rg.does_func #[.agg #[.slice a5 vn.length c5, .slice ga5 An.length gc5, .int .i64 0, .string (str fn)], .int .u8 (ch.toNat : Int)] Tryd.func22 (by kernel_rfl) (by kernel_rfl) (by simp [h202, h203]) (en_has_calls wx _ _ 0 fn ch _ _ _ _ _ _ rfl rfl) ?_
                  rintro e w' ⟨rfl, hb'⟩
                  rw [HHs.out]
                  exact ⟨_, rfl, hb', rfl⟩
                · intro _ a wx hb hk
                  have h8 : a.eval (.tmp 8) = .pointer (some ⟨B + 1, 0, none⟩) := Eq.mp (by kernel_rfl) (hk 8 (by decide))
                  exact Rg.does_load _ _ h8 (load_rE (cell_below hb (Nat.le_refl _) HcR.out.1) (cell_below hb (Nat.le_refl _) HcR.out.2.1) (cell_below hb (Nat.le_refl _) HcR.out.2.2.1) (cell_below hb (Nat.le_refl _) HcR.out.2.2.2)) ⟨Below.refl _ _, rfl⟩
                · intro _ a wx hb hk
                  have h26 : a.eval (.tmp 26) = .int .u8 (ch.toNat : Int) := Eq.mp (by kernel_rfl) (hk 26 (by decide))
                  exact Rg.does_move ⟨Below.refl _ _, h26⟩
                · intro _ a wx hb hk
                  have h205 : a.eval (.tmp 205) = .agg #[.slice a6 vn.length c6, .slice ga6 An.length gc6, .int .i64 0, .string (str fn)] := Eq.mp (by kernel_rfl) (hk 205 (by decide))
                  have h206 : a.eval (.tmp 206) = .int .u8 (ch.toNat : Int) := Eq.mp (by kernel_rfl) (hk 206 (by decide))
                  refine Rg.does_func #[.agg #[.slice a6 vn.length c6, .slice ga6 An.length gc6, .int .i64 0, .string (str fn)], .int .u8 (ch.toNat : Int)] Tryd.func23 (by kernel_rfl) (by kernel_rfl) (by simp [h205, h206]) (ref_has_calls wx _ _ 0 fn ch _ _ _ _ _ _ rfl rfl (by have := HSm.out.fl; omega)) ?_
                  rintro e w' ⟨rfl, hb'⟩
                  rw [HHs.out]
                  exact ⟨_, rfl, hb', rfl⟩
                · intro _ a wx hb hk
                  have h204 : a.eval (.tmp 204) = .bool hs := Eq.mp (by kernel_rfl) (hk 204 (by decide))
                  have h207 : a.eval (.tmp 207) = .bool hs := Eq.mp (by kernel_rfl) (hk 207 (by decide))
                  exact does_ne_bool hs Tryd.underlying4 h204 h207 ⟨Below.refl _ _, rfl⟩
                intro vals wD hbD hL
                obtain ⟨g0, g1, g2, g3, g4, g5, g6, _⟩ := hL
                have k6 : vals 6 = .bool false := g6
                have HB4 := Lib.hid (HB.out.trans (hbD.mono HB.out.size))
                simp only [Rg.putAll, List.take_succ_cons, List.take_zero, List.drop_succ_cons, List.drop_zero, List.setIfInBounds_toArray, List.set_cons_succ, List.set_cons_zero, k6]
                clear g0 g1 g2 g3 g4 g5 g6 k6 hbD HE4 HR4 HB HcE HcR hchx HHs
                generalize wD = wg at *
                go_wp2_with fail
                go_roundw
                case rel => exact ⟨i + 1, by omega, by go_num, HB4.out⟩
                case measure => simp [intOf]; omega
              · obtain rfl : i = 6 := by omega
                have HE4 := Lib.hid (HE.out.below HB.out)
                have HR4 := Lib.hid (HR.out.below HB.out)
                have HLow4 := Lib.hid (HLow.out.trans (HB.out.mono HLow.out.size))
                have z1 : decide ((6 : Int) < 6) = false := decide_eq_false (by omega)
                have z2 : ¬ ((6 : Int) < 6) := by omega
                have hl60 := HL60.out
                have hlt := HLt.out
                go_wp2_with fail
                go_roundw
                case rel => exact ⟨k + 1, vn, An, fn, a5, c5, ga5, gc5, a6, c6, ga6, gc6, hlt, by go_num, HE4.out, HR4.out, HSm.out, HLow4.out⟩
                case measure => simp [intOf]; omega
    · obtain rfl : k = l.length := by omega
      have u3 : decide (l.length < l.length) = false := decide_eq_false (by omega)
      have u1 : decide ((l.length : Int) < (l.length : Int)) = false := decide_eq_false (by omega)
      have u2 : ¬ ((l.length : Int) < (l.length : Int)) := by omega
      go_wp2_with fail
      go_ret
      exact ⟨rfl, HLow.out⟩
end Go.Proofs.YtchmpkgjjkfjcaaDoor
