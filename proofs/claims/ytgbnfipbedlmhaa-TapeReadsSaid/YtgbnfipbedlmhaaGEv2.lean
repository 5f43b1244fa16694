/-
  The rows of texts of package event and its reference, as bytes: each computes what the plain mathematics says. Conditions: the arguments can be read; the bytes are not too many.
  Ask, Tell and their references: each puts what the plain mathematics says. Conditions: the arguments can be read; the texts are not too long.
-/
import Derived.Test.YtgbnfipbedlmhaaGEv1
import Derived.Test.YtgbnfipbedlmhaaGReg
/-! EvWalks3 -/
set_option linter.unusedVariables false
namespace Go.Proofs.Ytgbnfipbedlmhaa
open Go.RowKit Base

theorem textB_len (s : List UInt8) (h : Lt64 s.length) : (textB s).length ≤ 10 + s.length := by
  unfold textB; rw [List.length_append]; have := num_len s.length h; omega
theorem texts_part2 (l : List (List UInt8)) (s : List UInt8) (h : s ∈ l) : s.length ≤ (texts l).length := by
  induction l with
  | nil => cases h
  | cons t r ih =>
    simp only [texts, List.flatMap_cons, List.length_append] at ih ⊢
    rcases List.mem_cons.1 h with rfl | h
    · omega
    · have := ih h; omega
theorem texts_textB (l : List (List UInt8)) (s : List UInt8) : texts (l ++ [s]) = texts l ++ textB s := by rw [texts_snoc, textB, List.append_assoc]

set_option maxHeartbeats 400000 in
set_option maxRecDepth 100000 in
theorem ev_row_calls (w : World) (a : Option Addr) (n cap : Nat) (l : List (List UInt8)) (h : Strs w a n cap l) (hs : n ≤ 1000000) (ht : (texts l).length ≤ 100000000) :
    Calls Try.prog 42 #[.slice a n cap] w fun e w' => ∃ v, e = .returned v ∧ w'.ownsRow w.heap.size 5 1 v (rowB l).length ((rowB l).map bv) ∧ Below w.heap.size w w' := by
  obtain ⟨i0, hi, hz0, hz1, hz2⟩ := info_parts info_u8
  have Hn := Lib.hid h.1
  have hm64 : Lt64 n := by unfold Lt64; omega
  have Hput := Lib.hid (var_put_calls (w.alloc (.cells #[.int .u64 ((n : Nat) : Int)] 62)) (some ⟨w.heap.size, 0, none⟩) 1 1 [n] (u64_one w n 62) (by intro x hx; simp at hx; subst hx; exact hm64) (by decide))
  have H0 := Lib.hid h; clear h
  have HT := Lib.hid ht; clear ht
  have hnl := num_len n hm64
  have HR : Hid (rowB l = VarPlain.num n ++ texts l) := by show _ = _; unfold rowB; rw [Hn.out]
  go_enter Try.func42, Try.ntmps42
  go_wp2_with fail
  refine Hput.out.mono ?_
  rintro e w1 ⟨v1, rfl, hown1, hb1⟩
  rw [nums_one] at hown1
  have hbA := (Below.refl w.heap.size w).alloc (Nat.le_refl _) (.cells #[.int .u64 ((n : Nat) : Int)] 62)
  have hb1' := hbA.trans (hb1.mono (by simp))
  have hs1 := hb1'.size
  have hown1' := ownsRow_mono (base' := w.heap.size) hown1 (by simp)
  obtain ⟨av, cv, rfl, _, _, _, _⟩ := ownsRow_slice hown1'
  clear Hput hown1 hbA hb1
  go_wp2_with fail
  refine (var_texts_calls w1 a n cap l (H0.out.below stable_strAt hb1') hs (by have := HT.out; omega)).mono ?_
  rintro e w2 ⟨v2, rfl, hown2, hb2⟩
  obtain ⟨a2, c2, rfl, hrow2⟩ := ownsRow_bytes hown2
  have hb2' := hb1'.trans (hb2.mono hs1)
  have hown1'' := ownsRow_below hown1' hb2
  have hs2 := hb2'.size
  have htl := HT.out
  clear hown2 hb2 hown1' hb1' hs1
  go_wp2_with (at_builtin; refine wpList_append_src rfl (.tmp 7) (.tmp 9) 28 28 rfl w.heap.size 5 i0 (.int .u8 0) 1 1 Try.underlying28 (append_side Try.underlying28) hi hz0 hz1 hz2 rfl (by decide) (by decide) _ (VarPlain.num n).length _ rfl hown1'' _ (texts l).length _ rfl (src_bytes hrow2) ?_ ?_ ?_ ?_)
  case _ => unfold maxLen; omega
  case _ => omega
  case _ => omega
  intro v3 w3 hown3 hg3 _
  have hb3 : Below w.heap.size w w3 := hb2'.grown hg3 hs2 (fun j hj => (hown1''.lt j hj).1)
  have hown4 : w3.ownsRow w.heap.size 5 1 v3 (rowB l).length ((rowB l).map bv) := by
    rw [HR.out, List.length_append, List.map_append]
    exact hown3
  clear hown3 hg3
  go_wp2_with fail
  go_ret
  exact ⟨_, rfl, hown4, hb3⟩

set_option maxHeartbeats 400000 in
set_option maxRecDepth 100000 in
theorem ref_text_calls (w : World) (s : List UInt8) (hs : s.length ≤ 1000000000) :
    Calls Try.prog 24 #[.string (str s)] w fun e w' => e = .returned (.string (str (textB s))) ∧ Below w.heap.size w w' := by
  have hm64 : Lt64 s.length := by unfold Lt64; omega
  have Hnum := Lib.hid (var_ref_num_calls w s.length hm64)
  have hnl : (str (VarPlain.num s.length)).size ≤ 10 := num_len s.length hm64
  have hsl : (str s).size ≤ 1000000000 := hs
  have hse : (str s).size = s.length := rfl
  have Hf : Hid (str (VarPlain.num s.length) ++ str s = str (textB s)) := str_append _ _
  have Hse := Lib.hid hse
  rw [← Hse.out] at Hnum
  clear hse
  have Hnn : Hid (str (VarPlain.num (str s).size) = str (VarPlain.num s.length)) := rfl
  rw [← Hnn.out] at hnl Hf
  go_enter Try.func24, Try.ntmps24
  go_wp2_with fail
  refine Hnum.out.mono ?_
  rintro e w1 ⟨rfl, hb1⟩
  have Hb1 := Lib.hid hb1; clear hb1
  go_wp2_with fail
  go_ret
  exact ⟨by rw [← Hf.out]; rfl, Hb1.out⟩

set_option maxHeartbeats 400000 in
set_option maxRecDepth 100000 in
theorem ref_row_calls (w : World) (a : Option Addr) (n cap : Nat) (l : List (List UInt8)) (h : Strs w a n cap l) (hs : n ≤ 1000000) (ht : (texts l).length ≤ 100000000) :
    Calls Try.prog 29 #[.slice a n cap] w fun e w' => e = .returned (.string (str (rowB l))) ∧ Below w.heap.size w w' := by
  have Hn := Lib.hid h.1
  have hm64 : Lt64 n := by unfold Lt64; omega
  have HT : Hid (∀ k, (texts (l.take k)).length ≤ 100000000) := fun k => Nat.le_trans (texts_take_le l k) ht
  have HTm : Hid (∀ s ∈ l, s.length ≤ 100000000) := fun s hs => Nat.le_trans (texts_part2 l s hs) ht
  have Hnum := Lib.hid (var_ref_num_calls w n hm64)
  have hnl := num_len n hm64
  have HR : Hid (rowB l = VarPlain.num n ++ texts l) := by show _ = _; unfold rowB; rw [Hn.out]
  have H0 := Lib.hid h; clear h ht
  generalize hB : w.heap.size = B
  have HB := Lib.hid hB; clear hB
  have HBel : Hid (∀ wx, Below B w wx → Below w.heap.size w wx) := fun wx hx => by rw [HB.out]; exact hx
  go_enter Try.func29, Try.ntmps29
  go_wp2_with fail
  refine Hnum.out.mono ?_
  rintro e w1 ⟨rfl, hb1⟩
  rw [HB.out] at hb1
  have hs1 : B ≤ w1.heap.size := by have := hb1.size; rw [HB.out] at this; exact this
  have H00 : Hid (str (VarPlain.num n ++ texts (l.take 0)) = str (VarPlain.num n)) := by show _ = _; simp [texts]
  go_wp2_with fail
  go_loopw [3, 4] (fun s i wr => ∃ k : Nat, k ≤ n ∧ i = .int .i64 k ∧ s = .string (str (VarPlain.num n ++ texts (l.take k))) ∧ Below B w wr ∧ B ≤ wr.heap.size) (fun _ i _ => n - (intOf i).toNat)
  case atStart => exact ⟨0, Nat.zero_le _, rfl, by rw [H00.out], hb1, hs1⟩
  case round =>
    clear hb1 hs1 H00
    obtain ⟨k, hk, rfl, rfl, hbel, hBs⟩ := hrel
    by_cases hlt : k < n
    · have hkl : k < l.length := by rw [← Hn.out]; exact hlt
      obtain ⟨b, off, hrow, hidx⟩ := at_strs (H0.out.below stable_strAt (HBel.out _ hbel))
      have hc := hrow k hkl
      have hix := hidx .i64 k wr hlt
      have hsl := HTm.out l[k] (List.getElem_mem hkl)
      have Hsn : Hid (texts (l.take (k + 1)) = texts (l.take k) ++ textB l[k]) := by
        show _ = _
        rw [List.take_succ_eq_append_getElem hkl, texts_textB]
      have hpl := HT.out k
      clear hrow hidx
      generalize l[k]'hkl = s at *
      have Htx := Lib.hid (ref_text_calls wr s (by omega))
      have htl := textB_len s (by unfold Lt64; omega)
      have h1 : (str (VarPlain.num n ++ texts (l.take k))).size ≤ 100000010 := by rw [str_size, List.length_append]; omega
      have h2 : (str (textB s)).size ≤ 100000010 := by rw [str_size]; omega
      clear hpl htl
      have Hcat : Hid (str (VarPlain.num n ++ texts (l.take k)) ++ str (textB s) = str (VarPlain.num n ++ texts (l.take (k + 1)))) := by
        show _ = _
        rw [str_append, Hsn.out, List.append_assoc]
      generalize str (VarPlain.num n ++ texts (l.take k)) = pre at *
      generalize str (textB s) = ts at *
      go_wp2_with fail
      refine Htx.out.mono ?_
      rintro e w2 ⟨rfl, hb2⟩
      have hb2' := hbel.trans (hb2.mono hBs)
      have hs2 : B ≤ w2.heap.size := Nat.le_trans hBs hb2.size
      clear hb2 hbel hBs hc hix
      go_wp2_with fail
      go_roundw
      case rel => exact ⟨k + 1, by omega, by go_num, by rw [Hcat.out], hb2', hs2⟩
      case measure => simp [intOf]; omega
    · obtain rfl : n = k := by omega
      have ht : l.take n = l := List.take_of_length_le (by rw [← Hn.out]; exact Nat.le_refl _)
      rw [ht]
      clear ht
      go_wp2_with fail
      go_ret
      exact ⟨by rw [HR.out]; rfl, hbel⟩

end Go.Proofs.Ytgbnfipbedlmhaa

/-! EvWalks4 -/
set_option linter.unusedVariables false
set_option maxRecDepth 100000
namespace Go.Proofs.Ytgbnfipbedlmhaa
open Go.RowKit Base

def askBOut (q : Req) : List UInt8 := if rightB q = true then askB q else []
def tellBOut (q : Ans) : List UInt8 := if fitsB q.kind q = true then tellB q else []
theorem rowB_len (l : List (List UInt8)) (h : l.length ≤ 4096) : (rowB l).length ≤ 10 + (texts l).length := by
  unfold rowB; rw [List.length_append]; have := num_len l.length (by unfold Lt64; omega); omega
theorem texts_one (s : List UInt8) : texts [s] = textB s := by simp [texts, textB]
theorem conv_u64 (w : World) (k : Nat) (h : k < 9223372036854775808) : (convert 3 62 (.int .i64 (k : Int))).run Try.prog w = .ok (.int .u64 (k : Int)) w := by
  have hk : Try.prog.intKind 62 = .u64 := by simp [Program.intKind, Try.underlying62]
  have := run_convert_int (P := Try.prog) w 3 62 .i64 (k : Int) (by rw [Try.underlying3]; rfl) (by rw [hk]; exact Try.underlying62)
  rw [hk, IntKind.wrap_u64] at this
  rw [this]
  congr 2
  omega
theorem load_plain {t : TypeId} {w : World} {ad : Addr} {v : Value} (hagg : (isAgg t).run Try.prog w = .ok false w) (h : w.cell? ad = some v) : (Instr.loadAt t (.pointer (some ad))).run Try.prog w = .ok v w := by
  simp [Instr.loadAt, Instr.sureAddr, loadVar, hagg, Result.andThen, load]
  show Sem.run _ (Sem.load Mode.plain ad Sem.pure) w = _
  simp only [Sem.run, h]
theorem load_int {w : World} {ad : Addr} {v : Value} (h : w.cell? ad = some v) : (Instr.loadAt 3 (.pointer (some ad))).run Try.prog w = .ok v w := load_plain (by simp [isAgg, run_underlying Try.underlying3]) h
theorem load_i64 {w : World} {ad : Addr} {v : Value} (h : w.cell? ad = some v) : (Instr.loadAt 2 (.pointer (some ad))).run Try.prog w = .ok v w := load_plain (by simp [isAgg, run_underlying Try.underlying2]) h
theorem load_string {w : World} {ad : Addr} {v : Value} (h : w.cell? ad = some v) : (Instr.loadAt 9 (.pointer (some ad))).run Try.prog w = .ok v w := load_plain (by simp [isAgg, run_underlying Try.underlying9]) h
theorem load_strs {w : World} {ad : Addr} {v : Value} (h : w.cell? ad = some v) : (Instr.loadAt 32 (.pointer (some ad))).run Try.prog w = .ok v w := load_plain (by simp [isAgg, run_underlying Try.underlying32]) h
theorem does_add_str {P : Program} {a : Act} {w : World} {post : Value → World → Prop} {dst : Option Tmp} {x y : Operand} {t u : TypeId} {ty : TypeId} {pos : String} {after : Array Edge} {guard : Option (Nat × Bool)} (l m : List UInt8) (h : l.length + m.length ≤ 9223372036854775807)
    (hx : a.eval x = .string (str l)) (hy : a.eval y = .string (str m)) (hp : Below w.heap.size w w ∧ post (.string (str (l ++ m))) w) : Rg.does P { dst, op := .binOp .add t x y u, type := ty, pos, after, guard } a w fun v w' => Below w.heap.size w w' ∧ post v w' := by
  refine Rg.does_value (v := .string (str (l ++ m))) ?_ hp
  have := run_string_add_sum (P := P) w (str l) (str m) h
  rw [str_append] at this
  simp [execOp, hx, hy, eqGuard_at_string, binOp_string_add, this, Result.andThen]
theorem ans_f0 (p : Nat) (w : World) : (Instr.fieldAt 34 (.pointer (some ⟨p, 0, none⟩)) 0).run Try.prog w = .ok (.pointer (some ⟨p, 0, none⟩)) w := by kernel_rfl
theorem ans_f1 (p : Nat) (w : World) : (Instr.fieldAt 34 (.pointer (some ⟨p, 0, none⟩)) 1).run Try.prog w = .ok (.pointer (some ⟨p, 1, none⟩)) w := by kernel_rfl
theorem ans_f2 (p : Nat) (w : World) : (Instr.fieldAt 34 (.pointer (some ⟨p, 0, none⟩)) 2).run Try.prog w = .ok (.pointer (some ⟨p, 2, none⟩)) w := by kernel_rfl
theorem ans_f3 (p : Nat) (w : World) : (Instr.fieldAt 34 (.pointer (some ⟨p, 0, none⟩)) 3).run Try.prog w = .ok (.pointer (some ⟨p, 3, none⟩)) w := by kernel_rfl
theorem ans_f4 (p : Nat) (w : World) : (Instr.fieldAt 34 (.pointer (some ⟨p, 0, none⟩)) 4).run Try.prog w = .ok (.pointer (some ⟨p, 4, none⟩)) w := by kernel_rfl
theorem ans_f5 (p : Nat) (w : World) : (Instr.fieldAt 34 (.pointer (some ⟨p, 0, none⟩)) 5).run Try.prog w = .ok (.pointer (some ⟨p, 5, none⟩)) w := by kernel_rfl
theorem ans_f6 (p : Nat) (w : World) : (Instr.fieldAt 34 (.pointer (some ⟨p, 0, none⟩)) 6).run Try.prog w = .ok (.pointer (some ⟨p, 6, none⟩)) w := by kernel_rfl

set_option maxHeartbeats 2000000 in
set_option maxRecDepth 100000 in
theorem ev_tell_calls (w : World) (q : Ans) (a0 : Option Addr) (cap : Nat) (hst : Strs w a0 q.list.length cap q.list) (hI1 : I64 q.n) (hI2 : I64 q.m) (htx : q.text.length ≤ 10000000) (hlx : (texts q.list).length ≤ 100000000) :
    Calls Try.prog 22 #[ansV q a0 cap] w fun e w' => ∃ v, e = .returned v ∧ w'.ownsRow w.heap.size 5 1 v (tellBOut q).length ((tellBOut q).map bv) ∧ Below w.heap.size w w' := by
  have HO : Hid (tellBOut q = if fitsB q.kind q = true then tellB q else []) := rfl
  by_cases hr : fitsB q.kind q = true
  · have HV : Hid (tellBOut q = tellB q) := by show _ = _; rw [HO.out, if_pos hr]
    have hrr := (fitsB_iff q.kind q).1 hr
    have HCT := Lib.hid fun w => ev_fits_calls w q.kind q a0 cap
    simp only [hr] at HCT
    clear HO hr
    obtain ⟨kind, err, n, m, text, list, sig⟩ := q
    simp only [] at *
    obtain ⟨kd, rfl⟩ : ∃ kd : Nat, kind = (kd : Int) := ⟨kind.toNat, by omega⟩
    obtain ⟨er, rfl⟩ : ∃ er : Nat, err = (er : Int) := ⟨err.toNat, by omega⟩
    obtain ⟨sg, rfl⟩ : ∃ sg : Nat, sig = (sg : Int) := ⟨sig.toNat, by omega⟩
    have HST0 := Lib.hid hst; clear hst
    have HIn := Lib.hid hI1; clear hI1
    have HIm := Lib.hid hI2; clear hI2
    have HZn : Hid (Lt64 (VarPlain.zig n)) := zig_lt HIn.out
    have HZm : Hid (Lt64 (VarPlain.zig m)) := zig_lt HIm.out
    have hll : list.length ≤ 4096 := by omega
    have HLL := Lib.hid hll
    have HLX := Lib.hid hlx
    have htb := textB_len text (by unfold Lt64; omega)
    have hrb := rowB_len list hll
    have HTX : Hid (text.length ≤ 10000000 ∧ (texts [text]).length ≤ 10000010) := ⟨htx, by rw [texts_one]; omega⟩
    have hl_kd := num_len (kd) (by first | exact HZn.out | exact HZm.out | (unfold Lt64; omega))
    have hl_er := num_len (er) (by first | exact HZn.out | exact HZm.out | (unfold Lt64; omega))
    have hl_zn := num_len (VarPlain.zig n) (by first | exact HZn.out | exact HZm.out | (unfold Lt64; omega))
    have hl_zm := num_len (VarPlain.zig m) (by first | exact HZn.out | exact HZm.out | (unfold Lt64; omega))
    have hl_sg := num_len (sg) (by first | exact HZn.out | exact HZm.out | (unfold Lt64; omega))
    unfold ansV at *
    go_enter Try.func22, Try.ntmps22
    go_wp2_with fail
    refine (HCT.out _).mono ?_
    rintro e w1 ⟨rfl, hb1⟩
    have HK0 : Hid (w1.cell? ⟨w.heap.size, 0, none⟩ = some (.int .i64 (kd : Int))) := by show _ = _; rw [hb1.cell (p := ⟨w.heap.size, 0, none⟩) (by simp)]; simp
    have HK1 : Hid (w1.cell? ⟨w.heap.size, 1, none⟩ = some (.int .i64 (er : Int))) := by show _ = _; rw [hb1.cell (p := ⟨w.heap.size, 1, none⟩) (by simp)]; simp
    have HK2 : Hid (w1.cell? ⟨w.heap.size, 2, none⟩ = some (.int .i64 n)) := by show _ = _; rw [hb1.cell (p := ⟨w.heap.size, 2, none⟩) (by simp)]; simp
    have HK3 : Hid (w1.cell? ⟨w.heap.size, 3, none⟩ = some (.int .i64 m)) := by show _ = _; rw [hb1.cell (p := ⟨w.heap.size, 3, none⟩) (by simp)]; simp
    have HK4 : Hid (w1.cell? ⟨w.heap.size, 4, none⟩ = some (.string (str text))) := by show _ = _; rw [hb1.cell (p := ⟨w.heap.size, 4, none⟩) (by simp)]; simp
    have HK5 : Hid (w1.cell? ⟨w.heap.size, 5, none⟩ = some (.slice a0 list.length cap)) := by show _ = _; rw [hb1.cell (p := ⟨w.heap.size, 5, none⟩) (by simp)]; simp
    have HK6 : Hid (w1.cell? ⟨w.heap.size, 6, none⟩ = some (.int .i64 (sg : Int))) := by show _ = _; rw [hb1.cell (p := ⟨w.heap.size, 6, none⟩) (by simp)]; simp
    have hbw : Below w.heap.size w w1 := ((Below.refl _ _).alloc (Nat.le_refl _) _).trans (hb1.mono (by simp))
    have hgw : w.heap.size < w1.heap.size := by have := hb1.size; simp at this; omega
    have HST : Hid (Strs w1 a0 list.length cap list) := HST0.out.below stable_strAt hbw
    have HKK : Hid (w.heap.size ≤ w1.heap.size) := by show _ ≤ _; omega
    clear hb1
    have HBW := Lib.hid hbw; clear hbw
    go_wp2_with fail
    have HFL : Hid (([VarPlain.nums [kd, er, VarPlain.zig n, VarPlain.zig m], texts [text], rowB list, VarPlain.nums [sg]] : List (List UInt8)).flatten = tellB ⟨(kd : Int), (er : Int), n, m, text, list, (sg : Int)⟩) := by show _ = _; simp [VarPlain.nums, texts, textB, tellB]
    have HFN : Hid ((tellB ⟨(kd : Int), (er : Int), n, m, text, list, (sg : Int)⟩).length ≤ 1000000000) := by show _ ≤ _; unfold tellB; simp only [List.length_append, Int.toNat_natCast]; omega
    refine Rg.wp_region_rgl [] [Rg.Is (.pointer (some ⟨w.heap.size, 0, none⟩)), Rg.Is (.int .i64 (kd : Int)), Rg.Is (.int .u64 (kd : Int)), Rg.Is (.pointer (some ⟨w.heap.size, 1, none⟩)), Rg.Is (.int .i64 (er : Int)), Rg.Is (.int .u64 (er : Int)), Rg.Is (.pointer (some ⟨w.heap.size, 2, none⟩)), Rg.Is (.int .i64 n), Rg.Is (.int .u64 (VarPlain.zig n : Int)), Rg.Is (.pointer (some ⟨w.heap.size, 3, none⟩)), Rg.Is (.int .i64 m), Rg.Is (.int .u64 (VarPlain.zig m : Int)), (fun v w => ∃ a c, v = .slice a 4 c ∧ U64s w a 4 c [kd, er, VarPlain.zig n, VarPlain.zig m]), (fun v w => ∃ a c, v = .slice a (VarPlain.nums [kd, er, VarPlain.zig n, VarPlain.zig m]).length c ∧ Bytes w a (VarPlain.nums [kd, er, VarPlain.zig n, VarPlain.zig m]).length c (VarPlain.nums [kd, er, VarPlain.zig n, VarPlain.zig m])), Rg.Is (.pointer (some ⟨w.heap.size, 4, none⟩)), Rg.Is (.string (str text)), (fun v w => ∃ a c, v = .slice a 1 c ∧ Strs w a 1 c [text]), (fun v w => ∃ a c, v = .slice a (texts [text]).length c ∧ Bytes w a (texts [text]).length c (texts [text])), Rg.Is (.pointer (some ⟨w.heap.size, 5, none⟩)), Rg.Is (.slice a0 list.length cap), (fun v w => ∃ a c, v = .slice a (rowB list).length c ∧ Bytes w a (rowB list).length c (rowB list)), Rg.Is (.pointer (some ⟨w.heap.size, 6, none⟩)), Rg.Is (.int .i64 (sg : Int)), Rg.Is (.int .u64 (sg : Int)), (fun v w => ∃ a c, v = .slice a 1 c ∧ U64s w a 1 c [sg]), (fun v w => ∃ a c, v = .slice a (VarPlain.nums [sg]).length c ∧ Bytes w a (VarPlain.nums [sg]).length c (VarPlain.nums [sg])), (fun v w => ∃ a c, v = .slice a 4 c ∧ ByteRows w a 4 c [VarPlain.nums [kd, er, VarPlain.zig n, VarPlain.zig m], texts [text], rowB list, VarPlain.nums [sg]]), (fun v w' => w'.ownsRow w.heap.size 5 1 v (tellB ⟨(kd : Int), (er : Int), n, m, text, list, (sg : Int)⟩).length ((tellB ⟨(kd : Int), (er : Int), n, m, text, list, (sg : Int)⟩).map bv)), (fun v w' => w'.ownsRow w.heap.size 5 1 v (tellB ⟨(kd : Int), (er : Int), n, m, text, list, (sg : Int)⟩).length ((tellB ⟨(kd : Int), (er : Int), n, m, text, list, (sg : Int)⟩).map bv))] (by kernel_rfl) (by kernel_rfl) (by kernel_rfl) ⟨Rg.st_is _, Rg.st_is _, Rg.st_is _, Rg.st_is _, Rg.st_is _, Rg.st_is _, Rg.st_is _, Rg.st_is _, Rg.st_is _, Rg.st_is _, Rg.st_is _, Rg.st_is _, fun v w w' h hb => by obtain ⟨a, c, hv, hr⟩ := h; exact ⟨a, c, hv, hr.below stable_u64At hb⟩, fun v w w' h hb => by obtain ⟨a, c, hv, hr⟩ := h; exact ⟨a, c, hv, hr.below stable_byteAt hb⟩, Rg.st_is _, Rg.st_is _, fun v w w' h hb => by obtain ⟨a, c, hv, hr⟩ := h; exact ⟨a, c, hv, hr.below stable_strAt hb⟩, fun v w w' h hb => by obtain ⟨a, c, hv, hr⟩ := h; exact ⟨a, c, hv, hr.below stable_byteAt hb⟩, Rg.st_is _, Rg.st_is _, fun v w w' h hb => by obtain ⟨a, c, hv, hr⟩ := h; exact ⟨a, c, hv, hr.below stable_byteAt hb⟩, Rg.st_is _, Rg.st_is _, Rg.st_is _, fun v w w' h hb => by obtain ⟨a, c, hv, hr⟩ := h; exact ⟨a, c, hv, hr.below stable_u64At hb⟩, fun v w w' h hb => by obtain ⟨a, c, hv, hr⟩ := h; exact ⟨a, c, hv, hr.below stable_byteAt hb⟩, fun v w w' h hb => by obtain ⟨a, c, hv, hr⟩ := h; exact ⟨a, c, hv, hr.below stable_bytesCell hb⟩, fun v w w' h hb => ownsRow_below h hb, fun v w w' h hb => ownsRow_below h hb, trivial⟩ ⟨rfl, rfl, rfl, rfl, rfl, rfl, rfl, rfl, rfl, rfl, rfl, rfl, rfl, rfl, rfl, rfl, rfl, rfl, rfl, rfl, rfl, rfl, rfl, rfl, rfl, rfl, rfl, rfl, rfl, trivial⟩ ⟨?_, ?_, ?_, ?_, ?_, ?_, ?_, ?_, ?_, ?_, ?_, ?_, ?_, ?_, ?_, ?_, ?_, ?_, ?_, ?_, ?_, ?_, ?_, ?_, ?_, ?_, ?_, ?_, ?_, trivial⟩ ?_
    · intro _ a wx hb hk
      have h1 : a.eval (.tmp 1) = .pointer (some ⟨w.heap.size, 0, none⟩) := Eq.mp (by kernel_rfl) (hk 1 (by decide))
      exact Rs.does_field _ _ h1 (ans_f0 _ _) ⟨Below.refl _ _, rfl⟩
    · intro _ a wx hb hk
      have h8 : a.eval (.tmp 8) = .pointer (some ⟨w.heap.size, 0, none⟩) := Eq.mp (by kernel_rfl) (hk 8 (by decide))
      exact Rg.does_load _ _ h8 (load_int (cell_below hb (Nat.le_refl _) HK0.out)) ⟨Below.refl _ _, rfl⟩
    · intro _ a wx hb hk
      have h9 : a.eval (.tmp 9) = .int .i64 (kd : Int) := Eq.mp (by kernel_rfl) (hk 9 (by decide))
      exact Rg.does_convert _ _ h9 (conv_u64 _ _ (by omega)) ⟨Below.refl _ _, rfl⟩
    · intro _ a wx hb hk
      have h1 : a.eval (.tmp 1) = .pointer (some ⟨w.heap.size, 0, none⟩) := Eq.mp (by kernel_rfl) (hk 1 (by decide))
      exact Rs.does_field _ _ h1 (ans_f1 _ _) ⟨Below.refl _ _, rfl⟩
    · intro _ a wx hb hk
      have h11 : a.eval (.tmp 11) = .pointer (some ⟨w.heap.size, 1, none⟩) := Eq.mp (by kernel_rfl) (hk 11 (by decide))
      exact Rg.does_load _ _ h11 (load_int (cell_below hb (Nat.le_refl _) HK1.out)) ⟨Below.refl _ _, rfl⟩
    · intro _ a wx hb hk
      have h12 : a.eval (.tmp 12) = .int .i64 (er : Int) := Eq.mp (by kernel_rfl) (hk 12 (by decide))
      exact Rg.does_convert _ _ h12 (conv_u64 _ _ (by omega)) ⟨Below.refl _ _, rfl⟩
    · intro _ a wx hb hk
      have h1 : a.eval (.tmp 1) = .pointer (some ⟨w.heap.size, 0, none⟩) := Eq.mp (by kernel_rfl) (hk 1 (by decide))
      exact Rs.does_field _ _ h1 (ans_f2 _ _) ⟨Below.refl _ _, rfl⟩
    · intro _ a wx hb hk
      have h14 : a.eval (.tmp 14) = .pointer (some ⟨w.heap.size, 2, none⟩) := Eq.mp (by kernel_rfl) (hk 14 (by decide))
      exact Rg.does_load _ _ h14 (load_i64 (cell_below hb (Nat.le_refl _) HK2.out)) ⟨Below.refl _ _, rfl⟩
    · intro _ a wx hb hk
      have h15 : a.eval (.tmp 15) = .int .i64 n := Eq.mp (by kernel_rfl) (hk 15 (by decide))
      refine Rg.does_func #[.int .i64 n] Try.func40 (by kernel_rfl) (by kernel_rfl) (by simp [h15]) (var_zig_calls wx _ HIn.out.1 HIn.out.2) ?_
      rintro e w' ⟨rfl, rfl⟩
      exact ⟨_, rfl, Below.refl _ _, rfl⟩
    · intro _ a wx hb hk
      have h1 : a.eval (.tmp 1) = .pointer (some ⟨w.heap.size, 0, none⟩) := Eq.mp (by kernel_rfl) (hk 1 (by decide))
      exact Rs.does_field _ _ h1 (ans_f3 _ _) ⟨Below.refl _ _, rfl⟩
    · intro _ a wx hb hk
      have h17 : a.eval (.tmp 17) = .pointer (some ⟨w.heap.size, 3, none⟩) := Eq.mp (by kernel_rfl) (hk 17 (by decide))
      exact Rg.does_load _ _ h17 (load_i64 (cell_below hb (Nat.le_refl _) HK3.out)) ⟨Below.refl _ _, rfl⟩
    · intro _ a wx hb hk
      have h18 : a.eval (.tmp 18) = .int .i64 m := Eq.mp (by kernel_rfl) (hk 18 (by decide))
      refine Rg.does_func #[.int .i64 m] Try.func40 (by kernel_rfl) (by kernel_rfl) (by simp [h18]) (var_zig_calls wx _ HIm.out.1 HIm.out.2) ?_
      rintro e w' ⟨rfl, rfl⟩
      exact ⟨_, rfl, Below.refl _ _, rfl⟩
    · intro _ a wx hb hk
      have h10 : a.eval (.tmp 10) = .int .u64 (kd : Int) := Eq.mp (by kernel_rfl) (hk 10 (by decide))
      have h13 : a.eval (.tmp 13) = .int .u64 (er : Int) := Eq.mp (by kernel_rfl) (hk 13 (by decide))
      have h16 : a.eval (.tmp 16) = .int .u64 (VarPlain.zig n : Int) := Eq.mp (by kernel_rfl) (hk 16 (by decide))
      have h19 : a.eval (.tmp 19) = .int .u64 (VarPlain.zig m : Int) := Eq.mp (by kernel_rfl) (hk 19 (by decide))
      refine Rg.does_build (w' := wx.alloc (.cells #[.int .u64 (kd : Int), .int .u64 (er : Int), .int .u64 (VarPlain.zig n : Int), .int .u64 (VarPlain.zig m : Int)] 62)) #[(0, .int .u64 (kd : Int)), (1, .int .u64 (er : Int)), (2, .int .u64 (VarPlain.zig n : Int)), (3, .int .u64 (VarPlain.zig m : Int))] (.slice (some ⟨wx.heap.size, 0, none⟩) 4 4) (by simp [h10, h13, h16, h19]) (by simp [go_sem]) ⟨(Below.refl _ _).alloc (Nat.le_refl _) _, _, _, rfl, ?_⟩
      exact u64s_lit wx [kd, er, VarPlain.zig n, VarPlain.zig m] _ (by simp [maxLen])
    · intro _ a wx hb hk
      have h20 : (fun v w => ∃ a c, v = .slice a 4 c ∧ U64s w a 4 c [kd, er, VarPlain.zig n, VarPlain.zig m]) (a.eval (.tmp 20)) wx := Eq.mp (by kernel_rfl) (hk 20 (by decide))
      obtain ⟨a', c', hv, hr⟩ := h20
      refine Rg.does_func #[.slice a' 4 c'] Try.func39 (by kernel_rfl) (by kernel_rfl) (by simp [hv]) (var_put_calls wx a' 4 c' [kd, er, VarPlain.zig n, VarPlain.zig m] hr (by intro y hy; simp at hy; rcases hy with rfl | rfl | rfl | rfl <;> first | exact HZn.out | exact HZm.out | (unfold Lt64; omega)) (by decide)) ?_
      rintro e w' ⟨v, rfl, ho, hb'⟩
      obtain ⟨a2, c2, hv2, hr2⟩ := ownsRow_bytes ho
      exact ⟨_, rfl, hb', a2, c2, hv2, hr2⟩
    · intro _ a wx hb hk
      have h1 : a.eval (.tmp 1) = .pointer (some ⟨w.heap.size, 0, none⟩) := Eq.mp (by kernel_rfl) (hk 1 (by decide))
      exact Rs.does_field _ _ h1 (ans_f4 _ _) ⟨Below.refl _ _, rfl⟩
    · intro _ a wx hb hk
      have h22 : a.eval (.tmp 22) = .pointer (some ⟨w.heap.size, 4, none⟩) := Eq.mp (by kernel_rfl) (hk 22 (by decide))
      exact Rg.does_load _ _ h22 (load_string (cell_below hb (Nat.le_refl _) HK4.out)) ⟨Below.refl _ _, rfl⟩
    · intro _ a wx hb hk
      have h23 : a.eval (.tmp 23) = .string (str text) := Eq.mp (by kernel_rfl) (hk 23 (by decide))
      refine Rg.does_build (w' := wx.alloc (.cells #[.string (str text)] 9)) #[(0, .string (str text))] (.slice (some ⟨wx.heap.size, 0, none⟩) 1 1) (by simp [h23]) (by simp [go_sem]) ⟨(Below.refl _ _).alloc (Nat.le_refl _) _, _, _, rfl, ?_⟩
      exact strs_lit wx [text] _ (by simp [maxLen])
    · intro _ a wx hb hk
      have h24 : (fun v w => ∃ a c, v = .slice a 1 c ∧ Strs w a 1 c [text]) (a.eval (.tmp 24)) wx := Eq.mp (by kernel_rfl) (hk 24 (by decide))
      obtain ⟨a', c', hv, hr⟩ := h24
      refine Rg.does_func #[.slice a' 1 c'] Try.func41 (by kernel_rfl) (by kernel_rfl) (by simp [hv]) (var_texts_calls wx a' 1 c' [text] hr (by decide) (by have := HTX.out; omega)) ?_
      rintro e w' ⟨v, rfl, ho, hb'⟩
      obtain ⟨a2, c2, hv2, hr2⟩ := ownsRow_bytes ho
      exact ⟨_, rfl, hb', a2, c2, hv2, hr2⟩
    · intro _ a wx hb hk
      have h1 : a.eval (.tmp 1) = .pointer (some ⟨w.heap.size, 0, none⟩) := Eq.mp (by kernel_rfl) (hk 1 (by decide))
      exact Rs.does_field _ _ h1 (ans_f5 _ _) ⟨Below.refl _ _, rfl⟩
    · intro _ a wx hb hk
      have h26 : a.eval (.tmp 26) = .pointer (some ⟨w.heap.size, 5, none⟩) := Eq.mp (by kernel_rfl) (hk 26 (by decide))
      exact Rg.does_load _ _ h26 (load_strs (cell_below hb (Nat.le_refl _) HK5.out)) ⟨Below.refl _ _, rfl⟩
    · intro _ a wx hb hk
      have h27 : a.eval (.tmp 27) = .slice a0 list.length cap := Eq.mp (by kernel_rfl) (hk 27 (by decide))
      refine Rg.does_func #[.slice a0 list.length cap] Try.func42 (by kernel_rfl) (by kernel_rfl) (by simp [h27]) (ev_row_calls wx a0 _ cap list (HST.out.below stable_strAt hb) (by have := HLL.out; omega) (by have := HLX.out; omega)) ?_
      rintro e w' ⟨v, rfl, ho, hb'⟩
      obtain ⟨a2, c2, hv2, hr2⟩ := ownsRow_bytes ho
      exact ⟨_, rfl, hb', a2, c2, hv2, hr2⟩
    · intro _ a wx hb hk
      have h1 : a.eval (.tmp 1) = .pointer (some ⟨w.heap.size, 0, none⟩) := Eq.mp (by kernel_rfl) (hk 1 (by decide))
      exact Rs.does_field _ _ h1 (ans_f6 _ _) ⟨Below.refl _ _, rfl⟩
    · intro _ a wx hb hk
      have h29 : a.eval (.tmp 29) = .pointer (some ⟨w.heap.size, 6, none⟩) := Eq.mp (by kernel_rfl) (hk 29 (by decide))
      exact Rg.does_load _ _ h29 (load_int (cell_below hb (Nat.le_refl _) HK6.out)) ⟨Below.refl _ _, rfl⟩
    · intro _ a wx hb hk
      have h30 : a.eval (.tmp 30) = .int .i64 (sg : Int) := Eq.mp (by kernel_rfl) (hk 30 (by decide))
      exact Rg.does_convert _ _ h30 (conv_u64 _ _ (by omega)) ⟨Below.refl _ _, rfl⟩
    · intro _ a wx hb hk
      have h31 : a.eval (.tmp 31) = .int .u64 (sg : Int) := Eq.mp (by kernel_rfl) (hk 31 (by decide))
      refine Rg.does_build (w' := wx.alloc (.cells #[.int .u64 (sg : Int)] 62)) #[(0, .int .u64 (sg : Int))] (.slice (some ⟨wx.heap.size, 0, none⟩) 1 1) (by simp [h31]) (by simp [go_sem]) ⟨(Below.refl _ _).alloc (Nat.le_refl _) _, _, _, rfl, ?_⟩
      exact u64s_lit wx [sg] _ (by simp [maxLen])
    · intro _ a wx hb hk
      have h32 : (fun v w => ∃ a c, v = .slice a 1 c ∧ U64s w a 1 c [sg]) (a.eval (.tmp 32)) wx := Eq.mp (by kernel_rfl) (hk 32 (by decide))
      obtain ⟨a', c', hv, hr⟩ := h32
      refine Rg.does_func #[.slice a' 1 c'] Try.func39 (by kernel_rfl) (by kernel_rfl) (by simp [hv]) (var_put_calls wx a' 1 c' [sg] hr (by intro y hy; simp at hy; rcases hy with rfl <;> first | exact HZn.out | exact HZm.out | (unfold Lt64; omega)) (by decide)) ?_
      rintro e w' ⟨v, rfl, ho, hb'⟩
      obtain ⟨a2, c2, hv2, hr2⟩ := ownsRow_bytes ho
      exact ⟨_, rfl, hb', a2, c2, hv2, hr2⟩
    · intro _ a wx hb hk
      have h21 : (fun v w => ∃ a c, v = .slice a (VarPlain.nums [kd, er, VarPlain.zig n, VarPlain.zig m]).length c ∧ Bytes w a (VarPlain.nums [kd, er, VarPlain.zig n, VarPlain.zig m]).length c (VarPlain.nums [kd, er, VarPlain.zig n, VarPlain.zig m])) (a.eval (.tmp 21)) wx := Eq.mp (by kernel_rfl) (hk 21 (by decide))
      have h25 : (fun v w => ∃ a c, v = .slice a (texts [text]).length c ∧ Bytes w a (texts [text]).length c (texts [text])) (a.eval (.tmp 25)) wx := Eq.mp (by kernel_rfl) (hk 25 (by decide))
      have h28 : (fun v w => ∃ a c, v = .slice a (rowB list).length c ∧ Bytes w a (rowB list).length c (rowB list)) (a.eval (.tmp 28)) wx := Eq.mp (by kernel_rfl) (hk 28 (by decide))
      have h33 : (fun v w => ∃ a c, v = .slice a (VarPlain.nums [sg]).length c ∧ Bytes w a (VarPlain.nums [sg]).length c (VarPlain.nums [sg])) (a.eval (.tmp 33)) wx := Eq.mp (by kernel_rfl) (hk 33 (by decide))
      obtain ⟨a0', c0', hv0, hr0⟩ := h21
      obtain ⟨a1', c1', hv1, hr1⟩ := h25
      obtain ⟨a2', c2', hv2, hr2⟩ := h28
      obtain ⟨a3', c3', hv3, hr3⟩ := h33
      refine Rg.does_build (w' := wx.alloc (.cells #[.slice a0' (VarPlain.nums [kd, er, VarPlain.zig n, VarPlain.zig m]).length c0', .slice a1' (texts [text]).length c1', .slice a2' (rowB list).length c2', .slice a3' (VarPlain.nums [sg]).length c3'] 28)) #[(0, .slice a0' (VarPlain.nums [kd, er, VarPlain.zig n, VarPlain.zig m]).length c0'), (1, .slice a1' (texts [text]).length c1'), (2, .slice a2' (rowB list).length c2'), (3, .slice a3' (VarPlain.nums [sg]).length c3')] (.slice (some ⟨wx.heap.size, 0, none⟩) 4 4) (by simp [hv0, hv1, hv2, hv3]) (by simp [go_sem]) ⟨(Below.refl _ _).alloc (Nat.le_refl _) _, _, _, rfl, ?_⟩
      exact rows_lit wx [.slice a0' (VarPlain.nums [kd, er, VarPlain.zig n, VarPlain.zig m]).length c0', .slice a1' (texts [text]).length c1', .slice a2' (rowB list).length c2', .slice a3' (VarPlain.nums [sg]).length c3'] [VarPlain.nums [kd, er, VarPlain.zig n, VarPlain.zig m], texts [text], rowB list, VarPlain.nums [sg]] _ (by simp [maxLen]) ⟨⟨_, _, rfl, hr0⟩, ⟨_, _, rfl, hr1⟩, ⟨_, _, rfl, hr2⟩, ⟨_, _, rfl, hr3⟩, trivial⟩
    · intro _ a wx hb hk
      have h34 : (fun v w => ∃ a c, v = .slice a 4 c ∧ ByteRows w a 4 c [VarPlain.nums [kd, er, VarPlain.zig n, VarPlain.zig m], texts [text], rowB list, VarPlain.nums [sg]]) (a.eval (.tmp 34)) wx := Eq.mp (by kernel_rfl) (hk 34 (by decide))
      obtain ⟨a', c', hv, hr⟩ := h34
      refine Rg.does_func #[.slice a' 4 c'] Try.func38 (by kernel_rfl) (by kernel_rfl) (by simp [hv]) (concat_calls wx a' 4 c' _ hr (by rw [HFL.out]; exact HFN.out)) ?_
      rintro e w' ⟨v, rfl, ho, hb'⟩
      rw [HFL.out] at ho
      exact ⟨_, rfl, hb', ownsRow_mono ho (Nat.le_trans HKK.out hb.size)⟩
    · intro _ a wx hb hk
      have h35 : (fun v w' => w'.ownsRow w.heap.size 5 1 v (tellB ⟨(kd : Int), (er : Int), n, m, text, list, (sg : Int)⟩).length ((tellB ⟨(kd : Int), (er : Int), n, m, text, list, (sg : Int)⟩).map bv)) (a.eval (.tmp 35)) wx := Eq.mp (by kernel_rfl) (hk 35 (by decide))
      exact Rg.does_assign ⟨Below.refl _ _, h35⟩
    intro vals wD hbD hL
    obtain ⟨g0, g1, g2, g3, g4, g5, g6, g7, g8, g9, g10, g11, g12, g13, g14, g15, g16, g17, g18, g19, g20, g21, g22, g23, g24, g25, g26, g27, g28, _⟩ := hL
    have hres : wD.ownsRow w.heap.size 5 1 (vals 28) (tellB ⟨(kd : Int), (er : Int), n, m, text, list, (sg : Int)⟩).length ((tellB ⟨(kd : Int), (er : Int), n, m, text, list, (sg : Int)⟩).map bv) := g28
    clear g0 g1 g2 g3 g4 g5 g6 g7 g8 g9 g10 g11 g12 g13 g14 g15 g16 g17 g18 g19 g20 g21 g22 g23 g24 g25 g26 g27 g28
    have HBD : Hid (Below w.heap.size w wD) := HBW.out.trans (hbD.mono HKK.out)
    clear hbD
    simp only [Rg.putAll, List.setIfInBounds_toArray, List.set_cons_succ, List.set_cons_zero]
    go_wp2_with fail
    go_ret
    exact ⟨_, rfl, by rw [HV.out]; exact hres, HBD.out⟩
  · have HV : Hid (tellBOut q = []) := by show _ = _; rw [HO.out, if_neg hr]
    have hrf : fitsB q.kind q = false := by simpa using hr
    have HCT := Lib.hid fun w => ev_fits_calls w q.kind q a0 cap
    simp only [hrf] at HCT
    clear HO hr hrf
    unfold ansV at *
    go_enter Try.func22, Try.ntmps22
    go_wp2_with fail
    refine (HCT.out _).mono ?_
    rintro e w1 ⟨rfl, hb1⟩
    have HBD : Hid (Below w.heap.size w w1) := ((Below.refl _ _).alloc (Nat.le_refl _) _).trans (hb1.mono (by simp))
    clear hb1
    go_wp2_with fail
    go_ret
    exact ⟨_, rfl, by rw [HV.out]; exact World.ownsRow_nil _ _ _ _, HBD.out⟩

set_option maxHeartbeats 2000000 in
set_option maxRecDepth 100000 in
theorem ev_ref_tell_calls (w : World) (q : Ans) (a0 : Option Addr) (cap : Nat) (hst : Strs w a0 q.list.length cap q.list) (hI1 : I64 q.n) (hI2 : I64 q.m) (htx : q.text.length ≤ 10000000) (hlx : (texts q.list).length ≤ 100000000) :
    Calls Try.prog 16 #[ansV q a0 cap] w fun e w' => e = .returned (.string (str (tellBOut q))) ∧ Below w.heap.size w w' := by
  have HO : Hid (tellBOut q = if fitsB q.kind q = true then tellB q else []) := rfl
  by_cases hr : fitsB q.kind q = true
  · have HV : Hid (tellBOut q = tellB q) := by show _ = _; rw [HO.out, if_pos hr]
    have hrr := (fitsB_iff q.kind q).1 hr
    have HCT := Lib.hid fun w => ev_ref_fits_calls w q.kind q a0 cap
    simp only [hr] at HCT
    clear HO hr
    obtain ⟨kind, err, n, m, text, list, sig⟩ := q
    simp only [] at *
    obtain ⟨kd, rfl⟩ : ∃ kd : Nat, kind = (kd : Int) := ⟨kind.toNat, by omega⟩
    obtain ⟨er, rfl⟩ : ∃ er : Nat, err = (er : Int) := ⟨err.toNat, by omega⟩
    obtain ⟨sg, rfl⟩ : ∃ sg : Nat, sig = (sg : Int) := ⟨sig.toNat, by omega⟩
    have HST0 := Lib.hid hst; clear hst
    have HIn := Lib.hid hI1; clear hI1
    have HIm := Lib.hid hI2; clear hI2
    have HZn : Hid (Lt64 (VarPlain.zig n)) := zig_lt HIn.out
    have HZm : Hid (Lt64 (VarPlain.zig m)) := zig_lt HIm.out
    have hll : list.length ≤ 4096 := by omega
    have HLL := Lib.hid hll
    have HLX := Lib.hid hlx
    have htb := textB_len text (by unfold Lt64; omega)
    have hrb := rowB_len list hll
    have HTX : Hid (text.length ≤ 10000000 ∧ (texts [text]).length ≤ 10000010) := ⟨htx, by rw [texts_one]; omega⟩
    have hl_kd := num_len (kd) (by first | exact HZn.out | exact HZm.out | (unfold Lt64; omega))
    have hl_er := num_len (er) (by first | exact HZn.out | exact HZm.out | (unfold Lt64; omega))
    have hl_zn := num_len (VarPlain.zig n) (by first | exact HZn.out | exact HZm.out | (unfold Lt64; omega))
    have hl_zm := num_len (VarPlain.zig m) (by first | exact HZn.out | exact HZm.out | (unfold Lt64; omega))
    have hl_sg := num_len (sg) (by first | exact HZn.out | exact HZm.out | (unfold Lt64; omega))
    unfold ansV at *
    go_enter Try.func16, Try.ntmps16
    go_wp2_with fail
    refine (HCT.out _).mono ?_
    rintro e w1 ⟨rfl, hb1⟩
    have HK0 : Hid (w1.cell? ⟨w.heap.size, 0, none⟩ = some (.int .i64 (kd : Int))) := by show _ = _; rw [hb1.cell (p := ⟨w.heap.size, 0, none⟩) (by simp)]; simp
    have HK1 : Hid (w1.cell? ⟨w.heap.size, 1, none⟩ = some (.int .i64 (er : Int))) := by show _ = _; rw [hb1.cell (p := ⟨w.heap.size, 1, none⟩) (by simp)]; simp
    have HK2 : Hid (w1.cell? ⟨w.heap.size, 2, none⟩ = some (.int .i64 n)) := by show _ = _; rw [hb1.cell (p := ⟨w.heap.size, 2, none⟩) (by simp)]; simp
    have HK3 : Hid (w1.cell? ⟨w.heap.size, 3, none⟩ = some (.int .i64 m)) := by show _ = _; rw [hb1.cell (p := ⟨w.heap.size, 3, none⟩) (by simp)]; simp
    have HK4 : Hid (w1.cell? ⟨w.heap.size, 4, none⟩ = some (.string (str text))) := by show _ = _; rw [hb1.cell (p := ⟨w.heap.size, 4, none⟩) (by simp)]; simp
    have HK5 : Hid (w1.cell? ⟨w.heap.size, 5, none⟩ = some (.slice a0 list.length cap)) := by show _ = _; rw [hb1.cell (p := ⟨w.heap.size, 5, none⟩) (by simp)]; simp
    have HK6 : Hid (w1.cell? ⟨w.heap.size, 6, none⟩ = some (.int .i64 (sg : Int))) := by show _ = _; rw [hb1.cell (p := ⟨w.heap.size, 6, none⟩) (by simp)]; simp
    have hbw : Below w.heap.size w w1 := ((Below.refl _ _).alloc (Nat.le_refl _) _).trans (hb1.mono (by simp))
    have hgw : w.heap.size < w1.heap.size := by have := hb1.size; simp at this; omega
    have HST : Hid (Strs w1 a0 list.length cap list) := HST0.out.below stable_strAt hbw
    have HKK : Hid (w.heap.size ≤ w1.heap.size) := by show _ ≤ _; omega
    clear hb1
    have HBW := Lib.hid hbw; clear hbw
    go_wp2_with fail
    refine Rg.wp_region_rgl [] [Rg.Is (.pointer (some ⟨w.heap.size, 0, none⟩)), Rg.Is (.int .i64 (kd : Int)), Rg.Is (.int .u64 (kd : Int)), Rg.Is (.string (str (VarPlain.num (kd)))), Rg.Is (.pointer (some ⟨w.heap.size, 1, none⟩)), Rg.Is (.int .i64 (er : Int)), Rg.Is (.int .u64 (er : Int)), Rg.Is (.string (str (VarPlain.num (er)))), Rg.Is (.string (str (VarPlain.num (kd) ++ VarPlain.num (er)))), Rg.Is (.pointer (some ⟨w.heap.size, 2, none⟩)), Rg.Is (.int .i64 n), Rg.Is (.int .u64 (VarPlain.zig n : Int)), Rg.Is (.string (str (VarPlain.num (VarPlain.zig n)))), Rg.Is (.string (str ((VarPlain.num (kd) ++ VarPlain.num (er)) ++ VarPlain.num (VarPlain.zig n)))), Rg.Is (.pointer (some ⟨w.heap.size, 3, none⟩)), Rg.Is (.int .i64 m), Rg.Is (.int .u64 (VarPlain.zig m : Int)), Rg.Is (.string (str (VarPlain.num (VarPlain.zig m)))), Rg.Is (.string (str (((VarPlain.num (kd) ++ VarPlain.num (er)) ++ VarPlain.num (VarPlain.zig n)) ++ VarPlain.num (VarPlain.zig m)))), Rg.Is (.pointer (some ⟨w.heap.size, 4, none⟩)), Rg.Is (.string (str text)), Rg.Is (.string (str (textB text))), Rg.Is (.string (str ((((VarPlain.num (kd) ++ VarPlain.num (er)) ++ VarPlain.num (VarPlain.zig n)) ++ VarPlain.num (VarPlain.zig m)) ++ textB text))), Rg.Is (.pointer (some ⟨w.heap.size, 5, none⟩)), Rg.Is (.slice a0 list.length cap), Rg.Is (.string (str (rowB list))), Rg.Is (.string (str (((((VarPlain.num (kd) ++ VarPlain.num (er)) ++ VarPlain.num (VarPlain.zig n)) ++ VarPlain.num (VarPlain.zig m)) ++ textB text) ++ rowB list))), Rg.Is (.pointer (some ⟨w.heap.size, 6, none⟩)), Rg.Is (.int .i64 (sg : Int)), Rg.Is (.int .u64 (sg : Int)), Rg.Is (.string (str (VarPlain.num (sg)))), Rg.Is (.string (str ((((((VarPlain.num (kd) ++ VarPlain.num (er)) ++ VarPlain.num (VarPlain.zig n)) ++ VarPlain.num (VarPlain.zig m)) ++ textB text) ++ rowB list) ++ VarPlain.num (sg)))), Rg.Is (.string (str ((((((VarPlain.num (kd) ++ VarPlain.num (er)) ++ VarPlain.num (VarPlain.zig n)) ++ VarPlain.num (VarPlain.zig m)) ++ textB text) ++ rowB list) ++ VarPlain.num (sg))))] (by kernel_rfl) (by kernel_rfl) (by kernel_rfl) ⟨Rg.st_is _, Rg.st_is _, Rg.st_is _, Rg.st_is _, Rg.st_is _, Rg.st_is _, Rg.st_is _, Rg.st_is _, Rg.st_is _, Rg.st_is _, Rg.st_is _, Rg.st_is _, Rg.st_is _, Rg.st_is _, Rg.st_is _, Rg.st_is _, Rg.st_is _, Rg.st_is _, Rg.st_is _, Rg.st_is _, Rg.st_is _, Rg.st_is _, Rg.st_is _, Rg.st_is _, Rg.st_is _, Rg.st_is _, Rg.st_is _, Rg.st_is _, Rg.st_is _, Rg.st_is _, Rg.st_is _, Rg.st_is _, Rg.st_is _, trivial⟩ ⟨rfl, rfl, rfl, rfl, rfl, rfl, rfl, rfl, rfl, rfl, rfl, rfl, rfl, rfl, rfl, rfl, rfl, rfl, rfl, rfl, rfl, rfl, rfl, rfl, rfl, rfl, rfl, rfl, rfl, rfl, rfl, rfl, rfl, trivial⟩ ⟨?_, ?_, ?_, ?_, ?_, ?_, ?_, ?_, ?_, ?_, ?_, ?_, ?_, ?_, ?_, ?_, ?_, ?_, ?_, ?_, ?_, ?_, ?_, ?_, ?_, ?_, ?_, ?_, ?_, ?_, ?_, ?_, ?_, trivial⟩ ?_
    · intro _ a wx hb hk
      have h1 : a.eval (.tmp 1) = .pointer (some ⟨w.heap.size, 0, none⟩) := Eq.mp (by kernel_rfl) (hk 1 (by decide))
      exact Rs.does_field _ _ h1 (ans_f0 _ _) ⟨Below.refl _ _, rfl⟩
    · intro _ a wx hb hk
      have h10 : a.eval (.tmp 10) = .pointer (some ⟨w.heap.size, 0, none⟩) := Eq.mp (by kernel_rfl) (hk 10 (by decide))
      exact Rg.does_load _ _ h10 (load_int (cell_below hb (Nat.le_refl _) HK0.out)) ⟨Below.refl _ _, rfl⟩
    · intro _ a wx hb hk
      have h11 : a.eval (.tmp 11) = .int .i64 (kd : Int) := Eq.mp (by kernel_rfl) (hk 11 (by decide))
      exact Rg.does_convert _ _ h11 (conv_u64 _ _ (by omega)) ⟨Below.refl _ _, rfl⟩
    · intro _ a wx hb hk
      have h12 : a.eval (.tmp 12) = .int .u64 (kd : Int) := Eq.mp (by kernel_rfl) (hk 12 (by decide))
      refine Rg.does_func #[.int .u64 (kd : Int)] Try.func27 (by kernel_rfl) (by kernel_rfl) (by simp [h12]) (var_ref_num_calls wx _ (by first | exact HZn.out | exact HZm.out | (unfold Lt64; omega))) ?_
      rintro e w' ⟨rfl, hb'⟩
      exact ⟨_, rfl, hb', rfl⟩
    · intro _ a wx hb hk
      have h1 : a.eval (.tmp 1) = .pointer (some ⟨w.heap.size, 0, none⟩) := Eq.mp (by kernel_rfl) (hk 1 (by decide))
      exact Rs.does_field _ _ h1 (ans_f1 _ _) ⟨Below.refl _ _, rfl⟩
    · intro _ a wx hb hk
      have h14 : a.eval (.tmp 14) = .pointer (some ⟨w.heap.size, 1, none⟩) := Eq.mp (by kernel_rfl) (hk 14 (by decide))
      exact Rg.does_load _ _ h14 (load_int (cell_below hb (Nat.le_refl _) HK1.out)) ⟨Below.refl _ _, rfl⟩
    · intro _ a wx hb hk
      have h15 : a.eval (.tmp 15) = .int .i64 (er : Int) := Eq.mp (by kernel_rfl) (hk 15 (by decide))
      exact Rg.does_convert _ _ h15 (conv_u64 _ _ (by omega)) ⟨Below.refl _ _, rfl⟩
    · intro _ a wx hb hk
      have h16 : a.eval (.tmp 16) = .int .u64 (er : Int) := Eq.mp (by kernel_rfl) (hk 16 (by decide))
      refine Rg.does_func #[.int .u64 (er : Int)] Try.func27 (by kernel_rfl) (by kernel_rfl) (by simp [h16]) (var_ref_num_calls wx _ (by first | exact HZn.out | exact HZm.out | (unfold Lt64; omega))) ?_
      rintro e w' ⟨rfl, hb'⟩
      exact ⟨_, rfl, hb', rfl⟩
    · intro _ a wx hb hk
      have h13 : a.eval (.tmp 13) = .string (str (VarPlain.num (kd))) := Eq.mp (by kernel_rfl) (hk 13 (by decide))
      have h17 : a.eval (.tmp 17) = .string (str (VarPlain.num (er))) := Eq.mp (by kernel_rfl) (hk 17 (by decide))
      exact does_add_str (VarPlain.num (kd)) (VarPlain.num (er)) (by first | omega | (simp only [List.length_append]; omega)) h13 h17 ⟨Below.refl _ _, rfl⟩
    · intro _ a wx hb hk
      have h1 : a.eval (.tmp 1) = .pointer (some ⟨w.heap.size, 0, none⟩) := Eq.mp (by kernel_rfl) (hk 1 (by decide))
      exact Rs.does_field _ _ h1 (ans_f2 _ _) ⟨Below.refl _ _, rfl⟩
    · intro _ a wx hb hk
      have h19 : a.eval (.tmp 19) = .pointer (some ⟨w.heap.size, 2, none⟩) := Eq.mp (by kernel_rfl) (hk 19 (by decide))
      exact Rg.does_load _ _ h19 (load_i64 (cell_below hb (Nat.le_refl _) HK2.out)) ⟨Below.refl _ _, rfl⟩
    · intro _ a wx hb hk
      have h20 : a.eval (.tmp 20) = .int .i64 n := Eq.mp (by kernel_rfl) (hk 20 (by decide))
      refine Rg.does_func #[.int .i64 n] Try.func28 (by kernel_rfl) (by kernel_rfl) (by simp [h20]) (var_ref_zig_calls wx _ HIn.out.1 HIn.out.2) ?_
      rintro e w' ⟨rfl, rfl⟩
      exact ⟨_, rfl, Below.refl _ _, rfl⟩
    · intro _ a wx hb hk
      have h21 : a.eval (.tmp 21) = .int .u64 (VarPlain.zig n : Int) := Eq.mp (by kernel_rfl) (hk 21 (by decide))
      refine Rg.does_func #[.int .u64 (VarPlain.zig n : Int)] Try.func27 (by kernel_rfl) (by kernel_rfl) (by simp [h21]) (var_ref_num_calls wx _ (by first | exact HZn.out | exact HZm.out | (unfold Lt64; omega))) ?_
      rintro e w' ⟨rfl, hb'⟩
      exact ⟨_, rfl, hb', rfl⟩
    · intro _ a wx hb hk
      have h18 : a.eval (.tmp 18) = .string (str (VarPlain.num (kd) ++ VarPlain.num (er))) := Eq.mp (by kernel_rfl) (hk 18 (by decide))
      have h22 : a.eval (.tmp 22) = .string (str (VarPlain.num (VarPlain.zig n))) := Eq.mp (by kernel_rfl) (hk 22 (by decide))
      exact does_add_str (VarPlain.num (kd) ++ VarPlain.num (er)) (VarPlain.num (VarPlain.zig n)) (by first | omega | (simp only [List.length_append]; omega)) h18 h22 ⟨Below.refl _ _, rfl⟩
    · intro _ a wx hb hk
      have h1 : a.eval (.tmp 1) = .pointer (some ⟨w.heap.size, 0, none⟩) := Eq.mp (by kernel_rfl) (hk 1 (by decide))
      exact Rs.does_field _ _ h1 (ans_f3 _ _) ⟨Below.refl _ _, rfl⟩
    · intro _ a wx hb hk
      have h24 : a.eval (.tmp 24) = .pointer (some ⟨w.heap.size, 3, none⟩) := Eq.mp (by kernel_rfl) (hk 24 (by decide))
      exact Rg.does_load _ _ h24 (load_i64 (cell_below hb (Nat.le_refl _) HK3.out)) ⟨Below.refl _ _, rfl⟩
    · intro _ a wx hb hk
      have h25 : a.eval (.tmp 25) = .int .i64 m := Eq.mp (by kernel_rfl) (hk 25 (by decide))
      refine Rg.does_func #[.int .i64 m] Try.func28 (by kernel_rfl) (by kernel_rfl) (by simp [h25]) (var_ref_zig_calls wx _ HIm.out.1 HIm.out.2) ?_
      rintro e w' ⟨rfl, rfl⟩
      exact ⟨_, rfl, Below.refl _ _, rfl⟩
    · intro _ a wx hb hk
      have h26 : a.eval (.tmp 26) = .int .u64 (VarPlain.zig m : Int) := Eq.mp (by kernel_rfl) (hk 26 (by decide))
      refine Rg.does_func #[.int .u64 (VarPlain.zig m : Int)] Try.func27 (by kernel_rfl) (by kernel_rfl) (by simp [h26]) (var_ref_num_calls wx _ (by first | exact HZn.out | exact HZm.out | (unfold Lt64; omega))) ?_
      rintro e w' ⟨rfl, hb'⟩
      exact ⟨_, rfl, hb', rfl⟩
    · intro _ a wx hb hk
      have h23 : a.eval (.tmp 23) = .string (str ((VarPlain.num (kd) ++ VarPlain.num (er)) ++ VarPlain.num (VarPlain.zig n))) := Eq.mp (by kernel_rfl) (hk 23 (by decide))
      have h27 : a.eval (.tmp 27) = .string (str (VarPlain.num (VarPlain.zig m))) := Eq.mp (by kernel_rfl) (hk 27 (by decide))
      exact does_add_str ((VarPlain.num (kd) ++ VarPlain.num (er)) ++ VarPlain.num (VarPlain.zig n)) (VarPlain.num (VarPlain.zig m)) (by first | omega | (simp only [List.length_append]; omega)) h23 h27 ⟨Below.refl _ _, rfl⟩
    · intro _ a wx hb hk
      have h1 : a.eval (.tmp 1) = .pointer (some ⟨w.heap.size, 0, none⟩) := Eq.mp (by kernel_rfl) (hk 1 (by decide))
      exact Rs.does_field _ _ h1 (ans_f4 _ _) ⟨Below.refl _ _, rfl⟩
    · intro _ a wx hb hk
      have h29 : a.eval (.tmp 29) = .pointer (some ⟨w.heap.size, 4, none⟩) := Eq.mp (by kernel_rfl) (hk 29 (by decide))
      exact Rg.does_load _ _ h29 (load_string (cell_below hb (Nat.le_refl _) HK4.out)) ⟨Below.refl _ _, rfl⟩
    · intro _ a wx hb hk
      have h30 : a.eval (.tmp 30) = .string (str text) := Eq.mp (by kernel_rfl) (hk 30 (by decide))
      refine Rg.does_func #[.string (str text)] Try.func24 (by kernel_rfl) (by kernel_rfl) (by simp [h30]) (ref_text_calls wx text (by have := HTX.out; omega)) ?_
      rintro e w' ⟨rfl, hb'⟩
      exact ⟨_, rfl, hb', rfl⟩
    · intro _ a wx hb hk
      have h28 : a.eval (.tmp 28) = .string (str (((VarPlain.num (kd) ++ VarPlain.num (er)) ++ VarPlain.num (VarPlain.zig n)) ++ VarPlain.num (VarPlain.zig m))) := Eq.mp (by kernel_rfl) (hk 28 (by decide))
      have h31 : a.eval (.tmp 31) = .string (str (textB text)) := Eq.mp (by kernel_rfl) (hk 31 (by decide))
      exact does_add_str (((VarPlain.num (kd) ++ VarPlain.num (er)) ++ VarPlain.num (VarPlain.zig n)) ++ VarPlain.num (VarPlain.zig m)) (textB text) (by first | omega | (simp only [List.length_append]; omega)) h28 h31 ⟨Below.refl _ _, rfl⟩
    · intro _ a wx hb hk
      have h1 : a.eval (.tmp 1) = .pointer (some ⟨w.heap.size, 0, none⟩) := Eq.mp (by kernel_rfl) (hk 1 (by decide))
      exact Rs.does_field _ _ h1 (ans_f5 _ _) ⟨Below.refl _ _, rfl⟩
    · intro _ a wx hb hk
      have h33 : a.eval (.tmp 33) = .pointer (some ⟨w.heap.size, 5, none⟩) := Eq.mp (by kernel_rfl) (hk 33 (by decide))
      exact Rg.does_load _ _ h33 (load_strs (cell_below hb (Nat.le_refl _) HK5.out)) ⟨Below.refl _ _, rfl⟩
    · intro _ a wx hb hk
      have h34 : a.eval (.tmp 34) = .slice a0 list.length cap := Eq.mp (by kernel_rfl) (hk 34 (by decide))
      refine Rg.does_func #[.slice a0 list.length cap] Try.func29 (by kernel_rfl) (by kernel_rfl) (by simp [h34]) (ref_row_calls wx a0 _ cap list (HST.out.below stable_strAt hb) (by have := HLL.out; omega) (by have := HLX.out; omega)) ?_
      rintro e w' ⟨rfl, hb'⟩
      exact ⟨_, rfl, hb', rfl⟩
    · intro _ a wx hb hk
      have h32 : a.eval (.tmp 32) = .string (str ((((VarPlain.num (kd) ++ VarPlain.num (er)) ++ VarPlain.num (VarPlain.zig n)) ++ VarPlain.num (VarPlain.zig m)) ++ textB text)) := Eq.mp (by kernel_rfl) (hk 32 (by decide))
      have h35 : a.eval (.tmp 35) = .string (str (rowB list)) := Eq.mp (by kernel_rfl) (hk 35 (by decide))
      exact does_add_str ((((VarPlain.num (kd) ++ VarPlain.num (er)) ++ VarPlain.num (VarPlain.zig n)) ++ VarPlain.num (VarPlain.zig m)) ++ textB text) (rowB list) (by first | omega | (simp only [List.length_append]; omega)) h32 h35 ⟨Below.refl _ _, rfl⟩
    · intro _ a wx hb hk
      have h1 : a.eval (.tmp 1) = .pointer (some ⟨w.heap.size, 0, none⟩) := Eq.mp (by kernel_rfl) (hk 1 (by decide))
      exact Rs.does_field _ _ h1 (ans_f6 _ _) ⟨Below.refl _ _, rfl⟩
    · intro _ a wx hb hk
      have h37 : a.eval (.tmp 37) = .pointer (some ⟨w.heap.size, 6, none⟩) := Eq.mp (by kernel_rfl) (hk 37 (by decide))
      exact Rg.does_load _ _ h37 (load_int (cell_below hb (Nat.le_refl _) HK6.out)) ⟨Below.refl _ _, rfl⟩
    · intro _ a wx hb hk
      have h38 : a.eval (.tmp 38) = .int .i64 (sg : Int) := Eq.mp (by kernel_rfl) (hk 38 (by decide))
      exact Rg.does_convert _ _ h38 (conv_u64 _ _ (by omega)) ⟨Below.refl _ _, rfl⟩
    · intro _ a wx hb hk
      have h39 : a.eval (.tmp 39) = .int .u64 (sg : Int) := Eq.mp (by kernel_rfl) (hk 39 (by decide))
      refine Rg.does_func #[.int .u64 (sg : Int)] Try.func27 (by kernel_rfl) (by kernel_rfl) (by simp [h39]) (var_ref_num_calls wx _ (by first | exact HZn.out | exact HZm.out | (unfold Lt64; omega))) ?_
      rintro e w' ⟨rfl, hb'⟩
      exact ⟨_, rfl, hb', rfl⟩
    · intro _ a wx hb hk
      have h36 : a.eval (.tmp 36) = .string (str (((((VarPlain.num (kd) ++ VarPlain.num (er)) ++ VarPlain.num (VarPlain.zig n)) ++ VarPlain.num (VarPlain.zig m)) ++ textB text) ++ rowB list)) := Eq.mp (by kernel_rfl) (hk 36 (by decide))
      have h40 : a.eval (.tmp 40) = .string (str (VarPlain.num (sg))) := Eq.mp (by kernel_rfl) (hk 40 (by decide))
      exact does_add_str (((((VarPlain.num (kd) ++ VarPlain.num (er)) ++ VarPlain.num (VarPlain.zig n)) ++ VarPlain.num (VarPlain.zig m)) ++ textB text) ++ rowB list) (VarPlain.num (sg)) (by first | omega | (simp only [List.length_append]; omega)) h36 h40 ⟨Below.refl _ _, rfl⟩
    · intro _ a wx hb hk
      have h41 : a.eval (.tmp 41) = .string (str ((((((VarPlain.num (kd) ++ VarPlain.num (er)) ++ VarPlain.num (VarPlain.zig n)) ++ VarPlain.num (VarPlain.zig m)) ++ textB text) ++ rowB list) ++ VarPlain.num (sg))) := Eq.mp (by kernel_rfl) (hk 41 (by decide))
      exact Rg.does_assign ⟨Below.refl _ _, h41⟩
    intro vals wD hbD hL
    obtain ⟨g0, g1, g2, g3, g4, g5, g6, g7, g8, g9, g10, g11, g12, g13, g14, g15, g16, g17, g18, g19, g20, g21, g22, g23, g24, g25, g26, g27, g28, g29, g30, g31, g32, _⟩ := hL
    have hres : vals 32 = .string (str ((((((VarPlain.num (kd) ++ VarPlain.num (er)) ++ VarPlain.num (VarPlain.zig n)) ++ VarPlain.num (VarPlain.zig m)) ++ textB text) ++ rowB list) ++ VarPlain.num (sg))) := g32
    clear g0 g1 g2 g3 g4 g5 g6 g7 g8 g9 g10 g11 g12 g13 g14 g15 g16 g17 g18 g19 g20 g21 g22 g23 g24 g25 g26 g27 g28 g29 g30 g31 g32
    have Hres := Lib.hid hres; clear hres
    have HBD : Hid (Below w.heap.size w wD) := HBW.out.trans (hbD.mono HKK.out)
    clear hbD
    simp only [Rg.putAll, List.setIfInBounds_toArray, List.set_cons_succ, List.set_cons_zero]
    go_wp2_with fail
    go_ret
    exact ⟨by rw [HV.out]; refine (congrArg Ending.returned Hres.out).trans ?_; unfold tellB; first | rfl | (simp only [List.append_assoc, Int.toNat_natCast]; done), HBD.out⟩
  · have HV : Hid (tellBOut q = []) := by show _ = _; rw [HO.out, if_neg hr]
    have hrf : fitsB q.kind q = false := by simpa using hr
    have HCT := Lib.hid fun w => ev_ref_fits_calls w q.kind q a0 cap
    simp only [hrf] at HCT
    clear HO hr hrf
    unfold ansV at *
    go_enter Try.func16, Try.ntmps16
    go_wp2_with fail
    refine (HCT.out _).mono ?_
    rintro e w1 ⟨rfl, hb1⟩
    have HBD : Hid (Below w.heap.size w w1) := ((Below.refl _ _).alloc (Nat.le_refl _) _).trans (hb1.mono (by simp))
    clear hb1
    go_wp2_with fail
    go_ret
    exact ⟨by rw [HV.out]; rfl, HBD.out⟩

end Go.Proofs.Ytgbnfipbedlmhaa
