/-
  Texts computes what the plain mathematics says. Conditions: the texts can be read; they are not longer than a thousand million bytes together.
-/
import Derived.Test.YtnmlnaoljkhjeaaVarTexts
set_option linter.unusedVariables false
namespace Go.Proofs.Ytnmlnaoljkhjeaa
open Go.RowKit Base

/-- Texts as bytes. -/
def texts (l : List (List UInt8)) : List UInt8 := l.flatMap fun s => VarPlain.num s.length ++ s
theorem texts_snoc (l : List (List UInt8)) (s : List UInt8) : texts (l ++ [s]) = texts l ++ VarPlain.num s.length ++ s := by simp [texts]
theorem texts_take_le (l : List (List UInt8)) (k : Nat) : (texts (l.take k)).length ≤ (texts l).length := by
  conv => rhs; rw [← List.take_append_drop k l]
  simp only [texts, List.flatMap_append, List.length_append]
  omega

def strAt (w : World) (b o : Nat) (s : List UInt8) : Prop := w.cell? ⟨b, o, none⟩ = some (.string (str s))
theorem stable_strAt : Stable strAt := fun w w' b o x hb h => cell_below hb (Nat.le_refl _) h
abbrev Strs := RowOf strAt 1
theorem info_str : (Try.prog.info? 9).map (fun i => (i.zero, i.size, i.bytes)) = some (some (.string ⟨#[]⟩), 1, 16) := by kernel_rfl
theorem at_strs {w : World} {a : Option Addr} {n cap : Nat} {l : List (List UInt8)} (h : Strs w a n cap l) : ∃ b off, (∀ k (hk : k < l.length), w.cell? ⟨b, off + k, none⟩ = some (.string (str l[k]))) ∧
    ∀ (kd : IntKind) (k : Nat) (w' : World), k < n → (Instr.indexAt 23 (.slice a n cap) (.int kd (k : Int))).run Try.prog w' = .ok (.pointer (some ⟨b, off + k, none⟩)) w' := by
  obtain ⟨i, hi, _, hs, _⟩ := info_parts info_str
  obtain ⟨b, off, h1, h2⟩ := h.at (P := Try.prog)
  exact ⟨b, off, fun k hk => by simpa [strAt] using h1 k hk, fun kd k w' hk => by simpa using h2 23 9 i Try.underlying23 hi hs kd k w' hk⟩

theorem u64_one (w : World) (x : Nat) (e : TypeId) : U64s (w.alloc (.cells #[.int .u64 (x : Int)] e)) (some ⟨w.heap.size, 0, none⟩) 1 1 [x] := by
  refine ⟨rfl, Nat.le_refl _, by decide, w.heap.size, 0, .inr rfl, fun k hk => ?_⟩
  have hk0 : k = 0 := by simpa using hk
  subst hk0
  have hh : (w.alloc (.cells #[.int .u64 (x : Int)] e)).heap[w.heap.size]? = some (.cells #[.int .u64 (x : Int)] e) := heap_alloc_new w _
  unfold u64At World.cell?
  simp only [hh]
  rfl
theorem nums_one (x : Nat) : VarPlain.nums [x] = VarPlain.num x := by simp [VarPlain.nums]
theorem append_side_str : ∃ d, Try.prog.underlying 9 = some d ∧ ∀ k, d ≠ .int k := ⟨_, Try.underlying9, fun k => by simp⟩

set_option maxHeartbeats 2000000 in
set_option maxRecDepth 100000 in
theorem var_texts_calls (w : World) (a : Option Addr) (n cap : Nat) (l : List (List UInt8)) (h : Strs w a n cap l) (hs : n ≤ 1000000) (ht : (texts l).length ≤ 1000000000) :
    Calls Try.prog 64 #[.slice a n cap] w fun e w' => ∃ v, e = .returned v ∧ w'.ownsRow w.heap.size 5 1 v (texts l).length ((texts l).map bv) ∧ Below w.heap.size w w' := by
  obtain ⟨i0, hi, hz0, hz1, hz2⟩ := info_parts info_u8
  obtain ⟨b, off, hrow, hidx⟩ := at_strs h
  have hn := h.1
  have hcl : ∀ wx, Below w.heap.size w wx → ∀ k (hk : k < l.length), wx.cell? ⟨b, off + k, none⟩ = some (.string (str l[k])) := fun wx hx k hk => cell_below hx (Nat.le_refl _) (hrow k hk)
  generalize hB : w.heap.size = B at *
  have HB := Lib.hid hB; clear hB
  have hbb : B ≤ w.heap.size := by rw [HB.out]; exact Nat.le_refl _
  have Hidx := Lib.hid hidx; clear hidx
  have Hrow := Lib.hid hcl; clear hcl hrow
  have Hn := Lib.hid hn; clear hn h
  have HT := Lib.hid ht; clear ht
  go_enter Try.func64, Try.ntmps64
  go_wp2_with fail
  go_loopw [3, 8] (fun v i wr => ∃ k : Nat, k ≤ n ∧ i = .int .i64 k ∧ wr.ownsRow B 5 1 v (texts (l.take k)).length ((texts (l.take k)).map bv) ∧ Below B w wr ∧ B ≤ wr.heap.size) (fun _ i _ => n - (intOf i).toNat)
  case atStart => exact ⟨0, Nat.zero_le _, rfl, World.ownsRow_nil _ _ _ _, Below.refl _ _, hbb⟩
  case round =>
    obtain ⟨k, hk, rfl, hown, hbel, hBs⟩ := hrel
    by_cases hlt : k < n
    · have hkl : k < l.length := by rw [← Hn.out]; exact hlt
      have hc := Hrow.out wr hbel k hkl
      have hix := Hidx.out .i64 k wr hlt
      have hsn : texts (l.take (k + 1)) = texts (l.take k) ++ VarPlain.num l[k].length ++ l[k] := by
        rw [List.take_succ_eq_append_getElem hkl, texts_snoc]
      have hle := Nat.le_trans (texts_take_le l (k + 1)) HT.out
      rw [hsn] at hle
      simp only [List.length_append] at hle
      have Hsn := Lib.hid hsn; clear hsn
      generalize l[k]'hkl = s at *
      generalize texts (l.take k) = pre at *
      have hssz : (str s).size = s.length := rfl
      have hsl : s.length ≤ 1000000000 := by omega
      have hpl : pre.length ≤ 1000000000 := by omega
      have Hle := Lib.hid hle; clear hle
      have hm64 : Lt64 s.length := by unfold Lt64; omega
      obtain ⟨av, cv, rfl, _, _, _, _⟩ := ownsRow_slice hown
      have Hput := Lib.hid (var_put_calls (wr.alloc (.cells #[.int .u64 ((s.length : Nat) : Int)] 129)) (some ⟨wr.heap.size, 0, none⟩) 1 1 [s.length] (u64_one wr s.length 129) (by intro x hx; simp at hx; subst hx; exact hm64) (by decide))
      go_wp2_with fail
      refine Hput.out.mono ?_
      rintro e w1 ⟨v1, rfl, hown1, hb1⟩
      obtain ⟨a1, c1, rfl, hrow1⟩ := ownsRow_bytes hown1
      have hbA := hbel.alloc hBs (.cells #[.int .u64 ((s.length : Nat) : Int)] 129)
      have hownA := ownsRow_below (hown.alloc (.cells #[.int .u64 ((s.length : Nat) : Int)] 129)) hb1
      have hsA : B ≤ (wr.alloc (.cells #[.int .u64 ((s.length : Nat) : Int)] 129)).heap.size := by simp; omega
      have hb1' := hbA.trans (hb1.mono hsA)
      have hs1 : B ≤ w1.heap.size := Nat.le_trans hsA hb1.size
      rw [nums_one] at hrow1
      simp only [nums_one]
      have hnl := num_len s.length hm64
      have Hnl : Hid ((str s).data.toList = s) := str_data s
      generalize VarPlain.num s.length = nb at *
      clear hbA hsA hb1 hown1 hown hbel hBs hc hix Hput
      go_wp2_with (at_builtin; refine wpList_append_src rfl (.tmp 12) (.tmp 17) 43 43 rfl B 5 i0 (.int .u8 0) 1 1 Try.underlying43 (append_side Try.underlying43) hi hz0 hz1 hz2 rfl (by decide) (by decide) _ pre.length _ rfl hownA _ nb.length _ rfl (src_bytes hrow1) ?_ ?_ ?_ ?_)
      case _ => unfold maxLen; omega
      case _ => omega
      case _ => omega
      intro v2 w2 hown2 hg2 _
      have hb2 : Below B w w2 := hb1'.grown hg2 (by omega) (fun j hj => (hownA.lt j hj).1)
      have hs2 : B ≤ w2.heap.size := Nat.le_trans hs1 hg2.size
      clear hg2 hownA hb1' hs1 hrow1
      obtain ⟨av2, cv2, rfl, _, _, _, _⟩ := ownsRow_slice hown2
      have Hsrc := Lib.hid (src_string (P := Try.prog) (w := w2) (str s))
      go_wp2_with (at_builtin; refine wpList_append_src rfl (.tmp 18) (.tmp 19) 43 9 rfl B 5 i0 (.int .u8 0) 1 1 Try.underlying43 append_side_str hi hz0 hz1 hz2 rfl (by decide) (by decide) _ (pre.length + nb.length) _ rfl hown2 _ (str s).size _ rfl Hsrc.out ?_ ?_ ?_ ?_)
      case _ => unfold maxLen; omega
      case _ => omega
      case _ => omega
      intro v3 w3 hown3 hg3 _
      have hb3 : Below B w w3 := hb2.grown hg3 (by omega) (fun j hj => (hown2.lt j hj).1)
      have hs3 : B ≤ w3.heap.size := Nat.le_trans hs2 hg3.size
      have hown4 : w3.ownsRow B 5 1 v3 (texts (l.take (k + 1))).length ((texts (l.take (k + 1))).map bv) := by
        rw [Hsn.out]
        have e : (pre ++ nb ++ s).length = pre.length + nb.length + s.length := by simp [Nat.add_assoc]
        rw [e, List.map_append, List.map_append]
        simpa [hssz, str_data] using hown3
      clear hown3 hg3 hown2 hb2 hs2 Hsrc
      go_wp2_with fail
      go_roundw
      case rel => exact ⟨k + 1, by omega, by go_num, hown4, hb3, hs3⟩
      case measure => simp [intOf]; omega
    · obtain rfl : k = n := by omega
      have ht : l.take k = l := List.take_of_length_le (by rw [← Hn.out]; exact Nat.le_refl _)
      rw [ht] at hown
      clear ht
      go_wp2_with fail
      go_ret
      exact ⟨_, rfl, hown, hbel⟩

end Go.Proofs.Ytnmlnaoljkhjeaa
