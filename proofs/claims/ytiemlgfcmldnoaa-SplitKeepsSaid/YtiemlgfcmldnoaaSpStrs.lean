/-
  Split: rows of texts, and a field's text. Conditions: as each law says.
-/
import Derived.Test.YtiemlgfcmldnoaaSpTellsLaw
import Derived.Test.YtiemlgfcmldnoaaSpPlain2
set_option linter.unusedVariables false
namespace Go.Proofs.Ytiemlgfcmldnoaa
open Go.RowKit Base
def strAt (w : World) (b o : Nat) (s : List UInt8) : Prop := w.cell? ⟨b, o, none⟩ = some (.string (str s))
theorem stable_strAt : Stable strAt := fun w w' b o x hb h => cell_below hb (Nat.le_refl _) h
abbrev Strs := RowOf strAt 1
theorem info_str : (Try.prog.info? 9).map (fun i => (i.zero, i.size, i.bytes)) = some (some (.string ⟨#[]⟩), 1, 16) := by kernel_rfl
theorem at_strs {w : World} {a : Option Addr} {n cap : Nat} {l : List (List UInt8)} (h : Strs w a n cap l) : ∃ b off, (∀ k (hk : k < l.length), w.cell? ⟨b, off + k, none⟩ = some (.string (str l[k]))) ∧
    ∀ (kd : IntKind) (k : Nat) (w' : World), k < n → (Instr.indexAt 39 (.slice a n cap) (.int kd (k : Int))).run Try.prog w' = .ok (.pointer (some ⟨b, off + k, none⟩)) w' := by
  obtain ⟨i, hi, _, hs, _⟩ := info_parts info_str
  obtain ⟨b, off, h1, h2⟩ := h.at (P := Try.prog)
  exact ⟨b, off, fun k hk => by simpa [strAt] using h1 k hk, fun kd k w' hk => by simpa using h2 39 9 i Try.underlying39 hi hs kd k w' hk⟩
theorem str_inj {a b : List UInt8} (h : str a = str b) : a = b := by
  have := congrArg (fun x : ByteArray => x.data.toList) h
  simpa [str] using this
theorem str_eq_toList (a b : List UInt8) : ((str a).toList == (str b).toList) = decide (a = b) := by
  rw [str_toList, str_toList]; by_cases h : a = b <;> simp [h]
/-- The cells of rows, one by one. -/
theorem rows_at {w : World} {a : Option Addr} {n cap : Nat} {L : List SRow} (h : SRows w a n cap L) : ∃ b off, (∀ k (hk : k < L.length), w.cell? ⟨b, off + k * 2, none⟩ = some (.string (str (textS L[k]))) ∧ w.cell? ⟨b, off + k * 2 + 1, none⟩ = some (.string (str (maskS L[k])))) ∧
    ∀ (kd : IntKind) (k : Nat) (w' : World), k < n → (Instr.indexAt 25 (.slice a n cap) (.int kd (k : Int))).run Try.prog w' = .ok (.pointer (some ⟨b, off + k * 2, none⟩)) w' := by
  obtain ⟨i0, hi, hi2⟩ := info_rowI
  obtain ⟨b, off, h1, h2⟩ := h.at (P := Try.prog)
  exact ⟨b, off, fun k hk => ⟨h1 k hk 0 _ rfl, h1 k hk 1 _ rfl⟩, fun kd k w' hk => h2 25 23 i0 Try.underlying25 hi hi2 kd k w' hk⟩
theorem zip_ts (r : SRow) : (textS r).zip (maskS r) = r := by
  induction r with
  | nil => rfl
  | cons x r ih => show (x.1, x.2) :: (textS r).zip (maskS r) = _; rw [ih]
theorem neq_str_same {P : Program} {t : TypeId} (m : ByteArray) (w : World) : (binOp .neq t (.string m) (.string m)).run P w = .ok (.bool false) w := by
  rw [binOp_string_neq, beq_self_eq_true]; rfl
theorem split_of_calls (W : World) (s ifs : List UInt8) (c : UInt8) (hs : s.length ≤ 100000) : Calls Try.prog 9 #[.agg #[.string (str s), .string (str (List.replicate s.length c))], .string (str ifs)] W (SplitPost W (splitB ifs (ofS s c))) := by
  have := sp_split_calls W (textS (ofS s c)) (maskS (ofS s c)) ifs (by rw [ofS_text]; omega) (by rw [ofS_mask, List.length_replicate]; omega)
  rw [zip_ts, ofS_text, ofS_mask] at this
  exact this
theorem of_calls2 (W : World) (s : List UInt8) (c : UInt8) (hs : s.length ≤ 100000) : Calls Try.prog 14 #[.string (str s), .int .u8 (c.toNat : Int)] W fun e w' => e = .returned (.agg #[.string (str s), .string (str (List.replicate s.length c))]) ∧ Below W.heap.size W w' := by
  have := sp_of_calls W s c hs
  unfold rowV at this
  rw [ofS_text, ofS_mask] at this
  exact this
end Go.Proofs.Ytiemlgfcmldnoaa
