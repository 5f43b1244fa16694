/-
  Lexer: rows of texts. Conditions: as each law says.
-/
import Derived.Test.YtiklkhbfilbpeaaGreatDoorSkLxMem
set_option linter.unusedVariables false
namespace Go.Proofs.YtiklkhbfilbpeaaGreatDoor
open Go.RowKit Base Lx
def strAt (w : World) (b o : Nat) (s : List UInt8) : Prop := w.cell? ⟨b, o, none⟩ = some (.string (str s))
theorem stable_strAt : Stable strAt := fun w w' b o x hb h => cell_below hb (Nat.le_refl _) h
abbrev Strs := RowOf strAt 1
theorem info_str : (Tryz.prog.info? 9).map (fun i => (i.zero, i.size, i.bytes)) = some (some (.string ⟨#[]⟩), 1, 16) := by kernel_rfl
theorem at_strs {w : World} {a : Option Addr} {n cap : Nat} {l : List (List UInt8)} (h : Strs w a n cap l) : ∃ b off, (∀ k (hk : k < l.length), w.cell? ⟨b, off + k, none⟩ = some (.string (str l[k]))) ∧
    ∀ (kd : IntKind) (k : Nat) (w' : World), k < n → (Instr.indexAt 33 (.slice a n cap) (.int kd (k : Int))).run Tryz.prog w' = .ok (.pointer (some ⟨b, off + k, none⟩)) w' := by
  obtain ⟨i, hi, _, hs, _⟩ := info_parts info_str
  obtain ⟨b, off, h1, h2⟩ := h.at (P := Tryz.prog)
  exact ⟨b, off, fun k hk => by simpa [strAt] using h1 k hk, fun kd k w' hk => by simpa using h2 33 9 i Tryz.underlying33 hi hs kd k w' hk⟩
def strV (s : Nm) : Value := .string (str s)
theorem own_strs {w : World} {base : Nat} {v : Value} {n : Nat} {l : List Nm} (h : w.ownsRow base 9 1 v n (l.map strV)) : ∃ a cap, v = .slice a n cap ∧ Strs w a n cap l :=
  ownsRow_row (R := strAt) h (fun _ _ _ h => h)
theorem step_does {P : Program} {ops : Array Oper} {rest : List Oper} {o : Oper} {a : Act} {w : World} {Q : Exit → Act → World → Prop} (hg : o.guard = none) (v : Value) (w' : World) (h : Rg.does P o a w fun u x => u = v ∧ x = w') (k : wpList P ops Q rest (a.put o.dst v) w') : wpList P ops Q (o :: rest) a w :=
  wpList_plain hg fun K hK => Rg.wp_of_does h (fun u x ⟨h1, h2⟩ => by subst h1 h2; exact hK _ _ k)
end Go.Proofs.YtiklkhbfilbpeaaGreatDoor
