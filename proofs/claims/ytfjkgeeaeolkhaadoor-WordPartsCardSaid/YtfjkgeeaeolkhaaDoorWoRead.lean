/-
  Word: the reader's small functions: fail, has, take, upto. Conditions: as each contract says.
-/
import Derived.Test.YtfjkgeeaeolkhaaDoorWoMem
import Derived.Test.YtfjkgeeaeolkhaaDoorWoName
import Derived.Test.YtfjkgeeaeolkhaaDoorShelf
import Derived.WalkLawsBesides
import Derived.Deep.Cut
import Derived.Deep.QuietTactic
import Derived.BigQuiet
set_option linter.unusedVariables false
set_option linter.unusedSimpArgs false
set_option maxRecDepth 100000
namespace Go.Proofs.YtfjkgeeaeolkhaaDoor
open Go.RowKit Base Wo

theorem fail_calls (W : World) (e : Int) : Calls Tryd.prog 22 #[.int .i64 e] W fun r W' => r = panEnd e ∧ W' = W := by
  go_enter Tryd.func22, Tryd.ntmps22
  go_wp2_with fail
  exact ⟨rfl, rfl, rfl⟩
theorem str_dl (l : Nm) : (str l).data.toList = l := by rw [str_data]
theorem has_calls (W : World) (b B : Nat) (v : Value) (l : List Prt) (s : Nm) (d : Nat) (h : Rd W b B v l s d) (p : Nm) : Calls Tryd.prog 14 #[.pointer (some ⟨b, 0, none⟩), .string (str p)] W fun r W' => r = .returned (.bool (has p s)) ∧ W' = W := by
  obtain ⟨⟨c0, c1, c2⟩, f0, f1, f2⟩ := rd_cells h.box
  clear h
  go_enter Tryd.func14, Tryd.ntmps14
  go_wp2_with fail
  refine (Tryd.strings_HasPrefix (str s) (str p) W).mono ?_
  rintro r w2 ⟨rfl, rfl⟩
  rw [str_dl, str_dl]
  go_wp2_with fail
  go_ret
  exact ⟨rfl, rfl⟩
theorem take_yes (W : World) (b B : Nat) (v : Value) (l : List Prt) (s : Nm) (d : Nat) (h : Rd W b B v l s d) (n : Nat) (hs : s.length ≤ 1000000) (hle : n ≤ s.length) : Calls Tryd.prog 15 #[.pointer (some ⟨b, 0, none⟩), .int .i64 (n : Int)] W fun r W' => r = .returned (.string (str (s.take n))) ∧ W' = W.setCell ⟨b, 1, none⟩ (.string (str (s.drop n))) := by
  obtain ⟨⟨c0, c1, c2⟩, f0, f1, f2⟩ := rd_cells h.box
  clear h
  have e1 : (str s).size = s.length := rfl
  have s1 := fun W => Sw.run_sub_h (P := Tryd.prog) (w := W) Tryd.underlying9 s .i64 n hle
  have s2 := fun W => Sw.run_sub_l (P := Tryd.prog) (w := W) Tryd.underlying9 s .i64 n hle
  have a3 : decide ((str s).size < n) = false := decide_eq_false (by omega)
  have a1 : decide (((str s).size : Int) < (n : Int)) = false := decide_eq_false (by omega)
  have a2 : ¬ (((str s).size : Int) < (n : Int)) := by omega
  clear hle
  go_enter Tryd.func15, Tryd.ntmps15
  go_wp2_with fail
  go_ret
  exact ⟨rfl, rfl⟩
theorem take_no (W : World) (b B : Nat) (v : Value) (l : List Prt) (s : Nm) (d : Nat) (h : Rd W b B v l s d) (n : Nat) (hs : s.length ≤ 1000000) (hle : ¬ n ≤ s.length) : Calls Tryd.prog 15 #[.pointer (some ⟨b, 0, none⟩), .int .i64 (n : Int)] W fun r W' => r = panEnd 11 ∧ W' = W := by
  obtain ⟨⟨c0, c1, c2⟩, f0, f1, f2⟩ := rd_cells h.box
  clear h
  have e1 : (str s).size = s.length := rfl
  have a3 : decide ((str s).size < n) = true := decide_eq_true (by omega)
  have a1 : decide (((str s).size : Int) < (n : Int)) = true := decide_eq_true (by omega)
  have a2 : ((str s).size : Int) < (n : Int) := by omega
  clear hle
  go_enter Tryd.func15, Tryd.ntmps15
  go_wp2_with fail
  refine (fail_calls _ 11).mono ?_
  rintro r w2 ⟨rfl, rfl⟩
  exact ⟨rfl, rfl, rfl⟩
theorem index_cut (c : UInt8) : ∀ s : Nm, match cutAt c s with
    | none => Lib.indexByte s c = -1
    | some x => Lib.indexByte s c = (x.1.length : Int) ∧ s = x.1 ++ c :: x.2
  | [] => rfl
  | d :: r => by
    have ih := index_cut c r
    unfold cutAt Lib.indexByte
    by_cases hd : d = c
    · subst hd
      rw [if_pos rfl]
      simp
    · rw [if_neg hd]
      have hb : (d == c) = false := by simpa using hd
      simp only [hb, Bool.false_eq_true, if_false]
      cases hc : cutAt c r with
      | none =>
        rw [hc] at ih
        simp only at ih
        simp [ih]
      | some x =>
        rw [hc] at ih
        simp only at ih
        obtain ⟨h1, h2⟩ := ih
        rw [h1]
        have : ((x.1.length : Int) == -1) = false := by rw [beq_eq_false_iff_ne]; omega
        simp only [this, Option.map_some]
        refine ⟨by simp, ?_⟩
        rw [h2]
        rfl
theorem slcut_calls (W : World) (s : Nm) (c : UInt8) (hs : s.length ≤ 1000000) : Calls Tryd.prog 33 #[.string (str s), .string (str [c])] W fun r W' => r = .returned (match cutAt c s with
    | none => .tuple #[.string (str s), .string (str []), .bool false]
    | some x => .tuple #[.string (str x.1), .string (str x.2), .bool true]) ∧ ∃ n, W' = W.drewN n := by
  have hi := index_cut c s
  have e1 : (str s).size = s.length := rfl
  have e2 : (str [c]).size = 1 := rfl
  cases hc : cutAt c s with
  | none =>
    rw [hc] at hi
    simp only at hi ⊢
    go_enter Tryd.func33, Tryd.ntmps33
    go_wp2_with fail
    refine (Tryd.stringslite_Index_one (str s) c W).mono ?_
    rintro r w2 ⟨rfl, rfl⟩
    rw [str_dl, hi]
    go_wp2_with fail
    refine bodyPost_ret (v := .tuple #[.string (str s), .string (str []), .bool false]) (by simp [results, Tryd.results33, go_sem]; rfl) rfl ?_
    exact ⟨rfl, 0, rfl⟩
  | some x =>
    rw [hc] at hi
    simp only at hi ⊢
    obtain ⟨h1, h2⟩ := hi
    have hl : x.1.length < s.length := by rw [h2]; simp
    have s1 := fun W => Sw.run_sub_h (P := Tryd.prog) (w := W) Tryd.underlying9 s .i64 x.1.length (by omega)
    have s2 := fun W => Sw.run_sub_l (P := Tryd.prog) (w := W) Tryd.underlying9 s .i64 (x.1.length + 1) (by omega)
    have t1 : s.take x.1.length = x.1 := by rw [h2, List.take_left]
    have t2 : s.drop (x.1.length + 1) = x.2 := by rw [h2, List.drop_append, List.drop_of_length_le (by omega)]; simp
    rw [t1] at s1
    rw [t2, show ((x.1.length + 1 : Nat) : Int) = (x.1.length : Int) + 1 by omega] at s2
    generalize x.1.length = k at *
    have k1 : decide (0 ≤ (k : Int)) = true := decide_eq_true (by omega)
    have k2 : 0 ≤ (k : Int) := by omega
    clear h2 t1 t2
    go_enter Tryd.func33, Tryd.ntmps33
    go_wp2_with fail
    refine (Tryd.stringslite_Index_one (str s) c W).mono ?_
    rintro r w2 ⟨rfl, rfl⟩
    rw [str_dl, h1]
    clear h1
    go_wp2_with fail
    go_quiet (fail)
    go_wp2_with fail
    refine bodyPost_ret (v := .tuple #[.string (str x.1), .string (str x.2), .bool true]) (by simp [results, Tryd.results33, go_sem]) rfl ?_
    exact ⟨rfl, _, rfl⟩
theorem cut_calls (W : World) (s : Nm) (c : UInt8) (hs : s.length ≤ 1000000) : Calls Tryd.prog 28 #[.string (str s), .string (str [c])] W fun r W' => r = .returned (match cutAt c s with
    | none => .tuple #[.string (str s), .string (str []), .bool false]
    | some x => .tuple #[.string (str x.1), .string (str x.2), .bool true]) ∧ ∃ n, W' = W.drewN n := by
  cases hc : cutAt c s with
  | none =>
    have h := slcut_calls W s c hs
    rw [hc] at h
    have H := Lib.hid h
    clear h
    go_enter Tryd.func28, Tryd.ntmps28
    go_wp2_with fail
    refine H.out.mono ?_
    rintro r w2 ⟨rfl, n, rfl⟩
    go_wp2_with fail
    refine bodyPost_ret (v := .tuple #[.string (str s), .string (str []), .bool false]) (by simp [results, Tryd.results28, go_sem]) rfl ?_
    exact ⟨rfl, _, rfl⟩
  | some x =>
    have h := slcut_calls W s c hs
    rw [hc] at h
    have H := Lib.hid h
    clear h
    go_enter Tryd.func28, Tryd.ntmps28
    go_wp2_with fail
    refine H.out.mono ?_
    rintro r w2 ⟨rfl, n, rfl⟩
    go_wp2_with fail
    refine bodyPost_ret (v := .tuple #[.string (str x.1), .string (str x.2), .bool true]) (by simp [results, Tryd.results28, go_sem]) rfl ?_
    exact ⟨rfl, _, rfl⟩
def UptoPost (W : World) (b : Nat) (s : Nm) (c : UInt8) (r : Ending) (W' : World) : Prop :=
  match cutAt c s with
  | none => r = panEnd 11 ∧ ∃ n, W' = W.drewN n
  | some x => r = .returned (.string (str x.1)) ∧ ∃ n, W' = (W.drewN n).setCell ⟨b, 1, none⟩ (.string (str x.2))
theorem upto_calls (W : World) (b B : Nat) (v : Value) (l : List Prt) (s : Nm) (d : Nat) (h : Rd W b B v l s d) (c : UInt8) (hs : s.length ≤ 1000000) : Calls Tryd.prog 23 #[.pointer (some ⟨b, 0, none⟩), .string (str [c])] W (UptoPost W b s c) := by
  obtain ⟨⟨c0, c1, c2⟩, f0, f1, f2⟩ := rd_cells h.box
  clear h
  unfold UptoPost
  cases hc : cutAt c s with
  | none =>
    have h := cut_calls W s c hs
    rw [hc] at h
    have H := Lib.hid h
    clear h
    go_enter Tryd.func23, Tryd.ntmps23
    go_wp2_with fail
    refine H.out.mono ?_
    rintro r w2 ⟨rfl, n, rfl⟩
    go_wp2_with fail
    refine (fail_calls _ 11).mono ?_
    rintro r w2 ⟨rfl, rfl⟩
    exact ⟨rfl, rfl, n, rfl⟩
  | some x =>
    have h := cut_calls W s c hs
    rw [hc] at h
    have H := Lib.hid h
    clear h
    go_enter Tryd.func23, Tryd.ntmps23
    go_wp2_with fail
    refine H.out.mono ?_
    rintro r w2 ⟨rfl, n, rfl⟩
    go_wp2_with fail
    go_ret
    exact ⟨rfl, n, rfl⟩
end Go.Proofs.YtfjkgeeaeolkhaaDoor
