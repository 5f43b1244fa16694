/-
  What package event reads of bytes: end, Asked, Told. Each computes what the plain mathematics says. Conditions: the bytes can be read; they are not too many.
-/
import Derived.Test.YtgbnfipbedlmhaaEvWalks5
set_option linter.unusedVariables false
set_option maxRecDepth 100000
namespace Go.Proofs.Ytgbnfipbedlmhaa
open Go.RowKit Base

def endV (ev : Int) (x z : Value) : Value := if ev = 0 then .tuple #[x, .int .i64 ev] else .tuple #[z, .int .i64 ev]
theorem endR_ne {right : Bool} {l : List UInt8} {e : Int} (h : e ≠ 0) : endR right l e = e := by unfold endR; rw [if_pos h]
theorem endR_wrong (l : List UInt8) : endR false l 0 = 11 := by unfold endR; simp
theorem endR_end (l : List UInt8) : endR true l 0 = endE l 0 := by unfold endR endE; by_cases h : l = [] <;> simp [h]

set_option maxHeartbeats 800000 in
set_option maxRecDepth 100000 in
theorem end_ans_calls (w : World) (q : Nat) (l : List UInt8) (e : Int) (h : Rd w q l e) (k er n m sg : Int) (s : ByteArray) (a : Option Addr) (ln cap : Nat) (right : Bool) :
    Calls Try.prog 56 #[.pointer (some ⟨q, 0, none⟩), .agg #[.int .i64 k, .int .i64 er, .int .i64 n, .int .i64 m, .string s, .slice a ln cap, .int .i64 sg], .bool right] w fun r w' => r = .returned (endV (endR right l e) (.agg #[.int .i64 k, .int .i64 er, .int .i64 n, .int .i64 m, .string s, .slice a ln cap, .int .i64 sg]) (.agg #[.int .i64 0, .int .i64 0, .int .i64 0, .int .i64 0, .string ⟨#[]⟩, .slice none 0 0, .int .i64 0])) ∧ Below w.heap.size w w' := by
  have hb0 := (((Below.refl w.heap.size w).alloc (Nat.le_refl _) (.cells #[.int .i64 k, .int .i64 er, .int .i64 n, .int .i64 m, .string s, .slice a ln cap, .int .i64 sg] 34)).alloc (by simp) (.cells #[.int .i64 0, .int .i64 0, .int .i64 0, .int .i64 0, .string ⟨#[]⟩, .slice none 0 0, .int .i64 0] 34)).alloc (by simp; omega) (.cells #[.int .i64 0, .int .i64 0, .int .i64 0, .int .i64 0, .string ⟨#[]⟩, .slice none 0 0, .int .i64 0] 34)
  have HRD := Lib.hid (h.below hb0)
  clear h hb0
  by_cases he : e = 0
  · subst he
    cases right
    · have HV : Hid (endV (endR false l 0) (.agg #[.int .i64 k, .int .i64 er, .int .i64 n, .int .i64 m, .string s, .slice a ln cap, .int .i64 sg]) (.agg #[.int .i64 0, .int .i64 0, .int .i64 0, .int .i64 0, .string ⟨#[]⟩, .slice none 0 0, .int .i64 0]) = .tuple #[.agg #[.int .i64 0, .int .i64 0, .int .i64 0, .int .i64 0, .string ⟨#[]⟩, .slice none 0 0, .int .i64 0], .int .i64 11]) := by show _ = _; rw [endR_wrong]; unfold endV; rw [if_neg (by decide)]
      go_enter Try.func56, Try.ntmps56
      go_wp2_with fail
      refine (rd_err_calls _ q l _ HRD.out).mono ?_
      rintro r w' ⟨rfl, rfl⟩
      go_wp2_with fail
      refine bodyPost_ret (v := .tuple #[.agg #[.int .i64 0, .int .i64 0, .int .i64 0, .int .i64 0, .string ⟨#[]⟩, .slice none 0 0, .int .i64 0], .int .i64 11]) (by simp [results, Try.results56, go_sem]) rfl ⟨by rw [HV.out], ?_⟩
      repeat (first | exact Below.refl _ _ | (refine Below.setCell ?_ (by simp) _) | (refine Below.alloc ?_ (by simp; try omega) _))
    · by_cases hl : l = []
      · have HV : Hid (endV (endR true l 0) (.agg #[.int .i64 k, .int .i64 er, .int .i64 n, .int .i64 m, .string s, .slice a ln cap, .int .i64 sg]) (.agg #[.int .i64 0, .int .i64 0, .int .i64 0, .int .i64 0, .string ⟨#[]⟩, .slice none 0 0, .int .i64 0]) = .tuple #[.agg #[.int .i64 k, .int .i64 er, .int .i64 n, .int .i64 m, .string s, .slice a ln cap, .int .i64 sg], .int .i64 0]) := by show _ = _; rw [endR_end, show endE l 0 = 0 from by unfold endE; rw [if_pos (.inr hl)]]; unfold endV; rw [if_pos rfl]
        have HE : Hid (endE l 0 = 0) := by show _ = _; unfold endE; rw [if_pos (.inr hl)]
        clear hl
        go_enter Try.func56, Try.ntmps56
        go_wp2_with fail
        refine (rd_err_calls _ q l _ HRD.out).mono ?_
        rintro r w' ⟨rfl, rfl⟩
        go_wp2_with fail
        refine (rd_end_calls _ q l _ HRD.out).mono ?_
        rintro r w' ⟨rfl, rfl⟩
        rw [HE.out]
        go_wp2_with fail
        refine bodyPost_ret (v := .tuple #[.agg #[.int .i64 k, .int .i64 er, .int .i64 n, .int .i64 m, .string s, .slice a ln cap, .int .i64 sg], .int .i64 0]) (by simp [results, Try.results56, go_sem]) rfl ⟨by rw [HV.out], ?_⟩
        repeat (first | exact Below.refl _ _ | (refine Below.setCell ?_ (by simp) _) | (refine Below.alloc ?_ (by simp; try omega) _))
      · have HV : Hid (endV (endR true l 0) (.agg #[.int .i64 k, .int .i64 er, .int .i64 n, .int .i64 m, .string s, .slice a ln cap, .int .i64 sg]) (.agg #[.int .i64 0, .int .i64 0, .int .i64 0, .int .i64 0, .string ⟨#[]⟩, .slice none 0 0, .int .i64 0]) = .tuple #[.agg #[.int .i64 0, .int .i64 0, .int .i64 0, .int .i64 0, .string ⟨#[]⟩, .slice none 0 0, .int .i64 0], .int .i64 14]) := by show _ = _; rw [endR_end, show endE l 0 = 14 from by unfold endE; rw [if_neg (by simpa using hl)]]; unfold endV; rw [if_neg (by decide)]
        have HE : Hid (endE l 0 = 14) := by show _ = _; unfold endE; rw [if_neg (by simpa using hl)]
        clear hl
        go_enter Try.func56, Try.ntmps56
        go_wp2_with fail
        refine (rd_err_calls _ q l _ HRD.out).mono ?_
        rintro r w' ⟨rfl, rfl⟩
        go_wp2_with fail
        refine (rd_end_calls _ q l _ HRD.out).mono ?_
        rintro r w' ⟨rfl, rfl⟩
        rw [HE.out]
        go_wp2_with fail
        refine bodyPost_ret (v := .tuple #[.agg #[.int .i64 0, .int .i64 0, .int .i64 0, .int .i64 0, .string ⟨#[]⟩, .slice none 0 0, .int .i64 0], .int .i64 14]) (by simp [results, Try.results56, go_sem]) rfl ⟨by rw [HV.out], ?_⟩
        repeat (first | exact Below.refl _ _ | (refine Below.setCell ?_ (by simp) _) | (refine Below.alloc ?_ (by simp; try omega) _))
  · have HV : Hid (endV (endR right l e) (.agg #[.int .i64 k, .int .i64 er, .int .i64 n, .int .i64 m, .string s, .slice a ln cap, .int .i64 sg]) (.agg #[.int .i64 0, .int .i64 0, .int .i64 0, .int .i64 0, .string ⟨#[]⟩, .slice none 0 0, .int .i64 0]) = .tuple #[.agg #[.int .i64 0, .int .i64 0, .int .i64 0, .int .i64 0, .string ⟨#[]⟩, .slice none 0 0, .int .i64 0], .int .i64 e]) := by show _ = _; rw [endR_ne he]; unfold endV; rw [if_neg he]
    have t1 : (e == 0) = false := by rw [beq_eq_false_iff_ne]; exact he
    have t2 : (e != 0) = true := by rw [bne_iff_ne]; exact he
    clear he
    go_enter Try.func56, Try.ntmps56
    go_wp2_with fail
    refine (rd_err_calls _ q l _ HRD.out).mono ?_
    rintro r w' ⟨rfl, rfl⟩
    go_wp2_with fail
    refine bodyPost_ret (v := .tuple #[.agg #[.int .i64 0, .int .i64 0, .int .i64 0, .int .i64 0, .string ⟨#[]⟩, .slice none 0 0, .int .i64 0], .int .i64 e]) (by simp [results, Try.results56, go_sem]) rfl ⟨by rw [HV.out], ?_⟩
    repeat (first | exact Below.refl _ _ | (refine Below.setCell ?_ (by simp) _) | (refine Below.alloc ?_ (by simp; try omega) _))

/-! ### What is read, as the program holds it -/
def askedV (b : List UInt8) : Req := ⟨(smallN (q1 b).1 12 : Int), VarPlain.zag (q2 b).1, VarPlain.zag (q3 b).1, (q4 b).1, (q5 b).1.2⟩
theorem readRow_few {l : List UInt8} {e : Int} (h : (readRow l e).1.1 = true) : (readRow l e).1.2.length ≤ 4096 := by
  unfold readRow at h ⊢
  split at h
  · simp at h
  · rename_i hc
    rw [if_neg hc]
    simp only []
    rw [words_len]
    omega
theorem askedE_few {b : List UInt8} (h : (q5 b).1.1 = true) : askedE b = endR (rightB (askedV b)) (q5 b).2.1 (q5 b).2.2 := by
  unfold askedE
  congr 1
  unfold askedRight
  rw [h, Bool.and_true]
  have hl : (q5 b).1.2.length ≤ 4096 := readRow_few h
  rw [Bool.eq_iff_iff, rightB_iff]
  unfold askedV smallN
  simp only [Bool.and_eq_true, decide_eq_true_eq]
  split <;> omega
theorem askedE_many {b : List UInt8} (h : (q5 b).1.1 = false) : askedE b = endR false (q5 b).2.1 (q5 b).2.2 := by
  unfold askedE askedRight
  rw [h, Bool.and_false]
theorem askedQ_ok {b : List UInt8} (h : askedE b = 0) : askedQ b = askedV b := by
  have h2 := (endR_zero h).2.1
  unfold askedQ askedV smallN
  rw [if_pos h]
  unfold askedRight at h2
  simp only [Bool.and_eq_true, decide_eq_true_eq] at h2
  congr 1
  rw [if_neg (by omega)]
theorem askedQ_bad {b : List UInt8} (h : askedE b ≠ 0) : askedQ b = Req.zero := by unfold askedQ; rw [if_neg h]
def toldV (b : List UInt8) : Ans := ⟨(smallN (t1 b).1 12 : Int), (smallN (t2 b).1 255 : Int), VarPlain.zag (t3 b).1, VarPlain.zag (t4 b).1, (t5 b).1, (t6 b).1.2, (smallN (t7 b).1 64 : Int)⟩
theorem toldE_few {b : List UInt8} (h : (t6 b).1.1 = true) : toldE b = endR (fitsB (smallN (t1 b).1 12 : Int) (toldV b)) (t7 b).2.1 (t7 b).2.2 := by
  unfold toldE
  congr 1
  unfold toldRight
  rw [h, Bool.and_true]
  have hl : (t6 b).1.2.length ≤ 4096 := readRow_few h
  rw [Bool.eq_iff_iff, fitsB_iff]
  unfold toldV
  simp only [Bool.and_eq_true, decide_eq_true_eq, eq_self, true_and]
  unfold smallN
  split <;> split <;> split <;> omega
theorem toldE_many {b : List UInt8} (h : (t6 b).1.1 = false) : toldE b = endR false (t6 b).2.1 (t6 b).2.2 := by
  unfold toldE toldRight
  rw [h, Bool.and_false]
  unfold t7
  rw [if_neg (by rw [h]; simp)]
theorem toldA_ok {b : List UInt8} (h : toldE b = 0) : toldA b = toldV b := by
  have h2 := (endR_zero h).2.1
  unfold toldA toldV smallN
  rw [if_pos h]
  unfold toldRight at h2
  simp only [Bool.and_eq_true, decide_eq_true_eq] at h2
  congr 1
  · rw [if_neg (by omega)]
  · rw [if_neg (by omega)]
  · rw [if_neg (by omega)]
theorem toldA_bad {b : List UInt8} (h : toldE b ≠ 0) : toldA b = Ans.zero := by unfold toldA; rw [if_neg h]

/-- Bytes stay while a block is written in which no byte stands. -/
theorem bytes_apart {w w' : World} {p : Nat} {cs : Array Value} {t : TypeId} {fr : Nat × Nat} {a : Option Addr} {n cap : Nat} {l : List UInt8} (hq : w.heap[p]? = some (.cells cs t fr)) (hno : ∀ v ∈ cs.toList, ∀ c, v ≠ .int .u8 c) (h : Bytes w a n cap l)
    (hg : w.grownBy w' (some p)) : Bytes w' a n cap l := by
  obtain ⟨h1, h2, h3, b, off, h4, h5⟩ := h
  refine ⟨h1, h2, h3, b, off, h4, fun k hk => ?_⟩
  have h6 := h5 k hk
  unfold byteAt at h6 ⊢
  have hlt : b < w.heap.size := World.block_lt_of_cell? w _ h6
  have hne : b ≠ p := by
    intro hbq
    subst hbq
    unfold World.cell? at h6
    rw [hq] at h6
    simp at h6
    exact hno _ (List.mem_of_getElem? (by simpa using h6)) _ rfl
  rw [World.cell?_of_block (hg.block b hlt (by intro e; simp at e; exact hne e))]
  exact h6
theorem rd_apart {w w' : World} {p q : Nat} {cs : Array Value} {t : TypeId} {fr : Nat × Nat} {l : List UInt8} {e : Int} (hq : w.heap[p]? = some (.cells cs t fr)) (hno : ∀ v ∈ cs.toList, ∀ c, v ≠ .int .u8 c) (h : Rd w q l e) (hne : q ≠ p)
    (hg : w.grownBy w' (some p)) : Rd w' q l e := by
  obtain ⟨a, n, cap, h1, h2⟩ := h
  exact ⟨a, n, cap, by rw [hg.block q (Array.getElem?_eq_some_iff.1 h1).1 (by intro e; simp at e; exact hne e)]; exact h1, bytes_apart hq hno h2 hg⟩
theorem grown_set (W : World) (g i : Nat) (v : Value) : W.grownBy (W.setCell ⟨g, i, none⟩ v) (some g) :=
  ⟨rfl, rfl, rfl, by simp [World.setCell], fun k hk hne => Below.heap_setCell _ _ _ _ (fun h => hne (by simp [h]))⟩
theorem strs_sets {w w' : World} {base : Nat} {e : TypeId} {a : Option Addr} {n c : Nat} {l : List (List UInt8)} {q : Nat} (h : w.ownsRow base e 1 (.slice a n c) n (l.map sv)) (hq : q < base) (hg : w.grownBy w' (some q)) : Strs w' a n c l := by
  obtain ⟨a', c', he, hs⟩ := ownsRow_strs (ownsRow_kept h hg hq)
  simp at he
  obtain ⟨rfl, rfl⟩ := he
  exact hs
theorem does_extract {P : Program} {a : Act} {w : World} {post : Value → World → Prop} {dst : Option Tmp} {x : Operand} {i : Nat} {ty : TypeId} {pos : String} {after : Array Edge} {guard : Option (Nat × Bool)} (vs : Array Value) (v : Value)
    (hx : a.eval x = .tuple vs) (hi : vs[i]? = some v) (hp : post v w) : Rg.does P { dst, op := .extract x i, type := ty, pos, after, guard } a w post := by
  refine Rg.does_value (v := v) ?_ hp
  simp [execOp, hx, Instr.extract, hi]
theorem load_ans {w : World} {p : Nat} {v0 v1 v2 v3 v4 v5 v6 : Value} (h0 : w.cell? ⟨p, 0, none⟩ = some v0) (h1 : w.cell? ⟨p, 1, none⟩ = some v1) (h2 : w.cell? ⟨p, 2, none⟩ = some v2) (h3 : w.cell? ⟨p, 3, none⟩ = some v3) (h4 : w.cell? ⟨p, 4, none⟩ = some v4) (h5 : w.cell? ⟨p, 5, none⟩ = some v5) (h6 : w.cell? ⟨p, 6, none⟩ = some v6) :
    (Instr.loadAt 34 (.pointer (some ⟨p, 0, none⟩))).run Try.prog w = .ok (.agg #[v0, v1, v2, v3, v4, v5, v6]) w := by
  go_simp

end Go.Proofs.Ytgbnfipbedlmhaa
