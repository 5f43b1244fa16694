/-
  Rows of answers, and the writer's Add: the answers that may be, up to the first that may not. Conditions: the answers can be read; they are short.
-/
import Derived.Test.YtgbnfipbedlmhaaTpWalks2
import Derived.Test.YtgbnfipbedlmhaaEvWalks8
set_option linter.unusedVariables false
set_option maxRecDepth 100000
namespace Go.Proofs.Ytgbnfipbedlmhaa
open Go.RowKit Base

def ansCells (q : Ans) (a : Option Addr) (cap : Nat) : List Value := [.int .i64 q.kind, .int .i64 q.err, .int .i64 q.n, .int .i64 q.m, .string (str q.text), .slice a q.list.length cap, .int .i64 q.sig]
/-- An answer in memory. -/
def ansAt (w : World) (b o : Nat) (q : Ans) : Prop :=
  ∃ (a : Option Addr) (cap : Nat), (∀ (j : Nat) (u : Value), (ansCells q a cap)[j]? = some u → w.cell? ⟨b, o + j, none⟩ = some u) ∧ Strs w a q.list.length cap q.list
theorem info_ans : (Try.prog.info? 34).map (fun i => (i.zero, i.size, i.bytes)) = some (some (.agg #[.int .i64 0, .int .i64 0, .int .i64 0, .int .i64 0, .string ⟨#[]⟩, .slice none 0 0, .int .i64 0]), 7, 80) := by kernel_rfl
theorem stable_ansAt : Stable ansAt := fun w w' b o x hb ⟨a, cap, h1, h2⟩ => ⟨a, cap, fun j u hu => cell_below hb (Nat.le_refl _) (h1 j u hu), h2.below stable_strAt hb⟩
abbrev Anss := RowOf ansAt 7
theorem load_ansAt {w : World} {b o : Nat} {q : Ans} {a : Option Addr} {cap : Nat} (h : ∀ (j : Nat) (u : Value), (ansCells q a cap)[j]? = some u → w.cell? ⟨b, o + j, none⟩ = some u) :
    (Instr.loadAt 34 (.pointer (some ⟨b, o, none⟩))).run Try.prog w = .ok (ansV q a cap) w := by
  have h0 : w.cell? ⟨b, o, none⟩ = some (.int .i64 q.kind) := h 0 _ rfl
  have h1 := h 1 _ rfl
  have h2 := h 2 _ rfl
  have h3 := h 3 _ rfl
  have h4 := h 4 _ rfl
  have h5 := h 5 _ rfl
  have h6 := h 6 _ rfl
  unfold ansV
  go_simp
/-- How many answers may be, up to the first that may not. -/
def fitN (l : List Ans) : Nat := (l.takeWhile fun a => fitsB a.kind a).length
theorem fitN_le (l : List Ans) : fitN l ≤ l.length := by unfold fitN; exact (List.takeWhile_sublist _).length_le
theorem fitN_lt {l : List Ans} {j : Nat} (h : j < fitN l) (hj : j < l.length) : fitsB l[j].kind l[j] = true := by
  induction l generalizing j with
  | nil => simp at hj
  | cons r rs ih =>
    unfold fitN at h
    rw [List.takeWhile_cons] at h
    split at h
    · rename_i hr
      cases j with
      | zero => simpa using hr
      | succ j => exact ih (by unfold fitN; simpa using h) (by simpa using hj)
    · simp at h
theorem fitN_at {l : List Ans} (h : fitN l < l.length) : fitsB l[fitN l].kind l[fitN l] = false := by
  induction l with
  | nil => simp at h
  | cons r rs ih =>
    by_cases hr : fitsB r.kind r = true
    · have e : fitN (r :: rs) = fitN rs + 1 := by unfold fitN; rw [List.takeWhile_cons, if_pos hr]; rfl
      simp only [e] at h ⊢
      simpa using ih (by simpa using h)
    · have e : fitN (r :: rs) = 0 := by unfold fitN; rw [List.takeWhile_cons, if_neg hr]; rfl
      simp only [e]
      simpa using hr
theorem fitN_eq {l : List Ans} {j : Nat} (h : ∀ i (hi : i < l.length), i < j → fitsB l[i].kind l[i] = true) (hj : j ≤ l.length) (h2 : ∀ hj : j < l.length, fitsB l[j].kind l[j] = false) : fitN l = j := by
  rcases Nat.lt_trichotomy (fitN l) j with h3 | h3 | h3
  · have := h _ (by omega) h3
    rw [fitN_at (by omega)] at this
    cases this
  · exact h3
  · have hl : j < l.length := Nat.lt_of_lt_of_le h3 (fitN_le l)
    have := fitN_lt h3 hl
    rw [h2 hl] at this
    cases this
theorem tellB_pos (q : Ans) : 0 < (tellB q).length := by
  unfold tellB
  simp only [List.length_append]
  obtain ⟨p, c, h, _⟩ := num_form q.kind.toNat
  rw [h]
  simp
  omega
/-- A short answer. -/
structure Ans.Short (q : Ans) : Prop where
  text : q.text.length ≤ 300
  list : q.list.length ≤ 20
  each : ∀ s ∈ q.list, s.length ≤ 100
theorem texts_short (l : List (List UInt8)) (h : ∀ s ∈ l, s.length ≤ 100) : (texts l).length ≤ l.length * 110 := by
  induction l with
  | nil => simp [texts]
  | cons s r ih =>
    have h1 := ih fun x hx => h x (List.mem_cons_of_mem _ hx)
    have h2 := h s (List.mem_cons_self ..)
    have h3 := textB_len s (by unfold Lt64; omega)
    have e : texts (s :: r) = textB s ++ texts r := by simp [texts, textB]
    rw [e, List.length_append, List.length_cons]
    omega
theorem texts_short' {q : Ans} (h : q.Short) : (texts q.list).length ≤ 2200 := by
  have := texts_short q.list h.each
  have := h.list
  omega
theorem tellB_short {q : Ans} (h : q.Short) (hf : q.Fine) (ht : fitsB q.kind q = true) : (tellB q).length ≤ 3000 := by
  have h0 := (fitsB_iff q.kind q).1 ht
  have h1 := texts_short' h
  have h2 := rowB_len q.list (by have := h.list; omega)
  have h3 := textB_len q.text (by have := h.text; unfold Lt64; omega)
  have h4 := h.text
  have l1 := num_len q.kind.toNat (by unfold Lt64; omega)
  have l2 := num_len q.err.toNat (by unfold Lt64; omega)
  have l3 := num_len _ (zig_lt hf.n)
  have l4 := num_len _ (zig_lt hf.m)
  have l5 := num_len q.sig.toNat (by unfold Lt64; omega)
  unfold tellB
  simp only [List.length_append]
  omega
/-- What the writer writes of answers. -/
def wroteA (l : List Ans) (k : Nat) : List UInt8 := framesB ((l.take k).map tellB)
theorem wroteA_step {l : List Ans} {k : Nat} (hk : k < l.length) : wroteA l (k + 1) = wroteA l k ++ framesB [tellB l[k]] := by
  unfold wroteA
  rw [List.take_succ_eq_append_getElem hk, List.map_append, List.map_cons, List.map_nil, framesB_snoc, framesB_one]

theorem add_nil_calls (w : World) (x : Value) : Calls Try.prog 11 #[.pointer none, x] w fun e w' => e = .returned (.bool false) ∧ w = w' := by
  go_enter Try.func11, Try.ntmps11
  go_wp2_with fail
  go_ret
  exact ⟨rfl, rfl⟩

theorem wroteA_le {l : List Ans} (hs : ∀ q ∈ l, q.Short ∧ q.Fine) (hf : ∀ i (hi : i < l.length), i < fitN l → fitsB l[i].kind l[i] = true) : ∀ k, k ≤ fitN l → (wroteA l k).length ≤ k * 3020 := by
  intro k
  induction k with
  | zero => intro _; simp [wroteA, framesB]
  | succ k ih =>
    intro hk
    have hkl : k < l.length := Nat.lt_of_lt_of_le (by omega) (fitN_le l)
    rw [wroteA_step hkl, List.length_append, framesB_one, oneF_len]
    have h1 := hs _ (List.getElem_mem hkl)
    have h2 := tellB_short h1.1 h1.2 (hf k hkl (by omega))
    have h3 := num_len (tellB l[k]).length (by unfold Lt64; omega)
    have := ih (by omega)
    omega

set_option maxHeartbeats 4000000 in
theorem add_calls (w : World) (q : Nat) (v : Value) (l0 : List UInt8) (hw : WtrAt w q v l0) (a : Option Addr) (n cap : Nat) (l : List Ans) (hA : ∀ w' v', WStep q w v w' v' → Anss w' a n cap l) (hs : ∀ x ∈ l, x.Short ∧ x.Fine) (hl : l.length ≤ 1000) (hl0 : l0.length ≤ 10000000) :
    Calls Try.prog 11 #[.pointer (some ⟨q, 0, none⟩), .slice a n cap] w fun e w' => e = .returned (.bool (decide (fitN l = l.length))) ∧ ∃ v', WtrAt w' q v' (l0 ++ wroteA l (fitN l)) ∧ WStep q w v w' v' := by
  obtain ⟨i0, hi, hz0, hz1, hz2⟩ := info_parts info_ans
  have hnl : n = l.length := (hA w v (WStep.refl _ _ _)).1
  have HWl : Hid (∀ k, k ≤ fitN l → (wroteA l k).length ≤ k * 3020) := wroteA_le hs (fun i hi h => fitN_lt h hi)
  have Hn := Lib.hid hnl
  have HA := Lib.hid hA; clear hA
  have HS := Lib.hid hs; clear hs
  have HW0 := Lib.hid hw; clear hw
  have HF : Hid (fitN l ≤ n) := by show _ ≤ _; rw [hnl]; exact fitN_le l
  have hn1 : n ≤ 1000 := by omega
  obtain ⟨f, hf⟩ : ∃ f, f = fitN l := ⟨_, rfl⟩
  have HFE := Lib.hid hf
  rw [← hf]
  rw [← hf] at HWl HF
  clear hnl hf hl
  go_enter Try.func11, Try.ntmps11
  go_wp2_with fail
  go_loopw [12] (fun i wr => ∃ (k : Nat) (u : Value), k ≤ f ∧ i = .int .i64 k ∧ WtrAt wr q u (l0 ++ wroteA l k) ∧ WStep q w v wr u) (fun i _ => n - (intOf i).toNat)
  case atStart => exact ⟨0, v, Nat.zero_le _, rfl, by simpa [wroteA, framesB] using HW0.out, WStep.refl _ _ _⟩
  case round =>
    obtain ⟨k, u, hk, rfl, hwt, hst⟩ := hrel
    have HWt := Lib.hid hwt; clear hwt
    have HSt := Lib.hid hst; clear hst
    by_cases hlt : k < n
    · have hkl : k < l.length := by rw [← Hn.out]; exact hlt
      obtain ⟨b, off, hrow, hidx⟩ := (HA.out _ _ HSt.out).at (P := Try.prog)
      have hix := fun w' => hidx 22 34 i0 Try.underlying22 hi hz1 .i64 k w' hlt
      obtain ⟨ar, cr, hcells, hstr⟩ := hrow k hkl
      have hx := HS.out _ (List.getElem_mem hkl)
      have hstp := wroteA_step hkl
      have hfk : k < f ∨ k = f := by omega
      have hfit : k < f → fitsB l[k].kind l[k] = true := fun h => fitN_lt (by rw [← HFE.out]; exact h) hkl
      have hnot : k = f → fitsB l[k].kind l[k] = false := fun h => by subst h; have h3 := fitN_at (l := l); rw [← HFE.out] at h3; exact h3 hkl
      generalize l[k]'hkl = x at *
      have c0 : wr.cell? ⟨b, off + k * 7, none⟩ = some (.int .i64 x.kind) := hcells 0 _ rfl
      have c1 : wr.cell? ⟨b, off + k * 7 + 1, none⟩ = some (.int .i64 x.err) := hcells 1 _ rfl
      have c2 : wr.cell? ⟨b, off + k * 7 + 2, none⟩ = some (.int .i64 x.n) := hcells 2 _ rfl
      have c3 : wr.cell? ⟨b, off + k * 7 + 3, none⟩ = some (.int .i64 x.m) := hcells 3 _ rfl
      have c4 : wr.cell? ⟨b, off + k * 7 + 4, none⟩ = some (.string (str x.text)) := hcells 4 _ rfl
      have c5 : wr.cell? ⟨b, off + k * 7 + 5, none⟩ = some (.slice ar x.list.length cr) := hcells 5 _ rfl
      have c6 : wr.cell? ⟨b, off + k * 7 + 6, none⟩ = some (.int .i64 x.sig) := hcells 6 _ rfl
      clear hcells
      have t1 : decide ((k : Int) < (n : Int)) = true := by simp; omega
      have t2 : (k : Int) < (n : Int) := by omega
      clear hrow hidx
      have hB1 : Below wr.heap.size wr (wr.alloc (.cells #[.int .i64 x.kind, .int .i64 x.err, .int .i64 x.n, .int .i64 x.m, .string (str x.text), .slice ar x.list.length cr, .int .i64 x.sig] 34)) := (Below.refl _ wr).alloc (Nat.le_refl _) _
      have HTell := Lib.hid (ev_tell_calls _ x ar cr (hstr.below stable_strAt hB1) hx.2.n hx.2.m (by have := hx.1.text; omega) (by have := texts_short' hx.1; omega))
      have HB1 := Lib.hid hB1
      unfold ansV at HTell
      clear hstr hB1
      have HX := Lib.hid hx; clear hx
      rcases hfk with hkf | hkf
      · have hft := hfit hkf
        have hlen := tellB_short HX.out.1 HX.out.2 hft
        have hpos := tellB_pos x
        have hout : tellBOut x = tellB x := by unfold tellBOut; rw [if_pos hft]
        rw [hout] at HTell
        have d1 : decide (((tellB x).length : Int) = 0) = false := by rw [decide_eq_false_iff_not]; omega
        have d1' : ¬ ((tellB x).length : Int) = 0 := by omega
        have d1'' : ¬ (tellB x).length = 0 := by omega
        have d4 : decide ((tellB x).length = 0) = false := by rw [decide_eq_false_iff_not]; omega
        have d2 : decide ((65536 : Int) < ((tellB x).length : Int)) = false := by simp; omega
        have d3 : ¬ (65536 : Int) < ((tellB x).length : Int) := by omega
        have HSP := Lib.hid hstp
        clear hfit hnot hft hout hstp
        generalize tellB x = tx at *
        have HN : Hid (tx.length = tx.length) := rfl
        generalize hN : tx.length = N at HTell d1 d1' d1'' d4 d2 d3
        have HN := Lib.hid hN
        have HPos := Lib.hid hpos
        have HLen := Lib.hid hlen
        clear hN hpos hlen
        go_wp2_with fail
        refine HTell.out.mono ?_
        rintro e w2 ⟨v1, rfl, hown, hb2⟩
        obtain ⟨a1, cc1, rfl, hby⟩ := ownsRow_bytes hown
        have hB2 : Below wr.heap.size wr w2 := HB1.out.trans (hb2.mono HB1.out.size)
        have hB3 := (Below.refl w2.heap.size w2).alloc (Nat.le_refl _) (.cells #[.slice a1 N cc1] 28)
        have hrow := one_row hby 28
        have hB4 := hB2.trans (hB3.mono hB2.size)
        have HPut := Lib.hid (put_calls _ q u _ (HWt.out.stay hB4) _ 1 1 [tx] hrow (fun r hr => by rw [List.mem_singleton.1 hr]; have := HLen.out; omega) (by
          rw [framesB_one, oneF_len, List.length_append]
          have h0 := HLen.out
          have h1 := num_len tx.length (by unfold Lt64; omega)
          have h2 := HWl.out k (by omega)
          omega))
        have HB4 := Lib.hid hB4
        clear hown hb2 hby hB2 hB3 hrow hB4 c0 c1 c2 c3 c4 c5 c6
        go_wp2_with fail
        refine HPut.out.mono ?_
        rintro e w4 ⟨rfl, v4, hw4, hst4⟩
        go_wp2_with fail
        go_roundw
        case rel =>
          refine ⟨k + 1, v4, by omega, by go_num, ?_, HSt.out.trans (WStep.after HB4.out hst4)⟩
          rw [HSP.out, ← List.append_assoc]
          exact hw4
        case measure => simp [intOf]; omega
      · have hft := hnot hkf
        subst hkf
        have hout : tellBOut x = [] := by unfold tellBOut; rw [if_neg (by rw [hft]; simp)]
        rw [hout] at HTell
        clear hfit hnot hft hout hstp
        go_wp2_with fail
        refine HTell.out.mono ?_
        rintro e w2 ⟨v1, rfl, hown, hb2⟩
        obtain ⟨a1, cc1, rfl, hby⟩ := ownsRow_bytes hown
        have hB2 : Below wr.heap.size wr w2 := HB1.out.trans (hb2.mono HB1.out.size)
        clear hown hb2 hby c0 c1 c2 c3 c4 c5 c6
        go_wp2_with fail
        go_ret
        have hne : ¬ k = l.length := by rw [← Hn.out]; omega
        exact ⟨by simp [hne], u, HWt.out.stay hB2, HSt.out.then hB2⟩
    · have t1 : decide ((k : Int) < (n : Int)) = false := by simp; omega
      have t2 : ¬ (k : Int) < (n : Int) := by omega
      have HLT := Lib.hid hlt
      have HK := Lib.hid hk
      clear hlt hk
      go_wp2_with fail
      go_ret
      have hkf : k = f := by have := HF.out; have := HLT.out; have := HK.out; omega
      subst hkf
      have he : k = l.length := by rw [← Hn.out]; have := HF.out; have := HLT.out; omega
      exact ⟨by simp [he], u, HWt.out, HSt.out⟩

end Go.Proofs.Ytgbnfipbedlmhaa
