/-
  Lexer: All. Conditions: as each contract says.
-/
import Derived.Test.YtiklkhbfilbpeaaGreatDoorSkLxCatch
set_option linter.unusedVariables false
set_option linter.unusedSimpArgs false
set_option maxRecDepth 100000
namespace Go.Proofs.YtiklkhbfilbpeaaGreatDoor
open Go.RowKit Base Lx
/-- How a state between tokens is. -/
structure StOk (l : List Tok) (hh : List Nat) (s : Nm) : Prop where
  idx : ∀ i ∈ hh, i < l.length
  few : hh.length ≤ l.length
  len : l.length + s.length ≤ 5000
  bd : Bd l s.length
theorem Bd.less {l : List Tok} {n m : Nat} (h : Bd l n) (hm : m ≤ n) : Bd l m := fun t ht => by have := h t ht; exact ⟨by omega, this.2⟩
theorem Bd.add {l : List Tok} {n : Nat} {t : Tok} (h : Bd l n) (h1 : t.b.length + n ≤ 100001) (h2 : t.t.length ≤ 100000) : Bd (l ++ [t]) n := fun u hu => by
  rcases List.mem_append.1 hu with hu | hu
  · exact h u hu
  · obtain rfl := List.mem_singleton.1 hu; exact ⟨h1, h2⟩
theorem here_bound (e : Nm) : ∀ f s x, hereF e f s = .ok x → x.1.length + x.2.length ≤ s.length
  | 0, s, x, h => by cases h
  | f + 1, s, x, h => by
    unfold hereF at h
    split at h
    · cases h
    · rename_i hs
      have hsp : (cutLn s).1.length + (cutLn s).2.length ≤ s.length ∧ ((cutLn s).2 ≠ [] → (cutLn s).1.length + (cutLn s).2.length + 1 ≤ s.length) := by
        unfold cutLn
        cases hc : cutAt 10 s with
        | none => simp
        | some y => have := congrArg List.length (cut_len hc); simp at this ⊢; omega
      split at h
      · injection h with h; subst h; simp; exact Nat.le_trans (Nat.le_add_left _ _) hsp.1
      · obtain ⟨p, h2, h3⟩ := pre_ok_inv h
        have h4 := here_bound e f _ (p, x.2) h2
        rw [h3]
        have hne : (cutLn s).2 ≠ [] := fun h0 => by
          rw [h0] at h2
          cases f with
          | zero => cases h2
          | succ f => cases h2
        have := hsp.2 hne
        simp at h4 ⊢; omega
theorem bodies_ok : ∀ (hh : List Nat) (l : List Tok) (s : Nm) (x : List Tok × Nm), bodiesM hh l s = .ok x → Bd l s.length → x.1.length = l.length ∧ x.2.length ≤ s.length ∧ Bd x.1 x.2.length
  | [], l, s, x, e, hb => by injection e with e; subst e; exact ⟨rfl, Nat.le_refl _, hb⟩
  | i :: is, l, s, x, e, hb => by
    obtain ⟨y, h1, h2⟩ := bnd_ok_inv (x := hereM (bareAt l i) s) e
    have h3 := here_bound _ _ _ _ h1
    have h4 := bodies_ok is _ _ _ h2 (hb.modify h3)
    rw [List.length_modify] at h4
    exact ⟨h4.1, by omega, h4.2.2⟩
theorem word_out {s : Nm} {x : Nm × Nm} (h : wordM s = .ok x) : x.1.length + x.2.length ≤ s.length := loopF_out (part_out 0) _ _ _ h
theorem st_one {g : Nat} {l : List Tok} {hh : List Nat} {c : UInt8} {s : Nm} {x : St} (h : StOk l hh (c :: s)) (e : oneM g l hh (c :: s) = .ok x) : StOk x.1 x.2.1 x.2.2 := by
  have hl := h.len
  have hlt := one_len (by simp) e
  simp only [List.length_cons] at hl hlt
  unfold oneM at e
  simp only at e
  split at e
  · obtain ⟨y, h1, h2⟩ := bnd_ok_inv e
    injection h2 with h2; subst h2
    have h3 := bodies_ok _ _ _ _ h1 ((h.bd.less (by simp)).add (by simp; omega) (by simp))
    rw [List.length_append, List.length_singleton] at h3
    exact ⟨fun i hi => absurd hi List.not_mem_nil, Nat.zero_le _, by simp only; omega, h3.2.2⟩
  · rename_i h10
    split at e
    · injection e with e; subst e
      exact ⟨h.idx, h.few, by simp only at hlt ⊢; omega, h.bd.less (by simp only at hlt; simp only [List.length_cons]; omega)⟩
    · split at e
      · injection e with e; subst e
        exact ⟨h.idx, h.few, by simp only at hlt ⊢; omega, h.bd.less (by simp only at hlt; simp only [List.length_cons]; omega)⟩
      · split at e
        · injection e with e; subst e
          exact ⟨h.idx, h.few, by simp only at hlt ⊢; omega, h.bd.less (by simp only at hlt; simp only [List.length_cons]; omega)⟩
        · rename_i hb
          split at e
          · rename_i o ho
            injection e with e; subst e
            have ho2 := sign_pos (sign_has ho).2
            simp only at hlt
            refine ⟨fun i hi => ?_, ?_, ?_, (h.bd.less ?_).add ?_ ?_⟩
            · have := h.idx i hi; simp; omega
            · have := h.few; simp; omega
            · simp only [List.length_append, List.length_singleton]; omega
            · simp only [List.length_cons]; omega
            · simp only [List.length_nil]; omega
            · simp only; omega
          · rename_i hn
            split at e
            · cases e
            · rename_i h38
              obtain ⟨y, h1, h2⟩ := bnd_ok_inv e
              have h3 := word_len (word_at h10 hb hn h38) h1
              have h4 := word_out h1
              simp only [List.length_cons] at h3 h4
              split at h2
              · injection h2 with h2; subst h2
                refine ⟨fun i hi => ?_, ?_, ?_, (h.bd.less ?_).add ?_ ?_⟩
                · have := h.idx i hi; simp; omega
                · have := h.few; simp; omega
                · simp only [List.length_append, List.length_singleton]; omega
                · simp only [List.length_cons]; omega
                · simp only [List.length_nil]; omega
                · simp only; omega
              · injection h2 with h2; subst h2
                refine ⟨fun i hi => ?_, ?_, ?_, (h.bd.less ?_).add ?_ ?_⟩
                · simp only at hi
                  split at hi
                  · rcases List.mem_append.1 hi with hi | hi
                    · have := h.idx i hi; simp; omega
                    · obtain rfl := List.mem_singleton.1 hi; simp
                  · have := h.idx i hi; simp; omega
                · have := h.few
                  simp only
                  split <;> simp <;> omega
                · simp only [List.length_append, List.length_singleton]; omega
                · simp only [List.length_cons]; omega
                · simp only [List.length_nil]; omega
                · simp only; omega
theorem cell_of {w : World} {p : Nat} {x : Value} {t : TypeId} (h : w.heap[p]? = some (.cells #[x] t)) : w.cell? ⟨p, 0, none⟩ = some x ∧ w.frozen? ⟨p, 0, none⟩ = false := by simp [World.cell?, World.frozen?, h]
theorem fld_tk3 (b o : Nat) (w : World) : (Instr.fieldAt tkT (.pointer (some ⟨b, o, none⟩)) 3).run Tryz.prog w = .ok (.pointer (some ⟨b, o + 3, none⟩)) w := by rfl
theorem lastLn_app (l : List Tok) (t : Tok) : lastLn (l ++ [t]) = t.ln := by unfold lastLn; rw [List.getLast?_append]; rfl
def AllPost (W : World) (x : RA) (r : Ending) (W' : World) : Prop :=
  Below W.heap.size W W' ∧ match x with
    | .error y => r = .returned (.tuple #[.slice none 0 0, .int .i64 y.1, .int .i64 (y.2 : Int)])
    | .ok l => ∃ v, r = .returned (.tuple #[v, .int .i64 0, .int .i64 0]) ∧ W'.ownsRow W.heap.size tkT 4 v l.length (l.flatMap tkC)
theorem heap4 (w : World) (o0 o1 o2 o3 : Obj) : ((((w.alloc o0).alloc o1).alloc o2).alloc o3).heap[w.heap.size]? = some o0 ∧ ((((w.alloc o0).alloc o1).alloc o2).alloc o3).heap[w.heap.size + 1]? = some o1 ∧ ((((w.alloc o0).alloc o1).alloc o2).alloc o3).heap[w.heap.size + 1 + 1]? = some o2 ∧ ((((w.alloc o0).alloc o1).alloc o2).alloc o3).heap[w.heap.size + 1 + 1 + 1]? = some o3 := by
  obtain ⟨h0, h1, h2⟩ := Ap.heap3 w o0 o1 o2
  have hal := (Below.refl (((w.alloc o0).alloc o1).alloc o2).heap.size (((w.alloc o0).alloc o1).alloc o2)).alloc (Nat.le_refl _) o3
  have h3 := heap_alloc_new (((w.alloc o0).alloc o1).alloc o2) o3
  simp only [World.size_alloc] at h3
  exact ⟨(hal.block _ (Array.getElem?_eq_some_iff.1 h0).1).trans h0, (hal.block _ (Array.getElem?_eq_some_iff.1 h1).1).trans h1, (hal.block _ (Array.getElem?_eq_some_iff.1 h2).1).trans h2, h3⟩
theorem all_start (W : World) (s : Nm) (hs : s.length ≤ 4096) : ∃ w1, (((W.alloc (.cells #[.slice none 0 0] tsT)).alloc (.cells #[.int .i64 0] enT)).alloc (.cells #[.int .i64 0] inT)).alloc (.cells #[.string (str s), .int .i64 1, .int .i64 0, .slice none 0 0, .slice none 0 0] rdT) = w1 ∧
    w1.heap[W.heap.size]? = some (.cells #[.slice none 0 0] tsT) ∧ w1.heap[W.heap.size + 1]? = some (.cells #[.int .i64 0] enT) ∧ w1.heap[W.heap.size + 1 + 1]? = some (.cells #[.int .i64 0] inT) ∧
    LxSt w1 (W.heap.size + 1 + 1 + 1) (W.heap.size + 1 + 1 + 1) (1 + nl s) 0 [] [] s (.slice none 0 0) (.slice none 0 0) ∧ Below W.heap.size W w1 ∧ w1.heap.size = W.heap.size + 1 + 1 + 1 + 1 := by
  obtain ⟨h0, h1, h2, h3⟩ := heap4 W (.cells #[.slice none 0 0] tsT) (.cells #[.int .i64 0] enT) (.cells #[.int .i64 0] inT) (.cells #[.string (str s), .int .i64 1, .int .i64 0, .slice none 0 0, .slice none 0 0] rdT)
  have hB := ((((Below.refl W.heap.size W).alloc (Nat.le_refl _) (.cells #[.slice none 0 0] tsT)).alloc (by simp only [World.size_alloc]; omega) (.cells #[.int .i64 0] enT)).alloc (by simp only [World.size_alloc]; omega) (.cells #[.int .i64 0] inT)).alloc (by simp only [World.size_alloc]; omega) (.cells #[.string (str s), .int .i64 1, .int .i64 0, .slice none 0 0, .slice none 0 0] rdT)
  have hn := nl_le s
  refine ⟨_, rfl, h0, h1, h2, ⟨⟨?_, by omega, by omega, by omega⟩, World.ownsRow_nil _ _ _ _, World.ownsRow_nil _ _ _ _, Nat.le_refl _⟩, hB, by simp only [World.size_alloc]⟩
  rw [show (1 + nl s - nl s : Nat) = 1 by omega]
  exact h3
set_option maxHeartbeats 8000000 in
theorem all_calls (W : World) (s : Nm) (hs : s.length ≤ 4096) (hO : SigT W) : Calls Tryz.prog 11 #[.string (str s)] W (AllPost W (allM s)) := by
  have hmf : ∀ (fn : Fn) (first cap : Array Value) (w : World), (Instr.makeFunc fn first cap).run Tryz.prog w = .ok (.func fn first cap) w := fun _ _ _ _ => rfl
  obtain ⟨w1, hw1, hp, hq, hr, hst, hb, hsz⟩ := all_start W s hs
  have HW1 : Hid ((((W.alloc (.cells #[.slice none 0 0] tsT)).alloc (.cells #[.int .i64 0] enT)).alloc (.cells #[.int .i64 0] inT)).alloc (.cells #[.string (str s), .int .i64 1, .int .i64 0, .slice none 0 0, .slice none 0 0] rdT) = w1) := hw1
  have HP := Lib.hid hp
  have HQ := Lib.hid hq
  have HR := Lib.hid hr
  have HS := Lib.hid hst
  have HB := Lib.hid hb
  have HZ := Lib.hid hsz
  have HO1 : Hid (SigT w1) := by have := hO.lt; exact hO.below hb this
  have HG : Hid (gSig < W.heap.size + 1 + 1 + 1) := by have := hO.lt; show _ < _; omega
  have e1 : (str s).size = s.length := rfl
  have a1 : decide ((4096 : Int) < ((str s).size : Int)) = false := decide_eq_false (by omega)
  have a2 : ¬ ((4096 : Int) < ((str s).size : Int)) := by omega
  clear hw1 hp hq hr hst hb hsz hO
  obtain ⟨N, hN⟩ : ∃ N, W.heap.size = N := ⟨_, rfl⟩
  have HN := Lib.hid hN
  rw [hN] at HP HQ HR HZ HG HS
  clear hN
  obtain ⟨K, hK⟩ : ∃ K, 1 + nl s = K := ⟨_, rfl⟩
  have HX0 : Hid (allS K ([], [], s) = allM s) := by show _ = _; rw [← hK]; rfl
  have HOk : Hid (StOk [] [] s) := ⟨fun i hi => absurd hi List.not_mem_nil, Nat.le_refl _, by simp; omega, fun t ht => absurd ht List.not_mem_nil⟩
  rw [hK] at HS
  clear hK
  go_enter_defers Tryz.func11, Tryz.ntmps11
  go_upto_region 5 with fail
  rw [HW1.out, HN.out]
  clear a1 a2 e1
  go_loopw [] (fun wr => ∃ (l : List Tok) (hh : List Nat) (q : Nm) (g : Nat) (vl vh : Value), LxSt wr (N + 1 + 1 + 1) (N + 1 + 1 + 1) K g l hh q vl vh ∧ Below (N + 1 + 1 + 1) w1 wr ∧ allS K (l, hh, q) = allM s ∧ StOk l hh q) (fun wr => txtLen wr (N + 1 + 1 + 1))
  case atStart => exact ⟨[], [], s, 0, _, _, HS.out, Below.refl _ _, HX0.out, HOk.out⟩
  case round =>
    clear HX0 HOk HS
    obtain ⟨l, hh, q, g, vl, vh, hst, hbe, hx, hok⟩ := hrel
    have HS := Lib.hid hst
    have HBe := Lib.hid hbe
    have HX := Lib.hid hx
    have HOk := Lib.hid hok
    obtain ⟨⟨c0, c1, c2, c3, c4⟩, f0, f1, f2, f3, f4⟩ := rd_cells hst.rd.box
    clear hst hbe hx hok
    cases q with
    | cons c q =>
      have t1 : ((str (c :: q)).toList == []) = false := by rw [str_tl2]; rfl
      have hlen := HOk.out.len
      have hfew := HOk.out.few
      have hzl : txtLen wr (N + 1 + 1 + 1) = (c :: q).length := rd_len HS.out.rd
      go_wp2_with fail
      clear c0 c1 c2 c3 c4 f0 f1 f2 f3 f4
      obtain ⟨Y, hY⟩ : ∃ Y, oneM (K - nl (c :: q)) l hh (c :: q) = Y := ⟨_, rfl⟩
      refine (one_calls wr _ _ K g l hh c q vl vh HS.out HOk.out.idx (by omega) (by omega) HOk.out.bd (HO1.out.below HBe.out HG.out) HG.out Y hY).mono ?_
      rintro r w2 hp
      cases Y with
      | error e =>
        obtain ⟨rfl, hb2⟩ := hp
        have HE : Hid (allM s = .error (e, K - nl (c :: q))) := by show _ = _; rw [← HX.out, allS_step K l hh (by simp), hY]
        have HB2 := Lib.hid (HBe.out.trans hb2)
        clear hb2 hY
        have hp2 : w2.heap[N]? = some (.cells #[.slice none 0 0] tsT) := (HB2.out.block N (by omega)).trans HP.out
        have hq2 : w2.heap[N + 1]? = some (.cells #[.int .i64 0] enT) := (HB2.out.block (N + 1) (by omega)).trans HQ.out
        have hr2 : w2.heap[N + 1 + 1]? = some (.cells #[.int .i64 0] inT) := (HB2.out.block (N + 1 + 1) (by omega)).trans HR.out
        refine leaves_cons (f := 19) (args := #[.pointer (some ⟨N, 0, none⟩), .pointer (some ⟨N + 1, 0, none⟩), .pointer (some ⟨N + 1 + 1, 0, none⟩)]) (by simp) (by simp [go_sem]) ?_
        refine (catch_panic N (N + 1) (N + 1 + 1) _ _ _ e (K - nl (c :: q)) [] w2 hp2 hq2 hr2).mono ?_
        rintro r u' w3 ⟨rfl, rfl, hc⟩
        have k0 := (cell_of hc.hp).1
        have k1 := (cell_of hc.hq).1
        have k2 := (cell_of hc.hr).1
        have hb3 : Below N w2 w3 := hc.below (Nat.le_refl _) (by omega) (by omega) (by have := HB2.out.size; rw [HZ.out] at this; omega)
        have HF : Hid (AllPost W (allM s) (.returned (.tuple #[.slice none 0 0, .int .i64 e, .int .i64 (((K - nl (c :: q)) : Nat) : Int)])) w3) := by
          show AllPost _ _ _ _
          rw [HE.out]
          refine ⟨?_, rfl⟩
          rw [HN.out]
          have h0 : Below N W w1 := by rw [← HN.out]; exact HB.out
          exact (h0.trans (HB2.out.mono (by omega))).trans hb3
        clear hc hb3 hp2 hq2 hr2
        simp [Leaves, settle, results, Tryz.results11, go_sem, k0, k1, k2]
        exact HF.out
      | ok y =>
        obtain ⟨rfl, hb2, vl2, vh2, hs2⟩ := hp
        have HXn : Hid (allS K (y.1, y.2.1, y.2.2) = allM s) := by show _ = _; rw [← HX.out, allS_step K l hh (by simp), hY]
        have HS2 := Lib.hid hs2
        have HB2 := Lib.hid (HBe.out.trans hb2)
        have HOk2 := Lib.hid (st_one HOk.out hY)
        have hlt : y.2.2.length < (c :: q).length := one_len (by simp) hY
        have hz2 : txtLen w2 (N + 1 + 1 + 1) = y.2.2.length := rd_len hs2.rd
        clear hb2 hs2 hY
        go_wp2_with fail
        go_roundw
        case rel => exact ⟨_, _, _, _, _, _, HS2.out, HB2.out, HXn.out, HOk2.out⟩
        case measure => rw [hz2, hzl]; exact hlt
    | nil =>
      have t1 : ((str []).toList == []) = true := by rw [str_tl2]; rfl
      obtain ⟨ah, ch, hv, _⟩ := ownsRow_slice HS.out.here
      subst hv
      by_cases hh0 : hh = []
      · subst hh0
        have hn0 : nl ([] : Nm) = 0 := rfl
        have HE : Hid (allM s = .ok (l ++ [⟨4, [], [], K⟩])) := by show _ = _; rw [← HX.out]; rfl
        rw [hn0, Nat.sub_zero] at c1
        have HBg := HS.out.begin K
        have HSb := Lib.hid HBg.1
        have HBb := Lib.hid (HBe.out.trans HBg.2)
        have hlen := HOk.out.len
        clear HBg
        go_wp2_with fail
        clear c0 c1 c2 c3 c4 f0 f1 f2 f3 f4
        refine (put_calls _ _ _ K K l [] [] vl _ HSb.out 4 [] (by simp at hlen; omega)).mono ?_
        rintro r w2 ⟨rfl, hb2, vl2, hs2⟩
        have HS2 := Lib.hid hs2
        have HB2 := Lib.hid (HBb.out.trans hb2)
        obtain ⟨⟨c0, c1, c2, c3, c4⟩, f0, f1, f2, f3, f4⟩ := rd_cells hs2.rd.box
        obtain ⟨a9, q9, hv9, _⟩ := ownsRow_slice hs2.toks
        subst hv9
        have hp2 : w2.heap[N]? = some (.cells #[.slice none 0 0] tsT) := (HB2.out.block N (by omega)).trans HP.out
        have hq2 : w2.heap[N + 1]? = some (.cells #[.int .i64 0] enT) := (HB2.out.block (N + 1) (by omega)).trans HQ.out
        have hr2 : w2.heap[N + 1 + 1]? = some (.cells #[.int .i64 0] inT) := (HB2.out.block (N + 1 + 1) (by omega)).trans HR.out
        have m0 := (cell_of hp2).1
        have m1 := (cell_of hq2).1
        have m2 := (cell_of hr2).1
        have n0 := (cell_of hp2).2
        have n1 := (cell_of hq2).2
        have n2 := (cell_of hr2).2
        have hc0 : Caught w2 w2 N (N + 1) (N + 1 + 1) (.slice none 0 0) (.int .i64 0) (.int .i64 0) := ⟨hp2, hq2, hr2, rfl, rfl, rfl, rfl, fun _ _ _ _ _ => rfl⟩
        have HC := Lib.hid (((hc0.setp (.slice a9 (l ++ [(⟨4, [], [], K⟩ : Tok)]).length q9)).setq (.int .i64 0)).setr (.int .i64 0))
        have e01 : ¬ N + 1 = N := by omega
        have e02 : ¬ N + 1 + 1 = N := by omega
        have e12 : ¬ N + 1 + 1 = N + 1 := by omega
        obtain ⟨L2, hL2⟩ : ∃ L2, (l ++ [(⟨4, [], [], K⟩ : Tok)]).length = L2 := ⟨_, rfl⟩
        have HL2 := Lib.hid hL2
        rw [hL2] at c3 HC
        clear hb2 hs2 hp2 hq2 hr2 hc0 hL2
        go_wp2_with fail
        refine leaves_cons (f := 19) (args := #[.pointer (some ⟨N, 0, none⟩), .pointer (some ⟨N + 1, 0, none⟩), .pointer (some ⟨N + 1 + 1, 0, none⟩)]) (by simp) (by simp [go_sem]) ?_
        refine (catch_idle N (N + 1) (N + 1 + 1) _).mono ?_
        rintro r u' w3 ⟨rfl, rfl, hw3⟩
        have HC3 : Hid (Caught w2 w3 N (N + 1) (N + 1 + 1) (.slice a9 L2 q9) (.int .i64 0) (.int .i64 0)) := by show Caught _ _ _ _ _ _ _ _; rw [hw3]; exact HC.out
        clear hw3 m0 m1 m2 n0 n1 n2 c0 c1 c2 c3 c4 f0 f1 f2 f3 f4
        have k0 := (cell_of HC3.out.hp).1
        have k1 := (cell_of HC3.out.hq).1
        have k2 := (cell_of HC3.out.hr).1
        have hb3 : Below N w2 w3 := HC3.out.below (Nat.le_refl _) (by omega) (by omega) (by have := HB2.out.size; rw [HZ.out] at this; omega)
        have HF : Hid (AllPost W (allM s) (.returned (.tuple #[.slice a9 L2 q9, .int .i64 0, .int .i64 0])) w3) := by
          show AllPost _ _ _ _
          rw [HE.out]
          have h0 : Below N W w1 := by rw [← HN.out]; exact HB.out
          refine ⟨by rw [HN.out]; exact (h0.trans (HB2.out.mono (by omega))).trans hb3, _, rfl, ?_⟩
          rw [HN.out]
          have h5 := ownsRow_mono HS2.out.toks (base' := N) (by omega)
          have h6 := HS2.out.toks
          rw [HL2.out] at h5 h6 ⊢
          refine own_keep h5 (fun j X hj hX => HC3.out.block j (Array.getElem?_eq_some_iff.1 hX).1 ?_ ?_ ?_)
          · intro e; have := (h6.lt j hj).1; omega
          · intro e; have := (h6.lt j hj).1; omega
          · intro e; have := (h6.lt j hj).1; omega
        clear hb3
        simp [Leaves, settle, results, Tryz.results11, go_sem, k0, k1, k2]
        exact HF.out
      · have HE : Hid (allM s = .error (20, lastLn l)) := by show _ = _; rw [← HX.out, allS_end, if_neg hh0]
        obtain ⟨i, hi⟩ := List.exists_mem_of_ne_nil _ hh0
        have hlne : l ≠ [] := fun e => by have := HOk.out.idx i hi; rw [e] at this; simp at this
        have hpos : 0 < hh.length := List.length_pos_iff.2 hh0
        obtain ⟨L, hL⟩ : ∃ L, hh.length = L := ⟨_, rfl⟩
        rw [hL] at c4 hpos
        have a1 : decide ((0 : Int) < (L : Int)) = true := decide_eq_true (by omega)
        have a2 : (0 : Int) < (L : Int) := by omega
        obtain ⟨l', t, rfl⟩ := last_split hlne
        obtain ⟨T, hT⟩ : ∃ T, (l' ++ [t]).length = T := ⟨_, rfl⟩
        obtain ⟨a5, q5, hv5, b5, z5, d0, d1, d3, hix⟩ := last_at hT HS.out.toks
        subst hv5
        have HD3 := Lib.hid d3
        have HIx := Lib.hid hix
        have hT1 : 1 ≤ T := by rw [← hT]; simp
        have hT2 : T ≤ 5000 := by rw [← hT]; have := HOk.out.len; omega
        have HBg := HS.out.begin t.ln
        have HSb := Lib.hid HBg.1
        have HBb := Lib.hid (HBe.out.trans HBg.2)
        rw [lastLn_app] at HE
        clear d0 d1 d3 hix hi hlne hh0 hT HBg
        go_upto_region 8 with fail
        refine Rg.wp_region_rgt 14 [] [Rg.Is (.pointer (some ⟨N + 1 + 1 + 1, 0, none⟩)), Rg.Is (.pointer (some ⟨N + 1 + 1 + 1, 0, none⟩)), Rg.Is (.pointer (some ⟨N + 1 + 1 + 1, 0, none⟩)), Rg.Is (.pointer (some ⟨N + 1 + 1 + 1, 3, none⟩)), Rg.Is (.slice a5 T q5), Rg.Is (.pointer (some ⟨N + 1 + 1 + 1, 0, none⟩)), Rg.Is (.pointer (some ⟨N + 1 + 1 + 1, 0, none⟩)), Rg.Is (.pointer (some ⟨N + 1 + 1 + 1, 3, none⟩)), Rg.Is (.slice a5 T q5), Rg.Is (.int .i64 (T : Int)), Rg.Is (.int .i64 ((T : Int) - 1)), Rg.Is (.pointer (some ⟨b5, z5, none⟩)), Rg.Is (.pointer (some ⟨b5, z5 + 3, none⟩)), Rg.Is (.int .i64 (t.ln : Int))] (by kernel_rfl) (by kernel_rfl) (of_decide_eq_true (by kernel_rfl)) (by kernel_rfl) (by kernel_rfl) ⟨Rg.st_is _, Rg.st_is _, Rg.st_is _, Rg.st_is _, Rg.st_is _, Rg.st_is _, Rg.st_is _, Rg.st_is _, Rg.st_is _, Rg.st_is _, Rg.st_is _, Rg.st_is _, Rg.st_is _, Rg.st_is _, trivial⟩ ⟨rfl, rfl, rfl, rfl, rfl, rfl, rfl, rfl, rfl, rfl, rfl, rfl, rfl, rfl, trivial⟩ ⟨?_, ?_, ?_, ?_, ?_, ?_, ?_, ?_, ?_, ?_, ?_, ?_, ?_, ?_, trivial⟩ ?_
        · intro _ a wx hb hk
          have h5 : a.eval (.tmp 5) = .pointer (some ⟨N + 1 + 1 + 1, 0, none⟩) := Eq.mp (by kernel_rfl) (hk 5 (by decide))
          exact Rg.does_move ⟨Below.refl _ _, h5⟩
        · intro _ a wx hb hk
          have h5 : a.eval (.tmp 5) = .pointer (some ⟨N + 1 + 1 + 1, 0, none⟩) := Eq.mp (by kernel_rfl) (hk 5 (by decide))
          exact Rg.does_move ⟨Below.refl _ _, h5⟩
        · intro _ a wx hb hk
          have h27 : a.eval (.tmp 27) = .pointer (some ⟨N + 1 + 1 + 1, 0, none⟩) := Eq.mp (by kernel_rfl) (hk 27 (by decide))
          exact Ap.does_nil _ h27 ⟨Below.refl _ _, rfl⟩
        · intro _ a wx hb hk
          have h28 : a.eval (.tmp 28) = .pointer (some ⟨N + 1 + 1 + 1, 0, none⟩) := Eq.mp (by kernel_rfl) (hk 28 (by decide))
          exact Rs.does_field _ _ h28 (fld_rd (N + 1 + 1 + 1) 0 3 (by decide) wx) ⟨Below.refl _ _, rfl⟩
        · intro _ a wx hb hk
          have h29 : a.eval (.tmp 29) = .pointer (some ⟨N + 1 + 1 + 1, 3, none⟩) := Eq.mp (by kernel_rfl) (hk 29 (by decide))
          exact Rg.does_load _ _ h29 (load_toks (rd_cells (HS.out.rd.below hb).box).1.2.2.2.1) ⟨Below.refl _ _, rfl⟩
        · intro _ a wx hb hk
          have h5 : a.eval (.tmp 5) = .pointer (some ⟨N + 1 + 1 + 1, 0, none⟩) := Eq.mp (by kernel_rfl) (hk 5 (by decide))
          exact Rg.does_move ⟨Below.refl _ _, h5⟩
        · intro _ a wx hb hk
          have h31 : a.eval (.tmp 31) = .pointer (some ⟨N + 1 + 1 + 1, 0, none⟩) := Eq.mp (by kernel_rfl) (hk 31 (by decide))
          exact Ap.does_nil _ h31 ⟨Below.refl _ _, rfl⟩
        · intro _ a wx hb hk
          have h32 : a.eval (.tmp 32) = .pointer (some ⟨N + 1 + 1 + 1, 0, none⟩) := Eq.mp (by kernel_rfl) (hk 32 (by decide))
          exact Rs.does_field _ _ h32 (fld_rd (N + 1 + 1 + 1) 0 3 (by decide) wx) ⟨Below.refl _ _, rfl⟩
        · intro _ a wx hb hk
          have h33 : a.eval (.tmp 33) = .pointer (some ⟨N + 1 + 1 + 1, 3, none⟩) := Eq.mp (by kernel_rfl) (hk 33 (by decide))
          exact Rg.does_load _ _ h33 (load_toks (rd_cells (HS.out.rd.below hb).box).1.2.2.2.1) ⟨Below.refl _ _, rfl⟩
        · intro _ a wx hb hk
          have h34 : a.eval (.tmp 34) = .slice a5 T q5 := Eq.mp (by kernel_rfl) (hk 34 (by decide))
          exact Rg.does_len _ _ _ Tryz.underlying39 h34 ⟨Below.refl _ _, rfl⟩
        · intro _ a wx hb hk
          have h35 : a.eval (.tmp 35) = .int .i64 (T : Int) := Eq.mp (by kernel_rfl) (hk 35 (by decide))
          exact Rg.does_bin _ _ _ _ h35 rfl (Sw.run_minus (by omega) (by omega)) ⟨Below.refl _ _, rfl⟩
        · intro _ a wx hb hk
          have h30 : a.eval (.tmp 30) = .slice a5 T q5 := Eq.mp (by kernel_rfl) (hk 30 (by decide))
          have h36 : a.eval (.tmp 36) = .int .i64 ((T : Int) - 1) := Eq.mp (by kernel_rfl) (hk 36 (by decide))
          exact Rg.does_index _ _ _ h30 h36 (HIx.out wx) ⟨Below.refl _ _, rfl⟩
        · intro _ a wx hb hk
          have h37 : a.eval (.tmp 37) = .pointer (some ⟨b5, z5, none⟩) := Eq.mp (by kernel_rfl) (hk 37 (by decide))
          exact Rs.does_field _ _ h37 (fld_tk3 b5 z5 wx) ⟨Below.refl _ _, rfl⟩
        · intro _ a wx hb hk
          have h38 : a.eval (.tmp 38) = .pointer (some ⟨b5, z5 + 3, none⟩) := Eq.mp (by kernel_rfl) (hk 38 (by decide))
          exact Rg.does_load _ _ h38 (load_int1 (cell_below hb (Nat.le_refl _) HD3.out)) ⟨Below.refl _ _, rfl⟩
        intro vals wD hbD hL
        obtain ⟨g0, g1, g2, g3, g4, g5, g6, g7, g8, g9, g10, g11, g12, g13, _⟩ := hL
        have e0 : vals 0 = .pointer (some ⟨N + 1 + 1 + 1, 0, none⟩) := g0
        have e13 : vals 13 = .int .i64 (t.ln : Int) := g13
        simp only [Rg.putAll, List.take_succ_cons, List.take_zero, List.drop_succ_cons, List.drop_zero, List.setIfInBounds_toArray, List.set_cons_succ, List.set_cons_zero, e0, e13]
        have HSD := (HS.out.below hbD).begin t.ln
        have HSb2 := Lib.hid HSD.1
        have HB2 : Hid (Below (N + 1 + 1 + 1) w1 (wD.setCell ⟨N + 1 + 1 + 1, 2, none⟩ (.int .i64 (t.ln : Int)))) := (HBe.out.trans (hbD.mono HS.out.size)).trans HSD.2
        obtain ⟨⟨c0, c1, c2, c3, c4⟩, f0, f1, f2, f3, f4⟩ := rd_cells (HS.out.rd.below hbD).box
        clear g0 g1 g2 g3 g4 g5 g6 g7 g8 g9 g10 g11 g12 g13 e0 e13 hbD HSD HSb HBb
        go_wp2_with fail
        obtain ⟨w2, hw2⟩ : ∃ w2, wD.setCell ⟨N + 1 + 1 + 1, 2, none⟩ (.int .i64 (t.ln : Int)) = w2 := ⟨_, rfl⟩
        rw [hw2] at HSb2 HB2 ⊢
        clear hw2
        refine (fail_calls w2 _ [] K t.ln _ _ HSb2.out.rd 20).mono ?_
        rintro r w9 ⟨rfl, hw9⟩
        obtain rfl := hw9.symm
        have hp2 : w2.heap[N]? = some (.cells #[.slice none 0 0] tsT) := (HB2.out.block N (by omega)).trans HP.out
        have hq2 : w2.heap[N + 1]? = some (.cells #[.int .i64 0] enT) := (HB2.out.block (N + 1) (by omega)).trans HQ.out
        have hr2 : w2.heap[N + 1 + 1]? = some (.cells #[.int .i64 0] inT) := (HB2.out.block (N + 1 + 1) (by omega)).trans HR.out
        refine leaves_cons (f := 19) (args := #[.pointer (some ⟨N, 0, none⟩), .pointer (some ⟨N + 1, 0, none⟩), .pointer (some ⟨N + 1 + 1, 0, none⟩)]) (by simp) (by simp [go_sem]) ?_
        refine (catch_panic N (N + 1) (N + 1 + 1) _ _ _ 20 t.ln [] w2 hp2 hq2 hr2).mono ?_
        rintro r u' w3 ⟨rfl, rfl, hc⟩
        have k0 := (cell_of hc.hp).1
        have k1 := (cell_of hc.hq).1
        have k2 := (cell_of hc.hr).1
        have hb3 : Below N w2 w3 := hc.below (Nat.le_refl _) (by omega) (by omega) (by have := HB2.out.size; rw [HZ.out] at this; omega)
        have HF : Hid (AllPost W (allM s) (.returned (.tuple #[.slice none 0 0, .int .i64 20, .int .i64 ((t.ln : Nat) : Int)])) w3) := by
          show AllPost _ _ _ _
          rw [HE.out]
          refine ⟨?_, rfl⟩
          rw [HN.out]
          have h0 : Below N W w1 := by rw [← HN.out]; exact HB.out
          exact (h0.trans (HB2.out.mono (by omega))).trans hb3
        clear hc hb3 hp2 hq2 hr2
        simp [Leaves, settle, results, Tryz.results11, go_sem, k0, k1, k2]
        exact HF.out
end Go.Proofs.YtiklkhbfilbpeaaGreatDoor
