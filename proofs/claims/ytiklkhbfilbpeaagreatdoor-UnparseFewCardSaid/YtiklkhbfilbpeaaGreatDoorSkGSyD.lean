/-
  Syntax: a node of the call's own, whose rows grow, beside the reader. Conditions: as each law says.
  Syntax: what a contract of the tree's functions is; what is known of what stands within. Conditions: as each law says.
  Syntax: a list. Conditions: as the contract says.
  Syntax: a simple command. Conditions: as the contract says.
  Syntax: redirections. Conditions: as the contract says.
  Syntax: a command. Conditions: as the contract says.
-/
import Derived.Test.YtiklkhbfilbpeaaGreatDoorSkGSyC
import Derived.Test.YtiklkhbfilbpeaaGreatDoorSkRegionP
import Derived.Test.YtiklkhbfilbpeaaGreatDoorSkGSyA
set_option linter.unusedVariables false
set_option linter.unusedSimpArgs false
set_option maxRecDepth 100000
namespace Go.Proofs.YtiklkhbfilbpeaaGreatDoor.Sx
open Go.RowKit Base Lx Sy
abbrev ndA (n : Nd) (uw ur uk : Value) : Array Value := #[.int .i64 (n.k : Int), .string (str n.t), .bool n.fl, uw, .int .i64 (n.st : Int), ur, uk, .int .i64 (n.ln : Int)]
abbrev offP (P : Nat → Prop) (N : Nat) (uw ur uk : Value) : Nat → Prop := fun g => P g ∧ g ≠ N ∧ notOwn uw ur uk g
/-- A node in box N, its rows new. -/
structure Mid (W0 : World) (v0 : Value) (W : World) (b B : Nat) (P : Nat → Prop) (v : Value) (s : S) (d N : Nat) (n : Nd) (uw ur uk : Value) : Prop where
  bx : Box W0 v0 W b B (offP P N uw ur uk) v s d N (ndA n uw ur uk) ndT
  rows : Rows W (fun g => W0.heap.size ≤ g) n uw ur uk
/-- A row is longer already, its cell is as it was. -/
structure MidA (W0 : World) (v0 : Value) (W : World) (b B : Nat) (P : Nat → Prop) (v : Value) (s : S) (d N : Nat) (n n' : Nd) (uw ur uk uw' ur' uk' : Value) : Prop where
  bx : Box W0 v0 W b B (offP P N uw' ur' uk') v s d N (ndA n uw ur uk) ndT
  rows : Rows W (fun g => W0.heap.size ≤ g) n' uw' ur' uk'
section
variable {W0 W W' : World} {b B : Nat} {P : Nat → Prop} {v0 v v' : Value} {s s' : S} {d N : Nat} {n n' : Nd} {uw ur uk uw' ur' uk' u : Value}
theorem Box.less {P' : Nat → Prop} {X : Array Value} {t : TypeId} (h : Box W0 v0 W b B P v s d N X t) (hq : ∀ g, P g → g < W.heap.size → P' g) (hN : ¬ P' N) : Box W0 v0 W b B P' v s d N X t := ⟨h.rd.less hq, h.turn, h.box, h.new, h.old, hN, h.own⟩
theorem Mid.lt (h : Mid W0 v0 W b B P v s d N n uw ur uk) : N < W.heap.size := h.bx.lt
theorem Mid.size (h : Mid W0 v0 W b B P v s d N n uw ur uk) : W0.heap.size ≤ W.heap.size := h.bx.turn.size
theorem Mid.below (h : Mid W0 v0 W b B P v s d N n uw ur uk) (hb : Below W.heap.size W W') : Mid W0 v0 W' b B P v s d N n uw ur uk := ⟨h.bx.below hb, h.rows.below hb⟩
theorem Turn.keep {Q : Nat → Prop} (ht : Turn b v W v' W') (hr : Rd W b B P v s d) (h : Rows W Q n uw ur uk) : Rows W' Q n uw ur uk :=
  h.keep (fun g X t _ hX hT => by
    have hl := (Array.getElem?_eq_some_iff.1 hX).1
    refine ht.block g hl (fun e => ?_) (fun e => ?_)
    · subst e
      obtain ⟨u, hbx, _⟩ := hr.box
      rw [hbx] at hX
      injection hX with hX
      injection hX with _ hT2 _
      rw [← hT2] at hT
      exact rowT_no.2.1 hT
    · exact hr.own_ne hX (fun e => by rw [e] at hT; exact rowT_no.1 hT) e)
theorem Mid.step (h : Mid W0 v0 W b B P v s d N n uw ur uk) (ht : Turn b v W v' W') (hr : Rd W' b B (offP P N uw ur uk) v' s' d) : Mid W0 v0 W' b B P v' s' d N n uw ur uk :=
  ⟨h.bx.step ht hr, ht.keep h.bx.rd h.rows⟩
theorem Mid.start (h : Rd W b B P v s d) (n : Nd) (h1 : n.ws = []) (h2 : n.rs = []) (h3 : n.ks = []) : ∃ w1, W.alloc (.cells (ndA n (.slice none 0 0) (.slice none 0 0) (.slice none 0 0)) ndT) = w1 ∧ Mid W v w1 b B P v s d W.heap.size n (.slice none 0 0) (.slice none 0 0) (.slice none 0 0) ∧ Below W.heap.size W w1 := by
  obtain ⟨w1, hw, hb⟩ := Box.start h (ndA n (.slice none 0 0) (.slice none 0 0) (.slice none 0 0)) ndT
  refine ⟨w1, hw, ⟨hb.less (fun g hg _ => ⟨hg.1, hg.2, fun e => (by cases e), fun e => (by cases e), fun e => (by cases e)⟩) (fun hh => hh.2.1 rfl), rows_nil w1 _ n h1 h2 h3⟩, ?_⟩
  rw [← hw]
  exact (Below.refl _ _).alloc (Nat.le_refl _) _
/-- One cell of the node is another one; its rows are as they were. -/
theorem Mid.set (h : Mid W0 v0 W b B P v s d N n uw ur uk) (i : Nat) (x : Value) (n' : Nd) (he : (ndA n uw ur uk).setIfInBounds i x = ndA n' uw ur uk) (h1 : n'.ws = n.ws) (h2 : n'.rs = n.rs) (h3 : n'.ks = n.ks) : ∃ w', W.setCell ⟨N, i, none⟩ x = w' ∧ Mid W0 v0 w' b B P v s d N n' uw ur uk := by
  obtain ⟨w2, hw, hx, hg, _⟩ := set1 W N i ndT x _ h.bx.box
  rw [he] at hx
  refine ⟨w2, hw, h.bx.grown hg hx, ?_⟩
  have hr : Rows w2 (fun g => W0.heap.size ≤ g) n uw ur uk := h.rows.keep (fun g X t _ hX hT => hg.block g (Array.getElem?_eq_some_iff.1 hX).1 (fun e => by
    obtain rfl := Option.some.inj e
    rw [h.bx.box] at hX
    injection hX with hX
    injection hX with _ hT2 _
    rw [← hT2] at hT
    exact rowT_no.1 hT))
  exact ⟨by rw [h1]; exact hr.w, by rw [h2]; exact hr.r, by rw [h3]; exact hr.k, hr.qw, hr.qr, hr.qk⟩
theorem MidA.set (h : MidA W0 v0 W b B P v s d N n n' uw ur uk uw' ur' uk') (i : Nat) (x : Value) (he : (ndA n uw ur uk).setIfInBounds i x = ndA n' uw' ur' uk') : ∃ w', W.setCell ⟨N, i, none⟩ x = w' ∧ Mid W0 v0 w' b B P v s d N n' uw' ur' uk' := by
  obtain ⟨w2, hw, hx, hg, _⟩ := set1 W N i ndT x _ h.bx.box
  rw [he] at hx
  refine ⟨w2, hw, h.bx.grown hg hx, ?_⟩
  exact h.rows.keep (fun g X t _ hX hT => hg.block g (Array.getElem?_eq_some_iff.1 hX).1 (fun e => by
    obtain rfl := Option.some.inj e
    rw [h.bx.box] at hX
    injection hX with hX
    injection hX with _ hT2 _
    rw [← hT2] at hT
    exact rowT_no.1 hT))
theorem own_at {w : World} {base : Nat} {e : TypeId} {k m : Nat} {x : Value} {xs : List Value} (h : w.ownsRow base e k x m xs) {g : Nat} (hg : x.ownBlock = some g) : ∃ X, w.heap[g]? = some (.cells X e) := by
  rcases h.2 with ⟨rfl, _⟩ | ⟨q, cap, cur, rfl, _, h3, _⟩
  · cases hg
  · obtain rfl := Option.some.inj hg
    exact ⟨_, h3⟩
theorem cells_inj {w : World} {g : Nat} {X Y : Array Value} {s t : TypeId} (h1 : w.heap[g]? = some (.cells X s)) (h2 : w.heap[g]? = some (.cells Y t)) : s = t := by
  rw [h1] at h2
  injection h2 with h2
  injection h2
/-- Which rows are apart. -/
theorem Mid.apart (h : Mid W0 v0 W b B P v s d N n uw ur uk) : (∀ g, uw.ownBlock = some g → ur.ownBlock ≠ some g ∧ uk.ownBlock ≠ some g) ∧ (∀ g, ur.ownBlock = some g → uk.ownBlock ≠ some g) := by
  refine ⟨fun g hg => ⟨fun e => ?_, fun e => ?_⟩, fun g hg e => ?_⟩
  · obtain ⟨X, hX⟩ := own_at h.rows.w hg
    obtain ⟨Y, hY⟩ := own_at h.rows.r e
    exact absurd (cells_inj hX hY) (by decide)
  · obtain ⟨X, hX⟩ := own_at h.rows.w hg
    obtain ⟨Y, hY⟩ := own_at h.rows.k e
    exact absurd (cells_inj hX hY) (by decide)
  · obtain ⟨X, hX⟩ := own_at h.rows.r hg
    obtain ⟨Y, hY⟩ := own_at h.rows.k e
    exact absurd (cells_inj hX hY) (by decide)
theorem Mid.rowB (h : Mid W0 v0 W b B P v s d N n uw ur uk) {x : Value} {e : TypeId} {k m : Nat} {xs : List Value} (hx : W.ownsRow 0 e k x m xs) (hT : rowT e) (hq : ∀ g, x.ownBlock = some g → W0.heap.size ≤ g) {g : Nat} (hg : x.ownBlock = some g) : B ≤ g ∧ g ≠ b ∧ v.ownBlock ≠ some g ∧ g ≠ N := by
  have h1 := hq g hg
  have h2 := h.bx.old
  have h3 := h.bx.rd.bB
  obtain ⟨X, hX⟩ := own_at hx hg
  refine ⟨by omega, by omega, h.bx.rd.own_ne hX (fun e' => by rw [e'] at hT; exact rowT_no.1 hT), fun e' => ?_⟩
  subst e'
  exact absurd (cells_inj hX h.bx.box) (fun e' => by rw [e'] at hT; exact rowT_no.1 hT)
/-- A row is longer. -/
theorem Mid.app_w (h : Mid W0 v0 W b B P v s d N n uw ur uk) (x : Nm) (hg : W.grownBy W' uw.ownBlock) (ho : W'.ownsRow 0 stT 1 u (n.ws.length + 1) (n.ws.map sv ++ [sv x])) (hat : ∀ g, u.ownBlock = some g → g < W.heap.size → uw.ownBlock = some g) : MidA W0 v0 W' b B P v s d N n { n with ws := n.ws ++ [x] } uw ur uk u ur uk := by
  have hB : ∀ g, uw.ownBlock = some g → B ≤ g ∧ g ≠ b ∧ v.ownBlock ≠ some g ∧ g ≠ N := fun g hg => h.rowB h.rows.w (by unfold rowT; decide) h.rows.qw hg
  have hrd : Rd W' b B (fun g => offP P N uw ur uk g ∧ g < W.heap.size) v s d := (h.bx.rd.less (fun g hp hl => ⟨hp, hl⟩)).turn hg (fun g e _ => ⟨(hB g e).1, (hB g e).2.1, (hB g e).2.2.1, fun hP => absurd e hP.1.2.2.1⟩)
  have hu : ∀ g, u.ownBlock = some g → W0.heap.size ≤ g := fun g hg2 => by
    by_cases hl : g < W.heap.size
    · exact h.rows.qw g (hat g hg2 hl)
    · have := h.size; omega
  have hN := (hg.block N h.lt (fun e => (hB N e.symm).2.2.2 rfl)).trans h.bx.box
  have hne : ∀ g, (offP P N uw ur uk g ∧ g < W.heap.size) → u.ownBlock ≠ some g := fun g hp e => hp.1.2.2.1 (hat g e hp.2)
  refine ⟨⟨hrd.less (fun g hp _ => ⟨hp.1.1, hp.1.2.1, hne g hp, hp.1.2.2.2.1, hp.1.2.2.2.2⟩), Turn.grown h.bx.turn hg (fun g e => h.rows.qw g e), hN, h.bx.new, h.bx.old, fun hh => hh.2.1 rfl, h.bx.own⟩, ?_⟩
  have hlen : (n.ws ++ [x]).length = n.ws.length + 1 := by simp
  refine ⟨by rw [hlen, List.map_append]; exact ho, own_keep h.rows.r (fun g X hg2 hX => hg.block g (Array.getElem?_eq_some_iff.1 hX).1 (fun e => (fun e => (h.apart.1 g e).1 hg2) e.symm)), own_keep h.rows.k (fun g X hg2 hX => hg.block g (Array.getElem?_eq_some_iff.1 hX).1 (fun e => (fun e => (h.apart.1 g e).2 hg2) e.symm)), hu, h.rows.qr, h.rows.qk⟩
/-- A new row of one element is laid, and is the node's. -/
theorem Mid.new_w (h : Mid W0 v0 W b B P v s d N n uw ur uk) (x : Nm) : ∃ w1 w2, W.alloc (.cells #[sv x] stT) = w1 ∧ w1.setCell ⟨N, 3, none⟩ (.slice (some ⟨W.heap.size, 0, none⟩) 1 1) = w2 ∧ w1.heap[N]? = some (.cells (ndA n uw ur uk) ndT) ∧ Mid W0 v0 w2 b B P v s d N { n with ws := [x] } (.slice (some ⟨W.heap.size, 0, none⟩) 1 1) ur uk := by
  have hal := (Below.refl W.heap.size W).alloc (Nat.le_refl _) (.cells #[sv x] stT)
  have h1 := h.below hal
  have hnew : (W.alloc (.cells #[sv x] stT)).ownsRow 0 stT 1 (.slice (some ⟨W.heap.size, 0, none⟩) 1 1) 1 ([sv x]) := ⟨rfl, .inr ⟨_, 1, _, rfl, Nat.zero_le _, heap_alloc_new W _, Nat.le_refl _, by unfold maxLen; decide, rfl, rfl⟩⟩
  have hA : MidA W0 v0 (W.alloc (.cells #[sv x] stT)) b B P v s d N n { n with ws := [x] } uw ur uk (.slice (some ⟨W.heap.size, 0, none⟩) 1 1) ur uk := by
    refine ⟨(h.bx.less (P' := fun g => offP P N uw ur uk g ∧ g < W.heap.size) (fun g hp hl => ⟨hp, hl⟩) (fun hh => hh.1.2.1 rfl)).below hal |>.less (fun g hp _ => ⟨hp.1.1, hp.1.2.1, fun e => absurd (Option.some.inj e) (Nat.ne_of_gt hp.2), hp.1.2.2.2.1, hp.1.2.2.2.2⟩) (fun hh => hh.2.1 rfl), ?_⟩
    exact ⟨hnew, h1.rows.r, h1.rows.k, fun g e => by obtain rfl := Option.some.inj e; exact h.size, h1.rows.qr, h1.rows.qk⟩
  obtain ⟨w2, hw2, hm⟩ := hA.set 3 (.slice (some ⟨W.heap.size, 0, none⟩) 1 1) rfl
  exact ⟨_, w2, rfl, hw2, h1.bx.box, hm⟩
/-- A row is longer. -/
theorem Mid.app_r (h : Mid W0 v0 W b B P v s d N n uw ur uk) (x : Rdr) (hg : W.grownBy W' ur.ownBlock) (ho : W'.ownsRow 0 rrT 4 u (n.rs.length + 1) (n.rs.flatMap rrC ++ rrC x)) (hat : ∀ g, u.ownBlock = some g → g < W.heap.size → ur.ownBlock = some g) : MidA W0 v0 W' b B P v s d N n { n with rs := n.rs ++ [x] } uw ur uk uw u uk := by
  have hB : ∀ g, ur.ownBlock = some g → B ≤ g ∧ g ≠ b ∧ v.ownBlock ≠ some g ∧ g ≠ N := fun g hg => h.rowB h.rows.r (by unfold rowT; decide) h.rows.qr hg
  have hrd : Rd W' b B (fun g => offP P N uw ur uk g ∧ g < W.heap.size) v s d := (h.bx.rd.less (fun g hp hl => ⟨hp, hl⟩)).turn hg (fun g e _ => ⟨(hB g e).1, (hB g e).2.1, (hB g e).2.2.1, fun hP => absurd e hP.1.2.2.2.1⟩)
  have hu : ∀ g, u.ownBlock = some g → W0.heap.size ≤ g := fun g hg2 => by
    by_cases hl : g < W.heap.size
    · exact h.rows.qr g (hat g hg2 hl)
    · have := h.size; omega
  have hN := (hg.block N h.lt (fun e => (hB N e.symm).2.2.2 rfl)).trans h.bx.box
  have hne : ∀ g, (offP P N uw ur uk g ∧ g < W.heap.size) → u.ownBlock ≠ some g := fun g hp e => hp.1.2.2.2.1 (hat g e hp.2)
  refine ⟨⟨hrd.less (fun g hp _ => ⟨hp.1.1, hp.1.2.1, hp.1.2.2.1, hne g hp, hp.1.2.2.2.2⟩), Turn.grown h.bx.turn hg (fun g e => h.rows.qr g e), hN, h.bx.new, h.bx.old, fun hh => hh.2.1 rfl, h.bx.own⟩, ?_⟩
  have hlen : (n.rs ++ [x]).length = n.rs.length + 1 := by simp
  refine ⟨own_keep h.rows.w (fun g X hg2 hX => hg.block g (Array.getElem?_eq_some_iff.1 hX).1 (fun e => ((h.apart.1 g hg2).1) e.symm)), by rw [hlen, show (n.rs ++ [x]).flatMap rrC = n.rs.flatMap rrC ++ rrC x by simp]; exact ho, own_keep h.rows.k (fun g X hg2 hX => hg.block g (Array.getElem?_eq_some_iff.1 hX).1 (fun e => (fun e => h.apart.2 g e hg2) e.symm)), h.rows.qw, hu, h.rows.qk⟩
/-- A row is longer. -/
theorem Mid.app_k (h : Mid W0 v0 W b B P v s d N n uw ur uk) (x : Nat) (hg : W.grownBy W' uk.ownBlock) (ho : W'.ownsRow 0 inT 1 u (n.ks.length + 1) (n.ks.map iv ++ [iv x])) (hat : ∀ g, u.ownBlock = some g → g < W.heap.size → uk.ownBlock = some g) : MidA W0 v0 W' b B P v s d N n { n with ks := n.ks ++ [x] } uw ur uk uw ur u := by
  have hB : ∀ g, uk.ownBlock = some g → B ≤ g ∧ g ≠ b ∧ v.ownBlock ≠ some g ∧ g ≠ N := fun g hg => h.rowB h.rows.k (by unfold rowT; decide) h.rows.qk hg
  have hrd : Rd W' b B (fun g => offP P N uw ur uk g ∧ g < W.heap.size) v s d := (h.bx.rd.less (fun g hp hl => ⟨hp, hl⟩)).turn hg (fun g e _ => ⟨(hB g e).1, (hB g e).2.1, (hB g e).2.2.1, fun hP => absurd e hP.1.2.2.2.2⟩)
  have hu : ∀ g, u.ownBlock = some g → W0.heap.size ≤ g := fun g hg2 => by
    by_cases hl : g < W.heap.size
    · exact h.rows.qk g (hat g hg2 hl)
    · have := h.size; omega
  have hN := (hg.block N h.lt (fun e => (hB N e.symm).2.2.2 rfl)).trans h.bx.box
  have hne : ∀ g, (offP P N uw ur uk g ∧ g < W.heap.size) → u.ownBlock ≠ some g := fun g hp e => hp.1.2.2.2.2 (hat g e hp.2)
  refine ⟨⟨hrd.less (fun g hp _ => ⟨hp.1.1, hp.1.2.1, hp.1.2.2.1, hp.1.2.2.2.1, hne g hp⟩), Turn.grown h.bx.turn hg (fun g e => h.rows.qk g e), hN, h.bx.new, h.bx.old, fun hh => hh.2.1 rfl, h.bx.own⟩, ?_⟩
  have hlen : (n.ks ++ [x]).length = n.ks.length + 1 := by simp
  refine ⟨own_keep h.rows.w (fun g X hg2 hX => hg.block g (Array.getElem?_eq_some_iff.1 hX).1 (fun e => ((h.apart.1 g hg2).2) e.symm)), own_keep h.rows.r (fun g X hg2 hX => hg.block g (Array.getElem?_eq_some_iff.1 hX).1 (fun e => (h.apart.2 g hg2) e.symm)), by rw [hlen, List.map_append]; exact ho, h.rows.qw, h.rows.qr, hu⟩
/-- A new row of one element is laid, and is the node's. -/
theorem Mid.new_k (h : Mid W0 v0 W b B P v s d N n uw ur uk) (x : Nat) : ∃ w1 w2, W.alloc (.cells #[iv x] inT) = w1 ∧ w1.setCell ⟨N, 6, none⟩ (.slice (some ⟨W.heap.size, 0, none⟩) 1 1) = w2 ∧ w1.heap[N]? = some (.cells (ndA n uw ur uk) ndT) ∧ Mid W0 v0 w2 b B P v s d N { n with ks := [x] } uw ur (.slice (some ⟨W.heap.size, 0, none⟩) 1 1) := by
  have hal := (Below.refl W.heap.size W).alloc (Nat.le_refl _) (.cells #[iv x] inT)
  have h1 := h.below hal
  have hnew : (W.alloc (.cells #[iv x] inT)).ownsRow 0 inT 1 (.slice (some ⟨W.heap.size, 0, none⟩) 1 1) 1 ([iv x]) := ⟨rfl, .inr ⟨_, 1, _, rfl, Nat.zero_le _, heap_alloc_new W _, Nat.le_refl _, by unfold maxLen; decide, rfl, rfl⟩⟩
  have hA : MidA W0 v0 (W.alloc (.cells #[iv x] inT)) b B P v s d N n { n with ks := [x] } uw ur uk uw ur (.slice (some ⟨W.heap.size, 0, none⟩) 1 1) := by
    refine ⟨(h.bx.less (P' := fun g => offP P N uw ur uk g ∧ g < W.heap.size) (fun g hp hl => ⟨hp, hl⟩) (fun hh => hh.1.2.1 rfl)).below hal |>.less (fun g hp _ => ⟨hp.1.1, hp.1.2.1, hp.1.2.2.1, hp.1.2.2.2.1, fun e => absurd (Option.some.inj e) (Nat.ne_of_gt hp.2)⟩) (fun hh => hh.2.1 rfl), ?_⟩
    exact ⟨h1.rows.w, h1.rows.r, hnew, h1.rows.qw, h1.rows.qr, fun g e => by obtain rfl := Option.some.inj e; exact h.size⟩
  obtain ⟨w2, hw2, hm⟩ := hA.set 6 (.slice (some ⟨W.heap.size, 0, none⟩) 1 1) rfl
  exact ⟨_, w2, rfl, hw2, h1.bx.box, hm⟩
end
end Go.Proofs.YtiklkhbfilbpeaaGreatDoor.Sx
set_option linter.unusedVariables false
set_option linter.unusedSimpArgs false
set_option maxRecDepth 100000
namespace Go.Proofs.YtiklkhbfilbpeaaGreatDoor.Sx
open Go.RowKit Base Lx Sy
theorem post_cases {α : Type} {enc : α → Value → Prop} {W : World} {b B : Nat} {P : Nat → Prop} {v : Value} {d : Nat} {X : Sy.P α} {r : Ending} {W' : World} (h : Post enc W b B P v d X r W') :
    (∃ e, X = .error e ∧ r = panY e.1 e.2 ∧ Below B W W') ∨ (∃ y u v', X = .ok y ∧ r = .returned u ∧ enc y.1 u ∧ Turn b v W v' W' ∧ Rd W' b B P v' y.2 d) := by
  cases X with
  | error e => exact .inl ⟨e, rfl, h.1, h.2⟩
  | ok y =>
    obtain ⟨u, v', h1, h2, h3, h4⟩ := h
    exact .inr ⟨y, u, v', rfl, h1, h2, h3, h4⟩
/-- A node that is handed back. -/
def PostN (W : World) (b B : Nat) (P : Nat → Prop) (v : Value) (d : Nat) (x : Sy.P Nd) (r : Ending) (W' : World) : Prop :=
  match x with
  | .error e => r = panY e.1 e.2 ∧ Below B W W'
  | .ok y => ∃ uw ur uk v', r = .returned (.agg (ndA y.1 uw ur uk)) ∧ Rows W' (fun g => W.heap.size ≤ g) y.1 uw ur uk ∧ Turn b v W v' W' ∧ Rd W' b B P v' y.2 d
theorem postN_cases {W : World} {b B : Nat} {P : Nat → Prop} {v : Value} {d : Nat} {X : Sy.P Nd} {r : Ending} {W' : World} (h : PostN W b B P v d X r W') :
    (∃ e, X = .error e ∧ r = panY e.1 e.2 ∧ Below B W W') ∨ (∃ y uw ur uk v', X = .ok y ∧ r = .returned (.agg (ndA y.1 uw ur uk)) ∧ Rows W' (fun g => W.heap.size ≤ g) y.1 uw ur uk ∧ Turn b v W v' W' ∧ Rd W' b B P v' y.2 d) := by
  cases X with
  | error e => exact .inl ⟨e, rfl, h.1, h.2⟩
  | ok y =>
    obtain ⟨uw, ur, uk, v', h1, h2, h3, h4⟩ := h
    exact .inr ⟨y, uw, ur, uk, v', rfl, h1, h2, h3, h4⟩
theorem post_error {α : Type} {enc : α → Value → Prop} {W : World} {b B : Nat} {P : Nat → Prop} {v : Value} {d : Nat} {x : Sy.P α} {e : Int × Nat} {W' : World} (hx : x = .error e) (h : Below B W W') : Post enc W b B P v d x (panY e.1 e.2) W' := by subst hx; exact ⟨rfl, h⟩
theorem postN_error {W : World} {b B : Nat} {P : Nat → Prop} {v : Value} {d : Nat} {x : Sy.P Nd} {e : Int × Nat} {W' : World} (hx : x = .error e) (h : Below B W W') : PostN W b B P v d x (panY e.1 e.2) W' := by subst hx; exact ⟨rfl, h⟩
/-- What is known of what stands within. -/
def NestIH (nest : S → Sy.P Nat) (d : Nat) : Prop := ∀ (W : World) (b B : Nat) (P : Nat → Prop) (v : Value) (s : S), Rd W b B P v s d → (∀ g, W.heap.size ≤ g → P g) → ph s ≤ 80000 → (isComp s = true ∨ names s = true) →
  Calls Tryz.prog 113 #[.pointer (some ⟨b, 0, none⟩)] W (Post eN W b B P v d (nest s))
structure Env (nest : S → Sy.P Nat) (d : Nat) : Prop where
  ih : NestIH nest d
  weak : ∀ s, Weak s (nest s)
  cost : NestC nest
section
variable {W0 W W' : World} {b B : Nat} {P : Nat → Prop} {v0 v v' : Value} {s s' : S} {d N : Nat} {n n' : Nd} {uw ur uk uw' ur' uk' : Value}
/-- Behind the start all is new to whom blocks of P do not matter. -/
theorem Mid.free (h : Mid W0 v0 W b B P v s d N n uw ur uk) (hP : ∀ g, W0.heap.size ≤ g → P g) : ∀ g, W.heap.size ≤ g → offP P N uw ur uk g := fun g hg => by
  have h1 := h.size
  have h2 := h.lt
  refine ⟨hP g (by omega), by omega, fun e => ?_, fun e => ?_, fun e => ?_⟩
  · have := (h.rows.w.lt g e).2; omega
  · have := (h.rows.r.lt g e).2; omega
  · have := (h.rows.k.lt g e).2; omega
theorem Mid.belowB (h : Mid W0 v0 W b B P v s d N n uw ur uk) (hv : ∀ g, v0.ownBlock = some g → B ≤ g) : Below B W0 W := by
  have h1 := h.bx.rd.bB
  have h2 := h.bx.old
  exact h.bx.turn.below h1 hv (by omega)
theorem MidA.below (h : MidA W0 v0 W b B P v s d N n n' uw ur uk uw' ur' uk') (hb : Below W.heap.size W W') : MidA W0 v0 W' b B P v s d N n n' uw ur uk uw' ur' uk' := ⟨h.bx.below hb, h.rows.below hb⟩
/-- What is left when the node has been made. -/
theorem Mid.rd (h : Mid W0 v0 W b B P v s d N n uw ur uk) : Rd W b B P v s d := h.bx.rd.less (fun g hg _ => hg.1)
theorem Mid.rowsP (h : Mid W0 v0 W b B P v s d N n uw ur uk) (hP : ∀ g, W0.heap.size ≤ g → P g) : Rows W P n uw ur uk := h.rows.less (fun g hg _ => hP g hg)
theorem Mid.lens (h : Mid W0 v0 W b B P v s d N n uw ur uk) : (∃ a c, uw = .slice a n.ws.length c) ∧ (∃ a c, ur = .slice a n.rs.length c) ∧ (∃ a c, uk = .slice a n.ks.length c) := rowsum h.rows
end
end Go.Proofs.YtiklkhbfilbpeaaGreatDoor.Sx
set_option linter.unusedVariables false
set_option linter.unusedSimpArgs false
set_option maxRecDepth 100000
namespace Go.Proofs.YtiklkhbfilbpeaaGreatDoor.Sx
open Go.RowKit Base Lx Sy
theorem list_run {nest : S → Sy.P Nat} (hn : ∀ s, Weak s (nest s)) (em : Bool) (s : S) : listM nest em s = bd (runM nest [] (lns s)) fun ks s1 => if ks = [] ∧ em = false then er 20 s1 else Sy.putM { k := 5, ks := ks, ln := (nx (lns s)).ln } s1 := by
  unfold listM runM
  rw [listF_eq hn s.2.length (lns s).2.length [] (lns s) (lns_le s) (Nat.le_refl _)]
abbrev AndorC (nest : S → Sy.P Nat) (d : Nat) : Prop := ∀ (W : World) (b B : Nat) (P : Nat → Prop) (v : Value) (s : S), Rd W b B P v s d → (∀ g, W.heap.size ≤ g → P g) → ph s ≤ 80000 →
  Calls Tryz.prog 52 #[.pointer (some ⟨b, 0, none⟩)] W (Post eN W b B P v d (andorM nest s))
set_option maxHeartbeats 8000000 in
theorem list_calls {nest : S → Sy.P Nat} {d : Nat} (E : Env nest d) (hA : AndorC nest d) (W : World) (b B : Nat) (P : Nat → Prop) (v : Value) (s : S) (h : Rd W b B P v s d) (hP : ∀ g, W.heap.size ≤ g → P g) (hF : ph s ≤ 80000) (em : Bool) :
    Calls Tryz.prog 23 #[.pointer (some ⟨b, 0, none⟩), .bool em] W (Post eN W b B P v d (listM nest em s)) := by
  have HR := Lib.hid h
  have HE : Hid (Env nest d) := E
  have HAo : Hid (AndorC nest d) := hA
  have HP : Hid (∀ g, W.heap.size ≤ g → P g) := hP
  have HF : Hid (ph (lns s) ≤ 80000) := Nat.le_trans (ph_lns s) hF
  obtain ⟨Z, hZ⟩ : ∃ Z, listM nest em s = Z := ⟨_, rfl⟩
  have HZ : Hid (Z = bd (runM nest [] (lns s)) fun ks s1 => if ks = [] ∧ em = false then er 20 s1 else Sy.putM { k := 5, ks := ks, ln := (nx (lns s)).ln } s1) := by show _ = _; rw [← hZ]; exact list_run E.weak em s
  have HW := Lib.hid E.weak
  rw [hZ]
  clear h hP hF hZ E hA
  obtain ⟨l, hl⟩ : ∃ l, lns s = l := ⟨_, rfl⟩
  have HL := Lib.hid hl
  rw [hl] at HZ HF
  clear hl
  go_enter Tryz.func23, Tryz.ntmps23
  go_wp2_with fail
  refine (lines_calls W b B P v s d HR.out).mono ?_
  rintro r w1 ⟨rfl, ht1, hr1⟩
  rw [show lns s = l from HL.out] at hr1
  have HR1 := Lib.hid hr1
  have HT1 := Lib.hid ht1
  clear ht1 hr1
  go_wp2_with fail
  refine (next_calls w1 b B P v l d HR1.out).mono ?_
  rintro r w2 ⟨rfl, hb2⟩
  have HR2 := Lib.hid (HR1.out.below hb2)
  have HT2 := Lib.hid (HT1.out.trans (Turn.of_below hb2))
  clear hb2
  have F3 := fld_tkV3 (nx l)
  go_wp2_with fail
  obtain ⟨n0, hn0⟩ : ∃ n0 : Nd, n0 = { k := 5, ln := (nx l).ln } := ⟨_, rfl⟩
  obtain ⟨w3, hw3, hm3, hb3⟩ := Mid.start HR2.out n0 (by rw [hn0]) (by rw [hn0]) (by rw [hn0])
  obtain ⟨N, hN⟩ : ∃ N, w2.heap.size = N := ⟨_, rfl⟩
  have hw3' : w2.alloc (.cells #[.int .i64 5, .string ⟨#[]⟩, .bool false, .slice none 0 0, .int .i64 0, .slice none 0 0, .slice none 0 0, .int .i64 ((nx l).ln : Int)] ndT) = w3 := by rw [hn0] at hw3; exact hw3
  rw [hw3', hN]
  rw [hN] at hm3
  have hns : n0 = { n0 with ks := [] } := by rw [hn0]
  rw [hns] at hm3
  have HM3 := Lib.hid hm3
  have HN0 := Lib.hid hn0
  have HT0 : Hid (Turn b v W v w2) := HT2.out
  have HB2 : Hid (∀ g, w2.heap.size ≤ g → P g) := fun g hg => HP.out g (Nat.le_trans HT2.out.size hg)
  have HV : Hid (∀ g, v.ownBlock = some g → B ≤ g) := fun g hg => (HR.out.own g hg).1
  have HBl : Hid (Below B W w2) := HT2.out.belowB HR.out
  clear hw3 hm3 hb3 hw3' hN hn0 hns F3
  go_loopw [] (fun wr => ∃ (s' : S) (ks : List Nat) (v' uk : Value) (n1 : Nd), runM nest ks s' = runM nest [] l ∧ n1 = { n0 with ks := ks } ∧ Mid w2 v wr b B P v' s' d N n1 (.slice none 0 0) (.slice none 0 0) uk ∧ ph s' + ks.length ≤ 80000) (fun wr => tkLen wr b)
  case atStart => exact ⟨l, [], v, _, _, rfl, rfl, HM3.out, HF.out⟩
  case round =>
    obtain ⟨s', ks, v', uk, n1, hrun, hn1, hm, hph⟩ := hrel
    have HN1 := Lib.hid hn1
    have HRun := Lib.hid hrun
    have HM0 := Lib.hid hm
    have HPh := Lib.hid hph
    clear hrun hn1 hm hph HM3
    go_wp2_with fail
    refine (begins_calls wr b B _ v' s' d HM0.out.bx.rd).mono ?_
    rintro r w4 ⟨rfl, hb4⟩
    have HM := Lib.hid (HM0.out.below hb4)
    have HB4 := Lib.hid hb4
    clear hb4
    obtain ⟨z, hz⟩ : ∃ z, begins s' = z := ⟨_, rfl⟩
    have HZb := Lib.hid hz
    rw [hz]
    clear hz
    cases z with
    | false =>
      have HPs : Hid (s'.1.length ≤ 100000) := by have := HPh.out; unfold ph at this; show _ ≤ _; omega
      have HR9 : Hid (Z = if ks = [] ∧ em = false then er 20 s' else Sy.putM { k := 5, ks := ks, ln := (nx l).ln } s') := by show _ = _; rw [HZ.out, ← HRun.out, run_eq HW.out, if_neg (by rw [HZb.out]; decide)]; rfl
      obtain ⟨⟨aw, cw, huw⟩, ⟨ar, cr, hur⟩, ⟨ak, ck, huk⟩⟩ := HM.out.lens
      obtain ⟨L, hL⟩ : ∃ L, n1.ks.length = L := ⟨_, rfl⟩
      have HLL := Lib.hid hL
      rw [hL] at huk
      subst huk
      obtain ⟨⟨x0, x1, x2, x3, x4, x5, x6, x7⟩, z0, z1, z2, z3, z4, z5, z6, z7⟩ := nd_cells HM.out.bx.box
      have hks : n1.ks = ks := by rw [HN1.out]
      clear huw hur hL
      by_cases hnil : ks = []
      · have e1 : ((L : Int) == 0) = true := by rw [beq_iff_eq]; have := HLL.out; rw [hks, hnil] at this; simp at this; omega
        have e3 : decide ((L : Int) = 0) = true := by simpa using e1
        cases em with
        | false =>
          have HX9 : Hid (Z = er 20 s') := by show _ = _; rw [HR9.out, if_pos ⟨hnil, rfl⟩]
          clear hnil hks
          go_wp2_with fail
          refine (fail_calls w4 b B _ _ s' d HM.out.bx.rd 20).mono ?_
          rintro r w8 ⟨rfl, hb8⟩
          exact ⟨rfl, post_err HX9.out ((HBl.out.trans (HM.out.belowB HV.out)).trans (hb8.mono HM.out.bx.rd.size))⟩
        | true =>
          have HX9 : Hid (Z = Sy.putM n1 s') := by show _ = _; rw [HR9.out, if_neg (fun h => by cases h.2), HN1.out, HN0.out]
          clear hnil hks
          go_wp2_with fail
          refine (put_calls w4 b B P _ s' d HM.out.rd n1 _ _ _ (HM.out.rowsP HB2.out) (by have := HPs.out; omega)).mono ?_
          rintro r w8 hp
          rw [← HX9.out] at hp
          have HP8 := Lib.hid hp
          clear hp
          rcases post_cases HP8.out with ⟨er, hXe, _, _⟩ | ⟨y, u8, v8, hX8, rfl, he, ht8, hr8⟩
          · exact absurd (HX9.out.symm.trans hXe) (by intro h; cases h)
          · have HF8 : Hid (Turn b v W v8 w8 ∧ Rd w8 b B P v8 y.2 d) := ⟨(HT0.out.trans HM.out.bx.turn).trans ht8, hr8⟩
            have HX8 := Lib.hid hX8
            clear ht8 hr8 hX8
            have he' : u8 = .int .i64 (y.1 : Int) := he
            subst he'
            clear he
            go_wp2_with fail
            go_ret
            exact post_ok HX8.out rfl HF8.out.1 HF8.out.2
      · have e1 : ((L : Int) == 0) = false := by rw [beq_eq_false_iff_ne]; have := HLL.out; rw [hks] at this; have h9 := List.length_pos_iff.2 hnil; omega
        have e3 : decide ((L : Int) = 0) = false := by simpa using e1
        have HX9 : Hid (Z = Sy.putM n1 s') := by show _ = _; rw [HR9.out, if_neg (fun h => hnil h.1), HN1.out, HN0.out]
        clear hnil hks
        go_wp2_with fail
        refine (put_calls w4 b B P _ s' d HM.out.rd n1 _ _ _ (HM.out.rowsP HB2.out) (by have := HPs.out; omega)).mono ?_
        rintro r w8 hp
        rw [← HX9.out] at hp
        have HP8 := Lib.hid hp
        clear hp
        rcases post_cases HP8.out with ⟨er, hXe, _, _⟩ | ⟨y, u8, v8, hX8, rfl, he, ht8, hr8⟩
        · exact absurd (HX9.out.symm.trans hXe) (by intro h; cases h)
        · have HF8 : Hid (Turn b v W v8 w8 ∧ Rd w8 b B P v8 y.2 d) := ⟨(HT0.out.trans HM.out.bx.turn).trans ht8, hr8⟩
          have HX8 := Lib.hid hX8
          clear ht8 hr8 hX8
          have he' : u8 = .int .i64 (y.1 : Int) := he
          subst he'
          clear he
          go_wp2_with fail
          go_ret
          exact post_ok HX8.out rfl HF8.out.1 HF8.out.2
    | true =>
      go_upto_region 4 with fail
      obtain ⟨X, hX⟩ : ∃ X, andorM nest s' = X := ⟨_, rfl⟩
      have HX := Lib.hid hX
      have HLen : Hid (n1.ks.length ≤ 100000) := by have := HPh.out; show _ ≤ _; rw [HN1.out]; show ks.length ≤ _; omega
      have HCall : Hid (∀ x, Rd x b B (offP P N (.slice none 0 0) (.slice none 0 0) uk) v' s' d → w4.heap.size ≤ x.heap.size → Calls Tryz.prog 52 #[.pointer (some ⟨b, 0, none⟩)] x (Post eN x b B (offP P N (.slice none 0 0) (.slice none 0 0) uk) v' d X)) := fun x hr hs => by
        rw [← hX]
        exact HAo.out x b B _ v' s' hr (fun g hg => HM.out.free HB2.out g (Nat.le_trans hs hg)) (by have := HPh.out; omega)
      clear hX
      obtain ⟨i0, hi0, hz0, hz1, hz2⟩ := info_parts info_in
      have HUq : Hid (∀ g, Value.ownBlock (uk) = some g → g < w4.heap.size) := fun g hg => (HM.out.rows.k.lt g hg).2
      refine Rp.wp_region_rkx (fun ch x => ∃ e, X = .error e ∧ panY e.1 e.2 = Ending.panicked ch ∧ Below B w4 x) 6 [] [Rg.Is (.pointer (some ⟨N, 6, none⟩)), Rg.Is (uk), Rg.Is (.pointer (some ⟨b, 0, none⟩)), (fun u9 (x : World) => ∃ y, X = .ok y ∧ u9 = iv y.1), (fun u9 x => ∃ q, u9 = .slice (some ⟨q, 0, none⟩) 1 1 ∧ w4.heap.size ≤ q ∧ (∃ y, X = .ok y ∧ x.heap[q]? = some (.cells #[iv y.1] inT)) ∧ w4.heap.size < x.heap.size), (fun u9 x => ∃ y v9, X = .ok y ∧ MidA w2 v x b B P v9 y.2 d N (n1) ({ n1 with ks := n1.ks ++ [y.1] }) (.slice none 0 0) (.slice none 0 0) uk (.slice none 0 0) (.slice none 0 0) u9 ∧ w4.heap.size < x.heap.size)] (fun _ _ => True) (fun ls x => (ls 3 = false → x.heap.size = w4.heap.size ∧ Below w4.heap.size w4 x) ∧ (ls 3 = true → ls 5 = false → ∃ y v9, X = .ok y ∧ Mid w2 v x b B P v9 y.2 d N (n1) (.slice none 0 0) (.slice none 0 0) uk ∧ w4.heap.size ≤ x.heap.size)) (fun k x y => if k = 3 then x.heap.size = w4.heap.size else if k = 5 then x.grownBy y (Value.ownBlock (uk)) else (Below x.heap.size x y ∧ (k = 4 ∨ y.heap.size = x.heap.size))) (by kernel_rfl) (by kernel_rfl) (of_decide_eq_true (by kernel_rfl)) (by kernel_rfl) (by kernel_rfl) trivial ⟨fun _ => ⟨rfl, rfl, rfl, rfl, Nat.le_refl _, fun _ _ => rfl⟩, fun h => by cases h⟩ (fun ls ls' x e h1 => ⟨fun h2 => h1.1 (by rw [e]; exact h2), fun h2 h3 => h1.2 (by rw [e]; exact h2) (by rw [e]; exact h3)⟩) (fun _ _ _ _ _ => trivial) (fun i ls x _ h1 => by rw [show ([] : List Bool).getD i true = true from rfl] at h1; cases h1) ?_ ⟨rfl, rfl, rfl, rfl, rfl, rfl, trivial⟩ ⟨?_, ?_, ?_, ?_, ?_, ?_, trivial⟩ ?_ ?_
      · intro i k u8 x y9 hik _ h1 hK
        match i, h1, hik with
        | 0, h1, _ => exact h1
        | 1, h1, _ => exact h1
        | 2, h1, _ => exact h1
        | 3, h1, _ => exact h1
        | 4, h1, hik =>
          obtain ⟨q, hq, hqw, ⟨y, hXy, hqx⟩, hlt⟩ := h1
          have hql := (Array.getElem?_eq_some_iff.1 hqx).1
          by_cases k3 : k = 3
          · rw [if_pos k3] at hK; omega
          · rw [if_neg k3] at hK
            by_cases k5 : k = 5
            · rw [if_pos k5] at hK
              exact ⟨q, hq, hqw, ⟨y, hXy, (hK.block q hql (fun e => by have := HUq.out q e.symm; omega)).trans hqx⟩, Nat.lt_of_lt_of_le hlt hK.size⟩
            · rw [if_neg k5] at hK
              exact ⟨q, hq, hqw, ⟨y, hXy, (hK.1.block q hql).trans hqx⟩, Nat.lt_of_lt_of_le hlt hK.1.size⟩
        | 5, h1, hik =>
          obtain ⟨y, v9, hXy, hA, hlt⟩ := h1
          by_cases k3 : k = 3
          · rw [if_pos k3] at hK; omega
          · rw [if_neg k3, if_neg (fun e => hik e.symm)] at hK
            exact ⟨y, v9, hXy, hA.below hK.1, Nat.lt_of_lt_of_le hlt hK.1.size⟩
        | _ + 6, _, _ => trivial
      · intro _ b9 x ls hR hS hself hup hdn hk
        have h5 : b9.eval (.tmp 5) = .pointer (some ⟨N, 0, none⟩) := Eq.mp (by kernel_rfl) (hk 5 (by decide))
        refine Rp.doesX_of ?_
        exact Rs.does_field _ _ h5 (by have := fld_nd N 0 6 (by decide) x; rw [Nat.zero_add] at this; exact this) ⟨by rw [if_neg (by decide), if_neg (by decide)]; exact ⟨Below.refl _ _, .inr rfl⟩, rfl, ⟨fun hh => hS.1 hh, fun h2 h3 => hS.2 h2 h3⟩⟩
      · intro _ b9 x ls hR hS hself hup hdn hk
        have h14 : b9.eval (.tmp 14) = .pointer (some ⟨N, 6, none⟩) := Eq.mp (by kernel_rfl) (hk 14 (by decide))
        have l5 : ls 5 = false := hdn [] 5 _ rfl (by kernel_rfl)
        have hc : x.cell? ⟨N, 6, none⟩ = some (uk) := by
          cases l3 : ls 3 with
          | false => have hm := HM.out.below (hS.1 l3).2; simp [World.cell?, hm.bx.box]
          | true => obtain ⟨y, v9, hXy, hm, hsz⟩ := hS.2 l3 l5; simp [World.cell?, hm.bx.box]
        refine Rp.doesX_of ?_
        exact Rg.does_load _ _ h14 (Ap.load_plainP (by simp [isAgg]) hc) ⟨by rw [if_neg (by decide), if_neg (by decide)]; exact ⟨Below.refl _ _, .inr rfl⟩, rfl, ⟨fun hh => hS.1 hh, fun h2 h3 => hS.2 h2 h3⟩⟩
      · intro _ b9 x ls hR hS hself hup hdn hk
        have h0 : b9.eval (.tmp 0) = .pointer (some ⟨b, 0, none⟩) := Eq.mp (by kernel_rfl) (hk 0 (by decide))
        refine Rp.doesX_of ?_
        exact Rg.does_move ⟨by rw [if_neg (by decide), if_neg (by decide)]; exact ⟨Below.refl _ _, .inr rfl⟩, h0, ⟨fun hh => hS.1 hh, fun h2 h3 => hS.2 h2 h3⟩⟩
      · intro _ b9 x ls hR hS hself hup hdn hk
        have h16 : b9.eval (.tmp 16) = .pointer (some ⟨b, 0, none⟩) := Eq.mp (by kernel_rfl) (hk 16 (by decide))
        obtain ⟨hsz, hb⟩ := hS.1 hself
        have hm := HM.out.below hb
        refine Rp.does_func #[.pointer (some ⟨b, 0, none⟩)] Tryz.func52 (by kernel_rfl) (by kernel_rfl) (by simp [h16, show ∀ v, b9.eval (.const v) = v from fun _ => rfl]) (HCall.out x hm.bx.rd hb.size) ?_
        intro e w' hp
        rcases post_cases hp with ⟨er, hXe, rfl, hb9⟩ | ⟨y, u9, v9, hXy, rfl, he, ht, hr⟩
        · exact .inr ⟨_, rfl, er, hXe, rfl, (hb.mono HM.out.bx.rd.size).trans hb9⟩
        · exact .inl ⟨u9, rfl, by rw [if_pos rfl]; exact hsz, ⟨y, hXy, he⟩, ⟨fun hh => by simp [Rs.upd] at hh, fun _ _ => ⟨y, v9, hXy, hm.step ht hr, by have := ht.size; omega⟩⟩⟩
      · intro _ b9 x ls hR hS hself hup hdn hk
        have h17 : (fun u9 (x : World) => ∃ y, X = .ok y ∧ u9 = iv y.1) (b9.eval (.tmp 17)) x := Eq.mp (by kernel_rfl) (hk 17 (by decide))
        have l3 : ls 3 = true := hup [] 3 (by kernel_rfl)
        have l5 : ls 5 = false := hdn [] 5 _ rfl (by kernel_rfl)
        obtain ⟨y, v9, hXy, hm, hsz⟩ := hS.2 l3 l5
        obtain ⟨y2, hXy2, he⟩ := h17
        have hyy : y2 = y := Except.ok.inj (hXy2.symm.trans hXy)
        subst hyy
        have hal := (Below.refl x.heap.size x).alloc (Nat.le_refl _) (.cells #[iv y2.1] inT)
        refine Rp.doesX_of ?_
        exact Rg.does_build #[(0, iv y2.1)] _ (by simp [he]) (by go_simp; rfl) ⟨by rw [if_neg (by decide), if_neg (by decide)]; exact ⟨hal, .inl rfl⟩, ⟨x.heap.size, rfl, hsz, ⟨y2, hXy, heap_alloc_new x _⟩, by rw [World.size_alloc]; omega⟩, ⟨fun hh => absurd (l3.symm.trans hh) (by decide), fun _ _ => ⟨y2, v9, hXy, hm.below hal, by rw [World.size_alloc]; omega⟩⟩⟩
      · intro _ b9 x ls hR hS hself hup hdn hk
        have h15 : b9.eval (.tmp 15) = uk := Eq.mp (by kernel_rfl) (hk 15 (by decide))
        have h18 : (fun u9 x => ∃ q, u9 = .slice (some ⟨q, 0, none⟩) 1 1 ∧ w4.heap.size ≤ q ∧ (∃ y, X = .ok y ∧ x.heap[q]? = some (.cells #[iv y.1] inT)) ∧ w4.heap.size < x.heap.size) (b9.eval (.tmp 18)) x := Eq.mp (by kernel_rfl) (hk 18 (by decide))
        have l3 : ls 3 = true := hup [] 3 (by kernel_rfl)
        obtain ⟨y, v9, hXy, hm, hsz⟩ := hS.2 l3 hself
        obtain ⟨q, hq, hqw, ⟨y2, hXy2, hqx⟩, hlt⟩ := h18
        have hyy : y2 = y := Except.ok.inj (hXy2.symm.trans hXy)
        subst hyy
        obtain ⟨u9, w', hrun, hown', hgr, hat⟩ := Ap.run_append_at (P := Tryz.prog) x 0 35 35 35 inT i0 _ 1 8 Tryz.underlying35 (append_side Tryz.underlying35) hi0 hz0 hz1 hz2 rfl (by decide) (by decide) (uk) _ _ hm.rows.k (b9.eval (.tmp 18)) 1 ([iv y2.1]) (by rw [hq]; exact src_cells (b := q) (off := 0) rfl (by intro u hu; obtain rfl := List.mem_singleton.1 hu; rfl) (.inr rfl) (fun i z hi => by rw [Nat.zero_add]; unfold World.cell?; simp only [hqx]; simpa using hi)) (by unfold maxLen; have := HLen.out; omega) (by have := HLen.out; omega) (Nat.zero_le _)
        refine Rp.doesX_of ?_
        exact Ap.does_append (uk) _ u9 w' h15 rfl hrun ⟨by rw [if_neg (by decide), if_pos rfl]; exact hgr, ⟨y2, v9, hXy, hm.app_k y2.1 hgr hown' hat, Nat.lt_of_lt_of_le hlt hgr.size⟩, ⟨fun hh => absurd (l3.symm.trans hh) (by decide), fun _ hh => by simp [Rs.upd] at hh⟩⟩
      · intro ch a' w' hdf hD
        obtain ⟨er, hXe, hpe, hbe⟩ := hD
        refine ⟨hdf, ?_⟩
        rw [← hpe]
        have hz : Z = .error er := by rw [HZ.out, ← HRun.out, run_eq HW.out, if_pos HZb.out, HX.out, hXe]; rfl
        exact post_error hz ((HBl.out.trans (HM.out.belowB HV.out)).trans hbe)
      intro vals wD ls _ hSD _ hL
      obtain ⟨g0, g1, g2, g3, g4, g5, _⟩ := hL
      obtain ⟨y, v9, hXy, hA, _⟩ := (g5 : (fun u9 x => ∃ y v9, X = .ok y ∧ MidA w2 v x b B P v9 y.2 d N (n1) ({ n1 with ks := n1.ks ++ [y.1] }) (.slice none 0 0) (.slice none 0 0) uk (.slice none 0 0) (.slice none 0 0) u9 ∧ w4.heap.size < x.heap.size) (vals 5) wD)
      clear g0 g1 g2 g3 g4 hSD
      obtain ⟨n2, hn2⟩ : ∃ n2 : Nd, { n1 with ks := n1.ks ++ [y.1] } = n2 := ⟨_, rfl⟩
      rw [hn2] at hA
      have HN2 := Lib.hid hn2
      simp only [Rg.putAll, List.take_succ_cons, List.take_zero, List.drop_succ_cons, List.drop_zero, List.setIfInBounds_toArray, List.set_cons_succ, List.set_cons_zero]
      generalize vals 0 = g0 at *
      generalize vals 1 = g1 at *
      generalize vals 2 = g2 at *
      generalize vals 3 = g3 at *
      generalize vals 4 = g4 at *
      generalize vals 5 = u9 at *
      obtain ⟨a9, c9, hu9, _⟩ := ownsRow_slice hA.rows.k
      subst hu9
      obtain ⟨w9, hw9, hm9⟩ := hA.set 6 (.slice a9 n2.ks.length c9) (by rw [← HN2.out]; rfl)
      obtain ⟨⟨x0, x1, x2, x3, x4, x5, x6, x7⟩, z0, z1, z2, z3, z4, z5, z6, z7⟩ := nd_cells hA.bx.box
      have HM9 := Lib.hid hm9
      have HXy := Lib.hid hXy
      clear hA hm9 hXy i0 hi0 hz0 hz1 hz2 hn2
      have HN2b : Hid (n2 = { n0 with ks := ks ++ [y.1] }) := by show _ = _; rw [← HN2.out, HN1.out]
      have HRun2 : Hid (runM nest [] l = if isM 2 [[59]] y.2 = false ∧ (nx y.2).k ≠ 3 then .ok (ks ++ [y.1], y.2) else runM nest (ks ++ [y.1]) (lns (tk y.2))) := by
        show _ = _
        rw [← HRun.out, run_eq HW.out, if_pos HZb.out, HX.out, HXy.out]; rfl
      have HLe : Hid (ph y.2 + 6 ≤ ph s' ∧ y.2.2.length ≤ s'.2.length) := ⟨andor_cost HE.out.cost s' y (by rw [HX.out, HXy.out]), andor_weak HW.out s' y (by rw [HX.out, HXy.out])⟩
      clear HN2 HRun HN1 HCall HLen
      go_wp2_with fail
      refine (is_lit w9 b B _ v9 y.2 d HM9.out.bx.rd 2 [[59]] (by decide)).mono ?_
      rintro r w10 ⟨rfl, hb10⟩
      have HM10 := Lib.hid (HM9.out.below ((Below.refl _ _).trans hb10))
      clear hb10 x0 x1 x2 x3 x4 x5 x6 x7 z0 z1 z2 z3 z4 z5 z6 z7 hw9
      obtain ⟨zi, hzi⟩ : ∃ zi, isM 2 [[59]] y.2 = zi := ⟨_, rfl⟩
      have HZi := Lib.hid hzi
      rw [hzi]
      clear hzi
      cases zi with
      | true =>
        have HRun3 : Hid (runM nest (ks ++ [y.1]) (lns (tk y.2)) = runM nest [] l) := by show _ = _; rw [HRun2.out, if_neg (fun h => by rw [show isM 2 [[59]] y.2 = true from HZi.out] at h; exact absurd h.1 (by decide))]
        go_wp2_with fail
        refine (take_calls w10 b B _ v9 y.2 d HM10.out.bx.rd).mono ?_
        rintro r w11 ⟨rfl, ht11, hr11⟩
        have HM11 := Lib.hid (HM10.out.step ht11 hr11)
        clear ht11 hr11
        go_wp2_with fail
        refine (lines_calls w11 b B _ v9 (tk y.2) d HM11.out.bx.rd).mono ?_
        rintro r w12 ⟨rfl, ht12, hr12⟩
        have HM12 := Lib.hid (HM11.out.step ht12 hr12)
        have HLt : Hid ((lns (tk y.2)).2.length < s'.2.length ∧ ph (lns (tk y.2)) ≤ ph y.2) := ⟨Nat.lt_of_le_of_lt (lns_le _) (Nat.lt_of_lt_of_le (tk_lt (by rw [isM_k HZi.out]; decide)) HLe.out.2), Nat.le_trans (ph_lns _) (ph_tk _)⟩
        clear ht12 hr12
        go_wp2_with fail
        go_roundw
        case rel => exact ⟨lns (tk y.2), ks ++ [y.1], v9, _, n2, HRun3.out, HN2b.out, HM12.out, by have := HLt.out.2; have := HLe.out.1; have := HPh.out; simp only [List.length_append, List.length_singleton]; omega⟩
        case measure => rw [rd_len HM12.out.bx.rd, rd_len HM0.out.bx.rd]; exact HLt.out.1
      | false =>
        obtain ⟨t3, ht3⟩ : ∃ t3, nx y.2 = t3 := ⟨_, rfl⟩
        have HT3 := Lib.hid ht3
        have F0 := fld_tkV0 t3
        clear ht3
        go_wp2_with fail
        refine (next_calls w10 b B _ v9 y.2 d HM10.out.bx.rd).mono ?_
        rintro r w13 ⟨rfl, hb13⟩
        rw [show nx y.2 = t3 from HT3.out]
        have HM13 := Lib.hid (HM10.out.below hb13)
        clear hb13
        by_cases hk : t3.k = 3
        · have e1 : ((t3.k : Int) == 3) = true := by simp; omega
          have e2 : ((t3.k : Int) != 3) = false := by simp; omega
          have e3 : decide ((t3.k : Int) = 3) = true := by simp; omega
          have HK : Hid ((nx y.2).k = 3) := by show _ = _; rw [HT3.out]; exact hk
          clear hk
          have HRun3 : Hid (runM nest (ks ++ [y.1]) (lns (tk y.2)) = runM nest [] l) := by show _ = _; rw [HRun2.out, if_neg (fun h => h.2 HK.out)]
          go_wp2_with fail
          refine (take_calls w13 b B _ v9 y.2 d HM13.out.bx.rd).mono ?_
          rintro r w11 ⟨rfl, ht11, hr11⟩
          have HM11 := Lib.hid (HM13.out.step ht11 hr11)
          clear ht11 hr11
          go_wp2_with fail
          refine (lines_calls w11 b B _ v9 (tk y.2) d HM11.out.bx.rd).mono ?_
          rintro r w12 ⟨rfl, ht12, hr12⟩
          have HM12 := Lib.hid (HM11.out.step ht12 hr12)
          have HLt : Hid ((lns (tk y.2)).2.length < s'.2.length ∧ ph (lns (tk y.2)) ≤ ph y.2) := ⟨Nat.lt_of_le_of_lt (lns_le _) (Nat.lt_of_lt_of_le (tk_lt (by rw [HK.out]; decide)) HLe.out.2), Nat.le_trans (ph_lns _) (ph_tk _)⟩
          clear ht12 hr12
          go_wp2_with fail
          go_roundw
          case rel => exact ⟨lns (tk y.2), ks ++ [y.1], v9, _, n2, HRun3.out, HN2b.out, HM12.out, by have := HLt.out.2; have := HLe.out.1; have := HPh.out; simp only [List.length_append, List.length_singleton]; omega⟩
          case measure => rw [rd_len HM12.out.bx.rd, rd_len HM0.out.bx.rd]; exact HLt.out.1
        · have e1 : ((t3.k : Int) == 3) = false := by simp; omega
          have e2 : ((t3.k : Int) != 3) = true := by simp; omega
          have e3 : decide ((t3.k : Int) = 3) = false := by simp; omega
          have HK : Hid ((nx y.2).k ≠ 3) := by show _ ≠ _; rw [HT3.out]; exact hk
          have HPs : Hid (y.2.1.length ≤ 100000) := by have := HPh.out; have := HLe.out.1; unfold ph at *; show _ ≤ _; omega
          clear hk
          have HR9 : Hid (Z = if (ks ++ [y.1]) = [] ∧ em = false then er 20 y.2 else Sy.putM { k := 5, ks := (ks ++ [y.1]), ln := (nx l).ln } y.2) := by show _ = _; rw [HZ.out, HRun2.out, if_pos ⟨HZi.out, HK.out⟩]; rfl
          obtain ⟨⟨aw, cw, huw⟩, ⟨ar, cr, hur⟩, ⟨ak, ck, huk⟩⟩ := HM13.out.lens
          obtain ⟨L, hL⟩ : ∃ L, n2.ks.length = L := ⟨_, rfl⟩
          have HLL := Lib.hid hL
          have hmx := HM13.out
          rw [hL] at hmx
          have HMX := Lib.hid hmx
          clear hmx huk
          obtain ⟨⟨x0, x1, x2, x3, x4, x5, x6, x7⟩, z0, z1, z2, z3, z4, z5, z6, z7⟩ := nd_cells HMX.out.bx.box
          have hks : n2.ks = (ks ++ [y.1]) := by rw [HN2b.out]
          clear huw hur hL
          by_cases hnil : (ks ++ [y.1]) = []
          · have e1 : ((L : Int) == 0) = true := by rw [beq_iff_eq]; have := HLL.out; rw [hks, hnil] at this; simp at this; omega
            have e3 : decide ((L : Int) = 0) = true := by simpa using e1
            cases em with
            | false =>
              have HX9 : Hid (Z = er 20 y.2) := by show _ = _; rw [HR9.out, if_pos ⟨hnil, rfl⟩]
              clear hnil hks
              go_wp2_with fail
              refine (fail_calls w13 b B _ _ y.2 d HMX.out.bx.rd 20).mono ?_
              rintro r w8 ⟨rfl, hb8⟩
              exact ⟨rfl, post_err HX9.out ((HBl.out.trans (HMX.out.belowB HV.out)).trans (hb8.mono HMX.out.bx.rd.size))⟩
            | true =>
              have HX9 : Hid (Z = Sy.putM n2 y.2) := by show _ = _; rw [HR9.out, if_neg (fun h => by cases h.2), HN2b.out, HN0.out]
              clear hnil hks
              go_wp2_with fail
              refine (put_calls w13 b B P _ y.2 d HMX.out.rd n2 _ _ _ (HMX.out.rowsP HB2.out) (by have := HPs.out; omega)).mono ?_
              rintro r w8 hp
              rw [← HX9.out] at hp
              have HP8 := Lib.hid hp
              clear hp
              rcases post_cases HP8.out with ⟨er, hXe, _, _⟩ | ⟨y, u8, v8, hX8, rfl, he, ht8, hr8⟩
              · exact absurd (HX9.out.symm.trans hXe) (by intro h; cases h)
              · have HF8 : Hid (Turn b v W v8 w8 ∧ Rd w8 b B P v8 y.2 d) := ⟨(HT0.out.trans HMX.out.bx.turn).trans ht8, hr8⟩
                have HX8 := Lib.hid hX8
                clear ht8 hr8 hX8
                have he' : u8 = .int .i64 (y.1 : Int) := he
                subst he'
                clear he
                go_wp2_with fail
                go_ret
                exact post_ok HX8.out rfl HF8.out.1 HF8.out.2
          · have e1 : ((L : Int) == 0) = false := by rw [beq_eq_false_iff_ne]; have := HLL.out; rw [hks] at this; have h9 := List.length_pos_iff.2 hnil; omega
            have e3 : decide ((L : Int) = 0) = false := by simpa using e1
            have HX9 : Hid (Z = Sy.putM n2 y.2) := by show _ = _; rw [HR9.out, if_neg (fun h => hnil h.1), HN2b.out, HN0.out]
            clear hnil hks
            go_wp2_with fail
            refine (put_calls w13 b B P _ y.2 d HMX.out.rd n2 _ _ _ (HMX.out.rowsP HB2.out) (by have := HPs.out; omega)).mono ?_
            rintro r w8 hp
            rw [← HX9.out] at hp
            have HP8 := Lib.hid hp
            clear hp
            rcases post_cases HP8.out with ⟨er, hXe, _, _⟩ | ⟨y, u8, v8, hX8, rfl, he, ht8, hr8⟩
            · exact absurd (HX9.out.symm.trans hXe) (by intro h; cases h)
            · have HF8 : Hid (Turn b v W v8 w8 ∧ Rd w8 b B P v8 y.2 d) := ⟨(HT0.out.trans HMX.out.bx.turn).trans ht8, hr8⟩
              have HX8 := Lib.hid hX8
              clear ht8 hr8 hX8
              have he' : u8 = .int .i64 (y.1 : Int) := he
              subst he'
              clear he
              go_wp2_with fail
              go_ret
              exact post_ok HX8.out rfl HF8.out.1 HF8.out.2
end Go.Proofs.YtiklkhbfilbpeaaGreatDoor.Sx
set_option linter.unusedVariables false
set_option linter.unusedSimpArgs false
set_option maxRecDepth 100000
namespace Go.Proofs.YtiklkhbfilbpeaaGreatDoor.Sx
open Go.RowKit Base Lx Sy
set_option maxHeartbeats 8000000 in
theorem simple_calls (W : World) (b B : Nat) (P : Nat → Prop) (v : Value) (s : S) (d : Nat) (h : Rd W b B P v s d) (hP : ∀ g, W.heap.size ≤ g → P g) (hF : ph s ≤ 80000) :
    Calls Tryz.prog 112 #[.pointer (some ⟨b, 0, none⟩)] W (Post eN W b B P v d (simpleM s)) := by
  have HR := Lib.hid h
  have HP : Hid (∀ g, W.heap.size ≤ g → P g) := hP
  have HF : Hid (ph s ≤ 80000) := hF
  have HV : Hid (∀ g, v.ownBlock = some g → B ≤ g) := fun g hg => (h.own g hg).1
  obtain ⟨Z, hZ⟩ : ∃ Z, simpleM s = Z := ⟨_, rfl⟩
  have HZ : Hid (Z = bd (whileM simB simT ({ k := 1, ln := (nx s).ln } : Nd) s) Sy.putM) := hZ.symm
  rw [hZ]
  clear h hP hF hZ
  go_enter Tryz.func112, Tryz.ntmps112
  go_wp2_with fail
  refine (next_calls W b B P v s d HR.out).mono ?_
  rintro r w2 ⟨rfl, hb2⟩
  have HR2 := Lib.hid (HR.out.below hb2)
  have HT0 : Hid (Turn b v W v w2) := Turn.of_below hb2
  have HBl : Hid (Below B W w2) := hb2.mono HR.out.size
  have HB2 : Hid (∀ g, w2.heap.size ≤ g → P g) := fun g hg => HP.out g (Nat.le_trans hb2.size hg)
  clear hb2
  have F3 := fld_tkV3 (nx s)
  go_wp2_with fail
  obtain ⟨n0, hn0⟩ : ∃ n0 : Nd, n0 = { k := 1, ln := (nx s).ln } := ⟨_, rfl⟩
  obtain ⟨w3, hw3, hm3, hb3⟩ := Mid.start HR2.out n0 (by rw [hn0]) (by rw [hn0]) (by rw [hn0])
  obtain ⟨N, hN⟩ : ∃ N, w2.heap.size = N := ⟨_, rfl⟩
  have hw3' : w2.alloc (.cells #[.int .i64 1, .string ⟨#[]⟩, .bool false, .slice none 0 0, .int .i64 0, .slice none 0 0, .slice none 0 0, .int .i64 ((nx s).ln : Int)] ndT) = w3 := by rw [hn0] at hw3; exact hw3
  rw [hw3', hN]
  rw [hN] at hm3
  rw [← hn0] at HZ
  have HM3 := Lib.hid hm3
  have HI : Hid (n0.ws.length + n0.rs.length + s.2.length ≤ 20000 ∧ n0.st ≤ n0.ws.length) := by rw [hn0]; have := HF.out; unfold ph at this; exact ⟨by show 0 + 0 + _ ≤ _; omega, Nat.zero_le _⟩
  have HPs : Hid (s.1.length ≤ 100000) := by have := HF.out; unfold ph at this; show _ ≤ _; omega
  clear hw3 hm3 hb3 hw3' hN F3 hn0
  go_loopw [] (fun wr => ∃ (s' : S) (n1 : Nd) (v' uw ur uk : Value), whileM simB simT n1 s' = whileM simB simT n0 s ∧ Mid w2 v wr b B P v' s' d N n1 uw ur uk ∧ n1.ws.length + n1.rs.length + s'.2.length ≤ 20000 ∧ n1.st ≤ n1.ws.length ∧ s'.1 = s.1) (fun wr => tkLen wr b)
  case atStart => exact ⟨s, n0, v, _, _, _, rfl, HM3.out, HI.out.1, HI.out.2, rfl⟩
  case round =>
    obtain ⟨s', n1, v', uw, ur, uk, hrun, hm, hi, hst, hs1⟩ := hrel
    have HRun := Lib.hid hrun
    have HM0 := Lib.hid hm
    have HI1 := Lib.hid hi
    have HSt := Lib.hid hst
    have HS1 := Lib.hid hs1
    clear hrun hm hi hst hs1 HM3 HI
    obtain ⟨t, ht⟩ : ∃ t, nx s' = t := ⟨_, rfl⟩
    have HT := Lib.hid ht
    clear ht
    have F0 := fld_tkV0 t
    go_wp2_with fail
    refine (redirects_calls wr b B _ v' s' d HM0.out.bx.rd).mono ?_
    rintro r w4 ⟨rfl, hb4⟩
    have HM := Lib.hid (HM0.out.below hb4)
    clear hb4
    obtain ⟨z, hz⟩ : ∃ z, redirects s' = z := ⟨_, rfl⟩
    have HZr := Lib.hid hz
    rw [hz]
    clear hz
    cases z with
    | true =>
      have HC : Hid (simB s' = true) := by show _ = _; unfold simB; rw [show redirects s' = true from HZr.out]; rfl
      go_upto_region 3 with fail
      obtain ⟨X, hX⟩ : ∃ X, redirM s' = X := ⟨_, rfl⟩
      have HX := Lib.hid hX
      have HLen : Hid (n1.rs.length ≤ 100000) := by have := HI1.out; show _ ≤ _; omega
      have HCall : Hid (∀ x, Rd x b B (offP P N uw ur uk) v' s' d → w4.heap.size ≤ x.heap.size → Calls Tryz.prog 133 #[.pointer (some ⟨b, 0, none⟩)] x (Post eR x b B (offP P N uw ur uk) v' d X)) := fun x hr hs => by
        rw [← hX]
        exact redir_calls x b B _ v' s' d hr HZr.out
      have HStep : Hid (whileM simB simT n0 s = bd (bd X fun x s => .ok ({ n1 with rs := n1.rs ++ [x] }, s)) (whileM simB simT)) := by
        show _ = _
        rw [← HRun.out, while_eq sim_takes sim_ne, if_pos HC.out]
        show bd (simT n1 s') _ = _
        unfold simT
        rw [if_pos HZr.out, hX]
      clear hX
      obtain ⟨i0, hi0, hz0, hz1, hz2⟩ := info_parts info_rr
      have HUq : Hid (∀ g, Value.ownBlock (ur) = some g → g < w4.heap.size) := fun g hg => (HM.out.rows.r.lt g hg).2
      refine Rp.wp_region_rkx (fun ch x => ∃ e, X = .error e ∧ panY e.1 e.2 = Ending.panicked ch ∧ Below B w4 x) 6 [] [Rg.Is (.pointer (some ⟨N, 5, none⟩)), Rg.Is (ur), Rg.Is (.pointer (some ⟨b, 0, none⟩)), (fun u9 (x : World) => ∃ y, X = .ok y ∧ u9 = rrV y.1), (fun u9 x => ∃ q, u9 = .slice (some ⟨q, 0, none⟩) 1 1 ∧ w4.heap.size ≤ q ∧ (∃ y, X = .ok y ∧ x.heap[q]? = some (.cells (rrC y.1).toArray rrT)) ∧ w4.heap.size < x.heap.size), (fun u9 x => ∃ y v9, X = .ok y ∧ MidA w2 v x b B P v9 y.2 d N (n1) ({ n1 with rs := n1.rs ++ [y.1] }) uw ur uk uw u9 uk ∧ w4.heap.size < x.heap.size)] (fun _ _ => True) (fun ls x => (ls 3 = false → x.heap.size = w4.heap.size ∧ Below w4.heap.size w4 x) ∧ (ls 3 = true → ls 5 = false → ∃ y v9, X = .ok y ∧ Mid w2 v x b B P v9 y.2 d N (n1) uw ur uk ∧ w4.heap.size ≤ x.heap.size)) (fun k x y => if k = 3 then x.heap.size = w4.heap.size else if k = 5 then x.grownBy y (Value.ownBlock (ur)) else (Below x.heap.size x y ∧ (k = 4 ∨ y.heap.size = x.heap.size))) (by kernel_rfl) (by kernel_rfl) (of_decide_eq_true (by kernel_rfl)) (by kernel_rfl) (by kernel_rfl) trivial ⟨fun _ => ⟨rfl, rfl, rfl, rfl, Nat.le_refl _, fun _ _ => rfl⟩, fun h => by cases h⟩ (fun ls ls' x e h1 => ⟨fun h2 => h1.1 (by rw [e]; exact h2), fun h2 h3 => h1.2 (by rw [e]; exact h2) (by rw [e]; exact h3)⟩) (fun _ _ _ _ _ => trivial) (fun i ls x _ h1 => by rw [show ([] : List Bool).getD i true = true from rfl] at h1; cases h1) ?_ ⟨rfl, rfl, rfl, rfl, rfl, rfl, trivial⟩ ⟨?_, ?_, ?_, ?_, ?_, ?_, trivial⟩ ?_ ?_
      · intro i k u8 x y9 hik _ h1 hK
        match i, h1, hik with
        | 0, h1, _ => exact h1
        | 1, h1, _ => exact h1
        | 2, h1, _ => exact h1
        | 3, h1, _ => exact h1
        | 4, h1, hik =>
          obtain ⟨q, hq, hqw, ⟨y, hXy, hqx⟩, hlt⟩ := h1
          have hql := (Array.getElem?_eq_some_iff.1 hqx).1
          by_cases k3 : k = 3
          · rw [if_pos k3] at hK; omega
          · rw [if_neg k3] at hK
            by_cases k5 : k = 5
            · rw [if_pos k5] at hK
              exact ⟨q, hq, hqw, ⟨y, hXy, (hK.block q hql (fun e => by have := HUq.out q e.symm; omega)).trans hqx⟩, Nat.lt_of_lt_of_le hlt hK.size⟩
            · rw [if_neg k5] at hK
              exact ⟨q, hq, hqw, ⟨y, hXy, (hK.1.block q hql).trans hqx⟩, Nat.lt_of_lt_of_le hlt hK.1.size⟩
        | 5, h1, hik =>
          obtain ⟨y, v9, hXy, hA, hlt⟩ := h1
          by_cases k3 : k = 3
          · rw [if_pos k3] at hK; omega
          · rw [if_neg k3, if_neg (fun e => hik e.symm)] at hK
            exact ⟨y, v9, hXy, hA.below hK.1, Nat.lt_of_lt_of_le hlt hK.1.size⟩
        | _ + 6, _, _ => trivial
      · intro _ b9 x ls hR hS hself hup hdn hk
        have h3 : b9.eval (.tmp 3) = .pointer (some ⟨N, 0, none⟩) := Eq.mp (by kernel_rfl) (hk 3 (by decide))
        refine Rp.doesX_of ?_
        exact Rs.does_field _ _ h3 (by have := fld_nd N 0 5 (by decide) x; rw [Nat.zero_add] at this; exact this) ⟨by rw [if_neg (by decide), if_neg (by decide)]; exact ⟨Below.refl _ _, .inr rfl⟩, rfl, ⟨fun hh => hS.1 hh, fun h2 h3 => hS.2 h2 h3⟩⟩
      · intro _ b9 x ls hR hS hself hup hdn hk
        have h15 : b9.eval (.tmp 15) = .pointer (some ⟨N, 5, none⟩) := Eq.mp (by kernel_rfl) (hk 15 (by decide))
        have l5 : ls 5 = false := hdn [] 5 _ rfl (by kernel_rfl)
        have hc : x.cell? ⟨N, 5, none⟩ = some (ur) := by
          cases l3 : ls 3 with
          | false => have hm := HM.out.below (hS.1 l3).2; simp [World.cell?, hm.bx.box]
          | true => obtain ⟨y, v9, hXy, hm, hsz⟩ := hS.2 l3 l5; simp [World.cell?, hm.bx.box]
        refine Rp.doesX_of ?_
        exact Rg.does_load _ _ h15 (Ap.load_plainP (by simp [isAgg]) hc) ⟨by rw [if_neg (by decide), if_neg (by decide)]; exact ⟨Below.refl _ _, .inr rfl⟩, rfl, ⟨fun hh => hS.1 hh, fun h2 h3 => hS.2 h2 h3⟩⟩
      · intro _ b9 x ls hR hS hself hup hdn hk
        have h0 : b9.eval (.tmp 0) = .pointer (some ⟨b, 0, none⟩) := Eq.mp (by kernel_rfl) (hk 0 (by decide))
        refine Rp.doesX_of ?_
        exact Rg.does_move ⟨by rw [if_neg (by decide), if_neg (by decide)]; exact ⟨Below.refl _ _, .inr rfl⟩, h0, ⟨fun hh => hS.1 hh, fun h2 h3 => hS.2 h2 h3⟩⟩
      · intro _ b9 x ls hR hS hself hup hdn hk
        have h17 : b9.eval (.tmp 17) = .pointer (some ⟨b, 0, none⟩) := Eq.mp (by kernel_rfl) (hk 17 (by decide))
        obtain ⟨hsz, hb⟩ := hS.1 hself
        have hm := HM.out.below hb
        refine Rp.does_func #[.pointer (some ⟨b, 0, none⟩)] Tryz.func133 (by kernel_rfl) (by kernel_rfl) (by simp [h17, show ∀ v, b9.eval (.const v) = v from fun _ => rfl]) (HCall.out x hm.bx.rd hb.size) ?_
        intro e w' hp
        rcases post_cases hp with ⟨er, hXe, rfl, hb9⟩ | ⟨y, u9, v9, hXy, rfl, he, ht, hr⟩
        · exact .inr ⟨_, rfl, er, hXe, rfl, (hb.mono HM.out.bx.rd.size).trans hb9⟩
        · exact .inl ⟨u9, rfl, by rw [if_pos rfl]; exact hsz, ⟨y, hXy, he⟩, ⟨fun hh => by simp [Rs.upd] at hh, fun _ _ => ⟨y, v9, hXy, hm.step ht hr, by have := ht.size; omega⟩⟩⟩
      · intro _ b9 x ls hR hS hself hup hdn hk
        have h18 : (fun u9 (x : World) => ∃ y, X = .ok y ∧ u9 = rrV y.1) (b9.eval (.tmp 18)) x := Eq.mp (by kernel_rfl) (hk 18 (by decide))
        have l3 : ls 3 = true := hup [] 3 (by kernel_rfl)
        have l5 : ls 5 = false := hdn [] 5 _ rfl (by kernel_rfl)
        obtain ⟨y, v9, hXy, hm, hsz⟩ := hS.2 l3 l5
        obtain ⟨y2, hXy2, he⟩ := h18
        have hyy : y2 = y := Except.ok.inj (hXy2.symm.trans hXy)
        subst hyy
        have hal := (Below.refl x.heap.size x).alloc (Nat.le_refl _) (.cells (rrC y2.1).toArray rrT)
        refine Rp.doesX_of ?_
        exact Rg.does_build #[(0, rrV y2.1)] _ (by simp [he]) (by unfold rrV; go_simp; rfl) ⟨by rw [if_neg (by decide), if_neg (by decide)]; exact ⟨hal, .inl rfl⟩, ⟨x.heap.size, rfl, hsz, ⟨y2, hXy, heap_alloc_new x _⟩, by rw [World.size_alloc]; omega⟩, ⟨fun hh => absurd (l3.symm.trans hh) (by decide), fun _ _ => ⟨y2, v9, hXy, hm.below hal, by rw [World.size_alloc]; omega⟩⟩⟩
      · intro _ b9 x ls hR hS hself hup hdn hk
        have h16 : b9.eval (.tmp 16) = ur := Eq.mp (by kernel_rfl) (hk 16 (by decide))
        have h19 : (fun u9 x => ∃ q, u9 = .slice (some ⟨q, 0, none⟩) 1 1 ∧ w4.heap.size ≤ q ∧ (∃ y, X = .ok y ∧ x.heap[q]? = some (.cells (rrC y.1).toArray rrT)) ∧ w4.heap.size < x.heap.size) (b9.eval (.tmp 19)) x := Eq.mp (by kernel_rfl) (hk 19 (by decide))
        have l3 : ls 3 = true := hup [] 3 (by kernel_rfl)
        obtain ⟨y, v9, hXy, hm, hsz⟩ := hS.2 l3 hself
        obtain ⟨q, hq, hqw, ⟨y2, hXy2, hqx⟩, hlt⟩ := h19
        have hyy : y2 = y := Except.ok.inj (hXy2.symm.trans hXy)
        subst hyy
        obtain ⟨u9, w', hrun, hown', hgr, hat⟩ := Ap.run_append_at (P := Tryz.prog) x 0 34 34 34 rrT i0 _ 4 56 Tryz.underlying34 (append_side Tryz.underlying34) hi0 hz0 hz1 hz2 rfl (by decide) (by decide) (ur) _ _ hm.rows.r (b9.eval (.tmp 19)) 1 (rrC y2.1) (by rw [hq]; exact src_cells (b := q) (off := 0) rfl (rrC_one _) (.inr rfl) (fun i z hi => by rw [Nat.zero_add]; unfold World.cell?; simp only [hqx]; simpa using hi)) (by unfold maxLen; have := HLen.out; omega) (by have := HLen.out; omega) (Nat.zero_le _)
        refine Rp.doesX_of ?_
        exact Ap.does_append (ur) _ u9 w' h16 rfl hrun ⟨by rw [if_neg (by decide), if_pos rfl]; exact hgr, ⟨y2, v9, hXy, hm.app_r y2.1 hgr hown' hat, Nat.lt_of_lt_of_le hlt hgr.size⟩, ⟨fun hh => absurd (l3.symm.trans hh) (by decide), fun _ hh => by simp [Rs.upd] at hh⟩⟩
      · intro ch a' w' hdf hD
        obtain ⟨er, hXe, hpe, hbe⟩ := hD
        refine ⟨hdf, ?_⟩
        rw [← hpe]
        have hz : Z = .error er := by rw [HZ.out, HStep.out, hXe]; rfl
        exact post_error hz ((HBl.out.trans (HM.out.belowB HV.out)).trans hbe)
      intro vals wD ls _ hSD _ hL
      obtain ⟨g0, g1, g2, g3, g4, g5, _⟩ := hL
      obtain ⟨y, v9, hXy, hA, _⟩ := (g5 : (fun u9 x => ∃ y v9, X = .ok y ∧ MidA w2 v x b B P v9 y.2 d N (n1) ({ n1 with rs := n1.rs ++ [y.1] }) uw ur uk uw u9 uk ∧ w4.heap.size < x.heap.size) (vals 5) wD)
      clear g0 g1 g2 g3 g4 hSD
      obtain ⟨n2, hn2⟩ : ∃ n2 : Nd, { n1 with rs := n1.rs ++ [y.1] } = n2 := ⟨_, rfl⟩
      rw [hn2] at hA
      have HN2 := Lib.hid hn2
      simp only [Rg.putAll, List.take_succ_cons, List.take_zero, List.drop_succ_cons, List.drop_zero, List.setIfInBounds_toArray, List.set_cons_succ, List.set_cons_zero]
      generalize vals 0 = g0 at *
      generalize vals 1 = g1 at *
      generalize vals 2 = g2 at *
      generalize vals 3 = g3 at *
      generalize vals 4 = g4 at *
      generalize vals 5 = u9 at *
      obtain ⟨a9, c9, hu9, _⟩ := ownsRow_slice hA.rows.r
      subst hu9
      obtain ⟨w9, hw9, hm9⟩ := hA.set 5 (.slice a9 n2.rs.length c9) (by rw [← HN2.out]; rfl)
      obtain ⟨⟨x0, x1, x2, x3, x4, x5, x6, x7⟩, z0, z1, z2, z3, z4, z5, z6, z7⟩ := nd_cells hA.bx.box
      have HM9 := Lib.hid hm9
      have HXy := Lib.hid hXy
      clear hA hm9 hXy i0 hi0 hz0 hz1 hz2 hn2
      have HRun2 : Hid (whileM simB simT n2 y.2 = whileM simB simT n0 s) := by show _ = _; rw [HStep.out, HXy.out, ← HN2.out]; rfl
      have HLt : Hid (y.2.2.length < s'.2.length) := redir_lt HZr.out (by rw [HX.out, HXy.out])
      have HEq : Hid (n2.ws = n1.ws ∧ n2.rs.length = n1.rs.length + 1 ∧ n2.st = n1.st) := by rw [← HN2.out]; exact ⟨rfl, by show (n1.rs ++ [y.1]).length = _; simp, rfl⟩
      have HS2 : Hid (y.2.1 = s.1) := (redir_idle s' y (by rw [HX.out, HXy.out])).trans HS1.out
      clear HN2 HRun HCall HLen HStep
      go_wp2_with fail
      go_roundw
      case rel => exact ⟨y.2, n2, v9, _, _, _, HRun2.out, HM9.out, by have := HEq.out; have := HI1.out; have := HLt.out; rw [HEq.out.1, HEq.out.2.1]; omega, by rw [HEq.out.1, HEq.out.2.2]; exact HSt.out, HS2.out⟩
      case measure => rw [rd_len HM9.out.bx.rd, rd_len HM0.out.bx.rd]; exact HLt.out
    | false =>
      go_wp2_with fail
      refine (next_calls w4 b B _ v' s' d HM.out.bx.rd).mono ?_
      rintro r w5 ⟨rfl, hb5⟩
      rw [show nx s' = t from HT.out]
      have HM5 := Lib.hid (HM.out.below hb5)
      clear hb5
      by_cases hk : t.k = 1
      · have e1 : ((t.k : Int) == 1) = true := by simp; omega
        have e3 : decide ((t.k : Int) = 1) = true := by simp; omega
        have HC : Hid (simB s' = true) := by show _ = _; unfold simB; rw [HT.out, decide_eq_true hk, Bool.or_true]
        have HXr : Hid (rawM s' = .ok (t.t, tk s')) := by show _ = _; unfold rawM; rw [HT.out, if_pos hk]
        have HStep : Hid (whileM simB simT n0 s = whileM simB simT (addW n1 t.t) (tk s')) := by
          show _ = _
          rw [← HRun.out, while_eq sim_takes sim_ne, if_pos HC.out]
          show bd (simT n1 s') _ = _
          unfold simT
          rw [if_neg (by rw [show redirects s' = false from HZr.out]; decide), HXr.out]
          rfl
        have HTok : Hid (t.t.length ≤ 100000) := by
          obtain ⟨t', l', hs⟩ := List.exists_cons_of_ne_nil HM5.out.bx.rd.ok.ne
          have := HM5.out.bx.rd.ok.each t' (by rw [hs]; exact List.mem_cons_self)
          show _ ≤ _
          rw [← HT.out, nx_at hs]
          exact this.1
        have HLt : Hid ((tk s').2.length < s'.2.length) := tk_lt (by rw [HT.out]; omega)
        have HS2 : Hid ((tk s').1 = s.1) := by show _ = _; rw [tk_ns]; exact HS1.out
        clear hk
        go_wp2_with fail
        refine (raw_calls w5 b B _ v' s' d HM5.out.bx.rd).mono ?_
        rintro r w6 hp
        rw [HXr.out] at hp
        obtain ⟨u6, v6, rfl, hu6, ht6, hr6⟩ := hp
        have hu6' : u6 = .string (str t.t) := hu6
        subst hu6'
        have HM6 := Lib.hid (HM5.out.step ht6 hr6)
        clear hu6 ht6 hr6
        go_wp2_with fail
        refine (sets_calls w6 t.t HTok.out).mono ?_
        rintro r w7 ⟨rfl, hb7⟩
        have HM7 := Lib.hid (HM6.out.below hb7)
        clear hb7
        obtain ⟨q, hq⟩ : ∃ q, (setsM t.t).2.2 = q := ⟨_, rfl⟩
        have HQ := Lib.hid hq
        rw [hq]
        obtain ⟨q1, hq1⟩ : ∃ q1, (setsM t.t).1 = q1 := ⟨_, rfl⟩
        obtain ⟨q2, hq2⟩ : ∃ q2, (setsM t.t).2.1 = q2 := ⟨_, rfl⟩
        rw [hq1, hq2]
        clear hq hq1 hq2
        obtain ⟨n5, hn5⟩ : ∃ n5 : Nd, n5 = { n1 with st := if (setsM t.t).2.2 = true ∧ n1.st = n1.ws.length then n1.st + 1 else n1.st } := ⟨_, rfl⟩
        have HN5 := Lib.hid hn5
        clear hn5
        obtain ⟨⟨aw, cw, huw⟩, ⟨ar, cr, hur⟩, ⟨ak, ck, huk⟩⟩ := HM7.out.lens
        obtain ⟨L, hL⟩ : ∃ L, n1.ws.length = L := ⟨_, rfl⟩
        obtain ⟨K, hK⟩ : ∃ K, n1.st = K := ⟨_, rfl⟩
        have HL := Lib.hid hL
        have HK := Lib.hid hK
        have hKL : K ≤ 20000 := by have := HI1.out; have := HSt.out; omega
        rw [hL] at huw
        subst huw
        clear hur huk hL hK
        obtain ⟨C, hC⟩ : ∃ C, (q && decide (K = L)) = C := ⟨_, rfl⟩
        have HC9 := Lib.hid hC
        go_upto_region 7 with fail
        go_cut [43] (fun s43 wx => s43 = .bool C ∧ wx = w7)
        case first =>
          obtain ⟨⟨x0, x1, x2, x3, x4, x5, x6, x7⟩, z0, z1, z2, z3, z4, z5, z6, z7⟩ := nd_cells HM7.out.bx.box
          rw [show n1.st = K from HK.out] at x4
          clear hC
          cases q with
          | false =>
            go_wp2_with fail
            go_meet
            exact ⟨by rw [← HC9.out]; rfl, rfl⟩
          | true =>
            by_cases hKL2 : K = L
            · have e1 : ((K : Int) == (L : Int)) = true := by rw [beq_iff_eq]; omega
              have e3 : decide ((K : Int) = (L : Int)) = true := decide_eq_true (by omega)
              have hc9 : C = true := by rw [← HC9.out, decide_eq_true hKL2]; rfl
              clear hKL2
              go_wp2_with fail
              go_meet
              exact ⟨by rw [hc9], rfl⟩
            · have e1 : ((K : Int) == (L : Int)) = false := by rw [beq_eq_false_iff_ne]; omega
              have e3 : decide ((K : Int) = (L : Int)) = false := decide_eq_false (by omega)
              have hc9 : C = false := by rw [← HC9.out, decide_eq_false hKL2]; rfl
              clear hKL2
              go_wp2_with fail
              go_meet
              exact ⟨by rw [hc9], rfl⟩
        obtain ⟨rfl, hwc⟩ := hcut
        have hwc2 := hwc.symm
        subst hwc2
        clear hwc hC
        go_upto_if 43 with fail
        go_cut [] (fun wx => Mid w2 v wx b B P v6 (tk s') d N n5 (.slice aw L cw) ur uk)
        case first =>
          obtain ⟨⟨x0, x1, x2, x3, x4, x5, x6, x7⟩, z0, z1, z2, z3, z4, z5, z6, z7⟩ := nd_cells HM7.out.bx.box
          rw [show n1.st = K from HK.out] at x4
          cases C with
          | false =>
            have hsame : n5 = n1 := by
              rw [HN5.out, if_neg (fun h => ?_)]
              have h9 := HC9.out
              rw [HQ.out, HK.out, HL.out] at h
              rw [h.1, decide_eq_true h.2] at h9
              cases h9
            go_wp2_with fail
            go_meet
            rw [hsame]
            exact HM7.out
          | true =>
            have h9 := HC9.out
            rw [Bool.and_eq_true] at h9
            have hn5 : n5 = { n1 with st := K + 1 } := by rw [HN5.out, if_pos ⟨by rw [HQ.out]; exact h9.1, by rw [HK.out, HL.out]; exact of_decide_eq_true h9.2⟩, HK.out]
            obtain ⟨w8, hw8, hm8⟩ := HM7.out.set 4 (.int .i64 ((K : Int) + 1)) n5 (by rw [hn5]; rfl) (by rw [hn5]) (by rw [hn5]) (by rw [hn5])
            clear h9 hn5
            go_wp2_with fail
            go_meet
            exact hm8
        case rest =>
          have HMc := Lib.hid hcut
          clear hcut
          have HLen : Hid (n5.ws.length ≤ 100000) := by rw [HN5.out]; show n1.ws.length ≤ _; have := HI1.out; omega
          have HL5 : Hid (n5.ws.length = L) := by rw [HN5.out]; exact HL.out
          obtain ⟨i0, hi0, hz0, hz1, hz2⟩ := info_parts info_st
          obtain ⟨w8, hw8⟩ : ∃ w8, wc.alloc (.cells #[.string (str t.t)] stT) = w8 := ⟨_, rfl⟩
          have hb8 : Below wc.heap.size wc w8 := by rw [← hw8]; exact (Below.refl _ _).alloc (Nat.le_refl _) _
          have hq8 : w8.heap[wc.heap.size]? = some (.cells #[sv t.t] stT) := by rw [← hw8]; exact heap_alloc_new _ _
          have HM8 := Lib.hid (HMc.out.below hb8)
          have HS8 : Hid (Base.Src Tryz.prog w8 1 (.slice (some ⟨wc.heap.size, 0, none⟩) 1 1) 1 ([sv t.t])) := src_cells (b := wc.heap.size) (off := 0) rfl (by intro u hu; obtain rfl := List.mem_singleton.1 hu; rfl) (.inr rfl) (fun i z hi => by rw [Nat.zero_add]; unfold World.cell?; simp only [hq8]; simpa using hi)
          obtain ⟨⟨x0, x1, x2, x3, x4, x5, x6, x7⟩, z0, z1, z2, z3, z4, z5, z6, z7⟩ := nd_cells HMc.out.bx.box
          clear hb8 hq8
          go_wp2_with (at_builtin; refine Ap.wpList_append_at rfl (.tmp 49) (.tmp 51) 33 33 rfl 0 stT i0 _ 1 16 Tryz.underlying33 (append_side Tryz.underlying33) hi0 hz0 hz1 hz2 rfl (by decide) (by decide) _ _ _ rfl HM8.out.rows.w _ 1 _ rfl HS8.out ?_ ?_ ?_ ?_)
          case _ => unfold maxLen; have := HLen.out; omega
          case _ => have := HLen.out; omega
          case _ => exact Nat.zero_le _
          intro u9 wD hown hgr hat
          have hA := HM8.out.app_w t.t hgr hown hat
          obtain ⟨n2, hn2⟩ : ∃ n2 : Nd, { n5 with ws := n5.ws ++ [t.t] } = n2 := ⟨_, rfl⟩
          rw [hn2] at hA
          have HN2 := Lib.hid hn2
          obtain ⟨a9, c9, hu9, _⟩ := ownsRow_slice hA.rows.w
          subst hu9
          obtain ⟨w9, hw9, hm9⟩ := hA.set 3 (.slice a9 n2.ws.length c9) (by rw [← HN2.out]; rfl)
          clear x0 x1 x2 x3 x4 x5 x6 x7 z0 z1 z2 z3 z4 z5 z6 z7
          obtain ⟨⟨x0, x1, x2, x3, x4, x5, x6, x7⟩, z0, z1, z2, z3, z4, z5, z6, z7⟩ := nd_cells hA.bx.box
          have HM9 := Lib.hid hm9
          have hln : n2.ws.length = n5.ws.length + 1 := by rw [← HN2.out]; simp
          clear hA hm9 hn2 hown hgr hat i0 hi0 hz0 hz1 hz2 hw8
          have hadd : addW n1 t.t = n2 := by rw [← HN2.out, HN5.out]; rfl
          have HRun2 : Hid (whileM simB simT n2 (tk s') = whileM simB simT n0 s) := by show _ = _; rw [HStep.out, hadd]
          have HLens : Hid (n2.ws.length = n1.ws.length + 1 ∧ n2.rs.length = n1.rs.length ∧ n2.st ≤ n2.ws.length) := by
            rw [← hadd]
            exact ⟨by show (n1.ws ++ [t.t]).length = _; simp, rfl, add_le HSt.out⟩
          clear hadd hln HLen HL5 HN2
          go_wp2_with fail
          go_roundw
          case rel => exact ⟨tk s', n2, v6, _, _, _, HRun2.out, HM9.out, by have := HLens.out; have := HI1.out; have := HLt.out; omega, HLens.out.2.2, HS2.out⟩
          case measure => rw [rd_len HM9.out.bx.rd, rd_len HM0.out.bx.rd]; exact HLt.out
      · have e1 : ((t.k : Int) == 1) = false := by simp; omega
        have e3 : decide ((t.k : Int) = 1) = false := by simp; omega
        have HX9 : Hid (Z = Sy.putM n1 s') := by
          show _ = _
          rw [HZ.out, ← HRun.out, while_eq sim_takes sim_ne, if_neg (by unfold simB; rw [show redirects s' = false from HZr.out, HT.out, decide_eq_false hk]; decide)]
          rfl
        have HPs2 : Hid (s'.1.length ≤ 100000) := by rw [HS1.out]; exact HPs.out
        obtain ⟨⟨x0, x1, x2, x3, x4, x5, x6, x7⟩, z0, z1, z2, z3, z4, z5, z6, z7⟩ := nd_cells HM5.out.bx.box
        clear hk
        go_wp2_with fail
        refine (put_calls w5 b B P _ s' d HM5.out.rd n1 _ _ _ (HM5.out.rowsP HB2.out) HPs2.out).mono ?_
        rintro r w8 hp
        rw [← HX9.out] at hp
        have HP8 := Lib.hid hp
        clear hp
        rcases post_cases HP8.out with ⟨er, hXe, _, _⟩ | ⟨y, u8, v8, hX8, rfl, he, ht8, hr8⟩
        · exact absurd (HX9.out.symm.trans hXe) (by intro h; cases h)
        · have HF8 : Hid (Turn b v W v8 w8 ∧ Rd w8 b B P v8 y.2 d) := ⟨(HT0.out.trans HM5.out.bx.turn).trans ht8, hr8⟩
          have HX8 := Lib.hid hX8
          clear ht8 hr8 hX8
          have he' : u8 = .int .i64 (y.1 : Int) := he
          subst he'
          clear he
          go_wp2_with fail
          go_ret
          exact post_ok HX8.out rfl HF8.out.1 HF8.out.2
end Go.Proofs.YtiklkhbfilbpeaaGreatDoor.Sx
set_option linter.unusedVariables false
set_option linter.unusedSimpArgs false
set_option maxRecDepth 100000
namespace Go.Proofs.YtiklkhbfilbpeaaGreatDoor.Sx
open Go.RowKit Base Lx Sy
/-- A row of redirections that is handed back. -/
def PostRs (W : World) (b B : Nat) (P : Nat → Prop) (v : Value) (d : Nat) (x : Sy.P (List Rdr)) (r : Ending) (W' : World) : Prop :=
  match x with
  | .error e => r = panY e.1 e.2 ∧ Below B W W'
  | .ok y => ∃ u v', r = .returned u ∧ W'.ownsRow 0 rrT 4 u y.1.length (y.1.flatMap rrC) ∧ (∀ g, u.ownBlock = some g → W.heap.size ≤ g) ∧ Turn b v W v' W' ∧ Rd W' b B P v' y.2 d
theorem postRs_cases {W : World} {b B : Nat} {P : Nat → Prop} {v : Value} {d : Nat} {X : Sy.P (List Rdr)} {r : Ending} {W' : World} (h : PostRs W b B P v d X r W') :
    (∃ e, X = .error e ∧ r = panY e.1 e.2 ∧ Below B W W') ∨ (∃ y u v', X = .ok y ∧ r = .returned u ∧ W'.ownsRow 0 rrT 4 u y.1.length (y.1.flatMap rrC) ∧ (∀ g, u.ownBlock = some g → W.heap.size ≤ g) ∧ Turn b v W v' W' ∧ Rd W' b B P v' y.2 d) := by
  cases X with
  | error e => exact .inl ⟨e, rfl, h.1, h.2⟩
  | ok y =>
    obtain ⟨u, v', h1, h2, h3, h4, h5⟩ := h
    exact .inr ⟨y, u, v', rfl, h1, h2, h3, h4, h5⟩
/-- A row of the call's own, beside the reader. -/
structure ROut (W0 : World) (v0 : Value) (W : World) (b B : Nat) (P : Nat → Prop) (v : Value) (s : S) (d : Nat) (u : Value) (l : List Rdr) : Prop where
  rd : Rd W b B (fun g => P g ∧ u.ownBlock ≠ some g) v s d
  turn : Turn b v0 W0 v W
  row : W.ownsRow 0 rrT 4 u l.length (l.flatMap rrC)
  new : ∀ g, u.ownBlock = some g → W0.heap.size ≤ g
  old : b < W0.heap.size
section
variable {W0 W W' : World} {b B : Nat} {P : Nat → Prop} {v0 v v' : Value} {s s' : S} {d : Nat} {u u' : Value} {l : List Rdr}
theorem ROut.below (h : ROut W0 v0 W b B P v s d u l) (hb : Below W.heap.size W W') : ROut W0 v0 W' b B P v s d u l := ⟨h.rd.below hb, h.turn.trans (Turn.of_below hb), ownsRow_below h.row hb, h.new, h.old⟩
theorem ROut.step (h : ROut W0 v0 W b B P v s d u l) (ht : Turn b v W v' W') (hr : Rd W' b B (fun g => P g ∧ u.ownBlock ≠ some g) v' s' d) : ROut W0 v0 W' b B P v' s' d u l :=
  ⟨hr, h.turn.trans ht, own_keep h.row (fun g X hg hX => by
    have h1 := h.new g hg
    have h2 := h.old
    exact ht.block g (Array.getElem?_eq_some_iff.1 hX).1 (by omega) (h.rd.own_ne hX (by decide))), h.new, h.old⟩
theorem ROut.app (h : ROut W0 v0 W b B P v s d u l) (x : Rdr) (hg : W.grownBy W' u.ownBlock) (ho : W'.ownsRow 0 rrT 4 u' (l.length + 1) (l.flatMap rrC ++ rrC x)) (hat : ∀ g, u'.ownBlock = some g → g < W.heap.size → u.ownBlock = some g) : ROut W0 v0 W' b B P v s d u' (l ++ [x]) := by
  have hB : ∀ g, u.ownBlock = some g → B ≤ g ∧ g ≠ b ∧ v.ownBlock ≠ some g := fun g hg2 => by
    have h1 := h.new g hg2
    have h2 := h.old
    have h3 := h.rd.bB
    obtain ⟨X, hX⟩ := own_at h.row hg2
    exact ⟨by omega, by omega, h.rd.own_ne hX (by decide)⟩
  have hrd : Rd W' b B (fun g => (P g ∧ u.ownBlock ≠ some g) ∧ g < W.heap.size) v s d := (h.rd.less (fun g hp hl => ⟨hp, hl⟩)).turn hg (fun g e _ => ⟨(hB g e).1, (hB g e).2.1, (hB g e).2.2, fun hP => absurd e hP.1.2⟩)
  refine ⟨hrd.less (fun g hp _ => ⟨hp.1.1, fun e => hp.1.2 (hat g e hp.2)⟩), Turn.grown h.turn hg (fun g e => h.new g e), ?_, fun g hg2 => ?_, h.old⟩
  · rw [show (l ++ [x]).length = l.length + 1 by simp, show (l ++ [x]).flatMap rrC = l.flatMap rrC ++ rrC x by simp]
    exact ho
  · by_cases hl : g < W.heap.size
    · exact h.new g (hat g hg2 hl)
    · have := h.turn.size; omega
end
set_option maxHeartbeats 4000000 in
theorem redirs_calls (W : World) (b B : Nat) (P : Nat → Prop) (v : Value) (s : S) (d : Nat) (h : Rd W b B P v s d) :
    Calls Tryz.prog 136 #[.pointer (some ⟨b, 0, none⟩)] W (PostRs W b B P v d (redirsM s)) := by
  have HO0 : Hid (ROut W v W b B P v s d (.slice none 0 0) []) := ⟨h.less (fun g hg _ => ⟨hg, fun e => by cases e⟩), Turn.refl _ _ _, World.ownsRow_nil _ _ _ _, fun g hg => (by cases hg), h.lt⟩
  have HFew := Lib.hid h.ok.few
  have HV : Hid (∀ g, v.ownBlock = some g → B ≤ g) := fun g hg => (h.own g hg).1
  obtain ⟨Z, hZ⟩ : ∃ Z, redirsM s = Z := ⟨_, rfl⟩
  have HZ : Hid (Z = whileM redirects redS [] s) := hZ.symm
  rw [hZ]
  clear h hZ
  go_enter Tryz.func136, Tryz.ntmps136
  go_wp2_with fail
  go_loopw [3] (fun v3 wr => ∃ (s' : S) (l : List Rdr) (v' u : Value), u = v3 ∧ whileM redirects redS l s' = Z ∧ ROut W v wr b B P v' s' d u l ∧ l.length + s'.2.length ≤ 10000) (fun _ wr => tkLen wr b)
  case atStart => exact ⟨s, [], v, _, rfl, HZ.out.symm, HO0.out, by have := HFew.out; simpa using this⟩
  case round =>
    obtain ⟨s', l, v', u, hu, hrun, ho, hi⟩ := hrel
    subst hu
    have HRun := Lib.hid hrun
    have HO1 := Lib.hid ho
    have HI := Lib.hid hi
    clear hrun ho hi HO0
    go_wp2_with fail
    refine (redirects_calls wr b B _ v' s' d HO1.out.rd).mono ?_
    rintro r w4 ⟨rfl, hb4⟩
    have HO := Lib.hid (HO1.out.below hb4)
    clear hb4
    obtain ⟨z, hz⟩ : ∃ z, redirects s' = z := ⟨_, rfl⟩
    have HZr := Lib.hid hz
    rw [hz]
    clear hz
    cases z with
    | false =>
      have HX : Hid (Z = .ok (l, s')) := by show _ = _; rw [← HRun.out, while_eq redirs_takes redirs_ne, if_neg (by rw [show redirects s' = false from HZr.out]; decide)]
      go_wp2_with fail
      go_ret
      rw [show Z = .ok (l, s') from HX.out]
      exact ⟨_, v', rfl, HO.out.row, HO.out.new, HO.out.turn, HO.out.rd.less (fun g hg _ => hg.1)⟩
    | true =>
      have hstep : ∀ Y, redirM s' = Y → Z = bd (bd Y fun x s => .ok (l ++ [x], s)) (whileM redirects redS) := fun Y hY => by
        rw [← HRun.out, while_eq redirs_takes redirs_ne, if_pos HZr.out, ← hY]
      go_wp2_with fail
      refine (redir_calls w4 b B _ v' s' d HO.out.rd HZr.out).mono ?_
      rintro r w5 hp
      rcases post_cases hp with ⟨er, hXe, rfl, hb9⟩ | ⟨y, u5, v5, hXy, rfl, he, ht, hr⟩
      · refine ⟨rfl, ?_⟩
        rw [hstep _ hXe]
        have h1 := HO.out.rd.bB
        have h2 := HO.out.old
        exact ⟨rfl, (HO.out.turn.below h1 HV.out (by omega)).trans hb9⟩
      · have he' : u5 = rrV y.1 := he
        subst he'
        have HO5 := Lib.hid (HO.out.step ht hr)
        have HStep := Lib.hid (hstep _ hXy)
        have HLt : Hid (y.2.2.length < s'.2.length) := redir_lt HZr.out (by rw [hXy])
        have HLen : Hid (l.length ≤ 100000) := by have := HI.out; show _ ≤ _; omega
        clear he ht hr hp hstep hXy
        obtain ⟨i0, hi0, hz0, hz1, hz2⟩ := info_parts info_rr
        obtain ⟨w8, hw8⟩ : ∃ w8, w5.alloc (.cells #[.int .i64 (y.1.fd : Int), .string (str y.1.o), .string (str y.1.w), .string (str y.1.b)] rrT) = w8 := ⟨_, rfl⟩
        have hb8 : Below w5.heap.size w5 w8 := by rw [← hw8]; exact (Below.refl _ _).alloc (Nat.le_refl _) _
        have hq8 : w8.heap[w5.heap.size]? = some (.cells (rrC y.1).toArray rrT) := by rw [← hw8]; exact heap_alloc_new _ _
        have HO8 := Lib.hid (HO5.out.below hb8)
        have HS8 : Hid (Base.Src Tryz.prog w8 4 (.slice (some ⟨w5.heap.size, 0, none⟩) 1 1) 1 (rrC y.1)) := src_cells (b := w5.heap.size) (off := 0) rfl (rrC_one _) (.inr rfl) (fun i z hi => by rw [Nat.zero_add]; unfold World.cell?; simp only [hq8]; simpa using hi)
        clear hb8 hq8
        unfold rrV
        go_wp2_with (at_builtin; refine Ap.wpList_append_at rfl (.tmp 6) (.tmp 9) 34 34 rfl 0 rrT i0 _ 4 56 Tryz.underlying34 (append_side Tryz.underlying34) hi0 hz0 hz1 hz2 rfl (by decide) (by decide) _ _ _ rfl HO8.out.row _ 1 _ rfl HS8.out ?_ ?_ ?_ ?_)
        case _ => unfold maxLen; have := HLen.out; omega
        case _ => have := HLen.out; omega
        case _ => exact Nat.zero_le _
        intro u9 wD hown hgr hat
        have HO9 := Lib.hid (HO8.out.app y.1 hgr hown hat)
        have HRun2 : Hid (whileM redirects redS (l ++ [y.1]) y.2 = Z) := HStep.out.symm
        clear hown hgr hat i0 hi0 hz0 hz1 hz2 hw8
        go_wp2_with fail
        go_roundw
        case rel => exact ⟨y.2, l ++ [y.1], v5, _, rfl, HRun2.out, HO9.out, by have := HI.out; have := HLt.out; simp only [List.length_append, List.length_singleton]; omega⟩
        case measure => rw [rd_len HO9.out.rd, rd_len HO1.out.rd]; exact HLt.out
end Go.Proofs.YtiklkhbfilbpeaaGreatDoor.Sx
set_option linter.unusedVariables false
set_option linter.unusedSimpArgs false
set_option maxRecDepth 100000
namespace Go.Proofs.YtiklkhbfilbpeaaGreatDoor.Sx
open Go.RowKit Base Lx Sy
/-- A call's end that is the whole's. -/
theorem post_turn {α : Type} {enc : α → Value → Prop} {W W1 W' : World} {b B : Nat} {P : Nat → Prop} {v v1 : Value} {d : Nat} {X : Sy.P α} {r : Ending} (ht : Turn b v W v1 W1) (hb : Below B W W1) (h : Post enc W1 b B P v1 d X r W') : Post enc W b B P v d X r W' := by
  cases X with
  | error e => exact ⟨h.1, hb.trans h.2⟩
  | ok y =>
    obtain ⟨u, v', h1, h2, h3, h4⟩ := h
    exact ⟨u, v', h1, h2, ht.trans h3, h4⟩
set_option maxHeartbeats 4000000 in
theorem command_calls {nest : S → Sy.P Nat} {d : Nat} (E : Env nest d) (W : World) (b B : Nat) (P : Nat → Prop) (v : Value) (s : S) (h : Rd W b B P v s d) (hP : ∀ g, W.heap.size ≤ g → P g) (hF : ph s ≤ 80000) :
    Calls Tryz.prog 97 #[.pointer (some ⟨b, 0, none⟩)] W (Post eN W b B P v d (cmdM nest s)) := by
  have HR := Lib.hid h
  have HE : Hid (Env nest d) := E
  have HP : Hid (∀ g, W.heap.size ≤ g → P g) := hP
  have HF : Hid (ph s ≤ 80000) := hF
  have HW : Hid (B ≤ W.heap.size) := h.size
  obtain ⟨Z, hZ⟩ : ∃ Z, cmdM nest s = Z := ⟨_, rfl⟩
  have HZ : Hid (Z = if begins s = false ∨ isM 1 [[33]] s = true then er 20 s else if isComp s = false ∧ names s = false then simpleM s else nest s) := hZ.symm
  rw [hZ]
  clear h hP hF hZ E
  go_enter Tryz.func97, Tryz.ntmps97
  go_wp2_with fail
  refine (begins_calls W b B P v s d HR.out).mono ?_
  rintro r w2 ⟨rfl, hb2⟩
  have HR2 := Lib.hid (HR.out.below hb2)
  have HB2 := Lib.hid hb2
  clear hb2
  obtain ⟨z, hz⟩ : ∃ z, begins s = z := ⟨_, rfl⟩
  have HZb := Lib.hid hz
  rw [hz]
  clear hz
  cases z with
  | false =>
    have HX : Hid (Z = er 20 s) := by show _ = _; rw [HZ.out, if_pos (.inl HZb.out)]
    go_wp2_with fail
    refine (fail_calls w2 b B P v s d HR2.out 20).mono ?_
    rintro r w3 ⟨rfl, hb3⟩
    exact ⟨rfl, post_err HX.out ((HB2.out.trans (hb3.mono HB2.out.size)).mono HW.out)⟩
  | true =>
    go_wp2_with fail
    refine (word_lit w2 b B P v s d HR2.out [[33]] (by decide)).mono ?_
    rintro r w3 ⟨rfl, hb3⟩
    have HR3 := Lib.hid (HR2.out.below ((Below.refl _ _).trans hb3))
    have HB3 := Lib.hid (HB2.out.trans (hb3.mono HB2.out.size))
    clear hb3
    obtain ⟨z, hz⟩ : ∃ z, isM 1 [[33]] s = z := ⟨_, rfl⟩
    have HZw := Lib.hid hz
    rw [hz]
    clear hz
    cases z with
    | true =>
      have HX : Hid (Z = er 20 s) := by show _ = _; rw [HZ.out, if_pos (.inr HZw.out)]
      go_wp2_with fail
      refine (fail_calls w3 b B P v s d HR3.out 20).mono ?_
      rintro r w4 ⟨rfl, hb4⟩
      exact ⟨rfl, post_err HX.out ((HB3.out.trans (hb4.mono HB3.out.size)).mono HW.out)⟩
    | false =>
      have HX0 : Hid (Z = if isComp s = false ∧ names s = false then simpleM s else nest s) := by show _ = _; rw [HZ.out, if_neg (fun h => h.elim (fun h => absurd (HZb.out.symm.trans h) (by decide)) (fun h => absurd (HZw.out.symm.trans h) (by decide)))]
      clear HZ
      go_wp2_with fail
      refine (compounds_calls w3 b B P v s d HR3.out).mono ?_
      rintro r w4 ⟨rfl, hb4⟩
      have HR4 := Lib.hid (HR3.out.below hb4)
      have HB4 := Lib.hid (HB3.out.trans (hb4.mono HB3.out.size))
      clear hb4
      obtain ⟨V, hV⟩ : ∃ V, compVal s = V := ⟨_, rfl⟩
      rw [hV]
      obtain ⟨z, hz⟩ : ∃ z, isComp s = z := ⟨_, rfl⟩
      have HZc := Lib.hid hz
      rw [hz]
      clear hz hV
      cases z with
      | true =>
        have HX : Hid (Z = nest s) := by show _ = _; rw [HX0.out, if_neg (fun h => by exact absurd (HZc.out.symm.trans h.1) (by decide))]
        go_wp2_with fail
        refine (HE.out.ih w4 b B P v s HR4.out (fun g hg => HP.out g (Nat.le_trans HB4.out.size hg)) HF.out (by first | exact .inl HZc.out | exact .inr HZn.out)).mono ?_
        rintro r w9 hp
        have HP9 := Lib.hid (post_turn (Turn.of_below HB4.out) (HB4.out.mono HW.out) hp)
        clear hp
        rw [← HX.out] at HP9
        rcases post_cases HP9.out with ⟨er, hXe, rfl, hb9⟩ | ⟨y, u9, v9, hX9, rfl, he, ht9, hr9⟩
        · exact ⟨rfl, HP9.out⟩
        · have he' : u9 = .int .i64 (y.1 : Int) := he
          subst he'
          clear he hX9 ht9 hr9
          go_wp2_with fail
          go_ret
          exact HP9.out
      | false =>
        go_wp2_with fail
        refine (names_calls w4 b B P v s d HR4.out).mono ?_
        rintro r w5 ⟨rfl, hb5⟩
        have HR5 := Lib.hid (HR4.out.below hb5)
        have HB5 := Lib.hid (HB4.out.trans (hb5.mono HB4.out.size))
        clear hb5
        obtain ⟨z, hz⟩ : ∃ z, names s = z := ⟨_, rfl⟩
        have HZn := Lib.hid hz
        rw [hz]
        clear hz
        cases z with
        | true =>
          have HX : Hid (Z = nest s) := by show _ = _; rw [HX0.out, if_neg (fun h => by exact absurd (HZn.out.symm.trans h.2) (by decide))]
          go_wp2_with fail
          refine (HE.out.ih w5 b B P v s HR5.out (fun g hg => HP.out g (Nat.le_trans HB5.out.size hg)) HF.out (by first | exact .inl HZc.out | exact .inr HZn.out)).mono ?_
          rintro r w9 hp
          have HP9 := Lib.hid (post_turn (Turn.of_below HB5.out) (HB5.out.mono HW.out) hp)
          clear hp
          rw [← HX.out] at HP9
          rcases post_cases HP9.out with ⟨er, hXe, rfl, hb9⟩ | ⟨y, u9, v9, hX9, rfl, he, ht9, hr9⟩
          · exact ⟨rfl, HP9.out⟩
          · have he' : u9 = .int .i64 (y.1 : Int) := he
            subst he'
            clear he hX9 ht9 hr9
            go_wp2_with fail
            go_ret
            exact HP9.out
        | false =>
          have HX : Hid (Z = simpleM s) := by show _ = _; rw [HX0.out, if_pos ⟨HZc.out, HZn.out⟩]
          go_wp2_with fail
          refine (simple_calls w5 b B P v s d HR5.out (fun g hg => HP.out g (Nat.le_trans HB5.out.size hg)) HF.out).mono ?_
          rintro r w9 hp
          have HP9 := Lib.hid (post_turn (Turn.of_below HB5.out) (HB5.out.mono HW.out) hp)
          clear hp
          rw [← HX.out] at HP9
          rcases post_cases HP9.out with ⟨er, hXe, rfl, hb9⟩ | ⟨y, u9, v9, hX9, rfl, he, ht9, hr9⟩
          · exact ⟨rfl, HP9.out⟩
          · have he' : u9 = .int .i64 (y.1 : Int) := he
            subst he'
            clear he hX9 ht9 hr9
            go_wp2_with fail
            go_ret
            exact HP9.out
end Go.Proofs.YtiklkhbfilbpeaaGreatDoor.Sx
