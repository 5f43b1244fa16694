/-
  EnvPlays: what lies where between two steps. Conditions: as each law says.
-/
import Derived.Test.YtchmpkgjjkfjcaaDoorEpGet
import Derived.Test.YtchmpkgjjkfjcaaDoorEnActs
set_option linter.unusedVariables false
set_option maxRecDepth 100000
namespace Go.Proofs.YtchmpkgjjkfjcaaDoor
open Go.RowKit Base

/-- But for two blocks all is as it was. -/
structure Up2 (B : Nat) (w w' : World) : Prop where
  os : w'.os = w.os
  tape : w'.tape = w.tape
  output : w'.output = w.output
  size : w.heap.size ≤ w'.heap.size
  block : ∀ k, k < w.heap.size → k ≠ B → k ≠ B + 1 → w'.heap[k]? = w.heap[k]?
theorem Up2.refl (B : Nat) (w : World) : Up2 B w w := ⟨rfl, rfl, rfl, Nat.le_refl _, fun _ _ _ _ => rfl⟩
theorem Up2.trans {B : Nat} {w w1 w2 : World} (h1 : Up2 B w w1) (h2 : Up2 B w1 w2) : Up2 B w w2 :=
  ⟨h2.os.trans h1.os, h2.tape.trans h1.tape, h2.output.trans h1.output, Nat.le_trans h1.size h2.size, fun k hk a b => (h2.block k (Nat.lt_of_lt_of_le hk h1.size) a b).trans (h1.block k hk a b)⟩
theorem Up2.of_below {B : Nat} {w w' : World} (h : Below w.heap.size w w') : Up2 B w w' := ⟨h.os, h.tape, h.output, h.size, fun k hk _ _ => h.block k hk⟩
theorem Up2.set {B : Nat} (w : World) {F : Nat} (hF : F = B ∨ F = B + 1) (j : Nat) (u : Value) : Up2 B w (w.setCell ⟨F, j, none⟩ u) := by
  have hg := Ap.grown_set w F j u
  exact ⟨hg.os, hg.tape, hg.output, hg.size, fun k hk a b => hg.block k hk (by rcases hF with rfl | rfl <;> (intro e; injection e with e; omega))⟩
theorem Up2.low {B n : Nat} {w w' : World} (h : Up2 B w w') (hB : n ≤ B) (hn : n ≤ w.heap.size) : Below n w w' :=
  ⟨h.os, h.tape, h.output, h.size, fun k hk => h.block k (by omega) (by omega) (by omega)⟩
theorem row_up2 {α : Type} {f : α → List Value} {k B : Nat} {W W' : World} {a : Option Addr} {n c : Nat} {l : List α} (h : RowOf (Ap.cellsAt f) k W a n c l) (ha : ∀ ad, a = some ad → B + 2 ≤ ad.block) (hu : Up2 B W W') : RowOf (Ap.cellsAt f) k W' a n c l := by
  obtain ⟨h1, h2, h3, b, off, h4, h5⟩ := h
  refine ⟨h1, h2, h3, b, off, h4, fun i hi j u hj => ?_⟩
  have hn : a = some ⟨b, off, none⟩ := by
    rcases h4 with h4 | h4
    · omega
    · exact h4
  have hb : B + 2 ≤ b := ha _ hn
  have hc := h5 i hi j u hj
  have hlt : b < W.heap.size := World.block_lt_of_cell? W _ hc
  have he : W'.heap[b]? = W.heap[b]? := hu.block b hlt (by omega) (by omega)
  unfold World.cell? at hc ⊢
  rw [he]
  exact hc
theorem own_up2 {B : Nat} {W W' : World} {e : TypeId} {k : Nat} {v : Value} {n : Nat} {xs : List Value} (h : W.ownsRow (B + 2) e k v n xs) (hu : Up2 B W W') : W'.ownsRow (B + 2) e k v n xs := by
  refine ⟨h.1, ?_⟩
  rcases h.2 with h2 | ⟨g, cap, cur, h1, h2, h3, h4⟩
  · exact .inl h2
  · exact .inr ⟨g, cap, cur, h1, h2, (hu.block g (Array.getElem?_eq_some_iff.1 h3).1 (by omega) (by omega)).trans h3, h4⟩
/-- The program's Env, in its box. -/
structure BxE (B : Nat) (l : List Vr) (A : List Nm) (fl : Nm) (a : Option Addr) (c : Nat) (ga : Option Addr) (gc : Nat) (W : World) : Prop where
  k : W.heap[B]? = some (.cells #[.slice a l.length c, .slice ga A.length gc, .int .i64 0, .string (str fl)] 28)
  ev : Ev W (B + 2) a c l ga gc A
  ap : ∀ ad, ga = some ad → B + 2 ≤ ad.block
  size : B + 2 ≤ W.heap.size
/-- The document's Env, in the box behind. -/
structure BxR (B : Nat) (l : List Vr) (A : List Nm) (fl : Nm) (a : Option Addr) (c : Nat) (ga : Option Addr) (gc : Nat) (W : World) : Prop where
  k : W.heap[B + 1]? = some (.cells #[.slice a l.length c, .slice ga A.length gc, .int .i64 0, .string (str fl)] 41)
  own : OwnRv W (B + 2) (.slice a l.length c) l
  args : Sts W ga A.length gc A
  ap : ∀ ad, ga = some ad → B + 2 ≤ ad.block
  size : B + 2 ≤ W.heap.size
section
variable {B : Nat} {l : List Vr} {A : List Nm} {fl : Nm} {a : Option Addr} {c : Nat} {ga : Option Addr} {gc : Nat} {W W' : World}
theorem ev_up2 (h : Ev W (B + 2) a c l ga gc A) (hp : ∀ ad, ga = some ad → B + 2 ≤ ad.block) (hu : Up2 B W W') : Ev W' (B + 2) a c l ga gc A := by
  refine ⟨?_, row_up2 h.args hp hu⟩
  show World.ownsRow _ _ _ _ _ _ _
  exact own_up2 h.own hu
theorem ownR_up2 {v : Value} (h : OwnRv W (B + 2) v l) (hu : Up2 B W W') : OwnRv W' (B + 2) v l := by
  show World.ownsRow _ _ _ _ _ _ _
  exact own_up2 h hu
theorem BxE.up (h : BxE B l A fl a c ga gc W) (hu : Up2 B W W') (hk : W'.heap[B]? = W.heap[B]?) : BxE B l A fl a c ga gc W' :=
  ⟨hk.trans h.k, ev_up2 h.ev h.ap hu, h.ap, Nat.le_trans h.size hu.size⟩
theorem BxR.up (h : BxR B l A fl a c ga gc W) (hu : Up2 B W W') (hk : W'.heap[B + 1]? = W.heap[B + 1]?) : BxR B l A fl a c ga gc W' :=
  ⟨hk.trans h.k, ownR_up2 h.own hu, row_up2 h.args h.ap hu, h.ap, Nat.le_trans h.size hu.size⟩
theorem BxE.below (h : BxE B l A fl a c ga gc W) (hb : Below W.heap.size W W') : BxE B l A fl a c ga gc W' :=
  h.up (Up2.of_below hb) (hb.block B (by have := h.size; omega))
theorem BxR.below (h : BxR B l A fl a c ga gc W) (hb : Below W.heap.size W W') : BxR B l A fl a c ga gc W' :=
  h.up (Up2.of_below hb) (hb.block (B + 1) (by have := h.size; omega))
theorem BxR.vrs (h : BxR B l A fl a c ga gc W) : Vrs W a l.length c l := by
  obtain ⟨_, _, hv, h2⟩ := rv_of_own h.own
  cases hv
  exact h2
end
abbrev set4E (W : World) (F : Nat) (u0 u1 : Value) (st : Int) (fl : Nm) : World := (((W.setCell ⟨F, 0, none⟩ u0).setCell ⟨F, 1, none⟩ u1).setCell ⟨F, 2, none⟩ (.int .i64 st)).setCell ⟨F, 3, none⟩ (.string (str fl))
theorem up2_set4 {B : Nat} (W : World) {F : Nat} (hF : F = B ∨ F = B + 1) (u0 u1 : Value) (st : Int) (fl : Nm) : Up2 B W (set4E W F u0 u1 st fl) :=
  (((Up2.set W hF 0 u0).trans (Up2.set _ hF 1 u1)).trans (Up2.set _ hF 2 _)).trans (Up2.set _ hF 3 _)
theorem set4_other (W : World) {F k : Nat} (h : k ≠ F) (u0 u1 : Value) (st : Int) (fl : Nm) : (set4E W F u0 u1 st fl).heap[k]? = W.heap[k]? :=
  (set_other _ F 3 _ k h).trans ((set_other _ F 2 _ k h).trans ((set_other _ F 1 _ k h).trans (set_other W F 0 _ k h)))
section
variable {B : Nat} {l l' : List Vr} {A A' : List Nm} {fl fl' : Nm} {a a' : Option Addr} {c c' : Nat} {ga ga' : Option Addr} {gc gc' : Nat} {W W' : World}
theorem BxE.set (h : BxE B l A fl a c ga gc W) (h' : Ev W (B + 2) a' c' l' ga' gc' A') (hp : ∀ ad, ga' = some ad → B + 2 ≤ ad.block) : BxE B l' A' fl' a' c' ga' gc' (set4E W B (.slice a' l'.length c') (.slice ga' A'.length gc') 0 fl') :=
  have hu := up2_set4 (B := B) W (.inl rfl) (.slice a' l'.length c') (.slice ga' A'.length gc') 0 fl'
  ⟨env4_set h.k _ _ _ _, ev_up2 h' hp hu, hp, Nat.le_trans h.size hu.size⟩
theorem BxR.set (h : BxR B l A fl a c ga gc W) (h' : OwnRv W (B + 2) (.slice a' l'.length c') l') (h2 : Sts W ga' A'.length gc' A') (hp : ∀ ad, ga' = some ad → B + 2 ≤ ad.block) : BxR B l' A' fl' a' c' ga' gc' (set4E W (B + 1) (.slice a' l'.length c') (.slice ga' A'.length gc') 0 fl') :=
  have hu := up2_set4 (B := B) W (.inr rfl) (.slice a' l'.length c') (.slice ga' A'.length gc') 0 fl'
  ⟨env4_set h.k _ _ _ _, ownR_up2 h' hu, row_up2 h2 hp hu, hp, Nat.le_trans h.size hu.size⟩
theorem BxR.setE (h : BxR B l A fl a c ga gc W) (u0 u1 : Value) (st : Int) (fl' : Nm) : BxR B l A fl a c ga gc (set4E W B u0 u1 st fl') :=
  h.up (up2_set4 W (.inl rfl) _ _ _ _) (set4_other W (by omega) _ _ _ _)
theorem BxE.setR (h : BxE B l A fl a c ga gc W) (u0 u1 : Value) (st : Int) (fl' : Nm) : BxE B l A fl a c ga gc (set4E W (B + 1) u0 u1 st fl') :=
  h.up (up2_set4 W (.inr rfl) _ _ _ _) (set4_other W (by omega) _ _ _ _)
/-- Other arguments alone. -/
theorem BxE.set1 (h : BxE B l A fl a c ga gc W) (h2 : Sts W ga' A'.length gc' A') (hp : ∀ ad, ga' = some ad → B + 2 ≤ ad.block) : BxE B l A' fl a c ga' gc' (W.setCell ⟨B, 1, none⟩ (.slice ga' A'.length gc')) :=
  have hu := Up2.set (B := B) W (F := B) (.inl rfl) 1 (.slice ga' A'.length gc')
  ⟨heap_setCell_same _ _ 1 _ _ _ h.k, ev_up2 ⟨h.ev.own, h2⟩ hp hu, hp, Nat.le_trans h.size hu.size⟩
theorem BxR.set1 (h : BxR B l A fl a c ga gc W) (h2 : Sts W ga' A'.length gc' A') (hp : ∀ ad, ga' = some ad → B + 2 ≤ ad.block) : BxR B l A' fl a c ga' gc' (W.setCell ⟨B + 1, 1, none⟩ (.slice ga' A'.length gc')) :=
  have hu := Up2.set (B := B) W (F := B + 1) (.inr rfl) 1 (.slice ga' A'.length gc')
  ⟨heap_setCell_same _ _ 1 _ _ _ h.k, ownR_up2 h.own hu, row_up2 h2 hp hu, hp, Nat.le_trans h.size hu.size⟩
theorem BxR.setE1 (h : BxR B l A fl a c ga gc W) (u : Value) : BxR B l A fl a c ga gc (W.setCell ⟨B, 1, none⟩ u) :=
  h.up (Up2.set W (.inl rfl) 1 u) (set_other W B 1 u (B + 1) (by omega))
theorem BxE.setR1 (h : BxE B l A fl a c ga gc W) (u : Value) : BxE B l A fl a c ga gc (W.setCell ⟨B + 1, 1, none⟩ u) :=
  h.up (Up2.set W (.inr rfl) 1 u) (set_other W (B + 1) 1 u B (by omega))
end
/-- What is as it was: the boxes of what was, an act. -/
structure Was (B b : Nat) (q : Act5) (l : List Vr) (A : List Nm) (fl : Nm) (a : Option Addr) (c : Nat) (ga : Option Addr) (gc : Nat) (a2 : Option Addr) (c2 : Nat) (ga2 : Option Addr) (gc2 : Nat) (W : World) : Prop where
  q : W.heap[b]? = some (.cells (actC5 q).toArray 31)
  e : W.heap[b + 1]? = some (.cells #[.slice a l.length c, .slice ga A.length gc, .int .i64 0, .string (str fl)] 28)
  r : W.heap[b + 2]? = some (.cells #[.slice a2 l.length c2, .slice ga2 A.length gc2, .int .i64 0, .string (str fl)] 41)
  ev : Ev W (B + 2) a c l ga gc A
  own : OwnRv W (B + 2) (.slice a2 l.length c2) l
  args : Sts W ga2 A.length gc2 A
  ap : ∀ ad, ga = some ad → B + 2 ≤ ad.block
  ap2 : ∀ ad, ga2 = some ad → B + 2 ≤ ad.block
  low : B + 2 ≤ b
  size : b + 3 ≤ W.heap.size
section
variable {B b : Nat} {q : Act5} {l : List Vr} {A : List Nm} {fl : Nm} {a : Option Addr} {c : Nat} {ga : Option Addr} {gc : Nat} {a2 : Option Addr} {c2 : Nat} {ga2 : Option Addr} {gc2 : Nat} {W W' : World}
theorem Was.up (h : Was B b q l A fl a c ga gc a2 c2 ga2 gc2 W) (hu : Up2 B W W') : Was B b q l A fl a c ga gc a2 c2 ga2 gc2 W' :=
  have h1 := h.low
  have h2 := h.size
  ⟨(hu.block b (by omega) (by omega) (by omega)).trans h.q, (hu.block _ (by omega) (by omega) (by omega)).trans h.e, (hu.block _ (by omega) (by omega) (by omega)).trans h.r,
   ev_up2 h.ev h.ap hu, ownR_up2 h.own hu, row_up2 h.args h.ap2 hu, h.ap, h.ap2, h1, Nat.le_trans h2 hu.size⟩
theorem Was.vrs (h : Was B b q l A fl a c ga gc a2 c2 ga2 gc2 W) : Vrs W a2 l.length c2 l := by
  obtain ⟨_, _, hv, h2⟩ := rv_of_own h.own
  cases hv
  exact h2
theorem Was.start (he : BxE B l A fl a c ga gc W) (hr : BxR B l A fl a2 c2 ga2 gc2 W) (q : Act5) :
    Was B W.heap.size q l A fl a c ga gc a2 c2 ga2 gc2 (((W.alloc (.cells (actC5 q).toArray 31)).alloc (.cells #[.slice a l.length c, .slice ga A.length gc, .int .i64 0, .string (str fl)] 28)).alloc (.cells #[.slice a2 l.length c2, .slice ga2 A.length gc2, .int .i64 0, .string (str fl)] 41)) ∧
    Below W.heap.size W (((W.alloc (.cells (actC5 q).toArray 31)).alloc (.cells #[.slice a l.length c, .slice ga A.length gc, .int .i64 0, .string (str fl)] 28)).alloc (.cells #[.slice a2 l.length c2, .slice ga2 A.length gc2, .int .i64 0, .string (str fl)] 41)) := by
  obtain ⟨h0, h1, h2⟩ := Ap.heap3 W (.cells (actC5 q).toArray 31) (.cells #[.slice a l.length c, .slice ga A.length gc, .int .i64 0, .string (str fl)] 28) (.cells #[.slice a2 l.length c2, .slice ga2 A.length gc2, .int .i64 0, .string (str fl)] 41)
  have hb := (((Below.refl W.heap.size W).alloc (Nat.le_refl _) (.cells (actC5 q).toArray 31)).alloc (by rw [World.size_alloc]; omega) (.cells #[.slice a l.length c, .slice ga A.length gc, .int .i64 0, .string (str fl)] 28)).alloc (by rw [World.size_alloc, World.size_alloc]; omega) (.cells #[.slice a2 l.length c2, .slice ga2 A.length gc2, .int .i64 0, .string (str fl)] 41)
  have hu := Up2.of_below (B := B) hb
  refine ⟨⟨h0, h1, h2, ev_up2 he.ev he.ap hu, ownR_up2 hr.own hu, row_up2 hr.args hr.ap hu, he.ap, hr.ap, he.size, ?_⟩, hb⟩
  rw [World.size_alloc, World.size_alloc, World.size_alloc]
  omega
end
/-- What is small. -/
structure Sm (l : List Vr) (A : List Nm) (fl : Nm) (k : Nat) : Prop where
  rises : Rises l
  len : l.length ≤ k
  two : A.length ≤ 2
  tot : tot A ≤ 1000
  fl : fl.length ≤ 4
theorem flagB_len (fl : Nm) (c : UInt8) (on : Bool) : (flagB fl c on).length ≤ 4 := flagTo_len fl c on 4
theorem same_refl (l : List Vr) (A : List Nm) (fl : Nm) : sameB l l A A 0 0 fl fl = true := by unfold sameB; simp
theorem own_ad {w : World} {base : Nat} {e : TypeId} {size : Nat} {a : Option Addr} {n c : Nat} {m : Nat} {xs : List Value} (h : w.ownsRow base e size (.slice a n c) m xs) : ∀ ad, a = some ad → base ≤ ad.block := by
  rcases h.2 with ⟨e, _⟩ | ⟨g, cap, cur, e, hb, _⟩
  · cases e; intro ad h; cases h
  · cases e; intro ad h; cases h; exact hb
theorem act_five {W : World} {b : Nat} {q : Act5} {t : TypeId} (h : W.heap[b]? = some (.cells (actC5 q).toArray t)) :
    W.cell? ⟨b, 0, none⟩ = some (.int .u8 q.1) ∧ W.cell? ⟨b, 1, none⟩ = some (.string (str q.2.1)) ∧ W.cell? ⟨b, 2, none⟩ = some (.string (str q.2.2.1)) ∧ W.cell? ⟨b, 3, none⟩ = some (.bool q.2.2.2.1) ∧ W.cell? ⟨b, 4, none⟩ = some (.int .i64 q.2.2.2.2) := by
  refine ⟨?_, ?_, ?_, ?_, ?_⟩ <;> simp [World.cell?, h, actC5]
/-- What a step leaves. -/
def Step (B : Nat) (k : Nat) (W W' : World) : Prop := ∃ (vl : List Vr) (A : List Nm) (fl : Nm) (a : Option Addr) (c : Nat) (ga : Option Addr) (gc : Nat) (a2 : Option Addr) (c2 : Nat) (ga2 : Option Addr) (gc2 : Nat),
  BxE B vl A fl a c ga gc W' ∧ BxR B vl A fl a2 c2 ga2 gc2 W' ∧ Sm vl A fl k ∧ Up2 B W W'
theorem byte_of (n : Int) : ∃ c : UInt8, (c.toNat : Int) = n % 256 := ⟨UInt8.ofNat (n % 256).toNat, by have h : (UInt8.ofNat (n % 256).toNat).toNat = (n % 256).toNat % 256 := rfl; rw [h]; omega⟩
theorem Sm.set {l : List Vr} {A : List Nm} {fl : Nm} {k : Nat} (h : Sm l A fl k) (s x : Nm) : Sm (setB s x l) A fl (k + 1) := ⟨setB_rises s x h.rises, by have := setB_len s x l; have := h.len; omega, h.two, h.tot, h.fl⟩
theorem Sm.unset {l : List Vr} {A : List Nm} {fl : Nm} {k : Nat} (h : Sm l A fl k) (s : Nm) : Sm (withoutB l s) A fl (k + 1) := ⟨rises_without s h.rises, by have := without_len s l; have := h.len; omega, h.two, h.tot, h.fl⟩
theorem Sm.flag {l : List Vr} {A : List Nm} {fl : Nm} {k : Nat} (h : Sm l A fl k) (c : UInt8) (on : Bool) : Sm l A (flagB fl c on) (k + 1) := ⟨h.rises, by have := h.len; omega, h.two, h.tot, flagB_len fl c on⟩
theorem Sm.up {l : List Vr} {A : List Nm} {fl : Nm} {k : Nat} (h : Sm l A fl k) : Sm l A fl (k + 1) := ⟨h.rises, by have := h.len; omega, h.two, h.tot, h.fl⟩
theorem Sm.shift {l : List Vr} {A : List Nm} {fl : Nm} {k : Nat} (h : Sm l A fl k) (z : Nat) : Sm l (A.drop z) fl (k + 1) := ⟨h.rises, by have := h.len; omega, by rw [List.length_drop]; have := h.two; omega, Nat.le_trans (tot_drop A z) h.tot, h.fl⟩
theorem Sm.args {l : List Vr} {A : List Nm} {fl : Nm} {k : Nat} (h : Sm l A fl k) {s x : Nm} (hs : s.length ≤ 30 ∧ x.length ≤ 60) : Sm l [s, x] fl (k + 1) := ⟨h.rises, by have := h.len; omega, Nat.le_refl _, by show ([s, x].map fun s => s.length + 1).sum ≤ 1000; simp; omega, h.fl⟩
theorem sts_sub3 {w : World} {a : Option Addr} {n c : Nat} {L : List Nm} (h : Sts w a n c L) (k : Nat) (hk : k ≤ n) : ∃ a' c', Sts w a' (L.drop k).length c' (L.drop k) ∧ (∀ ad, a' = some ad → ∃ ad0, a = some ad0 ∧ ad.block = ad0.block) ∧
    ∀ (k1 : IntKind) (w' : World), (Instr.slice 26 (.slice a n c) (some (.int k1 (k : Int))) none none).run Tryd.prog w' = .ok (.slice a' (L.drop k).length c') w' := by
  obtain ⟨i0, hi, _, hi2, _⟩ := info_parts info_str
  obtain ⟨h1, h2, h3, b, off, h4, h5⟩ := h
  have hl : (L.drop k).length = n - k := by rw [List.length_drop, h1]
  rw [hl]
  refine ⟨if c = k then a else a.map (·.add (k * 1)), c - k, ⟨by rw [hl], by omega, by omega, b, off + k * 1, ?_, ?_⟩, ?_, ?_⟩
  · rcases h4 with h4 | h4
    · exact .inl (by omega)
    · by_cases hc : c = k
      · exact .inl (by omega)
      · right; simp [hc, h4, Addr.add_lit]
  · intro i hi3
    have hk' : k + i < L.length := by simp at hi3; omega
    have := h5 (k + i) hk'
    simp only [List.getElem_drop]
    have e : off + k * 1 + i * 1 = off + (k + i) * 1 := by omega
    rw [e]; exact this
  · intro ad had
    by_cases hc : c = k
    · rw [if_pos hc] at had
      exact ⟨ad, had, rfl⟩
    · rw [if_neg hc] at had
      obtain ⟨ad0, h7, rfl⟩ := Option.map_eq_some_iff.1 had
      exact ⟨ad0, h7, by unfold Addr.add; first | rfl | (split <;> rfl)⟩
  · intro k1 w'
    have he : Tryd.prog.elem 26 = 9 := by simp [Program.elem, Tryd.underlying26]
    have ht' : Tryd.prog.underlying 26 = some (.slice (Tryd.prog.elem 26)) := by rw [he]; exact Tryd.underlying26
    have hsz : (sizeOf 9).run Tryd.prog w' = .ok 1 w' := by simp [sizeOf, typeInfo, hi, hi2]
    rw [run_slice_l w' 26 a n c ht' k1 k (by omega) (by omega), he, hsz]
    simp [Result.andThen, sliced]
theorem sts_pair (w : World) (s x : Nm) : Sts (w.alloc (.cells #[.string (str s), .string (str x)] 9)) (some ⟨w.heap.size, 0, none⟩) 2 2 [s, x] := by
  have h := heap_alloc_new w (.cells #[.string (str s), .string (str x)] 9)
  refine ⟨rfl, Nat.le_refl _, by decide, w.heap.size, 0, .inr rfl, fun k hk j u hu => ?_⟩
  have hj : j = 0 := by
    have := (List.getElem?_eq_some_iff.1 hu).1
    simp [stC] at this
    exact this
  subst hj
  match k, hk with
  | 0, _ => cases hu; simp only [World.cell?, h]; rfl
  | 1, _ => cases hu; simp only [World.cell?, h]; rfl
end Go.Proofs.YtchmpkgjjkfjcaaDoor
