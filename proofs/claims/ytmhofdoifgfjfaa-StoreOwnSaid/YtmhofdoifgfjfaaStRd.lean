/-
  State: what reading leaves, of things with rows within. Conditions: as each law says.
-/
import Derived.Test.YtmhofdoifgfjfaaStAllP
set_option linter.unusedVariables false
set_option maxRecDepth 100000
namespace Go.Proofs.Ytmhofdoifgfjfaa
open Go.RowKit Base

abbrev rdT : TypeId := 115
/-- The types of the blocks that rows without frames lie in. -/
def inner (t : TypeId) : Bool := t == 9 || t == 155 || t == 121 || t == 126 || t == 131 || t == 2 || t == 143
/-- .. and with frames, and signals. -/
def inner2 (t : TypeId) : Bool := inner t || t == 96 || t == 3
def noT (_ : TypeId) : Bool := false
/-- Blocks of these types are as they were. -/
def Kept (S : TypeId → Bool) (W W' : World) : Prop := ∀ (k : Nat) (c : Array Value) (t : TypeId) (fr : Nat × Nat), W.heap[k]? = some (Obj.cells c t fr) → S t = true → W'.heap[k]? = W.heap[k]?
theorem Kept.refl (S : TypeId → Bool) (W : World) : Kept S W W := fun _ _ _ _ _ _ => rfl
theorem Kept.trans {S : TypeId → Bool} {W W1 W2 : World} (h1 : Kept S W W1) (h2 : Kept S W1 W2) : Kept S W W2 := fun k c t fr h hs => by
  have e := h1 k c t fr h hs
  exact (h2 k c t fr (e.trans h) hs).trans e
theorem Kept.below {S : TypeId → Bool} {W W' : World} (h : Below W.heap.size W W') : Kept S W W' := fun k c t fr hk _ => h.block k (Array.getElem?_eq_some_iff.1 hk).1
theorem Kept.less {S S' : TypeId → Bool} {W W' : World} (h : Kept S W W') (hs : ∀ t, S' t = true → S t = true) : Kept S' W W' := fun k c t fr hk ht => h k c t fr hk (hs t ht)
theorem Kept.no {W W' : World} : Kept noT W W' := fun _ _ _ _ _ h => by cases h
theorem Kept.up {S : TypeId → Bool} {F q g : Nat} {l : Nm} {e : Int} {W W' : World} {cur : List Value} {t : TypeId} (hr : RkI F q l e W) (hc : Cut g cur t W) (hs : S t = false) (h1 : S wireT = false) (h2 : S rdT = false) (hu : RUp F q g W W') : Kept S W W' := by
  intro k c t' fr hk ht
  refine hu.block k (Array.getElem?_eq_some_iff.1 hk).1 ?_ ?_ ?_
  · rintro rfl
    have := hk.symm.trans hr.k
    injection this with this
    injection this with _ this _
    rw [this, h1] at ht
    cases ht
  · rintro rfl
    obtain ⟨l', e', ⟨a, n, cap, hq, _⟩, _⟩ := hr.r
    have := hk.symm.trans hq
    injection this with this
    injection this with _ this _
    rw [this, h2] at ht
    cases ht
  · rintro rfl
    have := hk.symm.trans hc
    injection this with this
    injection this with _ this _
    rw [this, hs] at ht
    cases ht
theorem Kept.grown {S : TypeId → Bool} {W W' : World} {v : Value} {base n k : Nat} {xs : List Value} {T : TypeId} (ho : W.ownsRow base T k v n xs) (hs : S T = false) (hg : W.grownBy W' v.ownBlock) : Kept S W W' := by
  intro b c t fr hk ht
  refine hg.block b (Array.getElem?_eq_some_iff.1 hk).1 (fun e => ?_)
  rcases ho.2 with ⟨rfl, _⟩ | ⟨g, cap, cur, rfl, _, h3, _⟩
  · cases e
  · obtain rfl : b = g := by simpa [Value.ownBlock] using e
    have := hk.symm.trans h3
    injection this with this
    injection this with _ this _
    rw [this, hs] at ht
    cases ht
theorem Kept.set {S : TypeId → Bool} {W : World} {g o : Nat} {u : Value} {cur : List Value} {t : TypeId} (hc : Cut g cur t W) (hs : S t = false) : Kept S W (W.setCell ⟨g, o, none⟩ u) := by
  intro k c t' fr hk ht
  refine set_other W g o u k ?_
  rintro rfl
  have := hk.symm.trans hc
  injection this with this
  injection this with _ this _
  rw [this, hs] at ht
  cases ht
/-- What cells denote, as long as blocks of these types stay. -/
structure St {α : Type} (S : TypeId → Bool) (H : World → List Value → α → Prop) : Prop where
  keep : ∀ {W W' : World} {vs : List Value} {a : α}, H W vs a → Kept S W W' → H W' vs a
def flatH {α : Type} (V : α → List Value) (W : World) (vs : List Value) (a : α) : Prop := vs = V a
theorem flat_st {α : Type} (S : TypeId → Bool) (V : α → List Value) : St S (flatH V) := ⟨fun h _ => h⟩
def pairH {α β : Type} (k : Nat) (H1 : World → List Value → α → Prop) (H2 : World → List Value → β → Prop) (W : World) (vs : List Value) (a : α × β) : Prop :=
  ∃ v1 v2, vs = v1 ++ v2 ∧ v1.length = k ∧ H1 W v1 a.1 ∧ H2 W v2 a.2
theorem pair_st {α β : Type} {S : TypeId → Bool} {k : Nat} {H1 : World → List Value → α → Prop} {H2 : World → List Value → β → Prop} (h1 : St S H1) (h2 : St S H2) : St S (pairH k H1 H2) := by
  refine ⟨?_⟩
  rintro W W' vs a ⟨v1, v2, e, hl, g1, g2⟩ hk
  exact ⟨v1, v2, e, hl, h1.keep g1 hk, h2.keep g2 hk⟩
def EachH {α : Type} (k : Nat) (H : World → List Value → α → Prop) (W : World) (xs : List Value) (zs : List α) : Prop := xs.length = zs.length * k ∧ ∀ j (hj : j < zs.length), H W ((xs.drop (j * k)).take k) zs[j]
theorem each_nil {α : Type} (k : Nat) (H : World → List Value → α → Prop) (W : World) : EachH k H W [] ([] : List α) := ⟨by simp, fun j hj => by cases hj⟩
theorem each_snoc {α : Type} {k : Nat} {H : World → List Value → α → Prop} {W : World} {xs vs : List Value} {zs : List α} {a : α} (h : EachH k H W xs zs) (hl : vs.length = k) (hv : H W vs a) : EachH k H W (xs ++ vs) (zs ++ [a]) := by
  refine ⟨by rw [List.length_append, List.length_append, h.1, hl, List.length_cons, List.length_nil, Nat.zero_add, Nat.add_mul, Nat.one_mul], fun j hj => ?_⟩
  rw [List.length_append, List.length_cons, List.length_nil] at hj
  by_cases hjl : j < zs.length
  · rw [List.getElem_append_left hjl]
    have h1 : (j + 1) * k ≤ xs.length := by rw [h.1]; exact Nat.mul_le_mul_right k hjl
    rw [Nat.add_mul, Nat.one_mul] at h1
    rw [List.drop_append_of_le_length (by omega), List.take_append_of_le_length (by rw [List.length_drop]; omega)]
    exact h.2 j hjl
  · obtain rfl : j = zs.length := by omega
    rw [List.getElem_append_right (Nat.le_refl _), List.drop_append, List.drop_of_length_le (by rw [h.1]; exact Nat.le_refl _), List.nil_append, h.1, Nat.sub_self, List.drop_zero, List.take_of_length_le (by omega)]
    simpa using hv
theorem each_st {α : Type} {S : TypeId → Bool} {k : Nat} {H : World → List Value → α → Prop} (hs : St S H) {W W' : World} {xs : List Value} {zs : List α} (h : EachH k H W xs zs) (hk : Kept S W W') : EachH k H W' xs zs := ⟨h.1, fun j hj => hs.keep (h.2 j hj) hk⟩
/-- A row of its own, of such things. -/
def RowH {α : Type} (k : Nat) (T : TypeId) (H : World → List Value → α → Prop) (W : World) (vs : List Value) (zs : List α) : Prop := ∃ u xs, vs = [u] ∧ W.ownsRow 0 T k u zs.length xs ∧ EachH k H W xs zs
theorem own_kept {S : TypeId → Bool} {W W' : World} {base : Nat} {T : TypeId} {k n : Nat} {v : Value} {xs : List Value} (h : W.ownsRow base T k v n xs) (hk : Kept S W W') (hs : S T = true) : W'.ownsRow base T k v n xs := by
  refine ⟨h.1, ?_⟩
  rcases h.2 with h2 | ⟨g, cap, cur, h1, h2, h3, h4⟩
  · exact .inl h2
  · exact .inr ⟨g, cap, cur, h1, h2, (hk g _ _ _ h3 hs).trans h3, h4⟩
theorem row_st {α : Type} {S : TypeId → Bool} {k : Nat} {T : TypeId} {H : World → List Value → α → Prop} (hs : St S H) (hT : S T = true) : St S (RowH k T H) := by
  refine ⟨?_⟩
  rintro W W' vs zs ⟨u, xs, e, ho, he⟩ hk
  exact ⟨u, xs, e, own_kept ho hk hT, each_st hs he hk⟩
theorem st_less {α : Type} {S S' : TypeId → Bool} {H : World → List Value → α → Prop} (h : St S' H) (hs : ∀ t, S' t = true → S t = true) : St S H := ⟨fun h1 hk => h.keep h1 (hk.less hs)⟩
theorem inner_less : ∀ t, inner t = true → inner2 t = true := fun t h => by unfold inner2; rw [h]; rfl
/-- What reading leaves of such a thing. -/
def RkPostH {α : Type} (F q g o : Nat) (cur : List Value) (k : Nat) (t : TypeId) (H : World → List Value → α → Prop) (a : α) (l : Nm) (e : Int) (W : World) (r : Ending) (W' : World) : Prop :=
  r = .returned (.tuple #[]) ∧ RkI F q l e W' ∧ (∃ vs, vs.length = k ∧ Cut g (splice cur o vs) t W' ∧ H W' vs a) ∧ RUp F q g W W'
def Zer (cur : List Value) (off : Nat) (Z : List Value) : Prop := ∀ j (hj : j < Z.length), cur[off + j]? = some Z[j]
/-- A function that reads it. -/
def RkH {α : Type} (f : Nat) (c : Cd α) (Z : List Value) (H : World → List Value → α → Prop) (S : TypeId → Bool) : Prop :=
  ∀ (W : World) (F q : Nat) (l : Nm) (e : Int) (g off : Nat) (cur : List Value) (t : TypeId), RkI F q l e W → Cut g cur t W → Zer cur off Z → F < g → S t = false →
    Calls Try.prog f #[.pointer (some ⟨F, 0, none⟩), .pointer (some ⟨g, off, none⟩)] W (RkPostH F q g off cur Z.length t H (c.dec l e).1 (c.dec l e).2.1 (c.dec l e).2.2 W)
theorem RkOk.h {α : Type} {f : Nat} {c : Cd α} {V : α → List Value} {z : α} (h : RkOk f c V z) (hl : ∀ a, (V a).length = (V z).length) : RkH f c (V z) (flatH V) noT := by
  intro W F q l e g off cur t hr hc hz hg _
  refine (h W F q l e g off cur t hr hc hz hg).mono ?_
  rintro r W' ⟨h1, h2, h3, h4⟩
  exact ⟨h1, h2, ⟨_, hl _, h3, rfl⟩, h4⟩
theorem zer_step {cur : List Value} {off off' k : Nat} {z1 z2 us : List Value} (h : Zer cur off (z1 ++ z2)) (hl : us.length = k) (hz : z1.length = k) (ho : off' = off + k) : Zer (splice cur off us) off' z2 := by
  intro j hj
  have := zer_right h (by rw [hl, hz]) j hj
  rw [hz] at this
  rw [ho]
  exact this
theorem zer_fst {cur : List Value} {off : Nat} {z1 z2 : List Value} (h : Zer cur off (z1 ++ z2)) : Zer cur off z1 := zer_left h
theorem zer_all {cur : List Value} {off : Nat} {z : List Value} (h : Zer cur off z) : z = [] ∨ off + z.length ≤ cur.length := by
  have h1 : ∀ j (hj : j < (z ++ []).length), cur[off + j]? = some (z ++ [])[j] := by simpa [Zer] using h
  rcases z with _ | ⟨x, r⟩
  · exact .inl rfl
  · right
    have h2 := h r.length (by simp)
    have := (List.getElem?_eq_some_iff.1 h2).1
    rw [List.length_cons]
    omega
/-- Two splices, one behind the other. -/
theorem splice_two {cur : List Value} {off off' k : Nat} {vs us : List Value} (hl : vs.length = k) (ho : off' = off + k) (hn : off + k ≤ cur.length) : splice (splice cur off vs) off' us = splice cur off (vs ++ us) := by
  subst hl
  rw [ho]
  exact splice_app cur off vs us hn
/-! ### Rounds of a row that is read -/
/-- Where a round begins: k things are read, of z that there are to be. -/
structure RowI {α : Type} (c : Cd α) (H : World → List Value → α → Prop) (K : Nat) (T : TypeId) (W0 : World) (F q g off : Nat) (cur : List Value) (t : TypeId) (nb : Nat) (z : Int) (l : Nm) (e : Int) (k : Nat) (u : Value) (xs : List Value) (zs : List α) (lk : Nm) (ek : Int) (wr : World) : Prop where
  kN : k ≤ z.toNat
  k0 : k ≤ 100000
  big : ek = 0 → z.toNat ≤ 100000
  dec : (rowC c).dec l e = (zs ++ (rowsN c (z.toNat - k) lk ek).1, (rowsN c (z.toNat - k) lk ek).2)
  len : zs.length = k
  rk : RkI F q lk ek wr
  cut : Cut g (cur.set off u) t wr
  own : wr.ownsRow (nb + 1) T K u k xs
  each : EachH K H wr xs zs
  nbk : wr.heap[nb]? = some (.cells #[.int .i64 z] 3)
  nlo : W0.heap.size ≤ nb
  up : RUp F q g W0 wr
theorem RowI.nlt {α : Type} {c : Cd α} {H : World → List Value → α → Prop} {K : Nat} {T : TypeId} {W0 : World} {F q g off : Nat} {cur : List Value} {t : TypeId} {nb : Nat} {z : Int} {l : Nm} {e : Int} {k : Nat} {u : Value} {xs : List Value} {zs : List α} {lk : Nm} {ek : Int} {wr : World}
    (h : RowI c H K T W0 F q g off cur t nb z l e k u xs zs lk ek wr) : nb < wr.heap.size := (Array.getElem?_eq_some_iff.1 h.nbk).1
/-- What stands behind the append of a zero. -/
structure RowJ {α : Type} (c : Cd α) (H : World → List Value → α → Prop) (K : Nat) (T : TypeId) (W0 : World) (F q g off : Nat) (cur : List Value) (t : TypeId) (nb : Nat) (z : Int) (l : Nm) (e : Int) (k : Nat) (b cap : Nat) (curb xs : List Value) (Z : List Value) (zs : List α) (lk : Nm) (w3 : World) : Prop where
  kN : k < z.toNat
  big : z.toNat ≤ 100000
  dec : (rowC c).dec l e = (zs ++ (rowsN c (z.toNat - k) lk 0).1, (rowsN c (z.toNat - k) lk 0).2)
  len : zs.length = k
  rk : RkI F q lk 0 w3
  cut : Cut g (cur.set off (.slice (some ⟨b, 0, none⟩) (k + 1) cap)) t w3
  gb : Cut b curb T w3
  cl : curb.length = cap * K
  ck : k + 1 ≤ cap
  cm : cap ≤ maxLen
  ct : curb.take ((k + 1) * K) = xs ++ Z
  each : EachH K H w3 xs zs
  nbk : w3.heap[nb]? = some (.cells #[.int .i64 z] 3)
  nlo : W0.heap.size ≤ nb
  nb' : nb < b
  glo : g < W0.heap.size
  up : RUp F q g W0 w3
section
variable {α : Type} {c : Cd α} {H : World → List Value → α → Prop} {K : Nat} {T : TypeId} {W0 : World} {F q g off : Nat} {cur : List Value} {t : TypeId} {nb : Nat} {z : Int} {l : Nm} {e : Int} {k : Nat} {S : TypeId → Bool}
theorem rows_last {n : Nat} {l : Nm} {e : Int} (h : n = 0 ∨ e ≠ 0) : rowsN c n l e = ([], l, e) := by
  rcases h with rfl | h
  · rfl
  · exact rowsN_stop c n l h
/-- A zero is appended. -/
def Apd (wx : World) (u : Value) (base : Nat) (T : TypeId) (K n : Nat) (xs Z : List Value) (u' : Value) (x : World) : Prop :=
  x.ownsRow base T K u' (n + 1) (xs ++ Z) ∧ ∃ wa, Below wx.heap.size wx wa ∧ wa.grownBy x u.ownBlock ∧ ∀ j, u'.ownBlock = some j → j < wa.heap.size → u.ownBlock = some j
theorem Apd.below {wx : World} {u : Value} {base : Nat} {T : TypeId} {K n : Nat} {xs Z : List Value} {u' : Value} {x y : World} (h : Apd wx u base T K n xs Z u' x) (hb : Below x.heap.size x y) : Apd wx u base T K n xs Z u' y := by
  obtain ⟨h1, wa, h2, h3, h4⟩ := h
  exact ⟨ownsRow_below h1 hb, wa, h2, ⟨hb.os.trans h3.os, hb.tape.trans h3.tape, hb.output.trans h3.output, Nat.le_trans h3.size hb.size, fun k hk e => (hb.block k (Nat.lt_of_lt_of_le hk h3.size)).trans (h3.block k hk e)⟩, h4⟩
theorem RowI.low {u u' : Value} {xs : List Value} {zs : List α} {lk : Nm} {ek : Int} {wr wx w2 : World} {Z : List Value} (h : RowI c H K T W0 F q g off cur t nb z l e k u xs zs lk ek wr) (hb : Below wr.heap.size wr wx) (ha : Apd wx u (nb + 1) T K k xs Z u' w2) :
    ∀ j, j < nb + 1 → w2.heap[j]? = wr.heap[j]? := by
  obtain ⟨ho, wa, h2, hg, hat⟩ := ha
  have hlo : ∀ j, u.ownBlock = some j → nb + 1 ≤ j := fun j hj => (h.own.lt j hj).1
  have hnlt := h.nlt
  have h3 := hb.size
  have h4 := h2.size
  exact fun j hj => (hg.block j (by omega) (fun e => by have := hlo j e.symm; omega)).trans ((h2.block j (by omega)).trans (hb.block j (by omega)))
/-- Behind the append of a zero, and the slice's store. -/
theorem RowI.push {u u' : Value} {xs : List Value} {zs : List α} {lk : Nm} {wr wx w2 : World} {Z : List Value} (h : RowI c H K T W0 F q g off cur t nb z l e k u xs zs lk 0 wr)
    (hbx : Below wr.heap.size wr wx) (ha : Apd wx u (nb + 1) T K k xs Z u' w2) (hk : k < z.toNat)
    (hs : St S H) (ht : S t = false) (hT : S T = false) (hgl : g < W0.heap.size) (hFg : F < g) :
    ∃ b cap curb, u' = .slice (some ⟨b, 0, none⟩) (k + 1) cap ∧ RowJ c H K T W0 F q g off cur t nb z l e k b cap curb xs Z zs lk (w2.setCell ⟨g, off, none⟩ u') := by
  have hkeep := h.low hbx ha
  obtain ⟨ho, wa, h2, hg, hat⟩ := ha
  have hb : Below wr.heap.size wr wa := hbx.trans (h2.mono hbx.size)
  obtain ⟨b, cap, curb, rfl, hbb, hgb, hck, hcm, hcl, hct⟩ := Sl.own_row ho (Nat.succ_pos k)
  have hnlt := h.nlt
  have hcg : Cut g (cur.set off u) t w2 := (hkeep g (by have := h.nlo; omega)).trans h.cut
  have hnlo := h.nlo
  have hql := h.rk.lt
  refine ⟨b, cap, curb, rfl, hk, h.big rfl, h.dec, h.len, ?_, ?_, (set_other w2 g off _ b (by omega)).trans hgb, hcl, hck, hcm, hct, ?_, (set_other w2 g off _ nb (by omega)).trans ((hkeep nb (by omega)).trans h.nbk), hnlo, by omega, hgl, ?_⟩
  · exact h.rk.keep fun j hj => (set_other w2 g off _ j (by omega)).trans (hkeep j (by omega))
  · have := hcg.set off (.slice (some ⟨b, 0, none⟩) (k + 1) cap)
    rwa [List.set_set] at this
  · refine each_st hs h.each ((Kept.below hb).trans (Kept.trans ?_ (Kept.set hcg ht)))
    exact Kept.grown (ownsRow_below h.own hb) hT hg
  · refine ⟨hg.os.trans (hb.os.trans h.up.os), hg.tape.trans (hb.tape.trans h.up.tape), hg.output.trans (hb.output.trans h.up.output), ?_, fun j hj a1 a2 a3 => (set_other w2 g off _ j a3).trans ((hkeep j (by omega)).trans (h.up.block j hj a1 a2 a3))⟩
    rw [size_set]
    exact Nat.le_trans h.up.size (Nat.le_trans hb.size hg.size)
theorem zero_at {b cap : Nat} {curb xs Z : List Value} {zs : List α} {lk : Nm} {w3 : World} (h : RowJ c H K T W0 F q g off cur t nb z l e k b cap curb xs Z zs lk w3) (hZ : Z.length = K) : Zer curb (k * K) Z := by
  intro j hj
  have hx : xs.length = k * K := by rw [h.each.1, h.len]
  have h1 : (curb.take ((k + 1) * K))[k * K + j]? = some Z[j] := by
    rw [h.ct, List.getElem?_append_right (by omega), hx, Nat.add_sub_cancel_left, List.getElem?_eq_getElem hj]
  rw [List.getElem?_take, if_pos (by rw [Nat.add_mul]; omega)] at h1
  exact h1
/-- Behind a thing's reading. -/
theorem RowJ.next {b cap : Nat} {curb xs Z : List Value} {zs : List α} {lk : Nm} {w3 w4 : World} {r : Ending} (h : RowJ c H K T W0 F q g off cur t nb z l e k b cap curb xs Z zs lk w3)
    (hp : RkPostH F q b (k * K) curb K T H (c.dec lk 0).1 (c.dec lk 0).2.1 (c.dec lk 0).2.2 w3 r w4) (hs : St S H) (hT : S T = false) (h1 : S wireT = false) (h2 : S rdT = false) (hFg : F < g) :
    ∃ vs, RowI c H K T W0 F q g off cur t nb z l e (k + 1) (.slice (some ⟨b, 0, none⟩) (k + 1) cap) (xs ++ vs) (zs ++ [(c.dec lk 0).1]) (c.dec lk 0).2.1 (c.dec lk 0).2.2 w4 := by
  obtain ⟨_, hr, ⟨vs, hvl, hcb, hH⟩, hu⟩ := hp
  have hx : xs.length = k * K := by rw [h.each.1, h.len]
  have hkN := h.kN
  have hnl := h.nlo
  have hnb := h.nb'
  have hgl := h.glo
  have hql := h.rk.lt
  have hnlt : nb < w3.heap.size := (Array.getElem?_eq_some_iff.1 h.nbk).1
  have hcl := h.cl
  have hck := h.ck
  have hfit : k * K + K ≤ curb.length := by
    rw [hcl, ← Nat.succ_mul]
    exact Nat.mul_le_mul_right K hck
  have hlow : ∀ j, j < w3.heap.size → j ≠ F → j ≠ q → j ≠ b → w4.heap[j]? = w3.heap[j]? := hu.block
  refine ⟨vs, by omega, by have := h.big; omega, fun _ => h.big, ?_, by rw [List.length_append, h.len]; rfl, hr, (hlow g (by omega) (by omega) (by omega) (by omega)).trans h.cut, ?_, ?_, (hlow nb hnlt (by omega) (by omega) (by omega)).trans h.nbk, hnl, ?_⟩
  · rw [h.dec, show z.toNat - k = (z.toNat - (k + 1)) + 1 by omega, rowsN_succ, List.append_assoc]
    rfl
  · refine Sl.own_mk (by omega) hcb hck h.cm (by rw [splice_len _ _ _ (by rw [hvl]; exact hfit)]; exact hcl) ?_
    have h5 := h.ct
    have h6 : curb.take (k * K) = xs := by
      have h7 : (curb.take ((k + 1) * K)).take (k * K) = xs := by rw [h5, ← hx, List.take_left]
      rwa [List.take_take, Nat.min_eq_left (Nat.mul_le_mul_right K (Nat.le_succ k))] at h7
    unfold splice
    rw [h6, ← List.append_assoc, List.take_append_of_le_length (by rw [List.length_append, hx, hvl, Nat.succ_mul]; exact Nat.le_refl _), List.take_of_length_le (by rw [List.length_append, hx, hvl, Nat.succ_mul]; exact Nat.le_refl _)]
  · refine each_snoc (each_st hs h.each (Kept.up h.rk h.gb hT h1 h2 hu)) hvl hH
  · refine ⟨hu.os.trans h.up.os, hu.tape.trans h.up.tape, hu.output.trans h.up.output, Nat.le_trans h.up.size hu.size, fun j hj a1 a2 a3 => (hlow j (Nat.lt_of_lt_of_le hj h.up.size) a1 a2 (by omega)).trans (h.up.block j hj a1 a2 a3)⟩
/-- The row is read. -/
theorem RowI.done {u : Value} {xs : List Value} {zs : List α} {lk : Nm} {ek : Int} {wr : World} (h : RowI c H K T W0 F q g off cur t nb z l e k u xs zs lk ek wr) (hk : z.toNat - k = 0 ∨ ek ≠ 0) (ho : off < cur.length) :
    RkPostH F q g off cur 1 t (RowH K T H) ((rowC c).dec l e).1 ((rowC c).dec l e).2.1 ((rowC c).dec l e).2.2 W0 (.returned (.tuple #[])) wr := by
  have hd := h.dec
  rw [rows_last hk, List.append_nil] at hd
  rw [hd]
  refine ⟨rfl, h.rk, ⟨[u], rfl, ?_, u, xs, rfl, ?_, h.each⟩, h.up⟩
  · rw [splice_one _ _ _ ho]
    exact h.cut
  · rw [h.len]
    exact own_base h.own (Nat.zero_le _)
end
end Go.Proofs.Ytmhofdoifgfjfaa
