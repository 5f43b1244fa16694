/-
  What came in, opened: whatever slice reads as a list of what its elements read as. No program stands here. Conditions: as each law says.
-/
import Derived.Test.YtknncfoaegmphaaGreatDoorBase
import Derived.OpenShut
import Derived.ChangeOld
import Derived.Below
import Derived.ChangeSame
import Derived.SliceStrings
set_option linter.unusedVariables false
namespace Go.Proofs.YtknncfoaegmphaaGreatDoor.Opn
open Go.ChangeShapes Go.WideShapes Go.ChangeAt Go.RowKit Base

section
variable {H : Type} {enc : TypeId × Value → H} {P : Program} {w : World}

/-- The cells that read as something, at an address whose spot is none. -/
theorem cells_at {ad : Addr} {n : Nat} {cs : List Value} (h : w.cells? 0 ad n = some cs) (hn : 0 < n) : ad.spot = none ∧ cs.length = n ∧ ∀ j (hj : j < cs.length), w.cell? ⟨ad.block, ad.off + j, none⟩ = some cs[j] := by
  obtain ⟨h1, h2, h3⟩ := World.cells?_some h
  have hl : cs.length = n := by first | exact h2 | omega
  have h0 := h3 0 (by omega)
  have hs : ad.spot = none := by
    have e : ad.add 0 = ad := by simp [Addr.add]
    rw [e] at h0
    have : ∃ v, w.cell? ad = some v := ⟨cs[0]'(by omega), by rw [h0]; simp⟩
    obtain ⟨v, hv⟩ := this
    exact World.cell?_spot hv
  refine ⟨hs, hl, fun j hj => ?_⟩
  have hj' := h3 j (by omega)
  obtain ⟨b, o, sp⟩ := ad
  simp only at hs
  subst hs
  rw [Addr.add_lit] at hj'
  rw [hj']
  simp [hj]

theorem list_of {α : Type} {Q : Nat → α → Prop} : ∀ n, (∀ i, i < n → ∃ x, Q i x) → ∃ l : List α, l.length = n ∧ ∀ k (h : k < l.length), Q k l[k] := by
  intro n
  induction n with
  | zero => intro _; exact ⟨[], rfl, fun k hk => absurd hk (by simp)⟩
  | succ n ih =>
    intro h
    obtain ⟨l, h1, h2⟩ := ih fun i hi => h i (by omega)
    obtain ⟨x, hx⟩ := h n (by omega)
    refine ⟨l ++ [x], by simp [h1], fun k hk => ?_⟩
    by_cases hkn : k < l.length
    · rw [List.getElem_append_left hkn]; exact h2 k hkn
    · have : k = n := by simp at hk; omega
      subst this
      rw [List.getElem_append_right (by omega)]
      simpa [h1] using hx

theorem row_of_trod {α : Type} (R : World → Nat → Nat → α → Prop) (size : Nat) (hsz : 0 < size) {t e : TypeId} (ht : P.underlying t = some (.slice e)) (hc : P.cellsOf e = size)
    (each : ∀ (ad : Addr) (cs : List Value) (fuel : Nat) (y : DataW H × List MemPlace), w.cells? 0 ad size = some cs → DataW.trod enc P w 0 (fun _ => true) true fuel e cs = some y → ad.spot = none → ∃ x, R w ad.block ad.off x)
    {a : Option Addr} {n cap : Nat} {fuel : Nat} {x : DataW H × List MemPlace} (h : DataW.trod enc P w 0 (fun _ => true) true fuel t [.slice a n cap] = some x) : ∃ l, RowOf R size w a n cap l := by
  rcases DataW.trod_slice ht h with ⟨h0, _⟩ | ⟨ad, len, cap', elems, rest, m, _, hcs, _, hb, hl, hm, hlen, hel, hsp, hns⟩
  · simp at h0
    obtain ⟨rfl, rfl, rfl⟩ := h0
    exact ⟨[], RowOf.nil⟩
  · simp at hcs
    obtain ⟨rfl, rfl, rfl⟩ := hcs
    have each' : ∀ i, i < n → ad.spot = none ∧ ∃ x, R w ad.block (ad.off + i * size) x := by
      intro i hi
      have h1 := hel i hi
      rw [hc] at h1
      have : ∃ y, elems[i]? = some y := ⟨elems[i]'(by omega), by simp [hlen, hi]⟩
      obtain ⟨y, hy⟩ := this
      rw [hy, Option.bind_eq_some_iff] at h1
      obtain ⟨cs, hcs, hy'⟩ := h1
      obtain ⟨hsp', hlc, hcell⟩ := cells_at hcs hsz
      have hspot : ad.spot = none := by
        by_cases hz : i * size = 0
        · rw [hz] at hsp'; simpa [Addr.add] using hsp'
        · have h2 := hel 0 (by omega)
          rw [hc] at h2
          have : ∃ y, elems[0]? = some y := ⟨elems[0]'(by omega), by simp⟩
          obtain ⟨y2, hy2⟩ := this
          rw [hy2, Option.bind_eq_some_iff] at h2
          obtain ⟨cs2, hcs2, _⟩ := h2
          have := (cells_at hcs2 hsz).1
          simpa [Addr.add] using this
      obtain ⟨x, hx⟩ := each _ cs m y hcs hy' hsp'
      refine ⟨hspot, x, ?_⟩
      obtain ⟨b, o, sp⟩ := ad
      simp only at hspot
      subst hspot
      rw [Addr.add_lit] at hx
      exact hx
    obtain ⟨l, h1, h2⟩ := list_of (Q := fun i x => R w ad.block (ad.off + i * size) x) n fun i hi => (each' i hi).2
    refine ⟨l, h1.symm, hl, hm, ad.block, ad.off, ?_, h2⟩
    rcases Nat.eq_zero_or_pos n with h0 | h0
    · exact .inl h0
    · right
      have := (each' 0 h0).1
      obtain ⟨b, o, sp⟩ := ad
      simp only at this
      subst this
      rfl
/-- The same of a parameter. -/
theorem row_of_Trod {α : Type} (R : World → Nat → Nat → α → Prop) (size : Nat) (hsz : 0 < size) {t e : TypeId} (ht : P.underlying t = some (.slice e)) (hc : P.cellsOf e = size)
    (each : ∀ (ad : Addr) (cs : List Value) (fuel : Nat) (y : DataW H × List MemPlace), w.cells? 0 ad size = some cs → DataW.trod enc P w 0 (fun _ => true) true fuel e cs = some y → ad.spot = none → ∃ x, R w ad.block ad.off x)
    {a : Option Addr} {n cap : Nat} {d : DataW H} {p : List MemPlace} (h : DataW.Trod enc P w 0 (fun _ => true) true t (.slice a n cap) d p) : ∃ l, RowOf R size w a n cap l := by
  obtain ⟨fuel, hf⟩ := h
  exact row_of_trod R size hsz ht hc each (by simpa [Value.cells] using hf)

/-- An integer's cell. -/
theorem each_int {k : IntKind} {e : TypeId} (he : P.underlying e = some (.int k)) {ad : Addr} {cs : List Value} {fuel : Nat} {y : DataW H × List MemPlace} (h : w.cells? 0 ad 1 = some cs) (hd : DataW.trod enc P w 0 (fun _ => true) true fuel e cs = some y) (hs : ad.spot = none) :
    ∃ z : Int, w.cell? ⟨ad.block, ad.off, none⟩ = some (.int k z) ∧ (Lit.int k z).wf = true := by
  obtain ⟨z, rfl, _, hw⟩ := DataW.trod_int he hd
  obtain ⟨_, _, hc⟩ := cells_at h (by decide)
  exact ⟨z, by simpa using hc 0 (by simp), hw⟩
/-- A string's cell. -/
theorem each_string {e : TypeId} (he : P.underlying e = some .string) {ad : Addr} {cs : List Value} {fuel : Nat} {y : DataW H × List MemPlace} (h : w.cells? 0 ad 1 = some cs) (hd : DataW.trod enc P w 0 (fun _ => true) true fuel e cs = some y) (hs : ad.spot = none) :
    ∃ s : ByteArray, w.cell? ⟨ad.block, ad.off, none⟩ = some (.string s) ∧ s.size ≤ maxLen := by
  obtain ⟨s, rfl, _, hw⟩ := DataW.trod_string he hd
  obtain ⟨_, _, hc⟩ := cells_at h (by decide)
  exact ⟨s, by simpa using hc 0 (by simp), hw⟩
/-- A slice's cell. -/
theorem each_slice {e q : TypeId} (he : P.underlying e = some (.slice q)) {ad : Addr} {cs : List Value} {fuel : Nat} {y : DataW H × List MemPlace} (h : w.cells? 0 ad 1 = some cs) (hd : DataW.trod enc P w 0 (fun _ => true) true fuel e cs = some y) (hs : ad.spot = none) :
    ∃ (a : Option Addr) (n cap : Nat), w.cell? ⟨ad.block, ad.off, none⟩ = some (.slice a n cap) ∧ DataW.trod enc P w 0 (fun _ => true) true fuel e [.slice a n cap] = some y := by
  obtain ⟨_, _, hc⟩ := cells_at h (by decide)
  rcases DataW.trod_slice he hd with ⟨h0, _⟩ | ⟨ad', len, cap', elems, rest, m, _, hcs, _⟩
  · subst h0
    exact ⟨none, 0, 0, by simpa using hc 0 (by simp), hd⟩
  · subst hcs
    exact ⟨some ad', len, cap', by simpa using hc 0 (by simp), hd⟩
/-- The cell of a struct of one integer. -/
theorem each_struct1_int {k : IntKind} {e : TypeId} {f0 : Field} (he : P.underlying e = some (.struct #[f0])) (h0 : f0.offset = 0) (hk : P.underlying f0.type = some (.int k)) (hc1 : P.cellsOf f0.type = 1) {ad : Addr} {cs : List Value} {fuel : Nat} {y : DataW H × List MemPlace}
    (h : w.cells? 0 ad 1 = some cs) (hd : DataW.trod enc P w 0 (fun _ => true) true fuel e cs = some y) (hs : ad.spot = none) :
    ∃ z : Int, w.cell? ⟨ad.block, ad.off, none⟩ = some (.int k z) ∧ (Lit.int k z).wf = true := by
  obtain ⟨y0, n, _, hl, hf⟩ := trod_struct1 he hd
  obtain ⟨_, hl1, hc⟩ := cells_at h (by decide)
  rw [h0, hc1] at hf
  have e1 : (cs.drop 0).take 1 = cs := by rw [List.drop_zero, List.take_of_length_le (by omega)]
  rw [e1] at hf
  obtain ⟨z, rfl, _, hw⟩ := DataW.trod_int hk hf
  exact ⟨z, by simpa using hc 0 (by simp), hw⟩
theorem u8_of_wf {z : Int} (h : (Lit.int .u8 z).wf = true) : z = (((UInt8.ofNat z.toNat).toNat : Nat) : Int) := by
  have := wf_bounds h
  simp [IntKind.min, IntKind.max, IntKind.signed, IntKind.bits] at this
  simp
  omega
end

end Go.Proofs.YtknncfoaegmphaaGreatDoor.Opn
