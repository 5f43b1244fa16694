/-
  State: from what cells denote to what lies where. Conditions: as each law says.
-/
import Derived.Test.YtmhofdoifgfjfaaStAllR
set_option linter.unusedVariables false
set_option maxRecDepth 100000
namespace Go.Proofs.Ytmhofdoifgfjfaa
open Go.RowKit Base

structure ConvR {α : Type} (k : Nat) (H : World → List Value → α → Prop) (R : Nat → World → Nat → Nat → α → Prop) : Prop where
  go : ∀ {W W' : World} {vs : List Value} {a : α} {g off n : Nat}, H W vs a → Below W.heap.size W W' → CellsAt W' g off vs → (∀ j, j < k → W'.frozen? ⟨g, off + j, none⟩ = false) → g < n → W.heap.size ≤ n → R n W' g off a
theorem flat_conv {α : Type} (k : Nat) (V : α → List Value) : ConvR k (flatH V) (FlatR V) := ⟨fun {W W' vs a g off n} h _ hc _ hg _ => by
  obtain rfl : vs = V a := h
  exact ⟨hg, hc⟩⟩
theorem bit_conv : ConvR 1 (flatH bitV) BitR := ⟨fun h hb hc hf hg hn => ⟨(flat_conv 1 bitV).go h hb hc hf hg hn, hf 0 Nat.zero_lt_one⟩⟩
theorem bits_conv : ConvR 3 (flatH bit3V) BitsR := ⟨fun h hb hc hf hg hn => ⟨(flat_conv 3 bit3V).go h hb hc hf hg hn, hf⟩⟩
theorem pair_conv {α β : Type} {k1 k2 : Nat} {H1 : World → List Value → α → Prop} {H2 : World → List Value → β → Prop} {R1 : Nat → World → Nat → Nat → α → Prop} {R2 : Nat → World → Nat → Nat → β → Prop} (h1 : ConvR k1 H1 R1) (h2 : ConvR k2 H2 R2) :
    ConvR (k1 + k2) (pairH k1 H1 H2) (fun n W g off p => R1 n W g off p.1 ∧ R2 n W g (off + k1) p.2) := by
  refine ⟨?_⟩
  rintro W W' vs a g off n ⟨v1, v2, rfl, hl, g1, g2⟩ hb hc hf hg hn
  refine ⟨h1.go g1 hb hc.left (fun j hj => hf j (by omega)) hg hn, h2.go g2 hb (hc.right hl) (fun j hj => ?_) hg hn⟩
  rw [Nat.add_assoc]
  exact hf (k1 + j) (by omega)
theorem row_conv {α : Type} {K : Nat} {T : TypeId} {H : World → List Value → α → Prop} {R : Nat → World → Nat → Nat → α → Prop} (h : ConvR K H R) : ConvR 1 (RowH K T H) (RowR K R) := by
  refine ⟨?_⟩
  rintro W W' vs zs g off n ⟨u, xs, rfl, ho, he⟩ hb hc hf hg hn
  refine ⟨hg, u, hc 0 Nat.zero_lt_one, ?_⟩
  rcases ho.2 with ⟨rfl, h0⟩ | ⟨b, cap, cur, rfl, _, h3, h4, h5, h6, h7⟩
  · refine ⟨none, 0, by rw [h0], .inl (List.eq_nil_of_length_eq_zero h0)⟩
  · have hbl : b < W.heap.size := (Array.getElem?_eq_some_iff.1 h3).1
    have h3' : W'.heap[b]? = some (.cells cur T (0, 0)) := (hb.block b hbl).trans h3
    refine ⟨some ⟨b, 0, none⟩, cap, rfl, .inr ⟨b, 0, rfl, fun j hj => ?_⟩⟩
    refine h.go (he.2 j hj) hb (fun i hi => ?_) (fun i hi => by simp [World.frozen?, h3']) (Nat.lt_of_lt_of_le hbl hn) hn
    have h8 : (W'.cell? ⟨b, 0 + j * K + i, none⟩) = cur[0 + j * K + i]? := by simp [World.cell?, h3']
    have hi2 : i < K := by rw [List.length_take] at hi; omega
    have hjk : j * K + i < zs.length * K := by
      have := Nat.mul_le_mul_right K (show j + 1 ≤ zs.length by omega)
      rw [Nat.add_mul, Nat.one_mul] at this
      omega
    rw [h8, Nat.zero_add]
    have h9 : ((xs.drop (j * K)).take K)[i]? = some ((xs.drop (j * K)).take K)[i] := List.getElem?_eq_getElem hi
    obtain ⟨x, hx⟩ : ∃ x, ((xs.drop (j * K)).take K)[i] = x := ⟨_, rfl⟩
    rw [hx] at h9 ⊢
    rw [List.getElem?_take, if_pos hi2, List.getElem?_drop, ← h7, List.getElem?_take, if_pos hjk, Array.getElem?_toList] at h9
    exact h9
theorem env_conv : ConvR 4 envH EnvR := ⟨fun h hb hc hf hg hn => (pair_conv (row_conv (flat_conv 2 varV)) (pair_conv (row_conv (flat_conv 1 txtV)) (pair_conv (flat_conv 1 numV) (flat_conv 1 txtV)))).go h hb hc hf hg hn⟩
theorem fds_conv : ConvR 1 pairsH (fun n W g off zs => RowR 2 (FlatR prV) n W g off zs ∧ W.frozen? ⟨g, off, none⟩ = false) := ⟨fun h hb hc hf hg hn => ⟨(row_conv (flat_conv 2 prV)).go h hb hc hf hg hn, hf 0 Nat.zero_lt_one⟩⟩
theorem keep_conv : ConvR 7 keepH KeepR := ⟨fun h hb hc hf hg hn => (pair_conv env_conv (pair_conv (row_conv (flat_conv 3 fnV)) (pair_conv (row_conv (flat_conv 2 trapV)) fds_conv))).go h hb hc hf hg hn⟩
theorem frame_conv : ConvR 19 frameH FrameR := ⟨fun h hb hc hf hg hn => (pair_conv (flat_conv 5 num5V) (pair_conv bit_conv (pair_conv (flat_conv 1 numV) (pair_conv (flat_conv 1 numV) (pair_conv (flat_conv 1 txtV) (pair_conv (row_conv (flat_conv 1 numV)) (pair_conv (row_conv (flat_conv 1 txtV)) (pair_conv (row_conv (flat_conv 2 varV)) keep_conv)))))))).go h hb hc hf hg hn⟩
theorem req_conv : ConvR 5 reqH ReqR := ⟨fun h hb hc hf hg hn => (pair_conv (flat_conv 1 numV) (pair_conv (flat_conv 1 numV) (pair_conv (flat_conv 1 numV) (pair_conv (flat_conv 1 txtV) (row_conv (flat_conv 1 txtV)))))).go h hb hc hf hg hn⟩
theorem ans_conv : ConvR 7 ansH AnsR := ⟨fun h hb hc hf hg hn => (pair_conv (flat_conv 2 num2V) (pair_conv (flat_conv 1 numV) (pair_conv (flat_conv 1 numV) (pair_conv (flat_conv 1 txtV) (pair_conv (row_conv (flat_conv 1 txtV)) (flat_conv 1 numV)))))).go h hb hc hf hg hn⟩
theorem state_conv : ConvR 29 stateH StateR := ⟨fun h hb hc hf hg hn => (pair_conv keep_conv (pair_conv (row_conv (flat_conv 1 txtV)) (pair_conv (row_conv frame_conv) (pair_conv req_conv (pair_conv ans_conv (pair_conv (row_conv (flat_conv 1 numV)) (pair_conv (flat_conv 3 num3V) (pair_conv bits_conv (flat_conv 1 numV))))))))).go h hb hc hf hg hn⟩
abbrev stT : TypeId := 44
/-- Cells that Pack can be handed. -/
def PkArg (W : World) (vs : List Value) (a : StateD) : Prop := vs.length = 29 ∧ ∀ W' g n, Below W.heap.size W W' → W.heap.size ≤ g → g < n → Cut g vs stT W' → StateR n W' g 0 a
theorem PkArg.of {W : World} {vs : List Value} {a : StateD} (h : stateH W vs a) (hl : vs.length = 29) : PkArg W vs a :=
  ⟨hl, fun W' g n hb h1 h2 hc => state_conv.go h hb (fun j hj => by rw [Nat.zero_add, hc.cell, List.getElem?_eq_getElem hj]) (fun j _ => hc.frozen (0 + j)) h2 (by omega)⟩
theorem PkArg.below {W W' : World} {vs : List Value} {a : StateD} (h : PkArg W vs a) (hb : Below W.heap.size W W') : PkArg W' vs a :=
  ⟨h.1, fun W2 g n hb2 h1 h2 hc => h.2 W2 g n (hb.trans (hb2.mono hb.size)) (Nat.le_trans hb.size h1) h2 hc⟩
end Go.Proofs.Ytmhofdoifgfjfaa
