/-
  State: what the law's 'of' lays: a frame, a state as the reference has them. Conditions: as each law says.
-/
import Derived.Test.YtnmlnaoljkhjeaaStKept
import Derived.Test.YtnmlnaoljkhjeaaStRef6
set_option linter.unusedVariables false
set_option maxRecDepth 100000
namespace Go.Proofs.Ytnmlnaoljkhjeaa
open Go.RowKit Base

abbrev rVT : TypeId := 93
theorem list7 {l : List Value} (h : l.length = 7) : ∃ a b c d e f g, l = [a, b, c, d, e, f, g] :=
  match l, h with | [a, b, c, d, e, f, g], _ => ⟨a, b, c, d, e, f, g, rfl⟩
theorem list5 {l : List Value} (h : l.length = 5) : ∃ a b c d e, l = [a, b, c, d, e] :=
  match l, h with | [a, b, c, d, e], _ => ⟨a, b, c, d, e, rfl⟩
theorem list15 {l : List Value} (h : l.length = 15) : ∃ a b c d e f g a' b' c' d' e' f' g' h', l = [a, b, c, d, e, f, g, a', b', c', d', e', f', g', h'] :=
  match l, h with | [a, b, c, d, e, f, g, a', b', c', d', e', f', g', h'], _ => ⟨a, b, c, d, e, f, g, a', b', c', d', e', f', g', h', rfl⟩
theorem flat1_len {α : Type} {V : α → List Value} (hV : ∀ a, (V a).length = 1) : ∀ zs : List α, (zs.flatMap V).length = zs.length
  | [] => rfl
  | x :: r => by rw [List.flatMap_cons, List.length_append, hV, flat1_len hV r, List.length_cons, Nat.add_comm]
/-- A fresh row of flat things. -/
theorem fresh_own {α : Type} {V : α → List Value} (hV : ∀ a, (V a).length = 1) {W : World} {b : Nat} {T : TypeId} {zs : List α} {n : Nat} (hn : zs.length = n) (hm : n ≤ maxLen) {B : Nat} (hB : B ≤ b) (h : W.heap[b]? = some (.cells (zs.flatMap V).toArray T (0, 0))) : W.ownsRow B T 1 (.slice (some ⟨b, 0, none⟩) n n) zs.length (zs.flatMap V) := by
  subst hn
  have hl : (zs.flatMap V).length = zs.length := flat1_len hV zs
  refine ⟨by rw [hl, Nat.mul_one], .inr ⟨b, zs.length, (zs.flatMap V).toArray, rfl, hB, h, Nat.le_refl _, hm, by rw [List.size_toArray, hl, Nat.mul_one], ?_⟩⟩
  rw [Nat.mul_one, List.take_of_length_le (by rw [hl]; exact Nat.le_refl _)]
/-- A frame that was laid holds whatever is appended to the frames. -/
theorem frame_safe {W x : World} {Z : Nat → Prop} {fd : FrameD} {b5 B : Nat} {T5 TV : TypeId} {ar p9 p10 : Option Addr} {cr k9 k10 : Nat} {us : List Value} (hb : Below W.heap.size W x) (hq : ∀ j, Z j → W.heap.size ≤ j ∧ j < B)
    (h5 : x.heap[b5]? = some (.cells ((five fd).flatMap numV).toArray T5 (0, 0))) (hb5 : B ≤ b5) (h9 : numsA W [.slice p9 fd.2.2.2.2.2.1.length k9] fd.2.2.2.2.2.1) (h10 : strsA W [.slice p10 fd.2.2.2.2.2.2.1.length k10] fd.2.2.2.2.2.2.1)
    (hu : x.ownsRow B TV 2 (.slice ar fd.2.2.2.2.2.2.2.1.length cr) fd.2.2.2.2.2.2.2.1.length (fd.2.2.2.2.2.2.2.1.flatMap varV)) (hk : Safe Z keepA x us fd.2.2.2.2.2.2.2.2) :
    Safe Z rFrameA x ([.slice (some ⟨b5, 0, none⟩) 5 5, .bool fd.2.1, .int .i64 fd.2.2.1, .int .i64 fd.2.2.2.1, .string (str fd.2.2.2.2.1), .slice p9 fd.2.2.2.2.2.1.length k9, .slice p10 fd.2.2.2.2.2.2.1.length k10, .slice ar fd.2.2.2.2.2.2.2.1.length cr] ++ us) fd := by
  intro w' hg
  have hb' : Below W.heap.size W w' := below_but hb hg hb.size (fun j hj => (hq j hj).1)
  have hn : ∀ j, Z j → j < B := fun j hj => (hq j hj).2
  have o5 := own_but (fresh_own (n := 5) (B := B) (V := numV) (fun _ => rfl) rfl (by decide) hb5 h5) hg (fun j e hj => by have h1 := hn j hj; have h2 : b5 = j := Option.some.inj e; omega)
  have oV := own_but hu hg (fun j e hj => by have h1 := hn j hj; have h2 := (hu.lt _ e).1; omega)
  exact ⟨[_], _, rfl, rfl, own_rowA (k := 1) (V := numV) (fun _ => rfl) o5, [_], _, rfl, rfl, rfl, [_], _, rfl, rfl, rfl, [_], _, rfl, rfl, rfl, [_], _, rfl, rfl, rfl, [_], _, rfl, rfl, numsA_below hb' h9, [_], _, rfl, rfl, strsA_below hb' h10, [_], us, rfl, rfl, own_rowA (k := 2) (V := varV) (fun _ => rfl) oV, hk w' hg⟩
/-- The frames that were laid. -/
def FrsI (B e : Nat) (W : World) (U : Value) (k : Nat) (fr : List FrameD) : Prop :=
  ∃ xs, W.ownsRow B rFT 15 U k xs ∧ ∀ j (h : j < fr.length), j < k → Safe (fun i => U.ownBlock = some i ∨ i = e) rFrameA W ((xs.drop (j * 15)).take 15) fr[j]
theorem frs_nil (B e : Nat) (W : World) (fr : List FrameD) : FrsI B e W (.slice none 0 0) 0 fr := ⟨[], World.ownsRow_nil _ _ _ _, fun j _ h => absurd h (Nat.not_lt_zero _)⟩
theorem FrsI.below {B e : Nat} {W W' : World} {U : Value} {k : Nat} {fr : List FrameD} (h : FrsI B e W U k fr) (hb : Below W.heap.size W W') : FrsI B e W' U k fr := by
  obtain ⟨xs, h1, h2⟩ := h
  exact ⟨xs, ownsRow_below h1 hb, fun j hj hk => (h2 j hj hk).below hb⟩
theorem FrsI.push {B e : Nat} {wr x : World} {U U' : Value} {k : Nat} {fr : List FrameD} {xs cs : List Value} (h1 : wr.ownsRow B rFT 15 U k xs) (h2 : ∀ j (h : j < fr.length), j < k → Safe (fun i => U.ownBlock = some i ∨ i = e) rFrameA wr ((xs.drop (j * 15)).take 15) fr[j])
    (hl : cs.length = 15) (ha : Apd wr U B rFT 15 k xs cs U' x) (hc : ∀ h : k < fr.length, Safe (fun i => U'.ownBlock = some i ∨ i = e) rFrameA x cs fr[k]) : FrsI B e x U' (k + 1) fr := by
  obtain ⟨ho, wa, hb, hg, hat⟩ := ha
  have hxl : xs.length = k * 15 := h1.1
  refine ⟨xs ++ cs, ho, fun j hj hk => ?_⟩
  by_cases e : j = k
  · subst e
    have e1 : ((xs ++ cs).drop (j * 15)).take 15 = cs := by
      rw [← hxl, List.drop_left, ← hl, List.take_length]
    rw [e1]
    exact hc hj
  · have hjk : j < k := by omega
    have e1 : ((xs ++ cs).drop (j * 15)).take 15 = (xs.drop (j * 15)).take 15 := by
      rw [List.drop_append_of_le_length (by omega), List.take_append_of_le_length (by rw [List.length_drop]; omega)]
    rw [e1]
    exact ((h2 j hj hjk).below hb).grow hg (fun j2 e2 => .inl e2) (fun j2 hj2 hlt => hj2.imp (fun e2 => hat j2 e2 hlt) id)
theorem FrsI.row {B e : Nat} {W : World} {U : Value} {fr : List FrameD} (h : FrsI B e W U fr.length fr) (he : e < B) : Safe (fun i => i = e) rFramesA W [U] fr := by
  obtain ⟨xs, h1, h2⟩ := h
  intro W' hg
  have h1' := own_but h1 hg (fun j hj e1 => by have := (h1.lt j hj).1; omega)
  exact row_HA (T := rFT) (H := rFrameA) id ⟨U, xs, rfl, own_base h1' (Nat.zero_le _), ⟨h1'.1, fun j hj => (h2 j hj hj).mono (fun i hi => .inr hi) W' hg⟩⟩
/-- A state that was laid. -/
theorem rstate_safe {W x : World} {e b3 b4 : Nat} {s : StateD} {ks uq ua : List Value} {U : Value} {p7 p21 : Option Addr} {k7 k21 : Nat} {T3 T4 : TypeId} (hb : Below W.heap.size W x) (he : W.heap.size ≤ e) (hk : Safe (fun i => i = e) keepA x ks s.1) (hout : strsA W [.slice p7 s.2.1.length k7] s.2.1)
    (hfr : Safe (fun i => i = e) rFramesA x [U] s.2.2.1) (hreq : reqA W uq s.2.2.2.1) (hans : ansA W ua s.2.2.2.2.1) (hnums : numsA W [.slice p21 s.2.2.2.2.2.1.length k21] s.2.2.2.2.2.1)
    (h3 : x.heap[b3]? = some (.cells ((threeI s).flatMap numV).toArray T3 (0, 0))) (hb3 : e + 1 ≤ b3) (h4 : x.heap[b4]? = some (.cells ((threeB s).flatMap bitV).toArray T4 (0, 0))) (hb4 : e + 1 ≤ b4) :
    Safe (fun i => i = e) rStateA x (ks ++ ([.slice p7 s.2.1.length k7] ++ ([U] ++ (uq ++ (ua ++ ([.slice p21 s.2.2.2.2.2.1.length k21] ++ ([.slice (some ⟨b3, 0, none⟩) 3 3] ++ ([.slice (some ⟨b4, 0, none⟩) 3 3] ++ [.int .i64 s.2.2.2.2.2.2.2.2])))))))) s := by
  intro w' hg
  have hb' : Below W.heap.size W w' := below_but hb hg hb.size (fun j hj => by omega)
  have o3 := own_but (fresh_own (n := 3) (B := e + 1) (V := numV) (fun _ => rfl) rfl (by decide) hb3 h3) hg (fun j e1 hj => by have h2 : b3 = j := Option.some.inj e1; omega)
  have o4 := own_but (fresh_own (n := 3) (B := e + 1) (V := bitV) (fun _ => rfl) rfl (by decide) hb4 h4) hg (fun j e1 hj => by have h2 : b4 = j := Option.some.inj e1; omega)
  exact ⟨ks, _, rfl, keepA_len (hk w' hg), hk w' hg, [_], _, rfl, rfl, strsA_below hb' hout, [_], _, rfl, rfl, hfr w' hg, uq, _, rfl, reqA_len hreq, reqA_below hb' hreq, ua, _, rfl, ansA_len hans, ansA_below hb' hans, [_], _, rfl, rfl, numsA_below hb' hnums, [_], _, rfl, rfl, own_rowA (k := 1) (V := numV) (fun _ => rfl) o3, [_], _, rfl, rfl, own_rowA (k := 1) (V := bitV) (fun _ => rfl) o4, rfl⟩
theorem keepA_one {W : World} {vs : List Value} {a : KeepD} (h : keepA W vs a) : ∀ v ∈ vs, v.oneCell' = true := by
  obtain ⟨us, p4, p5, p6, k4, k5, k6, rfl, _, hA, _⟩ := keepA_inv h
  obtain ⟨p0, p1, k0, k1, rfl, _⟩ := envA_inv hA
  intro v hv
  simp only [List.mem_append, List.mem_cons, List.not_mem_nil, or_false] at hv
  rcases hv with (rfl | rfl | rfl | rfl) | rfl | rfl | rfl <;> rfl
theorem reqA_one {W : World} {vs : List Value} {a : ReqD} (h : reqA W vs a) : ∀ v ∈ vs, v.oneCell' = true := by
  obtain ⟨p, k, rfl, _⟩ := reqA_inv h
  intro v hv
  simp only [List.mem_cons, List.not_mem_nil, or_false] at hv
  rcases hv with rfl | rfl | rfl | rfl | rfl <;> rfl
theorem ansA_one {W : World} {vs : List Value} {a : AnsD} (h : ansA W vs a) : ∀ v ∈ vs, v.oneCell' = true := by
  obtain ⟨p, k, rfl, _⟩ := ansA_inv h
  intro v hv
  simp only [List.mem_cons, List.not_mem_nil, or_false] at hv
  rcases hv with rfl | rfl | rfl | rfl | rfl | rfl | rfl <;> rfl
theorem cut_mid {w : World} {b : Nat} {us : List Value} {t : TypeId} (o n : Nat) (h : Cut b us t w) : w.rangeAt b o ((us.drop o).take n) := fun j v hv => by
  rw [h.cell]
  rw [List.getElem?_take] at hv
  split at hv
  · rw [List.getElem?_drop] at hv
    exact hv
  · cases hv
theorem und_rS : (Try.prog.underlying rST).map TypeDesc.isRow = some true := by kernel_rfl
theorem info_rS : (Try.prog.info? rST).map (fun i => i.size) = some 25 := by kernel_rfl
theorem info_keep7 : (Try.prog.info? 31).map (fun i => i.size) = some 7 := by kernel_rfl
theorem bs_3 (w : World) (a b c : Int) : (Instr.buildSlice 37 3 #[(0, .int .i64 a), (1, .int .i64 b), (2, .int .i64 c)]).run Try.prog w = .ok (.slice (some ⟨w.heap.size, 0, none⟩) 3 3) (w.alloc (.cells #[.int .i64 a, .int .i64 b, .int .i64 c] 3)) := by
  go_simp
theorem bs_5 (w : World) (a b c d e : Int) : (Instr.buildSlice 37 5 #[(0, .int .i64 a), (1, .int .i64 b), (2, .int .i64 c), (3, .int .i64 d), (4, .int .i64 e)]).run Try.prog w = .ok (.slice (some ⟨w.heap.size, 0, none⟩) 5 5) (w.alloc (.cells #[.int .i64 a, .int .i64 b, .int .i64 c, .int .i64 d, .int .i64 e] 3)) := by
  go_simp
theorem bs_b (w : World) (a b c : Bool) : (Instr.buildSlice 57 3 #[(0, .bool a), (1, .bool b), (2, .bool c)]).run Try.prog w = .ok (.slice (some ⟨w.heap.size, 0, none⟩) 3 3) (w.alloc (.cells #[.bool a, .bool b, .bool c] 4)) := by
  go_simp
theorem bs_F (w : World) (a b c d e f g a' b' c' d' e' f' g' h' : Value) (h1 : ∀ v ∈ [a, b, c, d, e, f, g, a', b', c', d', e', f', g', h'], v.oneCell' = true) : (Instr.buildSlice 56 1 #[(0, .agg #[a, b, c, d, e, f, g, a', b', c', d', e', f', g', h'])]).run Try.prog w = .ok (.slice (some ⟨w.heap.size, 0, none⟩) 1 1) (w.alloc (.cells #[a, b, c, d, e, f, g, a', b', c', d', e', f', g', h'] rFT)) := by
  go_simp
end Go.Proofs.Ytnmlnaoljkhjeaa
