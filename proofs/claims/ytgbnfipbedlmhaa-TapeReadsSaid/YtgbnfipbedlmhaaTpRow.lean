/-
  The tape's row of bytes: put, all. Conditions: the row is owned by a writer's cell; the rows that are put can be read; together they are not too many.
-/
import Derived.Test.YtgbnfipbedlmhaaTpWalks1
import Derived.Test.YtgbnfipbedlmhaaGReg
set_option linter.unusedVariables false
set_option maxRecDepth 100000
namespace Go.Proofs.Ytgbnfipbedlmhaa
open Go.RowKit Base

theorem run_append_at {P : Program} (w : World) (base : Nat) (t u ty e : TypeId) (i : TypeInfo) (z : Value) (size bytes : Nat) (ht : P.underlying t = some (.slice e))
    (hu : ∃ d, P.underlying u = some d ∧ ∀ k, d ≠ .int k) (hi : P.info? e = some i) (hz : i.zero = some z)
    (hsize : i.size = size) (hby : i.bytes = bytes) (hzs : z.cells.size = size) (hsz : 0 < size) (hbp : 0 < bytes)
    (v : Value) (n : Nat) (xs : List Value) (hown : w.ownsRow base e size v n xs)
    (x : Value) (m : Nat) (news : List Value) (hx : Src P w size x m news)
    (h63 : n + m ≤ maxLen) (hbytes : (n + m) * bytes ≤ 140737488355328) (hbase : base ≤ w.heap.size) :
    ∃ v' w', (Builtin.append_ #[t, u] ty #[v, x]).run P w = .ok v' w' ∧ w'.ownsRow base e size v' (n + m) (xs ++ news) ∧ w.grownBy w' v.ownBlock ∧
      (∀ g, v'.ownBlock = some g → g < w.heap.size → v.ownBlock = some g) := by
  subst hsize
  subst hby
  obtain ⟨hl, h1, hrd⟩ := hx
  obtain ⟨hlen0, hf0⟩ := hrd w rfl
  obtain ⟨hlenD, hfD⟩ := hrd w.drew rfl
  obtain ⟨d, hud, hdk⟩ := hu
  have hsmall : n + m ≤ 9223372036854775807 := by simp only [maxLen] at h63; omega
  have hlen : (xs ++ news).length = (n + m) * i.size := by rw [List.length_append, hown.1, hl, Nat.add_mul]
  have grown : ∀ (old : Nat), old < n + m → ∀ (row : Option Nat),
      (w.drew.alloc (.cells (xs.toArray ++ news.toArray ++ Builtin.zeroCells z.cells (grownCap w (n + m) old e - (n + m))) e)).ownsRow base e i.size
        (.slice (some ⟨w.heap.size, 0, none⟩) (n + m) (grownCap w (n + m) old e)) (n + m) (xs ++ news) ∧
      w.grownBy (w.drew.alloc (.cells (xs.toArray ++ news.toArray ++ Builtin.zeroCells z.cells (grownCap w (n + m) old e - (n + m))) e)) row := by
    intro old ho row
    have hge := grownCap_ge w (n + m) old e
    have hcm : grownCap w (n + m) old e ≤ maxLen := grownCap_le_maxLen w (n + m) old e h63
    refine ⟨⟨hlen, .inr ⟨w.heap.size, _, _, rfl, hbase, heap_alloc_new w.drew _, hge, hcm, ?_, ?_⟩⟩, ⟨rfl, rfl, rfl, by simp, fun k hk _ => Below.heap_alloc w.drew _ k hk⟩⟩
    · simp only [Array.size_append, List.size_toArray, size_zeroCells, hzs, hown.1, hl, ← Nat.add_mul]
      congr 1
      omega
    · simp only [Array.toList_append, List.append_assoc]
      rw [← List.append_assoc, ← hlen]
      exact List.take_left
  rcases hown.2 with ⟨rfl, rfl⟩ | ⟨g, cap, cur, rfl, hbg, hg, hnc, hcm, hcs, htake⟩
  · have hxs : xs = [] := List.eq_nil_of_length_eq_zero (by simpa using hown.1)
    subst hxs
    by_cases hm : m = 0
    · subst hm
      have hn : news = [] := List.eq_nil_of_length_eq_zero (by simpa using hl)
      subst hn
      refine ⟨.slice none 0 0, w, ?_, World.ownsRow_nil w base e i.size, ⟨rfl, rfl, rfl, Nat.le_refl _, fun _ _ _ => rfl⟩, fun g h _ => h⟩
      simp [Builtin.append_, run_underlying ht, run_underlying hud, sizeOf, typeInfo, hi, hlen0, hf0]
    · have hgr := grown 0 (by omega) (Value.ownBlock (.slice none 0 0))
      simp only [Nat.zero_add, List.nil_append, Array.empty_append] at hgr ⊢
      refine ⟨_, _, ?_, hgr.1, hgr.2, fun g h hl => by simp [Value.ownBlock] at h; omega⟩
      have h63' : ¬ (9223372036854775807 < (m : Int)) := by omega
      have h48' : ¬ (281474976710656 < Builtin.nextslicecap m 0 * i.bytes) := by
        rw [nextslicecap_zero (by omega)]
        simp only [Nat.zero_add] at hbytes
        omega
      have hbp' : i.bytes ≠ 0 := by omega
      simp [Builtin.append_, run_underlying ht, run_underlying hud, sizeOf, typeInfo, zeroValue, hi, hz, hlen0, hm, h48', hbp', Question.forced, hfD, newRow, grownCap, run_firstCells_none]
  · by_cases hroom : n + m ≤ cap
    · have hfit : n * i.size + news.length ≤ cur.size := by rw [hl, hcs, ← Nat.add_mul]; exact Nat.mul_le_mul_right _ hroom
      have hst := run_storeCells_at P g (n * i.size) e news 0 cur w hg (by simpa using hfit) h1
      simp only [Nat.add_zero] at hst
      refine ⟨.slice (some ⟨g, 0, none⟩) (n + m) cap, w.setRow g (cur.toList.take (n * i.size) ++ news ++ cur.toList.drop (n * i.size + news.length)).toArray, ?_, ⟨hlen, .inr ⟨g, cap, _, rfl, hbg, setRow_heap w g cur _ e _ hg, hroom, hcm, ?_, ?_⟩⟩, ⟨rfl, rfl, rfl, by simp, fun k _ hk => setRow_other w g k _ (fun e => hk (by simp [Value.ownBlock, e]))⟩, fun _ h _ => h⟩
      · simp [Builtin.append_, run_underlying ht, run_underlying hud, sizeOf, typeInfo, hi, hlen0, hroom, hf0, Addr.add_lit, hst]
      · simp only [List.size_toArray, List.length_append, List.length_take, List.length_drop, Array.length_toList]
        omega
      · rw [htake, ← hlen]
        exact List.take_left
    · have holds : ∀ j u, xs[j]? = some u → w.drew.cell? ((⟨g, 0, none⟩ : Addr).add j) = some u := by
        intro j u hu
        have := hown.cells (g := g) rfl j u hu
        simpa using this
      have hfo := run_firstCells_some (P := P) w.drew i.size n ⟨g, 0, none⟩ n cap xs hown.1 holds
      have hgr := grown cap (by omega) (Value.ownBlock (.slice (some ⟨g, 0, none⟩) n cap))
      refine ⟨_, _, ?_, hgr.1, hgr.2, fun g h hl => by simp [Value.ownBlock] at h; omega⟩
      have h63' : ¬ (9223372036854775807 < ((n : Int) + (m : Int))) := by omega
      have h48' : ¬ (281474976710656 < Builtin.nextslicecap (n + m) cap * i.bytes) := by
        have := growslice_fits (need := n + m) (old := cap) (by omega) hbytes
        omega
      have hbp' : i.bytes ≠ 0 := by omega
      simp [Builtin.append_, run_underlying ht, run_underlying hud, sizeOf, typeInfo, zeroValue, hi, hz, hlen0, hroom, h48', hbp', Question.forced, hfD, hfo, newRow, grownCap]
      congr 2
      apply Array.ext'
      simp [List.append_assoc]

theorem bytes_src {P : Program} {w : World} {base : Nat} {e : TypeId} {v : Value} {n : Nat} {l : List UInt8} (h : w.ownsRow base e 1 v n (l.map bv)) : Src P w 1 v n (l.map bv) := by
  obtain ⟨a, c, rfl, hb⟩ := ownsRow_bytes h
  exact src_bytes hb
/-- A writer: its cell holds a slice that owns the bytes. -/
def WtrAt (w : World) (q : Nat) (v : Value) (l : List UInt8) : Prop :=
  w.heap[q]? = some (.cells #[v] 55) ∧ w.ownsRow (q + 1) 5 1 v l.length (l.map bv)
/-- What a writer's step turns: its cell and its row's block; a row that lay before and is its row then was its row before. -/
structure WStep (q : Nat) (w : World) (v : Value) (w' : World) (v' : Value) : Prop where
  os : w'.os = w.os
  tape : w'.tape = w.tape
  output : w'.output = w.output
  size : w.heap.size ≤ w'.heap.size
  block : ∀ k, k < w.heap.size → k ≠ q → v.ownBlock ≠ some k → w'.heap[k]? = w.heap[k]?
  own : ∀ g, v'.ownBlock = some g → g < w.heap.size → v.ownBlock = some g
theorem WStep.refl (q : Nat) (w : World) (v : Value) : WStep q w v w v := ⟨rfl, rfl, rfl, Nat.le_refl _, fun _ _ _ _ => rfl, fun _ h _ => h⟩
theorem WStep.trans {q : Nat} {w w1 w2 : World} {v v1 v2 : Value} (h : WStep q w v w1 v1) (h2 : WStep q w1 v1 w2 v2) : WStep q w v w2 v2 :=
  ⟨h2.os.trans h.os, h2.tape.trans h.tape, h2.output.trans h.output, Nat.le_trans h.size h2.size,
    fun k hk hq hv => (h2.block k (Nat.lt_of_lt_of_le hk h.size) hq (fun e => hv (h.own k e hk))).trans (h.block k hk hq hv),
    fun g hg hl => h.own g (h2.own g hg (Nat.lt_of_lt_of_le hl h.size)) hl⟩
theorem WStep.then {q : Nat} {w w1 w2 : World} {v v1 : Value} (h : WStep q w v w1 v1) (hb : Below w1.heap.size w1 w2) : WStep q w v w2 v1 :=
  ⟨hb.os.trans h.os, hb.tape.trans h.tape, hb.output.trans h.output, Nat.le_trans h.size hb.size,
    fun k hk hq hv => (hb.block k (Nat.lt_of_lt_of_le hk h.size)).trans (h.block k hk hq hv), h.own⟩
theorem WStep.after {q : Nat} {w w1 w2 : World} {v v2 : Value} (hb : Below w.heap.size w w1) (h : WStep q w1 v w2 v2) : WStep q w v w2 v2 :=
  ⟨h.os.trans hb.os, h.tape.trans hb.tape, h.output.trans hb.output, Nat.le_trans hb.size h.size,
    fun k hk hq hv => (h.block k (Nat.lt_of_lt_of_le hk hb.size) hq hv).trans (hb.block k hk),
    fun g hg hl => h.own g hg (Nat.lt_of_lt_of_le hl hb.size)⟩
theorem WStep.below {q B : Nat} {w w' : World} {v v' : Value} (h : WStep q w v w' v') (hB : B ≤ w.heap.size) (hq : B ≤ q) (hv : ∀ j, v.ownBlock = some j → B ≤ j) : Below B w w' :=
  ⟨h.os, h.tape, h.output, Nat.le_trans hB h.size |> fun _ => h.size, fun k hk => h.block k (Nat.lt_of_lt_of_le hk hB) (by omega) (fun e => by have := hv k e; omega)⟩
theorem WtrAt.low {w : World} {q : Nat} {v : Value} {l : List UInt8} (h : WtrAt w q v l) {j : Nat} (hj : v.ownBlock = some j) : q < j ∧ j < w.heap.size := by
  have := h.2.lt j hj; omega
theorem WtrAt.lt {w : World} {q : Nat} {v : Value} {l : List UInt8} (h : WtrAt w q v l) : q < w.heap.size := (Array.getElem?_eq_some_iff.1 h.1).1
theorem WtrAt.cell {w : World} {q : Nat} {v : Value} {l : List UInt8} (h : WtrAt w q v l) : w.cell? ⟨q, 0, none⟩ = some v := by simp [World.cell?, h.1]
theorem WtrAt.stay {w w' : World} {q : Nat} {v : Value} {l : List UInt8} (h : WtrAt w q v l) (hb : Below w.heap.size w w') : WtrAt w' q v l :=
  ⟨by rw [hb.block q h.lt]; exact h.1, ownsRow_below h.2 hb⟩
/-- Another writer's step. -/
theorem WtrAt.beside {w w' : World} {p q : Nat} {u v v' : Value} {l : List UInt8} (h : WtrAt w p u l) (hs : WStep q w v w' v') (hpq : p ≠ q) (hvp : v.ownBlock ≠ some p) (hu : u.ownBlock ≠ some q) (huv : u.ownBlock = none ∨ u.ownBlock ≠ v.ownBlock) : WtrAt w' p u l := by
  refine ⟨by rw [hs.block p h.lt hpq hvp]; exact h.1, ?_⟩
  have ho := h.2
  refine ⟨ho.1, ?_⟩
  rcases ho.2 with h1 | ⟨g, cap, cur, h1, h2, h3, h4⟩
  · exact .inl h1
  · have e : u.ownBlock = some g := by rw [h1]; rfl
    refine .inr ⟨g, cap, cur, h1, h2, ?_, h4⟩
    rw [hs.block g (Array.getElem?_eq_some_iff.1 h3).1 (fun x => hu (by rw [e, x])) (fun x => by rcases huv with y | y; · rw [e] at y; cases y
                                                                                                 · exact y (by rw [e, x]))]
    exact h3
theorem row_f0 (p : Nat) (w : World) : (Instr.fieldAt 53 (.pointer (some ⟨p, 0, none⟩)) 0).run Try.prog w = .ok (.pointer (some ⟨p, 0, none⟩)) w := by rfl
theorem does_nil {P : Program} {a : Act} {w : World} {post : Value → World → Prop} {dst : Option Tmp} {x : Operand} {ty : TypeId} {pos : String} {after : Array Edge} {guard : Option (Nat × Bool)} (ad : Addr)
    (hx : a.eval x = .pointer (some ad)) (hp : post (.pointer (some ad)) w) : Rg.does P { dst, op := .nilCheck x, type := ty, pos, after, guard } a w post := by
  refine Rg.does_value (v := .pointer (some ad)) ?_ hp
  simp [execOp, hx]
theorem load_rowB {w : World} {ad : Addr} {v : Value} (h : w.cell? ad = some v) : (Instr.loadAt 28 (.pointer (some ad))).run Try.prog w = .ok v w := load_plain (by simp [isAgg]) h
theorem does_append {P : Program} {a : Act} {w : World} {post : Value → World → Prop} {dst : Option Tmp} {s x : Operand} {t u : TypeId} {ty : TypeId} {pos : String} {after : Array Edge} {guard : Option (Nat × Bool)} (v y v' : Value) (w' : World)
    (hs : a.eval s = v) (hy : a.eval x = y) (hr : (Builtin.append_ #[t, u] ty #[v, y]).run P w = .ok v' w') (hp : post v' w') : Rg.does P { dst, op := .call { callee := .builtin .append, args := #[s, x], argTypes := #[t, u] }, type := ty, pos, after, guard } a w post := by
  refine Rg.does_value (v := v') (w' := w') ?_ hp
  simp only [execOp, resolve, invoke, builtin, Sem.run_bind, Sem.run_pure, Result.andThen_ok, List.map_toArray, List.map_cons, List.map_nil, hs, hy, hr]
set_option maxHeartbeats 1000000 in
theorem put_calls (w : World) (q : Nat) (v : Value) (l : List UInt8) (h : WtrAt w q v l) (a : Option Addr) (n cap : Nat) (rs : List (List UInt8)) (hr : ByteRows w a n cap rs) (hl : ∀ r ∈ rs, r.length ≤ 65536) (hs : l.length + (framesB rs).length ≤ 100000000) :
    Calls Try.prog 21 #[.pointer (some ⟨q, 0, none⟩), .slice a n cap] w fun e w' => e = .returned (.tuple #[]) ∧ ∃ v', WtrAt w' q v' (l ++ framesB rs) ∧ WStep q w v w' v' := by
  obtain ⟨i0, hi, hz0, hz1, hz2⟩ := info_parts info_u8
  have HW := Lib.hid h; clear h
  have HR := Lib.hid hr; clear hr
  have HL := Lib.hid hl; clear hl
  have HS := Lib.hid hs; clear hs
  have HCell := Lib.hid HW.out.cell
  have HInfo := Lib.hid hi
  go_enter Try.func21, Try.ntmps21
  refine Rt.wp_region_rkt 8 [] [Rg.Is (.pointer (some ⟨q, 0, none⟩)), Rg.Is (.pointer (some ⟨q, 0, none⟩)), Rg.Is (.pointer (some ⟨q, 0, none⟩)), Rg.Is (.pointer (some ⟨q, 0, none⟩)), Rg.Is v, Rg.Is (.slice a n cap),
      (fun u x => x.ownsRow w.heap.size 5 1 u (framesB rs).length ((framesB rs).map bv)),
      (fun u x => x.ownsRow (q + 1) 5 1 u (l.length + (framesB rs).length) (l.map bv ++ (framesB rs).map bv) ∧ WStep q w v x u ∧ x.heap[q]? = some (.cells #[v] 55))]
    (fun _ _ => True) (fun ls x => ls 7 = false → Below w.heap.size w x) (fun k x y => if k = 7 then x.grownBy y v.ownBlock else Below x.heap.size x y)
    (by kernel_rfl) (by kernel_rfl) (of_decide_eq_true (by kernel_rfl)) (by kernel_rfl) (by kernel_rfl) trivial (fun _ => ⟨rfl, rfl, rfl, Nat.le_refl _, fun _ _ => rfl⟩) (fun ls ls' x e h1 h2 => h1 (by rw [e]; exact h2)) (fun _ _ _ _ _ => trivial)
    (fun i ls x _ h1 => by rw [show ([] : List Bool).getD i true = true from rfl] at h1; cases h1) ?_ ⟨rfl, rfl, rfl, rfl, rfl, rfl, rfl, rfl, trivial⟩ ⟨?_, ?_, ?_, ?_, ?_, ?_, ?_, ?_, trivial⟩ ?_
  · intro i k u x y hik _ h1 hK
    match i, h1, hik with
    | 0, h1, _ => exact h1
    | 1, h1, _ => exact h1
    | 2, h1, _ => exact h1
    | 3, h1, _ => exact h1
    | 4, h1, _ => exact h1
    | 5, h1, _ => exact h1
    | 6, h1, _ =>
      by_cases hk : k = 7
      · subst hk
        rw [if_pos rfl] at hK
        refine World.ownsRow.kept h1 hK ?_
        cases hj : Value.ownBlock u with
        | none => exact .inl rfl
        | some j =>
          refine .inr fun e => ?_
          have h2 := (h1.lt j hj).1
          have h3 := (HW.out.low e.symm).2
          omega
      · rw [if_neg hk] at hK
        exact ownsRow_below h1 hK
    | 7, h1, hik =>
      rw [if_neg (fun e => hik e.symm)] at hK
      exact ⟨ownsRow_below h1.1 hK, h1.2.1.then hK, by rw [hK.block q (Array.getElem?_eq_some_iff.1 h1.2.2).1]; exact h1.2.2⟩
    | _ + 8, _, _ => trivial
  · intro _ b x ls hR hS hself hup hdn hk
    have h0 : b.eval (.tmp 0) = .pointer (some ⟨q, 0, none⟩) := Eq.mp (by kernel_rfl) (hk 0 (by decide))
    exact Rg.does_move ⟨by rw [if_neg (by decide)]; exact Below.refl _ _, h0, fun hh => hS hh⟩
  · intro _ b x ls hR hS hself hup hdn hk
    have h0 : b.eval (.tmp 0) = .pointer (some ⟨q, 0, none⟩) := Eq.mp (by kernel_rfl) (hk 0 (by decide))
    exact Rg.does_move ⟨by rw [if_neg (by decide)]; exact Below.refl _ _, h0, fun hh => hS hh⟩
  · intro _ b x ls hR hS hself hup hdn hk
    have h5 : b.eval (.tmp 5) = .pointer (some ⟨q, 0, none⟩) := Eq.mp (by kernel_rfl) (hk 5 (by decide))
    exact does_nil _ h5 ⟨by rw [if_neg (by decide)]; exact Below.refl _ _, rfl, fun hh => hS hh⟩
  · intro _ b x ls hR hS hself hup hdn hk
    have h6 : b.eval (.tmp 6) = .pointer (some ⟨q, 0, none⟩) := Eq.mp (by kernel_rfl) (hk 6 (by decide))
    exact Rs.does_field _ _ h6 (row_f0 q x) ⟨by rw [if_neg (by decide)]; exact Below.refl _ _, rfl, fun hh => hS hh⟩
  · intro _ b x ls hR hS hself hup hdn hk
    have h7 : b.eval (.tmp 7) = .pointer (some ⟨q, 0, none⟩) := Eq.mp (by kernel_rfl) (hk 7 (by decide))
    have l7 : ls 7 = false := hdn [] 7 _ rfl (by kernel_rfl)
    exact Rg.does_load _ _ h7 (load_rowB (cell_below (hS l7) (Nat.le_refl _) HCell.out)) ⟨by rw [if_neg (by decide)]; exact Below.refl _ _, rfl, fun hh => hS hh⟩
  · intro _ b x ls hR hS hself hup hdn hk
    have h1 : b.eval (.tmp 1) = .slice a n cap := Eq.mp (by kernel_rfl) (hk 1 (by decide))
    exact Rg.does_move ⟨by rw [if_neg (by decide)]; exact Below.refl _ _, h1, fun hh => hS hh⟩
  · intro _ b x ls hR hS hself hup hdn hk
    have h9 : b.eval (.tmp 9) = .slice a n cap := Eq.mp (by kernel_rfl) (hk 9 (by decide))
    have l7 : ls 7 = false := hdn [] 7 _ rfl (by kernel_rfl)
    have hb := hS l7
    refine Rg.does_func #[.slice a n cap] Try.func17 (by kernel_rfl) (by kernel_rfl) (by simp [h9]) (frame_put_calls x a n cap rs (HR.out.below stable_bytesCell hb) HL.out (by have := HS.out; omega)) ?_
    rintro e x' ⟨u, rfl, ho, hb'⟩
    exact ⟨u, rfl, by rw [if_neg (by decide)]; exact hb', ownsRow_mono ho hb.size, fun hh => hb.trans (hb'.mono hb.size)⟩
  · intro _ b x ls hR hS hself hup hdn hk
    have h8 : b.eval (.tmp 8) = v := Eq.mp (by kernel_rfl) (hk 8 (by decide))
    have h10 : x.ownsRow w.heap.size 5 1 (b.eval (.tmp 10)) (framesB rs).length ((framesB rs).map bv) := Eq.mp (by kernel_rfl) (hk 10 (by decide))
    have hb := hS hself
    have hq := HW.out.lt
    have hsz := HS.out
    obtain ⟨v', w', hrun, hown, hgr, hat⟩ := run_append_at (P := Try.prog) x (q + 1) 28 28 28 5 i0 _ 1 1 Try.underlying28 (append_side Try.underlying28) HInfo.out hz0 hz1 hz2 rfl (by omega) (by omega) v l.length (l.map bv) (ownsRow_below HW.out.2 hb) (b.eval (.tmp 10)) _ _ (bytes_src h10) (by unfold maxLen; omega) (by omega) (by have := hb.size; omega)
    have hst : WStep q w v w' v' := WStep.after hb ⟨hgr.os, hgr.tape, hgr.output, hgr.size, fun k hk _ hv => hgr.block k hk (fun e => hv e.symm), hat⟩
    have hqc : w'.heap[q]? = some (.cells #[v] 55) := by
      rw [hgr.block q (Nat.lt_of_lt_of_le hq hb.size) (fun e => by have := (HW.out.low e.symm).1; omega), hb.block q hq]
      exact HW.out.1
    exact does_append v _ v' w' h8 rfl hrun ⟨by rw [if_pos rfl]; exact hgr, ⟨hown, hst, hqc⟩, fun hh => by simp [Rs.upd] at hh⟩
  · intro vals wD ls _ hSD _ hL
    obtain ⟨g0, g1, g2, g3, g4, g5, g6, g7, _⟩ := hL
    have g0' : vals 0 = .pointer (some ⟨q, 0, none⟩) := g0
    obtain ⟨hown, hst, hqc⟩ : wD.ownsRow (q + 1) 5 1 (vals 7) (l.length + (framesB rs).length) (l.map bv ++ (framesB rs).map bv) ∧ WStep q w v wD (vals 7) ∧ wD.heap[q]? = some (.cells #[v] 55) := g7
    clear g0 g1 g2 g3 g4 g5 g6
    simp only [Rg.putAll, List.take_succ_cons, List.take_zero, List.drop_succ_cons, List.drop_zero, List.setIfInBounds_toArray, List.set_cons_succ, List.set_cons_zero, g0']
    generalize vals 7 = u at *
    have hfz : wD.frozen? ⟨q, 0, none⟩ = false := by simp [World.frozen?, hqc]
    have hce : wD.cell? ⟨q, 0, none⟩ = some v := by simp [World.cell?, hqc]
    obtain ⟨au, cu, rfl, _, _, _, _⟩ := ownsRow_slice hown
    have HO := Lib.hid hown
    have HT := Lib.hid hst
    have HQ := Lib.hid hqc
    clear hown hst hqc
    go_wp2_with fail
    have hgs := grown_set wD q 0 (.slice au (l.length + (framesB rs).length) cu)
    have hlow : ∀ j, Value.ownBlock (.slice au (l.length + (framesB rs).length) cu) = some j → q < j := fun j hj => by have := (HO.out.lt j hj).1; omega
    refine bodyPost_end (v := .tuple #[]) (results_none rfl _ _ _) rfl ?_
    refine ⟨rfl, .slice au (l.length + (framesB rs).length) cu, ⟨heap_setCell_same wD q 0 _ _ _ HQ.out, ?_⟩, ?_⟩
    · rw [List.length_append, List.map_append]
      exact HO.out.kept hgs (by
        cases hj : Value.ownBlock (.slice au (l.length + (framesB rs).length) cu) with
        | none => exact .inl rfl
        | some j => exact .inr (fun e => by cases e; have := hlow _ hj; omega))
    · exact HT.out.trans ⟨hgs.os, hgs.tape, hgs.output, hgs.size, fun k hk hq _ => hgs.block k hk (fun e => hq (by cases e; rfl)), fun g hg _ => hg⟩

end Go.Proofs.Ytgbnfipbedlmhaa
