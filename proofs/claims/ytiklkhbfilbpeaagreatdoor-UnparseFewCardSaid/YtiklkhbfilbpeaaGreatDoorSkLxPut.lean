/-
  Lexer: the tokens so far; put; whether a word ends. Conditions: as each contract says.
-/
import Derived.Test.YtiklkhbfilbpeaaGreatDoorSkLxParts
import Derived.Test.YtiklkhbfilbpeaaGreatDoorSkAppendAt
set_option linter.unusedVariables false
set_option linter.unusedSimpArgs false
set_option maxRecDepth 100000
namespace Go.Proofs.YtiklkhbfilbpeaaGreatDoor
open Go.RowKit Base Lx
theorem info_tk : (Tryz.prog.info? tkT).map (fun i => (i.zero, i.size, i.bytes)) = some (some (.agg #[.int .i64 0, .string ⟨#[]⟩, .string ⟨#[]⟩, .int .i64 0]), 4, 48) := by kernel_rfl
theorem info_in : (Tryz.prog.info? inT).map (fun i => (i.zero, i.size, i.bytes)) = some (some (.int .i64 0), 1, 8) := by kernel_rfl
/-- A token's cells. -/
def tkC (t : Tok) : List Value := [.int .i64 (t.k : Int), .string (str t.t), .string (str t.b), .int .i64 (t.ln : Int)]
def tkV (t : Tok) : Value := .agg #[.int .i64 (t.k : Int), .string (str t.t), .string (str t.b), .int .i64 (t.ln : Int)]
theorem tkC_len (t : Tok) : (tkC t).length = 4 := rfl
theorem tkC_one : ∀ (t : Tok), ∀ u ∈ tkC t, u.oneCell' = true := by
  intro t u hu
  simp only [tkC, List.mem_cons, List.not_mem_nil, or_false] at hu
  rcases hu with rfl | rfl | rfl | rfl <;> rfl
def iv (n : Nat) : Value := .int .i64 (n : Int)
theorem own_keep {W W' : World} {base : Nat} {e : TypeId} {k n : Nat} {v : Value} {xs : List Value} (h : W.ownsRow base e k v n xs) (hk : ∀ g X, v.ownBlock = some g → W.heap[g]? = some (.cells X e) → W'.heap[g]? = W.heap[g]?) : W'.ownsRow base e k v n xs := by
  refine ⟨h.1, ?_⟩
  rcases h.2 with h2 | ⟨g, cap, cur, rfl, h2, h3, h4⟩
  · exact .inl h2
  · exact .inr ⟨g, cap, cur, rfl, h2, (hk g cur rfl h3).trans h3, h4⟩
theorem own_ne {W : World} {base : Nat} {e e' : TypeId} {k n k' : Nat} {v : Value} {xs : List Value} {X : Array Value} {fr : Nat × Nat} (h : W.ownsRow base e k v n xs) {q : Nat} (hq : W.heap[q]? = some (.cells X e' fr)) (hne : e ≠ e') : v.ownBlock ≠ some q := by
  intro hv
  rcases h.2 with ⟨rfl, _⟩ | ⟨g, cap, cur, rfl, _, h3, _⟩
  · cases hv
  · obtain rfl := Option.some.inj hv
    rw [h3] at hq
    injection hq with hq
    injection hq with _ hT _
    exact hne hT
/-- The state between tokens: what was told, and the here-documents that are to come. -/
structure LxSt (W : World) (b B : Nat) (K g : Nat) (l : List Tok) (hh : List Nat) (s : Nm) (vl vh : Value) : Prop where
  rd : Rd W b s K g vl vh
  toks : W.ownsRow B tkT 4 vl l.length (l.flatMap tkC)
  here : W.ownsRow B inT 1 vh hh.length (hh.map iv)
  bB : B ≤ b
theorem LxSt.below {W W' : World} {b B K g : Nat} {l : List Tok} {hh : List Nat} {s : Nm} {vl vh : Value} (h : LxSt W b B K g l hh s vl vh) (hb : Below W.heap.size W W') : LxSt W' b B K g l hh s vl vh :=
  ⟨h.rd.below hb, ownsRow_below h.toks hb, ownsRow_below h.here hb, h.bB⟩
theorem LxSt.size {W : World} {b B K g : Nat} {l : List Tok} {hh : List Nat} {s : Nm} {vl vh : Value} (h : LxSt W b B K g l hh s vl vh) : B ≤ W.heap.size := Nat.le_of_lt (Nat.lt_of_le_of_lt h.bB h.rd.lt)
/-- Reading changes the text alone. -/
theorem LxSt.turn {W W' : World} {b B K g : Nat} {l : List Tok} {hh : List Nat} {s q : Nm} {vl vh : Value} (h : LxSt W b B K g l hh s vl vh) (ht : Turn b W W') (hr : Rd W' b q K g vl vh) : LxSt W' b B K g l hh q vl vh ∧ Below B W W' := by
  refine ⟨⟨hr, own_keep h.toks (fun j X hj hX => ht.block j (Array.getElem?_eq_some_iff.1 hX).1 (fun e => ?_)), own_keep h.here (fun j X hj hX => ht.block j (Array.getElem?_eq_some_iff.1 hX).1 (fun e => ?_)), h.bB⟩, ht.below h.bB h.size⟩
  · subst e
    exact own_ne (k' := 0) h.toks h.rd.box (by decide) hj
  · subst e
    exact own_ne (k' := 0) h.here h.rd.box (by decide) hj
theorem load_toks {w : World} {ad : Addr} {v : Value} (h : w.cell? ad = some v) : (Instr.loadAt 39 (.pointer (some ad))).run Tryz.prog w = .ok v w := Ap.load_plainP (by simp [isAgg]) h
theorem build_tk (k : Int) (t : Nm) (g : Int) (w : World) : (Instr.build tkT #[(0, .int .i64 k), (1, .string (str t)), (3, .int .i64 g)]).run Tryz.prog w = .ok (.agg #[.int .i64 k, .string (str t), .string ⟨#[]⟩, .int .i64 g]) w := by go_simp
/-- A row of tokens has one more; the reader's slice is told anew. -/
theorem LxSt.put {W W1 : World} {b B K g : Nat} {l : List Tok} {hh : List Nat} {s : Nm} {vl vh vl' : Value} {t : Tok} (h : LxSt W b B K g l hh s vl vh) (hg : W.grownBy W1 vl.ownBlock) (hb : W1.heap[b]? = W.heap[b]?) (ho : W1.ownsRow B tkT 4 vl' (l.length + 1) (l.flatMap tkC ++ tkC t)) :
    LxSt (W1.setCell ⟨b, 3, none⟩ vl') b B K g (l ++ [t]) hh s vl' vh ∧ Below B W (W1.setCell ⟨b, 3, none⟩ vl') := by
  have hbx : W1.heap[b]? = some (.cells #[.string (str s), .int .i64 ((K - nl s : Nat) : Int), .int .i64 (g : Int), vl, vh] rdT) := hb.trans h.rd.box
  have hs := heap_setCell_same W1 b 3 _ _ vl' hbx
  have hgr : W1.grownBy (W1.setCell ⟨b, 3, none⟩ vl') (some b) := Sl.setCells_grown b [vl'] 3 W1
  have hlt1 : ∀ (j : Nat) (X : Array Value) (e : TypeId), W1.heap[j]? = some (.cells X e) → e ≠ rdT → (W1.setCell ⟨b, 3, none⟩ vl').heap[j]? = W1.heap[j]? := fun j X e hX hne => hgr.block j (Array.getElem?_eq_some_iff.1 hX).1 (fun ej => by
    obtain rfl := Option.some.inj ej
    rw [hX] at hbx
    injection hbx with hbx
    injection hbx with _ hT _
    exact hne hT)
  refine ⟨⟨⟨hs, h.rd.le, h.rd.big, h.rd.len⟩, ?_, ?_, h.bB⟩, ⟨hgr.os.trans hg.os, hgr.tape.trans hg.tape, hgr.output.trans hg.output, Nat.le_trans hg.size hgr.size, fun j hj => ?_⟩⟩
  · rw [List.length_append, List.flatMap_append, List.flatMap_cons, List.flatMap_nil, List.append_nil]
    exact own_keep ho (fun j X _ hX => hlt1 j X tkT hX (by decide))
  · have h1 : W1.ownsRow B inT 1 vh hh.length (hh.map iv) := own_keep h.here (fun j X hj hX => hg.block j (Array.getElem?_eq_some_iff.1 hX).1 (fun e => own_ne (k' := 0) h.toks hX (by decide) e.symm))
    exact own_keep h1 (fun j X _ hX => hlt1 j X inT hX (by decide))
  · have h1 : j ≠ b := by have := h.bB; omega
    have hjs : j < W.heap.size := Nat.lt_of_lt_of_le hj h.size
    exact (hgr.block j (Nat.lt_of_lt_of_le hjs hg.size) (fun e => h1 (Option.some.inj e))).trans (hg.block j hjs (fun e => by have := (h.toks.lt _ e.symm).1; omega))
def PutPost (W : World) (b B K g : Nat) (l : List Tok) (hh : List Nat) (s : Nm) (vh : Value) (r : Ending) (W' : World) : Prop :=
  r = .returned (.tuple #[]) ∧ Below B W W' ∧ ∃ vl', LxSt W' b B K g l hh s vl' vh
set_option maxHeartbeats 2000000 in
theorem put_calls (W : World) (b B K g : Nat) (l : List Tok) (hh : List Nat) (s : Nm) (vl vh : Value) (h : LxSt W b B K g l hh s vl vh) (k : Nat) (t : Nm) (hl : l.length ≤ 100000) :
    Calls Tryz.prog 22 #[.pointer (some ⟨b, 0, none⟩), .int .i64 (k : Int), .string (str t)] W (PutPost W b B K g (l ++ [⟨k, t, [], g⟩]) hh s vh) := by
  obtain ⟨i0, hi0, hz0, hz1, hz2⟩ := info_parts info_tk
  have H := Lib.hid h
  have HOw : Hid (∀ j, vl.ownBlock = some j → B ≤ j ∧ j < W.heap.size) := fun j hj => H.out.toks.lt j hj
  have hsz := h.size
  clear h
  go_enter Tryz.func22, Tryz.ntmps22
  go_upto_region 0 with fail
  refine Rt.wp_region_rkt 14 [] [Rg.Is (.pointer (some ⟨b, 0, none⟩)), Rg.Is (.pointer (some ⟨b, 0, none⟩)), Rg.Is (.pointer (some ⟨b, 0, none⟩)), Rg.Is (.pointer (some ⟨b, 3, none⟩)), Rg.Is (vl), Rg.Is (.int .i64 (k : Int)), Rg.Is (.string (str t)), Rg.Is (.pointer (some ⟨b, 0, none⟩)), Rg.Is (.pointer (some ⟨b, 0, none⟩)), Rg.Is (.pointer (some ⟨b, 2, none⟩)), Rg.Is (.int .i64 (g : Int)), Rg.Is (.agg #[.int .i64 (k : Int), .string (str t), .string ⟨#[]⟩, .int .i64 (g : Int)]), (fun u x => ∃ j, u = .slice (some ⟨j, 0, none⟩) 1 1 ∧ W.heap.size ≤ j ∧ x.heap[j]? = some (.cells (tkC ⟨k, t, [], g⟩).toArray tkT)), (fun u x => x.ownsRow B tkT 4 u (l.length + 1) (l.flatMap tkC ++ (tkC ⟨k, t, [], g⟩)) ∧ W.grownBy x vl.ownBlock)] (fun _ _ => True) (fun ls x => ls 13 = false → Below W.heap.size W x) (fun k x y => if k = 13 then x.grownBy y (Value.ownBlock (vl)) else Below x.heap.size x y) (by kernel_rfl) (by kernel_rfl) (of_decide_eq_true (by kernel_rfl)) (by kernel_rfl) (by kernel_rfl) trivial (fun _ => ⟨rfl, rfl, rfl, Nat.le_refl _, fun _ _ => rfl⟩) (fun ls ls' x e h1 h2 => h1 (by rw [e]; exact h2)) (fun _ _ _ _ _ => trivial) (fun i ls x _ h1 => by rw [show ([] : List Bool).getD i true = true from rfl] at h1; cases h1) ?_ ⟨rfl, rfl, rfl, rfl, rfl, rfl, rfl, rfl, rfl, rfl, rfl, rfl, rfl, rfl, trivial⟩ ⟨?_, ?_, ?_, ?_, ?_, ?_, ?_, ?_, ?_, ?_, ?_, ?_, ?_, ?_, trivial⟩ ?_
  · intro i k u x y hik _ h1 hK
    match i, h1, hik with
    | 0, h1, _ => exact h1
    | 1, h1, _ => exact h1
    | 2, h1, _ => exact h1
    | 3, h1, _ => exact h1
    | 4, h1, _ => exact h1
    | 5, h1, _ => exact h1
    | 6, h1, _ => exact h1
    | 7, h1, _ => exact h1
    | 8, h1, _ => exact h1
    | 9, h1, _ => exact h1
    | 10, h1, _ => exact h1
    | 11, h1, _ => exact h1
    | 12, h1, hik =>
      obtain ⟨j, h2, h3, h4⟩ := h1
      refine ⟨j, h2, h3, ?_⟩
      have hg := (Array.getElem?_eq_some_iff.1 h4).1
      by_cases hk : k = 13
      · subst hk
        rw [if_pos rfl] at hK
        exact (hK.block j hg (fun e => by have := (HOw.out _ e.symm).2; omega)).trans h4
      · rw [if_neg hk] at hK
        exact (hK.block j hg).trans h4
    | 13, h1, hik =>
      rw [if_neg (fun e => hik e.symm)] at hK
      exact ⟨ownsRow_below h1.1 hK, Sl.grown_trans h1.2 (Sl.grown_below hK _)⟩
    | _ + 14, _, _ => trivial
  · intro _ b9 x ls hR hS hself hup hdn hk
    have h0 : b9.eval (.tmp 0) = .pointer (some ⟨b, 0, none⟩) := Eq.mp (by kernel_rfl) (hk 0 (by decide))
    exact Rg.does_move ⟨by rw [if_neg (by decide)]; exact Below.refl _ _, h0, fun hh => hS hh⟩
  · intro _ b9 x ls hR hS hself hup hdn hk
    have h0 : b9.eval (.tmp 0) = .pointer (some ⟨b, 0, none⟩) := Eq.mp (by kernel_rfl) (hk 0 (by decide))
    have lA : ls 13 = false := hdn [4, 3, 2] 13 _ rfl (by kernel_rfl)
    have hb := hS lA
    exact Rg.does_move ⟨by rw [if_neg (by decide)]; exact Below.refl _ _, h0, fun hh => hS hh⟩
  · intro _ b9 x ls hR hS hself hup hdn hk
    have h7 : b9.eval (.tmp 7) = .pointer (some ⟨b, 0, none⟩) := Eq.mp (by kernel_rfl) (hk 7 (by decide))
    have lA : ls 13 = false := hdn [4, 3] 13 _ rfl (by kernel_rfl)
    have hb := hS lA
    exact Ap.does_nil _ h7 ⟨by rw [if_neg (by decide)]; exact Below.refl _ _, rfl, fun hh => hS hh⟩
  · intro _ b9 x ls hR hS hself hup hdn hk
    have h8 : b9.eval (.tmp 8) = .pointer (some ⟨b, 0, none⟩) := Eq.mp (by kernel_rfl) (hk 8 (by decide))
    have lA : ls 13 = false := hdn [4] 13 _ rfl (by kernel_rfl)
    have hb := hS lA
    exact Rs.does_field _ _ h8 (fld_rd b 0 3 (by decide) x) ⟨by rw [if_neg (by decide)]; exact Below.refl _ _, rfl, fun hh => hS hh⟩
  · intro _ b9 x ls hR hS hself hup hdn hk
    have h9 : b9.eval (.tmp 9) = .pointer (some ⟨b, 3, none⟩) := Eq.mp (by kernel_rfl) (hk 9 (by decide))
    have lA : ls 13 = false := hdn [] 13 _ rfl (by kernel_rfl)
    have hb := hS lA
    exact Rg.does_load _ _ h9 (load_toks (rd_cells (H.out.rd.below hb).box).1.2.2.2.1) ⟨by rw [if_neg (by decide)]; exact Below.refl _ _, rfl, fun hh => hS hh⟩
  · intro _ b9 x ls hR hS hself hup hdn hk
    have h1 : b9.eval (.tmp 1) = .int .i64 (k : Int) := Eq.mp (by kernel_rfl) (hk 1 (by decide))
    have lA : ls 13 = false := hdn [12, 11] 13 _ rfl (by kernel_rfl)
    have hb := hS lA
    exact Rg.does_move ⟨by rw [if_neg (by decide)]; exact Below.refl _ _, h1, fun hh => hS hh⟩
  · intro _ b9 x ls hR hS hself hup hdn hk
    have h2 : b9.eval (.tmp 2) = .string (str t) := Eq.mp (by kernel_rfl) (hk 2 (by decide))
    have lA : ls 13 = false := hdn [12, 11] 13 _ rfl (by kernel_rfl)
    have hb := hS lA
    exact Rg.does_move ⟨by rw [if_neg (by decide)]; exact Below.refl _ _, h2, fun hh => hS hh⟩
  · intro _ b9 x ls hR hS hself hup hdn hk
    have h0 : b9.eval (.tmp 0) = .pointer (some ⟨b, 0, none⟩) := Eq.mp (by kernel_rfl) (hk 0 (by decide))
    have lA : ls 13 = false := hdn [12, 11, 10, 9, 8] 13 _ rfl (by kernel_rfl)
    have hb := hS lA
    exact Rg.does_move ⟨by rw [if_neg (by decide)]; exact Below.refl _ _, h0, fun hh => hS hh⟩
  · intro _ b9 x ls hR hS hself hup hdn hk
    have h13 : b9.eval (.tmp 13) = .pointer (some ⟨b, 0, none⟩) := Eq.mp (by kernel_rfl) (hk 13 (by decide))
    have lA : ls 13 = false := hdn [12, 11, 10, 9] 13 _ rfl (by kernel_rfl)
    have hb := hS lA
    exact Ap.does_nil _ h13 ⟨by rw [if_neg (by decide)]; exact Below.refl _ _, rfl, fun hh => hS hh⟩
  · intro _ b9 x ls hR hS hself hup hdn hk
    have h14 : b9.eval (.tmp 14) = .pointer (some ⟨b, 0, none⟩) := Eq.mp (by kernel_rfl) (hk 14 (by decide))
    have lA : ls 13 = false := hdn [12, 11, 10] 13 _ rfl (by kernel_rfl)
    have hb := hS lA
    exact Rs.does_field _ _ h14 (fld_rd b 0 2 (by decide) x) ⟨by rw [if_neg (by decide)]; exact Below.refl _ _, rfl, fun hh => hS hh⟩
  · intro _ b9 x ls hR hS hself hup hdn hk
    have h15 : b9.eval (.tmp 15) = .pointer (some ⟨b, 2, none⟩) := Eq.mp (by kernel_rfl) (hk 15 (by decide))
    have lA : ls 13 = false := hdn [12, 11] 13 _ rfl (by kernel_rfl)
    have hb := hS lA
    exact Rg.does_load _ _ h15 (load_int1 (rd_cells (H.out.rd.below hb).box).1.2.2.1) ⟨by rw [if_neg (by decide)]; exact Below.refl _ _, rfl, fun hh => hS hh⟩
  · intro _ b9 x ls hR hS hself hup hdn hk
    have h11 : b9.eval (.tmp 11) = .int .i64 (k : Int) := Eq.mp (by kernel_rfl) (hk 11 (by decide))
    have h12 : b9.eval (.tmp 12) = .string (str t) := Eq.mp (by kernel_rfl) (hk 12 (by decide))
    have h16 : b9.eval (.tmp 16) = .int .i64 (g : Int) := Eq.mp (by kernel_rfl) (hk 16 (by decide))
    have lA : ls 13 = false := hdn [12] 13 _ rfl (by kernel_rfl)
    have hb := hS lA
    exact Ap.does_buildS #[(0, .int .i64 (k : Int)), (1, .string (str t)), (3, .int .i64 (g : Int))] _ (by simp [h11, h12, h16]) (build_tk k t g x) ⟨by rw [if_neg (by decide)]; exact Below.refl _ _, rfl, fun hh => hS hh⟩
  · intro _ b9 x ls hR hS hself hup hdn hk
    have h17 : b9.eval (.tmp 17) = .agg #[.int .i64 (k : Int), .string (str t), .string ⟨#[]⟩, .int .i64 (g : Int)] := Eq.mp (by kernel_rfl) (hk 17 (by decide))
    have lA : ls 13 = false := hdn [] 13 _ rfl (by kernel_rfl)
    have hb := hS lA
    have hal := (Below.refl x.heap.size x).alloc (Nat.le_refl _) (.cells (tkC ⟨k, t, [], g⟩).toArray tkT)
    exact Rg.does_build #[(0, .agg #[.int .i64 (k : Int), .string (str t), .string ⟨#[]⟩, .int .i64 (g : Int)])] _ (by simp [h17]) (by go_simp; rfl) ⟨by rw [if_neg (by decide)]; exact hal, ⟨x.heap.size, rfl, hb.size, heap_alloc_new x _⟩, fun hh => hb.trans (hal.mono hb.size)⟩
  · intro _ b9 x ls hR hS hself hup hdn hk
    have h10 : b9.eval (.tmp 10) = vl := Eq.mp (by kernel_rfl) (hk 10 (by decide))
    have h18 : (fun u x => ∃ j, u = .slice (some ⟨j, 0, none⟩) 1 1 ∧ W.heap.size ≤ j ∧ x.heap[j]? = some (.cells (tkC ⟨k, t, [], g⟩).toArray tkT)) (b9.eval (.tmp 18)) x := Eq.mp (by kernel_rfl) (hk 18 (by decide))
    have hb := hS hself
    obtain ⟨j, h2, h3, h4⟩ := h18
    have hown : x.ownsRow B tkT 4 vl l.length (l.flatMap tkC) := ownsRow_below H.out.toks hb
    obtain ⟨v', w', hrun, hown', hgr, hat⟩ := Ap.run_append_at (P := Tryz.prog) x B 39 39 39 tkT i0 _ 4 48 Tryz.underlying39 (append_side Tryz.underlying39) hi0 hz0 hz1 hz2 rfl (by omega) (by omega) vl _ _ hown (b9.eval (.tmp 18)) 1 (tkC ⟨k, t, [], g⟩) (by rw [h2]; exact Ap.src_cellsAt tkC_len tkC_one h4 1) (by unfold maxLen; omega) (by omega) (by have := hb.size; omega)
    exact Ap.does_append vl _ v' w' h10 rfl hrun ⟨by rw [if_pos rfl]; exact hgr, ⟨hown', Sl.grown_trans (Sl.grown_below hb _) hgr⟩, fun hh => by simp [Rs.upd] at hh⟩
  · intro vals wD ls _ hSD _ hL
    obtain ⟨g0, g1, g2, g3, g4, g5, g6, g7, g8, g9, g10, g11, g12, g13, _⟩ := hL
    obtain ⟨hown, hgr⟩ : wD.ownsRow B tkT 4 (vals 13) (l.length + 1) (l.flatMap tkC ++ tkC ⟨k, t, [], g⟩) ∧ W.grownBy wD vl.ownBlock := g13
    have g0' : vals 0 = .pointer (some ⟨b, 0, none⟩) := g0
    clear g0 g1 g2 g3 g4 g5 g6 g7 g8 g9 g10 g11 g12
    simp only [Rg.putAll, List.take_succ_cons, List.take_zero, List.drop_succ_cons, List.drop_zero, List.setIfInBounds_toArray, List.set_cons_succ, List.set_cons_zero, g0']
    clear g0'
    generalize vals 13 = u at *
    have hbx : wD.heap[b]? = W.heap[b]? := hgr.block b H.out.rd.lt (fun e => own_ne (k' := 0) H.out.toks H.out.rd.box (by decide) e.symm)
    obtain ⟨⟨c0, c1, c2, c3, c4⟩, f0, f1, f2, f3, f4⟩ := rd_cells (hbx.trans H.out.rd.box)
    have HF := Lib.hid (H.out.put hgr hbx hown)
    obtain ⟨au, cu, rfl, _, _, _, _⟩ := ownsRow_slice hown
    clear hown hgr hbx
    go_wp2_with fail
    refine bodyPost_end (v := .tuple #[]) (results_none rfl _ _ _) rfl ?_
    exact ⟨rfl, HF.out.2, _, HF.out.1⟩
theorem idx_contains (l : Nm) (c : UInt8) : decide (0 ≤ Lib.indexByte l c) = l.contains c := by
  have h := index_cut c l
  have hm : ∀ s : Nm, (cutAt c s).isSome = s.contains c := by
    intro s
    induction s with
    | nil => rfl
    | cons d r ih =>
      unfold cutAt
      by_cases hd : d = c
      · subst hd; simp
      · rw [if_neg hd, Option.isSome_map, ih, List.contains_cons]
        have : (c == d) = false := by rw [beq_eq_false_iff_ne]; exact fun e => hd e.symm
        rw [this, Bool.false_or]
  rw [← hm l]
  cases hc : cutAt c l with
  | none => rw [hc] at h; simp only at h; rw [h]; rfl
  | some x => rw [hc] at h; simp only at h; rw [h.1]; simp
set_option maxHeartbeats 1000000 in
theorem ends_calls (W : World) (b : Nat) (s : Nm) (K g : Nat) (vl vh : Value) (h : Rd W b s K g vl vh) : Calls Tryz.prog 68 #[.pointer (some ⟨b, 0, none⟩)] W fun r W' => r = .returned (.bool (ends s)) ∧ W' = W := by
  obtain ⟨⟨c0, c1, c2, c3, c4⟩, f0, f1, f2, f3, f4⟩ := rd_cells h.box
  clear h
  go_enter Tryz.func68, Tryz.ntmps68
  cases s with
  | nil =>
    have t1 : ((str []).toList == []) = true := by rw [str_tl]; rfl
    go_wp2_with fail
    go_ret
    exact ⟨rfl, rfl⟩
  | cons c r =>
    have t1 : ((str (c :: r)).toList == []) = false := by rw [str_tl]; rfl
    have e1 : (str (c :: r)).size = r.length + 1 := rfl
    obtain ⟨v, hv⟩ : ∃ v, blkL.contains c = v := ⟨_, rfl⟩
    have HV := Lib.hid hv
    clear hv
    have hx1 : (str (c :: r)).extract 0 1 = str [c] := Sw.str_sub _ _ _
    have e2 : (1 : Int) ≤ ((str (c :: r)).size : Int) := by rw [e1]; omega
    go_wp2_with fail
    refine (Tryz.strings_Contains_one (str blkL) c _).mono ?_
    rintro q w3 ⟨rfl, hw3⟩
    obtain rfl := hw3.symm
    rw [str_dl, idx_contains]
    rw [show blkL.contains c = v from HV.out]
    go_wp2_with fail
    go_ret
    exact ⟨by rw [show ends (c :: r) = v from HV.out]; rfl, rfl⟩
end Go.Proofs.YtiklkhbfilbpeaaGreatDoor
