/-
  Unparse: the printer, and the builder that lies within it: copyCheck, WriteString, String. Conditions: as each contract says.
  Unparse: put, line, redir, part. Conditions: as each contract says.
  Unparse: line, part. Conditions: as each contract says.
  Unparse: a redirection. Conditions: as the contract says.
  Unparse: what stands between kids. Conditions: as the contract says.
  Unparse: a node that is printed; group, sub, function. Conditions: as each contract says.
-/
import Derived.Test.YtiklkhbfilbpeaaGreatDoorSkGSyB
import Derived.Test.YtiklkhbfilbpeaaGreatDoorSkAppendAt
import Derived.Test.YtiklkhbfilbpeaaGreatDoorSkUnPlain
import Derived.Lib.AppendStr
import Derived.Lib.UnsafeStr
import Derived.Lib.Builder
import Derived.Laws.Externs
import Derived.Test.YtiklkhbfilbpeaaGreatDoorSkUnFew
import Derived.Test.YtiklkhbfilbpeaaGreatDoorSkGSyC
import Derived.Test.YtiklkhbfilbpeaaGreatDoorSkLxBare
set_option linter.unusedVariables false
set_option linter.unusedSimpArgs false
set_option maxRecDepth 100000
namespace Go.Proofs.YtiklkhbfilbpeaaGreatDoor.Ux
open Go.RowKit Base Lx Sy Sx Un
abbrev prT : TypeId := 53
abbrev buT : TypeId := 51
abbrev u8T : TypeId := 5
theorem info_bu : (Tryz.prog.info? buT).map (fun i => i.size) = some 2 := by kernel_rfl
theorem info_u8 : (Tryz.prog.info? u8T).map (fun i => (i.zero, i.size, i.bytes)) = some (some (.int .u8 0), 1, 1) := by kernel_rfl
theorem lies_bu : liesAt Tryz.prog Tryz.prog.depth prT (4 / Tryz.prog.cellsOf prT) 1 buT 1 = true := by kernel_rfl
theorem cells_u8 : Tryz.prog.cellsOf u8T = 1 := by kernel_rfl
theorem pr_ne : prT ≠ u8T := by decide
/-- A printer in block b: its nodes' value tv, its buffer bv. -/
structure PrA (W : World) (b B : Nat) (tv a bv : Value) (s : PS) : Prop where
  box : W.heap[b]? = some (.cells #[tv, a, bv, .string (str s.2)] prT)
  bB : B ≤ b
  row : W.ownsRow B u8T 1 bv s.1.length (Lib.byteCells s.1)
def Pr (W : World) (b B : Nat) (tv bv : Value) (s : PS) : Prop := PrA W b B tv (.pointer none) bv s ∨ PrA W b B tv (.pointer (some ⟨b, 1, none⟩)) bv s
theorem PrA.lt {W : World} {b B : Nat} {tv a bv : Value} {s : PS} (h : PrA W b B tv a bv s) : b < W.heap.size := (Array.getElem?_eq_some_iff.1 h.box).1
theorem PrA.size {W : World} {b B : Nat} {tv a bv : Value} {s : PS} (h : PrA W b B tv a bv s) : B ≤ W.heap.size := Nat.le_of_lt (Nat.lt_of_le_of_lt h.bB h.lt)
theorem PrA.ne {W : World} {b B : Nat} {tv a bv : Value} {s : PS} (h : PrA W b B tv a bv s) : bv.ownBlock ≠ some b := Lib.ownBlock_ne h.row h.box pr_ne
theorem PrA.below {W W' : World} {b B : Nat} {tv a bv : Value} {s : PS} (h : PrA W b B tv a bv s) (hb : Below W.heap.size W W') : PrA W' b B tv a bv s :=
  ⟨(hb.block b h.lt).trans h.box, h.bB, own_keep h.row (fun g X _ hX => hb.block g (Array.getElem?_eq_some_iff.1 hX).1)⟩
theorem Pr.any {W : World} {b B : Nat} {tv bv : Value} {s : PS} (h : Pr W b B tv bv s) : ∃ a, PrA W b B tv a bv s := by
  rcases h with h | h
  · exact ⟨_, h⟩
  · exact ⟨_, h⟩
theorem Pr.lt {W : World} {b B : Nat} {tv bv : Value} {s : PS} (h : Pr W b B tv bv s) : b < W.heap.size := h.any.elim fun _ h => h.lt
theorem Pr.size {W : World} {b B : Nat} {tv bv : Value} {s : PS} (h : Pr W b B tv bv s) : B ≤ W.heap.size := h.any.elim fun _ h => h.size
theorem Pr.bB {W : World} {b B : Nat} {tv bv : Value} {s : PS} (h : Pr W b B tv bv s) : B ≤ b := h.any.elim fun _ h => h.bB
theorem Pr.own {W : World} {b B : Nat} {tv bv : Value} {s : PS} (h : Pr W b B tv bv s) : ∀ g, bv.ownBlock = some g → B ≤ g ∧ g < W.heap.size := h.any.elim fun _ h => h.row.lt
theorem Pr.below {W W' : World} {b B : Nat} {tv bv : Value} {s : PS} (h : Pr W b B tv bv s) (hb : Below W.heap.size W W') : Pr W' b B tv bv s := h.imp (fun h => h.below hb) (fun h => h.below hb)
/-- A block of another type is no block of the printer's. -/
theorem Pr.not {W : World} {b B : Nat} {tv bv : Value} {s : PS} (h : Pr W b B tv bv s) {q : Nat} {X : Array Value} {t : TypeId} {fr : Nat × Nat} (hq : W.heap[q]? = some (.cells X t fr)) (h1 : t ≠ prT) (h2 : t ≠ u8T) : q ≠ b ∧ bv.ownBlock ≠ some q := by
  obtain ⟨a, ha⟩ := h.any
  refine ⟨fun e => ?_, Lib.ownBlock_ne ha.row hq h2⟩
  subst e
  have := hq.symm.trans ha.box
  injection this with this
  injection this with _ this _
  exact h1 this
theorem pr_cells {W : World} {b : Nat} {c0 c1 c2 c3 : Value} (h : W.heap[b]? = some (.cells #[c0, c1, c2, c3] prT)) :
    (W.cell? ⟨b, 0, none⟩ = some c0 ∧ W.cell? ⟨b, 1, none⟩ = some c1 ∧ W.cell? ⟨b, 2, none⟩ = some c2 ∧ W.cell? ⟨b, 3, none⟩ = some c3) ∧ W.frozen? ⟨b, 0, none⟩ = false ∧ W.frozen? ⟨b, 1, none⟩ = false ∧ W.frozen? ⟨b, 2, none⟩ = false ∧ W.frozen? ⟨b, 3, none⟩ = false := by
  simp [World.cell?, World.frozen?, h]
theorem byte_app (s t : Nm) : Lib.byteCells (s ++ t) = Lib.byteCells s ++ Lib.byteCells t := List.map_append
/-- What ends a printer's step. -/
def Post (W : World) (b B : Nat) (tv bv : Value) (s : PS) (r : Ending) (W' : World) : Prop := ∃ bv', r = .returned (.tuple #[]) ∧ Sx.Turn b bv W bv' W' ∧ Pr W' b B tv bv' s
theorem check_fresh (W : World) (b B : Nat) (tv bv : Value) (s : PS) (h : PrA W b B tv (.pointer none) bv s) : Calls Tryz.prog 74 #[.pointer (some ⟨b, 1, none⟩)] W fun r W' => r = .returned (.tuple #[]) ∧ W' = W.setCell ⟨b, 1, none⟩ (.pointer (some ⟨b, 1, none⟩)) := by
  obtain ⟨⟨_, c1, _⟩, _, f1, _⟩ := pr_cells h.box
  have hsh : W.shape? b = some (prT, 4) := by
    unfold World.shape?
    rw [h.box]
    rfl
  obtain ⟨j, hj, hjs⟩ := Option.map_eq_some_iff.1 info_bu
  go_enter Tryz.func74, Tryz.ntmps74
  go_wp2
  rw [Lib.run_to_unsafe W ⟨b, 1, none⟩ Tryz.underlying48 Tryz.underlying117 hj (by rw [hjs]; decide) hsh (by decide : 1 < 4)]
  simp only [Result.andThen]
  rw [Oper.upon_value]
  go_wp2
  rw [run_callFunc_extern Tryz.func99 (by kernel_rfl) (by kernel_rfl) (by kernel_rfl) (e := Extern.AbiNoEscape.same) (by kernel_rfl)]
  rw [Lib.run_noEscape]
  simp only [Result.andThen]
  rw [Oper.upon_value]
  go_wp2
  rw [Lib.run_from_unsafe W ⟨b, 1, none⟩ Tryz.underlying117 Tryz.underlying48 hj hsh lies_bu]
  simp only [Result.andThen]
  rw [Oper.upon_value]
  go_wp2
  go_end0
  exact ⟨rfl, rfl⟩
theorem check_used (W : World) (b B : Nat) (tv bv : Value) (s : PS) (h : PrA W b B tv (.pointer (some ⟨b, 1, none⟩)) bv s) : Calls Tryz.prog 74 #[.pointer (some ⟨b, 1, none⟩)] W fun r W' => r = .returned (.tuple #[]) ∧ W' = W := by
  obtain ⟨⟨_, c1, _⟩, _, f1, _⟩ := pr_cells h.box
  obtain ⟨j, hj, hjs⟩ := Option.map_eq_some_iff.1 info_bu
  go_enter Tryz.func74, Tryz.ntmps74
  go_wp2
  rw [Lib.run_neq_ptr_same W _ Tryz.underlying48 hj]
  go_wp2
  go_end0
  exact ⟨rfl, rfl⟩
theorem check_calls (W : World) (b B : Nat) (tv bv : Value) (s : PS) (h : Pr W b B tv bv s) : Calls Tryz.prog 74 #[.pointer (some ⟨b, 1, none⟩)] W fun r W' => r = .returned (.tuple #[]) ∧ W.grownBy W' (some b) ∧ W'.heap.size = W.heap.size ∧ PrA W' b B tv (.pointer (some ⟨b, 1, none⟩)) bv s := by
  rcases h with h | h
  · refine (check_fresh W b B tv bv s h).mono ?_
    rintro r W' ⟨rfl, rfl⟩
    have hg : W.grownBy (W.setCell ⟨b, 1, none⟩ (.pointer (some ⟨b, 1, none⟩))) (some b) := Sl.setCells_grown b [_] 1 W
    refine ⟨rfl, hg, by simp [World.setCell], ⟨heap_setCell_same W b 1 _ _ _ h.box, h.bB, ?_⟩⟩
    exact h.row.kept (row := some b) hg (Or.inr h.ne)
  · refine (check_used W b B tv bv s h).mono ?_
    rintro r W' ⟨rfl, rfl⟩
    exact ⟨rfl, ⟨rfl, rfl, rfl, Nat.le_refl _, fun _ _ _ => rfl⟩, rfl, h⟩
theorem write_calls (W : World) (b B : Nat) (tv bv : Value) (s : PS) (h : Pr W b B tv bv s) (t : Nm) (hl : s.1.length + t.length ≤ 140737488355328) : Calls Tryz.prog 60 #[.pointer (some ⟨b, 1, none⟩), .string (str t)] W fun r W' => ∃ bv', r = .returned (.tuple #[.int .i64 (t.length : Int), .nilIface]) ∧ Sx.Turn b bv W bv' W' ∧ Pr W' b B tv bv' (putS t s) := by
  obtain ⟨i0, hi, hz0, hz1, hz2⟩ := info_parts info_u8
  have hB := h.size
  go_enter Tryz.func60, Tryz.ntmps60
  go_wp2_with (refine (check_calls W b B tv bv s h).mono ?_)
  rintro e w1 ⟨rfl, hg1, hs1, h1⟩
  obtain ⟨⟨_, c1, c2, _⟩, _, f1, f2, _⟩ := pr_cells h1.box
  go_wp2_with (at_builtin; refine Ap.wpList_append_at rfl _ _ 49 9 rfl B u8T i0 (.int .u8 0) 1 1 Tryz.underlying49 ⟨_, Tryz.underlying9, fun k => by simp⟩ hi hz0 hz1 hz2 rfl (by decide) (by decide) _ _ _ rfl h1.row _ _ _ rfl (src_string (str t)) ?c3 ?c4 ?c5 ?_)
  case c3 => rw [str_size]; unfold maxLen; omega
  case c4 => rw [str_size]; omega
  case c5 => omega
  intro v' w2 hown' hgrow hat
  have hb2 : w2.heap[b]? = some (.cells #[tv, .pointer (some ⟨b, 1, none⟩), bv, .string (str s.2)] prT) := by
    rw [hgrow.block b h1.lt (fun e => h1.ne e.symm)]
    exact h1.box
  obtain ⟨⟨_, d1, d2, _⟩, _, f1', f2', _⟩ := pr_cells hb2
  obtain ⟨ao, n', cap, rfl⟩ : ∃ ao n' cap, v' = .slice ao n' cap := by
    rcases hown'.2 with ⟨hv, _⟩ | ⟨g, cap, cur, hv, _⟩
    · exact ⟨_, _, _, hv⟩
    · exact ⟨_, _, _, hv⟩
  have hsz : ((str t).size : Int) = (t.length : Int) := by rw [str_size]
  go_wp2
  go_ret2
  have hown' : w2.ownsRow B u8T 1 (.slice ao n' cap) (putS t s).1.length (Lib.byteCells (putS t s).1) := by
    have h0 : w2.ownsRow B u8T 1 (.slice ao n' cap) (s.1.length + (str t).size) (Lib.byteCells s.1 ++ Lib.byteCells t) := hown'
    rw [str_size, ← byte_app, ← List.length_append] at h0
    exact h0
  have hgs : w2.grownBy (w2.setCell ⟨b, 2, none⟩ (.slice ao n' cap)) (some b) := Sl.setCells_grown b [_] 2 w2
  have hne' := Lib.ownBlock_ne hown' hb2 pr_ne
  refine ⟨.slice ao n' cap, rfl, ⟨?_, ?_, ?_, ?_, ?_, ?_⟩, Or.inr ⟨heap_setCell_same w2 b 2 _ _ _ hb2, h1.bB, hown'.kept (row := some b) hgs (Or.inr hne')⟩⟩
  · exact (hgs.os.trans hgrow.os).trans hg1.os
  · exact (hgs.tape.trans hgrow.tape).trans hg1.tape
  · exact (hgs.output.trans hgrow.output).trans hg1.output
  · exact Nat.le_trans hg1.size (Nat.le_trans hgrow.size hgs.size)
  · intro k hk hkb hko
    rw [hgs.block k (Nat.lt_of_lt_of_le (by omega) hgrow.size) (fun e => hkb (Option.some.inj e)), hgrow.block k (by omega) (fun e => hko e.symm), hg1.block k hk (fun e => hkb (Option.some.inj e))]
  · intro g hg hgl
    exact hat g hg (by omega)
theorem run_ust (W : World) (q : Option Addr) : (Builtin.unsafeString_ #[78, 3] 9 #[.pointer q, .int .i64 0]).run Tryz.prog W = .ok (.string .empty) W := Lib.run_unsafeString_none W _ _ _ q
set_option maxHeartbeats 2000000 in
/-- The builder's text. -/
theorem string_calls (W : World) (b B : Nat) (tv bv : Value) (s : PS) (h : Pr W b B tv bv s) : Calls Tryz.prog 16 #[.pointer (some ⟨b, 1, none⟩)] W fun r W' => r = .returned (.string (str s.1)) ∧ Below B W W' := by
  obtain ⟨a, h⟩ := h.any
  have hB := h.size
  have hcs : ∀ w : World, w.heap = W.heap → w.cell? ⟨b, 2, none⟩ = some bv := fun w e => by
    have := (pr_cells (W := w) (by rw [e]; exact h.box)).1.2.2.1
    exact this
  have c1 := hcs W.drew rfl
  have c0 := hcs W rfl
  rcases h.row.2 with ⟨rfl, h0⟩ | ⟨g, cap, cur, rfl, hbg, hg, hnc, hcm, hsz, htake⟩
  · have hs : s.1 = [] := List.eq_nil_of_length_eq_zero h0
    have hUS := run_ust
    have hSD : (Builtin.unsafeSliceData_ #[49] 78 #[.slice none 0 0]).run Tryz.prog W.drew = .ok (.pointer none) W.drew := rfl
    clear hcs
    go_enter Tryz.func16, Tryz.ntmps16
    go_wp2
    go_region
    all_goals (go_wp2; go_ret; exact ⟨by rw [hs]; rfl, Below.drew (Below.refl B W)⟩)
  · by_cases h0 : s.1 = []
    · have hl0 : s.1.length = 0 := by rw [h0]; rfl
      have hUS := run_ust
      rw [hl0] at c1 c0 hcs
      by_cases hc : cap = 0
      · subst hc
        have hgsh : W.drew.shape? g = some (u8T, cur.size) := by
          have hg' : W.drew.heap[g]? = some (.cells cur u8T (0, 0)) := hg
          unfold World.shape?
          rw [hg']
        have hSD : (Builtin.unsafeSliceData_ #[49] 78 #[.slice (some ⟨g, 0, none⟩) 0 0]).run Tryz.prog W.drew = .ok (.pointer (some ⟨W.drew.heap.size, 0, none⟩)) (W.drew.alloc (.view ⟨g, 0, none⟩ u8T)) :=
          Lib.run_unsafeSliceData_zero W.drew _ _ u8T Tryz.underlying78 ⟨g, 0, none⟩ 0 (u8T, cur.size) hgsh
        have c2 : (W.drew.alloc (.view ⟨g, 0, none⟩ u8T)).cell? ⟨b, 2, none⟩ = some (.slice (some ⟨g, 0, none⟩) 0 0) := by
          have hx : (W.drew.alloc (.view ⟨g, 0, none⟩ u8T)).heap[b]? = _ := (Lib.alloc_old W.drew _ b h.lt).trans h.box
          have := (pr_cells hx).1.2.2.1
          rw [hl0] at this
          exact this
        have c3 : (W.alloc (.view ⟨g, 0, none⟩ u8T)).drew.cell? ⟨b, 2, none⟩ = some (.slice (some ⟨g, 0, none⟩) 0 0) := c2
        clear hcs
        go_enter Tryz.func16, Tryz.ntmps16
        go_wp2
        go_region
        all_goals (go_wp2; go_ret; exact ⟨by rw [h0]; rfl, (Below.drew (Below.refl B W)).alloc hB _⟩)
      · have hSD : (Builtin.unsafeSliceData_ #[49] 78 #[.slice (some ⟨g, 0, none⟩) 0 cap]).run Tryz.prog W.drew = .ok (.pointer (some ⟨g, 0, none⟩)) W.drew := Lib.run_unsafeSliceData_row _ _ _ _ _ _ hc
        clear hcs hc
        go_enter Tryz.func16, Tryz.ntmps16
        go_wp2
        go_region
        all_goals (go_wp2; go_ret; exact ⟨by rw [h0]; rfl, Below.drew (Below.refl B W)⟩)
    · have hl0 : s.1.length ≠ 0 := by simpa using h0
      have hSD : (Builtin.unsafeSliceData_ #[49] 78 #[.slice (some ⟨g, 0, none⟩) s.1.length cap]).run Tryz.prog W.drew = .ok (.pointer (some ⟨g, 0, none⟩)) W.drew := Lib.run_unsafeSliceData_row _ _ _ _ _ _ (by omega)
      have hUS : (Builtin.unsafeString_ #[78, 3] 9 #[.pointer (some ⟨g, 0, none⟩), .int .i64 s.1.length]).run Tryz.prog W.drew = .ok (.string ⟨s.1.toArray⟩) (W.drew.freeze ⟨g, 0, none⟩ s.1.length) := by
        refine Lib.run_unsafeString_row W.drew 78 3 9 u8T Tryz.underlying78 cells_u8 g cur.size ?_ s.1 h0 (by omega) (by unfold maxLen at hcm; omega) ?_
        · have hg' : W.drew.heap[g]? = some (.cells cur u8T (0, 0)) := hg
          unfold World.shape?
          rw [hg']
        · intro j x hx
          exact h.row.cells (g := g) rfl j (.int .u8 x.toNat) (by simp [Lib.byteCells, hx])
      clear hcs
      go_enter Tryz.func16, Tryz.ntmps16
      go_wp2
      go_region
      all_goals (go_wp2; go_ret; exact ⟨rfl, Lib.below_freeze (Below.drew (Below.refl B W)) (p := ⟨g, 0, none⟩) hbg _⟩)
end Go.Proofs.YtiklkhbfilbpeaaGreatDoor.Ux
set_option linter.unusedVariables false
set_option linter.unusedSimpArgs false
set_option maxRecDepth 100000
namespace Go.Proofs.YtiklkhbfilbpeaaGreatDoor.Ux
open Go.RowKit Base Lx Sy Sx Un
abbrev big : Nat := 140737488355328
def putsS (l : List Nm) (s : PS) : PS := (s.1 ++ l.flatten, s.2)
theorem puts_one (t : Nm) (s : PS) : putsS [t] s = putS t s := by simp [putsS, putS]
theorem puts_next {l : List Nm} {i : Nat} {y : Nm} (hi : l[i]? = some y) (s : PS) : putS y (putsS (l.take i) s) = putsS (l.take (i + 1)) s := by
  unfold putS putsS
  rw [List.take_add_one, hi, List.flatten_append, ← List.append_assoc]
  simp
theorem take_flat_le (l : List Nm) (i : Nat) : (l.take i).flatten.length ≤ l.flatten.length := by
  have : l.flatten = (l.take i).flatten ++ (l.drop i).flatten := by rw [← List.flatten_append, List.take_append_drop]
  rw [this, List.length_append]
  omega
def nOf (v : Value) : Nat := match v with | .int _ z => z.toNat | _ => 0
set_option maxHeartbeats 1000000 in
theorem put_calls (W : World) (b B : Nat) (tv bv : Value) (s : PS) (h : Pr W b B tv bv s) (g c : Nat) (l : List Nm) (hg : W.heap[g]? = some (.cells (l.map sv).toArray stT)) (hl : s.1.length + l.flatten.length ≤ big) (hn : l.length ≤ 1000) :
    Calls Tryz.prog 39 #[.pointer (some ⟨b, 0, none⟩), .slice (some ⟨g, 0, none⟩) l.length c] W fun r W' => Post W b B tv bv (putsS l s) r W' := by
  have HG := Lib.hid hg
  have HL := Lib.hid hl
  have HP := Lib.hid h
  have HN := Lib.hid hn
  obtain ⟨n, hn2⟩ : ∃ n, l.length = n := ⟨_, rfl⟩
  have HN2 := Lib.hid hn2
  have hn1 : n ≤ 1000 := by omega
  have HQ := Lib.hid (h.not hg (by decide) (by decide))
  rw [hn2]
  clear hg hl h hn hn2
  go_enter Tryz.func39, Tryz.ntmps39
  go_wp2_with fail
  go_loopw [8] (fun v8 wr => ∃ (i : Nat) (bv' : Value), i ≤ n ∧ v8 = .int .i64 (i : Int) ∧ Sx.Turn b bv W bv' wr ∧ Pr wr b B tv bv' (putsS (l.take i) s)) (fun v8 _ => n - nOf v8)
  case atStart => exact ⟨0, bv, Nat.zero_le _, rfl, Sx.Turn.refl _ _ _, by simpa [putsS] using HP.out⟩
  case round =>
    obtain ⟨i, bv', hi, rfl, hT, hR⟩ := hrel
    have HT := Lib.hid hT
    have HR := Lib.hid hR
    clear hT hR
    by_cases hin : i < n
    case neg =>
      obtain rfl : i = n := by omega
      have a3 : decide (i < i) = false := decide_eq_false (by omega)
      have a1 : decide ((i : Int) < (i : Int)) = false := decide_eq_false (by omega)
      have a2 : ¬ ((i : Int) < (i : Int)) := by omega
      go_wp2_with fail
      go_end0
      refine ⟨bv', rfl, HT.out, ?_⟩
      have := HR.out
      rwa [← HN2.out, List.take_length] at this
    have hil : i < l.length := by have := HN2.out; omega
    have XI := fun w' => idx_st (g := g) (o := 0) (n := n) (c := c) i hin .i64 w'
    have hgr : wr.heap[g]? = some (.cells (l.map sv).toArray stT) := (HT.out.block g (Array.getElem?_eq_some_iff.1 HG.out).1 HQ.out.1 HQ.out.2).trans HG.out
    obtain ⟨y, hy⟩ : ∃ y, l[i]? = some y := ⟨_, List.getElem?_eq_getElem hil⟩
    have k0 : wr.cell? ⟨g, i, none⟩ = some (.string (str y)) := by
      rw [Lib.cell_of_heap hgr]
      simp [hy, sv]
    have HY := Lib.hid hy
    clear hy hgr hil
    have a3 : decide (i < n) = true := decide_eq_true (by omega)
    have a1 : decide ((i : Int) < (n : Int)) = true := decide_eq_true (by omega)
    have a2 : (i : Int) < (n : Int) := by omega
    have hlen : (putsS (l.take i) s).1.length + y.length ≤ 140737488355328 := by
      have h1 := puts_next HY.out s
      have h2 := take_flat_le l (i + 1)
      have h3 : _ ≤ 140737488355328 := HL.out
      have h4 := congrArg (fun x : PS => x.1.length) h1
      simp only [putS, putsS, List.length_append] at h4 ⊢
      omega
    have HLen := Lib.hid hlen
    clear hlen
    go_wp2_with (refine (write_calls wr b B tv bv' _ HR.out y HLen.out).mono ?_)
    rintro e w1 ⟨bv1, rfl, hT1, hP1⟩
    go_wp2
    refine ⟨⟨i + 1, bv1, by omega, by simp, HT.out.trans hT1, ?_⟩, ?_⟩
    · rw [← puts_next HY.out]
      exact hP1
    · simp [nOf]; omega
end Go.Proofs.YtiklkhbfilbpeaaGreatDoor.Ux
set_option linter.unusedVariables false
set_option linter.unusedSimpArgs false
set_option maxRecDepth 100000
namespace Go.Proofs.YtiklkhbfilbpeaaGreatDoor.Ux
open Go.RowKit Base Lx Sy Sx Un
/-- The tree that is printed. -/
structure TrAt (W : World) (B : Nat) (tv : Value) (l : List Nd) : Prop where
  row : RowN W 0 (fun g => g < B) tv l
  low : ∀ g, tv.ownBlock = some g → g < B
theorem TrAt.below {W W' : World} {B : Nat} {tv : Value} {l : List Nd} (h : TrAt W B tv l) (hb : Below B W W') : TrAt W' B tv l :=
  ⟨h.row.keep (fun g X hg _ => hb.block g (h.low g hg)) (fun g X t hg _ _ => hb.block g hg), h.low⟩
/-- A printer's turns. -/
theorem turn_low {W W' : World} {b B : Nat} {tv bv bv' : Value} {s : PS} (h : Pr W b B tv bv s) (ht : Sx.Turn b bv W bv' W') : Below B W W' := ht.below h.bB (fun g hg => (h.own g hg).1) h.size
theorem turn_alloc {b : Nat} {bv bv' : Value} {W W' : World} {o : Obj} (h : Sx.Turn b bv (W.alloc o) bv' W') : Sx.Turn b bv W bv' W' := (Sx.Turn.of_below (Below.refl _ _ |>.alloc (Nat.le_refl _) _)).trans h
theorem Pr.alloc {W : World} {b B : Nat} {tv bv : Value} {s : PS} (h : Pr W b B tv bv s) (o : Obj) : Pr (W.alloc o) b B tv bv s := h.below ((Below.refl _ _).alloc (Nat.le_refl _) _)
theorem heap_new (W : World) (o : Obj) : (W.alloc o).heap[W.heap.size]? = some o := Array.getElem?_push_size
theorem put_new (W : World) (b B : Nat) (tv bv : Value) (s : PS) (h : Pr W b B tv bv s) (c : Nat) (l : List Nm) (hl : s.1.length + l.flatten.length ≤ big) (hn : l.length ≤ 1000) :
    Calls Tryz.prog 39 #[.pointer (some ⟨b, 0, none⟩), .slice (some ⟨W.heap.size, 0, none⟩) l.length c] (W.alloc (.cells (l.map sv).toArray stT)) fun r W' => Post W b B tv bv (putsS l s) r W' := by
  refine (put_calls _ b B tv bv s (h.alloc _) _ c l (heap_new _ _) hl hn).mono ?_
  rintro r W' ⟨bv', h1, h2, h3⟩
  exact ⟨bv', h1, turn_alloc h2, h3⟩
theorem put1_new (W : World) (b B : Nat) (tv bv : Value) (s : PS) (h : Pr W b B tv bv s) (t : Nm) (hl : s.1.length + t.length ≤ big) :
    Calls Tryz.prog 39 #[.pointer (some ⟨b, 0, none⟩), .slice (some ⟨W.heap.size, 0, none⟩) 1 1] (W.alloc (.cells #[.string (str t)] stT)) fun r W' => Post W b B tv bv (putS t s) r W' := by
  have := put_new W b B tv bv s h 1 [t] (by simpa using hl) (by simp)
  rw [puts_one] at this
  exact this
/-- Its bodies are set. -/
theorem PrA.setB {W : World} {b B : Nat} {tv a bv : Value} {s : PS} (h : PrA W b B tv a bv s) (t : Nm) : PrA (W.setCell ⟨b, 3, none⟩ (.string (str t))) b B tv a bv (s.1, t) :=
  ⟨heap_setCell_same W b 3 _ _ _ h.box, h.bB, h.row.kept (row := some b) (Sl.setCells_grown b [_] 3 W) (Or.inr h.ne)⟩
theorem Pr.setB {W : World} {b B : Nat} {tv bv : Value} {s : PS} (h : Pr W b B tv bv s) (t : Nm) : Pr (W.setCell ⟨b, 3, none⟩ (.string (str t))) b B tv bv (s.1, t) ∧ Sx.Turn b bv W bv (W.setCell ⟨b, 3, none⟩ (.string (str t))) :=
  ⟨h.imp (fun h => h.setB t) (fun h => h.setB t), Sx.Turn.of_box (Sl.setCells_grown b [_] 3 W)⟩
theorem line_calls (W : World) (b B : Nat) (tv bv : Value) (s : PS) (h : Pr W b B tv bv s) (hl : lenS s + 1 ≤ big) :
    Calls Tryz.prog 58 #[.pointer (some ⟨b, 0, none⟩)] W fun r W' => Post W b B tv bv (lnS s) r W' := by
  obtain ⟨a, ha⟩ := h.any
  obtain ⟨⟨_, _, _, c3⟩, _⟩ := pr_cells ha.box
  have hput := put_new W b B tv bv s h 2 [[10], s.2] (by unfold lenS at hl; simp; omega) (by simp)
  have HP := Lib.hid hput
  clear hput ha
  go_enter Tryz.func58, Tryz.ntmps58
  go_wp2_with (refine HP.out.mono ?_)
  rintro r w1 ⟨bv1, rfl, ht, hp⟩
  have HT := Lib.hid ht
  have HQ := Lib.hid hp
  obtain ⟨a, ha⟩ := hp.any
  have f3 := (pr_cells ha.box).2.2.2.2
  have d3 := (pr_cells ha.box).1.2.2.2
  clear ha hp ht
  go_wp2
  go_end0
  have hs := HQ.out.setB []
  refine ⟨bv1, rfl, HT.out.trans hs.2, ?_⟩
  have e : lnS s = ((putsS [[10], s.2] s).1, ([] : Nm)) := by simp [lnS, putsS]
  rw [e]
  exact hs.1
/-- What the node at k does. -/
def KidC (l : List Nd) (b B : Nat) (tv : Value) (k : Int) (f : PS → PS) (c : Nat) : Prop := ∀ (W : World) (bv : Value) (s : PS), Pr W b B tv bv s → TrAt W B tv l → lenS s + c ≤ big → Calls Tryz.prog 14 #[.pointer (some ⟨b, 0, none⟩), .int .i64 k] W fun r W' => Post W b B tv bv (f s) r W'
theorem part_calls (W : World) (b B : Nat) (tv bv : Value) (s : PS) (l : List Nd) (h : Pr W b B tv bv s) (ht : TrAt W B tv l) (w : Nm) (k : Int) (f : PS → PS) (c : Nat) (hk : KidC l b B tv k f c) (hl : lenS s + w.length + 1 + c ≤ big) :
    Calls Tryz.prog 59 #[.pointer (some ⟨b, 0, none⟩), .string (str w), .int .i64 k] W fun r W' => Post W b B tv bv (partS w f s) r W' := by
  have HP := Lib.hid (put1_new W b B tv bv s h w (by unfold lenS at hl; omega))
  have HL := Lib.hid hl
  have HK := Lib.hid hk
  have HR := Lib.hid h
  have HTr := Lib.hid ht
  clear hl hk h ht
  go_enter Tryz.func59, Tryz.ntmps59
  go_wp2_with (refine HP.out.mono ?_)
  rintro r w1 ⟨bv1, rfl, ht1, hp1⟩
  have HT1 := Lib.hid ht1
  have HL1 : Hid (lenS (putS w s) + 1 + c ≤ big) := by have := HL.out; unfold lenS putS at *; simp only [List.length_append]; show _ ≤ _; omega
  have HC := Lib.hid (line_calls w1 b B tv bv1 _ hp1 (by have := HL1.out; omega))
  clear ht1 hp1
  go_wp2_with (refine HC.out.mono ?_)
  rintro r w2 ⟨bv2, rfl, ht2, hp2⟩
  have HT2 := Lib.hid (HT1.out.trans ht2)
  have HC2 := Lib.hid (HK.out w2 bv2 _ hp2 (HTr.out.below (turn_low HR.out HT2.out)) (by have := HL1.out; unfold lenS lnS putS at *; simp only [List.length_append, List.length_cons, List.length_nil] at *; omega))
  clear ht2 hp2
  go_wp2_with (refine HC2.out.mono ?_)
  rintro r w3 ⟨bv3, rfl, ht3, hp3⟩
  go_wp2
  go_end0
  exact ⟨bv3, rfl, HT2.out.trans ht3, hp3⟩
end Go.Proofs.YtiklkhbfilbpeaaGreatDoor.Ux
set_option linter.unusedVariables false
set_option linter.unusedSimpArgs false
set_option maxRecDepth 100000
namespace Go.Proofs.YtiklkhbfilbpeaaGreatDoor.Ux
open Go.RowKit Base Lx Sy Sx Un
theorem un_itoa_calls (W : World) (n : Nat) (hn : n ≤ 99) : Calls Tryz.prog 61 #[.int .i64 (n : Int)] W fun e w' => e = .returned (.string (str (Lib.itoa (n : Int)))) ∧ w' = W := by
  refine (Tryz.strconv_Itoa_small n (by omega) W).mono ?_
  rintro e w' ⟨rfl, rfl⟩
  refine ⟨?_, rfl⟩
  unfold Lib.itoa
  rw [if_neg (by omega)]
  rfl
theorem load_i3 {w : World} {ad : Addr} {v : Value} (h : w.cell? ad = some v) : (Instr.loadAt 3 (.pointer (some ad))).run Tryz.prog w = .ok v w := Ap.load_plainP (by simp [isAgg]) h
theorem load_s9 {w : World} {ad : Addr} {v : Value} (h : w.cell? ad = some v) : (Instr.loadAt 9 (.pointer (some ad))).run Tryz.prog w = .ok v w := Ap.load_plainP (by simp [isAgg]) h
theorem rr_cells {W : World} {N : Nat} {x : Rdr} (h : W.heap[N]? = some (.cells (rrC x).toArray rrT)) : W.cell? ⟨N, 0, none⟩ = some (.int .i64 (x.fd : Int)) ∧ W.cell? ⟨N, 1, none⟩ = some (.string (str x.o)) ∧ W.cell? ⟨N, 2, none⟩ = some (.string (str x.w)) ∧ W.cell? ⟨N, 3, none⟩ = some (.string (str x.b)) := by
  unfold World.cell?
  simp only [h]
  exact ⟨rfl, rfl, rfl, rfl⟩
def rdV (z : Rdr) : Value := .agg #[.int .i64 (z.fd : Int), .string (str z.o), .string (str z.w), .string (str z.b)]
set_option maxHeartbeats 1000000 in
theorem redir_calls (W : World) (b B : Nat) (tv bv : Value) (s : PS) (h : Pr W b B tv bv s) (z : Rdr) (hf : z.fd ≤ 99) (hw : z.w.length ≤ 100000) (hl : lenS s + rdLen z ≤ big) :
    Calls Tryz.prog 40 #[.pointer (some ⟨b, 0, none⟩), rdV z] W fun r W' => Post W b B tv bv (redirS z s) r W' := by
  obtain ⟨w1, N, halloc, hN, hN1, hbN, hs1⟩ := new_blk W (rrC z).toArray rrT
  have HR : Hid (Pr w1 b B tv bv s) := h.below (by rw [hN]; exact hbN)
  have HN := Lib.hid hN1
  have HB : Hid (Below W.heap.size W w1) := by show Below _ _ _; rw [hN]; exact hbN
  have HF := Lib.hid hf
  have HW := Lib.hid hw
  have HL := Lib.hid hl
  have HS : Hid (N < w1.heap.size ∧ N ≠ b ∧ bv.ownBlock ≠ some N) := ⟨by omega, HR.out.not hN1 (by decide) (by decide)⟩
  have hal2 : W.alloc (.cells #[.int .i64 (z.fd : Int), .string (str z.o), .string (str z.w), .string (str z.b)] rrT) = w1 := halloc
  unfold rdV
  clear hf hw hl h hbN hs1 hN1 halloc
  go_enter Tryz.func40, Tryz.ntmps40
  go_upto_region 1 with fail
  refine Rp.wp_region_rkx (fun _ _ => False) 10 [] [Rg.Is (.pointer (some ⟨b, 0, none⟩)), Rg.Is (.pointer (some ⟨N, 0, none⟩)), Rg.Is (.int .i64 (z.fd : Int)), Rg.Is (.string (str (Lib.itoa (z.fd : Int)))), Rg.Is (.pointer (some ⟨N, 1, none⟩)), Rg.Is (.string (str z.o)), Rg.Is (.pointer (some ⟨N, 2, none⟩)), Rg.Is (.string (str z.w)), (fun u y => ∃ g, u = .slice (some ⟨g, 0, none⟩) 3 3 ∧ w1.heap.size ≤ g ∧ y.heap[g]? = some (.cells #[.string (str (Lib.itoa (z.fd : Int))), .string (str z.o), .string (str z.w)] stT)), (fun u y => ∃ bv', Sx.Turn b bv w1 bv' y ∧ Pr y b B tv bv' (putsS [Lib.itoa (z.fd : Int), z.o, z.w] s))] (fun _ _ => True) (fun ls x => ls 9 = false → Below w1.heap.size w1 x) (fun k x y => if k = 9 then ∃ bv', Sx.Turn b bv x bv' y else Below x.heap.size x y) (by kernel_rfl) (by kernel_rfl) (of_decide_eq_true (by kernel_rfl)) (by kernel_rfl) (by kernel_rfl) trivial (fun _ => ⟨rfl, rfl, rfl, Nat.le_refl _, fun _ _ => rfl⟩) (fun ls ls' x e h1 h2 => h1 (by rw [e]; exact h2)) (fun _ _ _ _ _ => trivial) (fun i ls x _ h1 => by rw [show ([] : List Bool).getD i true = true from rfl] at h1; cases h1) ?_ ⟨rfl, rfl, rfl, rfl, rfl, rfl, rfl, rfl, rfl, rfl, trivial⟩ ⟨?_, ?_, ?_, ?_, ?_, ?_, ?_, ?_, ?_, ?_, trivial⟩ ?_ ?_
  · intro i k u x y hik _ h1 hK
    match i, h1, hik with
    | 0, h1, _ => exact h1
    | 1, h1, _ => exact h1
    | 2, h1, _ => exact h1
    | 3, h1, _ => exact h1
    | 4, h1, _ => exact h1
    | 5, h1, _ => exact h1
    | 6, h1, _ => exact h1
    | 7, h1, _ => exact h1
    | 8, h1, hik =>
      obtain ⟨g, h2, h4, h5⟩ := h1
      have hgs := (Array.getElem?_eq_some_iff.1 h5).1
      by_cases hk : k = 9
      · subst hk
        rw [if_pos rfl] at hK
        obtain ⟨bv', hK⟩ := hK
        exact ⟨g, h2, h4, (hK.block g hgs (fun e => by have := HR.out.lt; omega) (fun e => by have := (HR.out.own g e).2; omega)).trans h5⟩
      · rw [if_neg hk] at hK
        exact ⟨g, h2, h4, (hK.block g hgs).trans h5⟩
    | 9, h1, hik =>
      rw [if_neg (fun e => hik e.symm)] at hK
      obtain ⟨bv', h2, h3⟩ := h1
      exact ⟨bv', h2.trans (Sx.Turn.of_below hK), h3.below hK⟩
    | _ + 10, _, _ => trivial
  · intro _ b9 x ls hR hS hself hup hdn hk
    have h0 : b9.eval (.tmp 0) = .pointer (some ⟨b, 0, none⟩) := Eq.mp (by kernel_rfl) (hk 0 (by decide))
    have lA : ls 9 = false := hdn [] 9 _ rfl (by kernel_rfl)
    have hb := hS lA
    refine Rp.doesX_of ?_
    exact Rg.does_move ⟨by rw [if_neg (by decide)]; exact Below.refl _ _, h0, fun hh => hS hh⟩
  · intro _ b9 x ls hR hS hself hup hdn hk
    have h3 : b9.eval (.tmp 3) = .pointer (some ⟨N, 0, none⟩) := Eq.mp (by kernel_rfl) (hk 3 (by decide))
    have lA : ls 9 = false := hdn [3, 2] 9 _ rfl (by kernel_rfl)
    have hb := hS lA
    refine Rp.doesX_of ?_
    exact Rs.does_field _ _ h3 (fld_rr N 0 0 (by decide) x) ⟨by rw [if_neg (by decide)]; exact Below.refl _ _, rfl, fun hh => hS hh⟩
  · intro _ b9 x ls hR hS hself hup hdn hk
    have h7 : b9.eval (.tmp 7) = .pointer (some ⟨N, 0, none⟩) := Eq.mp (by kernel_rfl) (hk 7 (by decide))
    have lA : ls 9 = false := hdn [3] 9 _ rfl (by kernel_rfl)
    have hb := hS lA
    refine Rp.doesX_of ?_
    exact Rg.does_load _ _ h7 (load_i3 (rr_cells ((hb.block N HS.out.1).trans HN.out)).1) ⟨by rw [if_neg (by decide)]; exact Below.refl _ _, rfl, fun hh => hS hh⟩
  · intro _ b9 x ls hR hS hself hup hdn hk
    have h8 : b9.eval (.tmp 8) = .int .i64 (z.fd : Int) := Eq.mp (by kernel_rfl) (hk 8 (by decide))
    have lA : ls 9 = false := hdn [] 9 _ rfl (by kernel_rfl)
    have hb := hS lA
    refine Rp.doesX_of ?_
    refine Rg.does_func #[.int .i64 (z.fd : Int)] Tryz.func61 (by kernel_rfl) (by kernel_rfl) (by simp [h8]) (un_itoa_calls x z.fd HF.out) ?_
    rintro e w' ⟨rfl, rfl⟩
    exact ⟨_, rfl, by rw [if_neg (by decide)]; exact Below.refl _ _, rfl, fun hh => hS hh⟩
  · intro _ b9 x ls hR hS hself hup hdn hk
    have h3 : b9.eval (.tmp 3) = .pointer (some ⟨N, 0, none⟩) := Eq.mp (by kernel_rfl) (hk 3 (by decide))
    have lA : ls 9 = false := hdn [8, 5] 9 _ rfl (by kernel_rfl)
    have hb := hS lA
    refine Rp.doesX_of ?_
    exact Rs.does_field _ _ h3 (fld_rr N 0 1 (by decide) x) ⟨by rw [if_neg (by decide)]; exact Below.refl _ _, rfl, fun hh => hS hh⟩
  · intro _ b9 x ls hR hS hself hup hdn hk
    have h10 : b9.eval (.tmp 10) = .pointer (some ⟨N, 1, none⟩) := Eq.mp (by kernel_rfl) (hk 10 (by decide))
    have lA : ls 9 = false := hdn [8] 9 _ rfl (by kernel_rfl)
    have hb := hS lA
    refine Rp.doesX_of ?_
    exact Rg.does_load _ _ h10 (load_s9 (rr_cells ((hb.block N HS.out.1).trans HN.out)).2.1) ⟨by rw [if_neg (by decide)]; exact Below.refl _ _, rfl, fun hh => hS hh⟩
  · intro _ b9 x ls hR hS hself hup hdn hk
    have h3 : b9.eval (.tmp 3) = .pointer (some ⟨N, 0, none⟩) := Eq.mp (by kernel_rfl) (hk 3 (by decide))
    have lA : ls 9 = false := hdn [8, 7] 9 _ rfl (by kernel_rfl)
    have hb := hS lA
    refine Rp.doesX_of ?_
    exact Rs.does_field _ _ h3 (fld_rr N 0 2 (by decide) x) ⟨by rw [if_neg (by decide)]; exact Below.refl _ _, rfl, fun hh => hS hh⟩
  · intro _ b9 x ls hR hS hself hup hdn hk
    have h12 : b9.eval (.tmp 12) = .pointer (some ⟨N, 2, none⟩) := Eq.mp (by kernel_rfl) (hk 12 (by decide))
    have lA : ls 9 = false := hdn [8] 9 _ rfl (by kernel_rfl)
    have hb := hS lA
    refine Rp.doesX_of ?_
    exact Rg.does_load _ _ h12 (load_s9 (rr_cells ((hb.block N HS.out.1).trans HN.out)).2.2.1) ⟨by rw [if_neg (by decide)]; exact Below.refl _ _, rfl, fun hh => hS hh⟩
  · intro _ b9 x ls hR hS hself hup hdn hk
    have h9 : b9.eval (.tmp 9) = .string (str (Lib.itoa (z.fd : Int))) := Eq.mp (by kernel_rfl) (hk 9 (by decide))
    have h11 : b9.eval (.tmp 11) = .string (str z.o) := Eq.mp (by kernel_rfl) (hk 11 (by decide))
    have h13 : b9.eval (.tmp 13) = .string (str z.w) := Eq.mp (by kernel_rfl) (hk 13 (by decide))
    have lA : ls 9 = false := hdn [] 9 _ rfl (by kernel_rfl)
    have hb := hS lA
    refine Rp.doesX_of ?_
    have hal := (Below.refl x.heap.size x).alloc (Nat.le_refl _) (.cells #[.string (str (Lib.itoa (z.fd : Int))), .string (str z.o), .string (str z.w)] stT)
    exact Rg.does_build #[(0, .string (str (Lib.itoa (z.fd : Int)))), (1, .string (str z.o)), (2, .string (str z.w))] _ (by simp [h9, h11, h13]) (by go_simp) ⟨by rw [if_neg (by decide)]; exact hal, ⟨x.heap.size, rfl, hb.size, heap_new x _⟩, fun hh => (hS hh).trans (hal.mono (hS hh).size)⟩
  · intro _ b9 x ls hR hS hself hup hdn hk
    have h6 : b9.eval (.tmp 6) = .pointer (some ⟨b, 0, none⟩) := Eq.mp (by kernel_rfl) (hk 6 (by decide))
    have h14 : (fun u y => ∃ g, u = .slice (some ⟨g, 0, none⟩) 3 3 ∧ w1.heap.size ≤ g ∧ y.heap[g]? = some (.cells #[.string (str (Lib.itoa (z.fd : Int))), .string (str z.o), .string (str z.w)] stT)) (b9.eval (.tmp 14)) x := Eq.mp (by kernel_rfl) (hk 14 (by decide))
    have hb := hS hself
    obtain ⟨g, hq2, hq4, hq5⟩ := h14
    refine Rp.does_func #[.pointer (some ⟨b, 0, none⟩), .slice (some ⟨g, 0, none⟩) 3 3] Tryz.func39 (by kernel_rfl) (by kernel_rfl) (by simp [h6, hq2]) (put_calls x b B tv bv s (HR.out.below hb) g 3 [Lib.itoa (z.fd : Int), z.o, z.w] hq5 (by have := HL.out; unfold lenS rdLen at this; simp only [List.flatten_cons, List.flatten_nil, List.length_append, List.length_nil]; omega) (by simp)) ?_
    rintro e w' ⟨bv', he, ht, hp⟩
    exact .inl ⟨_, he, by rw [if_pos rfl]; exact ⟨bv', ht⟩, ⟨bv', (Sx.Turn.of_below hb).trans ht, hp⟩, fun hh => by simp [Rs.upd] at hh⟩
  · intro ch a' w' hdf hD
    exact hD.elim
  intro vals wD ls _ hSD _ hL
  obtain ⟨g0, g1, g2, g3, g4, g5, g6, g7, g8, g9, _⟩ := hL
  obtain ⟨bv1, ht1, hp1⟩ : ∃ bv', Sx.Turn b bv w1 bv' wD ∧ Pr wD b B tv bv' (putsS [Lib.itoa (z.fd : Int), z.o, z.w] s) := g9
  simp only [Rg.putAll, List.take_succ_cons, List.take_zero, List.drop_succ_cons, List.drop_zero, List.setIfInBounds_toArray, List.set_cons_succ, List.set_cons_zero]
  have hND := (ht1.block N HS.out.1 HS.out.2.1 HS.out.2.2).trans HN.out
  obtain ⟨c0, c1, c2, c3⟩ := rr_cells hND
  have HT1 : Hid (Sx.Turn b bv W bv1 wD) := (Sx.Turn.of_below HB.out).trans ht1
  have HP1 := Lib.hid hp1
  have HND := Lib.hid hND
  have HS1 : Hid (N < wD.heap.size ∧ N ≠ b ∧ bv1.ownBlock ≠ some N) := ⟨(Array.getElem?_eq_some_iff.1 hND).1, hp1.not hND (by decide) (by decide)⟩
  have hps : putsS [Lib.itoa (z.fd : Int), z.o, z.w] s = (s.1 ++ (Lib.itoa (z.fd : Int) ++ (z.o ++ z.w)), s.2) := by simp [putsS]
  rw [hps] at HP1
  clear ht1 hp1 g0 g1 g2 g3 g4 g5 g6 g7 g8 hND hps
  by_cases ho : z.o = [60, 60]
  · have HO := Lib.hid ho
    have t1 : ((str z.o).toList == [60, 60]) = true := by rw [ho, str_tl0]; rfl
    clear ho
    go_wp2_with fail
    refine (bare_calls wD z.w HW.out).mono ?_
    rintro r w2 ⟨rfl, hb2⟩
    have HT2 : Hid (Sx.Turn b bv W bv1 w2) := HT1.out.trans (Sx.Turn.of_below hb2)
    have HP2 : Hid (Pr w2 b B tv bv1 (s.1 ++ (Lib.itoa (z.fd : Int) ++ (z.o ++ z.w)), s.2)) := HP1.out.below hb2
    have hN2 := (hb2.block N HS1.out.1).trans HND.out
    obtain ⟨_, _, _, c3⟩ := rr_cells hN2
    obtain ⟨a, ha⟩ := HP2.out.any
    have d3 := (pr_cells ha.box).1.2.2.2
    have f3 := (pr_cells ha.box).2.2.2.2
    obtain ⟨q, hq⟩ : ∃ q, bare z.w = q := ⟨_, rfl⟩
    have hql : q.length ≤ z.w.length := by rw [← hq]; exact List.length_filter_le _ _
    have HQ := Lib.hid hq
    rw [hq]
    have e1 : str z.b ++ str q = str (z.b ++ q) := str_append _ _
    have e2 : str (z.b ++ q) ++ ⟨#[10]⟩ = str (z.b ++ (q ++ [10])) := by rw [← List.append_assoc]; exact str_append _ [10]
    have e3 : str s.2 ++ str (z.b ++ (q ++ [10])) = str (s.2 ++ (z.b ++ (q ++ [10]))) := str_append _ _
    have l1 : (str z.b).size + (str q).size ≤ 9223372036854775807 := by have := HL.out; unfold lenS rdLen big at this; simp only [str_size]; omega
    have l2 : (str (z.b ++ q)).size + 1 ≤ 9223372036854775807 := by have := HL.out; unfold lenS rdLen big at this; simp only [str_size, List.length_append]; omega
    have l3 : (str s.2).size + (str (z.b ++ (q ++ [10]))).size ≤ 9223372036854775807 := by have := HL.out; unfold lenS rdLen big at this; simp only [str_size, List.length_append, List.length_cons, List.length_nil]; omega
    clear ha hN2 hb2 hq hql
    go_upto_region 4 with fail
    go_region
    all_goals
      go_end0
      have hs := HP2.out.setB (s.2 ++ (z.b ++ (q ++ [10])))
      have hd := Below.drew (Below.refl (w2.setCell ⟨b, 3, none⟩ (.string (str (s.2 ++ (z.b ++ (q ++ [10])))))).heap.size (w2.setCell ⟨b, 3, none⟩ (.string (str (s.2 ++ (z.b ++ (q ++ [10])))))))
      refine ⟨bv1, rfl, (HT2.out.trans hs.2).trans (Sx.Turn.of_below hd), ?_⟩
      have e : redirS z s = (s.1 ++ (Lib.itoa (z.fd : Int) ++ (z.o ++ z.w)), s.2 ++ (z.b ++ (q ++ [10]))) := by unfold redirS; rw [if_pos HO.out, HQ.out]
      rw [e]
      exact hs.1.below hd
  · have HO := Lib.hid ho
    have t1 : ((str z.o).toList == [60, 60]) = false := by rw [str_tl0]; exact beq_eq_false_iff_ne.2 ho
    clear ho
    go_wp2_with fail
    go_end0
    refine ⟨bv1, rfl, HT1.out, ?_⟩
    have e : redirS z s = (s.1 ++ (Lib.itoa (z.fd : Int) ++ (z.o ++ z.w)), s.2) := by unfold redirS; rw [if_neg HO.out]
    rw [e]
    exact HP1.out
end Go.Proofs.YtiklkhbfilbpeaaGreatDoor.Ux
set_option linter.unusedVariables false
set_option linter.unusedSimpArgs false
set_option maxRecDepth 100000
namespace Go.Proofs.YtiklkhbfilbpeaaGreatDoor.Ux
open Go.RowKit Base Lx Sy Sx Un
theorem info_in1 : (Tryz.prog.info? inT).map (fun i => (i.zero, i.size, i.bytes)) = some (some (.int .i64 0), 1, 8) := by kernel_rfl
theorem idx_in1 {g n c : Nat} (j : Nat) (hj : j < n) (w' : World) : (Instr.indexAt 35 (.slice (some ⟨g, 0, none⟩) n c) (.int .i64 (j : Int))).run Tryz.prog w' = .ok (.pointer (some ⟨g, j, none⟩)) w' := by
  obtain ⟨i, hi, _, hs, _⟩ := info_parts info_in1
  have he : Tryz.prog.elem 35 = inT := by simp [Program.elem, Tryz.underlying35]
  rw [run_indexAt_slice w' 35 _ n c .i64 j (by rw [he]; exact Tryz.underlying35), if_pos ⟨by omega, by omega⟩, he]
  simp [sizeOf, typeInfo, hi, hs, Result.andThen, Addr.add_lit]
/-- A row of kids. -/
def IntsAt (W : World) (B : Nat) (u : Value) (ks : List Nat) : Prop := ∃ a c, u = .slice a ks.length c ∧ ∀ (j k : Nat), ks[j]? = some k → ∃ g, a = some ⟨g, 0, none⟩ ∧ g < B ∧ W.cell? ⟨g, j, none⟩ = some (.int .i64 (k : Int))
theorem IntsAt.below {W W' : World} {B : Nat} {u : Value} {ks : List Nat} (h : IntsAt W B u ks) (hb : Below B W W') : IntsAt W' B u ks := by
  obtain ⟨a, c, h1, h2⟩ := h
  refine ⟨a, c, h1, fun j k hj => ?_⟩
  obtain ⟨g, h3, h4, h5⟩ := h2 j k hj
  refine ⟨g, h3, h4, ?_⟩
  unfold World.cell? at h5 ⊢
  rw [hb.block g h4]
  exact h5
theorem ints_of {W : World} {B : Nat} {u : Value} {ks : List Nat} (h : W.ownsRow 0 inT 1 u ks.length (ks.map iv)) (hq : ∀ g, u.ownBlock = some g → g < B) : IntsAt W B u ks := by
  rcases h.2 with ⟨hv, h0⟩ | ⟨g, cap, cur, hv, _, _, _, _, _, _⟩
  · refine ⟨none, 0, by rw [hv, h0], fun j k hj => ?_⟩
    have hn : ks = [] := List.eq_nil_of_length_eq_zero h0
    rw [hn] at hj
    cases hj
  · refine ⟨some ⟨g, 0, none⟩, cap, hv, fun j k hj => ⟨g, rfl, hq g (by rw [hv]; rfl), ?_⟩⟩
    have := h.cells (g := g) (by rw [hv]; rfl) j (iv k) (by simp [hj])
    simpa [Addr.add_lit, iv] using this
def betC (m : Nat) (c : Nat → Nat) : List Nat → Nat
  | [] => 0
  | k :: ks => c k + (ks.map fun k => m + c k).sum
set_option maxHeartbeats 1000000 in
theorem between_calls (W : World) (b B : Nat) (tv bv : Value) (s : PS) (l : List Nd) (h : Pr W b B tv bv s) (ht : TrAt W B tv l) (sep : Nm) (u : Value) (ks : List Nat) (hu : IntsAt W B u ks) (f : Nat → PS → PS) (c : Nat → Nat) (hk : ∀ k ∈ ks, KidC l b B tv (k : Int) (f k) (c k)) (hc : ∀ k ∈ ks, ∀ s, lenS (f k s) ≤ lenS s + c k) (hn : ks.length ≤ 100000) (hl : lenS s + betC sep.length c ks ≤ big) :
    Calls Tryz.prog 57 #[.pointer (some ⟨b, 0, none⟩), .string (str sep), u] W fun r W' => Post W b B tv bv (betS sep f ks s) r W' := by
  obtain ⟨ua, uc, rfl, hcs⟩ := hu
  have HCs : Hid (∀ W', Below B W W' → ∀ (j k : Nat), ks[j]? = some k → ∃ g, ua = some ⟨g, 0, none⟩ ∧ g < B ∧ W'.cell? ⟨g, j, none⟩ = some (.int .i64 (k : Int))) := fun W' hb j k hj => by
    obtain ⟨a', c', h1, h2⟩ := IntsAt.below (u := .slice ua ks.length uc) ⟨ua, uc, rfl, hcs⟩ hb
    injection h1 with h1
    subst h1
    exact h2 j k hj
  have HP := Lib.hid h
  have HTr := Lib.hid ht
  have HK := Lib.hid hk
  have HC := Lib.hid hc
  have HL := Lib.hid hl
  obtain ⟨n, hn2⟩ : ∃ n, ks.length = n := ⟨_, rfl⟩
  have HN2 := Lib.hid hn2
  have hn1 : n ≤ 100000 := by omega
  rw [hn2]
  clear hcs h ht hk hc hl hn hn2
  go_enter Tryz.func57, Tryz.ntmps57
  go_wp2_with fail
  go_loopw [10] (fun v10 wr => ∃ (i : Nat) (bv' : Value) (s' : PS), i ≤ n ∧ v10 = .int .i64 (i : Int) ∧ Sx.Turn b bv W bv' wr ∧ Pr wr b B tv bv' s' ∧ (i = 0 → s' = s) ∧ (0 < i → betS sep f ks s = betR sep f (ks.drop i) s' ∧ lenS s' + ((ks.drop i).map fun k => sep.length + c k).sum ≤ big)) (fun v10 _ => n - nOf v10)
  case atStart => exact ⟨0, bv, s, Nat.zero_le _, rfl, Sx.Turn.refl _ _ _, HP.out, fun _ => rfl, fun h => absurd h (Nat.lt_irrefl 0)⟩
  case round =>
    obtain ⟨i, bv', s', hi, rfl, hT, hR, h0, h1⟩ := hrel
    have HT := Lib.hid hT
    have HR := Lib.hid hR
    have H0 := Lib.hid h0
    have H1 := Lib.hid h1
    clear hT hR h0 h1
    by_cases hin : i < n
    case neg =>
      obtain rfl : i = n := by omega
      have a3 : decide (i < i) = false := decide_eq_false (by omega)
      have a1 : decide ((i : Int) < (i : Int)) = false := decide_eq_false (by omega)
      have a2 : ¬ ((i : Int) < (i : Int)) := by omega
      go_wp2_with fail
      go_end0
      refine ⟨bv', rfl, HT.out, ?_⟩
      have h2 := HR.out
      by_cases hz : i = 0
      · have hks : ks = [] := List.eq_nil_of_length_eq_zero (by have := HN2.out; omega)
        rw [H0.out hz] at h2
        rw [hks]
        exact h2
      · rw [(H1.out (by omega)).1, List.drop_of_length_le (by rw [HN2.out]; exact Nat.le_refl _)]
        exact h2
    obtain ⟨k, hk⟩ : ∃ k, ks[i]? = some k := ⟨_, List.getElem?_eq_getElem (by have := HN2.out; omega)⟩
    obtain ⟨g, hua, hgB, k0⟩ := HCs.out wr (turn_low HP.out HT.out) i k hk
    have HKi := Lib.hid hk
    have HMem : Hid (k ∈ ks) := List.mem_of_getElem? hk
    subst hua
    clear hk
    have XI := fun w' => idx_in1 (g := g) (n := n) (c := uc) i hin w'
    have a3 : decide (i < n) = true := decide_eq_true (by omega)
    have a1 : decide ((i : Int) < (n : Int)) = true := decide_eq_true (by omega)
    have a2 : (i : Int) < (n : Int) := by omega
    have HD : Hid (ks.drop i = k :: ks.drop (i + 1)) := by
      have h2 := HKi.out
      obtain ⟨h3, h4⟩ := List.getElem?_eq_some_iff.1 h2
      show _ = _
      rw [List.drop_eq_getElem_cons h3, h4]
    by_cases hz : i = 0
    · subst hz
      have hs' := H0.out rfl
      subst hs'
      have hks : ks = k :: ks.drop 1 := HD.out
      have HKs := Lib.hid hks
      have HLs : Hid (lenS s' + (c k + ((ks.drop 1).map fun k => sep.length + c k).sum) ≤ big) := by
        have := HL.out
        rw [hks] at this
        exact this
      clear hks
      have HKc := Lib.hid (HK.out k HMem.out wr bv' s' HR.out (HTr.out.below (turn_low HP.out HT.out)) (by have := HLs.out; omega))
      go_wp2_with fail
      refine HKc.out.mono ?_
      rintro r w2 ⟨bv2, rfl, ht2, hp2⟩
      have HT2 := Lib.hid (HT.out.trans ht2)
      have HP2 := Lib.hid hp2
      clear ht2 hp2
      go_wp2
      refine ⟨⟨1, bv2, f k s', by omega, by simp, HT2.out, HP2.out, fun h => absurd h (by decide), fun _ => ⟨?_, ?_⟩⟩, ?_⟩
      · rw [HKs.out]; rfl
      · have h5 := HC.out k HMem.out s'
        have := HLs.out
        omega
      · simp [nOf]; omega
    · have HI := Lib.hid (H1.out (by omega))
      have HLs : Hid (lenS s' + (sep.length + c k + ((ks.drop (i + 1)).map fun k => sep.length + c k).sum) ≤ big) := by
        have := HI.out.2
        rw [HD.out, List.map_cons, List.sum_cons] at this
        exact this
      have d1 : decide ((0 : Int) < (i : Int)) = true := decide_eq_true (by omega)
      have d2 : (0 : Int) < (i : Int) := by omega
      have HPu := Lib.hid (put1_new wr b B tv bv' s' HR.out sep (by have := HLs.out; unfold lenS at this; omega))
      go_wp2_with fail
      refine HPu.out.mono ?_
      rintro r w1 ⟨bv1, rfl, ht1, hp1⟩
      have HT1 := Lib.hid (HT.out.trans ht1)
      have HL1 : Hid (lenS (putS sep s') = lenS s' + sep.length) := by show (s'.1 ++ sep).length + s'.2.length = (s'.1.length + s'.2.length) + sep.length; rw [List.length_append]; omega
      have HKc := Lib.hid (HK.out k HMem.out w1 bv1 _ hp1 (HTr.out.below (turn_low HP.out HT1.out)) (by have := HLs.out; have := HL1.out; omega))
      clear ht1 hp1
      go_wp2_with fail
      refine HKc.out.mono ?_
      rintro r w2 ⟨bv2, rfl, ht2, hp2⟩
      have HT2 := Lib.hid (HT1.out.trans ht2)
      have HP2 := Lib.hid hp2
      clear ht2 hp2
      go_wp2
      refine ⟨⟨i + 1, bv2, f k (putS sep s'), by omega, by simp, HT2.out, HP2.out, fun h => absurd h (by omega), fun _ => ⟨?_, ?_⟩⟩, ?_⟩
      · rw [HI.out.1, HD.out]; rfl
      · have h5 := HC.out k HMem.out (putS sep s')
        have := HLs.out
        have := HL1.out
        omega
      · simp [nOf]; omega
end Go.Proofs.YtiklkhbfilbpeaaGreatDoor.Ux
set_option linter.unusedVariables false
set_option linter.unusedSimpArgs false
set_option maxRecDepth 100000
namespace Go.Proofs.YtiklkhbfilbpeaaGreatDoor.Ux
open Go.RowKit Base Lx Sy Sx Un
theorem len_put (t : Nm) (s : PS) : lenS (putS t s) = lenS s + t.length := by
  show (s.1 ++ t).length + s.2.length = (s.1.length + s.2.length) + t.length
  rw [List.length_append]
  omega
theorem len_ln (s : PS) : lenS (lnS s) = lenS s + 1 := by
  show (s.1 ++ 10 :: s.2).length + 0 = (s.1.length + s.2.length) + 1
  rw [List.length_append, List.length_cons]
  omega
theorem len_part {w : Nm} {f : PS → PS} {s : PS} {c : Nat} (hc : ∀ s, lenS (f s) ≤ lenS s + c) : lenS (partS w f s) ≤ lenS s + w.length + 1 + c := by
  have := hc (lnS (putS w s))
  rw [len_ln, len_put] at this
  exact this
theorem fst_le (s : PS) : s.1.length ≤ lenS s := Nat.le_add_right _ _
/-- A node in a block of its own. -/
structure NAt (W : World) (B N : Nat) (n : Nd) (uw ur uk : Value) : Prop where
  heap : W.heap[N]? = some (.cells (ndC n uw ur uk).toArray ndT)
  rows : Sx.Rows W (fun g => g < B) n uw ur uk
theorem NAt.below {W W' : World} {B N : Nat} {n : Nd} {uw ur uk : Value} (h : NAt W B N n uw ur uk) (hb : Below W.heap.size W W') : NAt W' B N n uw ur uk :=
  ⟨(hb.block N (Array.getElem?_eq_some_iff.1 h.heap).1).trans h.heap, h.rows.below hb⟩
theorem NAt.turn {W W' : World} {b B N : Nat} {tv bv bv' : Value} {s : PS} {n : Nd} {uw ur uk : Value} (h : NAt W B N n uw ur uk) (hp : Pr W b B tv bv s) (ht : Sx.Turn b bv W bv' W') : NAt W' B N n uw ur uk := by
  obtain ⟨h1, h2⟩ := hp.not h.heap (by decide) (by decide)
  have hb := turn_low hp ht
  exact ⟨(ht.block N (Array.getElem?_eq_some_iff.1 h.heap).1 h1 h2).trans h.heap, h.rows.keep fun g X t hg _ _ => hb.block g hg⟩
theorem NAt.cells {W : World} {B N : Nat} {n : Nd} {uw ur uk : Value} (h : NAt W B N n uw ur uk) : W.cell? ⟨N, 0, none⟩ = some (.int .i64 (n.k : Int)) ∧ W.cell? ⟨N, 1, none⟩ = some (.string (str n.t)) ∧ W.cell? ⟨N, 2, none⟩ = some (.bool n.fl) ∧ W.cell? ⟨N, 3, none⟩ = some uw ∧ W.cell? ⟨N, 5, none⟩ = some ur ∧ W.cell? ⟨N, 6, none⟩ = some uk := by
  unfold World.cell?
  simp only [h.heap]
  exact ⟨rfl, rfl, rfl, rfl, rfl, rfl⟩
theorem NAt.kid {W : World} {B N : Nat} {n : Nd} {uw ur uk : Value} (h : NAt W B N n uw ur uk) {i : Nat} (hi : i < n.ks.length) : ∃ g c, uk = .slice (some ⟨g, 0, none⟩) n.ks.length c ∧ W.cell? ⟨g, i, none⟩ = some (.int .i64 (kid n i : Int)) := by
  obtain ⟨a, c, h1, h2⟩ := ints_of h.rows.k h.rows.qk
  obtain ⟨g, h3, _, h4⟩ := h2 i (Un.kid n i) (by unfold Un.kid; rw [List.getD_eq_getElem?_getD, List.getElem?_eq_getElem hi]; rfl)
  exact ⟨g, c, by rw [h1, h3], h4⟩
theorem NAt.kcell {W : World} {B N : Nat} {n : Nd} {uw ur : Value} {g m c : Nat} (h : NAt W B N n uw ur (.slice (some ⟨g, 0, none⟩) m c)) {i : Nat} (hi : i < n.ks.length) : W.cell? ⟨g, i, none⟩ = some (.int .i64 (Un.kid n i : Int)) := by
  obtain ⟨g', c', h1, h2⟩ := h.kid hi
  injection h1 with h1
  injection h1 with h1
  injection h1 with h1
  rw [h1]
  exact h2
def NBox (W w1 : World) (b B N : Nat) (tv bv : Value) (s : PS) (l : List Nd) (n : Nd) (uw ur uk : Value) : Prop := Below W.heap.size W w1 ∧ Pr w1 b B tv bv s ∧ TrAt w1 B tv l ∧ NAt w1 B N n uw ur uk
theorem nd_box {W : World} {b B : Nat} {tv bv : Value} {s : PS} {l : List Nd} {n : Nd} {uw ur uk : Value} (h : Pr W b B tv bv s) (ht : TrAt W B tv l) (hr : Sx.Rows W (fun g => g < B) n uw ur uk) :
    ∃ w1 N, W.alloc (.cells #[.int .i64 (n.k : Int), .string (str n.t), .bool n.fl, uw, .int .i64 (n.st : Int), ur, uk, .int .i64 (n.ln : Int)] ndT) = w1 ∧ W.heap.size = N ∧ Hid (NBox W w1 b B N tv bv s l n uw ur uk) := by
  obtain ⟨w1, N, halloc, hN, hN1, hbN, hs1⟩ := new_blk W (ndC n uw ur uk).toArray ndT
  have hb : Below W.heap.size W w1 := by rw [hN]; exact hbN
  exact ⟨w1, N, halloc, hN, hb, h.below hb, ht.below (hb.mono h.size), hN1, hr.below hb⟩
def ndV (n : Nd) (uw ur uk : Value) : Value := .agg #[.int .i64 (n.k : Int), .string (str n.t), .bool n.fl, uw, .int .i64 (n.st : Int), ur, uk, .int .i64 (n.ln : Int)]
set_option maxHeartbeats 1000000 in
theorem group_calls (W : World) (b B : Nat) (tv bv : Value) (s : PS) (l : List Nd) (h : Pr W b B tv bv s) (ht : TrAt W B tv l) (n : Nd) (uw ur uk : Value) (hr : Sx.Rows W (fun g => g < B) n uw ur uk) (hks : n.ks.length = 1) (f : PS → PS) (c : Nat) (hk : KidC l b B tv (kid n 0 : Int) f c) (hc : ∀ s, lenS (f s) ≤ lenS s + c) (hl : lenS s + (1 + 1 + c + 1) ≤ big) :
    Calls Tryz.prog 36 #[.pointer (some ⟨b, 0, none⟩), ndV n uw ur uk] W fun r W' => Post W b B tv bv (putS [125] (partS [123] f s)) r W' := by
  obtain ⟨w1, N, hal, hN, HX⟩ := nd_box h ht hr
  obtain ⟨g, cc, huk, ck⟩ := HX.out.2.2.2.kid (i := 0) (by omega)
  rw [hks] at huk
  subst huk
  obtain ⟨c0, c1, c2, c3, c5, c6⟩ := HX.out.2.2.2.cells
  have HP := Lib.hid (part_calls w1 b B tv bv s l HX.out.2.1 HX.out.2.2.1 [123] (kid n 0 : Int) f c hk (by simp only [List.length_cons, List.length_nil]; omega))
  have HL := Lib.hid hl
  have HC := Lib.hid hc
  unfold ndV
  clear h ht hr hk hl hc hks
  go_enter Tryz.func36, Tryz.ntmps36
  go_wp2_with fail
  refine HP.out.mono ?_
  rintro r w2 ⟨bv2, rfl, ht2, hp2⟩
  have HT2 : Hid (Sx.Turn b bv W bv2 w2) := (Sx.Turn.of_below HX.out.1).trans ht2
  have HPu := Lib.hid (put1_new w2 b B tv bv2 _ hp2 [125] (by have h1 := HL.out; have h2 := len_part (w := [123]) (s := s) HC.out; have h3 := fst_le (partS [123] f s); simp only [List.length_cons, List.length_nil] at *; omega))
  clear ht2 hp2
  go_wp2_with fail
  refine HPu.out.mono ?_
  rintro r w3 ⟨bv3, rfl, ht3, hp3⟩
  go_wp2
  go_end0
  exact ⟨bv3, rfl, HT2.out.trans ht3, hp3⟩
set_option maxHeartbeats 1000000 in
theorem sub_calls (W : World) (b B : Nat) (tv bv : Value) (s : PS) (l : List Nd) (h : Pr W b B tv bv s) (ht : TrAt W B tv l) (n : Nd) (uw ur uk : Value) (hr : Sx.Rows W (fun g => g < B) n uw ur uk) (hks : n.ks.length = 1) (f : PS → PS) (c : Nat) (hk : KidC l b B tv (kid n 0 : Int) f c) (hc : ∀ s, lenS (f s) ≤ lenS s + c) (hl : lenS s + (1 + 1 + c + 1) ≤ big) :
    Calls Tryz.prog 37 #[.pointer (some ⟨b, 0, none⟩), ndV n uw ur uk] W fun r W' => Post W b B tv bv (putS [41] (partS [40] f s)) r W' := by
  obtain ⟨w1, N, hal, hN, HX⟩ := nd_box h ht hr
  obtain ⟨g, cc, huk, ck⟩ := HX.out.2.2.2.kid (i := 0) (by omega)
  rw [hks] at huk
  subst huk
  obtain ⟨c0, c1, c2, c3, c5, c6⟩ := HX.out.2.2.2.cells
  have HP := Lib.hid (part_calls w1 b B tv bv s l HX.out.2.1 HX.out.2.2.1 [40] (kid n 0 : Int) f c hk (by simp only [List.length_cons, List.length_nil]; omega))
  have HL := Lib.hid hl
  have HC := Lib.hid hc
  unfold ndV
  clear h ht hr hk hl hc hks
  go_enter Tryz.func37, Tryz.ntmps37
  go_wp2_with fail
  refine HP.out.mono ?_
  rintro r w2 ⟨bv2, rfl, ht2, hp2⟩
  have HT2 : Hid (Sx.Turn b bv W bv2 w2) := (Sx.Turn.of_below HX.out.1).trans ht2
  have HPu := Lib.hid (put1_new w2 b B tv bv2 _ hp2 [41] (by have h1 := HL.out; have h2 := len_part (w := [40]) (s := s) HC.out; have h3 := fst_le (partS [40] f s); simp only [List.length_cons, List.length_nil] at *; omega))
  clear ht2 hp2
  go_wp2_with fail
  refine HPu.out.mono ?_
  rintro r w3 ⟨bv3, rfl, ht3, hp3⟩
  go_wp2
  go_end0
  exact ⟨bv3, rfl, HT2.out.trans ht3, hp3⟩
end Go.Proofs.YtiklkhbfilbpeaaGreatDoor.Ux
