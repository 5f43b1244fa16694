/-
  The tape's writer: New, Bytes. Conditions: as the contracts say.
-/
import Derived.Test.YtgbnfipbedlmhaaTpRow
import Derived.Test.YtgbnfipbedlmhaaGPlain
set_option linter.unusedVariables false
set_option maxRecDepth 100000
namespace Go.Proofs.Ytgbnfipbedlmhaa
open Go.RowKit Base

theorem framesB_one (l : List UInt8) : framesB [l] = oneF l := by simp [framesB]
theorem writer_f0 (p : Nat) (w : World) : (Instr.fieldAt 55 (.pointer (some ⟨p, 0, none⟩)) 0).run Try.prog w = .ok (.pointer (some ⟨p, 0, none⟩)) w := by rfl
set_option maxHeartbeats 1000000 in
theorem all_calls (w : World) (q : Nat) (v : Value) (l : List UInt8) (h : WtrAt w q v l) (hs : l.length ≤ 1000000000) :
    Calls Try.prog 23 #[.pointer (some ⟨q, 0, none⟩)] w fun e w' => ∃ u, e = .returned u ∧ w'.ownsRow w.heap.size 5 1 u l.length (l.map bv) ∧ Below w.heap.size w w' := by
  have hc := h.cell
  have hown := h.2
  obtain ⟨a, c, rfl, hb⟩ := ownsRow_bytes hown
  have HC := Lib.hid (clone_calls w a l.length c l hb hs)
  clear h hown hb hs
  go_enter Try.func23, Try.ntmps23
  go_wp2_with fail
  refine HC.out.mono ?_
  rintro e w' ⟨u, rfl, ho, hb⟩
  go_wp2_with fail
  go_ret
  exact ⟨_, rfl, ho, hb⟩
theorem bytes_nil_calls (w : World) : Calls Try.prog 12 #[.pointer none] w fun e w' => e = .returned (.slice none 0 0) ∧ w = w' := by
  go_enter Try.func12, Try.ntmps12
  go_wp2_with fail
  go_ret
  exact ⟨rfl, rfl⟩
set_option maxHeartbeats 1000000 in
theorem bytes_calls (w : World) (q : Nat) (v : Value) (l : List UInt8) (h : WtrAt w q v l) (hs : l.length ≤ 1000000000) :
    Calls Try.prog 12 #[.pointer (some ⟨q, 0, none⟩)] w fun e w' => ∃ u, e = .returned u ∧ w'.ownsRow w.heap.size 5 1 u l.length (l.map bv) ∧ Below w.heap.size w w' := by
  have HC := Lib.hid (all_calls w q v l h hs)
  clear h hs
  go_enter Try.func12, Try.ntmps12
  go_wp2_with fail
  refine HC.out.mono ?_
  rintro e w' ⟨u, rfl, ho, hb⟩
  go_wp2_with fail
  go_ret
  exact ⟨_, rfl, ho, hb⟩
set_option maxHeartbeats 1000000 in
theorem new_long_calls (w : World) (s : List UInt8) (hs : 4096 < s.length) :
    Calls Try.prog 10 #[.string (str s)] w fun e w' => e = .returned (.pointer none) ∧ w = w' := by
  have hsz : (str s).size = s.length := rfl
  have t1 : decide ((4096 : Int) < ((str s).size : Int)) = true := by rw [hsz]; simp; omega
  have t2 : (4096 : Int) < ((str s).size : Int) := by rw [hsz]; omega
  clear hsz hs
  generalize str s = S at *
  go_enter Try.func10, Try.ntmps10
  go_wp2_with fail
  go_ret
  exact ⟨rfl, rfl⟩
theorem bytesWorld_below (w : World) (e : TypeId) (s : ByteArray) : Below w.heap.size w (Lib.bytesWorld w e s) :=
  ⟨rfl, rfl, rfl, by rw [Lib.bytesWorld_size]; omega, fun k hk => Lib.bytesWorld_at_old w e s k hk⟩
theorem bytesWorld_bytes (w : World) (e : TypeId) (s : List UInt8) (hs : s.length ≤ 1000000000) : Bytes (Lib.bytesWorld w e (str s)) (some ⟨w.heap.size, 0, none⟩) s.length (grownCap w s.length 0 e) s := by
  refine ⟨rfl, grownCap_ge w s.length 0 e, grownCap_le_maxLen w s.length 0 e (by unfold maxLen; omega), w.heap.size, 0, .inr rfl, fun k hk => ?_⟩
  have := Lib.bytesWorld_cell w e (str s) k (by rw [str_size]; exact hk)
  unfold byteAt
  rw [Nat.zero_add, Nat.mul_one, this, str_data]
  simp [List.getD, hk]
theorem one_row {w : World} {a : Option Addr} {n ca : Nat} {l : List UInt8} (h1 : Bytes w a n ca l) (e : TypeId) :
    ByteRows (w.alloc (.cells #[.slice a n ca] e)) (some ⟨w.heap.size, 0, none⟩) 1 1 [l] := by
  obtain rfl : n = l.length := h1.1
  exact rows_lit w [.slice a l.length ca] [l] e (by simp [maxLen]) ⟨⟨_, _, rfl, h1⟩, trivial⟩
set_option maxHeartbeats 2000000 in
theorem new_calls (w : World) (s : List UInt8) (hs : s.length ≤ 4096) :
    Calls Try.prog 10 #[.string (str s)] w fun e w' => e = .returned (.pointer (some ⟨w.heap.size, 0, none⟩)) ∧ ∃ v, WtrAt w' w.heap.size v (framesB [headB s]) ∧ Below w.heap.size w w' := by
  have hsz : (str s).size = s.length := rfl
  have t1 : decide ((4096 : Int) < ((str s).size : Int)) = false := by rw [hsz]; simp; omega
  have t2 : ¬ (4096 : Int) < ((str s).size : Int) := by rw [hsz]; omega
  have hcat : magicS ++ str s = str (headB s) := by rw [magicS_str, str_append]; rfl
  have hq : (w.alloc (.cells #[.slice none 0 0] 55)).heap.size = w.heap.size + 1 := World.size_alloc _ _
  have hcv := Lib.run_convert_string_bytes (P := Try.prog) (w.alloc (.cells #[.slice none 0 0] 55)) 9 28 5 (str (headB s)) Try.underlying9 Try.underlying28 Try.underlying5
  have hlen := headB_len s
  have hby := bytesWorld_bytes (w.alloc (.cells #[.slice none 0 0] 55)) 5 (headB s) (by omega)
  have hbl := bytesWorld_below (w.alloc (.cells #[.slice none 0 0] 55)) 5 (str (headB s))
  rw [str_size] at hcv
  rw [hq] at hcv hby
  have hcell : (w.alloc (.cells #[.slice none 0 0] 55)).heap[w.heap.size]? = some (.cells #[.slice none 0 0] 55) := heap_alloc_new w _
  have hcell2 := (hbl.block w.heap.size (by rw [hq]; omega)).trans hcell
  have hB1 : Below w.heap.size w (w.alloc (.cells #[.slice none 0 0] 55)) := (Below.refl _ w).alloc (Nat.le_refl _) _
  have hB2 := hB1.trans (hbl.mono (by rw [hq]; omega))
  have hsz2 : w.heap.size < (Lib.bytesWorld (w.alloc (.cells #[.slice none 0 0] 55)) 5 (str (headB s))).heap.size := by rw [Lib.bytesWorld_size, hq]; omega
  clear hcell hB1 hbl hq
  generalize Lib.bytesWorld (w.alloc (.cells #[.slice none 0 0] 55)) 5 (str (headB s)) = w2 at *
  generalize grownCap (w.alloc (.cells #[.slice none 0 0] 55)) (headB s).length 0 5 = cp at *
  rw [← hcat] at hcv
  replace hcv : (convert 9 28 (.string (⟨#[107, 105, 110, 101, 116, 111, 115, 99, 111, 112, 101, 32, 49, 10]⟩ ++ str s))).run Try.prog (w.alloc (.cells #[.slice none 0 0] 55)) = .ok (.slice (some ⟨w.heap.size + 1, 0, none⟩) (headB s).length cp) w2 := hcv
  have hrow := one_row hby 28
  have hal := (Below.refl w2.heap.size w2).alloc (Nat.le_refl _) (.cells #[.slice (some ⟨w.heap.size + 1, 0, none⟩) (headB s).length cp] 28)
  have hwt : WtrAt (w2.alloc (.cells #[.slice (some ⟨w.heap.size + 1, 0, none⟩) (headB s).length cp] 28)) w.heap.size (.slice none 0 0) [] := ⟨(hal.block _ hsz2).trans hcell2, World.ownsRow_nil _ _ _ _⟩
  have hB3 := hB2.trans (hal.mono (Nat.le_of_lt hsz2))
  have HPut := Lib.hid (put_calls _ w.heap.size _ [] hwt _ 1 1 [headB s] hrow (fun r hr => by rw [List.mem_singleton.1 hr]; omega) (by
    rw [framesB_one, oneF_len]
    have := num_len (headB s).length (by unfold Lt64; omega)
    simp only [List.length_nil]
    omega))
  have HB3 := Lib.hid hB3
  clear hby hcell2 hB2 hrow hal hwt hB3 hcat hsz hs
  generalize hn : (headB s).length = n at *
  clear hn hlen
  generalize str s = S at *
  go_enter Try.func10, Try.ntmps10
  go_wp2_with fail
  refine HPut.out.mono ?_
  rintro e w4 ⟨rfl, v, hw, hst⟩
  go_wp2_with fail
  go_ret
  refine ⟨rfl, v, by simpa using hw, HB3.out.trans (hst.below HB3.out.size (Nat.le_refl _) (fun j hj => by simp [Value.ownBlock] at hj))⟩
end Go.Proofs.Ytgbnfipbedlmhaa
