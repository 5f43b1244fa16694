/-
  The walks of package varint and its reference: each function computes what the plain mathematics says. Conditions: the arguments can be read; as each contract says.
-/
import Derived.Test.YtnmlnaoljkhjeaaWords
import Derived.Test.YtnmlnaoljkhjeaaVarPlain
set_option linter.unusedVariables false
namespace Go.Proofs.Ytnmlnaoljkhjeaa
open Go.RowKit Base

theorem info_u64 : (Try.prog.info? 129).map (fun i => (i.zero, i.size, i.bytes)) = some (some (.int .u64 0), 1, 8) := by kernel_rfl
def u64At (w : World) (b o : Nat) (x : Nat) : Prop := w.cell? ⟨b, o, none⟩ = some (.int .u64 (x : Int))
theorem stable_u64At : Stable u64At := fun w w' b o x hb h => cell_below hb (Nat.le_refl _) h
abbrev U64s := RowOf u64At 1
theorem at_u64s {w : World} {a : Option Addr} {n cap : Nat} {l : List Nat} (h : U64s w a n cap l) : ∃ b off, (∀ k (hk : k < l.length), w.cell? ⟨b, off + k, none⟩ = some (.int .u64 (l[k] : Int))) ∧
    ∀ (kd : IntKind) (k : Nat) (w' : World), k < n → (Instr.indexAt 173 (.slice a n cap) (.int kd (k : Int))).run Try.prog w' = .ok (.pointer (some ⟨b, off + k, none⟩)) w' := by
  obtain ⟨i, hi, _, hs, _⟩ := info_parts info_u64
  obtain ⟨b, off, h1, h2⟩ := h.at (P := Try.prog)
  exact ⟨b, off, fun k hk => by simpa [u64At] using h1 k hk, fun kd k w' hk => by simpa using h2 173 129 i Try.underlying173 hi hs kd k w' hk⟩

/-- A number of 64 bits. -/
def Lt64 (x : Nat) : Prop := x < 18446744073709551616
theorem lt64_div {x : Nat} (h : Lt64 x) : Lt64 (x / 128) := Nat.lt_of_le_of_lt (Nat.div_le_self _ _) h

theorem or128 (x : Nat) : bits .or .u8 ((x : Int) % 256) 128 = (((UInt8.ofNat (128 + x % 128)).toNat : Nat) : Int) := by
  have e : (x : Int) % 256 = ((x % 256 : Nat) : Int) := by omega
  have e2 : (128 : Int) = ((128 : Nat) : Int) := rfl
  rw [e, e2, u8_or_nat _ _ (Nat.mod_lt _ (by decide)) (by decide)]
  congr 1
  have h1 : x % 256 = (x % 256 / 128) * 128 + x % 128 := by omega
  have h2 : x % 256 / 128 = 0 ∨ x % 256 / 128 = 1 := by omega
  have h3 : x % 128 < 128 := Nat.mod_lt _ (by decide)
  have h5 : (x % 128) ||| 128 = x % 128 + 128 := by
    have := Nat.shiftLeft_add_eq_or_of_lt (i := 7) (b := x % 128) (by omega) 1
    rw [show 1 <<< 7 = 128 from rfl] at this
    rw [Nat.or_comm]; omega
  have h6 : (x % 256) ||| 128 = x % 128 + 128 := by
    rcases h2 with h2 | h2
    · rw [h2] at h1
      rw [show x % 256 = x % 128 by omega, h5]
    · rw [h2] at h1
      have h7 : x % 256 = (x % 128) ||| 128 := by rw [h5]; omega
      rw [h7, Nat.or_assoc, Nat.or_self, h5]
  rw [h6]
  simp
  omega

theorem num_le10 (x : Nat) : ∀ k, x < 128 ^ k → 0 < k → (VarPlain.num x).length ≤ k := by
  intro k
  induction k generalizing x with
  | zero => intro _ h; omega
  | succ k ih =>
    intro hx _
    by_cases h : x < 128
    · rw [VarPlain.num_small h]; simp
    · rw [VarPlain.num_big (by omega)]
      have hk : 0 < k := by
        rcases Nat.eq_zero_or_pos k with h0 | h0
        · subst h0; simp at hx; omega
        · exact h0
      have := ih (x / 128) (by rw [Nat.pow_succ] at hx; exact Nat.div_lt_of_lt_mul (by rw [Nat.mul_comm]; exact hx)) hk
      simpa using this
theorem num_len (x : Nat) (h : Lt64 x) : (VarPlain.num x).length ≤ 10 := num_le10 x 10 (by unfold Lt64 at h; omega) (by decide)
theorem num_pos (x : Nat) : 0 < (VarPlain.num x).length := by
  by_cases h : x < 128
  · rw [VarPlain.num_small h]; simp
  · rw [VarPlain.num_big (by omega)]; simp
theorem nums_len (l : List Nat) (h : ∀ x ∈ l, Lt64 x) : (VarPlain.nums l).length ≤ 10 * l.length := by
  induction l with
  | nil => simp [VarPlain.nums]
  | cons x r ih =>
    have h1 := num_len x (h x (by simp))
    have h2 := ih fun y hy => h y (by simp [hy])
    simp only [VarPlain.nums, List.flatMap_cons, List.length_append, List.length_cons] at h2 ⊢
    omega
theorem nums_snoc (l : List Nat) (x : Nat) : VarPlain.nums (l ++ [x]) = VarPlain.nums l ++ VarPlain.num x := by simp [VarPlain.nums]

set_option maxHeartbeats 1000000 in
set_option maxRecDepth 100000 in
theorem var_put_calls (w : World) (a : Option Addr) (n cap : Nat) (l : List Nat) (h : U64s w a n cap l) (hl : ∀ x ∈ l, Lt64 x) (hs : n ≤ 1000000) :
    Calls Try.prog 58 #[.slice a n cap] w fun e w' => ∃ v, e = .returned v ∧ w'.ownsRow w.heap.size 5 1 v (VarPlain.nums l).length ((VarPlain.nums l).map bv) ∧ Below w.heap.size w w' := by
  obtain ⟨i0, hi, hz0, hz1, hz2⟩ := info_parts info_u8
  obtain ⟨b, off, hrow, hidx⟩ := at_u64s h
  have hn := h.1
  have hcl : ∀ wx, Below w.heap.size w wx → ∀ k (hk : k < l.length), wx.cell? ⟨b, off + k, none⟩ = some (.int .u64 (l[k] : Int)) := fun wx hx k hk => cell_below hx (Nat.le_refl _) (hrow k hk)
  generalize hB : w.heap.size = B at *
  have HB := Lib.hid hB; clear hB
  have hbb : B ≤ w.heap.size := by rw [HB.out]; exact Nat.le_refl _
  have Hidx := Lib.hid hidx; clear hidx
  have Hrow := Lib.hid hcl; clear hcl hrow
  have Hn := Lib.hid hn; clear hn h
  have HL := Lib.hid hl; clear hl
  go_enter Try.func58, Try.ntmps58
  go_wp2_with fail
  go_loopw [3, 8] (fun v i wr => ∃ k : Nat, k ≤ n ∧ i = .int .i64 k ∧ wr.ownsRow B 5 1 v (VarPlain.nums (l.take k)).length ((VarPlain.nums (l.take k)).map bv) ∧ Below B w wr ∧ B ≤ wr.heap.size) (fun _ i _ => n - (intOf i).toNat)
  case atStart => exact ⟨0, Nat.zero_le _, rfl, World.ownsRow_nil _ _ _ _, Below.refl _ _, hbb⟩
  case round =>
    obtain ⟨k, hk, rfl, hown, hbel, hBs⟩ := hrel
    by_cases hlt : k < n
    · have hkl : k < l.length := by rw [← Hn.out]; exact hlt
      have hc := Hrow.out wr hbel k hkl
      have hix := Hidx.out .i64 k wr hlt
      have hx64 := HL.out l[k] (List.getElem_mem hkl)
      have hsz := nums_len (l.take k) fun x hx => HL.out x (List.mem_of_mem_take hx)
      have hsz2 : (l.take k).length ≤ k := List.length_take_le _ _
      have Hsn : Hid (VarPlain.nums (l.take (k + 1)) = VarPlain.nums (l.take k) ++ VarPlain.num l[k]) := by
        show _ = _
        rw [List.take_succ_eq_append_getElem hkl, nums_snoc]
      generalize l[k]'hkl = x at *
      generalize VarPlain.nums (l.take k) = pre at *
      have hnl := num_len x hx64
      have hpl : pre.length ≤ 10000000 := by omega
      clear hsz hsz2
      -- 'done ++ num y = num x' while y is what is left
      have H0 : Hid (([] : List UInt8) ++ VarPlain.num x = VarPlain.num x) := List.nil_append _
      go_wp2_with fail
      go_loopw [3, 5] (fun v y wx => ∃ (z : Nat) (dn : List UInt8), Lt64 z ∧ y = .int .u64 z ∧ dn ++ VarPlain.num z = VarPlain.num x ∧ wx.ownsRow B 5 1 v (pre ++ dn).length ((pre ++ dn).map bv) ∧ Below B w wx ∧ B ≤ wx.heap.size) (fun _ y _ => (intOf y).toNat)
      case atStart => exact ⟨x, [], hx64, rfl, H0.out, by rw [List.append_nil]; exact hown, hbel, hBs⟩
      case round =>
        obtain ⟨z, dn, hz64, rfl, hdn, hown1, hbel1, hBs1⟩ := hrel
        have Hdn := Lib.hid hdn
        have hlen := congrArg List.length hdn
        rw [List.length_append] at hlen
        have hnp := num_pos z
        have hdl : dn.length < 10 := by omega
        clear hdn hlen hown hbel hBs hc hix
        by_cases hbig : 128 ≤ z
        · have Hz := Lib.hid (VarPlain.num_big hbig)
          have Hor := Lib.hid (or128 z)
          go_wp2_with (at_builtin; refine wpList_append_src rfl (.tmp 16) (.tmp 20) 43 43 rfl B 5 i0 (.int .u8 0) 1 1 Try.underlying43 (append_side Try.underlying43) hi hz0 hz1 hz2 rfl (by decide) (by decide) _ (pre ++ dn).length _ rfl (hown1.alloc _) _ 1 _ rfl (src_new _ [_] 5 1 1 rfl (by intro u hu; simp at hu; subst hu; rfl) 1) ?_ ?_ ?_ ?_)
          case _ => rw [List.length_append]; unfold maxLen; omega
          case _ => rw [List.length_append]; omega
          case _ => simp; omega
          intro v' w1 hown2 hg1 _
          have hb1 : Below B w w1 := (hbel1.alloc (by omega) _).grown hg1 (by simp; omega) (fun j hj => (hown1.lt j hj).1)
          have hs1 : B ≤ w1.heap.size := by have := hg1.size; simp at this; omega
          have hown3 : w1.ownsRow B 5 1 v' (pre ++ (dn ++ [UInt8.ofNat (128 + z % 128)])).length ((pre ++ (dn ++ [UInt8.ofNat (128 + z % 128)])).map bv) := by
            rw [Hor.out] at hown2
            have e : (pre ++ (dn ++ [UInt8.ofNat (128 + z % 128)])).length = pre.length + dn.length + 1 := by simp; omega
            rw [e]
            simpa [bv] using hown2
          have Hd2 : Hid ((dn ++ [UInt8.ofNat (128 + z % 128)]) ++ VarPlain.num (z / 128) = VarPlain.num x) := by
            show _ = _
            rw [← Hdn.out, Hz.out]; simp
          clear hown2 hg1 hown1 hbel1 hBs1
          go_wp2_with fail
          go_roundw
          case rel => exact ⟨z / 128, _, lt64_div hz64, by go_num, Hd2.out, hown3, hb1, hs1⟩
          case measure => simp [intOf]; omega
        · have hzs : z < 128 := by omega
          have Hz := Lib.hid (VarPlain.num_small hzs)
          go_wp2_with (at_builtin; refine wpList_append_src rfl (.tmp 22) (.tmp 25) 43 43 rfl B 5 i0 (.int .u8 0) 1 1 Try.underlying43 (append_side Try.underlying43) hi hz0 hz1 hz2 rfl (by decide) (by decide) _ (pre ++ dn).length _ rfl (hown1.alloc _) _ 1 _ rfl (src_new _ [_] 5 1 1 rfl (by intro u hu; simp at hu; subst hu; rfl) 1) ?_ ?_ ?_ ?_)
          case _ => rw [List.length_append]; unfold maxLen; omega
          case _ => rw [List.length_append]; omega
          case _ => simp; omega
          intro v' w1 hown2 hg1 _
          have hb1 : Below B w w1 := (hbel1.alloc (by omega) _).grown hg1 (by simp; omega) (fun j hj => (hown1.lt j hj).1)
          have hs1 : B ≤ w1.heap.size := by have := hg1.size; simp at this; omega
          have hown3 : w1.ownsRow B 5 1 v' (VarPlain.nums (l.take (k + 1))).length ((VarPlain.nums (l.take (k + 1))).map bv) := by
            have e1 : VarPlain.nums (l.take (k + 1)) = pre ++ (dn ++ [UInt8.ofNat z]) := by rw [Hsn.out, ← Hdn.out, Hz.out]
            have e2 : Value.int .u8 (z : Int) = bv (UInt8.ofNat z) := by
              unfold bv
              congr 1
              simp
              omega
            have e : (pre ++ (dn ++ [UInt8.ofNat z])).length = pre.length + dn.length + 1 := by simp; omega
            rw [e1, e]
            rw [e2] at hown2
            simpa using hown2
          clear hown2 hg1 hown1 hbel1 hBs1
          go_wp2_with fail
          go_roundw
          case rel => exact ⟨k + 1, by omega, by go_num, hown3, hb1, hs1⟩
          case measure => simp [intOf]; omega
    · obtain rfl : k = n := by omega
      have ht : l.take k = l := List.take_of_length_le (by rw [← Hn.out]; exact Nat.le_refl _)
      rw [ht] at hown
      clear ht
      go_wp2_with fail
      go_ret
      exact ⟨_, rfl, hown, hbel⟩

end Go.Proofs.Ytnmlnaoljkhjeaa
