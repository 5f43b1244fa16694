/-
  Plain mathematics of the numbers of chapter 1 (varint): what a number is put as, what bytes begin with. No program stands here. Conditions: none.
  The walks of package varint and its reference: each function computes what the plain mathematics says. Conditions: the arguments can be read; as each contract says.
  Zig, Zag and the reference's Zig and Num: each computes what the plain mathematics says. Conditions: the numbers are of 64 bits.
  Take and the reference's Take: each computes what the plain mathematics says. Conditions: the bytes can be read.
  The reference's Take computes what the plain mathematics says. Conditions: the text can be read.
  The reader of package varint: each method computes what the plain mathematics says of the bytes left and the first error. Conditions: the reader is there; as each contract says.
  The reader of package varint, more: the methods that read on. Conditions: the reader is there; as each contract says.
  slices.Clone at bytes, Open, Texts: each computes what the plain mathematics says. Conditions: the arguments can be read; as each contract says.
  Texts computes what the plain mathematics says. Conditions: the texts can be read; they are not longer than a thousand million bytes together.
  Plain mathematics of chapter 1, more: what is put is taken, whatever stands behind; cut it is short; what is taken is what its number is put as. No program stands here. Conditions: the numbers are of 64 bits.
  The reader of package varint once more: Num and Text leave the row that is read in the block where it lay. Conditions: the reader is there; as each contract says.
-/
import Derived.Below
import Derived.Test.YtmhofdoifgfjfaaWords
import Derived.WalkSpells
/-! VarPlain -/
namespace Go.Proofs.Ytmhofdoifgfjfaa.VarPlain

/-- A number's bytes: seven bits each, the lower ones first. -/
def num (x : Nat) : List UInt8 :=
  if h : x < 128 then [UInt8.ofNat x] else UInt8.ofNat (128 + x % 128) :: num (x / 128)
termination_by x
decreasing_by omega

theorem num_small {x : Nat} (h : x < 128) : num x = [UInt8.ofNat x] := by rw [num, dif_pos h]
theorem num_big {x : Nat} (h : 128 ≤ x) : num x = UInt8.ofNat (128 + x % 128) :: num (x / 128) := by rw [num, dif_neg (by omega)]

def nums (l : List Nat) : List UInt8 := l.flatMap num

/-- How many bytes at the beginning are 128 or more. -/
def lead : List UInt8 → Nat
  | [] => 0
  | c :: r => if 128 ≤ c.toNat then lead r + 1 else 0

/-- The number of bytes, the first ones the lowest. -/
def val : List UInt8 → Nat
  | [] => 0
  | c :: r => c.toNat % 128 + 128 * val r

/-- What bytes begin with: the number, how many bytes it has, the error's number. -/
def take (b : List UInt8) : Nat × Nat × Int :=
  let n := min (lead b) 10
  if n = 10 then (0, 0, 11)
  else if n = b.length then (0, 0, 10)
  else if (0 < n ∧ (b.getD n 0).toNat = 0) ∨ (n = 9 ∧ 1 < (b.getD n 0).toNat) then (0, 0, 11)
  else (val (b.take (n + 1)), n + 1, 0)

theorem lead_le (b : List UInt8) : lead b ≤ b.length := by
  induction b with
  | nil => exact Nat.le_refl _
  | cons c r ih => rw [lead]; split <;> simp <;> omega
theorem lead_at {b : List UInt8} {k : Nat} (h : k < lead b) (hk : k < b.length) : 128 ≤ b[k].toNat := by
  induction b generalizing k with
  | nil => simp at hk
  | cons c r ih =>
    rw [lead] at h
    split at h
    · cases k with
      | zero => assumption
      | succ k => exact ih (by omega) (by simpa using hk)
    · omega
theorem lead_end {b : List UInt8} (hk : lead b < b.length) : b[lead b].toNat < 128 := by
  induction b with
  | nil => simp at hk
  | cons c r ih =>
    by_cases hc : 128 ≤ c.toNat
    · have e : lead (c :: r) = lead r + 1 := by rw [lead, if_pos hc]
      simp only [e] at hk ⊢
      simpa using ih (by simpa using hk)
    · have e : lead (c :: r) = 0 := by rw [lead, if_neg hc]
      simp only [e]
      simpa using Nat.lt_of_not_le hc
theorem lead_eq {b : List UInt8} {k : Nat} (h1 : ∀ j, j < k → ∀ hj : j < b.length, 128 ≤ b[j].toNat) (h2 : k = b.length ∨ ∃ hk : k < b.length, b[k].toNat < 128) : lead b = k := by
  induction b generalizing k with
  | nil =>
    rcases h2 with h2 | ⟨hk, _⟩
    · simp at h2; subst h2; rfl
    · simp at hk
  | cons c r ih =>
    cases k with
    | zero =>
      rcases h2 with h2 | ⟨_, h2⟩
      · simp at h2
      · rw [lead, if_neg (by simpa using h2)]
    | succ k =>
      have hc : 128 ≤ c.toNat := h1 0 (by omega) (by simp)
      rw [lead, if_pos hc, ih (k := k) (fun j hj hjr => by
        have := h1 (j + 1) (by omega) (by simpa using hjr)
        rwa [List.getElem_cons_succ] at this) ?_]
      rcases h2 with h2 | ⟨hk, h2⟩
      · left; simpa using h2
      · right; exact ⟨by simpa using hk, by simpa using h2⟩

theorem val_append (l m : List UInt8) : val (l ++ m) = val l + 128 ^ l.length * val m := by
  induction l with
  | nil => simp [val]
  | cons c r ih =>
    rw [List.cons_append, val, val, ih, List.length_cons, Nat.pow_succ, Nat.mul_add, ← Nat.mul_assoc]
    have e : 128 * 128 ^ r.length = 128 ^ r.length * 128 := Nat.mul_comm _ _
    rw [e]
    omega
theorem val_lt (l : List UInt8) : val l < 128 ^ l.length := by
  induction l with
  | nil => simp [val]
  | cons c r ih =>
    rw [val, List.length_cons, Nat.pow_succ]
    have := Nat.mod_lt c.toNat (show 0 < 128 by decide)
    omega

/-- A number with a sign as one without, and back. -/
def zig (x : Int) : Nat := if 0 ≤ x then (2 * x).toNat else (-2 * x - 1).toNat
def zag (y : Nat) : Int := if y % 2 = 0 then (y / 2 : Nat) else -((y / 2 : Nat) : Int) - 1
theorem zag_zig (x : Int) : zag (zig x) = x := by unfold zag zig; split <;> split <;> omega
theorem zig_zag (y : Nat) : zig (zag y) = y := by unfold zag zig; split <;> split <;> omega

/-- The next number of what is left: it, what is left then, the error. -/
def next (l : List UInt8) (e : Int) : Nat × List UInt8 × Int := if e ≠ 0 then (0, l, e) else ((take l).1, l.drop (take l).2.1, (take l).2.2)
/-- The next text. -/
def word (l : List UInt8) (e : Int) : List UInt8 × List UInt8 × Int :=
  if (next l e).2.2 ≠ 0 then ([], (next l e).2.1, (next l e).2.2)
  else if (next l e).2.1.length < (next l e).1 then ([], (next l e).2.1, 10)
  else ((next l e).2.1.take (next l e).1, (next l e).2.1.drop (next l e).1, 0)

theorem take_le (b : List UInt8) : (take b).2.1 ≤ b.length := by
  have h1 := lead_le b
  unfold take
  simp only []
  split
  · simp
  · split
    · simp
    · split
      · simp
      · simp only []; omega
theorem take_lt (b : List UInt8) : (take b).1 < 18446744073709551616 := by
  have h1 := lead_le b
  unfold take
  simp only []
  split
  · simp
  · rename_i h10
    split
    · simp
    · rename_i hlen
      split
      · simp
      · rename_i hbad
        simp only []
        generalize hn : min (lead b) 10 = n at *
        have hnb : n < b.length := by omega
        have hne : n = lead b := by omega
        have hend : b[n].toNat < 128 := by subst hne; exact lead_end hnb
        have e2 : b.getD n 0 = b[n] := by simp [List.getD, List.getElem?_eq_getElem hnb]
        rw [e2] at hbad
        rw [List.take_succ_eq_append_getElem hnb, val_append]
        have h2 := val_lt (b.take n)
        have h3 : (b.take n).length = n := by rw [List.length_take]; omega
        rw [h3] at h2 ⊢
        simp only [val, Nat.mul_zero, Nat.add_zero]
        rw [Nat.mod_eq_of_lt hend]
        have e128 : 128 ^ n = 2 ^ (7 * n) := by rw [show 128 = 2 ^ 7 from rfl, ← Nat.pow_mul]
        rw [e128] at h2 ⊢
        rcases (by omega : n ≤ 8 ∨ n = 9) with h9 | h9
        · have hp56 : 2 ^ (7 * n) ≤ 2 ^ 56 := Nat.pow_le_pow_right (by decide) (by omega)
          have h4 : 2 ^ (7 * n) * b[n].toNat ≤ 2 ^ 56 * 127 := Nat.mul_le_mul hp56 (by omega)
          omega
        · have h5 : b[n].toNat ≤ 1 := by omega
          have hp63 : 2 ^ (7 * n) ≤ 2 ^ 63 := Nat.pow_le_pow_right (by decide) (by omega)
          have h4 : 2 ^ (7 * n) * b[n].toNat ≤ 2 ^ 63 * 1 := Nat.mul_le_mul hp63 h5
          omega

end Go.Proofs.Ytmhofdoifgfjfaa.VarPlain

/-! VarWalks -/
set_option linter.unusedVariables false
namespace Go.Proofs.Ytmhofdoifgfjfaa
open Go.RowKit Base

theorem info_u64 : (Try.prog.info? 147).map (fun i => (i.zero, i.size, i.bytes)) = some (some (.int .u64 0), 1, 8) := by kernel_rfl
def u64At (w : World) (b o : Nat) (x : Nat) : Prop := w.cell? ⟨b, o, none⟩ = some (.int .u64 (x : Int))
theorem stable_u64At : Stable u64At := fun w w' b o x hb h => cell_below hb (Nat.le_refl _) h
abbrev U64s := RowOf u64At 1
theorem at_u64s {w : World} {a : Option Addr} {n cap : Nat} {l : List Nat} (h : U64s w a n cap l) : ∃ b off, (∀ k (hk : k < l.length), w.cell? ⟨b, off + k, none⟩ = some (.int .u64 (l[k] : Int))) ∧
    ∀ (kd : IntKind) (k : Nat) (w' : World), k < n → (Instr.indexAt 165 (.slice a n cap) (.int kd (k : Int))).run Try.prog w' = .ok (.pointer (some ⟨b, off + k, none⟩)) w' := by
  obtain ⟨i, hi, _, hs, _⟩ := info_parts info_u64
  obtain ⟨b, off, h1, h2⟩ := h.at (P := Try.prog)
  exact ⟨b, off, fun k hk => by simpa [u64At] using h1 k hk, fun kd k w' hk => by simpa using h2 165 147 i Try.underlying165 hi hs kd k w' hk⟩

/-- A number of 64 bits. -/
def Lt64 (x : Nat) : Prop := x < 18446744073709551616
theorem lt64_div {x : Nat} (h : Lt64 x) : Lt64 (x / 128) := Nat.lt_of_le_of_lt (Nat.div_le_self _ _) h

theorem or128 (x : Nat) : bits .or .u8 ((x : Int) % 256) 128 = (((UInt8.ofNat (128 + x % 128)).toNat : Nat) : Int) := by
  have e : (x : Int) % 256 = ((x % 256 : Nat) : Int) := by omega
  have e2 : (128 : Int) = ((128 : Nat) : Int) := rfl
  rw [e, e2, u8_or_nat _ _ (Nat.mod_lt _ (by decide)) (by decide)]
  congr 1
  have h1 : x % 256 = (x % 256 / 128) * 128 + x % 128 := by omega
  have h2 : x % 256 / 128 = 0 ∨ x % 256 / 128 = 1 := by omega
  have h3 : x % 128 < 128 := Nat.mod_lt _ (by decide)
  have h5 : (x % 128) ||| 128 = x % 128 + 128 := by
    have := Nat.shiftLeft_add_eq_or_of_lt (i := 7) (b := x % 128) (by omega) 1
    rw [show 1 <<< 7 = 128 from rfl] at this
    rw [Nat.or_comm]; omega
  have h6 : (x % 256) ||| 128 = x % 128 + 128 := by
    rcases h2 with h2 | h2
    · rw [h2] at h1
      rw [show x % 256 = x % 128 by omega, h5]
    · rw [h2] at h1
      have h7 : x % 256 = (x % 128) ||| 128 := by rw [h5]; omega
      rw [h7, Nat.or_assoc, Nat.or_self, h5]
  rw [h6]
  simp
  omega

theorem num_le10 (x : Nat) : ∀ k, x < 128 ^ k → 0 < k → (VarPlain.num x).length ≤ k := by
  intro k
  induction k generalizing x with
  | zero => intro _ h; omega
  | succ k ih =>
    intro hx _
    by_cases h : x < 128
    · rw [VarPlain.num_small h]; simp
    · rw [VarPlain.num_big (by omega)]
      have hk : 0 < k := by
        rcases Nat.eq_zero_or_pos k with h0 | h0
        · subst h0; simp at hx; omega
        · exact h0
      have := ih (x / 128) (by rw [Nat.pow_succ] at hx; exact Nat.div_lt_of_lt_mul (by rw [Nat.mul_comm]; exact hx)) hk
      simpa using this
theorem num_len (x : Nat) (h : Lt64 x) : (VarPlain.num x).length ≤ 10 := num_le10 x 10 (by unfold Lt64 at h; omega) (by decide)
theorem num_pos (x : Nat) : 0 < (VarPlain.num x).length := by
  by_cases h : x < 128
  · rw [VarPlain.num_small h]; simp
  · rw [VarPlain.num_big (by omega)]; simp
theorem nums_len (l : List Nat) (h : ∀ x ∈ l, Lt64 x) : (VarPlain.nums l).length ≤ 10 * l.length := by
  induction l with
  | nil => simp [VarPlain.nums]
  | cons x r ih =>
    have h1 := num_len x (h x (by simp))
    have h2 := ih fun y hy => h y (by simp [hy])
    simp only [VarPlain.nums, List.flatMap_cons, List.length_append, List.length_cons] at h2 ⊢
    omega
theorem nums_snoc (l : List Nat) (x : Nat) : VarPlain.nums (l ++ [x]) = VarPlain.nums l ++ VarPlain.num x := by simp [VarPlain.nums]

set_option maxHeartbeats 1000000 in
set_option maxRecDepth 100000 in
theorem var_put_calls (w : World) (a : Option Addr) (n cap : Nat) (l : List Nat) (h : U64s w a n cap l) (hl : ∀ x ∈ l, Lt64 x) (hs : n ≤ 1000000) :
    Calls Try.prog 65 #[.slice a n cap] w fun e w' => ∃ v, e = .returned v ∧ w'.ownsRow w.heap.size 5 1 v (VarPlain.nums l).length ((VarPlain.nums l).map bv) ∧ Below w.heap.size w w' := by
  obtain ⟨i0, hi, hz0, hz1, hz2⟩ := info_parts info_u8
  obtain ⟨b, off, hrow, hidx⟩ := at_u64s h
  have hn := h.1
  have hcl : ∀ wx, Below w.heap.size w wx → ∀ k (hk : k < l.length), wx.cell? ⟨b, off + k, none⟩ = some (.int .u64 (l[k] : Int)) := fun wx hx k hk => cell_below hx (Nat.le_refl _) (hrow k hk)
  generalize hB : w.heap.size = B at *
  have HB := Lib.hid hB; clear hB
  have hbb : B ≤ w.heap.size := by rw [HB.out]; exact Nat.le_refl _
  have Hidx := Lib.hid hidx; clear hidx
  have Hrow := Lib.hid hcl; clear hcl hrow
  have Hn := Lib.hid hn; clear hn h
  have HL := Lib.hid hl; clear hl
  go_enter Try.func65, Try.ntmps65
  go_wp2_with fail
  go_loopw [3, 8] (fun v i wr => ∃ k : Nat, k ≤ n ∧ i = .int .i64 k ∧ wr.ownsRow B 5 1 v (VarPlain.nums (l.take k)).length ((VarPlain.nums (l.take k)).map bv) ∧ Below B w wr ∧ B ≤ wr.heap.size) (fun _ i _ => n - (intOf i).toNat)
  case atStart => exact ⟨0, Nat.zero_le _, rfl, World.ownsRow_nil _ _ _ _, Below.refl _ _, hbb⟩
  case round =>
    obtain ⟨k, hk, rfl, hown, hbel, hBs⟩ := hrel
    by_cases hlt : k < n
    · have hkl : k < l.length := by rw [← Hn.out]; exact hlt
      have hc := Hrow.out wr hbel k hkl
      have hix := Hidx.out .i64 k wr hlt
      have hx64 := HL.out l[k] (List.getElem_mem hkl)
      have hsz := nums_len (l.take k) fun x hx => HL.out x (List.mem_of_mem_take hx)
      have hsz2 : (l.take k).length ≤ k := List.length_take_le _ _
      have Hsn : Hid (VarPlain.nums (l.take (k + 1)) = VarPlain.nums (l.take k) ++ VarPlain.num l[k]) := by
        show _ = _
        rw [List.take_succ_eq_append_getElem hkl, nums_snoc]
      generalize l[k]'hkl = x at *
      generalize VarPlain.nums (l.take k) = pre at *
      have hnl := num_len x hx64
      have hpl : pre.length ≤ 10000000 := by omega
      clear hsz hsz2
      -- 'done ++ num y = num x' while y is what is left
      have H0 : Hid (([] : List UInt8) ++ VarPlain.num x = VarPlain.num x) := List.nil_append _
      go_wp2_with fail
      go_loopw [3, 5] (fun v y wx => ∃ (z : Nat) (dn : List UInt8), Lt64 z ∧ y = .int .u64 z ∧ dn ++ VarPlain.num z = VarPlain.num x ∧ wx.ownsRow B 5 1 v (pre ++ dn).length ((pre ++ dn).map bv) ∧ Below B w wx ∧ B ≤ wx.heap.size) (fun _ y _ => (intOf y).toNat)
      case atStart => exact ⟨x, [], hx64, rfl, H0.out, by rw [List.append_nil]; exact hown, hbel, hBs⟩
      case round =>
        obtain ⟨z, dn, hz64, rfl, hdn, hown1, hbel1, hBs1⟩ := hrel
        have Hdn := Lib.hid hdn
        have hlen := congrArg List.length hdn
        rw [List.length_append] at hlen
        have hnp := num_pos z
        have hdl : dn.length < 10 := by omega
        clear hdn hlen hown hbel hBs hc hix
        by_cases hbig : 128 ≤ z
        · have Hz := Lib.hid (VarPlain.num_big hbig)
          have Hor := Lib.hid (or128 z)
          go_wp2_with (at_builtin; refine wpList_append_src rfl (.tmp 16) (.tmp 20) 64 64 rfl B 5 i0 (.int .u8 0) 1 1 Try.underlying64 (append_side Try.underlying64) hi hz0 hz1 hz2 rfl (by decide) (by decide) _ (pre ++ dn).length _ rfl (hown1.alloc _) _ 1 _ rfl (src_new _ [_] 5 1 1 rfl (by intro u hu; simp at hu; subst hu; rfl) 1) ?_ ?_ ?_ ?_)
          case _ => rw [List.length_append]; unfold maxLen; omega
          case _ => rw [List.length_append]; omega
          case _ => simp; omega
          intro v' w1 hown2 hg1 _
          have hb1 : Below B w w1 := (hbel1.alloc (by omega) _).grown hg1 (by simp; omega) (fun j hj => (hown1.lt j hj).1)
          have hs1 : B ≤ w1.heap.size := by have := hg1.size; simp at this; omega
          have hown3 : w1.ownsRow B 5 1 v' (pre ++ (dn ++ [UInt8.ofNat (128 + z % 128)])).length ((pre ++ (dn ++ [UInt8.ofNat (128 + z % 128)])).map bv) := by
            rw [Hor.out] at hown2
            have e : (pre ++ (dn ++ [UInt8.ofNat (128 + z % 128)])).length = pre.length + dn.length + 1 := by simp; omega
            rw [e]
            simpa [bv] using hown2
          have Hd2 : Hid ((dn ++ [UInt8.ofNat (128 + z % 128)]) ++ VarPlain.num (z / 128) = VarPlain.num x) := by
            show _ = _
            rw [← Hdn.out, Hz.out]; simp
          clear hown2 hg1 hown1 hbel1 hBs1
          go_wp2_with fail
          go_roundw
          case rel => exact ⟨z / 128, _, lt64_div hz64, by go_num, Hd2.out, hown3, hb1, hs1⟩
          case measure => simp [intOf]; omega
        · have hzs : z < 128 := by omega
          have Hz := Lib.hid (VarPlain.num_small hzs)
          go_wp2_with (at_builtin; refine wpList_append_src rfl (.tmp 22) (.tmp 25) 64 64 rfl B 5 i0 (.int .u8 0) 1 1 Try.underlying64 (append_side Try.underlying64) hi hz0 hz1 hz2 rfl (by decide) (by decide) _ (pre ++ dn).length _ rfl (hown1.alloc _) _ 1 _ rfl (src_new _ [_] 5 1 1 rfl (by intro u hu; simp at hu; subst hu; rfl) 1) ?_ ?_ ?_ ?_)
          case _ => rw [List.length_append]; unfold maxLen; omega
          case _ => rw [List.length_append]; omega
          case _ => simp; omega
          intro v' w1 hown2 hg1 _
          have hb1 : Below B w w1 := (hbel1.alloc (by omega) _).grown hg1 (by simp; omega) (fun j hj => (hown1.lt j hj).1)
          have hs1 : B ≤ w1.heap.size := by have := hg1.size; simp at this; omega
          have hown3 : w1.ownsRow B 5 1 v' (VarPlain.nums (l.take (k + 1))).length ((VarPlain.nums (l.take (k + 1))).map bv) := by
            have e1 : VarPlain.nums (l.take (k + 1)) = pre ++ (dn ++ [UInt8.ofNat z]) := by rw [Hsn.out, ← Hdn.out, Hz.out]
            have e2 : Value.int .u8 (z : Int) = bv (UInt8.ofNat z) := by
              unfold bv
              congr 1
              simp
              omega
            have e : (pre ++ (dn ++ [UInt8.ofNat z])).length = pre.length + dn.length + 1 := by simp; omega
            rw [e1, e]
            rw [e2] at hown2
            simpa using hown2
          clear hown2 hg1 hown1 hbel1 hBs1
          go_wp2_with fail
          go_roundw
          case rel => exact ⟨k + 1, by omega, by go_num, hown3, hb1, hs1⟩
          case measure => simp [intOf]; omega
    · obtain rfl : k = n := by omega
      have ht : l.take k = l := List.take_of_length_le (by rw [← Hn.out]; exact Nat.le_refl _)
      rw [ht] at hown
      clear ht
      go_wp2_with fail
      go_ret
      exact ⟨_, rfl, hown, hbel⟩

end Go.Proofs.Ytmhofdoifgfjfaa

/-! VarZig -/
set_option linter.unusedVariables false
namespace Go.Proofs.Ytmhofdoifgfjfaa
open Go.RowKit Base

theorem bits64_xor (x y : BitVec 64) : bits .xor .u64 (x.toNat : Int) (y.toNat : Int) = ((x ^^^ y).toNat : Int) := by
  rw [u64_xor_nat _ _ x.isLt y.isLt, BitVec.toNat_xor]
theorem bits64_and (x y : BitVec 64) : bits .and .u64 (x.toNat : Int) (y.toNat : Int) = ((x &&& y).toNat : Int) := by
  rw [u64_and_nat _ _ x.isLt y.isLt, BitVec.toNat_and]
theorem xor64_ones (a : Nat) (h : a < 18446744073709551616) : bits .xor .u64 (a : Int) 18446744073709551615 = ((18446744073709551615 - a : Nat) : Int) := by
  have e1 : a = (BitVec.ofNat 64 a).toNat := by rw [BitVec.toNat_ofNat, Nat.mod_eq_of_lt h]
  have e2 : (18446744073709551615 : Int) = (((BitVec.allOnes 64).toNat : Nat) : Int) := by decide
  rw [e2]
  conv => lhs; rw [e1]
  rw [bits64_xor, BitVec.xor_allOnes, BitVec.toNat_not, ← e1]
theorem xor64_zero (a : Nat) (h : a < 18446744073709551616) : bits .xor .u64 (a : Int) 0 = (a : Int) := by
  have := u64_xor_nat a 0 h (by decide)
  rw [Nat.xor_zero] at this
  exact this
theorem and64_one (a : Nat) (h : a < 18446744073709551616) : bits .and .u64 (a : Int) 1 = ((a % 2 : Nat) : Int) := by
  have := u64_and_nat a 1 h (by decide)
  rw [Nat.and_one_is_mod] at this
  exact this
theorem zig_raw (x : Int) (h1 : -9223372036854775808 ≤ x) (h2 : x ≤ 9223372036854775807) : bits BinOp.xor IntKind.u64 (IntKind.u64.wrap (IntKind.u64.wrap x * 2)) (IntKind.u64.wrap (x / 9223372036854775808)) = (VarPlain.zig x : Int) := by
  rw [IntKind.wrap_u64, IntKind.wrap_u64, IntKind.wrap_u64]
  by_cases h : 0 ≤ x
  · have e1 : x % 18446744073709551616 * 2 % 18446744073709551616 = (((2 * x).toNat : Nat) : Int) := by omega
    have e2 : x / 9223372036854775808 % 18446744073709551616 = 0 := by omega
    rw [e1, e2, xor64_zero _ (by omega), VarPlain.zig, if_pos h]
  · have e1 : x % 18446744073709551616 * 2 % 18446744073709551616 = (((2 * x + 18446744073709551616).toNat : Nat) : Int) := by omega
    have e2 : x / 9223372036854775808 % 18446744073709551616 = 18446744073709551615 := by omega
    rw [e1, e2, xor64_ones _ (by omega), VarPlain.zig, if_neg h]
    omega
theorem zag_raw (x : Int) (h1 : 0 ≤ x) (h2 : x ≤ 18446744073709551615) : bits BinOp.xor IntKind.i64 (x / 2) (wrap64 (-wrap64 (bits BinOp.and IntKind.u64 x 1))) = VarPlain.zag x.toNat := by
  have e0 : x = ((x.toNat : Nat) : Int) := by omega
  have e1 : bits BinOp.and IntKind.u64 x 1 = ((x.toNat % 2 : Nat) : Int) := by
    conv => lhs; rw [e0]
    exact and64_one _ (by omega)
  rw [e1]
  unfold VarPlain.zag
  rcases (by omega : x.toNat % 2 = 0 ∨ x.toNat % 2 = 1) with h | h
  · rw [h, if_pos rfl]
    have e2 : wrap64 (-wrap64 ((0 : Nat) : Int)) = 0 := by unfold wrap64; omega
    rw [e2]
    unfold bits
    have e3 : (BitVec.ofInt 64 (x / 2) ^^^ BitVec.ofInt 64 0) = BitVec.ofNat 64 (x.toNat / 2) := by
      have : (x / 2) = ((x.toNat / 2 : Nat) : Int) := by omega
      rw [this, BitVec.ofInt_natCast, show BitVec.ofInt 64 0 = 0#64 from by decide, BitVec.xor_zero]
    show IntKind.i64.wrap ((BitVec.ofInt 64 (x / 2) ^^^ BitVec.ofInt 64 0).toNat : Int) = _
    rw [e3, IntKind.wrap_i64, BitVec.toNat_ofNat]
    omega
  · rw [h, if_neg (by decide)]
    have e2 : wrap64 (-wrap64 ((1 : Nat) : Int)) = -1 := by unfold wrap64; omega
    rw [e2]
    unfold bits
    have e3 : (BitVec.ofInt 64 (x / 2) ^^^ BitVec.ofInt 64 (-1)) = ~~~ (BitVec.ofNat 64 (x.toNat / 2)) := by
      have : (x / 2) = ((x.toNat / 2 : Nat) : Int) := by omega
      rw [this, BitVec.ofInt_natCast, show BitVec.ofInt 64 (-1) = BitVec.allOnes 64 from by decide, BitVec.xor_allOnes]
    show IntKind.i64.wrap ((BitVec.ofInt 64 (x / 2) ^^^ BitVec.ofInt 64 (-1)).toNat : Int) = _
    rw [e3, IntKind.wrap_i64, BitVec.toNat_not, BitVec.toNat_ofNat]
    omega

set_option maxRecDepth 100000 in
theorem var_zig_calls (w : World) (x : Int) (h1 : -9223372036854775808 ≤ x) (h2 : x ≤ 9223372036854775807) :
    Calls Try.prog 66 #[.int .i64 x] w fun e w' => e = .returned (.int .u64 (VarPlain.zig x : Int)) ∧ w = w' := by
  have hz := zig_raw x h1 h2
  have Hz := Lib.hid hz; clear hz
  go_enter Try.func66, Try.ntmps66
  go_wp2
  go_ret
  exact ⟨by rw [← Hz.out]; rfl, rfl⟩
set_option maxRecDepth 100000 in
theorem var_zag_calls (w : World) (x : Int) (h1 : 0 ≤ x) (h2 : x ≤ 18446744073709551615) :
    Calls Try.prog 73 #[.int .u64 x] w fun e w' => e = .returned (.int .i64 (VarPlain.zag x.toNat)) ∧ w = w' := by
  have hz := zag_raw x h1 h2
  have Hz := Lib.hid hz; clear hz
  go_enter Try.func73, Try.ntmps73
  go_wp2
  go_ret
  exact ⟨by rw [← Hz.out]; rfl, rfl⟩
end Go.Proofs.Ytmhofdoifgfjfaa

/-! VarTake -/
set_option linter.unusedVariables false
namespace Go.Proofs.Ytmhofdoifgfjfaa
open Go.RowKit Base

/-- The three results of Take, as values. -/
def takeV (t : Nat × Nat × Int) : Value := .tuple #[.int .u64 (t.1 : Int), .int .i64 (t.2.1 : Int), .int .i64 t.2.2]

/-- What is known at the head of round k. -/
def TakeInv (l : List UInt8) (k : Nat) (y : Int) : Prop := (∀ j, j < k → ∀ hj : j < l.length, 128 ≤ l[j].toNat) ∧ (k ≤ 9 → y = (VarPlain.val (l.take k) : Int)) ∧ 0 ≤ y ∧ Lt64 y.toNat

theorem lead_ge {l : List UInt8} {k : Nat} (hk : k ≤ l.length) (h1 : ∀ j, j < k → ∀ hj : j < l.length, 128 ≤ l[j].toNat) : k ≤ VarPlain.lead l := by
  rcases Nat.lt_or_ge (VarPlain.lead l) k with h | h
  · have h2 := VarPlain.lead_end (b := l) (by omega)
    have h3 := h1 (VarPlain.lead l) h (by omega)
    omega
  · exact h
theorem take_at {l : List UInt8} {k : Nat} (h1 : ∀ j, j < k → ∀ hj : j < l.length, 128 ≤ l[j].toNat) (hk : k < l.length) (h9 : k ≤ 9) (hc : l[k].toNat < 128) :
    VarPlain.take l = if (0 < k ∧ l[k].toNat = 0) ∨ (k = 9 ∧ 1 < l[k].toNat) then (0, 0, 11) else (VarPlain.val (l.take (k + 1)), k + 1, 0) := by
  have e : VarPlain.lead l = k := VarPlain.lead_eq h1 (.inr ⟨hk, hc⟩)
  unfold VarPlain.take
  simp only [e, show min k 10 = k by omega, show ¬ k = 10 by omega, show ¬ k = l.length by omega, if_false]
  have e2 : l.getD k 0 = l[k] := by simp [List.getD, List.getElem?_eq_getElem hk]
  rw [e2]
theorem take_end {l : List UInt8} {m : Nat} (h1 : ∀ j, j < m → ∀ hj : j < l.length, 128 ≤ l[j].toNat) (h10 : m ≤ 10) (hml : m ≤ l.length) (hm : m = l.length ∨ m = 10) :
    VarPlain.take l = if 10 ≤ l.length then (0, 0, 11) else (0, 0, 10) := by
  have h2 := lead_ge hml h1
  have h3 := VarPlain.lead_le l
  unfold VarPlain.take
  by_cases h : 10 ≤ l.length
  · have hm10 : m = 10 := by omega
    rw [if_pos h]
    simp only [show min (VarPlain.lead l) 10 = 10 by omega, if_true]
  · have hml' : m = l.length := by omega
    rw [if_neg h]
    simp only [show min (VarPlain.lead l) 10 = l.length by omega, show ¬ l.length = 10 by omega, if_false, if_true]

theorem andNot128 (c : UInt8) : bits BinOp.andNot IntKind.u8 (c.toNat : Int) 128 = ((c.toNat % 128 : Nat) : Int) := by
  have := u8_andNot_nat c.toNat 128 c.toNat_lt (by decide)
  rw [show (((128 : Nat) : Int)) = 128 from rfl] at this
  rw [this, show 255 - 128 = 2 ^ 7 - 1 from rfl, Nat.and_two_pow_sub_one_eq_mod]

/-- A round's sum. -/
def takeRaw (y : Int) (c : UInt8) (k : Nat) : Int := bits BinOp.or IntKind.u64 y (IntKind.u64.wrap (IntKind.u64.wrap (bits BinOp.andNot IntKind.u8 (c.toNat : Int) 128) * 2 ^ (7 * k)))

theorem takeRaw_lt (y : Int) (c : UInt8) (k : Nat) (h0 : 0 ≤ y) (hy : Lt64 y.toNat) : 0 ≤ takeRaw y c k ∧ Lt64 (takeRaw y c k).toNat := by
  unfold takeRaw Lt64
  unfold Lt64 at hy
  generalize hs : IntKind.u64.wrap (IntKind.u64.wrap (bits BinOp.andNot IntKind.u8 (c.toNat : Int) 128) * 2 ^ (7 * k)) = s
  have hs0 : 0 ≤ s ∧ s < 18446744073709551616 := by rw [← hs, IntKind.wrap_u64]; omega
  have ey : y = ((y.toNat : Nat) : Int) := by omega
  have es : s = ((s.toNat : Nat) : Int) := by omega
  rw [ey, es, u64_or_nat _ _ hy (by omega)]
  have := Nat.or_lt_two_pow (n := 64) (x := y.toNat) (y := s.toNat) hy (by omega)
  exact ⟨by omega, by simpa using this⟩

theorem takeRaw_eq (l : List UInt8) (k : Nat) (hk : k < l.length) (h9 : k ≤ 9) (hd : k ≤ 8 ∨ l[k].toNat % 128 ≤ 1) : takeRaw (VarPlain.val (l.take k) : Int) l[k] k = (VarPlain.val (l.take (k + 1)) : Int) := by
  unfold takeRaw
  rw [andNot128]
  have hv := VarPlain.val_lt (l.take k)
  have hkl : (l.take k).length = k := by rw [List.length_take]; omega
  rw [hkl] at hv
  have e1 : VarPlain.val (l.take (k + 1)) = VarPlain.val (l.take k) + 128 ^ k * (l[k].toNat % 128) := by
    rw [List.take_succ_eq_append_getElem hk, VarPlain.val_append, hkl]
    simp [VarPlain.val]
  rw [e1]
  have hdl : l[k].toNat % 128 < 128 := Nat.mod_lt _ (by decide)
  generalize l[k].toNat % 128 = d at *
  generalize VarPlain.val (l.take k) = v at *
  have e128 : 128 ^ k = 2 ^ (7 * k) := by rw [show 128 = 2 ^ 7 from rfl, ← Nat.pow_mul]
  rw [e128] at hv ⊢
  have hp63 : 2 ^ (7 * k) ≤ 2 ^ 63 := Nat.pow_le_pow_right (by decide) (by omega)
  have hdp : d * 2 ^ (7 * k) < 18446744073709551616 := by
    rcases hd with hd | hd
    · have hp56 : 2 ^ (7 * k) ≤ 2 ^ 56 := Nat.pow_le_pow_right (by decide) (by omega)
      calc d * 2 ^ (7 * k) ≤ 127 * 2 ^ 56 := Nat.mul_le_mul (by omega) hp56
        _ < 18446744073709551616 := by decide
    · calc d * 2 ^ (7 * k) ≤ 1 * 2 ^ 63 := Nat.mul_le_mul hd hp63
        _ < 18446744073709551616 := by decide
  have ew1 : IntKind.u64.wrap ((d : Nat) : Int) = (d : Int) := by rw [IntKind.wrap_u64]; omega
  have ew2 : ((d : Nat) : Int) * 2 ^ (7 * k) = ((d * 2 ^ (7 * k) : Nat) : Int) := by push_cast; rfl
  have ew3 : IntKind.u64.wrap ((d * 2 ^ (7 * k) : Nat) : Int) = ((d * 2 ^ (7 * k) : Nat) : Int) := by rw [IntKind.wrap_u64]; omega
  rw [ew1, ew2, ew3, u64_or_nat _ _ (by omega) hdp]
  congr 1
  have := Nat.shiftLeft_add_eq_or_of_lt hv d
  rw [Nat.shiftLeft_eq] at this
  rw [Nat.or_comm, ← this, Nat.mul_comm d]
  omega

theorem takeInv_next {l : List UInt8} {k : Nat} {y : Int} (h : TakeInv l k y) (hk : k < l.length) (h9 : k ≤ 9) (hc : 128 ≤ l[k].toNat) : TakeInv l (k + 1) (takeRaw y l[k] k) := by
  obtain ⟨h1, h2, h3, h4⟩ := h
  have h5 := takeRaw_lt y l[k] k h3 h4
  refine ⟨fun j hj hjl => ?_, fun hk9 => ?_, h5.1, h5.2⟩
  · rcases (by omega : j < k ∨ j = k) with h | h
    · exact h1 j h hjl
    · subst h; exact hc
  · rw [h2 h9]
    exact takeRaw_eq l k hk h9 (.inl (by omega))

set_option maxHeartbeats 1000000 in
set_option maxRecDepth 100000 in
theorem var_take_calls (w : World) (a : Option Addr) (n cap : Nat) (l : List UInt8) (h : Bytes w a n cap l) :
    Calls Try.prog 75 #[.slice a n cap] w fun e w' => e = .returned (takeV (VarPlain.take l)) ∧ w = w' := by
  have hn := h.1
  have hcap := h.2.2.1
  have hnc := h.2.1
  unfold maxLen at hcap
  obtain ⟨m, hm01, hm0, hm1, hmm⟩ : ∃ m : Nat, (∀ (ts : Array TypeId) (t : TypeId) (w : World), (Builtin.min_ ts t #[.int .i64 (n : Int), .int .i64 10]).run Try.prog w = .ok (.int .i64 (m : Int)) w) ∧ m ≤ n ∧ m ≤ 10 ∧ (m = n ∨ m = 10) := by
    refine ⟨min n 10, fun ts t w => ?_, Nat.min_le_left _ _, Nat.min_le_right _ _, by omega⟩
    rw [run_min_int2]
    congr 2
    split <;> omega
  obtain ⟨a', hB, hS⟩ := sub_bytes h 0 m (Nat.zero_le _) hm0
  rw [List.drop_zero] at hB
  obtain ⟨b, off, hcell, hidx⟩ := at_bytes hB
  have hsl := fun wx => (hS wx).2.1 rfl .i64
  simp only [Nat.sub_zero] at hsl hidx hB
  have Hidx := Lib.hid hidx; clear hidx
  have Hcell := Lib.hid hcell; clear hcell
  have Hn := Lib.hid hn; clear hn
  have Hinv0 : Hid (TakeInv l 0 0) := ⟨fun j hj => absurd hj (by omega), fun _ => by simp [VarPlain.val], Int.le_refl _, by unfold Lt64; decide⟩
  have Hmm := Lib.hid hmm; clear hmm
  clear hB hS h
  go_enter Try.func75, Try.ntmps75
  go_wp2_with fail
  clear hsl hm01
  go_loop [5, 14] (fun x i => ∃ (k : Nat) (y : Int), k ≤ m ∧ i = .int .i64 k ∧ x = .int .u64 y ∧ TakeInv l k y) (fun _ i => m - (intOf i).toNat)
  case atStart => exact ⟨0, 0, Nat.zero_le _, rfl, rfl, Hinv0.out⟩
  case round =>
    obtain ⟨k, y, hk, rfl, rfl, hinv⟩ := hrel
    have Hinv := Lib.hid hinv; clear hinv
    by_cases hlt : k < m
    · have hkl : k < l.length := by rw [← Hn.out]; omega
      have hkt : k < (l.take m).length := by rw [List.length_take, ← Hn.out]; omega
      have hc := Hcell.out k hkt
      rw [List.getElem_take] at hc
      have hix := Hidx.out .i64 k w hlt
      generalize hcc : l[k]'hkl = c at *
      have Hcc := Lib.hid hcc; clear hcc
      have hcl := c.toNat_lt
      by_cases hc128 : 128 ≤ c.toNat
      · have Hnext : Hid (TakeInv l (k + 1) (takeRaw y c k)) := by
          have := takeInv_next Hinv.out hkl (by omega) (by rw [Hcc.out]; exact hc128)
          rw [Hcc.out] at this
          exact this
        go_wp2_with fail
        go_round
        case rel => exact ⟨k + 1, _, by omega, by go_num, rfl, Hnext.out⟩
        case measure => simp [intOf]; omega
      · have Htk : Hid (VarPlain.take l = if (0 < k ∧ c.toNat = 0) ∨ (k = 9 ∧ 1 < c.toNat) then (0, 0, 11) else (VarPlain.val (l.take (k + 1)), k + 1, 0)) := by
          have := take_at Hinv.out.1 hkl (by omega) (by rw [Hcc.out]; omega)
          rw [Hcc.out] at this
          exact this
        have Hval : Hid ((k ≤ 8 ∨ c.toNat % 128 ≤ 1) → takeRaw y c k = (VarPlain.val (l.take (k + 1)) : Int)) := fun hd => by
          have := takeRaw_eq l k hkl (by omega) (by rw [Hcc.out]; exact hd)
          rw [Hcc.out, ← Hinv.out.2.1 (by omega)] at this
          exact this
        by_cases hb1 : 0 < k ∧ c.toNat = 0
        · have Hr := Htk.out
          rw [if_pos (.inl hb1)] at Hr
          have Hr' := Lib.hid Hr; clear Hr
          obtain ⟨hb1a, hb1b⟩ := hb1
          have f1 : decide ((0 : Int) < (k : Int)) = true := by simp; omega
          have f2 : ((c.toNat : Int) == 0) = true := by rw [beq_iff_eq]; omega
          clear hb1b
          go_wp2_with fail
          go_ret3
          exact ⟨by rw [Hr'.out]; rfl, rfl⟩
        · by_cases hb2 : k = 9 ∧ 1 < c.toNat
          · have Hr := Htk.out
            rw [if_pos (.inr hb2)] at Hr
            have Hr' := Lib.hid Hr; clear Hr
            obtain ⟨hb2a, hb2b⟩ := hb2
            have f1 : decide ((0 : Int) < (k : Int)) = true := by simp; omega
            have f2 : ((c.toNat : Int) == 0) = false := by rw [beq_eq_false_iff_ne]; omega
            have f3 : ((k : Int) == 9) = true := by rw [beq_iff_eq]; omega
            have f4 : decide ((1 : Int) < (c.toNat : Int)) = true := by simp; omega
            clear hb1
            have Ha := Lib.hid hb2a; clear hb2a
            go_wp2_with fail
            all_goals (go_ret3; exact ⟨by rw [Hr'.out]; rfl, rfl⟩)
          · have Hr := Htk.out
            rw [if_neg (fun h => h.elim hb1 hb2)] at Hr
            have Hr' := Lib.hid Hr; clear Hr
            have hv := Hval.out (by omega)
            have Hv := Lib.hid hv; clear hv
            have Hfin : Hid (takeV (VarPlain.take l) = .tuple #[.int .u64 (takeRaw y c k), .int .i64 ((k : Int) + 1), .int .i64 0]) := by
              show _ = _
              rw [Hr'.out, Hv.out]; rfl
            by_cases hk0 : k = 0
            · have f1 : decide (0 < k) = false := by simp; omega
              have f1' : k ≤ 0 := by omega
              have f3 : ((k : Int) == 9) = false := by rw [beq_eq_false_iff_ne]; omega
              clear hb1 hb2
              have Hk0 := Lib.hid hk0; clear hk0
              go_wp2_with fail
              all_goals (go_ret3; exact ⟨by rw [Hfin.out]; rfl, rfl⟩)
            · have f1 : decide ((0 : Int) < (k : Int)) = true := by simp; omega
              have f2 : ((c.toNat : Int) == 0) = false := by rw [beq_eq_false_iff_ne]; omega
              by_cases hk9 : k = 9
              · have f3 : ((k : Int) == 9) = true := by rw [beq_iff_eq]; omega
                have f4 : decide ((1 : Int) < (c.toNat : Int)) = false := by simp; omega
                clear hb1 hb2
                have Hk0 := Lib.hid hk0; clear hk0
                have Hk9 := Lib.hid hk9; clear hk9
                go_wp2_with fail
                all_goals (go_ret3; exact ⟨by rw [Hfin.out]; rfl, rfl⟩)
              · have f3 : ((k : Int) == 9) = false := by rw [beq_eq_false_iff_ne]; omega
                clear hb1 hb2
                have Hk0 := Lib.hid hk0; clear hk0
                have Hk9 := Lib.hid hk9; clear hk9
                go_wp2_with fail
                all_goals (go_ret3; exact ⟨by rw [Hfin.out]; rfl, rfl⟩)
    · obtain rfl : k = m := by omega
      have hr := take_end Hinv.out.1 hm1 (by rw [← Hn.out]; exact hm0) (by rw [← Hn.out]; exact Hmm.out)
      rw [← Hn.out] at hr
      by_cases h10 : 10 ≤ n
      · rw [if_pos h10] at hr
        have Hr := Lib.hid hr; clear hr
        go_wp2_with fail
        all_goals (go_ret3; exact ⟨by rw [Hr.out]; rfl, rfl⟩)
      · rw [if_neg h10] at hr
        have Hr := Lib.hid hr; clear hr
        go_wp2_with fail
        all_goals (go_ret3; exact ⟨by rw [Hr.out]; rfl, rfl⟩)

end Go.Proofs.Ytmhofdoifgfjfaa

/-! VarRefTake -/
set_option linter.unusedVariables false
namespace Go.Proofs.Ytmhofdoifgfjfaa
open Go.RowKit Base

theorem val_drop_le (l : List UInt8) : ∀ j, VarPlain.val (l.drop j) ≤ VarPlain.val l := by
  induction l with
  | nil => intro j; simp
  | cons c r ih =>
    intro j
    cases j with
    | zero => simp
    | succ j =>
      have := ih j
      rw [List.drop_succ_cons]
      simp only [VarPlain.val]
      omega
theorem val_drop_step (l : List UInt8) (p : Nat) (h : p < l.length) : VarPlain.val (l.drop p) = l[p].toNat % 128 + 128 * VarPlain.val (l.drop (p + 1)) := by
  rw [List.drop_eq_getElem_cons h, VarPlain.val]

/-- What is known behind the first loop. -/
def LeadInv (l : List UInt8) (k : Nat) : Prop := ∀ j, j < k → ∀ hj : j < l.length, 128 ≤ l[j].toNat

end Go.Proofs.Ytmhofdoifgfjfaa

/-! VarReader -/
set_option linter.unusedVariables false
namespace Go.Proofs.Ytmhofdoifgfjfaa
open Go.RowKit Base

/-- Block q is a reader with the bytes l left and the error e. -/
def Rd (w : World) (q : Nat) (l : List UInt8) (e : Int) : Prop := ∃ a n cap, w.heap[q]? = some (.cells #[.slice a n cap, .int .i64 e] 115) ∧ Bytes w a n cap l

theorem Rd.below {w w' : World} {q : Nat} {l : List UInt8} {e : Int} (h : Rd w q l e) (hb : Below w.heap.size w w') : Rd w' q l e := by
  obtain ⟨a, n, cap, h1, h2⟩ := h
  exact ⟨a, n, cap, by rw [hb.block q (Array.getElem?_eq_some_iff.1 h1).1]; exact h1, h2.below stable_byteAt hb⟩

theorem Rd.cells {w : World} {q : Nat} {a : Option Addr} {n cap : Nat} {e : Int} {t : TypeId} (h : w.heap[q]? = some (.cells #[.slice a n cap, .int .i64 e] t)) :
    w.cell? ⟨q, 0, none⟩ = some (.slice a n cap) ∧ w.cell? ⟨q, 1, none⟩ = some (.int .i64 e) ∧ w.frozen? ⟨q, 0, none⟩ = false ∧ w.frozen? ⟨q, 1, none⟩ = false := by
  refine ⟨?_, ?_, ?_, ?_⟩ <;> simp [World.cell?, World.frozen?, h]


set_option maxRecDepth 100000 in
theorem rd_err_calls (w : World) (q : Nat) (l : List UInt8) (e : Int) (h : Rd w q l e) :
    Calls Try.prog 68 #[.pointer (some ⟨q, 0, none⟩)] w fun r w' => r = .returned (.int .i64 e) ∧ w = w' := by
  obtain ⟨a, n, cap, h1, h2⟩ := h
  obtain ⟨c0, c1, f0, f1⟩ := Rd.cells h1
  clear h1 h2
  go_enter Try.func68, Try.ntmps68
  go_wp2_with fail
  go_ret
  exact ⟨rfl, rfl⟩
set_option maxRecDepth 100000 in
theorem rd_left_calls (w : World) (q : Nat) (l : List UInt8) (e : Int) (h : Rd w q l e) :
    Calls Try.prog 33 #[.pointer (some ⟨q, 0, none⟩)] w fun r w' => r = .returned (.int .i64 (l.length : Int)) ∧ w = w' := by
  obtain ⟨a, n, cap, h1, h2⟩ := h
  obtain ⟨c0, c1, f0, f1⟩ := Rd.cells h1
  have Hn := Lib.hid h2.1
  clear h1 h2
  go_enter Try.func33, Try.ntmps33
  go_wp2_with fail
  go_ret
  exact ⟨by rw [← Hn.out]; rfl, rfl⟩
set_option maxRecDepth 100000 in
theorem rd_nil_err_calls (w : World) : Calls Try.prog 68 #[.pointer none] w fun r w' => r = .returned (.int .i64 10) ∧ w = w' := by
  go_enter Try.func68, Try.ntmps68
  go_wp2_with fail
  go_ret
  exact ⟨rfl, rfl⟩
set_option maxRecDepth 100000 in
theorem rd_nil_left_calls (w : World) : Calls Try.prog 33 #[.pointer none] w fun r w' => r = .returned (.int .i64 0) ∧ w = w' := by
  go_enter Try.func33, Try.ntmps33
  go_wp2_with fail
  go_ret
  exact ⟨rfl, rfl⟩

/-- The error that End tells. -/
def endE (l : List UInt8) (e : Int) : Int := if e ≠ 0 ∨ l = [] then e else 14
end Go.Proofs.Ytmhofdoifgfjfaa

/-! VarReader2 -/
set_option linter.unusedVariables false
namespace Go.Proofs.Ytmhofdoifgfjfaa
open Go.RowKit Base

/-- Bytes stay while a reader's block alone is written. -/
theorem bytes_other {w w' : World} {q : Nat} {a a2 : Option Addr} {n cap n2 cap2 : Nat} {l : List UInt8} {e : Int} {t : TypeId} (hq : w.heap[q]? = some (.cells #[.slice a2 n2 cap2, .int .i64 e] t)) (h : Bytes w a n cap l)
    (hg : ∀ k, k < w.heap.size → k ≠ q → w'.heap[k]? = w.heap[k]?) : Bytes w' a n cap l := by
  obtain ⟨h1, h2, h3, b, off, h4, h5⟩ := h
  refine ⟨h1, h2, h3, b, off, h4, fun k hk => ?_⟩
  have h6 := h5 k hk
  unfold byteAt at h6 ⊢
  have hlt : b < w.heap.size := World.block_lt_of_cell? w _ h6
  have hne : b ≠ q := by
    intro hbq
    subst hbq
    unfold World.cell? at h6
    rw [hq] at h6
    simp at h6
    rcases (by omega : off + k = 0 ∨ off + k = 1 ∨ 2 ≤ off + k) with h | h | h
    · simp [h] at h6
    · simp [h] at h6
    · have : ([Value.slice a2 n2 cap2, Value.int .i64 e] : List Value)[off + k]? = none := List.getElem?_eq_none (by simpa using h)
      rw [this] at h6
      cases h6
  rw [World.cell?_of_block (hg b hlt hne)]
  exact h6

theorem rd_set {w : World} {q : Nat} {a a' : Option Addr} {n cap n' cap' : Nat} {l' : List UInt8} {e f : Int} (h1 : w.heap[q]? = some (.cells #[.slice a n cap, .int .i64 e] 115)) (h2 : Bytes w a' n' cap' l') :
    Rd ((w.setCell ⟨q, 0, none⟩ (.slice a' n' cap')).setCell ⟨q, 1, none⟩ (.int .i64 f)) q l' f ∧ w.grownBy ((w.setCell ⟨q, 0, none⟩ (.slice a' n' cap')).setCell ⟨q, 1, none⟩ (.int .i64 f)) (some q) := by
  have e1 := heap_setCell_same w q 0 _ _ (.slice a' n' cap') h1
  have e2 := heap_setCell_same _ q 1 _ _ (.int .i64 f) e1
  have hg : ∀ k, k < w.heap.size → k ≠ q → ((w.setCell ⟨q, 0, none⟩ (.slice a' n' cap')).setCell ⟨q, 1, none⟩ (.int .i64 f)).heap[k]? = w.heap[k]? := fun k hk hne => by
    rw [Below.heap_setCell _ _ _ _ hne, Below.heap_setCell _ _ _ _ hne]
  exact ⟨⟨a', n', cap', e2, bytes_other h1 h2 hg⟩, ⟨rfl, rfl, rfl, by simp [World.setCell], fun k hk hne => hg k hk (fun h => hne (by rw [h]))⟩⟩

set_option maxHeartbeats 1000000 in
set_option maxRecDepth 100000 in
theorem rd_num_calls (w : World) (q : Nat) (l : List UInt8) (e : Int) (h : Rd w q l e) :
    Calls Try.prog 74 #[.pointer (some ⟨q, 0, none⟩)] w fun r w' => r = .returned (.int .u64 ((VarPlain.next l e).1 : Int)) ∧ Rd w' q (VarPlain.next l e).2.1 (VarPlain.next l e).2.2 ∧ w.grownBy w' (some q) := by
  by_cases he : e = 0
  · subst he
    have HN : Hid (VarPlain.next l 0 = ((VarPlain.take l).1, l.drop (VarPlain.take l).2.1, (VarPlain.take l).2.2)) := rfl
    obtain ⟨a, n, cap, h1, h2⟩ := h
    have Herr := Lib.hid (rd_err_calls w q l 0 ⟨a, n, cap, h1, h2⟩)
    obtain ⟨c0, c1, f0, f1⟩ := Rd.cells h1
    have htake := var_take_calls w a n cap l h2
    have hml := VarPlain.take_le l
    generalize ht : VarPlain.take l = t at *
    obtain ⟨x, m, f⟩ := t
    simp only [] at hml HN
    have hmn : m ≤ n := by rw [h2.1]; exact hml
    obtain ⟨a', hB, hS⟩ := sub_bytes h2 m n hmn (Nat.le_refl _)
    have hl : l.take n = l := List.take_of_length_le (by rw [h2.1]; exact Nat.le_refl _)
    rw [hl] at hB
    have hsl := fun wx => (hS wx).2.2 rfl .i64
    have HR := Lib.hid (rd_set (f := f) h1 hB)
    have hcap := h2.2.2.1
    unfold maxLen at hcap
    have Htake := Lib.hid htake
    clear hS hl hB h1 h2 ht htake
    go_enter Try.func74, Try.ntmps74
    go_wp2_with fail
    refine Herr.out.mono ?_
    rintro r w' ⟨rfl, rfl⟩
    go_wp2_with fail
    refine Htake.out.mono ?_
    rintro r w' ⟨rfl, rfl⟩
    unfold takeV
    go_wp2_with fail
    go_ret
    exact ⟨by rw [HN.out]; rfl, by rw [HN.out]; exact HR.out.1, HR.out.2⟩
  · have HN : Hid (VarPlain.next l e = (0, l, e)) := by show _ = _; unfold VarPlain.next; rw [if_pos he]
    have hne : (e != 0) = true := by rw [bne_iff_ne]; exact he
    have H := Lib.hid h; clear h he
    go_enter Try.func74, Try.ntmps74
    go_wp2_with fail
    refine (rd_err_calls _ q l e H.out).mono ?_
    rintro r w' ⟨rfl, rfl⟩
    go_wp2_with fail
    go_ret
    exact ⟨by rw [HN.out]; rfl, by rw [HN.out]; exact H.out, World.grownBy.refl _ _⟩

set_option maxRecDepth 100000 in
theorem rd_int_calls (w : World) (q : Nat) (l : List UInt8) (e : Int) (h : Rd w q l e) :
    Calls Try.prog 67 #[.pointer (some ⟨q, 0, none⟩)] w fun r w' => r = .returned (.int .i64 (VarPlain.zag (VarPlain.next l e).1)) ∧ Rd w' q (VarPlain.next l e).2.1 (VarPlain.next l e).2.2 ∧ w.grownBy w' (some q) := by
  have hx : (VarPlain.next l e).1 < 18446744073709551616 := by
    unfold VarPlain.next
    split
    · simp
    · exact VarPlain.take_lt l
  have Hx := Lib.hid hx; clear hx
  have H := Lib.hid (rd_num_calls w q l e h); clear h
  go_enter Try.func67, Try.ntmps67
  go_wp2_with fail
  refine H.out.mono ?_
  rintro r w' ⟨rfl, hr, hg⟩
  have Hr := Lib.hid hr; clear hr
  have Hg := Lib.hid hg; clear hg
  go_wp2_with fail
  refine (var_zag_calls w' ((VarPlain.next l e).1 : Int) (by omega) (by have := Hx.out; omega)).mono ?_
  rintro r w'' ⟨rfl, rfl⟩
  rw [Int.toNat_natCast]
  go_wp2_with fail
  go_ret
  exact ⟨rfl, Hr.out, Hg.out⟩

set_option maxRecDepth 100000 in
theorem rd_nil_num_calls (w : World) : Calls Try.prog 74 #[.pointer none] w fun r w' => r = .returned (.int .u64 0) ∧ w = w' := by
  go_enter Try.func74, Try.ntmps74
  go_wp2_with fail
  refine (rd_nil_err_calls _).mono ?_
  rintro r w' ⟨rfl, rfl⟩
  go_wp2_with fail
  go_ret
  exact ⟨rfl, rfl⟩
set_option maxRecDepth 100000 in
theorem rd_nil_text_calls (w : World) : Calls Try.prog 72 #[.pointer none] w fun r w' => r = .returned (.string ⟨#[]⟩) ∧ w = w' := by
  go_enter Try.func72, Try.ntmps72
  go_wp2_with fail
  refine (rd_nil_num_calls _).mono ?_
  rintro r w' ⟨rfl, rfl⟩
  go_wp2_with fail
  refine (rd_nil_err_calls _).mono ?_
  rintro r w' ⟨rfl, rfl⟩
  go_wp2_with fail
  go_ret
  exact ⟨rfl, rfl⟩
theorem rd_set1 {w : World} {q : Nat} {a : Option Addr} {n cap : Nat} {l : List UInt8} {e f : Int} (h1 : w.heap[q]? = some (.cells #[.slice a n cap, .int .i64 e] 115)) (h2 : Bytes w a n cap l) :
    Rd (w.setCell ⟨q, 1, none⟩ (.int .i64 f)) q l f ∧ w.grownBy (w.setCell ⟨q, 1, none⟩ (.int .i64 f)) (some q) := by
  have e2 := heap_setCell_same w q 1 _ _ (.int .i64 f) h1
  have hg : ∀ k, k < w.heap.size → k ≠ q → (w.setCell ⟨q, 1, none⟩ (.int .i64 f)).heap[k]? = w.heap[k]? := fun k hk hne => Below.heap_setCell _ _ _ _ hne
  exact ⟨⟨a, n, cap, e2, bytes_other h1 h2 hg⟩, ⟨rfl, rfl, rfl, by simp [World.setCell], fun k hk hne => hg k hk (fun h => hne (by rw [h]))⟩⟩
theorem rd_set0 {w : World} {q : Nat} {a a' : Option Addr} {n cap n' cap' : Nat} {l' : List UInt8} {e : Int} (h1 : w.heap[q]? = some (.cells #[.slice a n cap, .int .i64 e] 115)) (h2 : Bytes w a' n' cap' l') :
    Rd (w.setCell ⟨q, 0, none⟩ (.slice a' n' cap')) q l' e ∧ w.grownBy (w.setCell ⟨q, 0, none⟩ (.slice a' n' cap')) (some q) := by
  have e2 := heap_setCell_same w q 0 _ _ (.slice a' n' cap') h1
  have hg : ∀ k, k < w.heap.size → k ≠ q → (w.setCell ⟨q, 0, none⟩ (.slice a' n' cap')).heap[k]? = w.heap[k]? := fun k hk hne => Below.heap_setCell _ _ _ _ hne
  exact ⟨⟨a', n', cap', e2, bytes_other h1 h2 hg⟩, ⟨rfl, rfl, rfl, by simp [World.setCell], fun k hk hne => hg k hk (fun h => hne (by rw [h]))⟩⟩
theorem grownBy_trans {a b c : World} {r : Option Nat} (h : a.grownBy b r) (k : b.grownBy c r) : a.grownBy c r :=
  ⟨k.os.trans h.os, k.tape.trans h.tape, k.output.trans h.output, Nat.le_trans h.size k.size, fun i hi hne => (k.block i (Nat.lt_of_lt_of_le hi h.size) hne).trans (h.block i hi hne)⟩

set_option maxHeartbeats 1000000 in
set_option maxRecDepth 100000 in
theorem rd_text_calls (w : World) (q : Nat) (l : List UInt8) (e : Int) (h : Rd w q l e) :
    Calls Try.prog 72 #[.pointer (some ⟨q, 0, none⟩)] w fun r w' => r = .returned (.string (str (VarPlain.word l e).1)) ∧ Rd w' q (VarPlain.word l e).2.1 (VarPlain.word l e).2.2 ∧ w.grownBy w' (some q) := by
  have hx : (VarPlain.next l e).1 < 18446744073709551616 := by
    unfold VarPlain.next
    split
    · simp
    · exact VarPlain.take_lt l
  have H := Lib.hid (rd_num_calls w q l e h); clear h
  have HW : Hid (VarPlain.word l e = if (VarPlain.next l e).2.2 ≠ 0 then ([], (VarPlain.next l e).2.1, (VarPlain.next l e).2.2) else if (VarPlain.next l e).2.1.length < (VarPlain.next l e).1 then ([], (VarPlain.next l e).2.1, 10) else ((VarPlain.next l e).2.1.take (VarPlain.next l e).1, (VarPlain.next l e).2.1.drop (VarPlain.next l e).1, 0)) := rfl
  generalize VarPlain.next l e = t at *
  obtain ⟨x, l1, f⟩ := t
  simp only [] at hx HW H
  have Hx := Lib.hid hx; clear hx
  by_cases hf : f = 0
  · subst hf
    have hw := HW.out
    rw [if_neg (by simp)] at hw
    go_enter Try.func72, Try.ntmps72
    go_wp2_with fail
    refine H.out.mono ?_
    rintro r w1 ⟨rfl, hr1, hg1⟩
    have Hg1 := Lib.hid hg1; clear hg1
    have Herr := Lib.hid (rd_err_calls w1 q l1 0 hr1)
    obtain ⟨a, n, cap, h1, h2⟩ := hr1
    obtain ⟨c0, c1, f0, f1⟩ := Rd.cells h1
    have hcap := h2.2.2.1
    have hnc := h2.2.1
    have hnl := h2.1
    unfold maxLen at hcap
    by_cases hlong : l1.length < x
    · rw [if_pos hlong] at hw
      have Hw := Lib.hid hw; clear hw
      have HR := Lib.hid (rd_set1 (f := 10) h1 h2)
      have hnx : n < x := by rw [hnl]; exact hlong
      clear h1 h2 hnl hlong
      go_wp2_with fail
      refine Herr.out.mono ?_
      rintro r w' ⟨rfl, rfl⟩
      go_wp2_with fail
      go_ret
      exact ⟨by rw [Hw.out]; rfl, by rw [Hw.out]; exact HR.out.1, grownBy_trans Hg1.out HR.out.2⟩
    · rw [if_neg hlong] at hw
      have Hw := Lib.hid hw; clear hw
      have hxn : x ≤ n := by rw [hnl]; omega
      obtain ⟨a1, hB1, hS1⟩ := sub_bytes h2 0 x (Nat.zero_le _) hxn
      obtain ⟨a2, hB2, hS2⟩ := sub_bytes h2 x n hxn (Nat.le_refl _)
      have hl : l1.take n = l1 := List.take_of_length_le (by rw [hnl]; exact Nat.le_refl _)
      rw [List.drop_zero] at hB1
      rw [hl] at hB2
      have hsl1 := fun wx => (hS1 wx).2.1 rfl .u64
      have hsl2 := fun wx => (hS2 wx).2.2 rfl .u64
      have hstr := str_bytes hB1
      simp only [Nat.sub_zero] at hsl1 hstr
      have HR := Lib.hid (rd_set0 h1 hB2)
      clear h1 h2 hnl hlong hS1 hS2 hB1 hB2 hl
      go_wp2_with fail
      refine Herr.out.mono ?_
      rintro r w' ⟨rfl, rfl⟩
      go_wp2_with fail
      go_ret
      exact ⟨by rw [Hw.out]; rfl, by rw [Hw.out]; exact HR.out.1, grownBy_trans Hg1.out HR.out.2⟩
  · have hw := HW.out
    rw [if_pos hf] at hw
    have Hw := Lib.hid hw; clear hw
    have hne : (f != 0) = true := by rw [bne_iff_ne]; exact hf
    clear hf
    go_enter Try.func72, Try.ntmps72
    go_wp2_with fail
    refine H.out.mono ?_
    rintro r w1 ⟨rfl, hr1, hg1⟩
    have Hg1 := Lib.hid hg1; clear hg1
    have Hr1 := Lib.hid hr1; clear hr1
    go_wp2_with fail
    refine (rd_err_calls w1 q l1 f Hr1.out).mono ?_
    rintro r w' ⟨rfl, rfl⟩
    go_wp2_with fail
    go_ret
    exact ⟨by rw [Hw.out]; rfl, by rw [Hw.out]; exact Hr1.out, Hg1.out⟩

end Go.Proofs.Ytmhofdoifgfjfaa

/-! VarTexts -/
set_option linter.unusedVariables false
namespace Go.Proofs.Ytmhofdoifgfjfaa
open Go.RowKit Base

theorem own_empty (w : World) (B : Nat) (hB : B ≤ w.heap.size) : (w.alloc (.cells #[] 5)).ownsRow B 5 1 (.slice (some ⟨w.heap.size, 0, none⟩) 0 0) 0 (([] : List UInt8).map bv) :=
  World.ownsRow_made w #[] 0 hB (Nat.zero_le _) rfl

theorem run_eql_slice_nil_any {P : Program} (w : World) (t e : TypeId) (a : Option Addr) (n c n' c' : Nat) (h : P.underlying t = some (.slice e)) :
    (binOp .eql t (.slice a n c) (.slice none n' c')).run P w = .ok (.bool a.isNone) w := by
  simp only [binOp]
  simp [Op.equal, Op.maxDepth, Lib.run_equalIn_slice_nil w 9999 t e a n c n' c' h]

set_option maxRecDepth 100000 in
theorem clone_calls (w : World) (a : Option Addr) (n cap : Nat) (l : List UInt8) (h : Bytes w a n cap l) (hs : n ≤ 1000000000) :
    Calls Try.prog 51 #[.slice a n cap] w fun e w' => ∃ v, e = .returned v ∧ w'.ownsRow w.heap.size 5 1 v n (l.map bv) ∧ Below w.heap.size w w' := by
  obtain ⟨i0, hi, hz0, hz1, hz2⟩ := info_parts info_u8
  have hbw := (Below.refl w.heap.size w).alloc (Nat.le_refl _) (.cells #[] 5)
  have hB2 := h.below stable_byteAt hbw
  have hown := own_empty w w.heap.size (Nat.le_refl _)
  have hbb : w.heap.size ≤ w.heap.size := Nat.le_refl _
  generalize hB : w.heap.size = B at hbw hbb hown ⊢
  have HB := Lib.hid hB; clear hB
  rw [← HB.out] at hown
  cases a with
  | none =>
    obtain ⟨h1, h2, h3, b, off, h4, h5⟩ := h
    have hn : n = 0 := by
      rcases h4 with h | h
      · exact h
      · cases h
    subst hn
    have hl : l = [] := List.eq_nil_of_length_eq_zero h1.symm
    subst hl
    have heq : ∀ w : World, (binOp .eql 64 (.slice none 0 cap) (.slice none 0 0)).run Try.prog w = .ok (.bool true) w := fun w => run_eql_slice_nil_any w 64 5 none 0 cap 0 0 Try.underlying64
    clear hown hB2 hbw h1 h2 h3 h4 h5
    go_enter Try.func51, Try.ntmps51
    go_wp2_with fail
    go_ret
    exact ⟨_, rfl, World.ownsRow_nil _ _ _ _, Below.refl _ _⟩
  | some ad =>
    have hcap := h.2.2.1
    unfold maxLen at hcap
    have heq : ∀ w : World, (binOp .eql 64 (.slice (some ad) n cap) (.slice none 0 0)).run Try.prog w = .ok (.bool false) w := fun w => run_eql_slice_nil_any w 64 5 (some ad) n cap 0 0 Try.underlying64
    clear h
    go_enter Try.func51, Try.ntmps51
    go_wp2_with (at_builtin; refine wpList_append_src rfl (.tmp 5) (.tmp 6) 64 64 rfl B 5 i0 (.int .u8 0) 1 1 Try.underlying64 (append_side Try.underlying64) hi hz0 hz1 hz2 rfl (by decide) (by decide) _ 0 _ rfl (by rw [HB.out] at hown; rw [← HB.out]; rw [← HB.out] at hown; exact hown) _ n _ rfl (src_bytes hB2) ?_ ?_ ?_ ?_)
    case _ => unfold maxLen; omega
    case _ => omega
    case _ => rw [← HB.out]; simp
    intro v1 w1 hown1 hg1 _
    have hb1 : Below B w w1 := hbw.grown hg1 (by rw [← HB.out]; simp) (fun j hj => by simp [Value.ownBlock] at hj; have := HB.out; omega)
    have hown2 : w1.ownsRow B 5 1 v1 n (l.map bv) := by simpa using hown1
    clear hown1 hg1
    go_wp2_with fail
    go_ret
    exact ⟨_, rfl, hown2, hb1⟩

set_option maxRecDepth 100000 in
theorem open_calls (w : World) (a : Option Addr) (n cap : Nat) (l : List UInt8) (h : Bytes w a n cap l) (hs : n ≤ 1000000000) :
    Calls Try.prog 31 #[.slice a n cap] w fun e w' => ∃ q, e = .returned (.pointer (some ⟨q, 0, none⟩)) ∧ w.heap.size ≤ q ∧ q < w'.heap.size ∧ Rd w' q l 0 ∧ Below w.heap.size w w' := by
  have H := Lib.hid (clone_calls w a n cap l h hs); clear h
  go_enter Try.func31, Try.ntmps31
  go_wp2_with fail
  refine H.out.mono ?_
  rintro e w1 ⟨v, rfl, hown, hb⟩
  obtain ⟨av, cv, rfl, hrow⟩ := ownsRow_bytes hown
  clear hown
  have Hrow := Lib.hid hrow; clear hrow
  have hs1 := hb.size
  go_wp2_with fail
  go_ret
  refine ⟨_, rfl, hs1, by simp, ⟨av, n, cv, heap_alloc_new w1 _, Hrow.out.below stable_byteAt ((Below.refl _ _).alloc (Nat.le_refl _) _)⟩, hb.alloc hs1 _⟩

end Go.Proofs.Ytmhofdoifgfjfaa

/-! VarTexts2 -/
set_option linter.unusedVariables false
namespace Go.Proofs.Ytmhofdoifgfjfaa
open Go.RowKit Base

/-- Texts as bytes. -/
def texts (l : List (List UInt8)) : List UInt8 := l.flatMap fun s => VarPlain.num s.length ++ s
theorem texts_snoc (l : List (List UInt8)) (s : List UInt8) : texts (l ++ [s]) = texts l ++ VarPlain.num s.length ++ s := by simp [texts]
theorem texts_take_le (l : List (List UInt8)) (k : Nat) : (texts (l.take k)).length ≤ (texts l).length := by
  conv => rhs; rw [← List.take_append_drop k l]
  simp only [texts, List.flatMap_append, List.length_append]
  omega

def strAt (w : World) (b o : Nat) (s : List UInt8) : Prop := w.cell? ⟨b, o, none⟩ = some (.string (str s))
theorem stable_strAt : Stable strAt := fun w w' b o x hb h => cell_below hb (Nat.le_refl _) h
abbrev Strs := RowOf strAt 1
theorem info_str : (Try.prog.info? 9).map (fun i => (i.zero, i.size, i.bytes)) = some (some (.string ⟨#[]⟩), 1, 16) := by kernel_rfl
theorem at_strs {w : World} {a : Option Addr} {n cap : Nat} {l : List (List UInt8)} (h : Strs w a n cap l) : ∃ b off, (∀ k (hk : k < l.length), w.cell? ⟨b, off + k, none⟩ = some (.string (str l[k]))) ∧
    ∀ (kd : IntKind) (k : Nat) (w' : World), k < n → (Instr.indexAt 27 (.slice a n cap) (.int kd (k : Int))).run Try.prog w' = .ok (.pointer (some ⟨b, off + k, none⟩)) w' := by
  obtain ⟨i, hi, _, hs, _⟩ := info_parts info_str
  obtain ⟨b, off, h1, h2⟩ := h.at (P := Try.prog)
  exact ⟨b, off, fun k hk => by simpa [strAt] using h1 k hk, fun kd k w' hk => by simpa using h2 27 9 i Try.underlying27 hi hs kd k w' hk⟩

theorem u64_one (w : World) (x : Nat) (e : TypeId) : U64s (w.alloc (.cells #[.int .u64 (x : Int)] e)) (some ⟨w.heap.size, 0, none⟩) 1 1 [x] := by
  refine ⟨rfl, Nat.le_refl _, by decide, w.heap.size, 0, .inr rfl, fun k hk => ?_⟩
  have hk0 : k = 0 := by simpa using hk
  subst hk0
  have hh : (w.alloc (.cells #[.int .u64 (x : Int)] e)).heap[w.heap.size]? = some (.cells #[.int .u64 (x : Int)] e) := heap_alloc_new w _
  unfold u64At World.cell?
  simp only [hh]
  rfl
theorem nums_one (x : Nat) : VarPlain.nums [x] = VarPlain.num x := by simp [VarPlain.nums]
theorem append_side_str : ∃ d, Try.prog.underlying 9 = some d ∧ ∀ k, d ≠ .int k := ⟨_, Try.underlying9, fun k => by simp⟩

set_option maxHeartbeats 2000000 in
set_option maxRecDepth 100000 in
theorem var_texts_calls (w : World) (a : Option Addr) (n cap : Nat) (l : List (List UInt8)) (h : Strs w a n cap l) (hs : n ≤ 1000000) (ht : (texts l).length ≤ 1000000000) :
    Calls Try.prog 71 #[.slice a n cap] w fun e w' => ∃ v, e = .returned v ∧ w'.ownsRow w.heap.size 5 1 v (texts l).length ((texts l).map bv) ∧ Below w.heap.size w w' := by
  obtain ⟨i0, hi, hz0, hz1, hz2⟩ := info_parts info_u8
  obtain ⟨b, off, hrow, hidx⟩ := at_strs h
  have hn := h.1
  have hcl : ∀ wx, Below w.heap.size w wx → ∀ k (hk : k < l.length), wx.cell? ⟨b, off + k, none⟩ = some (.string (str l[k])) := fun wx hx k hk => cell_below hx (Nat.le_refl _) (hrow k hk)
  generalize hB : w.heap.size = B at *
  have HB := Lib.hid hB; clear hB
  have hbb : B ≤ w.heap.size := by rw [HB.out]; exact Nat.le_refl _
  have Hidx := Lib.hid hidx; clear hidx
  have Hrow := Lib.hid hcl; clear hcl hrow
  have Hn := Lib.hid hn; clear hn h
  have HT := Lib.hid ht; clear ht
  go_enter Try.func71, Try.ntmps71
  go_wp2_with fail
  go_loopw [3, 8] (fun v i wr => ∃ k : Nat, k ≤ n ∧ i = .int .i64 k ∧ wr.ownsRow B 5 1 v (texts (l.take k)).length ((texts (l.take k)).map bv) ∧ Below B w wr ∧ B ≤ wr.heap.size) (fun _ i _ => n - (intOf i).toNat)
  case atStart => exact ⟨0, Nat.zero_le _, rfl, World.ownsRow_nil _ _ _ _, Below.refl _ _, hbb⟩
  case round =>
    obtain ⟨k, hk, rfl, hown, hbel, hBs⟩ := hrel
    by_cases hlt : k < n
    · have hkl : k < l.length := by rw [← Hn.out]; exact hlt
      have hc := Hrow.out wr hbel k hkl
      have hix := Hidx.out .i64 k wr hlt
      have hsn : texts (l.take (k + 1)) = texts (l.take k) ++ VarPlain.num l[k].length ++ l[k] := by
        rw [List.take_succ_eq_append_getElem hkl, texts_snoc]
      have hle := Nat.le_trans (texts_take_le l (k + 1)) HT.out
      rw [hsn] at hle
      simp only [List.length_append] at hle
      have Hsn := Lib.hid hsn; clear hsn
      generalize l[k]'hkl = s at *
      generalize texts (l.take k) = pre at *
      have hssz : (str s).size = s.length := rfl
      have hsl : s.length ≤ 1000000000 := by omega
      have hpl : pre.length ≤ 1000000000 := by omega
      have Hle := Lib.hid hle; clear hle
      have hm64 : Lt64 s.length := by unfold Lt64; omega
      obtain ⟨av, cv, rfl, _, _, _, _⟩ := ownsRow_slice hown
      have Hput := Lib.hid (var_put_calls (wr.alloc (.cells #[.int .u64 ((s.length : Nat) : Int)] 147)) (some ⟨wr.heap.size, 0, none⟩) 1 1 [s.length] (u64_one wr s.length 147) (by intro x hx; simp at hx; subst hx; exact hm64) (by decide))
      go_wp2_with fail
      refine Hput.out.mono ?_
      rintro e w1 ⟨v1, rfl, hown1, hb1⟩
      obtain ⟨a1, c1, rfl, hrow1⟩ := ownsRow_bytes hown1
      have hbA := hbel.alloc hBs (.cells #[.int .u64 ((s.length : Nat) : Int)] 147)
      have hownA := ownsRow_below (hown.alloc (.cells #[.int .u64 ((s.length : Nat) : Int)] 147)) hb1
      have hsA : B ≤ (wr.alloc (.cells #[.int .u64 ((s.length : Nat) : Int)] 147)).heap.size := by simp; omega
      have hb1' := hbA.trans (hb1.mono hsA)
      have hs1 : B ≤ w1.heap.size := Nat.le_trans hsA hb1.size
      rw [nums_one] at hrow1
      simp only [nums_one]
      have hnl := num_len s.length hm64
      have Hnl : Hid ((str s).data.toList = s) := str_data s
      generalize VarPlain.num s.length = nb at *
      clear hbA hsA hb1 hown1 hown hbel hBs hc hix Hput
      go_wp2_with (at_builtin; refine wpList_append_src rfl (.tmp 12) (.tmp 17) 64 64 rfl B 5 i0 (.int .u8 0) 1 1 Try.underlying64 (append_side Try.underlying64) hi hz0 hz1 hz2 rfl (by decide) (by decide) _ pre.length _ rfl hownA _ nb.length _ rfl (src_bytes hrow1) ?_ ?_ ?_ ?_)
      case _ => unfold maxLen; omega
      case _ => omega
      case _ => omega
      intro v2 w2 hown2 hg2 _
      have hb2 : Below B w w2 := hb1'.grown hg2 (by omega) (fun j hj => (hownA.lt j hj).1)
      have hs2 : B ≤ w2.heap.size := Nat.le_trans hs1 hg2.size
      clear hg2 hownA hb1' hs1 hrow1
      obtain ⟨av2, cv2, rfl, _, _, _, _⟩ := ownsRow_slice hown2
      have Hsrc := Lib.hid (src_string (P := Try.prog) (w := w2) (str s))
      go_wp2_with (at_builtin; refine wpList_append_src rfl (.tmp 18) (.tmp 19) 64 9 rfl B 5 i0 (.int .u8 0) 1 1 Try.underlying64 append_side_str hi hz0 hz1 hz2 rfl (by decide) (by decide) _ (pre.length + nb.length) _ rfl hown2 _ (str s).size _ rfl Hsrc.out ?_ ?_ ?_ ?_)
      case _ => unfold maxLen; omega
      case _ => omega
      case _ => omega
      intro v3 w3 hown3 hg3 _
      have hb3 : Below B w w3 := hb2.grown hg3 (by omega) (fun j hj => (hown2.lt j hj).1)
      have hs3 : B ≤ w3.heap.size := Nat.le_trans hs2 hg3.size
      have hown4 : w3.ownsRow B 5 1 v3 (texts (l.take (k + 1))).length ((texts (l.take (k + 1))).map bv) := by
        rw [Hsn.out]
        have e : (pre ++ nb ++ s).length = pre.length + nb.length + s.length := by simp [Nat.add_assoc]
        rw [e, List.map_append, List.map_append]
        simpa [hssz, str_data] using hown3
      clear hown3 hg3 hown2 hb2 hs2 Hsrc
      go_wp2_with fail
      go_roundw
      case rel => exact ⟨k + 1, by omega, by go_num, hown4, hb3, hs3⟩
      case measure => simp [intOf]; omega
    · obtain rfl : k = n := by omega
      have ht : l.take k = l := List.take_of_length_le (by rw [← Hn.out]; exact Nat.le_refl _)
      rw [ht] at hown
      clear ht
      go_wp2_with fail
      go_ret
      exact ⟨_, rfl, hown, hbel⟩

end Go.Proofs.Ytmhofdoifgfjfaa

/-! VarPlain2 -/
set_option linter.unusedVariables false
namespace Go.Proofs.Ytmhofdoifgfjfaa
open Go.RowKit Base

theorem num_form : ∀ x : Nat, ∃ (p : List UInt8) (c : UInt8), VarPlain.num x = p ++ [c] ∧ (∀ d ∈ p, 128 ≤ d.toNat) ∧ c.toNat < 128 ∧ (x ≠ 0 → c.toNat ≠ 0) ∧ VarPlain.val (p ++ [c]) = x ∧ (p ≠ [] → x ≠ 0) := by
  intro x
  induction x using Nat.strongRecOn with
  | ind x ih =>
    by_cases h : x < 128
    · refine ⟨[], UInt8.ofNat x, VarPlain.num_small h, by simp, ?_, ?_, ?_, by simp⟩
      · simp; omega
      · intro h0; simp; omega
      · simp [VarPlain.val]; omega
    · obtain ⟨p, c, h1, h2, h3, h4, h5, h6⟩ := ih (x / 128) (by omega)
      refine ⟨UInt8.ofNat (128 + x % 128) :: p, c, ?_, ?_, h3, fun _ => h4 (by omega), ?_, fun _ => by omega⟩
      · rw [VarPlain.num_big (by omega), h1]; rfl
      · intro d hd
        rcases List.mem_cons.1 hd with rfl | hd
        · simp; omega
        · exact h2 d hd
      · rw [List.cons_append, VarPlain.val, h5]
        simp
        omega

theorem num_of_form : ∀ (p : List UInt8) (c : UInt8), (∀ d ∈ p, 128 ≤ d.toNat) → c.toNat < 128 → (p ≠ [] → c.toNat ≠ 0) → VarPlain.num (VarPlain.val (p ++ [c])) = p ++ [c] := by
  intro p
  induction p with
  | nil =>
    intro c _ hc _
    have e : VarPlain.val ([] ++ [c]) = c.toNat := by simp [VarPlain.val]; omega
    rw [e, VarPlain.num_small hc]
    simp
  | cons d p ih =>
    intro c hp hc h0
    have hc0 := h0 (by simp)
    have ih' := ih c (fun d hd => hp d (by simp [hd])) hc (fun _ => hc0)
    have hd := hp d (by simp)
    have hpos : 1 ≤ VarPlain.val (p ++ [c]) := by
      rw [VarPlain.val_append]
      have h1 : VarPlain.val [c] = c.toNat := by simp [VarPlain.val]; omega
      rw [h1]
      have h2 : 1 ≤ 128 ^ p.length * c.toNat := Nat.mul_pos (Nat.pow_pos (by decide)) (by omega)
      omega
    have hdl := d.toNat_lt
    rw [List.cons_append, VarPlain.val, VarPlain.num_big (by omega)]
    have e1 : (d.toNat % 128 + 128 * VarPlain.val (p ++ [c])) % 128 = d.toNat % 128 := by omega
    have e2 : (d.toNat % 128 + 128 * VarPlain.val (p ++ [c])) / 128 = VarPlain.val (p ++ [c]) := by omega
    rw [e1, e2, ih']
    congr 1
    apply UInt8.toNat_inj.1
    simp
    omega

theorem form_at {p : List UInt8} {c : UInt8} {r : List UInt8} (h : ∀ d ∈ p, 128 ≤ d.toNat) : ∀ j, j < p.length → ∀ hj : j < (p ++ c :: r).length, 128 ≤ (p ++ c :: r)[j].toNat := by
  intro j hj hjl
  rw [List.getElem_append_left hj]
  exact h _ (List.getElem_mem hj)

theorem take_form {p : List UInt8} {c : UInt8} (r : List UInt8) (hp : ∀ d ∈ p, 128 ≤ d.toNat) (hc : c.toNat < 128) (h0 : p ≠ [] → c.toNat ≠ 0) (h9 : p.length ≤ 9) (hl : p.length = 9 → c.toNat ≤ 1) :
    VarPlain.take (p ++ c :: r) = (VarPlain.val (p ++ [c]), p.length + 1, 0) := by
  have hk : p.length < (p ++ c :: r).length := by simp
  have e : (p ++ c :: r)[p.length] = c := by simp
  rw [take_at (form_at hp) hk h9 (by rw [e]; exact hc), e, if_neg]
  · congr 1
    rw [List.take_append, List.take_of_length_le (show p.length ≤ p.length + 1 by omega)]
    simp
  · rintro (⟨h1, h2⟩ | ⟨h1, h2⟩)
    · exact h0 (by intro hn; subst hn; simp at h1) h2
    · have := hl h1; omega

theorem num_len_form (x : Nat) (hx : Lt64 x) : ∃ (p : List UInt8) (c : UInt8), VarPlain.num x = p ++ [c] ∧ (∀ d ∈ p, 128 ≤ d.toNat) ∧ c.toNat < 128 ∧ (p ≠ [] → c.toNat ≠ 0) ∧ VarPlain.val (p ++ [c]) = x ∧ p.length ≤ 9 ∧ (p.length = 9 → c.toNat ≤ 1) := by
  obtain ⟨p, c, h1, h2, h3, h4, h5, h6⟩ := num_form x
  have h7 := num_len x hx
  rw [h1] at h7
  have h7' : p.length ≤ 9 := by simpa using h7
  refine ⟨p, c, h1, h2, h3, fun hp => h4 (h6 hp), h5, h7', fun h9 => ?_⟩
  rcases Nat.lt_or_ge c.toNat 2 with h | h
  · omega
  · exfalso
    have h8 := VarPlain.val_append p [c]
    rw [h5, h9] at h8
    have h10 : VarPlain.val [c] = c.toNat := by simp [VarPlain.val]; omega
    rw [h10] at h8
    unfold Lt64 at hx
    have h11 : 128 ^ 9 * 2 ≤ 128 ^ 9 * c.toNat := Nat.mul_le_mul_left _ h
    have h12 : (128 : Nat) ^ 9 * 2 = 18446744073709551616 := by decide
    omega

/-- What is put is taken, whatever stands behind. -/
theorem take_num (x : Nat) (hx : Lt64 x) (r : List UInt8) : VarPlain.take (VarPlain.num x ++ r) = (x, (VarPlain.num x).length, 0) := by
  obtain ⟨p, c, h1, h2, h3, h4, h5, h6, h7⟩ := num_len_form x hx
  rw [h1, List.append_assoc, List.singleton_append, take_form r h2 h3 h4 h6 h7, h5]
  simp
/-- Cut it is short. -/
theorem take_cut (x : Nat) (hx : Lt64 x) (k : Nat) (hk : k < (VarPlain.num x).length) : VarPlain.take ((VarPlain.num x).take k) = (0, 0, 10) := by
  obtain ⟨p, c, h1, h2, h3, h4, h5, h6, h7⟩ := num_len_form x hx
  rw [h1] at hk ⊢
  have hk' : k ≤ p.length := by simp at hk; omega
  have e : (p ++ [c]).take k = p.take k := by rw [List.take_append_of_le_length hk']
  have hl : (p.take k).length = k := by rw [List.length_take]; omega
  rw [e, take_end (m := k) ?_ (by omega) (by omega) (.inl hl.symm), if_neg (by omega)]
  intro j hj hjl
  rw [List.getElem_take]
  exact h2 _ (List.getElem_mem _)
/-- What is taken is what its number is put as. -/
theorem take_ok {b : List UInt8} (h : (VarPlain.take b).2.2 = 0) : VarPlain.num (VarPlain.take b).1 = b.take (VarPlain.take b).2.1 ∧ 1 ≤ (VarPlain.take b).2.1 ∧ (VarPlain.take b).2.1 ≤ 10 := by
  have hle := VarPlain.lead_le b
  have hend := @VarPlain.lead_end b
  have hat := @VarPlain.lead_at b
  unfold VarPlain.take at h ⊢
  simp only [] at h ⊢
  split at h
  · simp at h
  · rename_i h10
    rw [if_neg h10]
    split at h
    · simp at h
    · rename_i hlen
      rw [if_neg hlen]
      split at h
      · simp at h
      · rename_i hbad
        rw [if_neg hbad]
        generalize hn : min (VarPlain.lead b) 10 = n at *
        have hnb : n < b.length := by omega
        have hne : n = VarPlain.lead b := by omega
        subst hne
        have e2 : b.getD (VarPlain.lead b) 0 = b[VarPlain.lead b] := by simp [List.getD, List.getElem?_eq_getElem hnb]
        rw [e2] at hbad
        simp only []
        refine ⟨?_, by omega, by omega⟩
        rw [List.take_succ_eq_append_getElem hnb]
        refine num_of_form _ _ ?_ (hend hnb) ?_
        · intro d hd
          obtain ⟨j, hj, rfl⟩ := List.getElem_of_mem hd
          have hj' : j < VarPlain.lead b := by rw [List.length_take] at hj; omega
          rw [List.getElem_take]
          exact hat hj' (by omega)
        · intro hp h0
          refine hbad (.inl ⟨?_, h0⟩)
          rcases Nat.eq_zero_or_pos (VarPlain.lead b) with h | h
          · rw [h] at hp; simp at hp
          · exact h
theorem take_bad {b : List UInt8} (h : (VarPlain.take b).2.2 ≠ 0) : (VarPlain.take b).1 = 0 ∧ (VarPlain.take b).2.1 = 0 := by
  unfold VarPlain.take at h ⊢
  simp only [] at h ⊢
  split
  · simp
  · rename_i h10
    rw [if_neg h10] at h
    split
    · simp
    · rename_i hlen
      rw [if_neg hlen] at h
      split
      · simp
      · rename_i hbad
        rw [if_neg hbad] at h
        simp at h

theorem next_num (x : Nat) (hx : Lt64 x) (r : List UInt8) : VarPlain.next (VarPlain.num x ++ r) 0 = (x, r, 0) := by
  unfold VarPlain.next
  rw [if_neg (by simp), take_num x hx r]
  simp
theorem word_text (s : List UInt8) (hs : Lt64 s.length) (r : List UInt8) : VarPlain.word (VarPlain.num s.length ++ s ++ r) 0 = (s, r, 0) := by
  unfold VarPlain.word
  rw [List.append_assoc, next_num _ hs]
  simp

/-- What is left of bytes that were cut: the error is told already, or it is to come. -/
def Cutt (full l : List UInt8) (e : Int) : Prop := e = 10 ∨ (e = 0 ∧ ∃ m, m < full.length ∧ l = full.take m)
theorem cutt_num {x : Nat} (hx : Lt64 x) {r l : List UInt8} {e : Int} (h : Cutt (VarPlain.num x ++ r) l e) : Cutt r (VarPlain.next l e).2.1 (VarPlain.next l e).2.2 := by
  rcases h with rfl | ⟨rfl, m, hm, rfl⟩
  · left; unfold VarPlain.next; rw [if_pos (by decide)]
  · by_cases hk : m < (VarPlain.num x).length
    · left
      unfold VarPlain.next
      rw [List.take_append_of_le_length (by omega), take_cut x hx m hk]
      simp
    · right
      have e : (VarPlain.num x ++ r).take m = VarPlain.num x ++ r.take (m - (VarPlain.num x).length) := by
        rw [List.take_append, List.take_of_length_le (by omega)]
      rw [e, next_num x hx]
      refine ⟨rfl, m - (VarPlain.num x).length, ?_, rfl⟩
      rw [List.length_append] at hm
      omega
theorem cutt_text {s : List UInt8} (hs : Lt64 s.length) {r l : List UInt8} {e : Int} (h : Cutt (VarPlain.num s.length ++ s ++ r) l e) : Cutt r (VarPlain.word l e).2.1 (VarPlain.word l e).2.2 := by
  rw [List.append_assoc] at h
  have h1 := cutt_num hs h
  unfold VarPlain.word
  rcases h1 with h1 | ⟨h1, m, hm, h2⟩
  · left; rw [h1]; simp
  · rw [h1, h2, if_neg (by simp)]
    have hx : (VarPlain.next l e).1 = s.length := by
      rcases h with rfl | ⟨rfl, m', hm', rfl⟩
      · unfold VarPlain.next at h1; simp at h1
      · by_cases hk : m' < (VarPlain.num s.length).length
        · unfold VarPlain.next at h1
          rw [List.take_append_of_le_length (by omega), take_cut _ hs m' hk] at h1
          simp at h1
        · have e : (VarPlain.num s.length ++ (s ++ r)).take m' = VarPlain.num s.length ++ (s ++ r).take (m' - (VarPlain.num s.length).length) := by
            rw [List.take_append, List.take_of_length_le (by omega)]
          rw [e, next_num _ hs]
    rw [hx]
    by_cases hlt : ((s ++ r).take m).length < s.length
    · rw [if_pos hlt]; left; rfl
    · rw [if_neg hlt]
      right
      have hml : s.length ≤ m := by rw [List.length_take] at hlt; omega
      refine ⟨rfl, m - s.length, ?_, ?_⟩
      · rw [List.length_append] at hm; omega
      · simp only []
        rw [List.take_append, List.take_of_length_le hml]
        simp
theorem cutt_nil {l : List UInt8} {e : Int} (h : Cutt [] l e) : e = 10 := by
  rcases h with h | ⟨_, m, hm, _⟩
  · exact h
  · simp at hm

end Go.Proofs.Ytmhofdoifgfjfaa

/-! VarReader3 -/
set_option linter.unusedVariables false
namespace Go.Proofs.Ytmhofdoifgfjfaa
open Go.RowKit Base

/-- A reader whose bytes, if there are any, lie in a block of S. -/
def RdIn (S : Nat → Prop) (w : World) (q : Nat) (l : List UInt8) (e : Int) : Prop := ∃ a n cap, w.heap[q]? = some (.cells #[.slice a n cap, .int .i64 e] 115) ∧ Bytes w a n cap l ∧ (n = 0 ∨ ∀ ad, a = some ad → S ad.block)
theorem RdIn.toRd {S : Nat → Prop} {w : World} {q : Nat} {l : List UInt8} {e : Int} (h : RdIn S w q l e) : Rd w q l e := by
  obtain ⟨a, n, cap, h1, h2, _⟩ := h
  exact ⟨a, n, cap, h1, h2⟩
theorem Rd.toIn {w : World} {q : Nat} {l : List UInt8} {e : Int} (h : Rd w q l e) : RdIn (fun b => b < w.heap.size) w q l e := by
  obtain ⟨a, n, cap, h1, h2⟩ := h
  refine ⟨a, n, cap, h1, h2, ?_⟩
  obtain ⟨g1, g2, g3, b, off, g4, g5⟩ := h2
  rcases g4 with g4 | g4
  · exact .inl g4
  · rcases Nat.eq_zero_or_pos n with h0 | h0
    · exact .inl h0
    · right
      intro ad had
      rw [g4] at had
      simp at had
      subst had
      have := g5 0 (by omega)
      unfold byteAt at this
      exact World.block_lt_of_cell? w _ this
/-- Where nothing below B turns, a reader below B whose bytes lie below B stays. -/
theorem RdIn.stays {B : Nat} {w w' : World} {q : Nat} {l : List UInt8} {e : Int} (h : RdIn (fun b => b < B) w q l e) (hb : Below B w w') (hq : q < B) : RdIn (fun b => b < B) w' q l e := by
  obtain ⟨a, n, cap, h1, h2, h3⟩ := h
  refine ⟨a, n, cap, by rw [hb.block q hq]; exact h1, ?_, h3⟩
  obtain ⟨g1, g2, g3, b, off, g4, g5⟩ := h2
  refine ⟨g1, g2, g3, b, off, g4, fun k hk => ?_⟩
  rcases h3 with h3 | h3
  · omega
  · rcases g4 with g4 | g4
    · omega
    · have := h3 _ g4
      have g6 := g5 k hk
      unfold byteAt at g6 ⊢
      rw [World.cell?_of_block (hb.block b this)]
      exact g6
theorem in_sub {S : Nat → Prop} {a a' : Option Addr} {n m : Nat} (h : n = 0 ∨ ∀ ad, a = some ad → S ad.block) (hA : ∀ ad', a' = some ad' → ∃ ad, a = some ad ∧ ad.block = ad'.block) : n - m = 0 ∨ ∀ ad, a' = some ad → S ad.block := by
  rcases h with h | h
  · exact .inl (by omega)
  · refine .inr fun ad' had' => ?_
    obtain ⟨ad, had, e⟩ := hA ad' had'
    rw [← e]; exact h ad had
theorem sub_bytes2 {w : World} {a : Option Addr} {n cap : Nat} {l : List UInt8} (h : Bytes w a n cap l) (lo hi : Nat) (hlo : lo ≤ hi) (hhi : hi ≤ n) :
    ∃ a' : Option Addr, Bytes w a' (hi - lo) (cap - lo) ((l.take hi).drop lo) ∧ (∀ ad', a' = some ad' → ∃ ad, a = some ad ∧ ad.block = ad'.block) ∧ ∀ w' : World,
        (∀ (k1 k2 : IntKind), (Instr.slice 64 (.slice a n cap) (some (.int k1 (lo : Int))) (some (.int k2 (hi : Int))) none).run Try.prog w' = .ok (.slice a' (hi - lo) (cap - lo)) w') ∧
        (lo = 0 → ∀ (k2 : IntKind), (Instr.slice 64 (.slice a n cap) none (some (.int k2 (hi : Int))) none).run Try.prog w' = .ok (.slice a' (hi - lo) (cap - lo)) w') ∧
        (hi = n → ∀ (k1 : IntKind), (Instr.slice 64 (.slice a n cap) (some (.int k1 (lo : Int))) none none).run Try.prog w' = .ok (.slice a' (hi - lo) (cap - lo)) w') := by
  obtain ⟨a', h1, h2⟩ := sub_bytes h lo hi hlo hhi
  refine ⟨a', h1, ?_, h2⟩
  have hr := (h2 w).1 .i64 .i64
  obtain ⟨i, hi', _, hs, _⟩ := info_parts info_u8
  have ht : Try.prog.underlying 64 = some (.slice (Try.prog.elem 64)) := by simp [Program.elem, Try.underlying64]
  have hcap := h.2.2.1
  have hnc := h.2.1
  rw [run_slice_lh w 64 a n cap ht .i64 .i64 lo hi (by omega) (by omega) (by omega)] at hr
  have he : Try.prog.elem 64 = 5 := by simp [Program.elem, Try.underlying64]
  have hsz : (sizeOf 5).run Try.prog w = .ok 1 w := by simp [sizeOf, typeInfo, hi', hs]
  rw [he, hsz] at hr
  simp [Result.andThen, sliced] at hr
  intro ad' had'
  rw [had'] at hr
  split at hr
  · exact ⟨ad', hr, rfl⟩
  · obtain ⟨ad, had, e⟩ := Option.map_eq_some_iff.1 hr
    exact ⟨ad, had, by rw [← e]; unfold Addr.add; split <;> rfl⟩

theorem rd_set_in {S : Nat → Prop} {w : World} {q : Nat} {a a' : Option Addr} {n cap n' cap' : Nat} {l' : List UInt8} {e f : Int} (h1 : w.heap[q]? = some (.cells #[.slice a n cap, .int .i64 e] 115)) (h2 : Bytes w a' n' cap' l') (h3 : n' = 0 ∨ ∀ ad, a' = some ad → S ad.block) :
    RdIn S ((w.setCell ⟨q, 0, none⟩ (.slice a' n' cap')).setCell ⟨q, 1, none⟩ (.int .i64 f)) q l' f ∧ w.grownBy ((w.setCell ⟨q, 0, none⟩ (.slice a' n' cap')).setCell ⟨q, 1, none⟩ (.int .i64 f)) (some q) := by
  have e1 := heap_setCell_same w q 0 _ _ (.slice a' n' cap') h1
  have e2 := heap_setCell_same _ q 1 _ _ (.int .i64 f) e1
  have hg : ∀ k, k < w.heap.size → k ≠ q → ((w.setCell ⟨q, 0, none⟩ (.slice a' n' cap')).setCell ⟨q, 1, none⟩ (.int .i64 f)).heap[k]? = w.heap[k]? := fun k hk hne => by
    rw [Below.heap_setCell _ _ _ _ hne, Below.heap_setCell _ _ _ _ hne]
  exact ⟨⟨a', n', cap', e2, bytes_other h1 h2 hg, h3⟩, (rd_set (f := f) h1 h2).2⟩
theorem rd_set1_in {S : Nat → Prop} {w : World} {q : Nat} {a : Option Addr} {n cap : Nat} {l : List UInt8} {e f : Int} (h1 : w.heap[q]? = some (.cells #[.slice a n cap, .int .i64 e] 115)) (h2 : Bytes w a n cap l) (h3 : n = 0 ∨ ∀ ad, a = some ad → S ad.block) :
    RdIn S (w.setCell ⟨q, 1, none⟩ (.int .i64 f)) q l f ∧ w.grownBy (w.setCell ⟨q, 1, none⟩ (.int .i64 f)) (some q) := by
  have e2 := heap_setCell_same w q 1 _ _ (.int .i64 f) h1
  have hg : ∀ k, k < w.heap.size → k ≠ q → (w.setCell ⟨q, 1, none⟩ (.int .i64 f)).heap[k]? = w.heap[k]? := fun k hk hne => Below.heap_setCell _ _ _ _ hne
  exact ⟨⟨a, n, cap, e2, bytes_other h1 h2 hg, h3⟩, (rd_set1 (f := f) h1 h2).2⟩
theorem rd_set0_in {S : Nat → Prop} {w : World} {q : Nat} {a a' : Option Addr} {n cap n' cap' : Nat} {l' : List UInt8} {e : Int} (h1 : w.heap[q]? = some (.cells #[.slice a n cap, .int .i64 e] 115)) (h2 : Bytes w a' n' cap' l') (h3 : n' = 0 ∨ ∀ ad, a' = some ad → S ad.block) :
    RdIn S (w.setCell ⟨q, 0, none⟩ (.slice a' n' cap')) q l' e ∧ w.grownBy (w.setCell ⟨q, 0, none⟩ (.slice a' n' cap')) (some q) := by
  have e2 := heap_setCell_same w q 0 _ _ (.slice a' n' cap') h1
  have hg : ∀ k, k < w.heap.size → k ≠ q → (w.setCell ⟨q, 0, none⟩ (.slice a' n' cap')).heap[k]? = w.heap[k]? := fun k hk hne => Below.heap_setCell _ _ _ _ hne
  exact ⟨⟨a', n', cap', e2, bytes_other h1 h2 hg, h3⟩, (rd_set0 h1 h2).2⟩

set_option maxHeartbeats 1000000 in
set_option maxRecDepth 100000 in
theorem rd_num_in (S : Nat → Prop) (w : World) (q : Nat) (l : List UInt8) (e : Int) (h : RdIn S w q l e) :
    Calls Try.prog 74 #[.pointer (some ⟨q, 0, none⟩)] w fun r w' => r = .returned (.int .u64 ((VarPlain.next l e).1 : Int)) ∧ RdIn S w' q (VarPlain.next l e).2.1 (VarPlain.next l e).2.2 ∧ w.grownBy w' (some q) := by
  by_cases he : e = 0
  · subst he
    have HN : Hid (VarPlain.next l 0 = ((VarPlain.take l).1, l.drop (VarPlain.take l).2.1, (VarPlain.take l).2.2)) := rfl
    obtain ⟨a, n, cap, h1, h2, h3⟩ := h
    have Herr := Lib.hid (rd_err_calls w q l 0 ⟨a, n, cap, h1, h2⟩)
    obtain ⟨c0, c1, f0, f1⟩ := Rd.cells h1
    have htake := var_take_calls w a n cap l h2
    have hml := VarPlain.take_le l
    generalize ht : VarPlain.take l = t at *
    obtain ⟨x, m, f⟩ := t
    simp only [] at hml HN
    have hmn : m ≤ n := by rw [h2.1]; exact hml
    obtain ⟨a', hB, hA, hS⟩ := sub_bytes2 h2 m n hmn (Nat.le_refl _)
    have hl : l.take n = l := List.take_of_length_le (by rw [h2.1]; exact Nat.le_refl _)
    rw [hl] at hB
    have hsl := fun wx => (hS wx).2.2 rfl .i64
    have HR := Lib.hid (rd_set_in (S := S) (f := f) h1 hB (in_sub h3 hA))
    have hcap := h2.2.2.1
    unfold maxLen at hcap
    have Htake := Lib.hid htake
    clear hS hl hB h1 h2 h3 hA ht htake
    go_enter Try.func74, Try.ntmps74
    go_wp2_with fail
    refine Herr.out.mono ?_
    rintro r w' ⟨rfl, rfl⟩
    go_wp2_with fail
    refine Htake.out.mono ?_
    rintro r w' ⟨rfl, rfl⟩
    unfold takeV
    go_wp2_with fail
    go_ret
    exact ⟨by rw [HN.out]; rfl, by rw [HN.out]; exact HR.out.1, HR.out.2⟩
  · have HN : Hid (VarPlain.next l e = (0, l, e)) := by show _ = _; unfold VarPlain.next; rw [if_pos he]
    have hne : (e != 0) = true := by rw [bne_iff_ne]; exact he
    have H := Lib.hid h; clear h he
    go_enter Try.func74, Try.ntmps74
    go_wp2_with fail
    refine (rd_err_calls _ q l e H.out.toRd).mono ?_
    rintro r w' ⟨rfl, rfl⟩
    go_wp2_with fail
    go_ret
    exact ⟨by rw [HN.out]; rfl, by rw [HN.out]; exact H.out, World.grownBy.refl _ _⟩

set_option maxHeartbeats 1000000 in
set_option maxRecDepth 100000 in
theorem rd_text_in (S : Nat → Prop) (w : World) (q : Nat) (l : List UInt8) (e : Int) (h : RdIn S w q l e) :
    Calls Try.prog 72 #[.pointer (some ⟨q, 0, none⟩)] w fun r w' => r = .returned (.string (str (VarPlain.word l e).1)) ∧ RdIn S w' q (VarPlain.word l e).2.1 (VarPlain.word l e).2.2 ∧ w.grownBy w' (some q) := by
  have hx : (VarPlain.next l e).1 < 18446744073709551616 := by
    unfold VarPlain.next
    split
    · simp
    · exact VarPlain.take_lt l
  have H := Lib.hid (rd_num_in S w q l e h); clear h
  have HW : Hid (VarPlain.word l e = if (VarPlain.next l e).2.2 ≠ 0 then ([], (VarPlain.next l e).2.1, (VarPlain.next l e).2.2) else if (VarPlain.next l e).2.1.length < (VarPlain.next l e).1 then ([], (VarPlain.next l e).2.1, 10) else ((VarPlain.next l e).2.1.take (VarPlain.next l e).1, (VarPlain.next l e).2.1.drop (VarPlain.next l e).1, 0)) := rfl
  generalize VarPlain.next l e = t at *
  obtain ⟨x, l1, f⟩ := t
  simp only [] at hx HW H
  have Hx := Lib.hid hx; clear hx
  by_cases hf : f = 0
  · subst hf
    have hw := HW.out
    rw [if_neg (by simp)] at hw
    go_enter Try.func72, Try.ntmps72
    go_wp2_with fail
    refine H.out.mono ?_
    rintro r w1 ⟨rfl, hr1, hg1⟩
    have Hg1 := Lib.hid hg1; clear hg1
    have Herr := Lib.hid (rd_err_calls w1 q l1 0 hr1.toRd)
    obtain ⟨a, n, cap, h1, h2, h3⟩ := hr1
    obtain ⟨c0, c1, f0, f1⟩ := Rd.cells h1
    have hcap := h2.2.2.1
    have hnc := h2.2.1
    have hnl := h2.1
    unfold maxLen at hcap
    by_cases hlong : l1.length < x
    · rw [if_pos hlong] at hw
      have Hw := Lib.hid hw; clear hw
      have HR := Lib.hid (rd_set1_in (S := S) (f := 10) h1 h2 h3)
      have hnx : n < x := by rw [hnl]; exact hlong
      clear h1 h2 h3 hnl hlong
      go_wp2_with fail
      refine Herr.out.mono ?_
      rintro r w' ⟨rfl, rfl⟩
      go_wp2_with fail
      go_ret
      exact ⟨by rw [Hw.out]; rfl, by rw [Hw.out]; exact HR.out.1, grownBy_trans Hg1.out HR.out.2⟩
    · rw [if_neg hlong] at hw
      have Hw := Lib.hid hw; clear hw
      have hxn : x ≤ n := by rw [hnl]; omega
      obtain ⟨a1, hB1, hS1⟩ := sub_bytes h2 0 x (Nat.zero_le _) hxn
      obtain ⟨a2, hB2, hA2, hS2⟩ := sub_bytes2 h2 x n hxn (Nat.le_refl _)
      have hl : l1.take n = l1 := List.take_of_length_le (by rw [hnl]; exact Nat.le_refl _)
      rw [List.drop_zero] at hB1
      rw [hl] at hB2
      have hsl1 := fun wx => (hS1 wx).2.1 rfl .u64
      have hsl2 := fun wx => (hS2 wx).2.2 rfl .u64
      have hstr := str_bytes hB1
      simp only [Nat.sub_zero] at hsl1 hstr
      have HR := Lib.hid (rd_set0_in (S := S) h1 hB2 (in_sub h3 hA2))
      clear h1 h2 h3 hA2 hnl hlong hS1 hS2 hB1 hB2 hl
      go_wp2_with fail
      refine Herr.out.mono ?_
      rintro r w' ⟨rfl, rfl⟩
      go_wp2_with fail
      go_ret
      exact ⟨by rw [Hw.out]; rfl, by rw [Hw.out]; exact HR.out.1, grownBy_trans Hg1.out HR.out.2⟩
  · have hw := HW.out
    rw [if_pos hf] at hw
    have Hw := Lib.hid hw; clear hw
    have hne : (f != 0) = true := by rw [bne_iff_ne]; exact hf
    clear hf
    go_enter Try.func72, Try.ntmps72
    go_wp2_with fail
    refine H.out.mono ?_
    rintro r w1 ⟨rfl, hr1, hg1⟩
    have Hg1 := Lib.hid hg1; clear hg1
    have Hr1 := Lib.hid hr1; clear hr1
    go_wp2_with fail
    refine (rd_err_calls w1 q l1 f Hr1.out.toRd).mono ?_
    rintro r w' ⟨rfl, rfl⟩
    go_wp2_with fail
    go_ret
    exact ⟨by rw [Hw.out]; rfl, by rw [Hw.out]; exact Hr1.out, Hg1.out⟩

end Go.Proofs.Ytmhofdoifgfjfaa
