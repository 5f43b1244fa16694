/-
  Plain mathematics of the sums of chapter 2 (crc): the register bit by bit, that it is linear over xor, that no step loses anything.
  No program stands here. Conditions: none.
  Plain mathematics of chapter 3 (frame): a row's frame, the row that bytes begin with, the rows of bytes; what is put is scanned, cut it is short, turned its sum is none. No program stands here. Conditions: rows are of 65536 bytes at most.
  Plain mathematics of chapter 4 (event): what is read of bytes, and that it is what was put. No program stands here. Conditions: none.
  Plain mathematics of chapter 4 (event): requests and answers as bytes, and back. No program stands here. Conditions: none.
  Rows that stand in the text, as lists. Conditions: none.
-/
import Derived.Below
import Derived.Test.YtgbnfipbedlmhaaGVar
/-! CrcPlain -/
namespace Go.Proofs.Ytgbnfipbedlmhaa.CrcPlain

/-- One bit's step of the register. -/
def step (x : BitVec 32) : BitVec 32 := (x >>> 1) ^^^ (if x.getLsbD 0 then 0xEDB88320#32 else 0#32)

/-- n steps. -/
def steps : Nat → BitVec 32 → BitVec 32
  | 0, x => x
  | n + 1, x => steps n (step x)

def byte (x : BitVec 32) (c : UInt8) : BitVec 32 := steps 8 (x ^^^ c.toBitVec.zeroExtend 32)
def run (x : BitVec 32) (l : List UInt8) : BitVec 32 := l.foldl byte x
/-- The sum s with the bytes l behind. -/
def add (s : BitVec 32) (l : List UInt8) : BitVec 32 := ~~~ run (~~~ s) l
def of (l : List UInt8) : BitVec 32 := add 0#32 l
def tail (x : BitVec 32) : List UInt8 := [⟨x.extractLsb' 0 8⟩, ⟨x.extractLsb' 8 8⟩, ⟨x.extractLsb' 16 8⟩, ⟨x.extractLsb' 24 8⟩]

theorem run_nil (x : BitVec 32) : run x [] = x := rfl
theorem run_cons (x : BitVec 32) (c : UInt8) (l : List UInt8) : run x (c :: l) = run (byte x c) l := rfl
theorem run_append (x : BitVec 32) (l m : List UInt8) : run x (l ++ m) = run (run x l) m := by simp [run]
theorem add_append (s : BitVec 32) (l m : List UInt8) : add s (l ++ m) = add (add s l) m := by simp [add, run_append]
theorem add_nil (s : BitVec 32) : add s [] = s := by simp [add, run_nil]

theorem step_zero : step 0#32 = 0#32 := by decide
theorem step_xor (x y : BitVec 32) : step (x ^^^ y) = step x ^^^ step y := by
  unfold step
  rw [BitVec.getLsbD_xor]
  have e : (x ^^^ y) >>> 1 = (x >>> 1) ^^^ (y >>> 1) := by ext i; simp
  rw [e]
  generalize x >>> 1 = p
  generalize y >>> 1 = q
  have c1 : ∀ k : BitVec 32, p ^^^ q ^^^ k = p ^^^ (q ^^^ k) := fun k => BitVec.xor_assoc p q k
  have c2 : ∀ k : BitVec 32, p ^^^ q ^^^ k = p ^^^ k ^^^ q := fun k => by rw [BitVec.xor_assoc, BitVec.xor_comm q k, BitVec.xor_assoc]
  have c3 : ∀ k : BitVec 32, p ^^^ k ^^^ (q ^^^ k) = p ^^^ q := fun k => by
    rw [BitVec.xor_assoc, ← BitVec.xor_assoc k q k, BitVec.xor_comm k q, BitVec.xor_assoc q k k, BitVec.xor_self, BitVec.xor_zero]
  cases x.getLsbD 0 <;> cases y.getLsbD 0
  · simp
  · simpa using c1 0xEDB88320#32
  · simpa using c2 0xEDB88320#32
  · simpa using (c3 0xEDB88320#32).symm
theorem step_ne (x : BitVec 32) (h : step x = 0#32) : x = 0#32 := by
  unfold step at h
  cases hb : x.getLsbD 0 with
  | true =>
    rw [hb] at h
    have h31 : ((x >>> 1) ^^^ (0xEDB88320#32)).getLsbD 31 = false := by simp at h; rw [h]; rfl
    simp at h31
  | false =>
    rw [hb] at h
    simp at h
    ext i hi
    by_cases h0 : i = 0
    · subst h0; rw [← BitVec.getLsbD_eq_getElem hi, hb]; simp
    · have h1 : (x >>> 1).getLsbD (i - 1) = false := by rw [h]; simp
      rw [BitVec.getLsbD_ushiftRight] at h1
      have : 1 + (i - 1) = i := by omega
      rw [this] at h1
      simpa [BitVec.getLsbD_eq_getElem hi] using h1

theorem steps_zero (n : Nat) : steps n 0#32 = 0#32 := by
  induction n with
  | zero => rfl
  | succ n ih => rw [steps, step_zero, ih]
theorem steps_xor (n : Nat) : ∀ x y : BitVec 32, steps n (x ^^^ y) = steps n x ^^^ steps n y := by
  induction n with
  | zero => intro x y; rfl
  | succ n ih => intro x y; rw [steps, step_xor, ih]; rfl
theorem steps_add (m n : Nat) : ∀ x : BitVec 32, steps (m + n) x = steps n (steps m x) := by
  induction m with
  | zero => intro x; simp [steps]
  | succ m ih => intro x; rw [Nat.succ_add]; exact ih (step x)
theorem steps_ne (n : Nat) : ∀ x : BitVec 32, steps n x = 0#32 → x = 0#32 := by
  induction n with
  | zero => intro x h; exact h
  | succ n ih => intro x h; exact step_ne x (ih (step x) h)

theorem byte_xor (x y : BitVec 32) (c d : UInt8) : byte (x ^^^ y) (c ^^^ d) = byte x c ^^^ byte y d := by
  unfold byte
  rw [← steps_xor]
  congr 1
  rw [UInt8.toBitVec_xor]
  ext i hi
  simp [BitVec.getElem_xor]
  cases x[i] <;> cases y[i] <;> cases c.toBitVec.getLsbD i <;> cases d.toBitVec.getLsbD i <;> rfl

/-- Two rows of one length, xored byte by byte. -/
def xors (l m : List UInt8) : List UInt8 := List.zipWith (· ^^^ ·) l m

theorem run_xors (l : List UInt8) : ∀ (m : List UInt8) (x y : BitVec 32), l.length = m.length → run (x ^^^ y) (xors l m) = run x l ^^^ run y m := by
  induction l with
  | nil =>
    intro m x y h
    cases m with
    | nil => rfl
    | cons d m => simp at h
  | cons c l ih =>
    intro m x y h
    cases m with
    | nil => simp at h
    | cons d m =>
      have h' : l.length = m.length := by simpa using h
      show run (byte (x ^^^ y) (c ^^^ d)) (xors l m) = _
      rw [byte_xor, ih m _ _ h']
      rfl

/-- Steps over a register whose low bits are nothing only shift. -/
theorem step_shl (z : BitVec 32) (h : z.getLsbD 31 = false) : step (z <<< 1) = z := by
  unfold step
  have e : (z <<< 1).getLsbD 0 = false := by simp
  rw [e]
  ext i hi
  by_cases h1 : i = 31
  · subst h1; simpa [BitVec.getLsbD_eq_getElem hi] using h
  · simp
    have : (decide (1 + i < 32)) = true := by simp; omega
    rw [this, Bool.true_and, BitVec.getLsbD_eq_getElem hi]

theorem steps_shl (n : Nat) : ∀ z : BitVec 32, (∀ i, 32 - n ≤ i → z.getLsbD i = false) → n ≤ 32 → steps n (z <<< n) = z := by
  induction n with
  | zero => intro z _ _; simp [steps]
  | succ n ih =>
    intro z h hn
    have e : z <<< (n + 1) = (z <<< n) <<< 1 := by rw [BitVec.shiftLeft_add]
    rw [e, steps, step_shl _ (by rw [BitVec.getLsbD_shiftLeft, h _ (by omega)]; simp)]
    exact ih z (fun i hi => h i (by omega)) (by omega)

theorem steps_shl_of (m n : Nat) (z : BitVec 32) (h : ∀ i, 32 - n ≤ i → z.getLsbD i = false) (hn : n ≤ 32) : steps (n + m) (z <<< n) = steps m z := by
  rw [steps_add, steps_shl n z h hn]

theorem byte_steps (m : Nat) (hm : m ≤ 24) (y : BitVec 32) (c : UInt8) : byte (steps m y) c = steps (m + 8) (y ^^^ (c.toBitVec.zeroExtend 32) <<< m) := by
  rw [steps_add m 8, steps_xor m, steps_shl m _ (fun i hi => by simp; intro h1 ; exact BitVec.getLsbD_of_ge _ _ (by omega)) (by omega)]
  rfl

theorem run_four (x : BitVec 32) (a b c d : UInt8) : run x [a, b, c, d] = steps 32 (x ^^^ (a.toBitVec.zeroExtend 32) ^^^ (b.toBitVec.zeroExtend 32) <<< 8 ^^^ (c.toBitVec.zeroExtend 32) <<< 16 ^^^ (d.toBitVec.zeroExtend 32) <<< 24) := by
  have h0 : byte x a = steps 8 (x ^^^ a.toBitVec.zeroExtend 32) := rfl
  rw [run_cons, run_cons, run_cons, run_cons, run_nil, h0, byte_steps 8 (by omega), byte_steps 16 (by omega), byte_steps 24 (by omega)]

theorem word_tail (x y : BitVec 32) : (y ^^^ ((x.extractLsb' 0 8).zeroExtend 32) ^^^ ((x.extractLsb' 8 8).zeroExtend 32) <<< 8 ^^^ ((x.extractLsb' 16 8).zeroExtend 32) <<< 16 ^^^ ((x.extractLsb' 24 8).zeroExtend 32) <<< 24) = y ^^^ x := by
  ext i hi
  simp [BitVec.getElem_xor]
  have hx : x[i] = x.getLsbD i := (BitVec.getLsbD_eq_getElem hi).symm
  rw [hx]
  by_cases h1 : i < 8
  · simp [h1, show i < 16 by omega, show i < 24 by omega]
  · by_cases h2 : i < 16
    · simp [h1, h2, show i < 24 by omega, show i - 8 < 8 by omega, show 8 + (i - 8) = i by omega]
    · by_cases h3 : i < 24
      · simp [h1, h2, h3, show ¬ i - 8 < 8 by omega, show i - 16 < 8 by omega, show 16 + (i - 16) = i by omega]
      · simp [h1, h2, h3, show ¬ i - 8 < 8 by omega, show ¬ i - 16 < 8 by omega, show i - 24 < 8 by omega, show 24 + (i - 24) = i by omega]

theorem run_tail (x y : BitVec 32) : run y (tail x) = steps 32 (y ^^^ x) := by
  unfold tail
  rw [run_four, word_tail]

theorem steps_ones : steps 32 (BitVec.allOnes 32) = 3736805603#32 := by decide +kernel

theorem xor_not_self (x : BitVec 32) : x ^^^ ~~~x = BitVec.allOnes 32 := by
  rw [← BitVec.xor_allOnes, ← BitVec.xor_assoc, BitVec.xor_self, BitVec.zero_xor]

/-- Bytes with their tail behind leave one register, whatever they are. -/
theorem run_of_tail (l : List UInt8) : run (~~~ 0#32) (l ++ tail (of l)) = 3736805603#32 := by
  rw [run_append, run_tail]
  have : run (~~~ 0#32) l ^^^ of l = BitVec.allOnes 32 := xor_not_self _
  rw [this, steps_ones]
theorem add_of_tail (l : List UInt8) : add 0#32 (l ++ tail (of l)) = 558161692#32 := by
  unfold add
  rw [run_of_tail]
  decide

/-! ### Bytes of which some bits are others -/

def flip (l : List UInt8) (p : Nat) : List UInt8 := l.set (p / 8) (l.getD (p / 8) 0 ^^^ UInt8.ofNat (2 ^ (p % 8)))

theorem flip_length (l : List UInt8) (p : Nat) : (flip l p).length = l.length := by simp [flip]

theorem byte_zero (x : BitVec 32) : byte x 0 = steps 8 x := by
  unfold byte
  congr 1
  show x ^^^ (0#8).zeroExtend 32 = x
  simp
theorem run_zeros (n : Nat) : ∀ x : BitVec 32, run x (List.replicate n 0) = steps (8 * n) x := by
  induction n with
  | zero => intro x; rfl
  | succ n ih =>
    intro x
    rw [List.replicate_succ, run_cons, byte_zero, ih, ← steps_add]
    congr 1
    omega
theorem xors_zeros (l : List UInt8) : xors l (List.replicate l.length 0) = l := by
  induction l with
  | nil => rfl
  | cons c l ih =>
    show (c ^^^ 0) :: xors l (List.replicate l.length 0) = _
    rw [ih]; simp

theorem run_shift (l : List UInt8) (x y : BitVec 32) : run (x ^^^ y) l = run x l ^^^ steps (8 * l.length) y := by
  have := run_xors l (List.replicate l.length 0) x y (by simp)
  rwa [xors_zeros, run_zeros] at this

theorem byte_shift (x : BitVec 32) (c d : UInt8) : byte x (c ^^^ d) = byte x c ^^^ steps 8 (d.toBitVec.zeroExtend 32) := by
  have := byte_xor x 0#32 c d
  rw [BitVec.xor_zero] at this
  rw [this]
  congr 1
  unfold byte
  rw [BitVec.zero_xor]

theorem one_shl (k : Nat) (hk : k < 8) : (UInt8.ofNat (2 ^ k)).toBitVec.zeroExtend 32 = (1#32) <<< k := by
  rcases (by omega : k = 0 ∨ k = 1 ∨ k = 2 ∨ k = 3 ∨ k = 4 ∨ k = 5 ∨ k = 6 ∨ k = 7) with h | h | h | h | h | h | h | h <;> subst h <;> decide

theorem one_high (n : Nat) (hn : n < 32) : ∀ i, 32 - n ≤ i → (1#32).getLsbD i = false := by
  intro i hi
  have : (1#32).getLsbD i = decide (i = 0) := by
    rw [BitVec.getLsbD_one]; simp
  rw [this]; simp; omega

theorem run_flip (l : List UInt8) (p : Nat) (hp : p < 8 * l.length) (x : BitVec 32) : run x (flip l p) = run x l ^^^ steps (8 * l.length - p) 1#32 := by
  have hi : p / 8 < l.length := by omega
  have e1 : l = l.take (p / 8) ++ l[p / 8] :: l.drop (p / 8 + 1) := by
    rw [List.getElem_cons_drop, List.take_append_drop]
  have e2 : flip l p = l.take (p / 8) ++ (l[p / 8] ^^^ UInt8.ofNat (2 ^ (p % 8))) :: l.drop (p / 8 + 1) := by
    unfold flip
    rw [List.set_eq_take_append_cons_drop, if_pos hi]
    congr 2
    simp [List.getD, List.getElem?_eq_getElem hi]
  have e3 : run x l = run (byte (run x (l.take (p / 8))) l[p / 8]) (l.drop (p / 8 + 1)) := by
    conv => lhs; rw [e1]
    rw [run_append, run_cons]
  rw [e2, run_append, run_cons, byte_shift, run_shift, ← e3, one_shl _ (by omega), ← steps_add]
  congr 1
  have : 8 + 8 * (l.drop (p / 8 + 1)).length = p % 8 + (8 * l.length - p) := by
    rw [List.length_drop]; omega
  rw [this, steps_shl_of _ _ _ (one_high _ (by omega)) (by omega)]

/-- The low i bits of t. -/
def low (t : BitVec 32) : Nat → BitVec 32
  | 0 => 0#32
  | i + 1 => low t i ^^^ (if t.getLsbD i then (1#32) <<< i else 0#32)
theorem low_bit (t : BitVec 32) (i : Nat) (k : Nat) (hk : k < 32) : (low t i).getLsbD k = (decide (k < i) && t.getLsbD k) := by
  induction i with
  | zero => simp [low]
  | succ i ih =>
    rw [low, BitVec.getLsbD_xor, ih]
    by_cases h : k = i
    · subst h
      cases ht : t.getLsbD k <;> simp [hk]
    · have hz : (if t.getLsbD i then (1#32) <<< i else 0#32).getLsbD k = false := by
        cases t.getLsbD i
        · simp
        · simp; omega
      rw [hz]
      simp [show (k < i + 1) ↔ (k < i) by omega]
theorem low_all (t : BitVec 32) : low t 32 = t := by
  ext k hk
  have := low_bit t 32 k hk
  rw [BitVec.getLsbD_eq_getElem hk, BitVec.getLsbD_eq_getElem hk] at this
  simpa [hk] using this

/-- Bits from 'bit' on are turned where t says so, i of them. -/
def turned (l : List UInt8) (bit : Nat) (t : BitVec 32) : Nat → List UInt8
  | 0 => l
  | i + 1 => if t.getLsbD i then flip (turned l bit t i) (bit + i) else turned l bit t i
theorem turned_length (l : List UInt8) (bit : Nat) (t : BitVec 32) (i : Nat) : (turned l bit t i).length = l.length := by
  induction i with
  | zero => rfl
  | succ i ih => rw [turned]; split <;> simp [flip_length, ih]
theorem run_turned (l : List UInt8) (bit : Nat) (t : BitVec 32) (x : BitVec 32) (hb : bit + 32 ≤ 8 * l.length) : ∀ i, i ≤ 32 →
    run x (turned l bit t i) = run x l ^^^ steps (8 * l.length - bit) (low t i) := by
  intro i
  induction i with
  | zero => intro _; simp [turned, low, steps_zero]
  | succ i ih =>
    intro hi
    rw [turned, low]
    split
    · rw [run_flip _ _ (by rw [turned_length]; omega), ih (by omega), steps_xor, turned_length, BitVec.xor_assoc]
      congr 2
      have : 8 * l.length - bit = i + (8 * l.length - (bit + i)) := by omega
      rw [this, steps_shl_of _ _ _ (one_high _ (by omega)) (by omega)]
    · rw [ih (by omega)]; simp

/-- Bytes and their tail, of which up to 32 bits on end are others, aren't bytes and their tail. -/
theorem turned_ne (l : List UInt8) (bit : Nat) (t : BitVec 32) (ht : t ≠ 0#32) (hb : bit + 32 ≤ 8 * (l.length + 4)) :
    tail (of ((turned (l ++ tail (of l)) bit t 32).take l.length)) ≠ (turned (l ++ tail (of l)) bit t 32).drop l.length := by
  intro h
  have hl : (l ++ tail (of l)).length = l.length + 4 := by simp [tail]
  have h1 := run_of_tail ((turned (l ++ tail (of l)) bit t 32).take l.length)
  rw [h, List.take_append_drop, run_turned _ _ _ _ (by rw [hl]; exact hb) 32 (Nat.le_refl _), run_of_tail, low_all] at h1
  have h2 : steps (8 * (l ++ tail (of l)).length - bit) t = 0#32 := by
    have h3 := congrArg (fun z => 3736805603#32 ^^^ z) h1
    simpa [← BitVec.xor_assoc] using h3
  exact ht (steps_ne _ _ h2)

/-! ### Three rows -/
theorem of_xors (a b c : List UInt8) (h1 : a.length = b.length) (h2 : b.length = c.length) : of (xors (xors a b) c) = of a ^^^ of b ^^^ of c := by
  unfold of add
  have e : ~~~ 0#32 = (~~~ 0#32 ^^^ ~~~ 0#32) ^^^ ~~~ 0#32 := by decide
  have hl : (xors a b).length = c.length := by simp [xors]; omega
  conv => lhs; rw [e]
  rw [run_xors _ _ _ _ hl, run_xors _ _ _ _ h1]
  generalize run (~~~ 0#32) a = p
  generalize run (~~~ 0#32) b = q
  generalize run (~~~ 0#32) c = r
  ext i hi
  simp

end Go.Proofs.Ytgbnfipbedlmhaa.CrcPlain

/-! FrPlain -/
set_option linter.unusedVariables false
namespace Go.Proofs.Ytgbnfipbedlmhaa
open Go.RowKit Base

/-- A row with its size ahead; its sum as four bytes; its frame. -/
def headed (l : List UInt8) : List UInt8 := VarPlain.num l.length ++ l
def oneF (l : List UInt8) : List UInt8 := headed l ++ CrcPlain.tail (CrcPlain.of (headed l))
theorem tail_len (x : BitVec 32) : (CrcPlain.tail x).length = 4 := rfl
theorem headed_len (l : List UInt8) : (headed l).length = (VarPlain.num l.length).length + l.length := by unfold headed; rw [List.length_append]
theorem oneF_len (l : List UInt8) : (oneF l).length = (VarPlain.num l.length).length + l.length + 4 := by unfold oneF; rw [List.length_append, headed_len, tail_len]

/-- The row that bytes begin with, how many bytes it has with its frame, the error. -/
def takeF (b : List UInt8) : List UInt8 × Nat × Int :=
  if (VarPlain.take b).2.2 ≠ 0 then ([], 0, (VarPlain.take b).2.2)
  else if 65536 < (VarPlain.take b).1 then ([], 0, 13)
  else if b.length - (VarPlain.take b).2.1 < (VarPlain.take b).1 + 4 then ([], 0, 10)
  else if oneF ((b.drop (VarPlain.take b).2.1).take (VarPlain.take b).1) ≠ b.take ((VarPlain.take b).2.1 + (VarPlain.take b).1 + 4) then ([], 0, 12)
  else ((b.drop (VarPlain.take b).2.1).take (VarPlain.take b).1, (VarPlain.take b).2.1 + (VarPlain.take b).1 + 4, 0)

theorem takeF_ok {b : List UInt8} (h : (takeF b).2.2 = 0) : (takeF b).2.1 ≤ b.length ∧ 5 ≤ (takeF b).2.1 ∧ (takeF b).1.length ≤ 65536 := by
  unfold takeF at h ⊢
  split at h
  · rename_i h1; exact absurd h h1
  · rename_i h1
    rw [if_neg h1]
    split at h
    · simp at h
    · rename_i h2
      rw [if_neg h2]
      split at h
      · simp at h
      · rename_i h3
        rw [if_neg h3]
        split at h
        · simp at h
        · rename_i h4
          rw [if_neg h4]
          have h5 := take_ok (b := b) (by simpa using h1)
          simp only [List.length_take, List.length_drop]
          omega
theorem takeF_bad {b : List UInt8} (h : (takeF b).2.2 ≠ 0) : (takeF b).1 = [] ∧ (takeF b).2.1 = 0 := by
  unfold takeF at h ⊢
  split
  · exact ⟨rfl, rfl⟩
  · rename_i h1
    rw [if_neg h1] at h
    split
    · exact ⟨rfl, rfl⟩
    · rename_i h2
      rw [if_neg h2] at h
      split
      · exact ⟨rfl, rfl⟩
      · rename_i h3
        rw [if_neg h3] at h
        split
        · exact ⟨rfl, rfl⟩
        · rename_i h4
          rw [if_neg h4] at h
          exact absurd rfl h
theorem takeF_row {b : List UInt8} (hl : ∀ x, VarPlain.take b = x → x.2.2 = 0) (h1 : (VarPlain.take b).1 ≤ 65536) (h2 : (VarPlain.take b).2.1 + (VarPlain.take b).1 + 4 ≤ b.length) (p t r : List UInt8)
    (hb : b = p ++ t ++ r) (hp : p = VarPlain.num (VarPlain.take b).1) (hp2 : p.length = (VarPlain.take b).2.1) (ht : t.length = (VarPlain.take b).1 + 4) :
    takeF b = if oneF (t.take (VarPlain.take b).1) ≠ p ++ t then ([], 0, 12) else (t.take (VarPlain.take b).1, (p ++ t).length, 0) := by
  have h0 := hl _ rfl
  generalize hk : VarPlain.take b = k at *
  obtain ⟨x, n, e⟩ := k
  simp only [] at *
  subst h0
  have e1 : (b.drop n).take x = t.take x := by
    rw [hb, ← hp2, List.append_assoc, List.drop_left, List.take_append_of_le_length (by omega)]
  have e2 : b.take (n + x + 4) = p ++ t := by
    have : n + x + 4 = (p ++ t).length := by rw [List.length_append]; omega
    rw [hb, this, List.take_left]
  unfold takeF
  rw [hk]
  simp only []
  rw [if_neg (by simp), if_neg (by omega), if_neg (by omega), e1, e2]
  have e3 : n + x + 4 = (p ++ t).length := by rw [List.length_append]; omega
  rw [e3]

theorem lt64_row {l : List UInt8} (h : l.length ≤ 65536) : Lt64 l.length := by unfold Lt64; omega
/-- A frame is taken, whatever stands behind. -/
theorem takeF_one (l : List UInt8) (h : l.length ≤ 65536) (r : List UInt8) : takeF (oneF l ++ r) = (l, (oneF l).length, 0) := by
  have e : oneF l ++ r = VarPlain.num l.length ++ (l ++ CrcPlain.tail (CrcPlain.of (headed l))) ++ r := by unfold oneF headed; simp
  have ht : VarPlain.take (oneF l ++ r) = (l.length, (VarPlain.num l.length).length, 0) := by rw [e, List.append_assoc]; exact take_num _ (lt64_row h) _
  have hx := takeF_row (b := oneF l ++ r) (by intro x hx; rw [ht] at hx; rw [← hx]) (by rw [ht]; exact h) (by rw [ht, List.length_append, oneF_len]; simp only []; omega)
    (VarPlain.num l.length) (l ++ CrcPlain.tail (CrcPlain.of (headed l))) r e (by rw [ht]) (by rw [ht]) (by rw [ht, List.length_append, tail_len])
  rw [ht] at hx
  simp only [List.take_left] at hx
  have e2 : VarPlain.num l.length ++ (l ++ CrcPlain.tail (CrcPlain.of (headed l))) = oneF l := by unfold oneF headed; simp
  rw [e2, if_neg (by simp)] at hx
  exact hx
/-- A frame of which the row, or the sum, was turned is none. -/
theorem takeF_turned (l t r : List UInt8) (h : l.length ≤ 65536) (ht : t.length = l.length + 4) (hn : CrcPlain.tail (CrcPlain.of (VarPlain.num l.length ++ t.take l.length)) ≠ t.drop l.length) : takeF (VarPlain.num l.length ++ t ++ r) = ([], 0, 12) := by
  have hk : VarPlain.take (VarPlain.num l.length ++ t ++ r) = (l.length, (VarPlain.num l.length).length, 0) := by rw [List.append_assoc]; exact take_num _ (lt64_row h) _
  have hx := takeF_row (b := VarPlain.num l.length ++ t ++ r) (by intro x hx; rw [hk] at hx; rw [← hx]) (by rw [hk]; exact h) (by rw [hk]; simp only [List.length_append]; omega)
    (VarPlain.num l.length) t r rfl (by rw [hk]) (by rw [hk]) (by rw [hk, ht])
  rw [hk] at hx
  simp only [] at hx
  rw [hx, if_pos]
  intro he
  apply hn
  have hl : (t.take l.length).length = l.length := by rw [List.length_take]; omega
  unfold oneF headed at he
  rw [hl] at he
  have e2 : t = t.take l.length ++ t.drop l.length := (List.take_append_drop _ _).symm
  have e3 : VarPlain.num l.length ++ t = (VarPlain.num l.length ++ t.take l.length) ++ t.drop l.length := by rw [List.append_assoc, ← e2]
  rw [e3] at he
  exact List.append_cancel_left he
/-- A frame that is cut is short. -/
theorem takeF_cut (l : List UInt8) (h : l.length ≤ 65536) (k : Nat) (hk : k < (oneF l).length) : takeF ((oneF l).take k) = ([], 0, 10) := by
  by_cases h1 : k < (VarPlain.num l.length).length
  · have e : (oneF l).take k = (VarPlain.num l.length).take k := by unfold oneF headed; rw [List.append_assoc, List.take_append_of_le_length (by omega)]
    unfold takeF
    rw [e, take_cut _ (lt64_row h) _ h1]
    rw [if_pos (by decide)]
  · have e : (oneF l).take k = VarPlain.num l.length ++ (l ++ CrcPlain.tail (CrcPlain.of (headed l))).take (k - (VarPlain.num l.length).length) := by
      unfold oneF headed
      rw [List.append_assoc, List.take_append, List.take_of_length_le (by omega)]
    have hl : ((oneF l).take k).length = k := by rw [List.length_take]; omega
    have hk2 : VarPlain.take ((oneF l).take k) = (l.length, (VarPlain.num l.length).length, 0) := by rw [e]; exact take_num _ (lt64_row h) _
    rw [oneF_len] at hk
    unfold takeF
    rw [hk2, hl]
    simp only []
    rw [if_neg (by simp), if_neg (by omega), if_pos (by omega)]

/-- The rows of bytes, so many of them, and how many bytes they have. -/
def stF (b : List UInt8) : Nat → List (List UInt8) × Nat
  | 0 => ([], 0)
  | k + 1 => ((stF b k).1 ++ [(takeF (b.drop (stF b k).2)).1], (stF b k).2 + (takeF (b.drop (stF b k).2)).2.1)
def GoodF (b : List UInt8) (K : Nat) : Prop := ∀ j, j < K → (takeF (b.drop (stF b j).2)).2.2 = 0
def EndsF (b : List UInt8) (K : Nat) : Prop := GoodF b K ∧ (takeF (b.drop (stF b K).2)).2.2 ≠ 0
theorem stF_len (b : List UInt8) (k : Nat) : (stF b k).1.length = k := by
  induction k with
  | zero => rfl
  | succ k ih => simp [stF, ih]
theorem goodF_succ {b : List UInt8} {k : Nat} (h : GoodF b k) (h2 : (takeF (b.drop (stF b k).2)).2.2 = 0) : GoodF b (k + 1) := by
  intro j hj
  by_cases e : j = k
  · rw [e]; exact h2
  · exact h j (by omega)
theorem goodF_le {b : List UInt8} {k : Nat} (h : GoodF b k) : 5 * k ≤ (stF b k).2 ∧ (stF b k).2 ≤ b.length := by
  induction k with
  | zero => exact ⟨Nat.le_refl _, Nat.zero_le _⟩
  | succ k ih =>
    obtain ⟨h1, h2⟩ := ih (fun j hj => h j (by omega))
    obtain ⟨h3, h4, _⟩ := takeF_ok (h k (by omega))
    rw [List.length_drop] at h3
    constructor
    · show 5 * (k + 1) ≤ (stF b k).2 + _; omega
    · show (stF b k).2 + _ ≤ _; omega
theorem endsF_one {b : List UInt8} {j k : Nat} (h : EndsF b j) (h2 : EndsF b k) : j = k := by
  rcases Nat.lt_trichotomy j k with h3 | h3 | h3
  · exact absurd (h2.1 j h3) h.2
  · exact h3
  · exact absurd (h.1 k h3) h2.2
/-- Why it ended. -/
def endE3 (b : List UInt8) (K : Nat) : Int := if (stF b K).2 = b.length then 0 else (takeF (b.drop (stF b K).2)).2.2

def framesB (ls : List (List UInt8)) : List UInt8 := ls.flatMap oneF
theorem framesB_snoc (ls : List (List UInt8)) (l : List UInt8) : framesB (ls ++ [l]) = framesB ls ++ oneF l := by simp [framesB]
theorem framesB_take (ls : List (List UInt8)) (k : Nat) (hk : k < ls.length) : framesB (ls.take (k + 1)) = framesB (ls.take k) ++ oneF ls[k] := by
  rw [List.take_succ_eq_append_getElem hk, framesB_snoc]
theorem framesB_split (ls : List (List UInt8)) (k : Nat) : framesB ls = framesB (ls.take k) ++ framesB (ls.drop k) := by
  unfold framesB
  rw [← List.flatMap_append, List.take_append_drop]
theorem framesB_drop (ls : List (List UInt8)) (k : Nat) (hk : k < ls.length) : framesB (ls.drop k) = oneF ls[k] ++ framesB (ls.drop (k + 1)) := by
  rw [List.drop_eq_getElem_cons hk]
  unfold framesB
  rw [List.flatMap_cons]
/-- Rows that are put stand ahead of whatever: they are scanned. -/
theorem stF_frames (ls : List (List UInt8)) (hs : ∀ l ∈ ls, l.length ≤ 65536) (r : List UInt8) : ∀ k, k ≤ ls.length → stF (framesB ls ++ r) k = (ls.take k, (framesB (ls.take k)).length) ∧ GoodF (framesB ls ++ r) k := by
  intro k
  induction k with
  | zero => intro _; exact ⟨by simp [stF, framesB], fun j hj => absurd hj (by omega)⟩
  | succ k ih =>
    intro hk
    obtain ⟨h1, h2⟩ := ih (by omega)
    have e : (framesB ls ++ r).drop (framesB (ls.take k)).length = oneF ls[k] ++ (framesB (ls.drop (k + 1)) ++ r) := by
      rw [framesB_split ls k, List.append_assoc, List.drop_left, framesB_drop ls k (by omega), List.append_assoc]
    have ht : takeF ((framesB ls ++ r).drop (stF (framesB ls ++ r) k).2) = (ls[k], (oneF ls[k]).length, 0) := by
      rw [h1, e]
      exact takeF_one _ (hs _ (List.getElem_mem _)) _
    refine ⟨?_, goodF_succ h2 (by rw [ht])⟩
    rw [stF, ht, h1]
    simp only []
    rw [framesB_take ls k (by omega), List.length_append, ← List.take_succ_eq_append_getElem]
theorem endsF_frames (ls : List (List UInt8)) (hs : ∀ l ∈ ls, l.length ≤ 65536) (r : List UInt8) (hr : (takeF r).2.2 ≠ 0) : EndsF (framesB ls ++ r) ls.length ∧ stF (framesB ls ++ r) ls.length = (ls, (framesB ls).length) := by
  obtain ⟨h1, h2⟩ := stF_frames ls hs r ls.length (Nat.le_refl _)
  rw [List.take_length] at h1
  refine ⟨⟨h2, ?_⟩, h1⟩
  rw [h1]
  simp only [List.drop_left]
  exact hr
theorem takeF_nil : takeF [] = ([], 0, 10) := by
  have h : VarPlain.take [] = (0, 0, 10) := by unfold VarPlain.take VarPlain.lead; simp
  unfold takeF
  rw [h]
  rw [if_pos (by decide)]

/-- Rows that are put, cut somewhere within the next frame. -/
theorem cut_frames (ls : List (List UInt8)) (hs : ∀ l ∈ ls, l.length ≤ 65536) (k n : Nat) (hn : n ≤ ls.length) (h1 : (framesB (ls.take n)).length ≤ k) (h2 : k ≤ (framesB ls).length)
    (h3 : ∀ hn : n < ls.length, k < (framesB (ls.take n)).length + (oneF ls[n]).length) :
    EndsF ((framesB ls).take k) n ∧ stF ((framesB ls).take k) n = (ls.take n, (framesB (ls.take n)).length) ∧ endE3 ((framesB ls).take k) n = if (framesB (ls.take n)).length = k then 0 else 10 := by
  have hlen : ((framesB ls).take k).length = k := by rw [List.length_take]; omega
  have e : (framesB ls).take k = framesB (ls.take n) ++ (framesB (ls.drop n)).take (k - (framesB (ls.take n)).length) := by
    conv => lhs; rw [framesB_split ls n, List.take_append, List.take_of_length_le h1]
  have hr : takeF ((framesB (ls.drop n)).take (k - (framesB (ls.take n)).length)) = ([], 0, 10) := by
    by_cases hlt : n < ls.length
    · have := h3 hlt
      rw [framesB_drop ls n hlt, List.take_append_of_le_length (by omega)]
      exact takeF_cut _ (hs _ (List.getElem_mem _)) _ (by omega)
    · have : ls.drop n = [] := List.drop_eq_nil_of_le (by omega)
      rw [this]
      have e0 : framesB [] = [] := rfl
      rw [e0, List.take_nil, takeF_nil]
  have hln : (ls.take n).length = n := by rw [List.length_take]; omega
  obtain ⟨a1, a2⟩ := endsF_frames (ls.take n) (fun l hl => hs l (List.mem_of_mem_take hl)) _ (by rw [hr]; decide)
  rw [hln, ← e] at a1 a2
  refine ⟨a1, a2, ?_⟩
  unfold endE3
  rw [a2, hlen]
  simp only []
  split
  · rfl
  · conv => lhs; rw [e, List.drop_left, hr]
/-- Rows that are put, of one of which the row, or the sum, was turned. -/
theorem turned_frames (ls : List (List UInt8)) (hs : ∀ l ∈ ls, l.length ≤ 65536) (l t r : List UInt8) (h : l.length ≤ 65536) (ht : t.length = l.length + 4) (hn : CrcPlain.tail (CrcPlain.of (VarPlain.num l.length ++ t.take l.length)) ≠ t.drop l.length) :
    EndsF (framesB ls ++ (VarPlain.num l.length ++ t ++ r)) ls.length ∧ stF (framesB ls ++ (VarPlain.num l.length ++ t ++ r)) ls.length = (ls, (framesB ls).length) ∧ endE3 (framesB ls ++ (VarPlain.num l.length ++ t ++ r)) ls.length = 12 := by
  have hr := takeF_turned l t r h ht hn
  obtain ⟨a1, a2⟩ := endsF_frames ls hs _ (by rw [hr]; decide)
  refine ⟨a1, a2, ?_⟩
  unfold endE3
  rw [a2]
  simp only []
  rw [if_neg (by rw [List.length_append, List.length_append, List.length_append, ht]; omega), List.drop_left, hr]

/-- A bit that is turned within bytes that stand between others. -/
theorem flip_mid (p m r : List UInt8) (q : Nat) (hq : q < 8 * m.length) : CrcPlain.flip (p ++ m ++ r) (8 * p.length + q) = p ++ CrcPlain.flip m q ++ r := by
  have h1 : (8 * p.length + q) / 8 = p.length + q / 8 := by omega
  have h2 : (8 * p.length + q) % 8 = q % 8 := by omega
  have h3 : q / 8 < m.length := by omega
  unfold CrcPlain.flip
  rw [h1, h2]
  have e1 : (p ++ m ++ r).getD (p.length + q / 8) 0 = m.getD (q / 8) 0 := by
    have e0 : p.length + q / 8 - p.length = q / 8 := by omega
    rw [List.getD_eq_getElem?_getD, List.getD_eq_getElem?_getD, List.append_assoc, List.getElem?_append_right (by omega), e0, List.getElem?_append_left (by omega)]
  rw [e1, List.append_assoc, List.set_append_right _ _ (by omega), List.append_assoc, List.set_append_left _ _ (by omega)]
  congr 3
  omega
theorem turned_mid (p m r : List UInt8) (bit : Nat) (t : BitVec 32) (hb : bit + 32 ≤ 8 * m.length) : ∀ i, i ≤ 32 → CrcPlain.turned (p ++ m ++ r) (8 * p.length + bit) t i = p ++ CrcPlain.turned m bit t i ++ r := by
  intro i
  induction i with
  | zero => intro _; rfl
  | succ i ih =>
    intro hi
    rw [CrcPlain.turned, CrcPlain.turned, ih (by omega)]
    split
    · rw [Nat.add_assoc]
      exact flip_mid _ _ _ _ (by rw [CrcPlain.turned_length]; omega)
    · rfl
theorem turned_row (l : List UInt8) (bit : Nat) (t : BitVec 32) (ht : t ≠ 0#32) (hb : bit + 32 ≤ 8 * (l.length + 4)) :
    CrcPlain.tail (CrcPlain.of (VarPlain.num l.length ++ (CrcPlain.turned (l ++ CrcPlain.tail (CrcPlain.of (headed l))) bit t 32).take l.length)) ≠ (CrcPlain.turned (l ++ CrcPlain.tail (CrcPlain.of (headed l))) bit t 32).drop l.length := by
  have h := CrcPlain.turned_ne (headed l) (8 * (VarPlain.num l.length).length + bit) t ht (by rw [headed_len]; omega)
  have e := turned_mid (VarPlain.num l.length) (l ++ CrcPlain.tail (CrcPlain.of (headed l))) [] bit t (by rw [List.length_append, tail_len]; omega) 32 (Nat.le_refl _)
  have e2 : VarPlain.num l.length ++ (l ++ CrcPlain.tail (CrcPlain.of (headed l))) ++ [] = headed l ++ CrcPlain.tail (CrcPlain.of (headed l)) := by unfold headed; simp
  rw [e2, List.append_nil] at e
  rw [e, headed_len, List.take_append, List.take_of_length_le (by omega), List.drop_append, List.drop_of_length_le (by omega)] at h
  have e3 : (VarPlain.num l.length).length + l.length - (VarPlain.num l.length).length = l.length := by omega
  rw [e3, List.nil_append] at h
  exact h
/-- The same, in all bytes at once. -/
theorem turned_scan (ls : List (List UInt8)) (hs : ∀ l ∈ ls, l.length ≤ 65536) (k : Nat) (hk : k < ls.length) (bit : Nat) (t : BitVec 32) (ht : t ≠ 0#32) (hb : bit + 32 ≤ 8 * (ls[k].length + 4)) (b : List UInt8)
    (hbb : b = CrcPlain.turned (framesB ls) (8 * ((framesB (ls.take k)).length + (VarPlain.num ls[k].length).length) + bit) t 32) :
    EndsF b k ∧ stF b k = (ls.take k, (framesB (ls.take k)).length) ∧ endE3 b k = 12 := by
  have e1 : framesB ls = (framesB (ls.take k) ++ VarPlain.num ls[k].length) ++ (ls[k] ++ CrcPlain.tail (CrcPlain.of (headed ls[k]))) ++ framesB (ls.drop (k + 1)) := by
    rw [framesB_split ls k, framesB_drop ls k hk]
    unfold oneF headed
    simp
  have e2 := turned_mid (framesB (ls.take k) ++ VarPlain.num ls[k].length) (ls[k] ++ CrcPlain.tail (CrcPlain.of (headed ls[k]))) (framesB (ls.drop (k + 1))) bit t (by rw [List.length_append, tail_len]; omega) 32 (Nat.le_refl _)
  rw [← e1, List.length_append] at e2
  rw [e2, List.append_assoc, List.append_assoc, ← List.append_assoc (VarPlain.num _)] at hbb
  have hln : (ls.take k).length = k := by rw [List.length_take]; omega
  have h := turned_frames (ls.take k) (fun l hl => hs l (List.mem_of_mem_take hl)) ls[k] _ (framesB (ls.drop (k + 1))) (hs _ (List.getElem_mem _)) (by rw [CrcPlain.turned_length, List.length_append, tail_len]) (turned_row ls[k] bit t ht hb)
  rw [hln, ← hbb] at h
  exact h

end Go.Proofs.Ytgbnfipbedlmhaa

/-! EvPlain -/
set_option linter.unusedVariables false
namespace Go.Proofs.Ytgbnfipbedlmhaa
open Go.RowKit Base

/-- A way to put things as bytes, and to read them: what is put is read, cut it is short, what is read was put. -/
structure Lawful {α : Type} (put : α → List UInt8) (get : List UInt8 → Int → α × List UInt8 × Int) (ok : α → Prop) : Prop where
  back : ∀ x r, ok x → get (put x ++ r) 0 = (x, r, 0)
  cut : ∀ x r l e, ok x → Cutt (put x ++ r) l e → Cutt r (get l e).2.1 (get l e).2.2 ∧ ((get l e).2.2 = 0 → (get l e).1 = x)
  own : ∀ l e, (get l e).2.2 = 0 → e = 0 ∧ l = put (get l e).1 ++ (get l e).2.1 ∧ ok (get l e).1

theorem next_own (l : List UInt8) (e : Int) (h : (VarPlain.next l e).2.2 = 0) : e = 0 ∧ l = VarPlain.num (VarPlain.next l e).1 ++ (VarPlain.next l e).2.1 ∧ Lt64 (VarPlain.next l e).1 := by
  by_cases he : e = 0
  · subst he
    have e1 : VarPlain.next l 0 = ((VarPlain.take l).1, l.drop (VarPlain.take l).2.1, (VarPlain.take l).2.2) := by unfold VarPlain.next; rw [if_neg (by simp)]
    rw [e1] at h ⊢
    obtain ⟨h1, _, _⟩ := take_ok h
    refine ⟨rfl, ?_, VarPlain.take_lt l⟩
    rw [h1, List.take_append_drop]
  · unfold VarPlain.next at h
    rw [if_pos he] at h
    exact absurd h he
theorem num_lawful : Lawful VarPlain.num VarPlain.next Lt64 where
  back x r hx := next_num x hx r
  cut x r l e hx h := by
    refine ⟨cutt_num hx h, fun h0 => ?_⟩
    rcases h with rfl | ⟨rfl, m, hm, rfl⟩
    · unfold VarPlain.next at h0; simp at h0
    · by_cases hk : m < (VarPlain.num x).length
      · unfold VarPlain.next at h0
        rw [List.take_append_of_le_length (by omega), take_cut _ hx m hk] at h0
        simp at h0
      · have e : (VarPlain.num x ++ r).take m = VarPlain.num x ++ r.take (m - (VarPlain.num x).length) := by
          rw [List.take_append, List.take_of_length_le (by omega)]
        rw [e, next_num _ hx]
  own l e h := next_own l e h

def textB (s : List UInt8) : List UInt8 := VarPlain.num s.length ++ s
theorem word_own (l : List UInt8) (e : Int) (h : (VarPlain.word l e).2.2 = 0) : e = 0 ∧ l = textB (VarPlain.word l e).1 ++ (VarPlain.word l e).2.1 ∧ Lt64 (VarPlain.word l e).1.length := by
  unfold VarPlain.word at h ⊢
  by_cases h1 : (VarPlain.next l e).2.2 = 0
  · rw [if_neg (by simpa using h1)] at h ⊢
    by_cases h2 : (VarPlain.next l e).2.1.length < (VarPlain.next l e).1
    · rw [if_pos h2] at h; simp at h
    · rw [if_neg h2]
      obtain ⟨h3, h4, h5⟩ := next_own l e h1
      have h6 : (List.take (VarPlain.next l e).1 (VarPlain.next l e).2.1).length = (VarPlain.next l e).1 := by rw [List.length_take]; omega
      refine ⟨h3, ?_, by simp only [h6]; exact h5⟩
      unfold textB
      simp only [h6]
      rw [List.append_assoc, List.take_append_drop]
      exact h4
  · rw [if_pos h1] at h
    exact absurd h h1
theorem word_lawful : Lawful textB VarPlain.word (fun s => Lt64 s.length) where
  back s r hs := word_text s hs r
  cut s r l e hs h := by
    refine ⟨cutt_text hs h, fun h0 => ?_⟩
    obtain ⟨h1, h2, h3⟩ := word_own l e h0
    rcases h with rfl | ⟨_, m, hm, h4⟩
    · simp at h1
    · -- both begin alike, so they are alike
      have h5 : textB (VarPlain.word l e).1 ++ ((VarPlain.word l e).2.1 ++ (textB s ++ r).drop m) = textB s ++ r := by
        rw [← List.append_assoc, ← h2]
        conv => lhs; rw [h4]
        exact List.take_append_drop _ _
      have h6 := congrArg (fun b => VarPlain.word b 0) h5
      have h6 : VarPlain.word (textB (VarPlain.word l e).1 ++ ((VarPlain.word l e).2.1 ++ (textB s ++ r).drop m)) 0 = VarPlain.word (textB s ++ r) 0 := h6
      have h7 := word_text (VarPlain.word l e).1 h3 ((VarPlain.word l e).2.1 ++ (textB s ++ r).drop m)
      have h8 := word_text s hs r
      unfold textB at h6
      unfold textB at h7
      rw [h7, h8] at h6
      exact congrArg (fun t => t.1) h6
  own l e h := word_own l e h

/-- So many texts, one behind the other. -/
def words (l : List UInt8) (e : Int) : Nat → List (List UInt8) × List UInt8 × Int
  | 0 => ([], l, e)
  | n + 1 => ((words l e n).1 ++ [(VarPlain.word (words l e n).2.1 (words l e n).2.2).1], (VarPlain.word (words l e n).2.1 (words l e n).2.2).2)
theorem words_len (l : List UInt8) (e : Int) (n : Nat) : (words l e n).1.length = n := by
  induction n with
  | zero => rfl
  | succ n ih => simp [words, ih]
theorem words_lawful (n : Nat) : Lawful texts (fun l e => words l e n) (fun ls => ls.length = n ∧ ∀ s ∈ ls, Lt64 s.length) := by
  induction n with
  | zero =>
    refine ⟨fun ls r h => ?_, fun ls r l e h hc => ?_, fun l e h => ⟨h, rfl, rfl, by simp [words]⟩⟩
    · obtain rfl := List.eq_nil_of_length_eq_zero h.1
      rfl
    · obtain rfl := List.eq_nil_of_length_eq_zero h.1
      exact ⟨hc, fun _ => rfl⟩
  | succ n ih =>
    have split : ∀ ls : List (List UInt8), ls.length = n + 1 → ∃ a s, ls = a ++ [s] ∧ a.length = n := fun ls h => by
      have hne : ls ≠ [] := by intro h0; subst h0; simp at h
      exact ⟨ls.dropLast, ls.getLast hne, (List.dropLast_concat_getLast hne).symm, by simp [h]⟩
    have tx : ∀ a s, texts (a ++ [s]) = texts a ++ textB s := fun a s => by rw [texts_snoc, textB, List.append_assoc]
    refine ⟨fun ls r h => ?_, fun ls r l e h hc => ?_, fun l e h => ?_⟩
    · obtain ⟨a, s, rfl, ha⟩ := split ls h.1
      have h1 := ih.back a (textB s ++ r) ⟨ha, fun x hx => h.2 x (by simp [hx])⟩
      rw [tx, List.append_assoc]
      simp only [words, h1, word_lawful.back s r (h.2 s (by simp))]
    · obtain ⟨a, s, rfl, ha⟩ := split ls h.1
      rw [tx, List.append_assoc] at hc
      obtain ⟨h1, h2⟩ := ih.cut a (textB s ++ r) l e ⟨ha, fun x hx => h.2 x (by simp [hx])⟩ hc
      obtain ⟨h3, h4⟩ := word_lawful.cut s r _ _ (h.2 s (by simp)) h1
      refine ⟨h3, fun h0 => ?_⟩
      simp only [words] at h0 ⊢
      rw [h4 h0, h2 (word_lawful.own _ _ h0).1]
    · simp only [words] at h ⊢
      obtain ⟨h1, h2, h3⟩ := word_lawful.own _ _ h
      obtain ⟨h4, h5, h6, h7⟩ := ih.own l e h1
      refine ⟨h4, ?_, by simp [h6], ?_⟩
      · rw [tx, List.append_assoc, ← h2]; exact h5
      · intro s hs
        rcases List.mem_append.1 hs with hs | hs
        · exact h7 s hs
        · rw [List.mem_singleton.1 hs]; exact h3

/-- How many texts there are, and these; too many are none. -/
def rowB (ls : List (List UInt8)) : List UInt8 := VarPlain.num ls.length ++ texts ls
def readRow (l : List UInt8) (e : Int) : (Bool × List (List UInt8)) × List UInt8 × Int :=
  if 4096 < (VarPlain.next l e).1 then ((false, []), (VarPlain.next l e).2) else ((true, (words (VarPlain.next l e).2.1 (VarPlain.next l e).2.2 (VarPlain.next l e).1).1), (words (VarPlain.next l e).2.1 (VarPlain.next l e).2.2 (VarPlain.next l e).1).2)
def okRow (ls : List (List UInt8)) : Prop := ls.length ≤ 4096 ∧ ∀ s ∈ ls, Lt64 s.length
theorem readRow_back (ls : List (List UInt8)) (r : List UInt8) (h : okRow ls) : readRow (rowB ls ++ r) 0 = ((true, ls), r, 0) := by
  unfold readRow rowB
  rw [List.append_assoc, next_num _ (by unfold Lt64; have := h.1; omega)]
  simp only []
  rw [if_neg (by have := h.1; omega), (words_lawful ls.length).back ls r ⟨rfl, h.2⟩]
theorem next_bad (l : List UInt8) (e : Int) (h : (VarPlain.next l e).2.2 ≠ 0) : (VarPlain.next l e).1 = 0 := by
  unfold VarPlain.next at h ⊢
  by_cases he : e = 0
  · subst he
    rw [if_neg (by simp)] at h ⊢
    exact (take_bad h).1
  · rw [if_pos he]
theorem readRow_cut (ls : List (List UInt8)) (r l : List UInt8) (e : Int) (h : okRow ls) (hc : Cutt (rowB ls ++ r) l e) :
    Cutt r (readRow l e).2.1 (readRow l e).2.2 ∧ ((readRow l e).2.2 = 0 → (readRow l e).1 = (true, ls)) ∧ (readRow l e).1.1 = true := by
  have hl := h.1
  unfold rowB at hc
  rw [List.append_assoc] at hc
  obtain ⟨h1, h2⟩ := num_lawful.cut _ _ l e (by unfold Lt64; omega) hc
  unfold readRow
  by_cases h0 : (VarPlain.next l e).2.2 = 0
  · have h3 := h2 h0
    rw [if_neg (by omega)]
    rw [h3] at *
    obtain ⟨h4, h5⟩ := (words_lawful ls.length).cut ls r _ _ ⟨rfl, h.2⟩ h1
    exact ⟨h4, fun h6 => by rw [show (words _ _ _).1 = ls from h5 h6], rfl⟩
  · have h3 := next_bad l e h0
    rw [h3, if_neg (by omega)]
    have h4 : (VarPlain.next l e).2.2 = 10 := by
      rcases h1 with h1 | ⟨h1, _⟩
      · exact h1
      · exact absurd h1 h0
    exact ⟨.inl h4, fun h5 => absurd h5 h0, rfl⟩
theorem readRow_own (l : List UInt8) (e : Int) (h : (readRow l e).2.2 = 0) (hf : (readRow l e).1.1 = true) : e = 0 ∧ l = rowB (readRow l e).1.2 ++ (readRow l e).2.1 ∧ okRow (readRow l e).1.2 := by
  unfold readRow at h hf ⊢
  by_cases hb : 4096 < (VarPlain.next l e).1
  · rw [if_pos hb] at hf; simp at hf
  · rw [if_neg hb] at h ⊢
    simp only [] at h ⊢
    obtain ⟨h1, h2, h3, h4⟩ := (words_lawful (VarPlain.next l e).1).own _ _ h
    obtain ⟨h5, h6, h7⟩ := next_own l e h1
    refine ⟨h5, ?_, by unfold okRow; rw [h3]; exact ⟨by omega, h4⟩⟩
    unfold rowB
    rw [h3, List.append_assoc, ← h2]
    exact h6
theorem readRow_e (l : List UInt8) (e : Int) (h : (readRow l e).2.2 = 0) : e = 0 := by
  unfold readRow at h
  by_cases hb : 4096 < (VarPlain.next l e).1
  · rw [if_pos hb] at h; exact (next_own l e h).1
  · rw [if_neg hb] at h
    exact (next_own l e ((words_lawful (VarPlain.next l e).1).own _ _ h).1).1

end Go.Proofs.Ytgbnfipbedlmhaa

/-! EvPlain2 -/
set_option linter.unusedVariables false
namespace Go.Proofs.Ytgbnfipbedlmhaa
open Go.RowKit Base

def I64 (x : Int) : Prop := -9223372036854775808 ≤ x ∧ x ≤ 9223372036854775807
theorem zig_lt {x : Int} (h : I64 x) : Lt64 (VarPlain.zig x) := by
  unfold I64 at h; unfold Lt64 VarPlain.zig; split <;> omega
theorem zag_i64 {y : Nat} (h : Lt64 y) : I64 (VarPlain.zag y) := by
  unfold Lt64 at h; unfold I64 VarPlain.zag; split <;> omega

structure Req where
  kind : Int
  n : Int
  m : Int
  text : List UInt8
  list : List (List UInt8)
structure Ans where
  kind : Int
  err : Int
  n : Int
  m : Int
  text : List UInt8
  list : List (List UInt8)
  sig : Int
def Req.zero : Req := ⟨0, 0, 0, [], []⟩
def Ans.zero : Ans := ⟨0, 0, 0, 0, [], [], 0⟩

/-- The error at the end: the reader's own; ErrForm, if it may not be; ErrLeft, if bytes are left. -/
def endR (right : Bool) (l : List UInt8) (e : Int) : Int := if e ≠ 0 then e else if right = false then 11 else if l = [] then 0 else 14

def askB (q : Req) : List UInt8 := VarPlain.num q.kind.toNat ++ (VarPlain.num (VarPlain.zig q.n) ++ (VarPlain.num (VarPlain.zig q.m) ++ (textB q.text ++ rowB q.list)))
def rightB (q : Req) : Bool := decide (1 ≤ q.kind) && decide (q.kind ≤ 11) && decide (q.list.length ≤ 4096)
structure Req.Fine (q : Req) : Prop where
  n : I64 q.n
  m : I64 q.m
  text : Lt64 q.text.length
  list : ∀ s ∈ q.list, Lt64 s.length

def q1 (b : List UInt8) := VarPlain.next b 0
def q2 (b : List UInt8) := VarPlain.next (q1 b).2.1 (q1 b).2.2
def q3 (b : List UInt8) := VarPlain.next (q2 b).2.1 (q2 b).2.2
def q4 (b : List UInt8) := VarPlain.word (q3 b).2.1 (q3 b).2.2
def q5 (b : List UInt8) := readRow (q4 b).2.1 (q4 b).2.2
def askedRight (b : List UInt8) : Bool := decide (0 < (q1 b).1) && decide ((q1 b).1 < 12) && (q5 b).1.1
def askedE (b : List UInt8) : Int := endR (askedRight b) (q5 b).2.1 (q5 b).2.2
def askedQ (b : List UInt8) : Req := if askedE b = 0 then ⟨((q1 b).1 : Int), VarPlain.zag (q2 b).1, VarPlain.zag (q3 b).1, (q4 b).1, (q5 b).1.2⟩ else Req.zero

theorem rightB_iff (q : Req) : rightB q = true ↔ 1 ≤ q.kind ∧ q.kind ≤ 11 ∧ q.list.length ≤ 4096 := by
  unfold rightB; simp [and_assoc]

theorem asked_run (q : Req) (h : q.Fine) (hr : rightB q = true) (r : List UInt8) :
    q1 (askB q ++ r) = (q.kind.toNat, VarPlain.num (VarPlain.zig q.n) ++ (VarPlain.num (VarPlain.zig q.m) ++ (textB q.text ++ (rowB q.list ++ r))), 0) ∧
    q2 (askB q ++ r) = (VarPlain.zig q.n, VarPlain.num (VarPlain.zig q.m) ++ (textB q.text ++ (rowB q.list ++ r)), 0) ∧
    q3 (askB q ++ r) = (VarPlain.zig q.m, textB q.text ++ (rowB q.list ++ r), 0) ∧
    q4 (askB q ++ r) = (q.text, rowB q.list ++ r, 0) ∧ q5 (askB q ++ r) = ((true, q.list), r, 0) := by
  obtain ⟨h1, h2, h3⟩ := (rightB_iff q).1 hr
  have e1 : q1 (askB q ++ r) = (q.kind.toNat, VarPlain.num (VarPlain.zig q.n) ++ (VarPlain.num (VarPlain.zig q.m) ++ (textB q.text ++ (rowB q.list ++ r))), 0) := by
    unfold q1 askB
    simp only [List.append_assoc]
    exact next_num _ (by unfold Lt64; omega) _
  have e2 : q2 (askB q ++ r) = (VarPlain.zig q.n, VarPlain.num (VarPlain.zig q.m) ++ (textB q.text ++ (rowB q.list ++ r)), 0) := by
    unfold q2; rw [e1]; exact next_num _ (zig_lt h.n) _
  have e3 : q3 (askB q ++ r) = (VarPlain.zig q.m, textB q.text ++ (rowB q.list ++ r), 0) := by
    unfold q3; rw [e2]; exact next_num _ (zig_lt h.m) _
  have e4 : q4 (askB q ++ r) = (q.text, rowB q.list ++ r, 0) := by
    unfold q4; rw [e3]; exact word_lawful.back _ _ h.text
  have e5 : q5 (askB q ++ r) = ((true, q.list), r, 0) := by
    unfold q5; rw [e4]; exact readRow_back _ _ ⟨h3, h.list⟩
  exact ⟨e1, e2, e3, e4, e5⟩

theorem asked_right (q : Req) (h : q.Fine) (hr : rightB q = true) (r : List UInt8) : askedRight (askB q ++ r) = true := by
  obtain ⟨e1, _, _, _, e5⟩ := asked_run q h hr r
  obtain ⟨h1, h2, h3⟩ := (rightB_iff q).1 hr
  unfold askedRight
  rw [e1, e5]
  simp
  omega
theorem asked_back (q : Req) (h : q.Fine) (hr : rightB q = true) : askedE (askB q) = 0 ∧ askedQ (askB q) = q := by
  have hR := asked_right q h hr []
  obtain ⟨e1, e2, e3, e4, e5⟩ := asked_run q h hr []
  rw [List.append_nil] at hR e1 e2 e3 e4 e5
  obtain ⟨h1, h2, h3⟩ := (rightB_iff q).1 hr
  have hE : askedE (askB q) = 0 := by unfold askedE; rw [hR, e5]; rfl
  refine ⟨hE, ?_⟩
  unfold askedQ
  rw [if_pos hE, e1, e2, e3, e4, e5, VarPlain.zag_zig, VarPlain.zag_zig]
  cases q
  simp at *
  omega
theorem asked_more (q : Req) (h : q.Fine) (hr : rightB q = true) (c : UInt8) : askedE (askB q ++ [c]) = 14 := by
  have hR := asked_right q h hr [c]
  obtain ⟨_, _, _, _, e5⟩ := asked_run q h hr [c]
  unfold askedE
  rw [hR, e5]
  rfl
theorem asked_cut (q : Req) (h : q.Fine) (hr : rightB q = true) (k : Nat) (hk : k < (askB q).length) : askedE ((askB q).take k) = 10 := by
  obtain ⟨h1, h2, h3⟩ := (rightB_iff q).1 hr
  have c0 : Cutt (askB q) ((askB q).take k) 0 := .inr ⟨rfl, k, hk, rfl⟩
  generalize (askB q).take k = b at c0 ⊢
  have c1 := (num_lawful.cut q.kind.toNat _ _ _ (by unfold Lt64; omega) (by unfold askB at c0; exact c0)).1
  have c2 := (num_lawful.cut _ _ _ _ (zig_lt h.n) c1).1
  have c3 := (num_lawful.cut _ _ _ _ (zig_lt h.m) c2).1
  have c4 := (word_lawful.cut _ _ _ _ h.text c3).1
  rw [← List.append_nil (rowB q.list)] at c4
  have c5 := (readRow_cut _ _ _ _ ⟨h3, h.list⟩ c4).1
  have c6 := cutt_nil c5
  have e : (q5 b).2.2 = 10 := c6
  unfold askedE endR
  rw [e]
  simp

theorem endR_zero {right : Bool} {l : List UInt8} {e : Int} (h : endR right l e = 0) : e = 0 ∧ right = true ∧ l = [] := by
  unfold endR at h
  by_cases he : e = 0
  · rw [if_neg (by simpa using he)] at h
    cases right
    · simp at h
    · simp at h
      exact ⟨he, rfl, h⟩
  · rw [if_pos he] at h
    exact absurd h he
theorem asked_own (b : List UInt8) (h : askedE b = 0) : (askedQ b).Fine ∧ rightB (askedQ b) = true ∧ askB (askedQ b) = b := by
  obtain ⟨h1, h2, h3⟩ := endR_zero h
  have hr : 0 < (q1 b).1 ∧ (q1 b).1 < 12 ∧ (q5 b).1.1 = true := by
    unfold askedRight at h2
    simpa [and_assoc] using h2
  obtain ⟨a5, b5, c5⟩ := readRow_own _ _ h1 hr.2.2
  obtain ⟨a4, b4, c4⟩ := word_own _ _ a5
  obtain ⟨a3, b3, c3⟩ := next_own _ _ a4
  obtain ⟨a2, b2, c2⟩ := next_own _ _ a3
  obtain ⟨a1, b1, c1⟩ := next_own _ _ a2
  have e : askedQ b = ⟨((q1 b).1 : Int), VarPlain.zag (q2 b).1, VarPlain.zag (q3 b).1, (q4 b).1, (q5 b).1.2⟩ := by unfold askedQ; rw [if_pos h]
  rw [e]
  refine ⟨⟨zag_i64 c2, zag_i64 c3, c4, c5.2⟩, ?_, ?_⟩
  · rw [rightB_iff]
    exact ⟨by simp only []; omega, by simp only []; omega, c5.1⟩
  · unfold askB
    simp only [VarPlain.zig_zag, Int.toNat_natCast]
    have r5 : rowB (q5 b).1.2 = (q4 b).2.1 := by
      have := b5
      rw [show (readRow (q4 b).2.1 (q4 b).2.2) = q5 b from rfl, h3, List.append_nil] at this
      exact this.symm
    rw [r5]
    have r4 : textB (q4 b).1 ++ (q4 b).2.1 = (q3 b).2.1 := b4.symm
    rw [r4]
    have r3 : VarPlain.num (q3 b).1 ++ (q3 b).2.1 = (q2 b).2.1 := b3.symm
    rw [r3]
    have r2 : VarPlain.num (q2 b).1 ++ (q2 b).2.1 = (q1 b).2.1 := b2.symm
    rw [r2]
    exact b1.symm

/-! ### Answers -/
def tellB (a : Ans) : List UInt8 := VarPlain.num a.kind.toNat ++ (VarPlain.num a.err.toNat ++ (VarPlain.num (VarPlain.zig a.n) ++ (VarPlain.num (VarPlain.zig a.m) ++ (textB a.text ++ (rowB a.list ++ VarPlain.num a.sig.toNat)))))
def fitsB (k : Int) (a : Ans) : Bool := decide (a.kind = k) && decide (1 ≤ k) && decide (k ≤ 11) && decide (0 ≤ a.err) && decide (a.err ≤ 255) && decide (0 ≤ a.sig) && decide (a.sig ≤ 64) && decide (a.list.length ≤ 4096)
structure Ans.Fine (a : Ans) : Prop where
  n : I64 a.n
  m : I64 a.m
  text : Lt64 a.text.length
  list : ∀ s ∈ a.list, Lt64 s.length
theorem fitsB_iff (k : Int) (a : Ans) : fitsB k a = true ↔ a.kind = k ∧ 1 ≤ k ∧ k ≤ 11 ∧ 0 ≤ a.err ∧ a.err ≤ 255 ∧ 0 ≤ a.sig ∧ a.sig ≤ 64 ∧ a.list.length ≤ 4096 := by
  unfold fitsB; simp [and_assoc]

def t1 (b : List UInt8) := VarPlain.next b 0
def t2 (b : List UInt8) := VarPlain.next (t1 b).2.1 (t1 b).2.2
def t3 (b : List UInt8) := VarPlain.next (t2 b).2.1 (t2 b).2.2
def t4 (b : List UInt8) := VarPlain.next (t3 b).2.1 (t3 b).2.2
def t5 (b : List UInt8) := VarPlain.word (t4 b).2.1 (t4 b).2.2
def t6 (b : List UInt8) := readRow (t5 b).2.1 (t5 b).2.2
/-- The signal, if there are not too many texts. -/
def t7 (b : List UInt8) : Nat × List UInt8 × Int := if (t6 b).1.1 = true then VarPlain.next (t6 b).2.1 (t6 b).2.2 else (0, (t6 b).2)
def toldRight (b : List UInt8) : Bool := decide (0 < (t1 b).1) && decide ((t1 b).1 < 12) && decide ((t2 b).1 < 256) && decide ((t7 b).1 < 65) && (t6 b).1.1
def toldE (b : List UInt8) : Int := endR (toldRight b) (t7 b).2.1 (t7 b).2.2
def toldA (b : List UInt8) : Ans := if toldE b = 0 then ⟨((t1 b).1 : Int), ((t2 b).1 : Int), VarPlain.zag (t3 b).1, VarPlain.zag (t4 b).1, (t5 b).1, (t6 b).1.2, ((t7 b).1 : Int)⟩ else Ans.zero

theorem told_run (a : Ans) (h : a.Fine) (hr : fitsB a.kind a = true) (r : List UInt8) :
    t1 (tellB a ++ r) = (a.kind.toNat, VarPlain.num a.err.toNat ++ (VarPlain.num (VarPlain.zig a.n) ++ (VarPlain.num (VarPlain.zig a.m) ++ (textB a.text ++ (rowB a.list ++ (VarPlain.num a.sig.toNat ++ r))))), 0) ∧
    t2 (tellB a ++ r) = (a.err.toNat, VarPlain.num (VarPlain.zig a.n) ++ (VarPlain.num (VarPlain.zig a.m) ++ (textB a.text ++ (rowB a.list ++ (VarPlain.num a.sig.toNat ++ r)))), 0) ∧
    t3 (tellB a ++ r) = (VarPlain.zig a.n, VarPlain.num (VarPlain.zig a.m) ++ (textB a.text ++ (rowB a.list ++ (VarPlain.num a.sig.toNat ++ r))), 0) ∧
    t4 (tellB a ++ r) = (VarPlain.zig a.m, textB a.text ++ (rowB a.list ++ (VarPlain.num a.sig.toNat ++ r)), 0) ∧
    t5 (tellB a ++ r) = (a.text, rowB a.list ++ (VarPlain.num a.sig.toNat ++ r), 0) ∧
    t6 (tellB a ++ r) = ((true, a.list), VarPlain.num a.sig.toNat ++ r, 0) ∧ t7 (tellB a ++ r) = (a.sig.toNat, r, 0) := by
  obtain ⟨_, h1, h2, h3, h4, h5, h6, h7⟩ := (fitsB_iff _ a).1 hr
  have e1 : t1 (tellB a ++ r) = (a.kind.toNat, VarPlain.num a.err.toNat ++ (VarPlain.num (VarPlain.zig a.n) ++ (VarPlain.num (VarPlain.zig a.m) ++ (textB a.text ++ (rowB a.list ++ (VarPlain.num a.sig.toNat ++ r))))), 0) := by
    unfold t1 tellB
    simp only [List.append_assoc]
    exact next_num _ (by unfold Lt64; omega) _
  have e2 : t2 (tellB a ++ r) = (a.err.toNat, VarPlain.num (VarPlain.zig a.n) ++ (VarPlain.num (VarPlain.zig a.m) ++ (textB a.text ++ (rowB a.list ++ (VarPlain.num a.sig.toNat ++ r)))), 0) := by
    unfold t2; rw [e1]; exact next_num _ (by unfold Lt64; omega) _
  have e3 : t3 (tellB a ++ r) = (VarPlain.zig a.n, VarPlain.num (VarPlain.zig a.m) ++ (textB a.text ++ (rowB a.list ++ (VarPlain.num a.sig.toNat ++ r))), 0) := by
    unfold t3; rw [e2]; exact next_num _ (zig_lt h.n) _
  have e4 : t4 (tellB a ++ r) = (VarPlain.zig a.m, textB a.text ++ (rowB a.list ++ (VarPlain.num a.sig.toNat ++ r)), 0) := by
    unfold t4; rw [e3]; exact next_num _ (zig_lt h.m) _
  have e5 : t5 (tellB a ++ r) = (a.text, rowB a.list ++ (VarPlain.num a.sig.toNat ++ r), 0) := by
    unfold t5; rw [e4]; exact word_lawful.back _ _ h.text
  have e6 : t6 (tellB a ++ r) = ((true, a.list), VarPlain.num a.sig.toNat ++ r, 0) := by
    unfold t6; rw [e5]; exact readRow_back _ _ ⟨h7, h.list⟩
  have e7 : t7 (tellB a ++ r) = (a.sig.toNat, r, 0) := by
    unfold t7; rw [e6]; simp only [if_true]; exact next_num _ (by unfold Lt64; omega) _
  exact ⟨e1, e2, e3, e4, e5, e6, e7⟩
theorem told_right (a : Ans) (h : a.Fine) (hr : fitsB a.kind a = true) (r : List UInt8) : toldRight (tellB a ++ r) = true := by
  obtain ⟨e1, e2, _, _, _, e6, e7⟩ := told_run a h hr r
  obtain ⟨_, h1, h2, h3, h4, h5, h6, h7⟩ := (fitsB_iff _ a).1 hr
  unfold toldRight
  rw [e1, e2, e6, e7]
  simp
  omega
theorem told_back (a : Ans) (h : a.Fine) (hr : fitsB a.kind a = true) : toldE (tellB a) = 0 ∧ toldA (tellB a) = a := by
  have hR := told_right a h hr []
  obtain ⟨e1, e2, e3, e4, e5, e6, e7⟩ := told_run a h hr []
  rw [List.append_nil] at hR e1 e2 e3 e4 e5 e6 e7
  obtain ⟨_, h1, h2, h3, h4, h5, h6, h7⟩ := (fitsB_iff _ a).1 hr
  have hE : toldE (tellB a) = 0 := by unfold toldE; rw [hR, e7]; rfl
  refine ⟨hE, ?_⟩
  unfold toldA
  rw [if_pos hE, e1, e2, e3, e4, e5, e6, e7, VarPlain.zag_zig, VarPlain.zag_zig]
  cases a
  simp at *
  omega
theorem told_more (a : Ans) (h : a.Fine) (hr : fitsB a.kind a = true) (c : UInt8) : toldE (tellB a ++ [c]) = 14 := by
  have hR := told_right a h hr [c]
  obtain ⟨_, _, _, _, _, _, e7⟩ := told_run a h hr [c]
  unfold toldE
  rw [hR, e7]
  rfl
theorem told_cut (a : Ans) (h : a.Fine) (hr : fitsB a.kind a = true) (k : Nat) (hk : k < (tellB a).length) : toldE ((tellB a).take k) = 10 := by
  obtain ⟨_, h1, h2, h3, h4, h5, h6, h7⟩ := (fitsB_iff _ a).1 hr
  have c0 : Cutt (tellB a) ((tellB a).take k) 0 := .inr ⟨rfl, k, hk, rfl⟩
  generalize (tellB a).take k = b at c0 ⊢
  have c1 := (num_lawful.cut a.kind.toNat _ _ _ (by unfold Lt64; omega) (by unfold tellB at c0; exact c0)).1
  have c2 := (num_lawful.cut a.err.toNat _ _ _ (by unfold Lt64; omega) c1).1
  have c3 := (num_lawful.cut _ _ _ _ (zig_lt h.n) c2).1
  have c4 := (num_lawful.cut _ _ _ _ (zig_lt h.m) c3).1
  have c5 := (word_lawful.cut _ _ _ _ h.text c4).1
  obtain ⟨c6, _, f6⟩ := readRow_cut _ _ _ _ ⟨h7, h.list⟩ c5
  rw [← List.append_nil (VarPlain.num a.sig.toNat)] at c6
  have c7 := (num_lawful.cut a.sig.toNat _ _ _ (by unfold Lt64; omega) c6).1
  have c8 := cutt_nil c7
  have e : (t7 b).2.2 = 10 := by
    unfold t7
    rw [if_pos (show (t6 b).1.1 = true from f6)]
    exact c8
  unfold toldE endR
  rw [e]
  simp
theorem told_own (b : List UInt8) (h : toldE b = 0) : (toldA b).Fine ∧ fitsB (toldA b).kind (toldA b) = true ∧ tellB (toldA b) = b := by
  obtain ⟨h1, h2, h3⟩ := endR_zero h
  have hr : 0 < (t1 b).1 ∧ (t1 b).1 < 12 ∧ (t2 b).1 < 256 ∧ (t7 b).1 < 65 ∧ (t6 b).1.1 = true := by
    unfold toldRight at h2
    simpa [and_assoc] using h2
  have e7 : t7 b = VarPlain.next (t6 b).2.1 (t6 b).2.2 := by unfold t7; rw [if_pos hr.2.2.2.2]
  rw [e7] at h1
  obtain ⟨a7, b7, c7⟩ := next_own _ _ h1
  obtain ⟨a6, b6, c6⟩ := readRow_own _ _ a7 hr.2.2.2.2
  obtain ⟨a5, b5, c5⟩ := word_own _ _ a6
  obtain ⟨a4, b4, c4⟩ := next_own _ _ a5
  obtain ⟨a3, b3, c3⟩ := next_own _ _ a4
  obtain ⟨a2, b2, c2⟩ := next_own _ _ a3
  obtain ⟨a1, b1, c1⟩ := next_own _ _ a2
  have e : toldA b = ⟨((t1 b).1 : Int), ((t2 b).1 : Int), VarPlain.zag (t3 b).1, VarPlain.zag (t4 b).1, (t5 b).1, (t6 b).1.2, ((t7 b).1 : Int)⟩ := by unfold toldA; rw [if_pos h]
  rw [e]
  refine ⟨⟨zag_i64 c3, zag_i64 c4, c5, c6.2⟩, ?_, ?_⟩
  · rw [fitsB_iff]
    have := c6.1
    simp only []
    refine ⟨trivial, by omega, by omega, by omega, by omega, by omega, by omega, this⟩
  · unfold tellB
    simp only [VarPlain.zig_zag, Int.toNat_natCast]
    have r7 : VarPlain.num (t7 b).1 = (t6 b).2.1 := by
      have h3' := h3
      rw [e7] at h3' ⊢
      rw [h3', List.append_nil] at b7
      exact b7.symm
    rw [r7]
    have r6 : rowB (t6 b).1.2 ++ (t6 b).2.1 = (t5 b).2.1 := b6.symm
    rw [r6]
    have r5 : textB (t5 b).1 ++ (t5 b).2.1 = (t4 b).2.1 := b5.symm
    rw [r5]
    have r4 : VarPlain.num (t4 b).1 ++ (t4 b).2.1 = (t3 b).2.1 := b4.symm
    rw [r4]
    have r3 : VarPlain.num (t3 b).1 ++ (t3 b).2.1 = (t2 b).2.1 := b3.symm
    rw [r3]
    have r2 : VarPlain.num (t2 b).1 ++ (t2 b).2.1 = (t1 b).2.1 := b2.symm
    rw [r2]
    exact b1.symm

end Go.Proofs.Ytgbnfipbedlmhaa

/-! Lits -/
set_option linter.unusedVariables false
namespace Go.Proofs.Ytgbnfipbedlmhaa
open Go.RowKit Base

theorem row_lit {α : Type} {R : World → Nat → Nat → α → Prop} (f : α → Value) (hR : ∀ w b o x, w.cell? ⟨b, o, none⟩ = some (f x) → R w b o x) (w : World) (l : List α) (e : TypeId) (hm : l.length ≤ maxLen) (fr : Nat × Nat := (0, 0)) :
    RowOf R 1 (w.alloc (.cells (l.map f).toArray e fr)) (some ⟨w.heap.size, 0, none⟩) l.length l.length l := by
  refine ⟨rfl, Nat.le_refl _, hm, w.heap.size, 0, .inr rfl, fun k hk => hR _ _ _ _ ?_⟩
  have hh : (w.alloc (.cells (l.map f).toArray e fr)).heap[w.heap.size]? = some (.cells (l.map f).toArray e fr) := heap_alloc_new w _
  unfold World.cell?
  simp only [hh, Nat.zero_add, Nat.mul_one]
  simp [hk]
theorem strs_lit (w : World) (l : List (List UInt8)) (e : TypeId) (hm : l.length ≤ maxLen) : Strs (w.alloc (.cells (l.map fun s => Value.string (str s)).toArray e)) (some ⟨w.heap.size, 0, none⟩) l.length l.length l :=
  row_lit (fun s => Value.string (str s)) (fun _ _ _ _ h => h) w l e hm
theorem u64s_lit (w : World) (l : List Nat) (e : TypeId) (hm : l.length ≤ maxLen) : U64s (w.alloc (.cells (l.map fun x : Nat => Value.int .u64 (x : Int)).toArray e)) (some ⟨w.heap.size, 0, none⟩) l.length l.length l :=
  row_lit (fun x : Nat => Value.int .u64 (x : Int)) (fun _ _ _ _ h => h) w l e hm

end Go.Proofs.Ytgbnfipbedlmhaa
