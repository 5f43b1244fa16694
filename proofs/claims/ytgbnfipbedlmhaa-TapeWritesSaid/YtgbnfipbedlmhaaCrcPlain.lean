/-
  Plain mathematics of the sums of chapter 2 (crc): the register bit by bit, that it is linear over xor, that no step loses anything.
  No program stands here. Conditions: none.
-/
import Derived.Below
namespace Go.Proofs.Ytgbnfipbedlmhaa.CrcPlain

/-- One bit's step of the register. -/
def step (x : BitVec 32) : BitVec 32 := (x >>> 1) ^^^ (if x.getLsbD 0 then 0xEDB88320#32 else 0#32)

/-- n steps. -/
def steps : Nat → BitVec 32 → BitVec 32
  | 0, x => x
  | n + 1, x => steps n (step x)

def byte (x : BitVec 32) (c : UInt8) : BitVec 32 := steps 8 (x ^^^ c.toBitVec.zeroExtend 32)
def run (x : BitVec 32) (l : List UInt8) : BitVec 32 := l.foldl byte x
/-- The sum s with the bytes l behind. -/
def add (s : BitVec 32) (l : List UInt8) : BitVec 32 := ~~~ run (~~~ s) l
def of (l : List UInt8) : BitVec 32 := add 0#32 l
def tail (x : BitVec 32) : List UInt8 := [⟨x.extractLsb' 0 8⟩, ⟨x.extractLsb' 8 8⟩, ⟨x.extractLsb' 16 8⟩, ⟨x.extractLsb' 24 8⟩]

theorem run_nil (x : BitVec 32) : run x [] = x := rfl
theorem run_cons (x : BitVec 32) (c : UInt8) (l : List UInt8) : run x (c :: l) = run (byte x c) l := rfl
theorem run_append (x : BitVec 32) (l m : List UInt8) : run x (l ++ m) = run (run x l) m := by simp [run]
theorem add_append (s : BitVec 32) (l m : List UInt8) : add s (l ++ m) = add (add s l) m := by simp [add, run_append]
theorem add_nil (s : BitVec 32) : add s [] = s := by simp [add, run_nil]

theorem step_zero : step 0#32 = 0#32 := by decide
theorem step_xor (x y : BitVec 32) : step (x ^^^ y) = step x ^^^ step y := by
  unfold step
  rw [BitVec.getLsbD_xor]
  have e : (x ^^^ y) >>> 1 = (x >>> 1) ^^^ (y >>> 1) := by ext i; simp
  rw [e]
  generalize x >>> 1 = p
  generalize y >>> 1 = q
  have c1 : ∀ k : BitVec 32, p ^^^ q ^^^ k = p ^^^ (q ^^^ k) := fun k => BitVec.xor_assoc p q k
  have c2 : ∀ k : BitVec 32, p ^^^ q ^^^ k = p ^^^ k ^^^ q := fun k => by rw [BitVec.xor_assoc, BitVec.xor_comm q k, BitVec.xor_assoc]
  have c3 : ∀ k : BitVec 32, p ^^^ k ^^^ (q ^^^ k) = p ^^^ q := fun k => by
    rw [BitVec.xor_assoc, ← BitVec.xor_assoc k q k, BitVec.xor_comm k q, BitVec.xor_assoc q k k, BitVec.xor_self, BitVec.xor_zero]
  cases x.getLsbD 0 <;> cases y.getLsbD 0
  · simp
  · simpa using c1 0xEDB88320#32
  · simpa using c2 0xEDB88320#32
  · simpa using (c3 0xEDB88320#32).symm
theorem step_ne (x : BitVec 32) (h : step x = 0#32) : x = 0#32 := by
  unfold step at h
  cases hb : x.getLsbD 0 with
  | true =>
    rw [hb] at h
    have h31 : ((x >>> 1) ^^^ (0xEDB88320#32)).getLsbD 31 = false := by simp at h; rw [h]; rfl
    simp at h31
  | false =>
    rw [hb] at h
    simp at h
    ext i hi
    by_cases h0 : i = 0
    · subst h0; rw [← BitVec.getLsbD_eq_getElem hi, hb]; simp
    · have h1 : (x >>> 1).getLsbD (i - 1) = false := by rw [h]; simp
      rw [BitVec.getLsbD_ushiftRight] at h1
      have : 1 + (i - 1) = i := by omega
      rw [this] at h1
      simpa [BitVec.getLsbD_eq_getElem hi] using h1

theorem steps_zero (n : Nat) : steps n 0#32 = 0#32 := by
  induction n with
  | zero => rfl
  | succ n ih => rw [steps, step_zero, ih]
theorem steps_xor (n : Nat) : ∀ x y : BitVec 32, steps n (x ^^^ y) = steps n x ^^^ steps n y := by
  induction n with
  | zero => intro x y; rfl
  | succ n ih => intro x y; rw [steps, step_xor, ih]; rfl
theorem steps_add (m n : Nat) : ∀ x : BitVec 32, steps (m + n) x = steps n (steps m x) := by
  induction m with
  | zero => intro x; simp [steps]
  | succ m ih => intro x; rw [Nat.succ_add]; exact ih (step x)
theorem steps_ne (n : Nat) : ∀ x : BitVec 32, steps n x = 0#32 → x = 0#32 := by
  induction n with
  | zero => intro x h; exact h
  | succ n ih => intro x h; exact step_ne x (ih (step x) h)

theorem byte_xor (x y : BitVec 32) (c d : UInt8) : byte (x ^^^ y) (c ^^^ d) = byte x c ^^^ byte y d := by
  unfold byte
  rw [← steps_xor]
  congr 1
  rw [UInt8.toBitVec_xor]
  ext i hi
  simp [BitVec.getElem_xor]
  cases x[i] <;> cases y[i] <;> cases c.toBitVec.getLsbD i <;> cases d.toBitVec.getLsbD i <;> rfl

/-- Two rows of one length, xored byte by byte. -/
def xors (l m : List UInt8) : List UInt8 := List.zipWith (· ^^^ ·) l m

theorem run_xors (l : List UInt8) : ∀ (m : List UInt8) (x y : BitVec 32), l.length = m.length → run (x ^^^ y) (xors l m) = run x l ^^^ run y m := by
  induction l with
  | nil =>
    intro m x y h
    cases m with
    | nil => rfl
    | cons d m => simp at h
  | cons c l ih =>
    intro m x y h
    cases m with
    | nil => simp at h
    | cons d m =>
      have h' : l.length = m.length := by simpa using h
      show run (byte (x ^^^ y) (c ^^^ d)) (xors l m) = _
      rw [byte_xor, ih m _ _ h']
      rfl

/-- Steps over a register whose low bits are nothing only shift. -/
theorem step_shl (z : BitVec 32) (h : z.getLsbD 31 = false) : step (z <<< 1) = z := by
  unfold step
  have e : (z <<< 1).getLsbD 0 = false := by simp
  rw [e]
  ext i hi
  by_cases h1 : i = 31
  · subst h1; simpa [BitVec.getLsbD_eq_getElem hi] using h
  · simp
    have : (decide (1 + i < 32)) = true := by simp; omega
    rw [this, Bool.true_and, BitVec.getLsbD_eq_getElem hi]

theorem steps_shl (n : Nat) : ∀ z : BitVec 32, (∀ i, 32 - n ≤ i → z.getLsbD i = false) → n ≤ 32 → steps n (z <<< n) = z := by
  induction n with
  | zero => intro z _ _; simp [steps]
  | succ n ih =>
    intro z h hn
    have e : z <<< (n + 1) = (z <<< n) <<< 1 := by rw [BitVec.shiftLeft_add]
    rw [e, steps, step_shl _ (by rw [BitVec.getLsbD_shiftLeft, h _ (by omega)]; simp)]
    exact ih z (fun i hi => h i (by omega)) (by omega)

theorem steps_shl_of (m n : Nat) (z : BitVec 32) (h : ∀ i, 32 - n ≤ i → z.getLsbD i = false) (hn : n ≤ 32) : steps (n + m) (z <<< n) = steps m z := by
  rw [steps_add, steps_shl n z h hn]

theorem byte_steps (m : Nat) (hm : m ≤ 24) (y : BitVec 32) (c : UInt8) : byte (steps m y) c = steps (m + 8) (y ^^^ (c.toBitVec.zeroExtend 32) <<< m) := by
  rw [steps_add m 8, steps_xor m, steps_shl m _ (fun i hi => by simp; intro h1 ; exact BitVec.getLsbD_of_ge _ _ (by omega)) (by omega)]
  rfl

theorem run_four (x : BitVec 32) (a b c d : UInt8) : run x [a, b, c, d] = steps 32 (x ^^^ (a.toBitVec.zeroExtend 32) ^^^ (b.toBitVec.zeroExtend 32) <<< 8 ^^^ (c.toBitVec.zeroExtend 32) <<< 16 ^^^ (d.toBitVec.zeroExtend 32) <<< 24) := by
  have h0 : byte x a = steps 8 (x ^^^ a.toBitVec.zeroExtend 32) := rfl
  rw [run_cons, run_cons, run_cons, run_cons, run_nil, h0, byte_steps 8 (by omega), byte_steps 16 (by omega), byte_steps 24 (by omega)]

theorem word_tail (x y : BitVec 32) : (y ^^^ ((x.extractLsb' 0 8).zeroExtend 32) ^^^ ((x.extractLsb' 8 8).zeroExtend 32) <<< 8 ^^^ ((x.extractLsb' 16 8).zeroExtend 32) <<< 16 ^^^ ((x.extractLsb' 24 8).zeroExtend 32) <<< 24) = y ^^^ x := by
  ext i hi
  simp [BitVec.getElem_xor]
  have hx : x[i] = x.getLsbD i := (BitVec.getLsbD_eq_getElem hi).symm
  rw [hx]
  by_cases h1 : i < 8
  · simp [h1, show i < 16 by omega, show i < 24 by omega]
  · by_cases h2 : i < 16
    · simp [h1, h2, show i < 24 by omega, show i - 8 < 8 by omega, show 8 + (i - 8) = i by omega]
    · by_cases h3 : i < 24
      · simp [h1, h2, h3, show ¬ i - 8 < 8 by omega, show i - 16 < 8 by omega, show 16 + (i - 16) = i by omega]
      · simp [h1, h2, h3, show ¬ i - 8 < 8 by omega, show ¬ i - 16 < 8 by omega, show i - 24 < 8 by omega, show 24 + (i - 24) = i by omega]

theorem run_tail (x y : BitVec 32) : run y (tail x) = steps 32 (y ^^^ x) := by
  unfold tail
  rw [run_four, word_tail]

theorem steps_ones : steps 32 (BitVec.allOnes 32) = 3736805603#32 := by decide +kernel

theorem xor_not_self (x : BitVec 32) : x ^^^ ~~~x = BitVec.allOnes 32 := by
  rw [← BitVec.xor_allOnes, ← BitVec.xor_assoc, BitVec.xor_self, BitVec.zero_xor]

/-- Bytes with their tail behind leave one register, whatever they are. -/
theorem run_of_tail (l : List UInt8) : run (~~~ 0#32) (l ++ tail (of l)) = 3736805603#32 := by
  rw [run_append, run_tail]
  have : run (~~~ 0#32) l ^^^ of l = BitVec.allOnes 32 := xor_not_self _
  rw [this, steps_ones]
theorem add_of_tail (l : List UInt8) : add 0#32 (l ++ tail (of l)) = 558161692#32 := by
  unfold add
  rw [run_of_tail]
  decide

/-! ### Bytes of which some bits are others -/

def flip (l : List UInt8) (p : Nat) : List UInt8 := l.set (p / 8) (l.getD (p / 8) 0 ^^^ UInt8.ofNat (2 ^ (p % 8)))

theorem flip_length (l : List UInt8) (p : Nat) : (flip l p).length = l.length := by simp [flip]

theorem byte_zero (x : BitVec 32) : byte x 0 = steps 8 x := by
  unfold byte
  congr 1
  show x ^^^ (0#8).zeroExtend 32 = x
  simp
theorem run_zeros (n : Nat) : ∀ x : BitVec 32, run x (List.replicate n 0) = steps (8 * n) x := by
  induction n with
  | zero => intro x; rfl
  | succ n ih =>
    intro x
    rw [List.replicate_succ, run_cons, byte_zero, ih, ← steps_add]
    congr 1
    omega
theorem xors_zeros (l : List UInt8) : xors l (List.replicate l.length 0) = l := by
  induction l with
  | nil => rfl
  | cons c l ih =>
    show (c ^^^ 0) :: xors l (List.replicate l.length 0) = _
    rw [ih]; simp

theorem run_shift (l : List UInt8) (x y : BitVec 32) : run (x ^^^ y) l = run x l ^^^ steps (8 * l.length) y := by
  have := run_xors l (List.replicate l.length 0) x y (by simp)
  rwa [xors_zeros, run_zeros] at this

theorem byte_shift (x : BitVec 32) (c d : UInt8) : byte x (c ^^^ d) = byte x c ^^^ steps 8 (d.toBitVec.zeroExtend 32) := by
  have := byte_xor x 0#32 c d
  rw [BitVec.xor_zero] at this
  rw [this]
  congr 1
  unfold byte
  rw [BitVec.zero_xor]

theorem one_shl (k : Nat) (hk : k < 8) : (UInt8.ofNat (2 ^ k)).toBitVec.zeroExtend 32 = (1#32) <<< k := by
  rcases (by omega : k = 0 ∨ k = 1 ∨ k = 2 ∨ k = 3 ∨ k = 4 ∨ k = 5 ∨ k = 6 ∨ k = 7) with h | h | h | h | h | h | h | h <;> subst h <;> decide

theorem one_high (n : Nat) (hn : n < 32) : ∀ i, 32 - n ≤ i → (1#32).getLsbD i = false := by
  intro i hi
  have : (1#32).getLsbD i = decide (i = 0) := by
    rw [BitVec.getLsbD_one]; simp
  rw [this]; simp; omega

theorem run_flip (l : List UInt8) (p : Nat) (hp : p < 8 * l.length) (x : BitVec 32) : run x (flip l p) = run x l ^^^ steps (8 * l.length - p) 1#32 := by
  have hi : p / 8 < l.length := by omega
  have e1 : l = l.take (p / 8) ++ l[p / 8] :: l.drop (p / 8 + 1) := by
    rw [List.getElem_cons_drop, List.take_append_drop]
  have e2 : flip l p = l.take (p / 8) ++ (l[p / 8] ^^^ UInt8.ofNat (2 ^ (p % 8))) :: l.drop (p / 8 + 1) := by
    unfold flip
    rw [List.set_eq_take_append_cons_drop, if_pos hi]
    congr 2
    simp [List.getD, List.getElem?_eq_getElem hi]
  have e3 : run x l = run (byte (run x (l.take (p / 8))) l[p / 8]) (l.drop (p / 8 + 1)) := by
    conv => lhs; rw [e1]
    rw [run_append, run_cons]
  rw [e2, run_append, run_cons, byte_shift, run_shift, ← e3, one_shl _ (by omega), ← steps_add]
  congr 1
  have : 8 + 8 * (l.drop (p / 8 + 1)).length = p % 8 + (8 * l.length - p) := by
    rw [List.length_drop]; omega
  rw [this, steps_shl_of _ _ _ (one_high _ (by omega)) (by omega)]

/-- The low i bits of t. -/
def low (t : BitVec 32) : Nat → BitVec 32
  | 0 => 0#32
  | i + 1 => low t i ^^^ (if t.getLsbD i then (1#32) <<< i else 0#32)
theorem low_bit (t : BitVec 32) (i : Nat) (k : Nat) (hk : k < 32) : (low t i).getLsbD k = (decide (k < i) && t.getLsbD k) := by
  induction i with
  | zero => simp [low]
  | succ i ih =>
    rw [low, BitVec.getLsbD_xor, ih]
    by_cases h : k = i
    · subst h
      cases ht : t.getLsbD k <;> simp [hk]
    · have hz : (if t.getLsbD i then (1#32) <<< i else 0#32).getLsbD k = false := by
        cases t.getLsbD i
        · simp
        · simp; omega
      rw [hz]
      simp [show (k < i + 1) ↔ (k < i) by omega]
theorem low_all (t : BitVec 32) : low t 32 = t := by
  ext k hk
  have := low_bit t 32 k hk
  rw [BitVec.getLsbD_eq_getElem hk, BitVec.getLsbD_eq_getElem hk] at this
  simpa [hk] using this

/-- Bits from 'bit' on are turned where t says so, i of them. -/
def turned (l : List UInt8) (bit : Nat) (t : BitVec 32) : Nat → List UInt8
  | 0 => l
  | i + 1 => if t.getLsbD i then flip (turned l bit t i) (bit + i) else turned l bit t i
theorem turned_length (l : List UInt8) (bit : Nat) (t : BitVec 32) (i : Nat) : (turned l bit t i).length = l.length := by
  induction i with
  | zero => rfl
  | succ i ih => rw [turned]; split <;> simp [flip_length, ih]
theorem run_turned (l : List UInt8) (bit : Nat) (t : BitVec 32) (x : BitVec 32) (hb : bit + 32 ≤ 8 * l.length) : ∀ i, i ≤ 32 →
    run x (turned l bit t i) = run x l ^^^ steps (8 * l.length - bit) (low t i) := by
  intro i
  induction i with
  | zero => intro _; simp [turned, low, steps_zero]
  | succ i ih =>
    intro hi
    rw [turned, low]
    split
    · rw [run_flip _ _ (by rw [turned_length]; omega), ih (by omega), steps_xor, turned_length, BitVec.xor_assoc]
      congr 2
      have : 8 * l.length - bit = i + (8 * l.length - (bit + i)) := by omega
      rw [this, steps_shl_of _ _ _ (one_high _ (by omega)) (by omega)]
    · rw [ih (by omega)]; simp

/-- Bytes and their tail, of which up to 32 bits on end are others, aren't bytes and their tail. -/
theorem turned_ne (l : List UInt8) (bit : Nat) (t : BitVec 32) (ht : t ≠ 0#32) (hb : bit + 32 ≤ 8 * (l.length + 4)) :
    tail (of ((turned (l ++ tail (of l)) bit t 32).take l.length)) ≠ (turned (l ++ tail (of l)) bit t 32).drop l.length := by
  intro h
  have hl : (l ++ tail (of l)).length = l.length + 4 := by simp [tail]
  have h1 := run_of_tail ((turned (l ++ tail (of l)) bit t 32).take l.length)
  rw [h, List.take_append_drop, run_turned _ _ _ _ (by rw [hl]; exact hb) 32 (Nat.le_refl _), run_of_tail, low_all] at h1
  have h2 : steps (8 * (l ++ tail (of l)).length - bit) t = 0#32 := by
    have h3 := congrArg (fun z => 3736805603#32 ^^^ z) h1
    simpa [← BitVec.xor_assoc] using h3
  exact ht (steps_ne _ _ h2)

/-! ### Three rows -/
theorem of_xors (a b c : List UInt8) (h1 : a.length = b.length) (h2 : b.length = c.length) : of (xors (xors a b) c) = of a ^^^ of b ^^^ of c := by
  unfold of add
  have e : ~~~ 0#32 = (~~~ 0#32 ^^^ ~~~ 0#32) ^^^ ~~~ 0#32 := by decide
  have hl : (xors a b).length = c.length := by simp [xors]; omega
  conv => lhs; rw [e]
  rw [run_xors _ _ _ _ hl, run_xors _ _ _ _ h1]
  generalize run (~~~ 0#32) a = p
  generalize run (~~~ 0#32) b = q
  generalize run (~~~ 0#32) c = r
  ext i hi
  simp

end Go.Proofs.Ytgbnfipbedlmhaa.CrcPlain
