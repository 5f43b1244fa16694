/-
  Lexer: LexerLines answers true. Conditions: the table of signs lies there.
-/
import Derived.Test.YtahipkigpjohnaaGreatDoorLxAwake
import Derived.Test.YtahipkigpjohnaaGreatDoorLxLines
set_option linter.unusedVariables false
set_option linter.unusedSimpArgs false
set_option maxRecDepth 100000
namespace Go.Proofs.YtahipkigpjohnaaGreatDoor
open Go.RowKit Base Lx

theorem nl_take (s : Nm) (k : Nat) (h : k < s.length) : nl (s.take (k + 1)) = if s[k] = 10 then nl (s.take k) + 1 else nl (s.take k) := by
  unfold nl
  rw [List.take_succ_eq_append_getElem h, List.count_append, List.count_singleton]
  by_cases h2 : s[k] = 10
  · simp [h2]
  · simp [h2]
/-- The line of the token ahead; 1 at the start. -/
def lastAt (l : List Tok) (i : Nat) : Nat := match l[i - 1]? with
  | some t => if i = 0 then 1 else t.ln
  | none => 1
theorem lastAt_0 (l : List Tok) : lastAt l 0 = 1 := by unfold lastAt; split <;> simp
theorem lastAt_s (l : List Tok) (i : Nat) (h : i < l.length) : lastAt l (i + 1) = l[i].ln := by
  unfold lastAt
  rw [Nat.add_sub_cancel, List.getElem?_eq_getElem h]
  simp
theorem lnOk_at {lo hi : Nat} : ∀ {l : List Tok} (i : Nat) (h : i < l.length), LnOk lo hi l → (if i = 0 then lo else (l[i - 1]'(by omega)).ln) ≤ l[i].ln ∧ l[i].ln ≤ hi
  | t :: r, 0, h, hl => ⟨hl.1, hl.2.1⟩
  | t :: r, i + 1, h, hl => by
    have := lnOk_at i (by simpa using h) hl.2.2
    rw [if_neg (by omega)]
    cases i with
    | zero => simpa using this
    | succ i => simpa using this
theorem lastAt_le {hi : Nat} {l : List Tok} {i : Nat} (h : i < l.length) (hl : LnOk 1 hi l) : lastAt l i ≤ l[i].ln ∧ l[i].ln ≤ hi := by
  have h1 := lnOk_at i h hl
  refine ⟨?_, h1.2⟩
  cases i with
  | zero => rw [lastAt_0]; exact h1.1
  | succ i => rw [lastAt_s l i (by omega)]; simpa using h1.1
theorem cnt3_take (l : List Tok) (i : Nat) (h : i < l.length) : cnt3 (l.take (i + 1)) = if l[i].k = 3 then cnt3 (l.take i) + 1 else cnt3 (l.take i) := by
  unfold cnt3
  rw [List.take_succ_eq_append_getElem h, List.countP_append, List.countP_singleton]
  by_cases h2 : l[i].k = 3
  · simp [h2]
  · simp [h2]
/-- The cells of a token of a row. -/
theorem tok_cells {W : World} {b1 z : Nat} {t : Tok} (h : Ap.cellsAt tkC W b1 z t) : W.cell? ⟨b1, z, none⟩ = some (.int .i64 (t.k : Int)) ∧ W.cell? ⟨b1, z + 1, none⟩ = some (.string (str t.t)) ∧ W.cell? ⟨b1, z + 2, none⟩ = some (.string (str t.b)) ∧ W.cell? ⟨b1, z + 3, none⟩ = some (.int .i64 (t.ln : Int)) :=
  ⟨h 0 _ rfl, h 1 _ rfl, h 2 _ rfl, h 3 _ rfl⟩
set_option maxHeartbeats 8000000 in
theorem lines_calls (W : World) (s : Nm) (hO : SigT W) : Calls Tryz.prog 4 #[.string (str s)] W fun r W' => r = .returned (.bool true) ∧ Below W.heap.size W W' := by
  have HO := Lib.hid hO
  clear hO
  have e1 : (str s).size = s.length := rfl
  go_enter Tryz.func4, Tryz.ntmps4
  go_wp2_with fail
  refine (awake_calls W HO.out).mono ?_
  rintro r w1 ⟨rfl, hb1⟩
  have HB1 := Lib.hid hb1
  have HO1 := Lib.hid (HO.out.below hb1 HO.out.lt)
  clear hb1
  by_cases hlong : 3000 < s.length
  · have a1 : decide ((3000 : Int) < ((str s).size : Int)) = true := decide_eq_true (by omega)
    have a2 : (3000 : Int) < ((str s).size : Int) := by omega
    go_wp2_with fail
    go_ret
    exact ⟨rfl, HB1.out⟩
  have a1 : decide ((3000 : Int) < ((str s).size : Int)) = false := decide_eq_false (by omega)
  have a2 : ¬ ((3000 : Int) < ((str s).size : Int)) := by omega
  have hs : s.length ≤ 3000 := by omega
  go_wp2_with fail
  refine (all_calls w1 s (by omega) HO1.out).mono ?_
  rintro r w2 ⟨hb2, hr⟩
  have HB2 := Lib.hid (HB1.out.trans (hb2.mono HB1.out.size))
  have HLs := Lib.hid (all_lines s)
  clear hb2 hlong a1 a2
  obtain ⟨X, hX⟩ : ∃ X, allM s = X := ⟨_, rfl⟩
  rw [hX] at hr HLs
  clear hX
  cases X with
  | error x =>
    obtain rfl := hr
    obtain ⟨e, g⟩ := x
    obtain ⟨he, hg1, hg2⟩ : E2 e ∧ 1 ≤ g ∧ g ≤ 1 + nl s := HLs.out
    go_upto_region 9 with fail
    go_loopw [7, 8] (fun v7 v8 wr => ∃ k : Nat, k ≤ s.length ∧ v8 = .int .i64 (k : Int) ∧ v7 = .int .i64 ((1 + nl (s.take k) : Nat) : Int) ∧ wr = w2) (fun _ v8 _ => (match v8 with | .int _ z => s.length - z.toNat | _ => 0))
    case atStart => exact ⟨0, Nat.zero_le _, rfl, rfl, rfl⟩
    case round =>
      obtain ⟨k, hk, rfl, rfl, hw⟩ := hrel
      have hw2 := hw.symm
      subst hw2
      clear hw
      by_cases hks : k < s.length
      · have hix := fun w => Sw.run_at (P := Tryz.prog) (w := w) Tryz.underlying9 s .i64 k hks
        have hn := nl_take s k hks
        have hnl : nl (s.take k) ≤ 3000 := by have := nl_le (s.take k); rw [List.length_take] at this; omega
        obtain ⟨c, hc⟩ : ∃ c, s[k] = c := ⟨_, rfl⟩
        rw [hc] at hix hn
        obtain ⟨m, hm⟩ : ∃ m, nl (s.take k) = m := ⟨_, rfl⟩
        rw [hm] at hn hnl ⊢
        have a3 : decide (k < (str s).size) = true := decide_eq_true (by omega)
        have a1 : decide ((k : Int) < ((str s).size : Int)) = true := decide_eq_true (by omega)
        have a2 : (k : Int) < ((str s).size : Int) := by omega
        clear hc hm
        by_cases h10 : c = 10
        · subst h10
          have HNx : Hid (nl (s.take (k + 1)) = m + 1) := by show _ = _; rw [hn, if_pos rfl]
          have hb1 : (10 : UInt8).toNat = 10 := rfl
          clear hn hks
          go_wp2_with fail
          go_roundw
          case rel => exact ⟨k + 1, by omega, by go_num, by rw [HNx.out]; go_num, trivial⟩
          case measure => simp; omega
        · have HNx : Hid (nl (s.take (k + 1)) = m) := by show _ = _; rw [hn, if_neg h10]
          have d0 : ¬ (c.toNat : Int) = 10 := fun e => h10 (UInt8.toNat_inj.1 (by show c.toNat = 10; omega))
          have d1 : ((c.toNat : Int) == 10) = false := by simpa using d0
          have d2 : decide ((c.toNat : Int) = 10) = false := decide_eq_false d0
          clear hn hks h10
          go_wp2_with fail
          go_roundw
          case rel => exact ⟨k + 1, by omega, by go_num, by rw [HNx.out], trivial⟩
          case measure => simp; omega
      · obtain rfl : k = s.length := by omega
        rw [List.take_length]
        have a3 : decide (s.length < (str s).size) = false := decide_eq_false (by omega)
        have a1 : decide ((s.length : Int) < ((str s).size : Int)) = false := decide_eq_false (by omega)
        have a2 : ¬ ((s.length : Int) < ((str s).size : Int)) := by omega
        clear hks
        obtain ⟨K, hK⟩ : ∃ K, 1 + nl s = K := ⟨_, rfl⟩
        rw [hK] at hg2 ⊢
        have hKb : K ≤ 3001 := by have := nl_le s; omega
        clear hK
        have b3 : decide (g ≤ K) = true := decide_eq_true (by omega)
        have b1 : decide ((g : Int) ≤ (K : Int)) = true := decide_eq_true (by omega)
        have b2 : (g : Int) ≤ (K : Int) := by omega
        have c1 : decide ((1 : Int) ≤ (g : Int)) = true := decide_eq_true (by omega)
        have c2 : (1 : Int) ≤ (g : Int) := by omega
        rcases he with rfl | rfl
        · go_wp2_with fail
          go_ret
          exact ⟨rfl, HB2.out⟩
        · go_wp2_with fail
          go_ret
          exact ⟨rfl, HB2.out⟩
  | ok l =>
    obtain ⟨v, rfl, hown⟩ := hr
    obtain ⟨l', rfl, hln, hkk, hcnt⟩ : ∃ l' : List Tok, l = l' ++ [(⟨4, [], [], 1 + nl s⟩ : Tok)] ∧ LnOk 1 (1 + nl s) l' ∧ (∀ t ∈ l', kOk t) ∧ cnt3 l' + 1 ≤ 1 + nl s := HLs.out
    have HLn : Hid (LnOk 1 (1 + nl s) (l' ++ [⟨4, [], [], 1 + nl s⟩])) := lnOk_add hln rfl (by omega)
    have HKk := Lib.hid hkk
    have HCn : Hid (cnt3 (l' ++ [⟨4, [], [], 1 + nl s⟩]) + 1 ≤ 1 + nl s) := by
      show _ ≤ _
      unfold cnt3 at hcnt ⊢
      rw [List.countP_append]
      simpa using hcnt
    obtain ⟨n, hn⟩ : ∃ n, l'.length = n := ⟨_, rfl⟩
    have hll : (l' ++ [(⟨4, [], [], 1 + nl s⟩ : Tok)]).length = n + 1 := by simp [hn]
    have HEnd : Hid ((l' ++ [(⟨4, [], [], 1 + nl s⟩ : Tok)])[n]? = some ⟨4, [], [], 1 + nl s⟩) := by
      show _ = _
      rw [← hn, List.getElem?_append_right (Nat.le_refl _), Nat.sub_self]; rfl
    have HMem : Hid (∀ k, k < n → ∀ t, (l' ++ [(⟨4, [], [], 1 + nl s⟩ : Tok)])[k]? = some t → kOk t) := fun k hk t ht => by
      rw [List.getElem?_append_left (by rw [hn]; exact hk)] at ht
      exact HKk.out t (List.mem_of_getElem? ht)
    obtain ⟨a3, q3, hv, b1, off, hcs, hix3⟩ := toks_at hown
    subst hv
    have hnb : n + 1 ≤ 9223372036854775807 := by
      obtain ⟨_, cap, _, h1, h2, _⟩ := ownsRow_slice hown
      rw [hll] at h1
      unfold maxLen at h2
      omega
    generalize l' ++ [(⟨4, [], [], 1 + nl s⟩ : Tok)] = l at *
    rw [hll] at hix3
    have HCs := Lib.hid hcs
    have HIx3 := Lib.hid hix3
    have HLl := Lib.hid hll
    rw [hll]
    clear hln hkk hcnt hn hown hcs hix3 hll
    go_upto_region 9 with fail
    go_loopw [7, 8] (fun v7 v8 wr => ∃ k : Nat, k ≤ s.length ∧ v8 = .int .i64 (k : Int) ∧ v7 = .int .i64 ((1 + nl (s.take k) : Nat) : Int) ∧ wr = w2) (fun _ v8 _ => (match v8 with | .int _ z => s.length - z.toNat | _ => 0))
    case atStart => exact ⟨0, Nat.zero_le _, rfl, rfl, rfl⟩
    case round =>
      obtain ⟨k, hk, rfl, rfl, hw⟩ := hrel
      have hw2 := hw.symm
      subst hw2
      clear hw
      by_cases hks : k < s.length
      · have hix := fun w => Sw.run_at (P := Tryz.prog) (w := w) Tryz.underlying9 s .i64 k hks
        have hn := nl_take s k hks
        have hnl : nl (s.take k) ≤ 3000 := by have := nl_le (s.take k); rw [List.length_take] at this; omega
        obtain ⟨c, hc⟩ : ∃ c, s[k] = c := ⟨_, rfl⟩
        rw [hc] at hix hn
        obtain ⟨m, hm⟩ : ∃ m, nl (s.take k) = m := ⟨_, rfl⟩
        rw [hm] at hn hnl ⊢
        have a3 : decide (k < (str s).size) = true := decide_eq_true (by omega)
        have a1 : decide ((k : Int) < ((str s).size : Int)) = true := decide_eq_true (by omega)
        have a2 : (k : Int) < ((str s).size : Int) := by omega
        clear hc hm
        by_cases h10 : c = 10
        · subst h10
          have HNx : Hid (nl (s.take (k + 1)) = m + 1) := by show _ = _; rw [hn, if_pos rfl]
          have hb1 : (10 : UInt8).toNat = 10 := rfl
          clear hn hks
          go_wp2_with fail
          go_roundw
          case rel => exact ⟨k + 1, by omega, by go_num, by rw [HNx.out]; go_num, trivial⟩
          case measure => simp; omega
        · have HNx : Hid (nl (s.take (k + 1)) = m) := by show _ = _; rw [hn, if_neg h10]
          have d0 : ¬ (c.toNat : Int) = 10 := fun e => h10 (UInt8.toNat_inj.1 (by show c.toNat = 10; omega))
          have d1 : ((c.toNat : Int) == 10) = false := by simpa using d0
          have d2 : decide ((c.toNat : Int) = 10) = false := decide_eq_false d0
          clear hn hks h10
          go_wp2_with fail
          go_roundw
          case rel => exact ⟨k + 1, by omega, by go_num, by rw [HNx.out], trivial⟩
          case measure => simp; omega
      · obtain rfl : k = s.length := by omega
        rw [List.take_length]
        have a3 : decide (s.length < (str s).size) = false := decide_eq_false (by omega)
        have a1 : decide ((s.length : Int) < ((str s).size : Int)) = false := decide_eq_false (by omega)
        have a2 : ¬ ((s.length : Int) < ((str s).size : Int)) := by omega
        clear hks
        obtain ⟨K, hK⟩ : ∃ K, 1 + nl s = K := ⟨_, rfl⟩
        rw [hK] at HLn HCn HEnd ⊢
        have hKb : K ≤ 3001 := by have := nl_le s; omega
        clear hK
        go_upto_region 18 with fail
        go_loopw [9, 10, 11] (fun v9 v10 v11 wr => ∃ k : Nat, k ≤ n + 1 ∧ v11 = .int .i64 (k : Int) ∧ v9 = .int .i64 (lastAt l k : Int) ∧ v10 = .int .i64 (cnt3 (l.take k) : Int) ∧ wr = w2) (fun _ _ v11 _ => (match v11 with | .int _ z => (n + 1) - z.toNat | _ => 0))
        case atStart => exact ⟨0, Nat.zero_le _, rfl, by rw [lastAt_0]; rfl, rfl, rfl⟩
        case round =>
          obtain ⟨k, hk, rfl, rfl, rfl, hw⟩ := hrel
          have hw2 := hw.symm
          subst hw2
          clear hw
          by_cases hkn : k < n + 1
          · have hkl : k < l.length := by rw [HLl.out]; exact hkn
            have hla := lastAt_le hkl HLn.out
            have HLa := Lib.hid (lastAt_s l k hkl)
            have HC3 := Lib.hid (cnt3_take l k hkl)
            obtain ⟨q0, q1, q2, q3⟩ := tok_cells (HCs.out k hkl)
            have hixk := fun w => HIx3.out k w hkn
            have hget : l[k]? = some l[k] := List.getElem?_eq_getElem hkl
            obtain ⟨t, ht⟩ : ∃ t, l[k] = t := ⟨_, rfl⟩
            rw [ht] at hla q0 q1 q2 q3 hget
            have HLa2 : Hid (lastAt l (k + 1) = t.ln) := by show _ = _; rw [HLa.out, ht]
            have HC32 : Hid (cnt3 (l.take (k + 1)) = if t.k = 3 then cnt3 (l.take k) + 1 else cnt3 (l.take k)) := by show _ = _; rw [HC3.out, ht]
            have hcb : cnt3 (l.take (k + 1)) ≤ 3001 := by
              have h1 : cnt3 (l.take (k + 1)) ≤ cnt3 l := (List.take_sublist _ _).countP_le
              have := HCn.out
              omega
            obtain ⟨z, hz⟩ : ∃ z, off + k * 4 = z := ⟨_, rfl⟩
            rw [hz] at q0 q1 q2 q3 hixk
            obtain ⟨lv, hlv⟩ : ∃ lv, lastAt l k = lv := ⟨_, rfl⟩
            obtain ⟨m, hm⟩ : ∃ m, cnt3 (l.take k) = m := ⟨_, rfl⟩
            rw [hlv] at hla ⊢
            rw [hm] at HC32 ⊢
            have u1 : decide ((k : Int) < (n : Int) + 1) = true := decide_eq_true (by omega)
            have u2 : (k : Int) < (n : Int) + 1 := by omega
            have u5 : (k : Int) < ((n + 1 : Nat) : Int) := by omega
            clear HLa HC3 ht hz hlv hm
            by_cases hlast : k = n
            · subst hlast
              have hte : t = ⟨4, [], [], K⟩ := by have := HEnd.out; rw [hget] at this; exact Option.some.inj this
              subst hte
              have HC33 : Hid (cnt3 (l.take (k + 1)) = m) := by show _ = _; rw [HC32.out, if_neg (show ¬ (4 : Nat) = 3 by decide)]
              have hla : lv ≤ K ∧ K ≤ K := hla
              have a3 : decide (K < lv) = false := decide_eq_false (by omega)
              have a1 : decide ((K : Int) < (lv : Int)) = false := decide_eq_false (by omega)
              have a2 : ¬ ((K : Int) < (lv : Int)) := by omega
              have bb3 : decide (K < K) = false := decide_eq_false (by omega)
              have bb1 : decide ((K : Int) < (K : Int)) = false := decide_eq_false (by omega)
              have bb2 : ¬ ((K : Int) < (K : Int)) := by omega
              have q3 : w2.cell? ⟨b1, z + 3, none⟩ = some (.int .i64 (K : Int)) := q3
              have q2 : w2.cell? ⟨b1, z + 2, none⟩ = some (.string (str [])) := q2
              have q0 : w2.cell? ⟨b1, z, none⟩ = some (.int .i64 4) := q0
              have s1 : ((str []).toList == []) = true := by rw [str_tl2]; rfl
              have hcb2 : m ≤ 3001 := by rw [HC33.out] at hcb; exact hcb
              clear hget hcb hkl
              clear hla
              go_wp2_with fail
              go_roundw
              case rel => exact ⟨k + 1, by omega, by go_num, by rw [HLa2.out], by rw [HC33.out], trivial⟩
              case measure => simp
            · have hkn2 : k < n := by omega
              obtain ⟨hk4, hbe⟩ := HMem.out k hkn2 t hget
              have a3 : decide (t.ln < lv) = false := decide_eq_false (by omega)
              have a1 : decide ((t.ln : Int) < (lv : Int)) = false := decide_eq_false (by omega)
              have a2 : ¬ ((t.ln : Int) < (lv : Int)) := by omega
              have bb3 : decide (K < t.ln) = false := decide_eq_false (by omega)
              have bb1 : decide ((K : Int) < (t.ln : Int)) = false := decide_eq_false (by omega)
              have bb2 : ¬ ((K : Int) < (t.ln : Int)) := by omega
              have v1 : ¬ (k : Int) = (n : Int) := by omega
              have v2 : ((k : Int) == (n : Int)) = false := by simpa using v1
              have v3 : decide ((k : Int) = (n : Int)) = false := decide_eq_false v1
              clear hlast
              rcases hk4 with hk | hk | hk | hk
              · have d0 : w2.cell? ⟨b1, z, none⟩ = some (.int .i64 1) := by rw [q0, hk]; rfl
                have HC33 : Hid (cnt3 (l.take (k + 1)) = m) := by show _ = _; rw [HC32.out, hk]; rfl
                have hcb2 : m + 1 ≤ 3002 := by rw [HC33.out] at hcb; omega
                clear hk q0 q1 hcb hkl hget hkn2 hla
                go_wp2_with fail
                go_roundw
                case rel => exact ⟨k + 1, by omega, by go_num, by rw [HLa2.out], by rw [HC33.out]; try go_num, trivial⟩
                case measure => simp; omega
              · have d0 : w2.cell? ⟨b1, z, none⟩ = some (.int .i64 2) := by rw [q0, hk]; rfl
                have HC33 : Hid (cnt3 (l.take (k + 1)) = m) := by show _ = _; rw [HC32.out, hk]; rfl
                have hb0 : t.b = [] := hbe (by omega)
                rw [hb0] at q2
                have s1 : ((str []).toList == []) = true := by rw [str_tl2]; rfl
                clear hb0
                have hcb2 : m + 1 ≤ 3002 := by rw [HC33.out] at hcb; omega
                clear hk q0 q1 hcb hkl hget hkn2 hla
                go_wp2_with fail
                go_roundw
                case rel => exact ⟨k + 1, by omega, by go_num, by rw [HLa2.out], by rw [HC33.out]; try go_num, trivial⟩
                case measure => simp; omega
              · have d0 : w2.cell? ⟨b1, z, none⟩ = some (.int .i64 3) := by rw [q0, hk]; rfl
                have HC33 : Hid (cnt3 (l.take (k + 1)) = m + 1) := by show _ = _; rw [HC32.out, hk]; rfl
                have hb0 : t.b = [] := hbe (by omega)
                rw [hb0] at q2
                have s1 : ((str []).toList == []) = true := by rw [str_tl2]; rfl
                clear hb0
                have hcb2 : m + 1 ≤ 3002 := by rw [HC33.out] at hcb; omega
                clear hk q0 q1 hcb hkl hget hkn2 hla
                go_wp2_with fail
                go_roundw
                case rel => exact ⟨k + 1, by omega, by go_num, by rw [HLa2.out], by rw [HC33.out]; try go_num, trivial⟩
                case measure => simp; omega
              · have d0 : w2.cell? ⟨b1, z, none⟩ = some (.int .i64 5) := by rw [q0, hk]; rfl
                have HC33 : Hid (cnt3 (l.take (k + 1)) = m) := by show _ = _; rw [HC32.out, hk]; rfl
                have hb0 : t.b = [] := hbe (by omega)
                rw [hb0] at q2
                have s1 : ((str []).toList == []) = true := by rw [str_tl2]; rfl
                clear hb0
                have hcb2 : m + 1 ≤ 3002 := by rw [HC33.out] at hcb; omega
                clear hk q0 q1 hcb hkl hget hkn2 hla
                go_wp2_with fail
                go_roundw
                case rel => exact ⟨k + 1, by omega, by go_num, by rw [HLa2.out], by rw [HC33.out]; try go_num, trivial⟩
                case measure => simp; omega
          · obtain rfl : k = n + 1 := by omega
            have hla := lastAt_s l n (by rw [HLl.out]; omega)
            have hEn := HEnd.out
            have hge : l[n]'(by rw [HLl.out]; omega) = ⟨4, [], [], K⟩ := by rw [List.getElem?_eq_getElem (by rw [HLl.out]; omega)] at hEn; exact Option.some.inj hEn
            obtain ⟨q0, q1, q2, q3⟩ := tok_cells (HCs.out n (by rw [HLl.out]; omega))
            rw [hge] at q0 q1 q2 q3
            have q3 : w2.cell? ⟨b1, off + n * 4 + 3, none⟩ = some (.int .i64 (K : Int)) := q3
            have hixn := fun w => HIx3.out n w (by omega)
            obtain ⟨m, hm⟩ : ∃ m, cnt3 (l.take (n + 1)) = m := ⟨_, rfl⟩
            have hmK : m < K := by
              have h1 : cnt3 (l.take (n + 1)) ≤ cnt3 l := (List.take_sublist _ _).countP_le
              have := HCn.out
              omega
            rw [hm]
            obtain ⟨lv, hlv⟩ : ∃ lv, lastAt l (n + 1) = lv := ⟨_, rfl⟩
            rw [hlv]
            have u1 : decide ((n : Int) + 1 < (n : Int) + 1) = false := decide_eq_false (by omega)
            have u2 : ¬ ((n : Int) + 1 < (n : Int) + 1) := by omega
            have vv3 : decide (m < K) = true := decide_eq_true (by omega)
            have vv1 : decide ((m : Int) < (K : Int)) = true := decide_eq_true (by omega)
            have vv2 : (m : Int) < (K : Int) := by omega
            have u6 : (0 : Int) < (n : Int) + 1 := by omega
            have u7 : decide ((0 : Int) < (n : Int) + 1) = true := decide_eq_true u6
            clear hla hEn hge hm hlv hkn
            go_wp2_with fail
            go_ret
            exact ⟨rfl, HB2.out⟩
end Go.Proofs.YtahipkigpjohnaaGreatDoor
