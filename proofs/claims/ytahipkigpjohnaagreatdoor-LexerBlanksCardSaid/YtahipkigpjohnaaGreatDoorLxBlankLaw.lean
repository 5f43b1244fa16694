/-
  Lexer: LexerBlanks answers true. Conditions: the table of signs lies there.
-/
import Derived.Test.YtahipkigpjohnaaGreatDoorLxAwake
import Derived.Test.YtahipkigpjohnaaGreatDoorLxBlank
import Derived.Test.YtahipkigpjohnaaGreatDoorLxLinesLaw
set_option linter.unusedVariables false
set_option linter.unusedSimpArgs false
set_option maxRecDepth 100000
namespace Go.Proofs.YtahipkigpjohnaaGreatDoor
open Go.RowKit Base Lx

/-- The tokens with their end. -/
theorem kinds_of {m' : List Tok} {K : Nat} (h : TOks m') : ∀ t ∈ m' ++ [(⟨4, [], [], K⟩ : Tok)], t.k = 1 ∨ t.k = 2 ∨ t.k = 3 ∨ t.k = 5 ∨ t.k = 4 := by
  intro t ht
  rcases List.mem_append.1 ht with ht | ht
  · rcases h t ht with ⟨h, _⟩ | ⟨h, _⟩ | ⟨h, _⟩ | h
    · exact .inl h
    · exact .inr (.inl h)
    · exact .inr (.inr (.inl h))
    · exact .inr (.inr (.inr (.inl h)))
  · rw [List.mem_singleton.1 ht]; exact .inr (.inr (.inr (.inr rfl)))
theorem putOf_12 {t : Tok} (h : t.k = 1 ∨ t.k = 2) : putOf t = 32 :: (t.t ++ [9]) := by unfold putOf; rw [if_pos h]
theorem putOf_3 {t : Tok} (h : t.k = 3) : putOf t = [32, 35, 32, 39, 32, 110, 111, 116, 101, 10] := by unfold putOf; rw [if_neg (by omega), if_pos h]
theorem putOf_4 {t : Tok} (h : t.k = 4) : putOf t = [] := by unfold putOf; rw [if_neg (by omega), if_neg (by omega)]
set_option maxHeartbeats 16000000 in
theorem blanks_calls (W : World) (s : Nm) (hO : SigT W) : Calls Tryz.prog 5 #[.string (str s)] W fun r W' => r = .returned (.bool true) ∧ Below W.heap.size W W' := by
  have HO := Lib.hid hO
  have e1 : (str s).size = s.length := rfl
  clear hO
  go_enter Tryz.func5, Tryz.ntmps5
  go_wp2_with fail
  refine (awake_calls W HO.out).mono ?_
  rintro r w1 ⟨rfl, hb1⟩
  have HB1 := Lib.hid hb1
  have HO1 := Lib.hid (HO.out.below hb1 HO.out.lt)
  clear hb1
  by_cases hl : 1000 < s.length
  · have u1 : decide ((1000 : Int) < ((str s).size : Int)) = true := decide_eq_true (by omega)
    have u2 : (1000 : Int) < ((str s).size : Int) := by omega
    go_wp2_with fail
    go_ret
    exact ⟨rfl, HB1.out⟩
  have u1 : decide ((1000 : Int) < ((str s).size : Int)) = false := decide_eq_false (by omega)
  have u2 : ¬ ((1000 : Int) < ((str s).size : Int)) := by omega
  have hs : s.length ≤ 1000 := by omega
  have HS := Lib.hid hs
  clear hl hs
  go_wp2_with fail
  refine (all_calls w1 s (by have := HS.out; omega) HO1.out).mono ?_
  rintro r w2 ⟨hb2, hr⟩
  have HB2 := Lib.hid (HB1.out.trans (hb2.mono HB1.out.size))
  have HO2 := Lib.hid (HO1.out.below hb2 HO1.out.lt)
  have HLs := Lib.hid (all_lines s)
  clear hb2
  obtain ⟨X, hX⟩ : ∃ X, allM s = X := ⟨_, rfl⟩
  have HX := Lib.hid hX
  rw [hX] at hr HLs
  clear hX
  cases X with
  | error x =>
    obtain rfl := hr
    obtain ⟨e, g⟩ := x
    have he : E2 e := HLs.out.1
    clear u1 u2
    rcases he with rfl | rfl
    · go_wp2_with fail
      go_ret
      exact ⟨rfl, HB2.out⟩
    · go_wp2_with fail
      go_ret
      exact ⟨rfl, HB2.out⟩
  | ok l =>
    obtain ⟨v, rfl, hown⟩ := hr
    obtain ⟨m', hm', hto⟩ := all_toks HX.out
    have HTo := Lib.hid hto
    have HKi : Hid (∀ t ∈ l, t.k = 1 ∨ t.k = 2 ∨ t.k = 3 ∨ t.k = 5 ∨ t.k = 4) := by have := kinds_of (K := 1 + nl s) hto; rw [← hm'] at this; exact this
    have HPu : Hid ((putAll l).length ≤ 12000) := by have h1 := all_put HX.out; have h2 := HS.out; show _ ≤ _; omega
    obtain ⟨n, hn⟩ : ∃ n, l.length = n := ⟨_, rfl⟩
    have HMe := Lib.hid hm'
    obtain ⟨a3, q3, hv, b1, off, hcs, hix3⟩ := toks_at hown
    subst hv
    have hnb : n ≤ 9223372036854775807 := by
      obtain ⟨_, cap, _, h1, h2, _⟩ := ownsRow_slice hown
      rw [hn] at h1
      unfold maxLen at h2
      omega
    rw [hn] at hix3
    have HCs := Lib.hid hcs
    have HIx3 := Lib.hid hix3
    have HLl := Lib.hid hn
    rw [hn]
    clear hn hown hcs hix3 hm' hto HLs u1 u2
    go_wp2_with fail
    go_loopw [7, 8] (fun v7 v8 wr => ∃ k : Nat, k ≤ n ∧ v8 = .int .i64 (k : Int) ∧ v7 = .string (str (putAll (l.take k))) ∧ (∀ t ∈ l.take k, Easy t) ∧ wr = w2) (fun _ v8 _ => (match v8 with | .int _ z => n - z.toNat | _ => 0))
    case atStart => exact ⟨0, Nat.zero_le _, rfl, rfl, fun t ht => by simp at ht, rfl⟩
    case round =>
      obtain ⟨k, hk, rfl, rfl, hez, hw⟩ := hrel
      have hw2 := hw.symm
      subst hw2
      have HEz := Lib.hid hez
      clear hw hez
      by_cases hkn : k < n
      · have hkl : k < l.length := by rw [HLl.out]; exact hkn
        obtain ⟨q0, q1, q2, q3⟩ := tok_cells (HCs.out k hkl)
        have hixk := fun w => HIx3.out k w hkn
        have hpn := putAll_next l k hkl
        have htk := List.take_succ_eq_append_getElem hkl
        have hki := HKi.out _ (List.getElem_mem hkl)
        have hlen : (putAll (l.take (k + 1))).length ≤ 12000 := Nat.le_trans (put_take l (k + 1)) HPu.out
        obtain ⟨t, ht⟩ : ∃ t, l[k] = t := ⟨_, rfl⟩
        obtain ⟨z, hz⟩ : ∃ z, off + k * 4 = z := ⟨_, rfl⟩
        rw [ht] at q0 q1 q2 q3 hpn htk hki
        rw [hz] at q0 q1 q2 q3 hixk
        have HTk := Lib.hid htk
        obtain ⟨B, hB⟩ : ∃ B, putAll (l.take k) = B := ⟨_, rfl⟩
        rw [hB] at hpn ⊢
        have HPn := Lib.hid hpn
        rw [hpn, List.length_append] at hlen
        have u3 : decide (k < n) = true := decide_eq_true (by omega)
        have u1 : decide ((k : Int) < (n : Int)) = true := decide_eq_true (by omega)
        have u2 : (k : Int) < (n : Int) := by omega
        clear ht hz hB htk hpn hkl
        by_cases hb : t.b = []
        · have q2' : w2.cell? ⟨b1, z + 2, none⟩ = some (.string (str [])) := by rw [q2, hb]
          have s1 : ((str []).toList == []) = true := by rw [str_tl2]; rfl
          clear q2 q3
          by_cases hh : t.t = [60, 60]
          · have s2 : ((str t.t).toList == [60, 60]) = true := by rw [str_tl2, hh]; rfl
            clear hb hh hki hlen
            go_wp2_with fail
            go_ret
            exact ⟨rfl, HB2.out⟩
          · have s2 : ((str t.t).toList == [60, 60]) = false := by rw [str_tl2]; simpa using hh
            have hz2 : t.k ≠ 5 → ∀ x ∈ l.take (k + 1), Easy x := fun h5 x hx => by
              rw [HTk.out] at hx
              rcases List.mem_append.1 hx with hx | hx
              · exact HEz.out x hx
              · rw [List.mem_singleton.1 hx]; exact ⟨h5, hh⟩
            have HZ2 := Lib.hid hz2
            have HPn2 : Hid (putAll (l.take (k + 1)) = B ++ putOf t) := HPn
            obtain ⟨x, hx⟩ : ∃ x, t.t = x := ⟨_, rfl⟩
            have HXt := Lib.hid hx
            rw [hx] at q1 s2
            clear hb hh hz2 hx
            rcases hki with hkk | hkk | hkk | hkk | hkk
            · have HEe : Hid (putAll (l.take (k + 1)) = B ++ 32 :: (x ++ [9])) := by show _ = _; rw [HPn2.out, putOf_12 (.inl hkk), HXt.out]
              have hpl : (putOf t).length = x.length + 2 := by rw [putOf_12 (.inl hkk), HXt.out]; simp
              rw [hpl] at hlen
              have HZ3 : Hid (∀ x ∈ l.take (k + 1), Easy x) := HZ2.out (by rw [hkk]; decide)
              have q0' : w2.cell? ⟨b1, z, none⟩ = some (.int .i64 1) := by rw [q0, hkk]; rfl
              have f1 : (⟨#[32]⟩ : ByteArray) ++ str x = str (32 :: x) := str_append [32] x
              have f2 : str (32 :: x) ++ (⟨#[9]⟩ : ByteArray) = str (32 :: (x ++ [9])) := str_append (32 :: x) [9]
              have f3 : str B ++ str (32 :: (x ++ [9])) = str (B ++ 32 :: (x ++ [9])) := str_append _ _
              have z1 : 1 + (str x).size ≤ 9223372036854775807 := by rw [str_size]; omega
              have z2 : (str (32 :: x)).size + 1 ≤ 9223372036854775807 := by rw [str_size]; simp; omega
              have z3 : (str B).size + (str (32 :: (x ++ [9]))).size ≤ 9223372036854775807 := by rw [str_size, str_size]; simp; omega
              clear q0 hkk hlen hpl
              go_wp2_with fail
              go_roundw
              case rel => exact ⟨k + 1, by omega, by go_num, by rw [HEe.out], HZ3.out, trivial⟩
              case measure => simp; omega
            · have HEe : Hid (putAll (l.take (k + 1)) = B ++ 32 :: (x ++ [9])) := by show _ = _; rw [HPn2.out, putOf_12 (.inr hkk), HXt.out]
              have hpl : (putOf t).length = x.length + 2 := by rw [putOf_12 (.inr hkk), HXt.out]; simp
              rw [hpl] at hlen
              have HZ3 : Hid (∀ x ∈ l.take (k + 1), Easy x) := HZ2.out (by rw [hkk]; decide)
              have q0' : w2.cell? ⟨b1, z, none⟩ = some (.int .i64 2) := by rw [q0, hkk]; rfl
              have f1 : (⟨#[32]⟩ : ByteArray) ++ str x = str (32 :: x) := str_append [32] x
              have f2 : str (32 :: x) ++ (⟨#[9]⟩ : ByteArray) = str (32 :: (x ++ [9])) := str_append (32 :: x) [9]
              have f3 : str B ++ str (32 :: (x ++ [9])) = str (B ++ 32 :: (x ++ [9])) := str_append _ _
              have z1 : 1 + (str x).size ≤ 9223372036854775807 := by rw [str_size]; omega
              have z2 : (str (32 :: x)).size + 1 ≤ 9223372036854775807 := by rw [str_size]; simp; omega
              have z3 : (str B).size + (str (32 :: (x ++ [9]))).size ≤ 9223372036854775807 := by rw [str_size, str_size]; simp; omega
              clear q0 hkk hlen hpl
              go_wp2_with fail
              go_roundw
              case rel => exact ⟨k + 1, by omega, by go_num, by rw [HEe.out], HZ3.out, trivial⟩
              case measure => simp; omega
            · have HEe : Hid (putAll (l.take (k + 1)) = B ++ [32, 35, 32, 39, 32, 110, 111, 116, 101, 10]) := by show _ = _; rw [HPn2.out, putOf_3 hkk]
              have HZ3 : Hid (∀ x ∈ l.take (k + 1), Easy x) := HZ2.out (by rw [hkk]; decide)
              have q0' : w2.cell? ⟨b1, z, none⟩ = some (.int .i64 3) := by rw [q0, hkk]; rfl
              have f3 : str B ++ (⟨#[32, 35, 32, 39, 32, 110, 111, 116, 101, 10]⟩ : ByteArray) = str (B ++ [32, 35, 32, 39, 32, 110, 111, 116, 101, 10]) := str_append _ [32, 35, 32, 39, 32, 110, 111, 116, 101, 10]
              have z3 : (str B).size + 10 ≤ 9223372036854775807 := by rw [str_size]; omega
              clear q0 hkk hlen
              go_wp2_with fail
              go_roundw
              case rel => exact ⟨k + 1, by omega, by go_num, by rw [HEe.out], HZ3.out, trivial⟩
              case measure => simp; omega
            · have q0' : w2.cell? ⟨b1, z, none⟩ = some (.int .i64 5) := by rw [q0, hkk]; rfl
              clear q0 hkk hlen
              go_wp2_with fail
              go_ret
              exact ⟨rfl, HB2.out⟩
            · have HEe : Hid (putAll (l.take (k + 1)) = B) := by show _ = _; rw [HPn2.out, putOf_4 hkk, List.append_nil]
              have HZ3 : Hid (∀ x ∈ l.take (k + 1), Easy x) := HZ2.out (by rw [hkk]; decide)
              have q0' : w2.cell? ⟨b1, z, none⟩ = some (.int .i64 4) := by rw [q0, hkk]; rfl
              clear q0 hkk hlen
              go_wp2_with fail
              go_roundw
              case rel => exact ⟨k + 1, by omega, by go_num, by rw [HEe.out], HZ3.out, trivial⟩
              case measure => simp; omega
        · have s1 : ((str t.b).toList == []) = false := by rw [str_tl2]; simpa using hb
          clear hb hki hlen
          go_wp2_with fail
          go_ret
          exact ⟨rfl, HB2.out⟩
      · obtain rfl : k = n := by omega
        have htl : l.take k = l := by rw [← HLl.out, List.take_length]
        rw [htl] at HEz ⊢
        have u3 : decide (k < k) = false := decide_eq_false (by omega)
        have u1 : decide ((k : Int) < (k : Int)) = false := decide_eq_false (by omega)
        have u2 : ¬ ((k : Int) < (k : Int)) := by omega
        obtain ⟨B, hB⟩ : ∃ B, putAll l = B := ⟨_, rfl⟩
        have hBl : B.length ≤ 12000 := by rw [← hB]; exact HPu.out
        have hBm : putAll m' = B := by
          rw [← hB, HMe.out, putAll_append]
          simp [putAll, putOf]
        obtain ⟨ms, hp1, hp2, hp3⟩ := put_all HTo.out (fun t ht => HEz.out t (by rw [HMe.out]; exact List.mem_append.2 (.inl ht)))
        rw [hBm] at hp1
        rw [hB]
        have eB : (str B).size = B.length := rfl
        have HP1 := Lib.hid hp1
        have HAl : Hid (∀ (i : Nat) (t u : Tok), (ms ++ [(⟨4, [], [], 1 + nl B⟩ : Tok)])[i]? = some t → l[i]? = some u → Lx.Alike t u) := fun i t u ht hu => by
          rw [HMe.out] at hu
          exact alike_add (a := ⟨4, [], [], 1 + nl B⟩) (b := ⟨4, [], [], 1 + nl s⟩) hp2 hp3 ⟨rfl, rfl⟩ i t u ht hu
        have HMl : Hid ((ms ++ [(⟨4, [], [], 1 + nl B⟩ : Tok)]).length = k) := by
          show _ = _
          rw [← HLl.out, HMe.out, List.length_append, List.length_append, hp2]; rfl
        obtain ⟨M, hM⟩ : ∃ M, ms ++ [(⟨4, [], [], 1 + nl B⟩ : Tok)] = M := ⟨_, rfl⟩
        rw [hM] at HP1 HAl HMl
        clear htl hkn hB hBm hp1 hp2 hp3 hM
        by_cases hlb : 4096 < B.length
        · have y1 : decide ((4096 : Int) < ((str B).size : Int)) = true := decide_eq_true (by omega)
          have y2 : (4096 : Int) < ((str B).size : Int) := by omega
          go_wp2_with fail
          go_ret
          exact ⟨rfl, HB2.out⟩
        have y1 : decide ((4096 : Int) < ((str B).size : Int)) = false := decide_eq_false (by omega)
        have y2 : ¬ ((4096 : Int) < ((str B).size : Int)) := by omega
        have HL4 : Hid (B.length ≤ 4096) := by show _ ≤ _; omega
        clear hlb
        go_wp2_with fail
        refine (all_calls w2 B HL4.out HO2.out).mono ?_
        rintro r w3 ⟨hb3, hr⟩
        rw [HP1.out] at hr
        obtain ⟨v, rfl, hown⟩ := hr
        obtain ⟨a4, q4, hv, b4, o4, hcs4, hix4⟩ := toks_at hown
        subst hv
        rw [HMl.out] at hix4
        have HCs4 := Lib.hid hcs4
        have HIx4 := Lib.hid hix4
        have HB3 := Lib.hid (HB2.out.trans (hb3.mono HB2.out.size))
        have HBl := Lib.hid hb3
        rw [HMl.out]
        clear hown hcs4 hix4 hb3 y1 y2
        go_wp2_with fail
        go_loopw [12] (fun v12 wr => ∃ j : Nat, j ≤ k ∧ v12 = .int .i64 (j : Int) ∧ Below w3.heap.size w3 wr) (fun v12 _ => (match v12 with | .int _ z => k - z.toNat | _ => 0))
        case atStart => exact ⟨0, Nat.zero_le _, rfl, Below.refl _ _⟩
        case round =>
          obtain ⟨j, hj, rfl, hbr⟩ := hrel
          by_cases hjk : j < k
          · have hjl : j < l.length := by rw [HLl.out]; exact hjk
            have hjm : j < M.length := by rw [HMl.out]; exact hjk
            have hca := tok_cells (HCs4.out j hjm)
            have hcb := tok_cells (HCs.out j hjl)
            obtain ⟨hk1, hk2⟩ := HAl.out j _ _ (List.getElem?_eq_getElem hjm) (List.getElem?_eq_getElem hjl)
            rw [hk1, hk2] at hca
            obtain ⟨z, hz⟩ : ∃ z, off + j * 4 = z := ⟨_, rfl⟩
            obtain ⟨y, hy⟩ : ∃ y, o4 + j * 4 = y := ⟨_, rfl⟩
            have hia : ∀ w, (Instr.indexAt 28 (.slice a4 k q4) (.int .i64 (j : Int))).run Tryz.prog w = .ok (.pointer (some ⟨b4, y, none⟩)) w := fun w => by rw [← hy]; exact HIx4.out j w hjk
            have hib : ∀ w, (Instr.indexAt 28 (.slice a3 k q3) (.int .i64 (j : Int))).run Tryz.prog w = .ok (.pointer (some ⟨b1, z, none⟩)) w := fun w => by rw [← hz]; exact HIx3.out j w hjk
            rw [hy] at hca
            rw [hz] at hcb
            have hbw : Below w2.heap.size w2 wr := HBl.out.trans (hbr.mono HBl.out.size)
            have r0 := cell_below hbr (Nat.le_refl _) hca.1
            have r1 := cell_below hbr (Nat.le_refl _) hca.2.1
            have l0 := cell_below hbw (Nat.le_refl _) hcb.1
            have l1 := cell_below hbw (Nat.le_refl _) hcb.2.1
            generalize l[j].k = K1 at *
            generalize l[j].t = T1 at *
            have t1 : ((str T1).toList == (str T1).toList) = true := by simp
            have t2 : ((K1 : Int) == (K1 : Int)) = true := by simp
            have HBr := Lib.hid hbr
            have x3 : decide (j < k) = true := decide_eq_true (by omega)
            have x1 : decide ((j : Int) < (k : Int)) = true := decide_eq_true (by omega)
            have x2 : (j : Int) < (k : Int) := by omega
            clear hca hcb hk1 hk2 hz hy hbw hbr hjm hjl
            go_upto_region 31 with fail
            go_quiet (fail)
            have HBq : Hid (Below w3.heap.size w3 (wr.drewN 0)) := HBr.out
            go_wp2_with fail
            go_roundw
            case rel => exact ⟨j + 1, by omega, by go_num, HBr.out.trans ((drewN_below _ _).mono HBr.out.size)⟩
            case measure => simp; omega
          · obtain rfl : j = k := by omega
            have HF := Lib.hid (HB3.out.trans (hbr.mono HB3.out.size))
            have x3 : decide (j < j) = false := decide_eq_false (by omega)
            have x1 : decide ((j : Int) < (j : Int)) = false := decide_eq_false (by omega)
            have x2 : ¬ ((j : Int) < (j : Int)) := by omega
            clear hbr hjk
            go_wp2_with fail
            go_ret
            exact ⟨rfl, HF.out⟩
end Go.Proofs.YtahipkigpjohnaaGreatDoor
