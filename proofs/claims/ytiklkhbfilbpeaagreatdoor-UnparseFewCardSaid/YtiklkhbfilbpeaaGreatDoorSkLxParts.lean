/-
  Lexer: a dollar part, a quoted part, a part. Conditions: as each contract says.
-/
import Derived.Test.YtiklkhbfilbpeaaGreatDoorSkLxAri
set_option linter.unusedVariables false
set_option linter.unusedSimpArgs false
set_option maxRecDepth 100000
namespace Go.Proofs.YtiklkhbfilbpeaaGreatDoor
open Go.RowKit Base Lx
/-- A part of a text of fewer than n bytes. -/
def PartIH (n : Nat) : Prop := ∀ (W : World) (b : Nat) (s : Nm) (d : Nat) (K g : Nat) (vl vh : Value) (wi : Bool), Rd W b s K g vl vh → s.length < n → d ≤ 8 →
  Calls Tryz.prog 69 #[.pointer (some ⟨b, 0, none⟩), .int .i64 (d : Int), .bool wi] W (PartPost W b K g vl vh (parA d s))
theorem rd_text {W : World} {b : Nat} {s : Nm} {K g : Nat} {vl vh : Value} (h : Rd W b s K g vl vh) : (match W.cell? ⟨b, 0, none⟩ with | some (.string t) => t.size | _ => 0) = s.length := by
  rw [(rd_cells h.box).1.1]; rfl
set_option maxHeartbeats 2000000 in
theorem dollar_calls {n : Nat} (ih : PartIH n) (W : World) (b : Nat) (s : Nm) (d : Nat) (K g : Nat) (vl vh : Value) (h : Rd W b s K g vl vh) (h36 : has [36] s = true) (hn : s.length ≤ n) (hd : d ≤ 8) (X : R) (hX : dollar d s = X) :
    Calls Tryz.prog 87 #[.pointer (some ⟨b, 0, none⟩), .int .i64 (d : Int)] W (PartPost W b K g vl vh X) := by
  have HIH : Hid (PartIH n) := ih
  have HR := Lib.hid h
  have hsl := h.len
  have hs1 := has_len h36
  simp at hs1
  have HX : Hid (dolM (inner d) d s = X) := hX
  have H36 : Hid (s.take 1 = [36]) := by
    obtain ⟨t, rfl⟩ := List.isPrefixOf_iff_prefix.1 h36
    rfl
  clear ih h hX h36
  go_enter Tryz.func87, Tryz.ntmps87
  by_cases h3 : has [36, 40, 40] s = true
  · have HE : Hid (pre [36, 40, 40] (ariM 0 (s.drop 3)) = X) := by show _ = _; rw [← HX.out]; unfold dolM; rw [if_pos h3]
    have H3 := Lib.hid h3
    clear h3
    go_wp2_with fail
    refine (has_calls _ b (s) K g vl vh HR.out [36, 40, 40]).mono ?_
    rintro r wn ⟨rfl, hwn⟩
    obtain rfl := hwn.symm
    rw [show has [36, 40, 40] (s) = true from H3.out]
    go_wp2_with fail
    refine (arithmetic_calls _ b s K g vl vh HR.out H3.out X HE.out).mono ?_
    rintro r w2 hp
    cases X with
    | error e =>
      obtain ⟨rfl, ht⟩ := hp
      exact ⟨rfl, rfl, ht⟩
    | ok y =>
      obtain ⟨rfl, ht, hr⟩ := hp
      have HT2 := Lib.hid ht
      have HR2 := Lib.hid hr
      clear ht hr
      go_wp2_with fail
      go_ret
      exact ⟨rfl, HT2.out, HR2.out⟩
  · have h3 : has [36, 40, 40] s = false := by simpa using h3
    have H3 := Lib.hid h3
    by_cases h2 : has [36, 40] s = true
    · have HE : Hid (X = .error 20) := by show _ = _; rw [← HX.out]; unfold dolM; rw [if_neg (by simp [h3]), if_pos (.inl h2)]
      have H2 := Lib.hid h2
      clear h3 h2
      go_wp2_with fail
      refine (has_calls _ b (s) K g vl vh HR.out [36, 40, 40]).mono ?_
      rintro r wn ⟨rfl, hwn⟩
      obtain rfl := hwn.symm
      rw [show has [36, 40, 40] (s) = false from H3.out]
      go_wp2_with fail
      refine (has_calls _ b (s) K g vl vh HR.out [36, 40]).mono ?_
      rintro r wn ⟨rfl, hwn⟩
      obtain rfl := hwn.symm
      rw [show has [36, 40] (s) = true from H2.out]
      go_wp2_with fail
      refine (fail_calls _ b (s) K g vl vh HR.out 20).mono ?_
      rintro r w9 ⟨rfl, rfl⟩
      exact ⟨rfl, part_err HE.out (Turn.refl _ _)⟩
    · have h2 : has [36, 40] s = false := by simpa using h2
      have H2 := Lib.hid h2
      by_cases hj : has [36, 92, 10] s = true
      · have HE : Hid (X = .error 20) := by show _ = _; rw [← HX.out]; unfold dolM; rw [if_neg (by simp [h3]), if_pos (.inr hj)]
        have HJ := Lib.hid hj
        clear h3 h2 hj
        go_wp2_with fail
        refine (has_calls _ b (s) K g vl vh HR.out [36, 40, 40]).mono ?_
        rintro r wn ⟨rfl, hwn⟩
        obtain rfl := hwn.symm
        rw [show has [36, 40, 40] (s) = false from H3.out]
        go_wp2_with fail
        refine (has_calls _ b (s) K g vl vh HR.out [36, 40]).mono ?_
        rintro r wn ⟨rfl, hwn⟩
        obtain rfl := hwn.symm
        rw [show has [36, 40] (s) = false from H2.out]
        go_wp2_with fail
        refine (has_calls _ b (s) K g vl vh HR.out [36, 92, 10]).mono ?_
        rintro r wn ⟨rfl, hwn⟩
        obtain rfl := hwn.symm
        rw [show has [36, 92, 10] (s) = true from HJ.out]
        go_wp2_with fail
        refine (fail_calls _ b (s) K g vl vh HR.out 20).mono ?_
        rintro r w9 ⟨rfl, rfl⟩
        exact ⟨rfl, part_err HE.out (Turn.refl _ _)⟩
      · have hj : has [36, 92, 10] s = false := by simpa using hj
        have HJ := Lib.hid hj
        by_cases hb : has [36, 123] s = true
        · have HB := Lib.hid hb
          by_cases h8 : d = 8
          · have HE : Hid (X = .error 21) := by show _ = _; rw [← HX.out]; unfold dolM; rw [if_neg (by simp [h3]), if_neg (by simp [h2, hj]), if_neg (by simp [hb]), if_pos h8]
            subst h8
            clear h3 h2 hj hb
            go_wp2_with fail
            refine (has_calls _ b (s) K g vl vh HR.out [36, 40, 40]).mono ?_
            rintro r wn ⟨rfl, hwn⟩
            obtain rfl := hwn.symm
            rw [show has [36, 40, 40] (s) = false from H3.out]
            go_wp2_with fail
            refine (has_calls _ b (s) K g vl vh HR.out [36, 40]).mono ?_
            rintro r wn ⟨rfl, hwn⟩
            obtain rfl := hwn.symm
            rw [show has [36, 40] (s) = false from H2.out]
            go_wp2_with fail
            refine (has_calls _ b (s) K g vl vh HR.out [36, 92, 10]).mono ?_
            rintro r wn ⟨rfl, hwn⟩
            obtain rfl := hwn.symm
            rw [show has [36, 92, 10] (s) = false from HJ.out]
            go_wp2_with fail
            refine (has_calls _ b (s) K g vl vh HR.out [36, 123]).mono ?_
            rintro r wn ⟨rfl, hwn⟩
            obtain rfl := hwn.symm
            rw [show has [36, 123] (s) = true from HB.out]
            go_wp2_with fail
            refine (fail_calls _ b (s) K g vl vh HR.out 21).mono ?_
            rintro r w9 ⟨rfl, rfl⟩
            exact ⟨rfl, part_err HE.out (Turn.refl _ _)⟩
          · have hb2 := has_len hb
            simp at hb2
            have ht2 : s.take 2 = [36, 123] := by
              obtain ⟨t, rfl⟩ := List.isPrefixOf_iff_prefix.1 hb
              rfl
            have HE : Hid (bnd (pre [36, 123] (loop (parA (d + 1)) (has [125]) (s.drop 2))) (fin 125) = X) := by
              show _ = _
              rw [← HX.out]; unfold dolM; rw [if_neg (by simp [h3]), if_neg (by simp [h2, hj]), if_neg (by simp [hb]), if_neg h8]
              rw [inner_fin]; rfl
            have a1 : decide ((d : Int) = 8) = false := decide_eq_false (by omega)
            have a2 : ¬ ((d : Int) = 8) := by omega
            have hd7 : d + 1 ≤ 8 := by omega
            clear h3 h2 hj hb h8
            go_wp2_with fail
            refine (has_calls _ b (s) K g vl vh HR.out [36, 40, 40]).mono ?_
            rintro r wn ⟨rfl, hwn⟩
            obtain rfl := hwn.symm
            rw [show has [36, 40, 40] (s) = false from H3.out]
            go_wp2_with fail
            refine (has_calls _ b (s) K g vl vh HR.out [36, 40]).mono ?_
            rintro r wn ⟨rfl, hwn⟩
            obtain rfl := hwn.symm
            rw [show has [36, 40] (s) = false from H2.out]
            go_wp2_with fail
            refine (has_calls _ b (s) K g vl vh HR.out [36, 92, 10]).mono ?_
            rintro r wn ⟨rfl, hwn⟩
            obtain rfl := hwn.symm
            rw [show has [36, 92, 10] (s) = false from HJ.out]
            go_wp2_with fail
            refine (has_calls _ b (s) K g vl vh HR.out [36, 123]).mono ?_
            rintro r wn ⟨rfl, hwn⟩
            obtain rfl := hwn.symm
            rw [show has [36, 123] (s) = true from HB.out]
            go_wp2_with fail
            refine (take_yes _ b (s) K g vl vh HR.out 2 (hb2)).mono ?_
            rintro r w2 ⟨rfl, ht, hr⟩
            have HR2 : Hid (Rd w2 b (s.drop 2) K g vl vh) := hr
            have HT2 := Lib.hid (ht)
            clear ht hr
            rw [ht2]
            obtain ⟨z, hz⟩ : ∃ z, s.drop 2 = z := ⟨_, rfl⟩
            obtain ⟨N, hN⟩ : ∃ N, s.length = N := ⟨_, rfl⟩
            have hzl : z.length + 2 = N := by rw [← hz, List.length_drop]; omega
            rw [hz] at HE HR2
            rw [hN] at hsl hn
            clear hz hN ht2 hb2 hs1 a1 a2
            clear H3 H2 HJ HB
            have hd2 : (d : Int) + 1 ≤ 9 := by omega
            go_wp2_with fail
            go_loopw [5] (fun v5 wr => ∃ (o q : Nm), v5 = .string (str o) ∧ bnd (pre o (loop (parA (d + 1)) (has [125]) q)) (fin 125) = X ∧ o.length + q.length ≤ N ∧ q.length + 2 ≤ N ∧ Rd wr b q K g vl vh ∧ Turn b W wr) (fun _ wr => match wr.cell? ⟨b, 0, none⟩ with | some (.string t) => t.size | _ => 0)
            case atStart => exact ⟨[36, 123], z, rfl, HE.out, by simp; omega, by omega, HR2.out, HT2.out⟩
            case round =>
              clear HE HR2 HT2
              obtain ⟨o, q, rfl, hx, hl, hq, hr, ht⟩ := hrel
              have HX := Lib.hid hx
              have HR := Lib.hid hr
              have HT := Lib.hid ht
              have hol : (str o).size = o.length := rfl
              clear hx hr ht
              by_cases hs : has [125] q = true
              · have hq1 := has_len hs
                have hq2 : q.take 1 = [125] := by
                  obtain ⟨t, rfl⟩ := List.isPrefixOf_iff_prefix.1 hs
                  rfl
                have HE : Hid (X = .ok (o ++ [125], q.drop 1)) := by show _ = _; rw [← HX.out, lp_stop hs]; rfl
                have hcat : (str o).size + (str [125]).size ≤ 9223372036854775807 := by rw [str_size, str_size]; simp; omega
                simp at hq1
                have HS := Lib.hid hs
                clear hs
                go_wp2_with fail
                refine (has_calls _ b (q) K g vl vh HR.out [125]).mono ?_
                rintro r wn ⟨rfl, hwn⟩
                obtain rfl := hwn.symm
                rw [show has [125] (q) = true from HS.out]
                go_wp2_with fail
                refine (take_yes _ b (q) K g vl vh HR.out 1 (hq1)).mono ?_
                rintro r w3 ⟨rfl, ht, hr⟩
                have HR3 : Hid (Rd w3 b (q.drop 1) K g vl vh) := hr
                have HT3 := Lib.hid (HT.out.trans ht)
                clear ht hr
                rw [hq2]
                go_wp2_with fail
                go_ret
                rw [str_append]
                exact part_ok HE.out HT3.out HR3.out
              · have hs : has [125] q = false := by simpa using hs
                have HS := Lib.hid hs
                clear hs
                go_wp2_with fail
                refine (has_calls _ b (q) K g vl vh HR.out [125]).mono ?_
                rintro r wn ⟨rfl, hwn⟩
                obtain rfl := hwn.symm
                rw [show has [125] (q) = false from HS.out]
                go_wp2_with fail
                refine (HIH.out _ b q (d + 1) K g vl vh true HR.out (by omega) hd7).mono ?_
                rintro r w3 hp
                cases hpt : parA (d + 1) q with
                | error e =>
                  rw [hpt] at hp
                  obtain ⟨rfl, ht⟩ := hp
                  exact ⟨rfl, part_err (by rw [← HX.out, lp_err (part_strict _) (part_nil _) HS.out hpt]) (HT.out.trans ht)⟩
                | ok y =>
                  rw [hpt] at hp
                  obtain ⟨rfl, ht, hr⟩ := hp
                  have HXn : Hid (bnd (pre (o ++ y.1) (loop (parA (d + 1)) (has [125]) y.2)) (fin 125) = X) := by show _ = _; rw [← HX.out, lp_step (part_strict _) (part_nil _) HS.out hpt]
                  have hlt := part_strict _ _ _ hpt
                  have hot := part_out _ _ _ hpt
                  have HT3 := Lib.hid (HT.out.trans ht)
                  have hc3 := rd_text hr
                  have hc2 := rd_text HR.out
                  have HR3 := Lib.hid hr
                  have hcat : (str o).size + (str y.1).size ≤ 9223372036854775807 := by rw [str_size, str_size]; omega
                  clear ht hr hpt
                  go_wp2_with fail
                  go_roundw
                  case rel => exact ⟨o ++ y.1, y.2, by rw [str_append], HXn.out, by rw [List.length_append]; omega, by omega, HR3.out, HT3.out⟩
                  case measure => rw [hc3, hc2]; exact hlt
        · have hb : has [36, 123] s = false := by simpa using hb
          have HB := Lib.hid hb
          have ht1 : s.take 1 = [36] := H36.out
          have HE : Hid (X = .ok ([36], s.drop 1)) := by show _ = _; rw [← HX.out]; unfold dolM; rw [if_neg (by simp [h3]), if_neg (by simp [h2, hj]), if_pos hb]
          clear h3 h2 hj hb
          go_wp2_with fail
          refine (has_calls _ b (s) K g vl vh HR.out [36, 40, 40]).mono ?_
          rintro r wn ⟨rfl, hwn⟩
          obtain rfl := hwn.symm
          rw [show has [36, 40, 40] (s) = false from H3.out]
          go_wp2_with fail
          refine (has_calls _ b (s) K g vl vh HR.out [36, 40]).mono ?_
          rintro r wn ⟨rfl, hwn⟩
          obtain rfl := hwn.symm
          rw [show has [36, 40] (s) = false from H2.out]
          go_wp2_with fail
          refine (has_calls _ b (s) K g vl vh HR.out [36, 92, 10]).mono ?_
          rintro r wn ⟨rfl, hwn⟩
          obtain rfl := hwn.symm
          rw [show has [36, 92, 10] (s) = false from HJ.out]
          go_wp2_with fail
          refine (has_calls _ b (s) K g vl vh HR.out [36, 123]).mono ?_
          rintro r wn ⟨rfl, hwn⟩
          obtain rfl := hwn.symm
          rw [show has [36, 123] (s) = false from HB.out]
          go_wp2_with fail
          refine (take_yes _ b (s) K g vl vh HR.out 1 (hs1)).mono ?_
          rintro r w2 ⟨rfl, ht, hr⟩
          have HR2 : Hid (Rd w2 b (s.drop 1) K g vl vh) := hr
          have HT2 := Lib.hid (ht)
          clear ht hr
          rw [ht1]
          go_wp2_with fail
          go_ret
          exact part_ok HE.out HT2.out HR2.out
theorem inq_nil (d : Nat) : inq d [] = .error 20 := rfl
theorem join_split {r : Nm} {c : UInt8} (h : has [92, 10] (c :: r) = true) : c = 92 ∧ 1 ≤ r.length := by
  cases r with
  | nil => simp [has, List.isPrefixOf] at h
  | cons e r => simp [has, List.isPrefixOf] at h; exact ⟨h.1.symm, by simp⟩
set_option maxHeartbeats 4000000 in
theorem quoted_calls {n : Nat} (ih : PartIH n) (W : World) (b : Nat) (s : Nm) (d : Nat) (K g : Nat) (vl vh : Value) (h : Rd W b (34 :: s) K g vl vh) (hn : s.length ≤ n) (hd : d ≤ 8) (X : R) (hX : Lx.quoted d s = X) :
    Calls Tryz.prog 86 #[.pointer (some ⟨b, 0, none⟩), .int .i64 (d : Int)] W (PartPost W b K g vl vh X) := by
  have HIH : Hid (PartIH n) := ih
  have HR := Lib.hid h
  have hsl := h.len
  obtain ⟨N, hN⟩ : ∃ N, s.length = N := ⟨_, rfl⟩
  have HE : Hid (bnd (pre [34] (loop (inq d) (has [34]) s)) (fin 34) = X) := by
    show _ = _
    rw [← hX, ← quo_fin]; rfl
  simp at hsl
  have hNs : s.length ≤ N := by omega
  rw [hN] at hsl hn
  clear ih h hX hN
  go_enter Tryz.func86, Tryz.ntmps86
  go_wp2_with fail
  refine (take_yes _ b (34 :: s) K g vl vh HR.out 1 (by simp)).mono ?_
  rintro r w2 ⟨rfl, ht, hr⟩
  have HR2 : Hid (Rd w2 b (s) K g vl vh) := hr
  have HT2 := Lib.hid (ht)
  clear ht hr
  rw [show (34 :: s).take 1 = [34] from rfl]
  go_wp2_with fail
  go_loopw [5] (fun v5 wr => ∃ (o q : Nm), v5 = .string (str o) ∧ bnd (pre o (loop (inq d) (has [34]) q)) (fin 34) = X ∧ o.length + q.length ≤ N + 1 ∧ q.length ≤ N ∧ Rd wr b q K g vl vh ∧ Turn b W wr) (fun _ wr => match wr.cell? ⟨b, 0, none⟩ with | some (.string t) => t.size | _ => 0)
  case atStart => exact ⟨[34], s, rfl, HE.out, by simp; omega, by omega, HR2.out, HT2.out⟩
  case round =>
    clear HE HR2 HT2 HR hNs
    obtain ⟨o, q, rfl, hx, hl, hq, hr, ht⟩ := hrel
    have HX := Lib.hid hx
    have HR := Lib.hid hr
    have HT := Lib.hid ht
    have hol : (str o).size = o.length := rfl
    clear hx hr ht
    cases q with
    | nil =>
      have HE : Hid (X = .error 20) := by show _ = _; rw [← HX.out, lp_err (inq_strict' _) (inq_nil _) rfl (inq_nil d)]
      go_wp2_with fail
      refine (has_calls _ b ([]) K g vl vh HR.out [34]).mono ?_
      rintro r wn ⟨rfl, hwn⟩
      obtain rfl := hwn.symm
      rw [show has [34] ([]) = false from rfl]
      go_wp2_with fail
      refine (has_calls _ b ([]) K g vl vh HR.out [92, 10]).mono ?_
      rintro r wn ⟨rfl, hwn⟩
      obtain rfl := hwn.symm
      rw [show has [92, 10] ([]) = false from rfl]
      go_wp2_with fail
      refine (has_calls _ b ([]) K g vl vh HR.out [92]).mono ?_
      rintro r wn ⟨rfl, hwn⟩
      obtain rfl := hwn.symm
      rw [show has [92] ([]) = false from rfl]
      go_wp2_with fail
      refine (has_calls _ b ([]) K g vl vh HR.out [36]).mono ?_
      rintro r wn ⟨rfl, hwn⟩
      obtain rfl := hwn.symm
      rw [show has [36] ([]) = false from rfl]
      go_wp2_with fail
      refine (has_calls _ b ([]) K g vl vh HR.out [96]).mono ?_
      rintro r wn ⟨rfl, hwn⟩
      obtain rfl := hwn.symm
      rw [show has [96] ([]) = false from rfl]
      go_wp2_with fail
      refine (take_no _ b [] K g vl vh HR.out 1 (by simp)).mono ?_
      rintro r w9 ⟨rfl, rfl⟩
      exact ⟨rfl, part_err HE.out HT.out⟩
    | cons c q =>
      have hl2 : o.length + q.length ≤ N := by simp at hl; omega
      have hq2 : q.length + 1 ≤ N := by simpa using hq
      have hlq : (c :: q).length = q.length + 1 := rfl
      clear hl hq
      by_cases h34 : c = 34
      · subst h34
        have HE : Hid (X = .ok (o ++ [34], q)) := by show _ = _; rw [← HX.out, lp_stop rfl]; rfl
        have hcat : (str o).size + (str [34]).size ≤ 9223372036854775807 := by rw [str_size, str_size]; simp; omega
        go_wp2_with fail
        refine (has_calls _ b (34 :: q) K g vl vh HR.out [34]).mono ?_
        rintro r wn ⟨rfl, hwn⟩
        obtain rfl := hwn.symm
        rw [show has [34] (34 :: q) = true from rfl]
        go_wp2_with fail
        refine (take_yes _ b (34 :: q) K g vl vh HR.out 1 (by simp)).mono ?_
        rintro r w3 ⟨rfl, ht, hr⟩
        have HR3 : Hid (Rd w3 b (q) K g vl vh) := hr
        have HT3 := Lib.hid (HT.out.trans ht)
        clear ht hr
        rw [show (34 :: q).take 1 = [34] from rfl]
        go_wp2_with fail
        go_ret
        rw [str_append]
        exact part_ok HE.out HT3.out HR3.out
      have H34 : Hid (has [34] (c :: q) = false) := has_first (Ne.symm h34)
      clear h34
      by_cases hj : has [92, 10] (c :: q) = true
      · obtain ⟨rfl, hq1⟩ := join_split hj
        have HXn : Hid (bnd (pre o (loop (inq d) (has [34]) (q.drop 1))) (fin 34) = X) := by
          show _ = _
          rw [← HX.out, lp_step (p := []) (q' := q.drop 1) (inq_strict' _) (inq_nil _) H34.out (by rw [inq_cons, if_pos hj]), List.append_nil]
        have HJ := Lib.hid hj
        have hdl : (q.drop 1).length + 1 = q.length := by rw [List.length_drop]; omega
        clear hj
        go_wp2_with fail
        refine (has_calls _ b (92 :: q) K g vl vh HR.out [34]).mono ?_
        rintro r wn ⟨rfl, hwn⟩
        obtain rfl := hwn.symm
        rw [show has [34] (92 :: q) = false from H34.out]
        go_wp2_with fail
        refine (has_calls _ b (92 :: q) K g vl vh HR.out [92, 10]).mono ?_
        rintro r wn ⟨rfl, hwn⟩
        obtain rfl := hwn.symm
        rw [show has [92, 10] (92 :: q) = true from HJ.out]
        go_wp2_with fail
        refine (take_yes _ b (92 :: q) K g vl vh HR.out 2 (by simp; omega)).mono ?_
        rintro r w3 ⟨rfl, ht, hr⟩
        have HR3 : Hid (Rd w3 b (q.drop 1) K g vl vh) := hr
        have HT3 := Lib.hid (HT.out.trans ht)
        clear ht hr
        have hc3 := rd_text HR3.out
        have hc2 := rd_text HR.out
        generalize q.drop 1 = q' at *
        go_wp2_with fail
        go_roundw
        case rel => exact ⟨o, q', rfl, HXn.out, by omega, by omega, HR3.out, HT3.out⟩
        case measure => rw [hc3, hc2, hlq]; omega
      have hj : has [92, 10] (c :: q) = false := by simpa using hj
      have HJ := Lib.hid hj
      by_cases h92 : c = 92
      · subst h92
        cases q with
        | nil =>
          have HE : Hid (X = .error 20) := by show _ = _; rw [← HX.out, lp_err (e := 20) (inq_strict' _) (inq_nil _) H34.out (by rfl)]
          clear hj
          go_wp2_with fail
          refine (has_calls _ b ([92]) K g vl vh HR.out [34]).mono ?_
          rintro r wn ⟨rfl, hwn⟩
          obtain rfl := hwn.symm
          rw [show has [34] ([92]) = false from H34.out]
          go_wp2_with fail
          refine (has_calls _ b ([92]) K g vl vh HR.out [92, 10]).mono ?_
          rintro r wn ⟨rfl, hwn⟩
          obtain rfl := hwn.symm
          rw [show has [92, 10] ([92]) = false from HJ.out]
          go_wp2_with fail
          refine (has_calls _ b ([92]) K g vl vh HR.out [92]).mono ?_
          rintro r wn ⟨rfl, hwn⟩
          obtain rfl := hwn.symm
          rw [show has [92] ([92]) = true from rfl]
          go_wp2_with fail
          refine (take_no _ b [92] K g vl vh HR.out 2 (by simp)).mono ?_
          rintro r w9 ⟨rfl, rfl⟩
          exact ⟨rfl, part_err HE.out HT.out⟩
        | cons e q =>
          have HXn : Hid (bnd (pre (o ++ [92, e]) (loop (inq d) (has [34]) q)) (fin 34) = X) := by
            show _ = _
            rw [← HX.out, lp_step (p := [92, e]) (q' := q) (inq_strict' _) (inq_nil _) H34.out (by rw [inq_cons, if_neg (by simp [hj]), if_pos rfl])]
          have hcat : (str o).size + (str [92, e]).size ≤ 9223372036854775807 := by rw [str_size, str_size]; simp at hl2 ⊢; omega
          have hl3 : o.length + q.length + 1 ≤ N := by simp at hl2; omega
          have hq3 : q.length + 2 ≤ N := by simp at hq2; omega
          clear hj
          go_wp2_with fail
          refine (has_calls _ b (92 :: e :: q) K g vl vh HR.out [34]).mono ?_
          rintro r wn ⟨rfl, hwn⟩
          obtain rfl := hwn.symm
          rw [show has [34] (92 :: e :: q) = false from H34.out]
          go_wp2_with fail
          refine (has_calls _ b (92 :: e :: q) K g vl vh HR.out [92, 10]).mono ?_
          rintro r wn ⟨rfl, hwn⟩
          obtain rfl := hwn.symm
          rw [show has [92, 10] (92 :: e :: q) = false from HJ.out]
          go_wp2_with fail
          refine (has_calls _ b (92 :: e :: q) K g vl vh HR.out [92]).mono ?_
          rintro r wn ⟨rfl, hwn⟩
          obtain rfl := hwn.symm
          rw [show has [92] (92 :: e :: q) = true from rfl]
          go_wp2_with fail
          refine (take_yes _ b (92 :: e :: q) K g vl vh HR.out 2 (by simp)).mono ?_
          rintro r w3 ⟨rfl, ht, hr⟩
          have HR3 : Hid (Rd w3 b (q) K g vl vh) := hr
          have HT3 := Lib.hid (HT.out.trans ht)
          clear ht hr
          rw [show (92 :: e :: q).take 2 = [92, e] from rfl]
          have hc3 := rd_text HR3.out
          have hc2 := rd_text HR.out
          go_wp2_with fail
          go_roundw
          case rel => exact ⟨o ++ [92, e], q, by rw [str_append], HXn.out, by simp; omega, by omega, HR3.out, HT3.out⟩
          case measure => rw [hc3, hc2]; simp only [List.length_cons]; omega
      have H92 : Hid (has [92] (c :: q) = false) := has_first (Ne.symm h92)
      by_cases h36 : c = 36
      · subst h36
        clear h92
        go_wp2_with fail
        refine (has_calls _ b (36 :: q) K g vl vh HR.out [34]).mono ?_
        rintro r wn ⟨rfl, hwn⟩
        obtain rfl := hwn.symm
        rw [show has [34] (36 :: q) = false from H34.out]
        go_wp2_with fail
        refine (has_calls _ b (36 :: q) K g vl vh HR.out [92, 10]).mono ?_
        rintro r wn ⟨rfl, hwn⟩
        obtain rfl := hwn.symm
        rw [show has [92, 10] (36 :: q) = false from HJ.out]
        go_wp2_with fail
        refine (has_calls _ b (36 :: q) K g vl vh HR.out [92]).mono ?_
        rintro r wn ⟨rfl, hwn⟩
        obtain rfl := hwn.symm
        rw [show has [92] (36 :: q) = false from H92.out]
        go_wp2_with fail
        refine (has_calls _ b (36 :: q) K g vl vh HR.out [36]).mono ?_
        rintro r wn ⟨rfl, hwn⟩
        obtain rfl := hwn.symm
        rw [show has [36] (36 :: q) = true from rfl]
        go_wp2_with fail
        obtain ⟨Y, hY⟩ : ∃ Y, dollar d (36 :: q) = Y := ⟨_, rfl⟩
        refine (dollar_calls HIH.out _ b (36 :: q) d K g vl vh HR.out rfl (by simp; omega) hd Y hY).mono ?_
        rintro r w3 hp
        have hiq : inq d (36 :: q) = Y := by rw [← hY, inq_cons, if_neg (by simp [hj]), if_neg (by decide), if_pos rfl]
        cases Y with
        | error e =>
          obtain ⟨rfl, ht⟩ := hp
          exact ⟨rfl, part_err (by rw [← HX.out, lp_err (inq_strict' _) (inq_nil _) H34.out hiq]) (HT.out.trans ht)⟩
        | ok y =>
          obtain ⟨rfl, ht, hr⟩ := hp
          have HXn : Hid (bnd (pre (o ++ y.1) (loop (inq d) (has [34]) y.2)) (fin 34) = X) := by show _ = _; rw [← HX.out, lp_step (inq_strict' _) (inq_nil _) H34.out hiq]
          have hlt := inq_strict' _ _ _ hiq
          have hot := inq_out' _ _ _ hiq
          have HT3 := Lib.hid (HT.out.trans ht)
          have hc3 := rd_text hr
          have hc2 := rd_text HR.out
          have HR3 := Lib.hid hr
          have hcat : (str o).size + (str y.1).size ≤ 9223372036854775807 := by rw [str_size, str_size]; simp at hot; omega
          clear ht hr hY hiq hj
          go_wp2_with fail
          go_roundw
          case rel => exact ⟨o ++ y.1, y.2, by rw [str_append], HXn.out, by rw [List.length_append]; simp at hot; omega, by simp at hlt; omega, HR3.out, HT3.out⟩
          case measure => rw [hc3, hc2]; exact hlt
      have H36 : Hid (has [36] (c :: q) = false) := has_first (Ne.symm h36)
      by_cases h96 : c = 96
      · subst h96
        have HE : Hid (X = .error 20) := by show _ = _; rw [← HX.out, lp_err (e := 20) (inq_strict' _) (inq_nil _) H34.out (by rw [inq_cons, if_neg (by simp [hj]), if_neg h92, if_neg h36, if_pos rfl])]
        clear h92 h36 hj
        go_wp2_with fail
        refine (has_calls _ b (96 :: q) K g vl vh HR.out [34]).mono ?_
        rintro r wn ⟨rfl, hwn⟩
        obtain rfl := hwn.symm
        rw [show has [34] (96 :: q) = false from H34.out]
        go_wp2_with fail
        refine (has_calls _ b (96 :: q) K g vl vh HR.out [92, 10]).mono ?_
        rintro r wn ⟨rfl, hwn⟩
        obtain rfl := hwn.symm
        rw [show has [92, 10] (96 :: q) = false from HJ.out]
        go_wp2_with fail
        refine (has_calls _ b (96 :: q) K g vl vh HR.out [92]).mono ?_
        rintro r wn ⟨rfl, hwn⟩
        obtain rfl := hwn.symm
        rw [show has [92] (96 :: q) = false from H92.out]
        go_wp2_with fail
        refine (has_calls _ b (96 :: q) K g vl vh HR.out [36]).mono ?_
        rintro r wn ⟨rfl, hwn⟩
        obtain rfl := hwn.symm
        rw [show has [36] (96 :: q) = false from H36.out]
        go_wp2_with fail
        refine (has_calls _ b (96 :: q) K g vl vh HR.out [96]).mono ?_
        rintro r wn ⟨rfl, hwn⟩
        obtain rfl := hwn.symm
        rw [show has [96] (96 :: q) = true from rfl]
        go_wp2_with fail
        refine (fail_calls _ b (96 :: q) K g vl vh HR.out 20).mono ?_
        rintro r w9 ⟨rfl, rfl⟩
        exact ⟨rfl, part_err HE.out HT.out⟩
      have H96 : Hid (has [96] (c :: q) = false) := has_first (Ne.symm h96)
      have HXn : Hid (bnd (pre (o ++ [c]) (loop (inq d) (has [34]) q)) (fin 34) = X) := by
        show _ = _
        rw [← HX.out, lp_step (p := [c]) (q' := q) (inq_strict' _) (inq_nil _) H34.out (by rw [inq_cons, if_neg (by simp [hj]), if_neg h92, if_neg h36, if_neg h96])]
      have hcat : (str o).size + (str [c]).size ≤ 9223372036854775807 := by rw [str_size, str_size]; simp; omega
      clear h92 h36 h96 hj
      go_wp2_with fail
      refine (has_calls _ b (c :: q) K g vl vh HR.out [34]).mono ?_
      rintro r wn ⟨rfl, hwn⟩
      obtain rfl := hwn.symm
      rw [show has [34] (c :: q) = false from H34.out]
      go_wp2_with fail
      refine (has_calls _ b (c :: q) K g vl vh HR.out [92, 10]).mono ?_
      rintro r wn ⟨rfl, hwn⟩
      obtain rfl := hwn.symm
      rw [show has [92, 10] (c :: q) = false from HJ.out]
      go_wp2_with fail
      refine (has_calls _ b (c :: q) K g vl vh HR.out [92]).mono ?_
      rintro r wn ⟨rfl, hwn⟩
      obtain rfl := hwn.symm
      rw [show has [92] (c :: q) = false from H92.out]
      go_wp2_with fail
      refine (has_calls _ b (c :: q) K g vl vh HR.out [36]).mono ?_
      rintro r wn ⟨rfl, hwn⟩
      obtain rfl := hwn.symm
      rw [show has [36] (c :: q) = false from H36.out]
      go_wp2_with fail
      refine (has_calls _ b (c :: q) K g vl vh HR.out [96]).mono ?_
      rintro r wn ⟨rfl, hwn⟩
      obtain rfl := hwn.symm
      rw [show has [96] (c :: q) = false from H96.out]
      go_wp2_with fail
      refine (take_yes _ b (c :: q) K g vl vh HR.out 1 (by simp)).mono ?_
      rintro r w3 ⟨rfl, ht, hr⟩
      have HR3 : Hid (Rd w3 b (q) K g vl vh) := hr
      have HT3 := Lib.hid (HT.out.trans ht)
      clear ht hr
      rw [show (c :: q).take 1 = [c] from rfl]
      have hc3 := rd_text HR3.out
      have hc2 := rd_text HR.out
      go_wp2_with fail
      go_roundw
      case rel => exact ⟨o ++ [c], q, by rw [str_append], HXn.out, by simp; omega, by omega, HR3.out, HT3.out⟩
      case measure => rw [hc3, hc2]; simp only [List.length_cons]; omega
set_option maxHeartbeats 4000000 in
theorem part_calls {n : Nat} (ih : PartIH n) (W : World) (b : Nat) (s : Nm) (d : Nat) (K g : Nat) (vl vh : Value) (wi : Bool) (h : Rd W b s K g vl vh) (hn : s.length ≤ n) (hd : d ≤ 8) (X : R) (hX : parA d s = X) :
    Calls Tryz.prog 69 #[.pointer (some ⟨b, 0, none⟩), .int .i64 (d : Int), .bool wi] W (PartPost W b K g vl vh X) := by
  have HIH : Hid (PartIH n) := ih
  have HR := Lib.hid h
  have HX := Lib.hid hX
  clear ih h hX
  go_enter Tryz.func69, Tryz.ntmps69
  cases s with
  | nil =>
    have HE : Hid (X = .error 20) := HX.out.symm
    go_wp2_with fail
    refine (has_calls _ b ([]) K g vl vh HR.out [92, 10]).mono ?_
    rintro r wn ⟨rfl, hwn⟩
    obtain rfl := hwn.symm
    rw [show has [92, 10] ([]) = false from rfl]
    go_wp2_with fail
    refine (has_calls _ b ([]) K g vl vh HR.out [92]).mono ?_
    rintro r wn ⟨rfl, hwn⟩
    obtain rfl := hwn.symm
    rw [show has [92] ([]) = false from rfl]
    go_wp2_with fail
    refine (has_calls _ b ([]) K g vl vh HR.out [39]).mono ?_
    rintro r wn ⟨rfl, hwn⟩
    obtain rfl := hwn.symm
    rw [show has [39] ([]) = false from rfl]
    go_wp2_with fail
    refine (has_calls _ b ([]) K g vl vh HR.out [34]).mono ?_
    rintro r wn ⟨rfl, hwn⟩
    obtain rfl := hwn.symm
    rw [show has [34] ([]) = false from rfl]
    go_wp2_with fail
    refine (has_calls _ b ([]) K g vl vh HR.out [36]).mono ?_
    rintro r wn ⟨rfl, hwn⟩
    obtain rfl := hwn.symm
    rw [show has [36] ([]) = false from rfl]
    go_wp2_with fail
    refine (has_calls _ b ([]) K g vl vh HR.out [96]).mono ?_
    rintro r wn ⟨rfl, hwn⟩
    obtain rfl := hwn.symm
    rw [show has [96] ([]) = false from rfl]
    go_wp2_with fail
    refine (take_no _ b [] K g vl vh HR.out 1 (by simp)).mono ?_
    rintro r w9 ⟨rfl, rfl⟩
    exact ⟨rfl, part_err HE.out (Turn.refl _ _)⟩
  | cons c q =>
    have hnq : q.length + 1 ≤ n := by simpa using hn
    clear hn
    by_cases hj : has [92, 10] (c :: q) = true
    · obtain ⟨rfl, hq1⟩ := join_split hj
      have HE : Hid (X = .ok ([], q.drop 1)) := by show _ = _; rw [← HX.out, parA_eq, if_pos hj]
      have HJ := Lib.hid hj
      clear hj
      go_wp2_with fail
      refine (has_calls _ b (92 :: q) K g vl vh HR.out [92, 10]).mono ?_
      rintro r wn ⟨rfl, hwn⟩
      obtain rfl := hwn.symm
      rw [show has [92, 10] (92 :: q) = true from HJ.out]
      go_wp2_with fail
      refine (take_yes _ b (92 :: q) K g vl vh HR.out 2 (by simp; omega)).mono ?_
      rintro r w2 ⟨rfl, ht, hr⟩
      have HR2 : Hid (Rd w2 b (q.drop 1) K g vl vh) := hr
      have HT2 := Lib.hid (ht)
      clear ht hr
      go_wp2_with fail
      go_ret
      exact part_ok HE.out HT2.out HR2.out
    have hj : has [92, 10] (c :: q) = false := by simpa using hj
    have HJ := Lib.hid hj
    by_cases h92 : c = 92
    · subst h92
      cases q with
      | nil =>
        have HE : Hid (X = .error 20) := HX.out.symm
        clear hj
        go_wp2_with fail
        refine (has_calls _ b ([92]) K g vl vh HR.out [92, 10]).mono ?_
        rintro r wn ⟨rfl, hwn⟩
        obtain rfl := hwn.symm
        rw [show has [92, 10] ([92]) = false from HJ.out]
        go_wp2_with fail
        refine (has_calls _ b ([92]) K g vl vh HR.out [92]).mono ?_
        rintro r wn ⟨rfl, hwn⟩
        obtain rfl := hwn.symm
        rw [show has [92] ([92]) = true from rfl]
        go_wp2_with fail
        refine (take_no _ b [92] K g vl vh HR.out 2 (by simp)).mono ?_
        rintro r w9 ⟨rfl, rfl⟩
        exact ⟨rfl, part_err HE.out (Turn.refl _ _)⟩
      | cons e q =>
        have HE : Hid (X = .ok ([92, e], q)) := by show _ = _; rw [← HX.out, parA_eq, if_neg (by simp [hj]), if_pos rfl]
        clear hj
        go_wp2_with fail
        refine (has_calls _ b (92 :: e :: q) K g vl vh HR.out [92, 10]).mono ?_
        rintro r wn ⟨rfl, hwn⟩
        obtain rfl := hwn.symm
        rw [show has [92, 10] (92 :: e :: q) = false from HJ.out]
        go_wp2_with fail
        refine (has_calls _ b (92 :: e :: q) K g vl vh HR.out [92]).mono ?_
        rintro r wn ⟨rfl, hwn⟩
        obtain rfl := hwn.symm
        rw [show has [92] (92 :: e :: q) = true from rfl]
        go_wp2_with fail
        refine (take_yes _ b (92 :: e :: q) K g vl vh HR.out 2 (by simp)).mono ?_
        rintro r w2 ⟨rfl, ht, hr⟩
        have HR2 : Hid (Rd w2 b (q) K g vl vh) := hr
        have HT2 := Lib.hid (ht)
        clear ht hr
        rw [show (92 :: e :: q).take 2 = [92, e] from rfl]
        go_wp2_with fail
        go_ret
        exact part_ok HE.out HT2.out HR2.out
    have H92 : Hid (has [92] (c :: q) = false) := has_first (Ne.symm h92)
    by_cases h39 : c = 39
    · subst h39
      have HE : Hid (uptoM 39 (39 :: q) = X) := by
        show _ = _
        rw [← HX.out, parA_eq, if_neg (by simp [hj]), if_neg h92, if_pos rfl]
        unfold uptoM
        show (match cutAt 39 q with | none => _ | some x => _) = _
        cases cutAt 39 q <;> rfl
      clear hj h92
      go_wp2_with fail
      refine (has_calls _ b (39 :: q) K g vl vh HR.out [92, 10]).mono ?_
      rintro r wn ⟨rfl, hwn⟩
      obtain rfl := hwn.symm
      rw [show has [92, 10] (39 :: q) = false from HJ.out]
      go_wp2_with fail
      refine (has_calls _ b (39 :: q) K g vl vh HR.out [92]).mono ?_
      rintro r wn ⟨rfl, hwn⟩
      obtain rfl := hwn.symm
      rw [show has [92] (39 :: q) = false from H92.out]
      go_wp2_with fail
      refine (has_calls _ b (39 :: q) K g vl vh HR.out [39]).mono ?_
      rintro r wn ⟨rfl, hwn⟩
      obtain rfl := hwn.symm
      rw [show has [39] (39 :: q) = true from rfl]
      go_wp2_with fail
      refine (upto_calls _ b (39 :: q) K g vl vh HR.out 39 (by simp)).mono ?_
      rintro r w3 hp
      rw [HE.out] at hp
      cases X with
      | error e =>
        obtain ⟨rfl, ht⟩ := hp
        exact ⟨rfl, rfl, ht⟩
      | ok y =>
        obtain ⟨rfl, ht, hr⟩ := hp
        have HT2 := Lib.hid ht
        have HR2 := Lib.hid hr
        clear ht hr
        go_wp2_with fail
        go_ret
        exact ⟨rfl, HT2.out, HR2.out⟩
    have H39 : Hid (has [39] (c :: q) = false) := has_first (Ne.symm h39)
    by_cases h34 : c = 34
    · subst h34
      have HE : Hid (Lx.quoted d q = X) := by show _ = _; rw [← HX.out, parA_eq, if_neg (by simp [hj]), if_neg h92, if_neg h39, if_pos rfl]
      clear hj h92 h39
      go_wp2_with fail
      refine (has_calls _ b (34 :: q) K g vl vh HR.out [92, 10]).mono ?_
      rintro r wn ⟨rfl, hwn⟩
      obtain rfl := hwn.symm
      rw [show has [92, 10] (34 :: q) = false from HJ.out]
      go_wp2_with fail
      refine (has_calls _ b (34 :: q) K g vl vh HR.out [92]).mono ?_
      rintro r wn ⟨rfl, hwn⟩
      obtain rfl := hwn.symm
      rw [show has [92] (34 :: q) = false from H92.out]
      go_wp2_with fail
      refine (has_calls _ b (34 :: q) K g vl vh HR.out [39]).mono ?_
      rintro r wn ⟨rfl, hwn⟩
      obtain rfl := hwn.symm
      rw [show has [39] (34 :: q) = false from H39.out]
      go_wp2_with fail
      refine (has_calls _ b (34 :: q) K g vl vh HR.out [34]).mono ?_
      rintro r wn ⟨rfl, hwn⟩
      obtain rfl := hwn.symm
      rw [show has [34] (34 :: q) = true from rfl]
      go_wp2_with fail
      refine (quoted_calls HIH.out _ b q d K g vl vh HR.out (by omega) hd X HE.out).mono ?_
      rintro r w3 hp
      cases X with
      | error e =>
        obtain ⟨rfl, ht⟩ := hp
        exact ⟨rfl, rfl, ht⟩
      | ok y =>
        obtain ⟨rfl, ht, hr⟩ := hp
        have HT2 := Lib.hid ht
        have HR2 := Lib.hid hr
        clear ht hr
        go_wp2_with fail
        go_ret
        exact ⟨rfl, HT2.out, HR2.out⟩
    have H34 : Hid (has [34] (c :: q) = false) := has_first (Ne.symm h34)
    by_cases h36 : c = 36
    · subst h36
      have HE : Hid (dollar d (36 :: q) = X) := by show _ = _; rw [← HX.out, parA_eq, if_neg (by simp [hj]), if_neg h92, if_neg h39, if_neg h34, if_pos rfl]
      clear hj h92 h39 h34
      go_wp2_with fail
      refine (has_calls _ b (36 :: q) K g vl vh HR.out [92, 10]).mono ?_
      rintro r wn ⟨rfl, hwn⟩
      obtain rfl := hwn.symm
      rw [show has [92, 10] (36 :: q) = false from HJ.out]
      go_wp2_with fail
      refine (has_calls _ b (36 :: q) K g vl vh HR.out [92]).mono ?_
      rintro r wn ⟨rfl, hwn⟩
      obtain rfl := hwn.symm
      rw [show has [92] (36 :: q) = false from H92.out]
      go_wp2_with fail
      refine (has_calls _ b (36 :: q) K g vl vh HR.out [39]).mono ?_
      rintro r wn ⟨rfl, hwn⟩
      obtain rfl := hwn.symm
      rw [show has [39] (36 :: q) = false from H39.out]
      go_wp2_with fail
      refine (has_calls _ b (36 :: q) K g vl vh HR.out [34]).mono ?_
      rintro r wn ⟨rfl, hwn⟩
      obtain rfl := hwn.symm
      rw [show has [34] (36 :: q) = false from H34.out]
      go_wp2_with fail
      refine (has_calls _ b (36 :: q) K g vl vh HR.out [36]).mono ?_
      rintro r wn ⟨rfl, hwn⟩
      obtain rfl := hwn.symm
      rw [show has [36] (36 :: q) = true from rfl]
      go_wp2_with fail
      refine (dollar_calls HIH.out _ b (36 :: q) d K g vl vh HR.out rfl (by simp; omega) hd X HE.out).mono ?_
      rintro r w3 hp
      cases X with
      | error e =>
        obtain ⟨rfl, ht⟩ := hp
        exact ⟨rfl, rfl, ht⟩
      | ok y =>
        obtain ⟨rfl, ht, hr⟩ := hp
        have HT2 := Lib.hid ht
        have HR2 := Lib.hid hr
        clear ht hr
        go_wp2_with fail
        go_ret
        exact ⟨rfl, HT2.out, HR2.out⟩
    have H36 : Hid (has [36] (c :: q) = false) := has_first (Ne.symm h36)
    by_cases h96 : c = 96
    · subst h96
      have HE : Hid (X = .error 20) := by show _ = _; rw [← HX.out, parA_eq, if_neg (by simp [hj]), if_neg h92, if_neg h39, if_neg h34, if_neg h36, if_pos rfl]
      clear hj h92 h39 h34 h36
      go_wp2_with fail
      refine (has_calls _ b (96 :: q) K g vl vh HR.out [92, 10]).mono ?_
      rintro r wn ⟨rfl, hwn⟩
      obtain rfl := hwn.symm
      rw [show has [92, 10] (96 :: q) = false from HJ.out]
      go_wp2_with fail
      refine (has_calls _ b (96 :: q) K g vl vh HR.out [92]).mono ?_
      rintro r wn ⟨rfl, hwn⟩
      obtain rfl := hwn.symm
      rw [show has [92] (96 :: q) = false from H92.out]
      go_wp2_with fail
      refine (has_calls _ b (96 :: q) K g vl vh HR.out [39]).mono ?_
      rintro r wn ⟨rfl, hwn⟩
      obtain rfl := hwn.symm
      rw [show has [39] (96 :: q) = false from H39.out]
      go_wp2_with fail
      refine (has_calls _ b (96 :: q) K g vl vh HR.out [34]).mono ?_
      rintro r wn ⟨rfl, hwn⟩
      obtain rfl := hwn.symm
      rw [show has [34] (96 :: q) = false from H34.out]
      go_wp2_with fail
      refine (has_calls _ b (96 :: q) K g vl vh HR.out [36]).mono ?_
      rintro r wn ⟨rfl, hwn⟩
      obtain rfl := hwn.symm
      rw [show has [36] (96 :: q) = false from H36.out]
      go_wp2_with fail
      refine (has_calls _ b (96 :: q) K g vl vh HR.out [96]).mono ?_
      rintro r wn ⟨rfl, hwn⟩
      obtain rfl := hwn.symm
      rw [show has [96] (96 :: q) = true from rfl]
      go_wp2_with fail
      refine (fail_calls _ b (96 :: q) K g vl vh HR.out 20).mono ?_
      rintro r w9 ⟨rfl, rfl⟩
      exact ⟨rfl, part_err HE.out (Turn.refl _ _)⟩
    have H96 : Hid (has [96] (c :: q) = false) := has_first (Ne.symm h96)
    have HE : Hid (X = .ok ([c], q)) := by show _ = _; rw [← HX.out, parA_eq, if_neg (by simp [hj]), if_neg h92, if_neg h39, if_neg h34, if_neg h36, if_neg h96]
    clear hj h92 h39 h34 h36 h96
    go_wp2_with fail
    refine (has_calls _ b (c :: q) K g vl vh HR.out [92, 10]).mono ?_
    rintro r wn ⟨rfl, hwn⟩
    obtain rfl := hwn.symm
    rw [show has [92, 10] (c :: q) = false from HJ.out]
    go_wp2_with fail
    refine (has_calls _ b (c :: q) K g vl vh HR.out [92]).mono ?_
    rintro r wn ⟨rfl, hwn⟩
    obtain rfl := hwn.symm
    rw [show has [92] (c :: q) = false from H92.out]
    go_wp2_with fail
    refine (has_calls _ b (c :: q) K g vl vh HR.out [39]).mono ?_
    rintro r wn ⟨rfl, hwn⟩
    obtain rfl := hwn.symm
    rw [show has [39] (c :: q) = false from H39.out]
    go_wp2_with fail
    refine (has_calls _ b (c :: q) K g vl vh HR.out [34]).mono ?_
    rintro r wn ⟨rfl, hwn⟩
    obtain rfl := hwn.symm
    rw [show has [34] (c :: q) = false from H34.out]
    go_wp2_with fail
    refine (has_calls _ b (c :: q) K g vl vh HR.out [36]).mono ?_
    rintro r wn ⟨rfl, hwn⟩
    obtain rfl := hwn.symm
    rw [show has [36] (c :: q) = false from H36.out]
    go_wp2_with fail
    refine (has_calls _ b (c :: q) K g vl vh HR.out [96]).mono ?_
    rintro r wn ⟨rfl, hwn⟩
    obtain rfl := hwn.symm
    rw [show has [96] (c :: q) = false from H96.out]
    go_wp2_with fail
    refine (take_yes _ b (c :: q) K g vl vh HR.out 1 (by simp)).mono ?_
    rintro r w2 ⟨rfl, ht, hr⟩
    have HR2 : Hid (Rd w2 b (q) K g vl vh) := hr
    have HT2 := Lib.hid (ht)
    clear ht hr
    rw [show (c :: q).take 1 = [c] from rfl]
    go_wp2_with fail
    go_ret
    exact part_ok HE.out HT2.out HR2.out
/-- A part, whatever the text. -/
theorem part_ih : ∀ n, PartIH n
  | 0 => fun W b s d K g vl vh wi h hn => absurd hn (Nat.not_lt_zero _)
  | n + 1 => fun W b s d K g vl vh wi h hn hd => part_calls (part_ih n) W b s d K g vl vh wi h (Nat.le_of_lt_succ hn) hd _ rfl
end Go.Proofs.YtiklkhbfilbpeaaGreatDoor
