/-
  The document's example of chapter 5: 'awake' answers true. What is written is read: the plain law that the walks share. Conditions: as each says.
-/
import Derived.Test.YtgbnfipbedlmhaaTpRead
import Derived.Test.YtgbnfipbedlmhaaTpSmall
set_option linter.unusedVariables false
set_option maxRecDepth 100000
namespace Go.Proofs.Ytgbnfipbedlmhaa
open Go.RowKit Base

/-- The rows that a tape is written as. -/
def rowsT (s : List UInt8) (l : List Ans) : List (List UInt8) := headB s :: l.map tellB
theorem rowsT_short {s : List UInt8} {l : List Ans} (hs : s.length ≤ 4096) (hl : ∀ q ∈ l, q.Short ∧ q.Fine) (hf : ∀ q ∈ l, fitsB q.kind q = true) : ∀ r ∈ rowsT s l, r.length ≤ 65536 := by
  intro r hr
  unfold rowsT at hr
  rcases List.mem_cons.1 hr with rfl | hr
  · rw [headB_len]; omega
  · obtain ⟨q, hq, rfl⟩ := List.mem_map.1 hr
    have := tellB_short (hl q hq).1 (hl q hq).2 (hf q hq)
    omega
theorem readR_whole {s : List UInt8} {l : List Ans} (hs : s.length ≤ 4096) (hl : ∀ q ∈ l, q.Short ∧ q.Fine) (hf : ∀ q ∈ l, fitsB q.kind q = true) {K : Nat} (hK : EndsF (framesB (rowsT s l)) K) :
    readR (stF (framesB (rowsT s l)) K).1 (stF (framesB (rowsT s l)) K).2 (endE3 (framesB (rowsT s l)) K) = ⟨s, l, (framesB (rowsT s l)).length, 0⟩ := by
  have h := endsF_frames (rowsT s l) (rowsT_short hs hl hf) [] (by rw [takeF_nil]; decide)
  rw [List.append_nil] at h
  obtain rfl := endsF_one h.1 hK
  have e : endE3 (framesB (rowsT s l)) (rowsT s l).length = 0 := by unfold endE3; rw [if_pos (by rw [h.2])]
  rw [e, h.2]
  exact readR_written s hs l (fun a ha => ⟨(hl a ha).2, hf a ha⟩) _ _
theorem wrote_rows (s : List UInt8) (l : List Ans) (k : Nat) : framesB [headB s] ++ wroteA l k = framesB (rowsT s (l.take k)) := by
  unfold wroteA rowsT
  simp [framesB]
theorem fitN_all {l : List Ans} (h : fitN l = l.length) : ∀ q ∈ l, fitsB q.kind q = true := by
  intro q hq
  obtain ⟨i, hi, rfl⟩ := List.getElem_of_mem hq
  exact fitN_lt (by omega) hi
/-- tape.Read, where it is known what the bytes are a tape of. -/
theorem read_calls_at (w : World) (a : Option Addr) (n cap : Nat) (b : List UInt8) (hB : Bytes w a n cap b) (hs : n ≤ 1000000) (S : List UInt8) (l : List Ans) (N : Nat) (e : Int) (ht : ∀ K, EndsF b K → readR (stF b K).1 (stF b K).2 (endE3 b K) = ⟨S, l, N, e⟩) :
    Calls Try.prog 18 #[.slice a n cap] w fun r w' => ∃ aa ca, r = .returned (.tuple #[.agg #[.string (str S), .slice aa l.length ca], .int .i64 (N : Int), .int .i64 e]) ∧ Anss w' aa l.length ca l ∧ Below w.heap.size w w' := by
  refine (read_calls w a n cap b hB hs).mono ?_
  rintro r w' ⟨K, t, aa, ca, hE, h1, h2, h3, h4⟩
  rw [ht K hE] at h1
  subst h1
  exact ⟨aa, ca, h2, h3, h4⟩
def ansTX : Ans := ⟨1, 0, 0, 0, [120], [], 0⟩
def ansTY : Ans := ⟨7, 0, 3, 0, [], [], 0⟩
/-- Answers in a literal. -/
theorem ans_lit {w : World} {g : Nat} {t : TypeId} (h : w.heap[g]? = some (.cells #[.int .i64 1, .int .i64 0, .int .i64 0, .int .i64 0, .string ⟨#[120]⟩, .slice none 0 0, .int .i64 0, .int .i64 7, .int .i64 0, .int .i64 3, .int .i64 0, .string ⟨#[]⟩, .slice none 0 0, .int .i64 0] t)) : Anss w (some ⟨g, 0, none⟩) 2 2 [ansTX, ansTY] := by
  refine ⟨rfl, Nat.le_refl _, by unfold maxLen; omega, g, 0, .inr rfl, fun k hk => ?_⟩
  have hk' : k < 2 := hk
  match k, hk' with
  | 0, _ =>
    refine ⟨none, 0, fun j u hu => ?_, RowOf.nil⟩
    match j, hu with
    | 0, hu => simp [ansCells, ansTX] at hu; simp [World.cell?, h, ← hu]
    | 1, hu => simp [ansCells, ansTX] at hu; simp [World.cell?, h, ← hu]
    | 2, hu => simp [ansCells, ansTX] at hu; simp [World.cell?, h, ← hu]
    | 3, hu => simp [ansCells, ansTX] at hu; simp [World.cell?, h, ← hu]
    | 4, hu => simp [ansCells, ansTX] at hu; simp [World.cell?, h, ← hu, str]
    | 5, hu => simp [ansCells, ansTX] at hu; simp [World.cell?, h, ← hu]
    | 6, hu => simp [ansCells, ansTX] at hu; simp [World.cell?, h, ← hu]
    | _ + 7, hu => simp [ansCells] at hu
  | 1, _ =>
    refine ⟨none, 0, fun j u hu => ?_, RowOf.nil⟩
    match j, hu with
    | 0, hu => simp [ansCells, ansTY] at hu; simp [World.cell?, h, ← hu]
    | 1, hu => simp [ansCells, ansTY] at hu; simp [World.cell?, h, ← hu]
    | 2, hu => simp [ansCells, ansTY] at hu; simp [World.cell?, h, ← hu]
    | 3, hu => simp [ansCells, ansTY] at hu; simp [World.cell?, h, ← hu]
    | 4, hu => simp [ansCells, ansTY] at hu; simp [World.cell?, h, ← hu, str]
    | 5, hu => simp [ansCells, ansTY] at hu; simp [World.cell?, h, ← hu]
    | 6, hu => simp [ansCells, ansTY] at hu; simp [World.cell?, h, ← hu]
    | _ + 7, hu => simp [ansCells] at hu
theorem ansT_short : ∀ q ∈ [ansTX, ansTY], q.Short ∧ q.Fine := by
  intro q hq
  have hI : ∀ z : Int, 0 ≤ z → z ≤ 3 → I64 z := fun z h1 h2 => by unfold I64; omega
  rcases List.mem_cons.1 hq with rfl | hq
  · exact ⟨⟨by decide, by decide, by intro s hs; cases hs⟩, ⟨hI _ (by decide) (by decide), hI _ (by decide) (by decide), by unfold Lt64; decide, by intro s hs; cases hs⟩⟩
  · rw [List.mem_singleton.1 hq]
    exact ⟨⟨by decide, by decide, by intro s hs; cases hs⟩, ⟨hI _ (by decide) (by decide), hI _ (by decide) (by decide), by unfold Lt64; decide, by intro s hs; cases hs⟩⟩
theorem ansT_fit : fitN [ansTX, ansTY] = 2 := by decide
theorem head_len {s : List UInt8} (hs : s.length ≤ 4096) : (framesB [headB s]).length ≤ 4200 := by
  rw [framesB_one, oneF_len, headB_len]
  have := num_len (14 + s.length) (by unfold Lt64; omega)
  omega
theorem head_len0 : (framesB [headB []]).length = 19 := by
  rw [framesB_one, oneF_len, headB_len]
  have : (VarPlain.num (14 + ([] : List UInt8).length)).length = 1 := by
    have e : VarPlain.num (14 + ([] : List UInt8).length) = VarPlain.num 14 := rfl
    rw [e]
    unfold VarPlain.num
    simp
  rw [this]
  rfl
theorem rows_len {s : List UInt8} {l : List Ans} (hs : s.length ≤ 4096) (hl : ∀ q ∈ l, q.Short ∧ q.Fine) (k : Nat) (hk : k ≤ fitN l) : (framesB [headB s] ++ wroteA l k).length ≤ 4200 + k * 3020 := by
  rw [List.length_append]
  have h1 := head_len hs
  have h2 := wroteA_le hl (fun i hi h => fitN_lt h hi) k hk
  omega
theorem ans_o2 (b o : Nat) (w : World) : (Instr.fieldAt 34 (.pointer (some ⟨b, o, none⟩)) 2).run Try.prog w = .ok (.pointer (some ⟨b, o + 2, none⟩)) w := by rfl
set_option maxHeartbeats 4000000 in
theorem tp_awake_calls (w : World) : Calls Try.prog 8 #[] w fun e w' => e = .returned (.bool true) ∧ Below w.heap.size w w' := by
  have HNew := Lib.hid (new_calls w [108, 115] (by decide))
  go_enter Try.func8, Try.ntmps8
  go_wp2_with fail
  refine HNew.out.mono ?_
  rintro e w1 ⟨rfl, v1, hw1, hb1⟩
  have hal := (Below.refl w1.heap.size w1).alloc (Nat.le_refl _) (.cells #[.int .i64 1, .int .i64 0, .int .i64 0, .int .i64 0, .string ⟨#[120]⟩, .slice none 0 0, .int .i64 0, .int .i64 7, .int .i64 0, .int .i64 3, .int .i64 0, .string ⟨#[]⟩, .slice none 0 0, .int .i64 0] 34)
  have hnew : (w1.alloc (.cells #[.int .i64 1, .int .i64 0, .int .i64 0, .int .i64 0, .string ⟨#[120]⟩, .slice none 0 0, .int .i64 0, .int .i64 7, .int .i64 0, .int .i64 3, .int .i64 0, .string ⟨#[]⟩, .slice none 0 0, .int .i64 0] 34)).heap[w1.heap.size]? = _ := heap_alloc_new w1 _
  have hsz := World.size_alloc w1 (.cells #[.int .i64 1, .int .i64 0, .int .i64 0, .int .i64 0, .string ⟨#[120]⟩, .slice none 0 0, .int .i64 0, .int .i64 7, .int .i64 0, .int .i64 3, .int .i64 0, .string ⟨#[]⟩, .slice none 0 0, .int .i64 0] 34)
  have hw2 := hw1.stay hal
  have HAdd := Lib.hid (add_calls _ _ _ _ hw2 (some ⟨w1.heap.size, 0, none⟩) 2 2 [ansTX, ansTY] (fun w' v' hst => ans_lit ((hst.block w1.heap.size (by rw [hsz]; omega) (by have := hw1.lt; omega) (fun e => by have := (hw1.low e).2; omega)).trans hnew)) ansT_short (by decide) (by have := head_len (s := [108, 115]) (by decide); omega))
  rw [ansT_fit] at HAdd
  have HB2 : Hid (Below w.heap.size w _) := Lib.hid (hb1.trans (hal.mono hb1.size))
  have HW1 := Lib.hid hw2
  clear hal hnew hsz hw2 hw1 hb1 HNew
  go_wp2_with fail
  refine HAdd.out.mono ?_
  rintro e w3 ⟨rfl, v3, hw3, hst⟩
  have hlen := rows_len (s := [108, 115]) (by decide) ansT_short 2 (by rw [ansT_fit]; exact Nat.le_refl _)
  have hwr : framesB [headB [108, 115]] ++ wroteA [ansTX, ansTY] 2 = framesB (rowsT [108, 115] [ansTX, ansTY]) := wrote_rows _ _ 2
  rw [hwr] at hw3 hlen
  have HB3 : Hid (Below w.heap.size w w3) := HB2.out.trans (hst.below HB2.out.size (Nat.le_refl _) (fun j hj => by have := (HW1.out.low hj).1; omega))
  have HRd : Hid (∀ K, EndsF (framesB (rowsT [108, 115] [ansTX, ansTY])) K → readR (stF (framesB (rowsT [108, 115] [ansTX, ansTY])) K).1 (stF (framesB (rowsT [108, 115] [ansTX, ansTY])) K).2 (endE3 (framesB (rowsT [108, 115] [ansTX, ansTY])) K) = ⟨[108, 115], [ansTX, ansTY], (framesB (rowsT [108, 115] [ansTX, ansTY])).length, 0⟩) :=
    fun K hK => readR_whole (by decide) ansT_short (fitN_all (by rw [ansT_fit]; rfl)) hK
  generalize framesB (rowsT [108, 115] [ansTX, ansTY]) = b at *
  have HW3 := Lib.hid hw3
  have HBytes := Lib.hid (bytes_calls w3 _ _ _ hw3 (by omega))
  clear hw3 hst hwr HAdd
  go_wp2_with fail
  refine HBytes.out.mono ?_
  rintro e w4 ⟨u4, rfl, hown4, hb4⟩
  obtain ⟨a4, c4, rfl, hby4⟩ := ownsRow_bytes hown4
  have HRead := Lib.hid (read_calls_at w4 a4 b.length c4 b hby4 (by omega) _ _ _ _ HRd.out)
  have HB4 : Hid (Below w3.heap.size w3 w4) := hb4
  clear hown4 hby4 hb4 HBytes
  go_wp2_with fail
  refine HRead.out.mono ?_
  rintro e w5 ⟨aa, ca, he, hans, hb5⟩
  replace he : e = .returned (.tuple #[.agg #[.string ⟨#[108, 115]⟩, .slice aa 2 ca], .int .i64 (b.length : Int), .int .i64 0]) := he
  subst he
  have hal := (Below.refl w5.heap.size w5).alloc (Nat.le_refl _) (.cells #[.string ⟨#[108, 115]⟩, .slice aa 2 ca] 41)
  have hB6 := (HB4.out.trans (hb5.mono HB4.out.size)).trans (hal.mono (by have := HB4.out.size; have := hb5.size; omega))
  obtain ⟨ib, io, hrow, hidx⟩ := at_ans (hans.below stable_ansAt hal)
  obtain ⟨_, _, hcells, _⟩ := hrow 1 (by decide)
  have hc : (w5.alloc (.cells #[.string ⟨#[108, 115]⟩, .slice aa 2 ca] 41)).cell? ⟨ib, io + 1 * 7 + 2, none⟩ = some (.int .i64 3) := hcells 2 _ rfl
  rw [Nat.one_mul] at hc
  have hix : ∀ w', (Instr.indexAt 22 (.slice aa 2 ca) (.int .i64 1)).run Try.prog w' = .ok (.pointer (some ⟨ib, io + 7, none⟩)) w' := fun w' => by simpa using hidx .i64 1 w' (by decide)
  have ho2 := fun w' => ans_o2 ib (io + 7) w'
  have HBytes := Lib.hid (bytes_calls _ _ _ _ (HW3.out.stay hB6) (by omega))
  have HB6 := Lib.hid hB6
  clear hb5 hal hB6 hrow hidx hcells hans HRead HRd HW3
  go_wp2_with fail
  refine HBytes.out.mono ?_
  rintro e w7 ⟨u7, rfl, hown7, hb7⟩
  obtain ⟨a7, c7, rfl, _⟩ := ownsRow_bytes hown7
  have HNew := Lib.hid (new_calls w7 [] (by decide))
  have HB7 := Lib.hid (HB6.out.trans (hb7.mono HB6.out.size))
  clear hown7 hb7 HBytes hc hix ho2
  go_wp2_with fail
  refine HNew.out.mono ?_
  rintro e w8 ⟨rfl, v8, hw8, hb8⟩
  have h19 := head_len0
  have HBytes := Lib.hid (bytes_calls _ _ _ _ hw8 (by omega))
  rw [h19] at HBytes
  have HB8 := Lib.hid (HB7.out.trans (hb8.mono HB7.out.size))
  clear hw8 hb8 HNew
  go_wp2_with fail
  refine HBytes.out.mono ?_
  rintro e w9 ⟨u9, rfl, hown9, hb9⟩
  obtain ⟨a9, c9, rfl, _, _, _, _⟩ := ownsRow_slice hown9
  have HB9 := Lib.hid (HB8.out.trans (hb9.mono HB8.out.size))
  clear hown9 hb9 HBytes
  go_wp2_with fail
  go_ret
  exact ⟨rfl, HB3.out.trans (HB9.out.mono HB3.out.size)⟩

end Go.Proofs.Ytgbnfipbedlmhaa
