/-
  tape.Read: the tape of bytes: what the plain mathematics says of the rows that are scanned. Conditions: the bytes can be read; they are not too many.
-/
import Derived.Test.YtgbnfipbedlmhaaTpAnswers
set_option linter.unusedVariables false
set_option maxRecDepth 100000
namespace Go.Proofs.Ytgbnfipbedlmhaa
open Go.RowKit Base

theorem wpList_append_at {P : Program} {w : World} {ops : Array Oper} {rest : List Oper} {o : Oper} {a : Act} {Q : Exit → Act → World → Prop} (hgd : o.guard = none) (s x : Operand) (t u : TypeId)
    (ho : o.op = .call { callee := .builtin .append, args := #[s, x], argTypes := #[t, u] })
    (base : Nat) (e : TypeId) (i : TypeInfo) (z : Value) (size bytes : Nat) (ht : P.underlying t = some (.slice e)) (hu : ∃ d, P.underlying u = some d ∧ ∀ k, d ≠ .int k)
    (hi : P.info? e = some i) (hz : i.zero = some z)
    (hsize : i.size = size) (hby : i.bytes = bytes) (hzs : z.cells.size = size) (hsz : 0 < size) (hbp : 0 < bytes)
    (v : Value) (n : Nat) (xs : List Value) (hs : a.eval s = v) (hown : w.ownsRow base e size v n xs)
    (y : Value) (m : Nat) (news : List Value) (hy : a.eval x = y) (hx : Src P w size y m news)
    (h63 : n + m ≤ maxLen) (hbytes : (n + m) * bytes ≤ 140737488355328) (hbase : base ≤ w.heap.size)
    (h : ∀ v' w', w'.ownsRow base e size v' (n + m) (xs ++ news) → w.grownBy w' v.ownBlock → (∀ g, v'.ownBlock = some g → g < w.heap.size → v.ownBlock = some g) → wpList P ops Q rest (a.put o.dst v') w') : wpList P ops Q (o :: rest) a w := by
  refine wpList_plain hgd fun K hK => ?_
  obtain ⟨v', w', hr, h2, h3, h4⟩ := run_append_at (P := P) w base t u o.type e i z size bytes ht hu hi hz hsize hby hzs hsz hbp v n xs hown y m news hx h63 hbytes hbase
  unfold Oper.wp execOp
  simp only [ho, resolve, invoke, builtin, Sem.run_bind, Sem.run_pure, Result.andThen_ok, List.map_toArray, List.map_cons, List.map_nil, hs, hy, hr]
  exact hK _ _ (h v' w' h2 h3 h4)

theorem byteRows_ownT {w : World} {base1 base2 : Nat} {a : Option Addr} {K c : Nat} {vs : List Value} {ls : List (List UInt8)} (h : w.ownsRow base1 28 1 (.slice a K c) K vs) (h2 : OwnRows w base2 vs ls) : ByteRows w a K c ls := by
  have hl := h.1
  obtain ⟨a', c', he, h3, h4, _, b, h5, h6⟩ := ownsRow_slice h
  simp only [Value.slice.injEq, true_and] at he
  obtain ⟨rfl, rfl⟩ := he
  refine ⟨by rw [← h2.1]; omega, h3, h4, b, 0, h5, fun k hk => ?_⟩
  have hv : vs[k]? = some (vs[k]'(by rw [h2.1]; exact hk)) := List.getElem?_eq_getElem _
  have ho := h2.2.1 k _ ls[k] hv (List.getElem?_eq_getElem hk)
  obtain ⟨a2, c2, hv2, hr⟩ := ownsRow_bytes ho
  refine ⟨a2, c2, ?_, hr⟩
  have := h6 k _ hv
  rw [hv2] at this
  simpa using this
theorem stF_rows {b : List UInt8} {k : Nat} (h : GoodF b k) : ∀ r ∈ (stF b k).1, r.length ≤ 65536 := by
  induction k with
  | zero => intro r hr; simp [stF] at hr
  | succ k ih =>
    intro r hr
    simp only [stF, List.mem_append, List.mem_singleton] at hr
    rcases hr with hr | rfl
    · exact ih (fun j hj => h j (by omega)) r hr
    · exact (takeF_ok (h k (by omega))).2.2
theorem framesB_le (ls : List (List UInt8)) (h : ∀ r ∈ ls, r.length ≤ 65536) : (framesB ls).length ≤ ls.length * 65550 := by
  induction ls with
  | nil => simp [framesB]
  | cons r ls ih =>
    have h1 := ih fun x hx => h x (List.mem_cons_of_mem _ hx)
    have h2 := h r (List.mem_cons_self ..)
    have h3 := num_len r.length (by unfold Lt64; omega)
    have e : framesB (r :: ls) = oneF r ++ framesB ls := by simp [framesB]
    rw [e, List.length_append, oneF_len, List.length_cons]
    omega
/-- Answers with where their lists lie; their cells, one behind the other. -/
abbrev ATs := List (Ans × Option Addr × Nat)
def cells7 (ts : ATs) : List Value := ts.flatMap fun t => ansCells t.1 t.2.1 t.2.2
theorem cells7_len (ts : ATs) : (cells7 ts).length = ts.length * 7 := by
  induction ts with
  | nil => rfl
  | cons t r ih => simp only [cells7, List.flatMap_cons, List.length_append] at ih ⊢; rw [ih]; simp [ansCells]; omega
theorem cells7_snoc (ts : ATs) (t : Ans × Option Addr × Nat) : cells7 (ts ++ [t]) = cells7 ts ++ ansCells t.1 t.2.1 t.2.2 := by simp [cells7]
theorem cells7_at (ts : ATs) : ∀ (k : Nat) (t : Ans × Option Addr × Nat), ts[k]? = some t → ∀ (j : Nat) (u : Value), (ansCells t.1 t.2.1 t.2.2)[j]? = some u → (cells7 ts)[k * 7 + j]? = some u := by
  induction ts with
  | nil => intro k t h; simp at h
  | cons x r ih =>
    intro k t h j u hu
    have hx : (ansCells x.1 x.2.1 x.2.2).length = 7 := rfl
    have e : cells7 (x :: r) = ansCells x.1 x.2.1 x.2.2 ++ cells7 r := by simp [cells7]
    rw [e]
    cases k with
    | zero =>
      simp at h
      subst h
      have hj : j < 7 := by have := (List.getElem?_eq_some_iff.1 hu).1; rw [hx] at this; exact this
      rw [Nat.zero_mul, Nat.zero_add, List.getElem?_append_left (by rw [hx]; exact hj)]
      exact hu
    | succ k =>
      rw [List.getElem?_append_right (by rw [hx]; omega), hx]
      have : (k + 1) * 7 + j - 7 = k * 7 + j := by omega
      rw [this]
      exact ih k t (by simpa using h) j u hu
/-- What was made of answers can be read. -/
theorem anss_own {w : World} {base : Nat} {v : Value} {n : Nat} {ts : ATs} (h : w.ownsRow base 34 7 v n (cells7 ts)) (hs : ∀ t ∈ ts, Strs w t.2.1 t.1.list.length t.2.2 t.1.list) : ∃ a c, v = .slice a n c ∧ Anss w a n c (ts.map (·.1)) := by
  have hl := h.1
  rw [cells7_len] at hl
  obtain ⟨a, c, rfl, h3, h4, _, b, h5, h6⟩ := ownsRow_slice h
  refine ⟨a, c, rfl, by rw [List.length_map]; omega, h3, h4, b, 0, h5, fun k hk => ?_⟩
  have hk' : k < ts.length := by simpa using hk
  have ht : ts[k]? = some ts[k] := List.getElem?_eq_getElem hk'
  rw [List.getElem_map]
  refine ⟨ts[k].2.1, ts[k].2.2, fun j u hu => ?_, hs _ (List.getElem_mem _)⟩
  rw [Nat.zero_add]
  exact h6 _ u (cells7_at ts k _ ht j u hu)
/-- A row of texts that lies off what was turned. -/
theorem strs_off {w w' : World} {r : Option Nat} {a : Option Addr} {n cap : Nat} {l : List (List UInt8)} (h : Strs w a n cap l) (hg : w.grownBy w' r) (ha : l = [] ∨ ∀ ad, a = some ad → r ≠ some ad.block) : Strs w' a n cap l := by
  obtain ⟨h1, h2, h3, b, off, h4, h5⟩ := h
  refine ⟨h1, h2, h3, b, off, h4, fun k hk => ?_⟩
  rcases ha with rfl | ha
  · simp at hk
  · rcases h4 with h4 | h4
    · omega
    · have h6 := h5 k hk
      unfold strAt at h6 ⊢
      exact hg.cell h6 (fun e => ha _ h4 e.symm)
/-- Where a told answer's list lies: in memory that is there; neither in block D nor in the row's own. -/
def Lies (w : World) (D : Nat) (v : Value) (t : Ans × Option Addr × Nat) : Prop :=
  Strs w t.2.1 t.1.list.length t.2.2 t.1.list ∧ (t.1.list = [] ∨ ∀ ad, t.2.1 = some ad → ad.block < w.heap.size ∧ D < ad.block ∧ v.ownBlock ≠ some ad.block)
theorem lies_below {w w' : World} {D : Nat} {v : Value} {t : Ans × Option Addr × Nat} (h : Lies w D v t) (hb : Below w.heap.size w w') : Lies w' D v t :=
  ⟨h.1.below stable_strAt hb, h.2.imp id fun h2 ad ha => ⟨Nat.lt_of_lt_of_le (h2 ad ha).1 hb.size, (h2 ad ha).2⟩⟩
theorem lies_append {w w' : World} {D : Nat} {v v' : Value} {t : Ans × Option Addr × Nat} (h : Lies w D v t) (hg : w.grownBy w' v.ownBlock) (hv : ∀ g, v'.ownBlock = some g → g < w.heap.size → v.ownBlock = some g) : Lies w' D v' t :=
  ⟨strs_off h.1 hg (h.2.imp id fun h2 ad ha => (h2 ad ha).2.2), h.2.imp id fun h2 ad ha => ⟨Nat.lt_of_lt_of_le (h2 ad ha).1 hg.size, (h2 ad ha).2.1, fun e => (h2 ad ha).2.2 (hv _ e (h2 ad ha).1)⟩⟩
theorem lies_set {w w' : World} {D q : Nat} {v : Value} {t : Ans × Option Addr × Nat} (h : Lies w D v t) (hg : w.grownBy w' (some q)) (hq : q ≤ D) : Lies w' D v t :=
  ⟨strs_off h.1 hg (h.2.imp id fun h2 ad ha e => by cases e; have := (h2 ad ha).2.1; omega), h.2.imp id fun h2 ad ha => ⟨Nat.lt_of_lt_of_le (h2 ad ha).1 hg.size, (h2 ad ha).2⟩⟩
/-- What was told just now. -/
theorem lies_new {w w' : World} {D : Nat} {v : Value} {x : Ans} {a : Option Addr} {c : Nat} (hs : Strs w' a x.list.length c x.list) (ha : ∀ ad, a = some ad → w.heap.size ≤ ad.block) (hD : D < w.heap.size) (hv : ∀ j, v.ownBlock = some j → j < w.heap.size) : Lies w' D v (x, a, c) := by
  refine ⟨hs, ?_⟩
  by_cases hx : x.list = []
  · exact .inl hx
  · refine .inr fun ad hd => ⟨?_, by have := ha ad hd; omega, fun e => by have := ha ad hd; have := hv _ e; omega⟩
    obtain ⟨h1, h2, h3, b, off, h4, h5⟩ := hs
    have hp : 0 < x.list.length := List.length_pos_iff.2 hx
    rcases h4 with h4 | h4
    · omega
    · have hd' : a = some ad := hd
      rw [hd'] at h4
      cases h4
      have h6 := h5 0 hp
      unfold strAt at h6
      exact World.block_lt_of_cell? w' _ h6
theorem set2 {w : World} {G : Nat} {t : TypeId} {a b : Value} (x y : Value) (h : w.heap[G]? = some (.cells #[a, b] t)) : ((w.setCell ⟨G, 0, none⟩ x).setCell ⟨G, 1, none⟩ y).heap[G]? = some (.cells #[x, y] t) :=
  heap_setCell_same _ G 1 _ _ _ (heap_setCell_same _ G 0 _ _ _ h)
/-- What a reading of bytes b leaves. -/
def ReadPost (b : List UInt8) (w : World) (r : Ending) (w' : World) : Prop :=
  ∃ (K : Nat) (t : TOut) (aa : Option Addr) (ca : Nat), EndsF b K ∧ t = readR (stF b K).1 (stF b K).2 (endE3 b K) ∧
    r = .returned (.tuple #[.agg #[.string (str t.script), .slice aa t.qs.length ca], .int .i64 (t.n : Int), .int .i64 t.e]) ∧ Anss w' aa t.qs.length ca t.qs ∧ Below w.heap.size w w'
/-- A tape's value. -/
def tapeV (s : List UInt8) (v : Value) : Value := .agg #[.string (str s), v]
theorem run_plusT {P : Program} {t : TypeId} {a b : Nat} (h : a + b ≤ 9223372036854775807) (w : World) : (binOp .add t (.int .i64 (a : Int)) (.int .i64 (b : Int))).run P w = .ok (.int .i64 (((a + b : Nat) : Nat) : Int)) w := by
  rw [binOp_add]
  simp [Op.intArith, IntKind.wrap_i64]
  omega
theorem fin_anss {w : World} {G D j cr : Nat} {ar : Option Addr} {ts : ATs} (x y : Value) (hG : G < D) (ho : w.ownsRow (D + 1) 34 7 (.slice ar j cr) j (cells7 ts)) (hl : ∀ t ∈ ts, Lies w D (.slice ar j cr) t) :
    Anss ((w.setCell ⟨G, 0, none⟩ x).setCell ⟨G, 1, none⟩ y) ar j cr (ts.map (·.1)) := by
  have hg := grownBy_trans (grown_set w G 0 x) (grown_set (w.setCell ⟨G, 0, none⟩ x) G 1 y)
  have ho' := ho.kept hg (by
    cases hj : Value.ownBlock (.slice ar j cr) with
    | none => exact .inl rfl
    | some k => exact .inr (fun e => by cases e; have := (ho.lt _ hj).1; omega))
  obtain ⟨a, c, he, h⟩ := anss_own ho' (fun t ht => (lies_set (hl t ht) hg (by omega)).1)
  cases he
  exact h
set_option maxHeartbeats 8000000 in
theorem read_calls (w : World) (a : Option Addr) (n cap : Nat) (b : List UInt8) (hB : Bytes w a n cap b) (hs : n ≤ 1000000) :
    Calls Try.prog 18 #[.slice a n cap] w fun r w' => ReadPost b w r w' := by
  have hal := (Below.refl w.heap.size w).alloc (Nat.le_refl _) (.cells #[.string ⟨#[]⟩, .slice none 0 0] 41)
  have HScan := Lib.hid (frame_scan_calls (w.alloc (.cells #[.string ⟨#[]⟩, .slice none 0 0] 41)) a n cap b (hB.below stable_byteAt hal) (by omega))
  have HG0 : Hid ((w.alloc (.cells #[.string ⟨#[]⟩, .slice none 0 0] 41)).heap[w.heap.size]? = some (.cells #[.string ⟨#[]⟩, .slice none 0 0] 41)) := heap_alloc_new w _
  have hq : (w.alloc (.cells #[.string ⟨#[]⟩, .slice none 0 0] 41)).heap.size = w.heap.size + 1 := World.size_alloc _ _
  have HAl := Lib.hid hal
  have hbn : b.length = n := hB.1.symm
  have HQ := Lib.hid hq
  clear hB hal hq
  go_enter Try.func18, Try.ntmps18
  go_wp2_with fail
  refine HScan.out.mono ?_
  rintro e w1 ⟨K, rv, vs, hE, rfl, hown, hvs, hb1⟩
  have hK := (goodF_le hE.1)
  have hrl := stF_rows hE.1
  have hln := stF_len b K
  have HB1 : Hid (Below w.heap.size w w1) := HAl.out.trans (hb1.mono HAl.out.size)
  have HG1 : Hid (w1.heap[w.heap.size]? = some (.cells #[.string ⟨#[]⟩, .slice none 0 0] 41)) := by show _ = _; rw [hb1.block _ (by rw [HQ.out]; omega)]; exact HG0.out
  have HS1 : Hid (w.heap.size < w1.heap.size) := by have := hb1.size; rw [HQ.out] at this; exact this
  obtain ⟨ar, cr, rfl, _, _, _, _⟩ := ownsRow_slice hown
  have HRows := Lib.hid (byteRows_ownT hown hvs)
  have HE := Lib.hid hE
  clear hE hown hvs hb1 HAl HG0 HQ HScan
  generalize hls : (stF b K).1 = ls at *
  have HLS := Lib.hid hls; clear hls
  have HRL := Lib.hid hrl; clear hrl
  generalize hev : endE3 b K = ev at *
  have HEV := Lib.hid hev; clear hev
  generalize hsn : (stF b K).2 = sn at *
  have HSN := Lib.hid hsn; clear hsn
  have g0 : w1.cell? ⟨w.heap.size, 0, none⟩ = some (.string ⟨#[]⟩) := by have := HG1.out; simp [World.cell?, this]
  have g1 : w1.cell? ⟨w.heap.size, 1, none⟩ = some (.slice none 0 0) := by have := HG1.out; simp [World.cell?, this]
  have f0 : w1.frozen? ⟨w.heap.size, 0, none⟩ = false := by have := HG1.out; simp [World.frozen?, this]
  have f1 : w1.frozen? ⟨w.heap.size, 1, none⟩ = false := by have := HG1.out; simp [World.frozen?, this]
  by_cases hK0 : K = 0
  · subst hK0
    have hl0 : ls = [] := List.eq_nil_of_length_eq_zero hln
    have HLS0 : Hid ((stF b 0).1 = []) := by show _ = _; rw [HLS.out, hl0]
    clear hln hl0
    have HBS : Hid (∀ v0 v1, Below w.heap.size w ((w1.setCell ⟨w.heap.size, 0, none⟩ v0).setCell ⟨w.heap.size, 1, none⟩ v1)) := fun v0 v1 => (HB1.out.setCell (Nat.le_refl _) _).setCell (Nat.le_refl _) _
    by_cases he : ev = 0
    · subst he
      go_wp2_with fail
      have hz := set2 (.string ⟨#[]⟩) (.slice none 0 0) HG1.out
      have z0 : ((w1.setCell ⟨w.heap.size, 0, none⟩ (.string ⟨#[]⟩)).setCell ⟨w.heap.size, 1, none⟩ (.slice none 0 0)).cell? ⟨w.heap.size, 0, none⟩ = some (.string ⟨#[]⟩) := by simp only [World.cell?, hz]; rfl
      have z1 : ((w1.setCell ⟨w.heap.size, 0, none⟩ (.string ⟨#[]⟩)).setCell ⟨w.heap.size, 1, none⟩ (.slice none 0 0)).cell? ⟨w.heap.size, 1, none⟩ = some (.slice none 0 0) := by simp only [World.cell?, hz]; rfl
      refine bodyPost_ret (v := .tuple #[.agg #[.string ⟨#[]⟩, .slice none 0 0], .int .i64 0, .int .i64 10]) (by simp [results, Try.results18, go_sem, z0, z1]) rfl ?_
      refine ⟨0, ⟨[], [], 0, 10⟩, none, 0, HE.out, ?_, rfl, RowOf.nil, HBS.out _ _⟩
      rw [HLS0.out, HEV.out]
      rfl
    · have d1 : decide (ev = 0) = false := by simp [he]
      go_wp2_with fail
      have hz := set2 (.string ⟨#[]⟩) (.slice none 0 0) HG1.out
      have z0 : ((w1.setCell ⟨w.heap.size, 0, none⟩ (.string ⟨#[]⟩)).setCell ⟨w.heap.size, 1, none⟩ (.slice none 0 0)).cell? ⟨w.heap.size, 0, none⟩ = some (.string ⟨#[]⟩) := by simp only [World.cell?, hz]; rfl
      have z1 : ((w1.setCell ⟨w.heap.size, 0, none⟩ (.string ⟨#[]⟩)).setCell ⟨w.heap.size, 1, none⟩ (.slice none 0 0)).cell? ⟨w.heap.size, 1, none⟩ = some (.slice none 0 0) := by simp only [World.cell?, hz]; rfl
      refine bodyPost_ret (v := .tuple #[.agg #[.string ⟨#[]⟩, .slice none 0 0], .int .i64 0, .int .i64 ev]) (by simp [results, Try.results18, go_sem, z0, z1]) rfl ?_
      refine ⟨0, ⟨[], [], 0, ev⟩, none, 0, HE.out, ?_, rfl, RowOf.nil, HBS.out _ _⟩
      rw [HLS0.out, HEV.out]
      unfold readR
      simp only [if_neg he]
  · have d1 : decide ((K : Int) = 0) = false := by simp [hK0]
    have d2 : ¬ (K : Int) = 0 := by omega
    obtain ⟨first, rest, rfl⟩ : ∃ f r, ls = f :: r := by
      cases ls with
      | nil => exact absurd hln.symm hK0
      | cons f r => exact ⟨f, r, rfl⟩
    have hrest : rest.length + 1 = K := by simpa using hln
    obtain ⟨rb, ro, hrow, hidx⟩ := at_rows HRows.out
    obtain ⟨af, cf, hc0, hbf⟩ := hrow 0 (by simp)
    have hix : ∀ w', (Instr.indexAt 38 (.slice ar K cr) (.int .i64 0)).run Try.prog w' = .ok (.pointer (some ⟨rb, ro, none⟩)) w' := fun w' => by simpa using hidx .i64 0 w' (by omega)
    have hfl := HRL.out first (List.mem_cons_self ..)
    have hc1 : w1.cell? ⟨rb, ro, none⟩ = some (.slice af first.length cf) := by simpa using hc0
    replace hbf : Bytes w1 af first.length cf first := hbf
    have hconv := str_bytes hbf
    have HBf := Lib.hid hbf
    have HCut := cut_prefix_calls w1 first (by omega)
    clear hrow hidx hc0 hbf
    by_cases hh : isHead first = false
    · have HRR : Hid (∀ m e, readR (first :: rest) m e = ⟨[], [], 0, 11⟩) := fun m e => by unfold readR; simp only [if_pos hh]
      have HBS : Hid (∀ v0 v1, Below w.heap.size w ((w1.setCell ⟨w.heap.size, 0, none⟩ v0).setCell ⟨w.heap.size, 1, none⟩ v1)) := fun v0 v1 => (HB1.out.setCell (Nat.le_refl _) _).setCell (Nat.le_refl _) _
      have hz := set2 (.string ⟨#[]⟩) (.slice none 0 0) HG1.out
      have z0 : ((w1.setCell ⟨w.heap.size, 0, none⟩ (.string ⟨#[]⟩)).setCell ⟨w.heap.size, 1, none⟩ (.slice none 0 0)).cell? ⟨w.heap.size, 0, none⟩ = some (.string ⟨#[]⟩) := by simp only [World.cell?, hz]; rfl
      have z1 : ((w1.setCell ⟨w.heap.size, 0, none⟩ (.string ⟨#[]⟩)).setCell ⟨w.heap.size, 1, none⟩ (.slice none 0 0)).cell? ⟨w.heap.size, 1, none⟩ = some (.slice none 0 0) := by simp only [World.cell?, hz]; rfl
      clear hz
      by_cases hm : first.take 14 = magicB
      · have hcm : cutM first = first.drop 14 := by unfold cutM; rw [if_pos hm]
        have hlong : 4096 < (first.drop 14).length := by
          unfold isHead at hh
          rw [decide_eq_true hm, Bool.true_and, decide_eq_false_iff_not] at hh
          rw [List.length_drop]
          omega
        rw [decide_eq_true hm, hcm] at HCut
        have HC := Lib.hid HCut
        have t1 : decide ((4096 : Int) < ((str (first.drop 14)).size : Int)) = true := by rw [str_size]; simp only [decide_eq_true_eq]; omega
        have t2 : (4096 : Int) < ((str (first.drop 14)).size : Int) := by rw [str_size]; omega
        clear HCut hm hh hcm hlong
        generalize str (first.drop 14) = S at *
        go_wp2_with fail
        refine HC.out.mono ?_
        rintro e w' ⟨rfl, rfl⟩
        go_wp2_with fail
        refine bodyPost_ret (v := .tuple #[.agg #[.string ⟨#[]⟩, .slice none 0 0], .int .i64 0, .int .i64 11]) (by simp [results, Try.results18, go_sem, z0, z1]) rfl ?_
        exact ⟨K, ⟨[], [], 0, 11⟩, none, 0, HE.out, by rw [HLS.out, HRR.out], rfl, RowOf.nil, HBS.out _ _⟩
      · rw [decide_eq_false hm] at HCut
        have HC := Lib.hid HCut
        clear HCut hm hh
        generalize str (cutM first) = S at *
        go_wp2_with fail
        refine HC.out.mono ?_
        rintro e w' ⟨rfl, rfl⟩
        go_wp2_with fail
        refine bodyPost_ret (v := .tuple #[.agg #[.string ⟨#[]⟩, .slice none 0 0], .int .i64 0, .int .i64 11]) (by simp [results, Try.results18, go_sem, z0, z1]) rfl ?_
        exact ⟨K, ⟨[], [], 0, 11⟩, none, 0, HE.out, by rw [HLS.out, HRR.out], rfl, RowOf.nil, HBS.out _ _⟩
    · have hm : first.take 14 = magicB := by
        unfold isHead at hh
        simp only [Bool.not_eq_false, Bool.and_eq_true, decide_eq_true_eq] at hh
        exact hh.1
      have hshort : (first.drop 14).length ≤ 4096 := by
        unfold isHead at hh
        simp only [Bool.not_eq_false, Bool.and_eq_true, decide_eq_true_eq] at hh
        rw [List.length_drop]
        omega
      have HRR : Hid (∀ m e, readR (first :: rest) m e = if goodT rest = rest.length then ⟨first.drop 14, rest.map toldA, m, e⟩
          else ⟨first.drop 14, (rest.take (goodT rest)).map toldA, (framesB (first :: rest.take (goodT rest))).length, toldE (rest.getD (goodT rest) [])⟩) := fun m e => by
        unfold readR
        simp only [if_neg hh]
      have hcm : cutM first = first.drop 14 := by unfold cutM; rw [if_pos hm]
      rw [decide_eq_true hm, hcm] at HCut
      have HC := Lib.hid HCut
      have t1 : decide ((4096 : Int) < ((str (first.drop 14)).size : Int)) = false := by rw [str_size]; simp only [decide_eq_false_iff_not]; omega
      have t2 : ¬ (4096 : Int) < ((str (first.drop 14)).size : Int) := by rw [str_size]; omega
      clear HCut hm hh hcm hshort
      have HSc : Hid (str (first.drop 14) = str (first.drop 14)) := rfl
      generalize hS : str (first.drop 14) = S at HC t1 t2 HSc
      replace HSc := Lib.hid hS
      clear hS
      have hB2 := (Below.refl w1.heap.size w1).alloc (Nat.le_refl _) (.cells #[.string S, .slice none 0 0] 41)
      have hD2 : (w1.alloc (.cells #[.string S, .slice none 0 0] 41)).heap[w1.heap.size]? = some (.cells #[.string S, .slice none 0 0] 41) := heap_alloc_new w1 _
      have hs2 : (w1.alloc (.cells #[.string S, .slice none 0 0] 41)).heap.size = w1.heap.size + 1 := World.size_alloc _ _
      have hc2 := cell_below hB2 (Nat.le_refl _) hc1
      have hrow := one_row (HBf.out.below stable_byteAt hB2) 28
      have hB3 := (Below.refl (w1.heap.size + 1) (w1.alloc (.cells #[.string S, .slice none 0 0] 41))).alloc (by rw [hs2]; exact Nat.le_refl _) (.cells #[.slice af first.length cf] 28)
      have HPut := Lib.hid (frame_put_calls _ _ 1 1 [first] hrow (fun r hr => by rw [List.mem_singleton.1 hr]; exact hfl) (by rw [framesB_one, oneF_len]; have := num_len first.length (by unfold Lt64; omega); omega))
      have hD3 := (hB3.block w1.heap.size (by omega)).trans hD2
      have HB3 := Lib.hid (hB2.trans (hB3.mono (by omega)))
      have HD3 := Lib.hid hD3
      rw [hs2] at HPut
      obtain ⟨asub, hsub, hS2⟩ := HRows.out.sub (P := Try.prog) 1 K (by omega) (Nat.le_refl _)
      obtain ⟨ib, hib, _, hib1, _⟩ := info_parts info_bytes
      have hsl := fun w' => (hS2 38 28 ib Try.underlying38 hib hib1 w').2.2 rfl .i64
      have hsl' : ∀ w', (Instr.slice 38 (.slice ar K cr) (some (.int .i64 1)) none none).run Try.prog w' = .ok (.slice asub (K - 1) (cr - 1)) w' := hsl
      have hre : ((first :: rest).take K).drop 1 = rest := by
        rw [List.take_of_length_le (by simp; omega)]; rfl
      rw [hre] at hsub
      have HSub := Lib.hid hsub
      clear hB2 hD2 hs2 hrow hB3 hD3 hS2 hsl hre hsub hib hib1
      generalize hm : K - 1 = m at *
      have hKm : K = m + 1 := by omega
      have HKm := Lib.hid hKm
      have HM := Lib.hid hm
      clear hm hKm
      go_wp2_with fail
      refine HC.out.mono ?_
      rintro e w' ⟨rfl, rfl⟩
      go_wp2_with fail
      refine HPut.out.mono ?_
      rintro e w4 ⟨v4, rfl, hown4, hb4⟩
      obtain ⟨a4, c4, rfl, _, _, _, _⟩ := ownsRow_slice hown4
      clear hown4
      go_wp2_with fail
      have hB14 : Below w1.heap.size w1 w4 := HB3.out.trans (hb4.mono (by have := HB3.out.size; exact this))
      have hD4 : w4.heap[w1.heap.size]? = some (.cells #[.string S, .slice none 0 0] 41) := by rw [hb4.block _ (by have := HD3.out; exact (Array.getElem?_eq_some_iff.1 this).1)]; exact HD3.out
      have HN : Hid (rest.length = m) := by show _ = _; have := HKm.out; omega
      have HRL2 : Hid (∀ r ∈ rest, r.length ≤ 65536) := fun r hr => HRL.out r (List.mem_cons_of_mem _ hr)
      have hm1 : m ≤ 1000000 := by have := HKm.out; omega
      have HFr : Hid (∀ k, (framesB (first :: rest.take k)).length ≤ (m + 1) * 65550) := fun k => by
        refine Nat.le_trans (framesB_le _ fun r hr => ?_) ?_
        · rcases List.mem_cons.1 hr with rfl | hr
          · exact hfl
          · exact HRL2.out r (List.mem_of_mem_take hr)
        · refine Nat.mul_le_mul_right _ ?_
          rw [List.length_cons, List.length_take]
          have := HN.out
          omega
      have HB14 := Lib.hid hB14
      have HD4 := Lib.hid hD4
      obtain ⟨ia, hia, hza, hza1, hza2⟩ := info_parts info_ans
      clear hb4 hB14 hD4 hc1 hc2 hconv HC HPut HB3 HD3 hrest hln g0 g1 f0 f1
      go_loopw [11, 56] (fun v11 v56 wr => ∃ (j : Nat) (vr : Value) (ts : ATs), j ≤ m ∧ v56 = .int .i64 j ∧ v11 = .int .i64 ((framesB (first :: rest.take j)).length : Int) ∧ wr.heap[w1.heap.size]? = some (.cells #[.string S, vr] 41) ∧
          wr.ownsRow (w1.heap.size + 1) 34 7 vr j (cells7 ts) ∧ ts.map (·.1) = (rest.take j).map toldA ∧ (∀ t ∈ ts, Lies wr w1.heap.size vr t) ∧ Below w1.heap.size w1 wr ∧ (∀ i (hi : i < rest.length), i < j → toldE rest[i] = 0)) (fun _ i _ => m - (intOf i).toNat)
      case atStart =>
        refine ⟨0, .slice none 0 0, [], Nat.zero_le _, rfl, ?_, HD4.out, World.ownsRow_nil _ _ _ _, rfl, fun t ht => by simp at ht, HB14.out, fun i _ hi => absurd hi (by omega)⟩
        simp
      case round =>
        obtain ⟨j, vr, ts, hj, rfl, rfl, hD, hown, hts, hli, hbel, hgood⟩ := hrel
        obtain ⟨ar6, cr6, rfl, _, _, _, _⟩ := ownsRow_slice hown
        have HD := Lib.hid hD
        have HOwn := Lib.hid hown
        have HTs := Lib.hid hts
        have HLi := Lib.hid hli
        have HBel := Lib.hid hbel
        have HGood := Lib.hid hgood
        clear hD hown hts hli hbel hgood
        by_cases hlt : j < m
        · have hjl : j < rest.length := by rw [HN.out]; exact hlt
          obtain ⟨b5, o5, hrow, hidx⟩ := at_rows HSub.out
          obtain ⟨a5, c5, hc5w, hb5w⟩ := hrow j hjl
          have hc5 : wr.cell? ⟨b5, o5 + j, none⟩ = some (.slice a5 rest[j].length c5) := cell_below HBel.out (Nat.le_refl _) hc5w
          have hb5 := hb5w.below stable_byteAt HBel.out
          clear hc5w
          have hix5 := fun w' => hidx .i64 j w' hlt
          have hrl := HRL2.out _ (List.getElem_mem hjl)
          have hst : rest.take (j + 1) = rest.take j ++ [rest[j]] := List.take_succ_eq_append_getElem hjl
          have hgd : rest.getD j [] = rest[j] := by simp [List.getD, hjl]
          generalize hr : rest[j]'hjl = r at hc5 hb5 hb5w hrl hst hgd
          have HR := Lib.hid hr
          have HST := Lib.hid hst
          have HGD := Lib.hid hgd
          have HBr := Lib.hid hb5w
          have hc5' : wr.cell? ⟨b5, o5 + j, none⟩ = some (.slice a5 r.length c5) := hc5
          have HT := Lib.hid (told_calls_at wr a5 r.length c5 r hb5 (by omega))
          have HRLn := Lib.hid hrl
          have hc0 : wr.cell? ⟨w1.heap.size, 0, none⟩ = some (.string S) := by have := HD.out; simp [World.cell?, this]
          have t1 : decide ((j : Int) < (m : Int)) = true := by simp; omega
          have t2 : (j : Int) < (m : Int) := by omega
          have HDs : Hid (w1.heap.size < wr.heap.size) := (Array.getElem?_eq_some_iff.1 HD.out).1
          clear hr hst hgd hb5 hb5w hrow hidx hc5 hrl hc0
          generalize hx : toldA r = x at HT
          have HX := Lib.hid hx
          generalize hfe : toldE r = fe at HT
          have HFE := Lib.hid hfe
          clear hx hfe
          unfold ansV at HT
          have HFr1 := Lib.hid (HFr.out j)
          generalize hL : (framesB (first :: rest.take j)).length = L at *
          have HL := Lib.hid hL
          clear hL
          go_wp2_with fail
          refine HT.out.mono ?_
          rintro e w5 ⟨a6, c6, rfl, hstr, hb5, hlow⟩
          go_upto_region 15 with fail
          have HE6 : Hid ((w5.alloc (.cells #[.int .i64 x.kind, .int .i64 x.err, .int .i64 x.n, .int .i64 x.m, .string (str x.text), .slice a6 x.list.length c6, .int .i64 x.sig] 34)).heap[w5.heap.size]? = some (.cells #[.int .i64 x.kind, .int .i64 x.err, .int .i64 x.n, .int .i64 x.m, .string (str x.text), .slice a6 x.list.length c6, .int .i64 x.sig] 34)) := heap_alloc_new w5 _
          have hD5 := (hb5.block _ HDs.out).trans HD.out
          have hB5 := HBel.out.trans (hb5.mono HBel.out.size)
          have hB6 := (Below.refl w5.heap.size w5).alloc (Nat.le_refl _) (.cells #[.int .i64 x.kind, .int .i64 x.err, .int .i64 x.n, .int .i64 x.m, .string (str x.text), .slice a6 x.list.length c6, .int .i64 x.sig] 34)
          have hds5 : w1.heap.size < w5.heap.size := Nat.lt_of_lt_of_le HDs.out hb5.size
          have hD6 := (hB6.block _ hds5).trans hD5
          have hB16 := hB5.trans (hB6.mono hB5.size)
          have hds6 : w1.heap.size < (w5.alloc (.cells #[.int .i64 x.kind, .int .i64 x.err, .int .i64 x.n, .int .i64 x.m, .string (str x.text), .slice a6 x.list.length c6, .int .i64 x.sig] 34)).heap.size := Nat.lt_of_lt_of_le hds5 hB6.size
          have hli6 : ∀ t ∈ ts, Lies (w5.alloc (.cells #[.int .i64 x.kind, .int .i64 x.err, .int .i64 x.n, .int .i64 x.m, .string (str x.text), .slice a6 x.list.length c6, .int .i64 x.sig] 34)) w1.heap.size (.slice ar6 j cr6) t := fun t ht => lies_below (lies_below (HLi.out t ht) hb5) hB6
          have hown6 := ownsRow_below (ownsRow_below HOwn.out hb5) hB6
          have d0 : (w5.alloc (.cells #[.int .i64 x.kind, .int .i64 x.err, .int .i64 x.n, .int .i64 x.m, .string (str x.text), .slice a6 x.list.length c6, .int .i64 x.sig] 34)).cell? ⟨w1.heap.size, 0, none⟩ = some (.string S) := by simp only [World.cell?, hD6]; rfl
          have d1 : (w5.alloc (.cells #[.int .i64 x.kind, .int .i64 x.err, .int .i64 x.n, .int .i64 x.m, .string (str x.text), .slice a6 x.list.length c6, .int .i64 x.sig] 34)).cell? ⟨w1.heap.size, 1, none⟩ = some (.slice ar6 j cr6) := by simp only [World.cell?, hD6]; rfl
          have d2 : (w5.alloc (.cells #[.int .i64 x.kind, .int .i64 x.err, .int .i64 x.n, .int .i64 x.m, .string (str x.text), .slice a6 x.list.length c6, .int .i64 x.sig] 34)).frozen? ⟨w1.heap.size, 1, none⟩ = false := by simp only [World.frozen?, hD6]; rfl
          have HD6 := Lib.hid hD6
          have HB16 := Lib.hid hB16
          have HLi6 := Lib.hid hli6
          have HOwn6 := Lib.hid hown6
          have HStr := Lib.hid hstr
          have HLow := Lib.hid hlow
          have HB5 := Lib.hid hb5
          have HB6 := Lib.hid hB6
          have HDs6 := Lib.hid hds6
          clear hD5 hB5 hB6 hds5 hD6 hB16 hli6 hown6 hstr hlow hb5 hds6 HT
          have HS6 : Hid ((w5.alloc (.cells #[.int .i64 x.kind, .int .i64 x.err, .int .i64 x.n, .int .i64 x.m, .string (str x.text), .slice a6 x.list.length c6, .int .i64 x.sig] 34)).heap.size = w5.heap.size + 1) := World.size_alloc _ _
          generalize (w5.alloc (.cells #[.int .i64 x.kind, .int .i64 x.err, .int .i64 x.n, .int .i64 x.m, .string (str x.text), .slice a6 x.list.length c6, .int .i64 x.sig] 34)) = w6 at *
          by_cases he : fe = 0
          · subst he
            have k0 : w6.cell? ⟨w5.heap.size, 0, none⟩ = some (.int .i64 x.kind) := by have := HE6.out; simp only [World.cell?, this]; rfl
            have k1 : w6.cell? ⟨w5.heap.size, 1, none⟩ = some (.int .i64 x.err) := by have := HE6.out; simp only [World.cell?, this]; rfl
            have k2 : w6.cell? ⟨w5.heap.size, 2, none⟩ = some (.int .i64 x.n) := by have := HE6.out; simp only [World.cell?, this]; rfl
            have k3 : w6.cell? ⟨w5.heap.size, 3, none⟩ = some (.int .i64 x.m) := by have := HE6.out; simp only [World.cell?, this]; rfl
            have k4 : w6.cell? ⟨w5.heap.size, 4, none⟩ = some (.string (str x.text)) := by have := HE6.out; simp only [World.cell?, this]; rfl
            have k5 : w6.cell? ⟨w5.heap.size, 5, none⟩ = some (.slice a6 x.list.length c6) := by have := HE6.out; simp only [World.cell?, this]; rfl
            have k6 : w6.cell? ⟨w5.heap.size, 6, none⟩ = some (.int .i64 x.sig) := by have := HE6.out; simp only [World.cell?, this]; rfl
            have HJ : Hid (j ≤ 1000000) := by show _ ≤ _; omega
            have hal := (Below.refl w6.heap.size w6).alloc (Nat.le_refl _) (.cells #[.int .i64 x.kind, .int .i64 x.err, .int .i64 x.n, .int .i64 x.m, .string (str x.text), .slice a6 x.list.length c6, .int .i64 x.sig] 34)
            have HAl := Lib.hid hal
            have HAs : Hid ((w6.alloc (.cells #[.int .i64 x.kind, .int .i64 x.err, .int .i64 x.n, .int .i64 x.m, .string (str x.text), .slice a6 x.list.length c6, .int .i64 x.sig] 34)).heap.size = w6.heap.size + 1) := World.size_alloc _ _
            have HOwn7 := Lib.hid (ownsRow_below HOwn6.out hal)
            have HLi7 : Hid (∀ t ∈ ts, Lies (w6.alloc (.cells #[.int .i64 x.kind, .int .i64 x.err, .int .i64 x.n, .int .i64 x.m, .string (str x.text), .slice a6 x.list.length c6, .int .i64 x.sig] 34)) w1.heap.size (.slice ar6 j cr6) t) := fun t ht => lies_below (HLi6.out t ht) hal
            clear hal d0
            go_wp2_with (at_builtin; refine wpList_append_at rfl (.tmp 71) (.tmp 73) 22 22 rfl (w1.heap.size + 1) 34 ia _ 7 80 Try.underlying22 (append_side Try.underlying22) hia hza hza1 hza2 rfl (by decide) (by decide) (.slice ar6 j cr6) j (cells7 ts) rfl HOwn7.out _ 1 _ rfl (src_new w6 [.int .i64 x.kind, .int .i64 x.err, .int .i64 x.n, .int .i64 x.m, .string (str x.text), .slice a6 x.list.length c6, .int .i64 x.sig] 34 7 1 rfl (by simp [Value.oneCell']) _) ?_ ?_ ?_ ?_)
            case _ => have := HJ.out; unfold maxLen; omega
            case _ => have := HJ.out; omega
            case _ => have := HAs.out; have := HDs6.out; omega
            intro v8 w8 hown8 hg8 hat8
            obtain ⟨a8, c8, rfl, _, _, _, _⟩ := ownsRow_slice hown8
            have hlow : ∀ k, Value.ownBlock (.slice ar6 j cr6) = some k → w1.heap.size + 1 ≤ k := fun k hk => (HOwn7.out.lt k hk).1
            have hds7 : w1.heap.size < (w6.alloc (.cells #[.int .i64 x.kind, .int .i64 x.err, .int .i64 x.n, .int .i64 x.m, .string (str x.text), .slice a6 x.list.length c6, .int .i64 x.sig] 34)).heap.size := by have := HAs.out; have := HDs6.out; omega
            have hD7 := (HAl.out.block _ HDs6.out).trans HD6.out
            have hD8 : w8.heap[w1.heap.size]? = some (.cells #[.string S, .slice ar6 j cr6] 41) := (hg8.block _ hds7 (fun e => by have := hlow _ e.symm; omega)).trans hD7
            have hB17 := HB16.out.trans (HAl.out.mono HB16.out.size)
            have hB18 : Below w1.heap.size w1 w8 := hB17.grown hg8 (Nat.le_of_lt hds7) (fun k hk => by have := hlow k hk; omega)
            have hB19 : Below w1.heap.size w1 (w8.setCell ⟨w1.heap.size, 1, none⟩ (.slice a8 (j + 1) c8)) := hB18.setCell (Nat.le_refl _) _
            have hgs := grown_set w8 w1.heap.size 1 (.slice a8 (j + 1) c8)
            have hD9 : (w8.setCell ⟨w1.heap.size, 1, none⟩ (.slice a8 (j + 1) c8)).heap[w1.heap.size]? = some (.cells #[.string S, .slice a8 (j + 1) c8] 41) := heap_setCell_same _ _ 1 _ _ _ hD8
            have hown9 : (w8.setCell ⟨w1.heap.size, 1, none⟩ (.slice a8 (j + 1) c8)).ownsRow (w1.heap.size + 1) 34 7 (.slice a8 (j + 1) c8) (j + 1) (cells7 (ts ++ [(x, a6, c6)])) := by
              rw [cells7_snoc]
              exact hown8.kept hgs (by
                cases hj : Value.ownBlock (.slice a8 (j + 1) c8) with
                | none => exact .inl rfl
                | some k => exact .inr (fun e => by cases e; have := (hown8.lt _ hj).1; omega))
            have hnew : Lies w6 w1.heap.size (.slice ar6 j cr6) (x, a6, c6) := by
              have hl5 : Lies w5 w1.heap.size (.slice ar6 j cr6) (x, a6, c6) := lies_new HStr.out HLow.out HDs.out (fun k hk => (HOwn.out.lt k hk).2)
              exact lies_below hl5 HB6.out
            have hli9 : ∀ t ∈ ts ++ [(x, a6, c6)], Lies (w8.setCell ⟨w1.heap.size, 1, none⟩ (.slice a8 (j + 1) c8)) w1.heap.size (.slice a8 (j + 1) c8) t := by
              intro t ht
              have h7 : Lies (w6.alloc (.cells #[.int .i64 x.kind, .int .i64 x.err, .int .i64 x.n, .int .i64 x.m, .string (str x.text), .slice a6 x.list.length c6, .int .i64 x.sig] 34)) w1.heap.size (.slice ar6 j cr6) t := by
                rcases List.mem_append.1 ht with ht | ht
                · exact HLi7.out t ht
                · rw [List.mem_singleton.1 ht]; exact lies_below hnew HAl.out
              exact lies_set (lies_append h7 hg8 (fun g h1 h2 => hat8 g h1 (by rw [← HAs.out]; exact h2))) hgs (Nat.le_refl _)
            have hd0 : w8.cell? ⟨w1.heap.size, 1, none⟩ = some (.slice ar6 j cr6) := by simp only [World.cell?, hD8]; rfl
            have hd1 : w8.frozen? ⟨w1.heap.size, 1, none⟩ = false := by simp only [World.frozen?, hD8]; rfl
            have hal9 := (Below.refl (w8.setCell ⟨w1.heap.size, 1, none⟩ (.slice a8 (j + 1) c8)).heap.size (w8.setCell ⟨w1.heap.size, 1, none⟩ (.slice a8 (j + 1) c8))).alloc (Nat.le_refl _) (.cells #[.slice a5 r.length c5] 28)
            have hrow := one_row (HBr.out.below stable_byteAt hB19) 28
            have hss : (w8.setCell ⟨w1.heap.size, 1, none⟩ (.slice a8 (j + 1) c8)).heap.size = w8.heap.size := by simp
            have HPut := Lib.hid (frame_put_calls _ _ 1 1 [r] hrow (fun y hy => by rw [List.mem_singleton.1 hy]; exact HRLn.out) (by rw [framesB_one, oneF_len]; have h1 := HRLn.out; have := num_len r.length (by unfold Lt64; omega); omega))
            rw [hss] at HPut
            have HD9 := Lib.hid hD9
            have HOwn9 := Lib.hid hown9
            have HLi9 := Lib.hid hli9
            have HB19 := Lib.hid hB19
            have HAl9 := Lib.hid hal9
            have HL1 : Hid ((framesB (first :: rest.take (j + 1))).length = L + (framesB [r]).length) := by
              show _ = _
              rw [HST.out, ← List.cons_append, framesB_snoc, List.length_append, framesB_one, HL.out]
            have HTs1 : Hid ((ts ++ [(x, a6, c6)]).map (·.1) = (rest.take (j + 1)).map toldA) := by
              show _ = _
              rw [HST.out, List.map_append, List.map_append, HTs.out, List.map_cons, List.map_nil, List.map_cons, List.map_nil, HX.out]
            have HG1' : Hid (∀ i (hi : i < rest.length), i < j + 1 → toldE rest[i] = 0) := fun i hi hij => by
              by_cases hij' : i < j
              · exact HGood.out i hi hij'
              · obtain rfl : i = j := by omega
                rw [HR.out]
                exact HFE.out
            clear hlow hds7 hD7 hD8 hB17 hB18 hB19 hgs hD9 hown9 hnew hli9 hal9 hrow hss hown8 hg8 hat8 k0 k1 k2 k3 k4 k5 k6
            generalize hM : (framesB [r]).length = M at *
            clear hM
            go_wp2_with fail
            refine HPut.out.mono ?_
            rintro e w11 ⟨v11, rfl, hown11, hb11⟩
            obtain ⟨a11, c11, rfl, _, _, _, _⟩ := ownsRow_slice hown11
            have hBn := HAl9.out.trans (hb11.mono (by have := HAl9.out.size; exact this))
            clear hown11
            go_wp2_with fail
            go_roundw
            case rel =>
              refine ⟨j + 1, .slice a8 (j + 1) c8, ts ++ [(x, a6, c6)], by omega, by go_num, by rw [HL1.out]; have h0 := HFr.out (j + 1); rw [HL1.out] at h0; rw [IntWalk.wrap64_in _ (by omega)]; simp, (hBn.block _ ((Array.getElem?_eq_some_iff.1 HD9.out).1)).trans HD9.out, ownsRow_below HOwn9.out hBn, HTs1.out, fun t ht => lies_below (HLi9.out t ht) hBn, HB19.out.trans (hBn.mono HB19.out.size), HG1'.out⟩
            case measure => simp [intOf]; omega
          · have e1 : decide (fe = 0) = false := by simp [he]
            have hgt : goodT rest = j := goodT_eq (fun i hi hij => HGood.out i hi hij) (by rw [HN.out]; omega) (fun hj => by rw [HR.out, HFE.out]; exact he)
            have HRes : Hid (∀ mm e, readR (first :: rest) mm e = ⟨first.drop 14, (rest.take j).map toldA, L, fe⟩) := fun mm e => by
              rw [HRR.out, hgt, if_neg (by rw [HN.out]; omega), HL.out, HGD.out, HFE.out]
            have hG6 : w6.heap[w.heap.size]? = some (.cells #[.string ⟨#[]⟩, .slice none 0 0] 41) := (HB16.out.block _ HS1.out).trans HG1.out
            have g0 : w6.cell? ⟨w.heap.size, 0, none⟩ = some (.string ⟨#[]⟩) := by simp only [World.cell?, hG6]; rfl
            have g1 : w6.cell? ⟨w.heap.size, 1, none⟩ = some (.slice none 0 0) := by simp only [World.cell?, hG6]; rfl
            have f0 : w6.frozen? ⟨w.heap.size, 0, none⟩ = false := by simp only [World.frozen?, hG6]; rfl
            have f1 : w6.frozen? ⟨w.heap.size, 1, none⟩ = false := by simp only [World.frozen?, hG6]; rfl
            have HG6 := Lib.hid hG6
            clear hgt hG6 hlt hj
            go_wp2_with fail
            have hz := set2 (.string S) (.slice ar6 j cr6) HG6.out
            have z0 : ((w6.setCell ⟨w.heap.size, 0, none⟩ (.string S)).setCell ⟨w.heap.size, 1, none⟩ (.slice ar6 j cr6)).cell? ⟨w.heap.size, 0, none⟩ = some (.string S) := by simp only [World.cell?, hz]; rfl
            have z1 : ((w6.setCell ⟨w.heap.size, 0, none⟩ (.string S)).setCell ⟨w.heap.size, 1, none⟩ (.slice ar6 j cr6)).cell? ⟨w.heap.size, 1, none⟩ = some (.slice ar6 j cr6) := by simp only [World.cell?, hz]; rfl
            change bodyPost Try.prog Try.f18 _ .ret _ _
            refine bodyPost_ret (v := .tuple #[.agg #[.string S, .slice ar6 j cr6], .int .i64 (L : Int), .int .i64 fe]) (by simp [results, Try.results18, go_sem, z0, z1]) rfl ?_
            have hlen : ((rest.take j).map toldA).length = j := by rw [← HTs.out, List.length_map]; have := HOwn6.out.1; rw [cells7_len] at this; omega
            refine ⟨K, ⟨first.drop 14, (rest.take j).map toldA, L, fe⟩, ar6, cr6, HE.out, (by rw [HLS.out, HRes.out]), ?_, ?_, ?_⟩
            · show _ = Ending.returned (.tuple #[.agg #[.string (str (first.drop 14)), .slice ar6 ((rest.take j).map toldA).length cr6], .int .i64 (L : Int), .int .i64 fe])
              rw [hlen, HSc.out]
            · show Anss _ ar6 ((rest.take j).map toldA).length cr6 ((rest.take j).map toldA)
              rw [hlen, ← HTs.out]
              exact fin_anss _ _ HS1.out HOwn6.out HLi6.out
            · exact ((HB1.out.trans (HB16.out.mono (Nat.le_of_lt HS1.out))).setCell (Nat.le_refl _) _).setCell (Nat.le_refl _) _
        · have hjm : j = m := by omega
          have HGT : Hid (goodT rest = rest.length) := goodT_eq (fun i hi _ => HGood.out i hi (by have := HN.out; omega)) (Nat.le_refl _) (fun h => absurd h (Nat.lt_irrefl _))
          have HTake : Hid (rest.take j = rest) := List.take_of_length_le (by have := HN.out; omega)
          have HRes : Hid (∀ mm e, readR (first :: rest) mm e = ⟨first.drop 14, rest.map toldA, mm, e⟩) := fun mm e => by rw [HRR.out, HGT.out, if_pos rfl]
          have t1 : decide ((j : Int) < (m : Int)) = false := by simp; omega
          have t2 : ¬ (j : Int) < (m : Int) := by omega
          have hG6 : wr.heap[w.heap.size]? = some (.cells #[.string ⟨#[]⟩, .slice none 0 0] 41) := (HBel.out.block _ HS1.out).trans HG1.out
          have g0 : wr.cell? ⟨w.heap.size, 0, none⟩ = some (.string ⟨#[]⟩) := by simp only [World.cell?, hG6]; rfl
          have g1 : wr.cell? ⟨w.heap.size, 1, none⟩ = some (.slice none 0 0) := by simp only [World.cell?, hG6]; rfl
          have f0 : wr.frozen? ⟨w.heap.size, 0, none⟩ = false := by simp only [World.frozen?, hG6]; rfl
          have f1 : wr.frozen? ⟨w.heap.size, 1, none⟩ = false := by simp only [World.frozen?, hG6]; rfl
          have d0 : wr.cell? ⟨w1.heap.size, 0, none⟩ = some (.string S) := by have := HD.out; simp only [World.cell?, this]; rfl
          have d1 : wr.cell? ⟨w1.heap.size, 1, none⟩ = some (.slice ar6 j cr6) := by have := HD.out; simp only [World.cell?, this]; rfl
          have HG6 := Lib.hid hG6
          generalize (framesB (first :: rest.take j)).length = L at *
          clear hG6 hlt hj hjm
          go_wp2_with fail
          have hz := set2 (.string S) (.slice ar6 j cr6) HG6.out
          have z0 : ((wr.setCell ⟨w.heap.size, 0, none⟩ (.string S)).setCell ⟨w.heap.size, 1, none⟩ (.slice ar6 j cr6)).cell? ⟨w.heap.size, 0, none⟩ = some (.string S) := by simp only [World.cell?, hz]; rfl
          have z1 : ((wr.setCell ⟨w.heap.size, 0, none⟩ (.string S)).setCell ⟨w.heap.size, 1, none⟩ (.slice ar6 j cr6)).cell? ⟨w.heap.size, 1, none⟩ = some (.slice ar6 j cr6) := by simp only [World.cell?, hz]; rfl
          change bodyPost Try.prog Try.f18 _ .ret _ _
          refine bodyPost_ret (v := .tuple #[.agg #[.string S, .slice ar6 j cr6], .int .i64 (sn : Int), .int .i64 ev]) (by simp [results, Try.results18, go_sem, z0, z1]) rfl ?_
          have hts := HTs.out
          rw [HTake.out] at hts
          have hlen : (rest.map toldA).length = j := by rw [← hts, List.length_map]; have := HOwn.out.1; rw [cells7_len] at this; omega
          refine ⟨K, ⟨first.drop 14, rest.map toldA, sn, ev⟩, ar6, cr6, HE.out, (by rw [HLS.out, HSN.out, HEV.out, HRes.out]), ?_, ?_, ?_⟩
          · show _ = Ending.returned (.tuple #[.agg #[.string (str (first.drop 14)), .slice ar6 (rest.map toldA).length cr6], .int .i64 (sn : Int), .int .i64 ev])
            rw [hlen, HSc.out]
          · show Anss _ ar6 (rest.map toldA).length cr6 (rest.map toldA)
            rw [hlen, ← hts]
            exact fin_anss _ _ HS1.out HOwn.out HLi.out
          · exact ((HB1.out.trans (HBel.out.mono (Nat.le_of_lt HS1.out))).setCell (Nat.le_refl _) _).setCell (Nat.le_refl _) _

end Go.Proofs.Ytgbnfipbedlmhaa
