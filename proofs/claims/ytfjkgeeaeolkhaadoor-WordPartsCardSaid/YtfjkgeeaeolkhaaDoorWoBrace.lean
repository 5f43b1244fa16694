/-
  Word: what is behind ${. Conditions: as each contract says.
-/
import Derived.Test.YtfjkgeeaeolkhaaDoorWoStep
import Derived.Shelf.Strings.SlTrimAscii
set_option linter.unusedVariables false
set_option linter.unusedSimpArgs false
set_option maxRecDepth 100000
namespace Go.Proofs.YtfjkgeeaeolkhaaDoor
open Go.RowKit Base Wo

abbrev digs : Nm := [48, 49, 50, 51, 52, 53, 54, 55, 56, 57]
theorem digs_dig (c : UInt8) : digs.contains c = digB c := by
  have : ∀ c : Fin 256, digs.contains (UInt8.ofNat c.val) = digB (UInt8.ofNat c.val) := by decide +kernel
  have h := this ⟨c.toNat, c.toNat_lt⟩
  simpa using h
theorem trim_dig (s : Nm) : s.length - (s.dropWhile (digs.contains ·)).length = digLen s := by
  have e : (fun x => digs.contains x) = digB := funext digs_dig
  unfold digLen
  rw [e]
  have := congrArg List.length (List.takeWhile_append_dropWhile (p := digB) (l := s))
  rw [List.length_append] at this
  omega
theorem trim_calls (W : World) (s : Nm) : Calls Tryd.prog 34 #[.string (str s), .string (str digs)] W fun e w' => e = .returned (.string (str (s.dropWhile (digs.contains ·)))) ∧ Below W.heap.size W w' := by
  have h := Any.strings_TrimLeft_laid (P := Tryd.prog) Tryd.lays161 (by kernel_rfl) (str s) (str digs) W (by decide) (fun j b hb => by
    have : b ∈ digs := List.mem_of_getElem? hb
    simp at this
    rcases this with rfl | rfl | rfl | rfl | rfl | rfl | rfl | rfl | rfl | rfl <;> decide)
  exact h
theorem results_cell1 {fn : Func} {t : Tmp} {ty : TypeId} (h : fn.results = #[.cell t ty]) (tmps : Array Value) (P : Program) (w : World) (b : Nat) (v : Value) (ht : tmps.getD t undef = .pointer (some ⟨b, 0, none⟩))
    (hl : (loadVar ty ⟨b, 0, none⟩).run P w = .ok v w) : (results fn tmps).run P w = .ok v w := by
  have ht' : tmps[t]?.getD undef = .pointer (some ⟨b, 0, none⟩) := by simpa using ht
  simp [results, h, ht', asAddr, hl]
theorem loadv_pt {w : World} {b : Nat} {us : List Value} (hc : Cut b us ptT w) (hl : us.length = 5) : (loadVar ptT ⟨b, 0, none⟩).run Tryd.prog w = .ok (.agg us.toArray) w := by
  obtain ⟨d, hu, hr⟩ := Option.map_eq_some_iff.1 und_pt
  exact run_loadVar_mid w b 0 ptT us d (fun j v hv => by rw [Nat.zero_add, hc.cell]; exact hv) hu hr (by rw [hl]; exact info_ptS)
abbrev P5 : List Value := [.int .i64 3, .string ⟨#[]⟩, .string ⟨#[]⟩, .bool false, .slice none 0 0]
abbrev Z5 : List Value := [.int .i64 0, .string ⟨#[]⟩, .string ⟨#[]⟩, .bool false, .slice none 0 0]
/-- While a brace is read: the reader, the part so far, and where the answer goes. -/
structure BrS (W wx : World) (b B : Nat) (v : Value) (l : List Prt) (s : Nm) (d : Nat) (q : Nm) (tp tr : Nat) (cs : List Value) : Prop where
  rd0 : Rd W b B v l s d
  box : wx.heap[b]? = some (.cells #[v, .string (str q), .int .i64 (d : Int)] rdT)
  turn : Turn b none W wx
  part : Cut tp cs ptT wx
  res : Cut tr Z5 ptT wx
  lp : W.heap.size ≤ tp
  lr : W.heap.size ≤ tr
  ne : tp ≠ tr
section
variable {W wx wy : World} {b B : Nat} {v : Value} {l : List Prt} {s : Nm} {d : Nat} {q q' : Nm} {tp tr : Nat} {cs : List Value}
theorem rd_turn (h : Rd W b B v l s d) (ht : Turn b none W wx) (hbox : wx.heap[b]? = some (.cells #[v, .string (str q), .int .i64 (d : Int)] rdT)) : Rd wx b B v l q d :=
  ⟨hbox, h.bB, row_keep h.row (fun g X hX => ht.block g (Array.getElem?_eq_some_iff.1 hX).1 (fun e => by
    rw [e, h.box] at hX
    injection hX with hX
    injection hX with _ hT _
    exact absurd hT (by decide)) (by simp)), h.dd⟩
theorem BrS.rd (h : BrS W wx b B v l s d q tp tr cs) : Rd wx b B v l q d := rd_turn h.rd0 h.turn h.box
theorem BrS.bW (h : BrS W wx b B v l s d q tp tr cs) : b < W.heap.size := h.rd0.lt
theorem BrS.below (h : BrS W wx b B v l s d q tp tr cs) (hb : Below wx.heap.size wx wy) : BrS W wy b B v l s d q tp tr cs :=
  ⟨h.rd0, (hb.block b h.rd.lt).trans h.box, h.turn.trans_same (Turn.of_below hb), h.part.below hb, h.res.below hb, h.lp, h.lr, h.ne⟩
/-- The reader turned, and nothing else. -/
theorem BrS.step (h : BrS W wx b B v l s d q tp tr cs) (hr : Rd wy b B v l q' d) (ht : Turn b none wx wy) : BrS W wy b B v l s d q' tp tr cs := by
  have := h.bW; have := h.lp; have := h.lr
  exact ⟨h.rd0, hr.box, h.turn.trans_same ht, (ht.block tp h.part.lt (by omega) (by simp)).trans h.part, (ht.block tr h.res.lt (by omega) (by simp)).trans h.res, h.lp, h.lr, h.ne⟩
theorem BrS.text (h : BrS W wx b B v l s d q tp tr cs) (q' : Nm) : BrS W (wx.setCell ⟨b, 1, none⟩ (.string (str q'))) b B v l s d q' tp tr cs :=
  h.step (h.rd.text q').1 (h.rd.text q').2
theorem BrS.set (h : BrS W wx b B v l s d q tp tr cs) (i : Nat) (u : Value) : BrS W (wx.setCell ⟨tp, i, none⟩ u) b B v l s d q tp tr (cs.set i u) := by
  have hg : wx.grownBy (wx.setCell ⟨tp, i, none⟩ u) (some tp) := Sl.setCells_grown tp [u] i wx
  have h1 := h.bW; have h2 := h.lp; have h3 := h.ne
  exact ⟨h.rd0, (hg.block b h.rd.lt (fun e => by have := Option.some.inj e; omega)).trans h.box, ⟨hg.os.trans h.turn.os, hg.tape.trans h.turn.tape, hg.output.trans h.turn.output, Nat.le_trans h.turn.size hg.size, fun k hk e1 e2 => (hg.block k (Nat.lt_of_lt_of_le hk h.turn.size) (fun e => by have := Option.some.inj e; omega)).trans (h.turn.block k hk e1 e2)⟩,
    h.part.set i u, (hg.block tr h.res.lt (fun e => h3 (Option.some.inj e).symm)).trans h.res, h.lp, h.lr, h.ne⟩
/-- The answer is laid. -/
theorem BrS.ans (h : BrS W wx b B v l s d q tp tr cs) (hl : cs.length = 5) : Rd (wx.setCells tr 0 cs) b B v l q d ∧ Turn b none W (wx.setCells tr 0 cs) ∧ Cut tr cs ptT (wx.setCells tr 0 cs) ∧ wx.grownBy (wx.setCells tr 0 cs) (some tr) := by
  have hg := Sl.setCells_grown tr cs 0 wx
  have h1 := h.bW; have h2 := h.lr
  have ht : Turn b none W (wx.setCells tr 0 cs) := ⟨hg.os.trans h.turn.os, hg.tape.trans h.turn.tape, hg.output.trans h.turn.output, Nat.le_trans h.turn.size hg.size, fun k hk e1 e2 => (hg.block k (Nat.lt_of_lt_of_le hk h.turn.size) (fun e => by have := Option.some.inj e; omega)).trans (h.turn.block k hk e1 e2)⟩
  refine ⟨rd_turn h.rd0 ht ((hg.block b h.rd.lt (fun e => by have := Option.some.inj e; omega)).trans h.box), ht, ?_, hg⟩
  have := Sl.heap_setCells tr ptT cs 0 wx Z5 h.res (by rw [hl]; exact Nat.le_refl _)
  have e : splice Z5 0 cs = cs := by
    unfold splice
    rw [List.take_zero, List.nil_append, Nat.zero_add, List.drop_of_length_le (by rw [hl]; exact Nat.le_refl _), List.append_nil]
  rw [e] at this
  exact this
end
theorem does_max {P : Program} {a : Act} {w : World} {post : Value → World → Prop} {dst : Option Tmp} {x y : Operand} {ats : Array TypeId} {ty : TypeId} {pos : String} {after : Array Edge} {guard : Option (Nat × Bool)} (k m : Nat)
    (hx : a.eval x = .int .i64 (k : Int)) (hy : a.eval y = .int .i64 (m : Int)) (hp : post (.int .i64 ((max k m : Nat) : Int)) w) : Rg.does P { dst, op := .call { callee := .builtin .max, args := #[x, y], argTypes := ats }, type := ty, pos, after, guard } a w post := by
  refine Rg.does_value (v := .int .i64 ((max k m : Nat) : Int)) ?_ hp
  have h := run_max_int2 (P := P) (w := w) ats ty .i64 .i64 (k : Int) (m : Int)
  have e : (if (m : Int) > (k : Int) then (m : Int) else (k : Int)) = ((max k m : Nat) : Int) := by split <;> omega
  rw [e] at h
  simp [execOp, resolve, invoke, builtin, hx, hy, h, Result.andThen]
def BracePost (W : World) (b B : Nat) (v : Value) (l : List Prt) (s : Nm) (d : Nat) (r : Ending) (W' : World) : Prop :=
  ∃ f x, braceM (withinM f d) s = some x ∧ Turn b none W W' ∧ match x with
    | .error e => r = panEnd e
    | .ok y => ∃ u, r = .returned (.agg (cellsP y.1 u).toArray) ∧ Rd W' b B v l y.2 d ∧ TreeH (8 - d) (fun g => W.heap.size ≤ g) W' u y.1.w
theorem load_ptc {w : World} {b : Nat} {us : List Value} (hc : Cut b us ptT w) (hl : us.length = 5) : (Instr.loadAt ptT (.pointer (some ⟨b, 0, none⟩))).run Tryd.prog w = .ok (.agg us.toArray) w := load_pt (fun j v hv => by rw [Nat.zero_add, hc.cell]; exact hv) hl
set_option maxHeartbeats 8000000 in
theorem brace_calls {n : Nat} (ih : PartIH n) (W : World) (b B : Nat) (v : Value) (l : List Prt) (s : Nm) (d : Nat) (h : Rd W b B v l s d) (hn : s.length < n) (hw : wt l + 2 * s.length ≤ 100000) (hB : B ≤ W.heap.size) (hO : OpsT W) (hg : gOps < B) (hd : d < 8) :
    Calls Tryd.prog 29 #[.pointer (some ⟨b, 0, none⟩)] W (BracePost W b B v l s d) := by
  have HIH : Hid (PartIH n) := ih
  have HO := Lib.hid hO
  obtain ⟨wA, hwA, hS⟩ : ∃ wA, (W.alloc (.cells Z5.toArray ptT)).alloc (.cells P5.toArray ptT) = wA ∧ BrS W wA b B v l s d s (W.heap.size + 1) W.heap.size P5 := by
    have h1 : (W.alloc (.cells Z5.toArray ptT)).heap.size = W.heap.size + 1 := by rw [World.size_alloc]
    have b1 := (Below.refl W.heap.size W).alloc (Nat.le_refl _) (.cells Z5.toArray ptT)
    have c1 := heap_alloc_new W (.cells Z5.toArray ptT)
    have c2 := heap_alloc_new (W.alloc (.cells Z5.toArray ptT)) (.cells P5.toArray ptT)
    rw [h1] at c2
    have b2 := b1.alloc (by omega) (.cells P5.toArray ptT)
    exact ⟨_, rfl, h, (b2.block b h.lt).trans h.box, Turn.of_below b2, c2, (Below.heap_alloc _ _ _ (by omega)).trans c1, by omega, Nat.le_refl _, by omega⟩
  have HWA : Hid ((W.alloc (.cells #[.int .i64 0, .string ⟨#[]⟩, .string ⟨#[]⟩, .bool false, .slice none 0 0] ptT)).alloc (.cells #[.int .i64 3, .string ⟨#[]⟩, .string ⟨#[]⟩, .bool false, .slice none 0 0] ptT) = wA) := hwA
  obtain ⟨tr, htr⟩ : ∃ tr, W.heap.size = tr := ⟨_, rfl⟩
  have HTr := Lib.hid htr
  rw [htr] at hS
  have HS := Lib.hid hS
  clear ih hO hS hwA h
  go_enter Tryd.func29, Tryd.ntmps29
  go_upto_region 1 with fail
  go_upto_region 2 with fail
  rw [HWA.out]
  clear htr
  obtain ⟨tp, htp⟩ : ∃ tp, tr + 1 = tp := ⟨_, rfl⟩
  rw [htp] at HS ⊢
  clear htp
  go_wp2_with fail
  refine (has_calls _ b B v l s d HS.out.rd [35]).mono ?_
  rintro r w2 ⟨rfl, rfl⟩
  obtain ⟨hb, hhb⟩ : ∃ hb, has [35] s = hb := ⟨_, rfl⟩
  rw [hhb]
  have HHb := Lib.hid hhb
  clear hhb
  go_upto_if 11 with fail
  go_cut [4, 5] (fun s4 s5 wx => lenForm s = false ∧ BrS W wx b B v l s d s tp tr P5)
  case first =>
    by_cases hh : has [35] s = true
    case neg =>
      have hh : has [35] s = false := by simpa using hh
      have HLf : Hid (lenForm s = false) := by show _ = _; unfold lenForm; rw [hh]; rfl
      obtain rfl : hb = false := by rw [← HHb.out]; exact hh
      clear hh
      go_wp2_with fail
      go_meet
      exact ⟨HLf.out, HS.out⟩
    obtain ⟨t, hst⟩ : ∃ t, s = 35 :: t := by
      cases s with
      | nil => simp [has, List.isPrefixOf] at hh
      | cons c t =>
        have : c = 35 := by
          have h2 : (35 == c) = true := by simpa [has, List.isPrefixOf] using hh
          exact (beq_iff_eq.1 h2).symm
        exact ⟨t, by rw [this]⟩
    obtain rfl : hb = true := by rw [← HHb.out]; exact hh
    have HLf : Hid (lenForm s = (decide (0 < paramLen t) && has [125] (t.drop (paramLen t)))) := by
      show _ = _
      unfold lenForm
      rw [hh, hst]
      rfl
    have HSt := Lib.hid hst
    have htl : t.length + 1 = s.length := by rw [hst]; simp
    clear hh
    obtain ⟨⟨c0, c1, c2⟩, f0, f1, f2⟩ := rd_cells HS.out.box
    have hx1 : (str s).extract 1 (str s).size = str t := by
      rw [Sw.str_sub, show s.take (str s).size = s from List.take_length, hst]; rfl
    have e2 : (1 : Int) ≤ ((str s).size : Int) := by show (1 : Int) ≤ (s.length : Int); omega
    clear hst
    go_upto_region 4 with fail
    obtain ⟨N, hN⟩ : ∃ N, w2.heap.size = N := ⟨_, rfl⟩
    obtain ⟨w3, hw3⟩ : ∃ w3, w2.alloc (.cells #[.slice none 0 0, .string (str t), .int .i64 0] rdT) = w3 := ⟨_, rfl⟩
    have hal : Below w2.heap.size w2 w3 := by rw [← hw3]; exact (Below.refl _ _).alloc (Nat.le_refl _) _
    have HS3 := Lib.hid (HS.out.below hal)
    have HR3 : Hid (Rd w3 N N (.slice none 0 0) [] t 0) := ⟨by rw [← hw3, ← hN]; exact heap_alloc_new w2 _, Nat.le_refl _, row_nil _ _ _, by omega⟩
    have HW3 := Lib.hid hw3
    have HN := Lib.hid hN
    clear hal hw3 hN c0 c1 c2 f0 f1 f2 hx1 e2
    rw [HW3.out, HN.out]
    go_wp2_with fail
    refine (param_calls w3 N N _ _ t 0 HR3.out (by omega)).mono ?_
    rintro r w4 ⟨rfl, rfl⟩
    obtain ⟨k, hk⟩ : ∃ k, paramLen t = k := ⟨_, rfl⟩
    rw [hk] at HLf ⊢
    have HK := Lib.hid hk
    have hkl : k ≤ t.length := by rw [← hk]; exact paramLen_le t
    clear hk
    obtain ⟨⟨c0, c1, c2⟩, f0, f1, f2⟩ := rd_cells HR3.out.box
    have s2 := fun W => Sw.run_sub_l (P := Tryd.prog) (w := W) Tryd.underlying9 t .i64 k hkl
    by_cases hk0 : 0 < k
    case neg =>
      obtain rfl : k = 0 := by omega
      have HLn : Hid (lenForm s = false) := by show _ = _; rw [HLf.out]; rfl
      clear hk0 s2
      go_wp2_with fail
      go_meet
      exact ⟨HLn.out, HS3.out⟩
    have a1 : decide ((0 : Int) < (k : Int)) = true := decide_eq_true (by omega)
    have a2 : (0 : Int) < (k : Int) := by omega
    go_wp2_with fail
    refine (Tryd.strings_HasPrefix (str (t.drop k)) (str [125]) _).mono ?_
    rintro r w5 ⟨rfl, rfl⟩
    have HLh : Hid (lenForm s = has [125] (t.drop k)) := by show _ = _; rw [HLf.out, decide_eq_true hk0]; rfl
    rw [str_dl, str_dl, show Lib.hasPrefix (t.drop k) [125] = lenForm s from HLh.out.symm]
    clear c0 c1 c2 f0 f1 f2 s2 a1 a2
    by_cases hlf : lenForm s = false
    · rw [hlf]
      have HLn := Lib.hid hlf
      clear hlf
      go_wp2_with fail
      go_meet
      exact ⟨HLn.out, HS3.out⟩
    have hlf : lenForm s = true := by simpa using hlf
    rw [hlf]
    have HLy := Lib.hid hlf
    have hdk : 1 ≤ (t.drop k).length := by
      have := has_len (p := [125]) (s := t.drop k) (by rw [← HLh.out]; exact hlf)
      simpa using this
    have hdk2 : k + 1 ≤ t.length := by rw [List.length_drop] at hdk; omega
    have ht1 : s.drop 1 = t := by rw [HSt.out]; rfl
    have HT1 := Lib.hid ht1
    clear hlf ht1
    go_wp2_with fail
    refine (take_yes _ b B v l s d HS3.out.rd 1 (by omega) (by omega)).mono ?_
    rintro r w6 ⟨rfl, hw6⟩
    rw [HT1.out] at hw6
    have HS6 : Hid (BrS W w6 b B v l s d t tp tr P5) := by show BrS _ _ _ _ _ _ _ _ _ _ _ _; rw [hw6]; exact HS3.out.text t
    clear hw6
    have p2 : w6.cell? ⟨tp, 2, none⟩ = some (.string ⟨#[]⟩) := HS6.out.part.cell 2
    have z2 : w6.frozen? ⟨tp, 2, none⟩ = false := HS6.out.part.frozen 2
    go_wp2_with fail
    clear p2 z2
    have HS7 := Lib.hid (HS6.out.set 2 (.string ⟨#[108, 101, 110]⟩))
    generalize w6.setCell ⟨tp, 2, none⟩ (.string ⟨#[108, 101, 110]⟩) = w7 at *
    refine (take_yes _ b B v l t d HS7.out.rd k (by omega) hkl).mono ?_
    rintro r w8 ⟨rfl, hw8⟩
    have HS8 : Hid (BrS W w8 b B v l s d (t.drop k) tp tr [.int .i64 3, .string ⟨#[]⟩, .string ⟨#[108, 101, 110]⟩, .bool false, .slice none 0 0]) := by show BrS _ _ _ _ _ _ _ _ _ _ _ _; rw [hw8]; exact HS7.out.text _
    clear hw8
    have p1 : w8.cell? ⟨tp, 1, none⟩ = some (.string ⟨#[]⟩) := HS8.out.part.cell 1
    have z1 : w8.frozen? ⟨tp, 1, none⟩ = false := HS8.out.part.frozen 1
    go_wp2_with fail
    clear p1 z1
    have HS9 := Lib.hid (HS8.out.set 1 (.string (str (t.take k))))
    generalize w8.setCell ⟨tp, 1, none⟩ (.string (str (t.take k))) = w9 at *
    refine (take_yes _ b B v l (t.drop k) d HS9.out.rd 1 (by rw [List.length_drop]; omega) hdk).mono ?_
    rintro r w10 ⟨rfl, hw10⟩
    have HS10 : Hid (BrS W w10 b B v l s d ((t.drop k).drop 1) tp tr [.int .i64 3, .string (str (t.take k)), .string ⟨#[108, 101, 110]⟩, .bool false, .slice none 0 0]) := by show BrS _ _ _ _ _ _ _ _ _ _ _ _; rw [hw10]; exact HS9.out.text _
    clear hw10
    obtain ⟨⟨p0, p1, p2, p3, p4⟩, _⟩ := pt_cells HS10.out.part
    have HAn := Lib.hid (HS10.out.ans rfl)
    go_wp2_with (refine wpList_store_mid rfl ptT (.tmp 2) (.tmp 41) rfl tr 0 ([.int .i64 3, .string (str (t.take k)), .string ⟨#[108, 101, 110]⟩, .bool false, .slice none 0 0] : List Value).toArray rfl rfl (cut_there HS10.out.res 0 5 (Nat.le_refl _)) info_ptS (all_oneCell_toArray (cellsP_one _ _ _ _ _ rfl)) ?_)
    refine bodyPost_ret (results_cell1 rfl _ _ _ tr (.agg ([.int .i64 3, .string (str (t.take k)), .string ⟨#[108, 101, 110]⟩, .bool false, .slice none 0 0] : List Value).toArray) rfl (loadv_pt HAn.out.2.2.1 rfl)) rfl ?_
    refine ⟨1, .ok (.mk 3 (t.take k) [108, 101, 110] false [], (t.drop k).drop 1), ?_, HAn.out.2.1, _, rfl, HAn.out.1, tree_nil _ _ _⟩
    unfold braceM
    rw [HLy.out, HT1.out, HK.out]
    rfl
  case rest =>
    obtain ⟨hlf, hS⟩ := hcut
    have HLf := Lib.hid hlf
    have HSc := Lib.hid hS
    clear hlf hS HS HWA
    go_upto_region 11 with fail
    have HDg : Hid (((str s).size : Int) - ((str (s.dropWhile (digs.contains ·))).size : Int) = (digLen s : Int)) := by
      have h1 := trim_dig s
      have h2 : (s.dropWhile (digs.contains ·)).length ≤ s.length := (List.dropWhile_sublist _).length_le
      show (s.length : Int) - ((s.dropWhile (digs.contains ·)).length : Int) = _
      omega
    have HDl : Hid ((s.dropWhile (digs.contains ·)).length ≤ s.length) := (List.dropWhile_sublist _).length_le
    have HSl : Hid (s.length ≤ 100000) := by show _ ≤ _; omega
    refine Rg.wp_region_rgl [] [Rg.Is (.pointer (some ⟨b, 0, none⟩)), Rg.Is (.int .i64 (paramLen s : Int)), Rg.Is (.pointer (some ⟨b, 0, none⟩)), Rg.Is (.pointer (some ⟨b, 0, none⟩)), Rg.Is (.pointer (some ⟨b, 0 + 1, none⟩)), Rg.Is (.string (str s)), Rg.Is (.int .i64 ((str s).size : Int)), Rg.Is (.pointer (some ⟨b, 0, none⟩)), Rg.Is (.pointer (some ⟨b, 0, none⟩)), Rg.Is (.pointer (some ⟨b, 0 + 1, none⟩)), Rg.Is (.string (str s)), Rg.Is (.string (str (s.dropWhile (digs.contains ·)))), Rg.Is (.int .i64 ((str (s.dropWhile (digs.contains ·))).size : Int)), Rg.Is (.int .i64 (digLen s : Int)), Rg.Is (.int .i64 ((max (paramLen s) (digLen s) : Nat) : Int)), Rg.Is (.int .i64 ((max (paramLen s) (digLen s) : Nat) : Int))] (by kernel_rfl) (by kernel_rfl) (by kernel_rfl) ⟨Rg.st_is _, Rg.st_is _, Rg.st_is _, Rg.st_is _, Rg.st_is _, Rg.st_is _, Rg.st_is _, Rg.st_is _, Rg.st_is _, Rg.st_is _, Rg.st_is _, Rg.st_is _, Rg.st_is _, Rg.st_is _, Rg.st_is _, Rg.st_is _, trivial⟩ ⟨rfl, rfl, rfl, rfl, rfl, rfl, rfl, rfl, rfl, rfl, rfl, rfl, rfl, rfl, rfl, rfl, trivial⟩ ⟨?_, ?_, ?_, ?_, ?_, ?_, ?_, ?_, ?_, ?_, ?_, ?_, ?_, ?_, ?_, ?_, trivial⟩ ?_
    · intro _ a wx hb hk
      have h0 : a.eval (.tmp 0) = .pointer (some ⟨b, 0, none⟩) := Eq.mp (by kernel_rfl) (hk 0 (by decide))
      exact Rg.does_move ⟨Below.refl _ _, h0⟩
    · intro _ a wx hb hk
      have h42 : a.eval (.tmp 42) = .pointer (some ⟨b, 0, none⟩) := Eq.mp (by kernel_rfl) (hk 42 (by decide))
      refine Rg.does_func #[.pointer (some ⟨b, 0, none⟩)] Tryd.func31 (by kernel_rfl) (by kernel_rfl) (by simp [h42]) (param_calls wx b B v l s d (HSc.out.below hb).rd (by have := HSl.out; omega)) ?_
      rintro e w' ⟨rfl, rfl⟩
      exact ⟨_, rfl, Below.refl _ _, rfl⟩
    · intro _ a wx hb hk
      have h0 : a.eval (.tmp 0) = .pointer (some ⟨b, 0, none⟩) := Eq.mp (by kernel_rfl) (hk 0 (by decide))
      exact Rg.does_move ⟨Below.refl _ _, h0⟩
    · intro _ a wx hb hk
      have h44 : a.eval (.tmp 44) = .pointer (some ⟨b, 0, none⟩) := Eq.mp (by kernel_rfl) (hk 44 (by decide))
      exact Ap.does_nil _ h44 ⟨Below.refl _ _, rfl⟩
    · intro _ a wx hb hk
      have h45 : a.eval (.tmp 45) = .pointer (some ⟨b, 0, none⟩) := Eq.mp (by kernel_rfl) (hk 45 (by decide))
      exact Rs.does_field _ _ h45 (fld_rd b 0 1 (by decide) wx) ⟨Below.refl _ _, rfl⟩
    · intro _ a wx hb hk
      have h46 : a.eval (.tmp 46) = .pointer (some ⟨b, 0 + 1, none⟩) := Eq.mp (by kernel_rfl) (hk 46 (by decide))
      exact Rg.does_load _ _ h46 (load_str (cell_below hb (Nat.le_refl _) (rd_cells HSc.out.box).1.2.1)) ⟨Below.refl _ _, rfl⟩
    · intro _ a wx hb hk
      have h47 : a.eval (.tmp 47) = .string (str s) := Eq.mp (by kernel_rfl) (hk 47 (by decide))
      exact Rs.does_len_string (str s) Tryd.underlying9 h47 ⟨Below.refl _ _, rfl⟩
    · intro _ a wx hb hk
      have h0 : a.eval (.tmp 0) = .pointer (some ⟨b, 0, none⟩) := Eq.mp (by kernel_rfl) (hk 0 (by decide))
      exact Rg.does_move ⟨Below.refl _ _, h0⟩
    · intro _ a wx hb hk
      have h49 : a.eval (.tmp 49) = .pointer (some ⟨b, 0, none⟩) := Eq.mp (by kernel_rfl) (hk 49 (by decide))
      exact Ap.does_nil _ h49 ⟨Below.refl _ _, rfl⟩
    · intro _ a wx hb hk
      have h50 : a.eval (.tmp 50) = .pointer (some ⟨b, 0, none⟩) := Eq.mp (by kernel_rfl) (hk 50 (by decide))
      exact Rs.does_field _ _ h50 (fld_rd b 0 1 (by decide) wx) ⟨Below.refl _ _, rfl⟩
    · intro _ a wx hb hk
      have h51 : a.eval (.tmp 51) = .pointer (some ⟨b, 0 + 1, none⟩) := Eq.mp (by kernel_rfl) (hk 51 (by decide))
      exact Rg.does_load _ _ h51 (load_str (cell_below hb (Nat.le_refl _) (rd_cells HSc.out.box).1.2.1)) ⟨Below.refl _ _, rfl⟩
    · intro _ a wx hb hk
      have h52 : a.eval (.tmp 52) = .string (str s) := Eq.mp (by kernel_rfl) (hk 52 (by decide))
      refine Rg.does_func #[.string (str s), .string (str digs)] Tryd.func34 (by kernel_rfl) (by kernel_rfl) (by simp [h52]; rfl) (trim_calls wx s) ?_
      rintro e w' ⟨rfl, hb'⟩
      exact ⟨_, rfl, hb', rfl⟩
    · intro _ a wx hb hk
      have h53 : a.eval (.tmp 53) = .string (str (s.dropWhile (digs.contains ·))) := Eq.mp (by kernel_rfl) (hk 53 (by decide))
      exact Rs.does_len_string _ Tryd.underlying9 h53 ⟨Below.refl _ _, rfl⟩
    · intro _ a wx hb hk
      have h48 : a.eval (.tmp 48) = .int .i64 ((str s).size : Int) := Eq.mp (by kernel_rfl) (hk 48 (by decide))
      have h54 : a.eval (.tmp 54) = .int .i64 ((str (s.dropWhile (digs.contains ·))).size : Int) := Eq.mp (by kernel_rfl) (hk 54 (by decide))
      exact Rg.does_bin .i64 _ _ _ h48 h54 (by
        have h9 := Sw.run_minus (P := Tryd.prog) (w := wx) (t := 3) (a := ((str s).size : Int)) (b := ((str (s.dropWhile (digs.contains ·))).size : Int)) (by have := HDg.out; omega) (by have := HDg.out; have := digLen_le s; have := HSl.out; omega)
        rw [HDg.out] at h9
        exact h9) ⟨Below.refl _ _, rfl⟩
    · intro _ a wx hb hk
      have h43 : a.eval (.tmp 43) = .int .i64 (paramLen s : Int) := Eq.mp (by kernel_rfl) (hk 43 (by decide))
      have h55 : a.eval (.tmp 55) = .int .i64 (digLen s : Int) := Eq.mp (by kernel_rfl) (hk 55 (by decide))
      exact does_max _ _ h43 h55 ⟨Below.refl _ _, rfl⟩
    · intro _ a wx hb hk
      have h56 : a.eval (.tmp 56) = .int .i64 ((max (paramLen s) (digLen s) : Nat) : Int) := Eq.mp (by kernel_rfl) (hk 56 (by decide))
      exact Rg.does_assign ⟨Below.refl _ _, h56⟩
    intro vals wD hbD hL
    obtain ⟨g0, g1, g2, g3, g4, g5, g6, g7, g8, g9, g10, g11, g12, g13, g14, g15, _⟩ := hL
    have e15 : vals 15 = .int .i64 ((max (paramLen s) (digLen s) : Nat) : Int) := g15
    simp only [Rg.putAll, List.setIfInBounds_toArray, List.set_cons_succ, List.set_cons_zero, e15]
    have HSD := Lib.hid (HSc.out.below hbD)
    obtain ⟨m, hm⟩ : ∃ m, max (paramLen s) (digLen s) = m := ⟨_, rfl⟩
    have hml : m ≤ s.length := by rw [← hm]; exact Nat.max_le.2 ⟨paramLen_le s, digLen_le s⟩
    rw [hm]
    have HM := Lib.hid hm
    clear g0 g1 g2 g3 g4 g5 g6 g7 g8 g9 g10 g11 g12 g13 g14 g15 e15 hbD hm
    by_cases hm0 : m = 0
    · subst hm0
      go_wp2_with fail
      refine (fail_calls _ 11).mono ?_
      rintro r w3 ⟨rfl, rfl⟩
      refine ⟨rfl, 1, .error 11, ?_, HSD.out.turn, rfl⟩
      unfold braceM
      rw [HLf.out, if_neg (by simp), if_pos HM.out]
      rfl
    have HBr : Hid (∀ w, braceM w s = restM w (s.take m) (s.drop m)) := fun w => by
      unfold braceM
      rw [HLf.out, if_neg (by simp), if_neg (by rw [HM.out]; exact hm0), HM.out]
    have d1 : ((m : Int) == 0) = false := by rw [beq_eq_false_iff_ne]; omega
    have d2 : decide ((m : Int) = 0) = false := decide_eq_false (by omega)
    clear hm0
    go_wp2_with fail
    clear d1 d2
    refine (take_yes _ b B v l s d HSD.out.rd m (by omega) hml).mono ?_
    rintro r w3 ⟨rfl, hw3⟩
    have HS3 : Hid (BrS W w3 b B v l s d (s.drop m) tp tr P5) := by show BrS _ _ _ _ _ _ _ _ _ _ _ _; rw [hw3]; exact HSD.out.text _
    clear hw3
    obtain ⟨q, hq⟩ : ∃ q, s.drop m = q := ⟨_, rfl⟩
    obtain ⟨tx, htx⟩ : ∃ tx, s.take m = tx := ⟨_, rfl⟩
    rw [hq] at HS3 HBr
    rw [htx] at HBr ⊢
    have hql : q.length ≤ s.length := by rw [← hq, List.length_drop]; omega
    clear hq htx
    have p1 : w3.cell? ⟨tp, 1, none⟩ = some (.string ⟨#[]⟩) := HS3.out.part.cell 1
    have z1 : w3.frozen? ⟨tp, 1, none⟩ = false := HS3.out.part.frozen 1
    go_wp2_with fail
    clear p1 z1
    have HS4 := Lib.hid (HS3.out.set 1 (.string (str tx)))
    generalize w3.setCell ⟨tp, 1, none⟩ (.string (str tx)) = w4 at *
    refine (has_calls w4 b B v l q d HS4.out.rd [125]).mono ?_
    rintro r w5 ⟨rfl, rfl⟩
    by_cases hh : has [125] q = true
    · rw [hh]
      have hq1 : 1 ≤ q.length := by simpa using has_len hh
      have HRs : Hid (∀ w, braceM w s = ret (.mk 3 tx [] false [], q.drop 1)) := fun w => by
        rw [HBr.out]; unfold restM; rw [if_pos hh]
      clear hh
      go_wp2_with fail
      refine (take_yes _ b B v l q d HS4.out.rd 1 (by omega) hq1).mono ?_
      rintro r w6 ⟨rfl, hw6⟩
      have HS6 : Hid (BrS W w6 b B v l s d (q.drop 1) tp tr [.int .i64 3, .string (str tx), .string ⟨#[]⟩, .bool false, .slice none 0 0]) := by show BrS _ _ _ _ _ _ _ _ _ _ _ _; rw [hw6]; exact HS4.out.text _
      clear hw6
      obtain ⟨⟨p0, p1, p2, p3, p4⟩, _⟩ := pt_cells HS6.out.part
      have HAn := Lib.hid (HS6.out.ans rfl)
      go_wp2_with (refine wpList_store_mid rfl ptT (.tmp 2) (.tmp 68) rfl tr 0 ([.int .i64 3, .string (str tx), .string ⟨#[]⟩, .bool false, .slice none 0 0] : List Value).toArray rfl rfl (cut_there HS6.out.res 0 5 (Nat.le_refl _)) info_ptS (all_oneCell_toArray (cellsP_one _ _ _ _ _ rfl)) ?_)
      refine bodyPost_ret (results_cell1 rfl _ _ _ tr (.agg ([.int .i64 3, .string (str tx), .string ⟨#[]⟩, .bool false, .slice none 0 0] : List Value).toArray) rfl (loadv_pt HAn.out.2.2.1 rfl)) rfl ?_
      exact ⟨1, .ok (.mk 3 tx [] false [], q.drop 1), HRs.out _, HAn.out.2.1, _, rfl, HAn.out.1, tree_nil _ _ _⟩
    have hh : has [125] q = false := by simpa using hh
    rw [hh]
    have HRs : Hid (∀ w, braceM w s = match opOf q with
        | none => err 11
        | some o => bnd (w (q.drop o.length)) fun x => ret (.mk 3 tx o false x.1, x.2)) := fun w => by
      rw [HBr.out]; unfold restM; rw [hh]; rfl
    clear hh
    have HO5 : Hid (OpsT w5) := HO.out.turn HS4.out.turn (Nat.lt_of_lt_of_le hg HS4.out.rd0.bB) (by simp)
    obtain ⟨tt, fr, hot⟩ := HO5.out
    have HOt := Lib.hid hot
    clear hot
    go_wp2_with (refine wpList_load_row rfl 54 _ rfl gOps rfl tt _ fr _ HOt.out Tryd.underlying54 rfl (by kernel_rfl) ?_)
    go_loopw [70] (fun v70 wr => ∃ i : Nat, i ≤ 12 ∧ v70 = .int .i64 (i : Int) ∧ wr = w5 ∧ ∀ j, (hj : j < i) → (h12 : j < opsL.length) → has opsL[j] q = false) (fun v70 _ => 12 - (intOf v70).toNat)
    case atStart => exact ⟨0, Nat.zero_le _, rfl, rfl, fun j hj => absurd hj (Nat.not_lt_zero _)⟩
    case round =>
      obtain ⟨i, hi, rfl, hwr, hall⟩ := hrel
      have HAll := Lib.hid hall
      clear hall
      have hwr2 := hwr.symm
      subst hwr2
      clear hwr
      by_cases h12 : i < 12
      case neg =>
        obtain rfl : i = 12 := by omega
        have HNo : Hid (opOf q = none) := by
          show _ = _
          unfold opOf
          rw [List.find?_eq_none]
          intro o ho
          obtain ⟨j, hj, rfl⟩ := List.getElem_of_mem ho
          rw [HAll.out j hj hj]
          simp
        go_wp2_with fail
        refine (fail_calls _ 11).mono ?_
        rintro r w6 ⟨rfl, rfl⟩
        refine ⟨rfl, 1, .error 11, ?_, HS4.out.turn, rfl⟩
        rw [HRs.out, HNo.out]
        rfl
      have hil : i < opsL.length := h12
      obtain ⟨o, ho⟩ : ∃ o, opsL[i] = o := ⟨_, rfl⟩
      have xI : ∀ w' : World, (Instr.index 54 (.agg #[.string (str [58, 45]), .string (str [58, 61]), .string (str [58, 63]), .string (str [58, 43]), .string (str [37, 37]), .string (str [35, 35]), .string (str [45]), .string (str [61]), .string (str [63]), .string (str [43]), .string (str [37]), .string (str [35])]) (.int .i64 (i : Int))).run Tryd.prog w' = .ok (.string (str o)) w' := fun w' => by
        subst ho
        match i, h12 with
        | 0, _ => rfl
        | 1, _ => rfl
        | 2, _ => rfl
        | 3, _ => rfl
        | 4, _ => rfl
        | 5, _ => rfl
        | 6, _ => rfl
        | 7, _ => rfl
        | 8, _ => rfl
        | 9, _ => rfl
        | 10, _ => rfl
        | 11, _ => rfl
      have HOi := Lib.hid ho
      have a1 : decide ((i : Int) < (12 : Int)) = true := decide_eq_true (by omega)
      have a2 : (i : Int) < (12 : Int) := by omega
      clear ho
      go_wp2_with fail
      refine (has_calls w5 b B v l q d HS4.out.rd o).mono ?_
      rintro r w6 ⟨rfl, rfl⟩
      by_cases hh : has o q = true
      case neg =>
        have hh : has o q = false := by simpa using hh
        rw [hh]
        have HAl2 : Hid (∀ j, (hj : j < i + 1) → (h12 : j < opsL.length) → has opsL[j] q = false) := fun j hj hj12 => by
          by_cases e : j = i
          · subst e; rw [HOi.out]; exact hh
          · exact HAll.out j (by omega) hj12
        clear hh xI
        go_wp2_with fail
        go_roundw
        case rel => exact ⟨i + 1, by omega, by go_num, trivial, HAl2.out⟩
        case measure => simp [intOf]; omega
      rw [hh]
      have HOo : Hid (opOf q = some o) := by
        show _ = _
        unfold opOf
        rw [List.find?_eq_some_iff_getElem]
        exact ⟨hh, i, hil, HOi.out, fun j hj => by rw [HAll.out j hj (by omega)]; rfl⟩
      have hol : o.length ≤ q.length := has_len hh
      have HTk : Hid (q.take o.length = o) := by
        obtain ⟨z, hz⟩ := List.isPrefixOf_iff_prefix.1 hh
        show _ = _
        rw [← hz, List.take_left]
      have ho1 : 1 ≤ o.length ∧ o.length ≤ 2 := by
        have hm : o ∈ opsL := by rw [← HOi.out]; exact List.getElem_mem _
        simp [opsL] at hm
        rcases hm with rfl | rfl | rfl | rfl | rfl | rfl | rfl | rfl | rfl | rfl | rfl | rfl <;> decide
      have hos : (str o).size = o.length := rfl
      clear hh xI a1 a2
      go_wp2_with fail
      refine (take_yes _ b B v l q d HS4.out.rd o.length (by omega) hol).mono ?_
      rintro r w7 ⟨rfl, hw7⟩
      have HS7 : Hid (BrS W w7 b B v l s d (q.drop o.length) tp tr [.int .i64 3, .string (str tx), .string ⟨#[]⟩, .bool false, .slice none 0 0]) := by show BrS _ _ _ _ _ _ _ _ _ _ _ _; rw [hw7]; exact HS4.out.text _
      rw [HTk.out]
      clear hw7
      have p2 : w7.cell? ⟨tp, 2, none⟩ = some (.string ⟨#[]⟩) := HS7.out.part.cell 2
      have z2 : w7.frozen? ⟨tp, 2, none⟩ = false := HS7.out.part.frozen 2
      go_wp2_with fail
      clear p2 z2
      have HS8 := Lib.hid (HS7.out.set 2 (.string (str o)))
      have HO8 : Hid (OpsT (w7.setCell ⟨tp, 2, none⟩ (.string (str o)))) := HO.out.turn HS8.out.turn (Nat.lt_of_lt_of_le hg HS4.out.rd0.bB) (by simp)
      generalize w7.setCell ⟨tp, 2, none⟩ (.string (str o)) = w8 at *
      obtain ⟨q2, hq2⟩ : ∃ q2, q.drop o.length = q2 := ⟨_, rfl⟩
      have hq2l : q2.length + 1 ≤ q.length := by rw [← hq2, List.length_drop]; omega
      rw [hq2] at HS8
      have HRo : Hid (∀ w, braceM w s = bnd (w q2) fun x => ret (.mk 3 tx o false x.1, x.2)) := fun w => by rw [HRs.out, HOo.out, ← hq2]
      have HW8 : Hid (W.heap.size ≤ w8.heap.size) := HS8.out.turn.size
      clear hq2
      refine (within_calls HIH.out w8 b B v l q2 d HS8.out.rd (by omega) (by omega) (Nat.le_trans hB HW8.out) HO8.out hg hd).mono ?_
      rintro r w9 ⟨f, x, hx, ht, hp⟩
      cases x with
      | error e =>
        obtain rfl := hp
        exact ⟨rfl, f, .error e, by rw [HRo.out, hx]; rfl, HS8.out.turn.trans_same ht, rfl⟩
      | ok y =>
        obtain ⟨u, rfl, hr9, htree⟩ := hp
        obtain ⟨ua, uc, rfl⟩ := tree_slice htree
        have HX : Hid (braceM (withinM f d) s = some (.ok (.mk 3 tx o false y.1, y.2))) := by show _ = _; rw [HRo.out, hx]; rfl
        have HS9 := Lib.hid (HS8.out.step (q' := y.2) hr9 ht)
        have HTree := Lib.hid htree
        have HTp : Hid (tp < w8.heap.size ∧ tr < w8.heap.size) := ⟨HS8.out.part.lt, HS8.out.res.lt⟩
        clear hr9 ht htree hx
        have p4 : w9.cell? ⟨tp, 4, none⟩ = some (.slice none 0 0) := HS9.out.part.cell 4
        have z4 : w9.frozen? ⟨tp, 4, none⟩ = false := HS9.out.part.frozen 4
        go_upto_region 24 with fail
        clear p4 z4
        have HS10 : Hid (BrS W (w9.setCell ⟨tp, 4, none⟩ (.slice ua y.1.length uc)) b B v l s d y.2 tp tr [.int .i64 3, .string (str tx), .string (str o), .bool false, .slice ua y.1.length uc]) := HS9.out.set 4 (.slice ua y.1.length uc)
        have HT10 : Hid (TreeH (8 - d) (fun g => w8.heap.size ≤ g) (w9.setCell ⟨tp, 4, none⟩ (.slice ua y.1.length uc)) (.slice ua y.1.length uc) y.1) :=
          tree_keep (fun g X hg hX => (Sl.setCells_grown tp [.slice ua y.1.length uc] 4 w9).block g (Array.getElem?_eq_some_iff.1 hX).1 (fun e => by have := Option.some.inj e; have := HTp.out.1; omega)) HTree.out
        generalize w9.setCell ⟨tp, 4, none⟩ (.slice ua y.1.length uc) = w10 at *
        obtain ⟨⟨p0, p1, p2, p3, p4⟩, _⟩ := pt_cells HS10.out.part
        have HAn := Lib.hid (HS10.out.ans rfl)
        go_wp2_with (refine wpList_store_mid rfl ptT (.tmp 2) (.tmp 84) rfl tr 0 ([.int .i64 3, .string (str tx), .string (str o), .bool false, .slice ua y.1.length uc] : List Value).toArray rfl rfl (cut_there HS10.out.res 0 5 (Nat.le_refl _)) info_ptS (all_oneCell_toArray (cellsP_one _ _ _ _ _ rfl)) ?_)
        refine bodyPost_ret (results_cell1 rfl _ _ _ tr (.agg ([.int .i64 3, .string (str tx), .string (str o), .bool false, .slice ua y.1.length uc] : List Value).toArray) rfl (loadv_pt HAn.out.2.2.1 rfl)) rfl ?_
        refine ⟨f, .ok (.mk 3 tx o false y.1, y.2), HX.out, HAn.out.2.1, .slice ua y.1.length uc, rfl, HAn.out.1, ?_⟩
        refine tree_less (fun g hg _ => Nat.le_trans HW8.out hg) (tree_keep (fun g X hg hX => HAn.out.2.2.2.block g (Array.getElem?_eq_some_iff.1 hX).1 (fun e => by have := Option.some.inj e; have := HTp.out.2; omega)) HT10.out)
end Go.Proofs.YtfjkgeeaeolkhaaDoor
