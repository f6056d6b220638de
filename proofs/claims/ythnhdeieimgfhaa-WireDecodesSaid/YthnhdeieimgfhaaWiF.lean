/-
  The walk of wire.readEntry (layer 13). Conditions: at most a milliard bytes.
-/
import Derived.Test.YthnhdeieimgfhaaWiE
set_option maxRecDepth 100000
namespace Go.Proofs.Ythnhdeieimgfhaa
open Go Go.RowKit

/-- What reads of cells that no empty entry has stays when a block of one changes. -/
theorem reads_but {W W' : World} {b : Nat} {T : TypeId} {C : Nat} {A : Option Addr} {n : Nat} {xs : List Value} (hR : Reads W W.heap.size C A n xs) (hb : Blk W b T zEnt) (hx : xs = [] ∨ ∃ u ∈ xs, u ∉ zEnt.toList)
    (hs : W.heap.size ≤ W'.heap.size) (hk : ∀ k, k < W.heap.size → k ≠ b → W'.heap[k]? = W.heap[k]?) : Reads W' W'.heap.size C A n xs := by
  refine ⟨hR.1, fun h0 => ?_⟩
  obtain ⟨g, off, e, hg, hc⟩ := hR.2 h0
  have hgb : g ≠ b := by
    rintro rfl
    rcases hx with rfl | ⟨u, hu, hn⟩
    · simp at h0
    · obtain ⟨j, hj⟩ := List.mem_iff_getElem?.1 hu
      have h1 := hc j u hj
      rw [hb.cell] at h1
      exact hn (by rw [Array.mem_toList_iff]; exact Array.mem_of_getElem? h1)
  refine ⟨g, off, e, Nat.lt_of_lt_of_le hg hs, fun j u hj => ?_⟩
  rw [World.cell?_of_block (w := W) (w' := W') (a := ⟨g, off + j, none⟩) (hk g hg hgb)]
  exact hc j u hj
theorem att_far (l : List Att) : l.flatMap attc = [] ∨ ∃ u ∈ l.flatMap attc, u ∉ zEnt.toList := by
  cases l with
  | nil => exact .inl rfl
  | cons x l => exact .inr ⟨.string x.1, by simp, by simp⟩
theorem tst_far (l : List Tst) : l.flatMap tstc = [] ∨ ∃ u ∈ l.flatMap tstc, u ∉ zEnt.toList := by
  cases l with
  | nil => exact .inl rfl
  | cons x l => exact .inr ⟨.string x.1, by simp, by simp⟩
theorem ent_but {W W' : World} {b : Nat} {T : TypeId} {x : Ent} {v : Value} (h : ent x v W) (hne : ∀ e ∈ x.es, e ≠ []) (hb : Blk W b T zEnt)
    (hs : W.heap.size ≤ W'.heap.size) (hk : ∀ k, k < W.heap.size → k ≠ b → W'.heap[k]? = W.heap[k]?) : ent x v W' := by
  obtain ⟨vf, ve, rfl, ⟨A, c, rfl, hf⟩, D, d, rfl, ⟨css, hE, hR⟩, hd⟩ := h
  refine ⟨_, _, rfl, ⟨A, c, rfl, reads_but hf hb (tst_far _) hs hk⟩, D, d, rfl, ⟨css, ⟨hE.1, fun i hi hi' => ?_⟩, reads_but hR hb ?_ hs hk⟩, hd⟩
  · obtain ⟨v, e, A1, c1, rfl, h1⟩ := hE.2 i hi hi'
    exact ⟨_, e, A1, c1, rfl, reads_but h1 hb (att_far _) hs hk⟩
  · cases hes : x.es with
    | nil =>
      refine .inl (List.eq_nil_of_length_eq_zero ?_)
      rw [hE.flen, hes]; rfl
    | cons e0 es =>
      have h0 : 0 < x.es.length := by rw [hes]; simp
      have h0' : 0 < css.length := by rw [hE.1]; exact h0
      obtain ⟨v, e, A1, c1, rfl, h1⟩ := hE.2 0 h0 h0'
      refine .inr ⟨.slice A1 x.es[0].length c1, List.mem_flatten.2 ⟨css[0], List.getElem_mem h0', by rw [e]; simp⟩, ?_⟩
      have hl : x.es[0].length ≠ 0 := by
        intro e9
        exact hne _ (List.getElem_mem h0) (List.eq_nil_of_length_eq_zero e9)
      intro hm
      have e9 : Value.slice A1 x.es[0].length c1 = .slice none 0 0 := by simpa using hm
      injection e9 with _ e8 _
      exact hl e8
theorem decEnX_ne (b : List UInt8) : ∀ e ∈ (decEnX b).es, e ≠ [] := by
  unfold decEnX
  cases hd : decEn b with
  | none => simp [ent0]
  | some x =>
    intro e he
    obtain ⟨-, -, hk⟩ := okEn_parts (decEn_back hd).2
    rcases hk with hk | hk | hk
    · have := hk.2.2.2.2 e he
      rintro rfl
      simp [okE] at this
    · simp only [Option.getD_some] at he; rw [hk.2.2] at he; cases he
    · simp only [Option.getD_some] at he; rw [hk.2.1] at he; cases he
/-- An entry that stays while what lies below a block changes. -/
def entW (gb : Nat) (x : Ent) (u : Value) (W : World) : Prop := ∀ W', UpN (fun k => k < gb) W W' → ent x u W'
theorem entW_st (gb : Nat) (x : Ent) : ∀ v w w', entW gb x v w → Below w.heap.size w w' → entW gb x v w' := by
  rintro v w w' h k
  exact fun W' u => h W' ((UpN.of_k k _).tr u)
def tupW (gb : Nat) (x : Ent) (c : Int) (v : Value) (W : World) : Prop := ∃ u, v = .tuple #[u, .int .i64 c] ∧ entW gb x u W
theorem tupW_st (gb : Nat) (x : Ent) (c : Int) : ∀ v w w', tupW gb x c v w → Below w.heap.size w w' → tupW gb x c v w' := by
  rintro v w w' ⟨u, e, h⟩ k
  exact ⟨u, e, entW_st _ _ _ _ _ h k⟩
/-- A block that was made since then, of an empty entry. -/
def newW (gb : Nat) (T : TypeId) (v : Value) (W : World) : Prop := ∃ b, v = .pointer (some ⟨b, 0, none⟩) ∧ gb ≤ b ∧ Blk W b T zEnt
theorem newW_st (gb : Nat) (T : TypeId) : ∀ v w w', newW gb T v w → Below w.heap.size w w' → newW gb T v w' := by
  rintro v w w' ⟨b, e, h1, h2⟩ k
  exact ⟨b, e, h1, h2.below k h2.lt⟩
theorem newW_row {gb g : Nat} {T : TypeId} (hg : g < gb) : ∀ v w w', newW gb T v w → w.grownBy w' (some g) → newW gb T v w' := by
  rintro v w w' ⟨b, e, h1, h2⟩ k
  exact ⟨b, e, h1, h2.grown k (by simp; omega)⟩
/-- Behind a store into the block of an empty entry. -/
theorem entW_but {gb : Nat} {x : Ent} {u : Value} {w w' : World} {b : Nat} {T : TypeId} (h : entW gb x u w) (hne : ∀ e ∈ x.es, e ≠ []) (hb : Blk w b T zEnt) (hg : w.grownBy w' (some b)) : entW gb x u w' := by
  intro W'' up
  obtain ⟨W3, hW3⟩ : ∃ W3 : World, W3 = { W'' with heap := W''.heap.setIfInBounds b (.cells zEnt T (0, 0)) } := ⟨_, rfl⟩
  have hbl : b < W''.heap.size := Nat.lt_of_lt_of_le hb.lt (Nat.le_trans hg.size up.size)
  have h3 : Blk W3 b T zEnt := by rw [hW3]; unfold Blk; simp [hbl]
  have hk3 : ∀ k, k ≠ b → W3.heap[k]? = W''.heap[k]? := by
    intro k hk
    rw [hW3]
    simp only [Array.getElem?_setIfInBounds]
    rw [if_neg (Ne.symm hk)]
  have hz3 : W3.heap.size = W''.heap.size := by rw [hW3]; simp
  have u3 : UpN (fun k => k < gb) w W3 := by
    refine ⟨?_, ?_, ?_, by rw [hz3]; exact Nat.le_trans hg.size up.size, fun k hk hx => ?_⟩
    · rw [hW3]; exact up.os.trans hg.os
    · rw [hW3]; exact up.tape.trans hg.tape
    · rw [hW3]; exact up.output.trans hg.output
    · by_cases hkb : k = b
      · subst hkb; exact h3.trans hb.symm
      · rw [hk3 k hkb, up.block k (Nat.lt_of_lt_of_le hk hg.size) hx]
        exact hg.block k hk (by simp; exact hkb)
  exact ent_but (h W3 u3) hne h3 (by rw [hz3]; exact Nat.le_refl _) (fun k _ hkb => (hk3 k hkb).symm)

/-- A store of a struct into cells. -/
theorem exec_storeW {P : Program} {ρ : Operand → Value} {w : World} (s x : Operand) (T ty t : TypeId) (g o : Nat) (cur cells : Array Value) (hs : ρ s = .pointer (some ⟨g, o, none⟩)) (hx : ρ x = .agg cells) (hb : Blk w g t cur)
    (hi : (P.info? T).map (·.size) = some cells.size) (hl : o + cells.size ≤ cur.size) (h1 : ∀ u ∈ cells.toList, u.oneCell' = true) :
    ∃ w', (execOp ρ (bareOp (.store T s x) ty)).run P w = .ok .skip w' ∧ Blk w' g t (cur.toList.take o ++ cells.toList ++ cur.toList.drop (o + cells.size)).toArray ∧ w.grownBy w' (some g) := by
  have hst := run_storeCells_at P g o t cells.toList 0 cur w hb (by simpa using hl) h1
  simp only [Nat.add_zero, Array.length_toList] at hst
  refine ⟨_, ?_, setRow_heap w g cur _ t _ hb, ⟨rfl, rfl, rfl, by simp, fun k hk hne => setRow_other w g k _ (fun e => hne (by simp [e]))⟩⟩
  cases hq : P.info? T with
  | none => simp [hq] at hi
  | some i =>
    have hz : cells.size = i.size := by simp [hq] at hi; omega
    simp [execOp, bareOp, hs, hx, Instr.storeAt, Instr.sureAddr, storeVar, sizeOf, typeInfo, hq, Value.cells, hz]
    rw [← hz, hst]
    simp [Result.andThen]

set_option maxHeartbeats 4000000 in
theorem WReadEntry_calls (gw g : Nat) (n : Int) (l : List UInt8) (wr bd : Bool) (w : World) (h : RW gw g n l wr bd w) (hl : l.length ≤ 1000000000) (hn0 : 0 ≤ n) (hn1 : n ≤ 1000000000) :
    Calls Try.prog 59 #[.pointer (some ⟨gw, 0, none⟩)] w fun e w' =>
      ∃ v, e = .returned v ∧ entW w.heap.size (rdEb n l wr bd).1 v w' ∧ RW gw g n (rdEb n l wr bd).2.1 (rdEb n l wr bd).2.2.1 (rdEb n l wr bd).2.2.2 w' ∧ UpN (XW gw g) w w' := by
  have C1 := fun W (hW : Rd W g l wr) => RBytes_sl g l wr n W hW hl (by omega) (by omega)
  have hbs := rdB_most n l wr
  unfold rdEb
  generalize rdB n l wr = a at *
  obtain ⟨bs, l1, wr1⟩ := a
  simp only at C1 hbs ⊢
  have hne := decEnX_ne bs
  have C2 := fun W v (hv : sl bs v W) => NDecode_calls bs v W hv (by omega)
  obtain ⟨code, hcode⟩ : ∃ code, code = decEnC bs := ⟨_, rfl⟩
  obtain ⟨x, hx⟩ : ∃ x, x = decEnX bs := ⟨_, rfl⟩
  have HC : Hid (code = 0 ∧ (bd || (decEn bs).isNone) = bd ∨ code = 110 ∧ (bd || (decEn bs).isNone) = true) := Lib.hid (by
    rw [hcode]; unfold decEnC
    cases decEn bs <;> simp)
  simp only [← hcode, ← hx] at C2 hne ⊢
  clear hcode hx
  generalize (bd || (decEn bs).isNone) = bd9 at *
  have C1 := Lib.hid C1
  have C2 := Lib.hid C2
  have HN := Lib.hid hne
  clear hne
  have hr0 := Blk.new w 58 zEnt
  have h0 := h.st ((K.rf w).al (.cells zEnt 58))
  have u0 := UpN.al (XW gw g) w (.cells zEnt 58)
  have hgw := h.lt
  have hgg := h.2.2
  clear h
  go_enter Try.func59, Try.ntmps59
  go_upto_region 1 with (fail)
  generalize w.alloc _ = w1 at *
  obtain ⟨gb, hgb⟩ : ∃ gb, gb = w1.heap.size := ⟨_, rfl⟩
  have hwb : w.heap.size < gb := by rw [hgb]; exact hr0.lt
  obtain ⟨C, hC⟩ : ∃ C : World → Prop, C = fun W => UpN (XW gw g) w W ∧ gb ≤ W.heap.size ∧ Blk W w.heap.size 58 zEnt ∧ Blk W gw 94 #[.pointer (some ⟨g, 0, none⟩), .int .i64 n, .bool bd] := ⟨_, rfl⟩
  have hg : ∀ W W', C W → Below W.heap.size W W' → C W' := by
    subst hC
    rintro W W' ⟨h1, h2, h3, h4⟩ hb
    exact ⟨h1.tr (UpN.of_k hb _), Nat.le_trans h2 hb.size, h3.below hb h3.lt, h4.below hb h4.lt⟩
  have hc0 : C w1 := by rw [hC]; exact ⟨u0, by omega, hr0, h0.1⟩
  obtain ⟨F, hF⟩ : ∃ F : (Nat → Bool) → (Nat → Value) → World → Prop, F = fun L V W => C W ∧ RW gw g n l1 wr1 bd W ∧ (∃ u, V 10 = .tuple #[u, .int .i64 code]) ∧ (L 12 = true → V 12 = .int .i64 code) ∧ (L 15 = true → V 15 = .int .i64 code) ∧
      ∃ b vf ve, V 13 = .pointer (some ⟨b, 0, none⟩) ∧ gb ≤ b ∧ Blk W b 58 (entA x vf ve) ∧ entW gb x (.agg (entA x vf ve)) W := ⟨_, rfl⟩
  refine wp_region_turn4 8 14 [0, 1, 2, 3, 4, 5, 6, 7, 8, 9, 10, 11, 13] [15] C (fun W => RW gw g n l wr bd W) (fun W => RW gw g n l1 wr1 bd W) (fun W W' => W.grownBy W' (some g)) F [isV (.pointer (some ⟨gw, 0, none⟩)),
      isV (.pointer (some ⟨gw, 0, none⟩)),
      isV (.pointer (some ⟨gw, 0, none⟩)),
      isV (.pointer (some ⟨g, 0, none⟩)),
      isV (.pointer (some ⟨gw, 0, none⟩)),
      isV (.pointer (some ⟨gw, 0, none⟩)),
      isV (.pointer (some ⟨gw, 1, none⟩)),
      isV (.int .i64 n),
      sl bs,
      tupW gb x code,
      tupW gb x code,
      entW gb x,
      isV (.int .i64 code),
      newW gb 58,
      anyV,
      isV (.int .i64 code)]
    [([], []), ([0], [(6, 0)]), ([1], [(7, 1)]), ([2], [(8, 2)]), ([], []), ([4], [(10, 4)]), ([5], [(11, 5)]), ([6], [(12, 6)]), ([3, 7], [(9, 3), (13, 7)]), ([8], [(14, 8)]), ([9], [(15, 9)]), ([10], [(5, 10)]), ([10], [(5, 10)]), ([], []), ([10, 13, 11], [(3, 13), (16, 11)]), ([12, 14], [(17, 12)])] 24 rfl (by kernel_rfl) (by kernel_rfl) (by kernel_rfl) (by decide) (by decide) (by decide) (by kernel_rfl) (by kernel_rfl) hg (fun W W' h k => h.st k) (fun W W' h k => h.st k) (by exact hg _ _ hc0 (Below.drew (Below.refl _ _))) (h0.st (Below.drew (Below.refl _ _))) ?st ?st2 ?ow ?_
  case st =>
    simp only [List.forall_mem_cons]
    and_intros
    all_goals first | exact isV_st _ | exact anyV_st | exact sl_st _ | exact tupW_st _ _ _ | exact entW_st _ _ | exact newW_st _ _ | simp
  case st2 =>
    simp only [List.zipIdx_cons, List.zipIdx_nil, List.forall_mem_cons, Nat.zero_add, Nat.reduceAdd]
    and_intros
    all_goals first | exact .inl rfl | exact .inr (fun _ _ _ h _ => h) | exact .inr (newW_row (by omega)) | simp
  case ow =>
    simp only [OwedU, OwedT, List.contains_cons, List.contains_nil, Nat.reduceBEq, Bool.or_false, Bool.or_true, Bool.false_eq_true, if_true, if_false, Nat.reduceEqDiff, Nat.reduceAdd, and_true, true_and]
    and_intros
    all_goals try trivial
    all_goals
      first
      | (intro V w' hc hp
         rw [hC] at hc
         obtain ⟨hu, hgw', hbr, hbw⟩ := hc
         have q := hbw.cell
         try simp only [List.forall_mem_cons, tab_zero, tab_succ, isV] at hp
         try (simp [wantsG, rhoP, List.lookup, hp, tab_zero, tab_succ, ResG, execOp, bareOp, isV, undef, Below.refl, q, go_sem]; done))
      | skip
    · have hD : RW gw g n l wr bd w' := hp
      intro hp2
      simp only [List.forall_mem_cons, tab_zero, tab_succ, isV] at hp2
      simp [rhoP, List.lookup, hp2, tab_zero, tab_succ, ResT, execOp, bareOp, go_sem]
      refine (C1.out w' hD.2.1).mono ?_
      rintro e w2 ⟨v, rfl, hsb, hw⟩
      refine ⟨v, rfl, hsb, ?_, hD.went hw, hw.2⟩
      rw [hC]
      exact ⟨hu.tr (UpN.went hw (.inl rfl)), Nat.le_trans hgw' hw.2.size, hbr.went hw (by omega), hbw.went hw (by omega)⟩
    · simp [wantsG, rhoP, List.lookup, tab_zero, tab_succ, ResG, execOp, bareOp, go_sem]
      refine (C2.out w' (V 8) hp.1).mono ?_
      rintro e w2 ⟨v, rfl, he, k⟩
      exact ⟨_, rfl, ⟨v, rfl, fun W' u => he W' (u.upB (fun k h1 _ _ hx => by omega))⟩, k⟩
    · obtain ⟨⟨u, e9, h1⟩, -⟩ := hp
      simp [e9, wantsG, rhoP, List.lookup, tab_zero, tab_succ, ResG, execOp, bareOp, go_sem]
      exact ⟨h1, Below.refl _ _⟩
    · intro L V w' hLk hal hFw
      rw [hF] at hFw ⊢
      obtain ⟨hc, hd, ⟨u, e9⟩, -, h15, hrest⟩ := hFw
      generalize hA : rhoP [(5, 10)] _ V = ρ9
      have e5 : ρ9 (.tmp 5) = .tuple #[u, .int .i64 code] := by rw [← hA]; exact e9
      have hrun : (execOp ρ9 (bareOp (.extract (.tmp 5) 1) 31)).run Try.prog w' = .ok (.value (.int .i64 code)) w' := by
        simp [e5, execOp, bareOp, go_sem]
      rw [hrun]
      refine ⟨hc, hd, ⟨u, by simp [updV, e9]⟩, fun _ => by simp [updV], fun h => ?_, ?_⟩
      · have := h15 (by simpa [upd] using h)
        simpa [updV] using this
      · simpa [updV] using hrest
    · obtain ⟨⟨u, e9, h1⟩, -⟩ := hp
      simp [e9, wantsG, rhoP, List.lookup, tab_zero, tab_succ, ResG, execOp, bareOp, isV, Below.refl, go_sem]
    · simp [wantsG, tab_zero, tab_succ, ResG, execOp, bareOp, go_sem]
      exact ⟨⟨w'.heap.size, rfl, hgw', Blk.new _ _ _⟩, (K.rf w').al _⟩
    · intro L V w' hal hc hd hp
      have hd' : RW gw g n l1 wr1 bd w' := hd
      have f10 := hp 10 (hal 10 (by simp))
      have f11 := hp 11 (hal 11 (by simp))
      have f13 := hp 13 (hal 13 (by simp))
      have f12 := hp 12
      have f15 := hp 15
      simp only [tab_zero, tab_succ, isV] at f10 f11 f13 f12 f15
      obtain ⟨u10, e10, -⟩ := f10
      obtain ⟨b, e13, hbb, hblk⟩ := f13
      obtain ⟨vf, ve, e11, hf, he⟩ := f11 w' (UpN.rf _ _)
      rw [e11] at f11
      generalize hA : rhoP [(3, 13), (16, 11)] _ V = ρ9
      have es4 : ρ9 (.tmp 3) = .pointer (some ⟨b, 0, none⟩) := by rw [← hA]; exact e13
      have ex4 : ρ9 (.tmp 16) = .agg (entA x vf ve) := by rw [← hA]; exact e11
      obtain ⟨w'', hrun, hb2, hg2⟩ := exec_storeW (P := Try.prog) (ρ := ρ9) (.tmp 3) (.tmp 16) 58 0 58 b 0 zEnt (entA x vf ve) es4 ex4 hblk (by kernel_rfl) (by simp) (enS.one (x := x) (w := w') ⟨vf, ve, rfl, hf, he⟩)
      rw [hrun]
      rw [hC] at hc
      obtain ⟨hu, hgw', hbr, hbw⟩ := hc
      have hbel : Below gb w' w'' := ⟨hg2.os, hg2.tape, hg2.output, hg2.size, fun i hi => hg2.block i (Nat.lt_of_lt_of_le hi hgw') (by intro e; injection e with e; omega)⟩
      show F _ _ w''
      rw [hF]
      refine ⟨?_, ⟨hd'.1.below hbel (by omega), hd'.2.1.below hbel (by omega), hd'.2.2⟩, ⟨u10, by simp [updV, e10]⟩, fun h => ?_, fun h => ?_, b, vf, ve, by simp [updV, e13], hbb, hb2, entW_but f11 HN.out hblk hg2⟩
      · rw [hC]
        exact ⟨⟨hg2.os.trans hu.os, hg2.tape.trans hu.tape, hg2.output.trans hu.output, Nat.le_trans hu.size hg2.size, fun k hk hx => (hbel.block k (by omega)).trans (hu.block k hk hx)⟩, Nat.le_trans hgw' hg2.size, hbr.below hbel (by omega), hbw.below hbel (by omega)⟩
      · have := f12 (by simpa [upd] using h)
        simpa [updV] using this
      · have := f15 (by simpa [upd] using h)
        simpa [updV] using this
    · intro L V w' hLk hal hFw
      rw [hF] at hFw ⊢
      obtain ⟨hc, hd, he, h12, -, hrest⟩ := hFw
      have e12 := h12 (hal 12 (by simp))
      generalize hA : rhoP [(17, 12)] _ V = ρ9
      have e5 : ρ9 (.tmp 17) = .int .i64 code := by rw [← hA]; exact e12
      have hrun : (execOp ρ9 (bareOp (.assign (.tmp 17)) 31)).run Try.prog w' = .ok (.value (.int .i64 code)) w' := by
        simp [e5, execOp, bareOp, go_sem]
      rw [hrun]
      refine ⟨hc, hd, by simpa [updV] using he, fun _ => by simp [updV, e12], fun _ => by simp [updV], by simpa [updV] using hrest⟩
  intro V W hFW
  rw [hF] at hFW
  obtain ⟨hc, hd, -, -, h15, b, vf, ve, e13, hbb, hblk, hent⟩ := hFW
  have e15 := h15 (by decide)
  rw [hC] at hc
  obtain ⟨hu, hgw', hbr, -⟩ := hc
  obtain ⟨vf', ve', e9, hf, he⟩ := hent W (UpN.rf _ _)
  obtain ⟨rfl, rfl⟩ : vf = vf' ∧ ve = ve' := by
    simp only [Value.agg.injEq, Array.mk.injEq, List.cons.injEq, and_true, true_and] at e9
    exact e9
  obtain ⟨A9, c9, rfl⟩ := flt_slice hf
  obtain ⟨D9, d9, rfl⟩ := lst_slice he
  have HEN := Lib.hid hent
  clear hF hC hg hc0 hent hf he e9 h15 h0 u0 hr0 C1 C2
  simp only [putAll, Act.put, List.setIfInBounds_toArray, List.set_cons_succ, List.set_cons_zero, e13, e15]
  have hwb2 : w.heap.size < b := by omega
  have fin : ∀ (W1 : World) (bd1 : Bool), UpN (XW gw g) w W1 → Blk W1 w.heap.size 58 zEnt → RW gw g n l1 wr1 bd1 W1 → entW w.heap.size x (.agg (entA x (.slice A9 x.f.length c9) (.slice D9 x.es.length d9))) W1 →
      ∃ W9, W9 = setsW W1 w.heap.size 0 (entA x (.slice A9 x.f.length c9) (.slice D9 x.es.length d9)).toList ∧ Blk W9 w.heap.size 58 (entA x (.slice A9 x.f.length c9) (.slice D9 x.es.length d9)) ∧ entW w.heap.size x (.agg (entA x (.slice A9 x.f.length c9) (.slice D9 x.es.length d9))) W9 ∧ RW gw g n l1 wr1 bd1 W9 ∧ UpN (XW gw g) w W9 := by
    intro W1 bd1 h1 h2 h3 h4
    have us := UpN.sets (X := fun k => k = w.heap.size) (g := w.heap.size) rfl (entA x (.slice A9 x.f.length c9) (.slice D9 x.es.length d9)).toList 0 W1
    have hr9 := (((((((h2.set_ 0 (.int .i64 x.kind)).set_ 1 (.int .i64 x.br)).set_ 2 (.int .u64 (x.life : Int))).set_ 3 (.int .u64 (x.ser : Int))).set_ 4 (.int .i64 x.cl)).set_ 5 (.int .u64 (x.sub : Int))).set_ 6 (.slice A9 x.f.length c9)).set_ 7 (.slice D9 x.es.length d9)
    have hg2 : W1.grownBy (setsW W1 w.heap.size 0 (entA x (.slice A9 x.f.length c9) (.slice D9 x.es.length d9)).toList) (some w.heap.size) := ⟨us.os, us.tape, us.output, us.size, fun k hk hne => us.block k hk (by rintro rfl; exact hne rfl)⟩
    have hbel : Below w.heap.size W1 (setsW W1 w.heap.size 0 (entA x (.slice A9 x.f.length c9) (.slice D9 x.es.length d9)).toList) := ⟨us.os, us.tape, us.output, us.size, fun k hk => us.block k (Nat.lt_trans hk h2.lt) (by omega)⟩
    exact ⟨_, rfl, hr9, entW_but h4 HN.out h2 hg2, ⟨h3.1.below hbel hgw, h3.2.1.below hbel (by omega), h3.2.2⟩, ⟨us.os.trans h1.os, us.tape.trans h1.tape, us.output.trans h1.output, Nat.le_trans h1.size us.size, fun k hk hx => (hbel.block k hk).trans (h1.block k hk hx)⟩⟩
  have HFIN := Lib.hid fin
  have hentw : entW w.heap.size x (.agg (entA x (.slice A9 x.f.length c9) (.slice D9 x.es.length d9))) W := fun W' up => HEN.out W' ⟨up.os, up.tape, up.output, up.size, fun k hk hx => up.block k hk (by omega)⟩
  clear fin HEN
  rcases HC.out with ⟨rfl, rfl⟩ | ⟨rfl, rfl⟩
  · have q := hblk.cell
    have y1 := hbr.cell
    have z1 := hbr.frozen
    obtain ⟨W9, hW9, hb9, he9, hd9, hu9⟩ := HFIN.out W bd9 hu hbr hd hentw
    go_wp2
    have e9 := hb9.cell
    rw [hW9] at e9 he9 hd9 hu9
    simp only [setsW, Nat.reduceAdd, Nat.zero_add] at e9 he9 hd9 hu9
    refine bodyPost_ret (v := .agg (entA x (.slice A9 x.f.length c9) (.slice D9 x.es.length d9))) (by simp [results, Try.results59, go_sem, e9]) rfl ?_
    exact ⟨_, rfl, he9, hd9, hu9⟩
  · have q := hblk.cell
    have y1 := hbr.cell
    have z1 := hbr.frozen
    have q2 := hd.1.cell
    have z2 := hd.1.frozen
    have ub := UpN.set1 (W := W) (X := fun k => k < w.heap.size) (b := gw) hgw 2 (.bool true)
    obtain ⟨W9, hW9, hb9, he9, hd9, hu9⟩ := HFIN.out (W.setCell ⟨gw, 2, none⟩ (.bool true)) true (hu.tr (UpN.set1 (X := XW gw g) (.inr rfl) 2 _)) (hbr.far (p := ⟨gw, 2, none⟩) (by simp; omega) _) hd.bad (fun W' up => hentw W' (ub.tr up))
    go_wp2
    have e9 := hb9.cell
    rw [hW9] at e9 he9 hd9 hu9
    simp only [setsW, Nat.reduceAdd, Nat.zero_add] at e9 he9 hd9 hu9
    refine bodyPost_ret (v := .agg (entA x (.slice A9 x.f.length c9) (.slice D9 x.es.length d9))) (by simp [results, Try.results59, go_sem, e9]) rfl ?_
    exact ⟨_, rfl, he9, hd9, hu9⟩
end Go.Proofs.Ythnhdeieimgfhaa
