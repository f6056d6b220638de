/-
  The walk of StageHolds (layer 17). Conditions: none.
-/
import Derived.Test.YtjcdgbnbaiebdaaStO
set_option maxRecDepth 100000
namespace Go.Proofs.Ytjcdgbnbaiebdaa
open Go Go.RowKit

/-- A list that a call made, which stays while what lies below block B changes. -/
def upF (B : Nat) (P : List Txn) (v : Value) (W : World) : Prop := ∀ W', UpB B none W W' → lst txS P v W'
theorem upF_st (B : Nat) (P : List Txn) : ∀ v w w', upF B P v w → Below w.heap.size w w' → upF B P v w' := by
  rintro v w w' h k
  exact fun W' u => h W' ((UpB.of_k k _ _).tr u)
def tupF (B : Nat) (P : List Txn) (f : Int) (v : Value) (W : World) : Prop := ∃ u, v = .tuple #[u, .int .i64 f] ∧ upF B P u W
theorem tupF_st (B : Nat) (P : List Txn) (f : Int) : ∀ v w w', tupF B P f v w → Below w.heap.size w w' → tupF B P f v w' := by
  rintro v w w' ⟨u, e, h⟩ k
  exact ⟨u, e, upF_st _ _ _ _ _ h k⟩
theorem one_small {a : Idn} {c : Int} {es : List (List Att)} (h : ∀ e ∈ es, e.length ≤ 1000000) (hl : es.length ≤ 12) : ∀ s ∈ [oneT a c es], smallEn s.e := by
  intro s hs
  simp at hs
  subst hs
  exact ⟨by simp [oneT, pubE], by simp [oneT]; omega, by simpa [oneT] using h⟩
theorem one_fit {a : Idn} {c : Int} {es : List (List Att)} (ha : fitI a) (hc : i64ok c) (h : ∀ e ∈ es, ∀ x ∈ e, fitA x) : ∀ s ∈ [oneT a c es], fitEn s.e := by
  intro s hs
  simp at hs
  subst hs
  obtain ⟨g1, g2, g3, g4, g5, g6, g7, -⟩ := pubE_fit ha hc
  exact ⟨g1, g2, g3, g4, g5, g6, g7, h⟩

set_option maxHeartbeats 8000000 in
theorem StageHolds_walk (v0 v1 v2 : Value) (w : World) (r0 : repID w v0) (r1 : repI64 w v1) (r2 : repEvents w v2) :
    Calls Try.prog 5 #[v0, v1, v2] w fun e w' => e = .returned (.bool true) ∧ Below w.heap.size w w' := by
  obtain ⟨a, rfl, hfa⟩ := r0
  obtain ⟨c, rfl, hc1, hc2⟩ := r1
  obtain ⟨l, hl, hfl⟩ := r2
  obtain ⟨A, cl, rfl, hl, hcl⟩ := hl
  have hfc : i64ok c := ⟨hc1, hc2⟩
  have HF := Lib.hid hfl
  have HFA := Lib.hid hfa
  have HFC := Lib.hid hfc
  clear hfl hfc hc1 hc2
  have hx := Blk.new w 26 #[.int .i64 a.1, .int .u64 (a.2.1 : Int), .int .u64 (a.2.2 : Int)]
  have k1 : K w (w.alloc (.cells #[.int .i64 a.1, .int .u64 (a.2.1 : Int), .int .u64 (a.2.2 : Int)] 26)) := (K.rf w).al _
  go_enter Try.func5, Try.ntmps5
  go_upto_region 1 with (fail)
  generalize w.alloc _ = w1 at *
  generalize w.heap.size = g at hx ⊢
  have qx := hx.cells
  have hl1 := lsr_st hl k1
  have kk := K.rf w1
  clear hl hx
  go_wp2_with fail
  refine (awakeT_calls w1).mono ?_
  rintro e w2 ⟨rfl, k2⟩
  by_cases h12 : 12 < l.length
  · have h12' : (12 : Int) < (l.length : Int) := by omega
    go_wp2
    go_ret
    exact ⟨rfl, k1.tr k2⟩
  have h12' : ¬ (12 : Int) < (l.length : Int) := by omega
  have C1 := Lib.hid (Begin_calls [] a c (.slice none 0 0) w2 (lst_nil _ _) HFA.out HFC.out (by simp) (by simp))
  rw [begin_one a c hfa.2.1 hfa.2.2] at C1
  go_wp2_with fail
  refine C1.out.mono ?_
  rintro e w3 ⟨vt, rfl, hO, k3⟩
  have k13 := k2.tr k3
  clear C1
  cases hcond : (homeB a.1 && decide (0 ≤ c) && decide (c < 32))
  · have hbad : a.1 < 0 ∨ (¬ a.1 < 0 ∧ 15 < a.1) ∨ (¬ a.1 < 0 ∧ ¬ 15 < a.1 ∧ c < 0) ∨ (¬ a.1 < 0 ∧ ¬ 15 < a.1 ∧ ¬ c < 0 ∧ 31 < c) := by
      simp only [homeB, Bool.and_eq_false_iff, decide_eq_false_iff_not] at hcond
      omega
    simp only [Bool.false_eq_true, if_false]
    clear hO hcond
    rcases hbad with h | ⟨h, h9⟩ | ⟨h, h9, h8⟩ | ⟨h, h9, h8, h7⟩
    all_goals
      go_wp2
      go_ret
      exact ⟨rfl, k1.tr k13⟩
  rw [hcond] at hO
  simp only [if_true] at hO ⊢
  have HT0 := Lib.hid hO.lst
  clear hO hcond
  have hz3 := k13.size
  go_wp2_with fail
  go_loopw [8, 10, 11, 12, 13, 14] (fun t o i _ _ _ W => ∃ (q : Nat) (es : List (List Att)), q ≤ l.length ∧ es.length ≤ q ∧ i = .int .i64 (q : Int) ∧ Hid ((∀ e ∈ es, e.length ≤ 1000000) ∧ ∀ e ∈ es, ∀ x ∈ e, fitA x) ∧ Hid (lst txS [oneT a c es] t W) ∧ Hid (OwnL w1.heap.size 0 29 evS es o W) ∧ K w1 W) (fun _ _ i _ _ _ _ => l.length - (intOf i).toNat)
  case atStart => exact ⟨0, [], by omega, by simp, rfl, Lib.hid (by simp), HT0, Lib.hid (OwnL.nil _ _ _ _ _), k13⟩
  case round =>
    clear kk
    obtain ⟨q, es, hq, hes, rfl, HB, HT, HO, kr⟩ := hrel
    have kk := K.rf wr
    have qa := fun W (kW : K wr W) => qx W (kr.tr kW)
    by_cases hlt : q < l.length
    · have hqi : (q : Int) < (l.length : Int) := by omega
      obtain ⟨b1, off, cc1, rfl, hcl1, hrl, d0, d⟩ := lsr_cells hl1 q hlt (by decide)
      have hfe := HF.out _ (List.getElem_mem hlt)
      generalize l[q] = e at *
      obtain ⟨ve, rfl, hev⟩ := hrl w1 (K.rf w1)
      obtain ⟨Ae, ce, rfl⟩ := evt_slice hev
      have p1 : ∀ W, K wr W → W.cell? ⟨b1, off + q, none⟩ = some (.slice Ae e.length ce) := fun W kW => by
        have := d0 W (kr.tr kW)
        simpa [evS] using this
      clear hcl1 hrl d0 d
      go_wp2_with fail
      refine (Few_evt (evt_st _ _ _ _ hev kr)).mono ?_
      rintro e9 w4 ⟨rfl, rfl⟩
      cases hfew : fewE e
      · go_wp2
        go_ret
        exact ⟨rfl, k1.tr kr⟩
      have hel := (few_fit hfew).1
      obtain ⟨f, hP, hf⟩ := publish_one a c es e
      obtain ⟨At, ct, rfl⟩ := lst_slice HT.out
      have C2 := Lib.hid fun W (kW : K wr W) => Publish_own [oneT a c es] a e _ _ W (lst_st HT.out kW) (evt_st _ _ _ _ hev (kr.tr kW)) (one_small HB.out.1 (by omega)) (one_fit HFA.out HFC.out HB.out.2) hel hfe (by simp)
      have C5 := Lib.hid fun W (kW : K wr W) => ECheck_evt (evt_st _ _ _ _ hev (kr.tr kW))
      have HEV := Lib.hid hev
      clear hfew hev
      generalize hPP : publishT [oneT a c es] a e = P at *
      have hP2 : P.2 = f := by rw [hP]
      have HP1 : Hid (P.1 = if f = 0 then [oneT a c (es ++ [e])] else [oneT a c es]) := Lib.hid (by rw [hP])
      clear hPP hP
      rw [hP2] at C2
      obtain ⟨gb, hgb⟩ : ∃ gb, gb = wr.heap.size := ⟨_, rfl⟩
      go_upto_region 16 with (fail)
      refine wp_region_K [isV (.slice At [oneT a c es].length ct),
          isV (.agg #[.int .i64 a.1, .int .u64 (a.2.1 : Int), .int .u64 (a.2.2 : Int)]),
          isV (.slice (some ⟨b1, off, none⟩) l.length cl),
          isV (.int .i64 ((q : Int))),
          isV (.pointer (some ⟨b1, off + q, none⟩)),
          isV (.slice Ae e.length ce),
          tupF gb P.1 f,
          tupF gb P.1 f,
          upF gb P.1,
          isV (.int .i64 f),
          upF gb P.1,
          isV (.int .i64 f)]
        [([], []), ([], []), ([], []), ([], []), ([2, 3], [(68, 2), (69, 3)]), ([4], [(70, 4)]), ([0, 1, 5], [(66, 0), (67, 1), (71, 5)]), ([6], [(72, 6)]), ([7], [(65, 7)]), ([7], [(65, 7)]), ([8], [(73, 8)]), ([9], [(74, 9)])] 126 rfl (by kernel_rfl) (by kernel_rfl) (by kernel_rfl) ?st16 ?ow16 ?_
      case st16 =>
        simp only [List.forall_mem_cons]
        and_intros
        all_goals first | exact isV_st _ | exact sl_st _ | exact anyV_st | exact (tupF_st _ _ _) | exact (upF_st _ _) | simp
      case ow16 =>
        simp only [OwedQ]
        and_intros
        all_goals try trivial
        all_goals
          intro V W kW hp
          try simp only [List.forall_mem_cons, tab_zero, tab_succ, isV] at hp
          try simp [wantsG, rhoP, List.lookup, hp, tab_zero, tab_succ, ResG, execOp, bareOp, isV, Below.refl, kW, qa, p1, hqi, go_sem]
        · refine (C2.out W kW).mono ?_
          rintro e9 w5 ⟨v9, rfl, h1, h2⟩
          exact ⟨_, rfl, ⟨_, rfl, fun W' u => h1 W' (u.more (by rw [hgb]; exact kW.size) (fun _ _ h => h))⟩, h2⟩
        · obtain ⟨⟨u, e9, h1⟩, -⟩ := hp
          simp [e9, go_sem]
          exact ⟨h1, Below.refl _ _⟩
        · obtain ⟨⟨u, e9, h1⟩, -⟩ := hp
          simp [e9, Below.refl, go_sem]
      intro V W kW hp
      have h10 := hp 10 (by simp)
      have h11 := hp 11 (by simp)
      simp only [tab_zero, tab_succ, isV] at h10 h11
      clear hp C2
      simp only [putAll, Act.put, List.setIfInBounds_toArray, List.set_cons_succ, List.set_cons_zero, h11]
      generalize V 10 = v10 at *
      have h10' := h10
      replace h10 := h10 W (UpB.rf _ _ _)
      have kw := kr.tr kW
      have HO2 := Lib.hid (HO.out.st kW)
      have hvo : ∀ b, u10.ownBlock = some b → b < gb := fun b hb => by rw [hgb]; exact (HO.out.blk b hb).2
      have HC5 := Lib.hid fun W' (kW' : K W W') => C5.out W' (kW.tr kW')
      have r1 := fun W' (kW' : K W W') => p1 W' (kW.tr kW')
      have kk := K.rf W
      have HEV2 := Lib.hid fun W' (kW' : K w1 W') => evt_st _ _ _ _ HEV.out kW'
      clear C5 p1 qa HO HT
      rcases hf with rfl | ⟨rfl, hb⟩ | ⟨rfl, hb⟩ | rfl
      · have HT3 : Hid (∀ W', UpB gb none W W' → lst txS [oneT a c (es ++ [e])] v10 W') := Lib.hid (by have := HP1.out; rw [if_pos rfl] at this; rw [← this]; exact h10')
        have HB2 : Hid ((∀ x ∈ es ++ [e], x.length ≤ 1000000) ∧ ∀ x ∈ es ++ [e], ∀ y ∈ x, fitA y) := Lib.hid ⟨fun x hx => by
          rcases List.mem_append.1 hx with h | h
          · exact HB.out.1 x h
          · simp at h; subst h; exact hel, fun x hx => by
          rcases List.mem_append.1 hx with h | h
          · exact HB.out.2 x h
          · simp at h; subst h; exact hfe⟩
        have hvc := HO2.out.blk
        have hvb := Lib.hid hvo
        obtain ⟨css, hown, hclen, hE⟩ := HO2.out
        have kA : K W (W.alloc (.cells #[.slice Ae e.length ce] 29)) := (K.rf W).al _
        have hbase : w1.heap.size ≤ (W.alloc (.cells #[.slice Ae e.length ce] 29)).heap.size := by have := kA.size; have := kw.size; omega
        clear HC5 h10 h10' HO2 hgb hvo
        go_wp2_with (at_builtin; refine wpList_app rfl _ _ 32 rfl w1.heap.size 29 _ 1 24 TEv _ _ _ rfl (World.ownsRow.alloc hown _) (W.heap.size + 1) _ 1 1 [.slice Ae e.length ce] rfl ?c1 ?c2 ?c3 hbase ?_)
        case c1 => exact Reads.new W [.slice Ae e.length ce] 29 1 1 rfl
        case c2 => first | rfl | (intro u hu; simp at hu; subst hu; rfl)
        case c3 => omega
        intro v9 w9 hown9 hg9 hat9 hb9
        have k9 := (kw.tr kA).trans hb9
        have HO9 : Hid (OwnL w1.heap.size 0 29 evS (es ++ [e]) v9 w9) := Lib.hid (OwnL.snoc hclen (fun w' u => hE w' (UpB.tr (UpB.of_k kA _ _) u)) hown9 hg9 (by rw [World.size_alloc]; exact hat9)
          (fun w' u => ⟨_, rfl, HEV2.out w' (UpB.k u (kw.tr kA) (fun k hk => (hvc k hk).1))⟩))
        have HT9 : Hid (lst txS [oneT a c (es ++ [e])] v10 w9) := Lib.hid (HT3.out w9 ((UpB.of_k kA _ _).tr (UpB.row hg9 hvb.out)))
        clear hown9 hg9 hat9 hb9 hown hE HT3 HEV2 r1 hvc hbase kA hvb
        go_wp2
        go_roundw
        case rel => exact ⟨q + 1, es ++ [e], by omega, by simp; omega, by go_num, HB2, HT9, HO9, k9⟩
        case measure => simp [intOf]; omega
      · have HT3 : Hid (lst txS [oneT a c es] v10 W) := Lib.hid (by have := HP1.out; rw [if_neg (by decide)] at this; rw [← this]; exact h10)
        have hck : chkE e = 40 := by unfold chkE; rw [hb]; rfl
        go_wp2_with fail
        refine (HC5.out W kk).mono ?_
        rintro e9 w5 ⟨rfl, k5⟩
        rw [hck]
        have HO3 := Lib.hid (HO2.out.st k5)
        have HT4 := Lib.hid (lst_st HT3.out k5)
        have kw5 := kw.tr k5
        clear HO2 HT3 HC5 h10 h10' HEV2 r1 hgb hvo
        go_wp2
        go_roundw
        case rel => exact ⟨q + 1, es, by omega, by omega, by go_num, HB, HT4, HO3, kw5⟩
        case measure => simp [intOf]; omega
      · have HT3 : Hid (lst txS [oneT a c es] v10 W) := Lib.hid (by have := HP1.out; rw [if_neg (by decide)] at this; rw [← this]; exact h10)
        obtain ⟨A9, c9, rfl, -⟩ := HO2.out.slice
        have h8 : ¬ (es.length : Int) < 8 := by omega
        clear HC5 h10 h10' HEV2 r1 hgb hvo
        go_wp2
        go_roundw
        case rel => exact ⟨q + 1, es, by omega, by omega, by go_num, HB, HT3, HO2, kw⟩
        case measure => simp [intOf]; omega
      · have HT3 : Hid (lst txS [oneT a c es] v10 W) := Lib.hid (by have := HP1.out; rw [if_neg (by decide)] at this; rw [← this]; exact h10)
        clear HC5 h10 h10' HEV2 r1 hgb hvo
        go_wp2
        go_roundw
        case rel => exact ⟨q + 1, es, by omega, by omega, by go_num, HB, HT3, HO2, kw⟩
        case measure => simp [intOf]; omega
    · have hqi : ¬ (q : Int) < (l.length : Int) := by omega
      have hT := HT.out
      have C6 := Lib.hid (Find_calls [oneT a c es] a _ wr hT (one_small HB.out.1 (by omega)) (by simp))
      rw [find_one] at C6
      obtain ⟨At, ct, rfl⟩ := lst_slice hT
      clear hT
      go_wp2_with fail
      refine C6.out.mono ?_
      rintro e9 w5 ⟨u2, rfl, hT, k5⟩
      obtain ⟨vf2, ve2, rfl, hf2, he2⟩ := hT
      obtain ⟨Af2, cf2, rfl⟩ := flt_slice hf2
      obtain ⟨Ae2, ce2, rfl⟩ := lst_slice he2
      have HE2 := Lib.hid fun W (kW : K w5 W) => (⟨_, _, rfl, flt_st _ _ _ _ hf2 kW, lst_st he2 kW⟩ : ent (oneT a c es).e (.agg (entA (oneT a c es).e (.slice Af2 (oneT a c es).e.f.length cf2) (.slice Ae2 (oneT a c es).e.es.length ce2))) W)
      have hx := Blk.new w5 39 (txA (oneT a c es) (.slice Af2 (oneT a c es).e.f.length cf2) (.slice Ae2 (oneT a c es).e.es.length ce2))
      have kx : K w5 (w5.alloc (.cells (txA (oneT a c es) (.slice Af2 (oneT a c es).e.f.length cf2) (.slice Ae2 (oneT a c es).e.es.length ce2)) 39)) := (K.rf w5).al _
      clear C6 hf2 he2 HT
      go_upto_region 23 with (fail)
      have k59 := k5.tr kx
      have HE9 := Lib.hid fun W (kW : K (w5.alloc _) W) => HE2.out W (kx.tr kW)
      generalize w5.alloc _ = w9 at *
      generalize w5.heap.size = g5 at *
      have q1 := hx.cells
      have qb := fun W (kW : K w9 W) => qa W (k59.tr kW)
      have kk := K.rf w9
      have hO9 := HO.out.st k59
      have k19 := kr.tr k59
      have HW9 := Lib.hid hO9.lst
      obtain ⟨Ao, co, rfl, -⟩ := hO9.slice
      clear hx kx k5 HE2 qa HO hO9
      go_wp2_with fail
      refine (ESame_calls (oneT a c es).e (oneT a c es).e _ _ w9 (HE9.out _ kk) ⟨.slice none 0 0, .slice Ao es.length co, rfl, ⟨none, 0, rfl, Reads.nil _ _ _ _⟩, HW9.out⟩ (one_small (a := a) (c := c) HB.out.1 (by omega) (oneT a c es) (by simp))).mono ?_
      rintro e9 wa ⟨rfl, ka⟩
      rw [show decide ((oneT a c es).e = (oneT a c es).e) = true from by simp]
      have q1a := q1 wa ka
      clear q1 qb
      go_wp2
      go_ret
      exact ⟨rfl, k1.tr (k19.tr ka)⟩
end Go.Proofs.Ytjcdgbnbaiebdaa
