/-
  The walk of the closure of fold.on that lays a promise (layer 16). Conditions: lists of at most a million.
-/
import Derived.Test.YthnhdeieimgfhaaFoI
set_option maxRecDepth 100000
namespace Go.Proofs.Ythnhdeieimgfhaa
open Go Go.RowKit

set_option maxHeartbeats 4000000 in
theorem On3_calls {base g gs gr : Nat} {s : Stt} {r : Rec} {vl vp va vf ve : Value} {c1 c2 : List (List Value)} (w : World) (h : OnV base g gs gr s r vl vp va vf ve c1 c2 w) :
    Calls Try.prog 105 #[.pointer (some ⟨gr, 0, none⟩), .pointer (some ⟨gs, 0, none⟩)] w fun e w' => OnPost base g s (on3 s r) w e w' := by
  have HR : Hid (on3 s r = if hasE s.list (idE r.e) then none else if hasE s.prom (idE r.e) then none else if hasI s.ab (idE r.e) then none else some ⟨s.life, s.list, s.prom ++ [r.e], s.ab⟩) := Lib.hid rfl
  generalize on3 s r = R at *
  have H := Lib.hid h
  have hns := h.ns.2.1
  have hnr := h.ns.2.2.2.2.1
  have hsz := h.sz
  have hsm := h.sm
  have C1 := Lib.hid fun W (kW : K w W) => Has_calls s (idE r.e) _ W (H.out.st.st kW).stv (by omega)
  have C2 := Lib.hid fun W (kW : K w W) => Promised_calls s (idE r.e) _ W (H.out.st.st kW).stv (by omega)
  have C3 := Lib.hid fun W (kW : K w W) => Aborted_calls s (idE r.e) _ W (H.out.st.st kW).stv (by omega)
  generalize hasE s.list (idE r.e) = B1 at *
  generalize hasE s.prom (idE r.e) = B2 at *
  generalize hasI s.ab (idE r.e) = B3 at *
  have hx0 := Blk.new w 53 #[.int .i64 r.e.br, .int .u64 (r.e.life : Int), .int .u64 (r.e.ser : Int)]
  have k1 : K w (w.alloc (.cells #[.int .i64 r.e.br, .int .u64 (r.e.life : Int), .int .u64 (r.e.ser : Int)] 53)) := (K.rf w).al _
  have q2 := h.br.cell
  clear h
  go_enter Try.func105, Try.ntmps105
  go_upto_region 2 with (fail)
  generalize w.alloc _ = w1 at *
  generalize hgi : w.heap.size = gi at hx0 ⊢
  have qx := hx0.cells
  have hs1 := H.out.st.st k1
  have bs0 := H.out.bs.below k1 H.out.bs.lt
  have br0 := H.out.br.below k1 H.out.br.lt
  have qg := hs1.blk.cells
  have qs := bs0.cells
  have qr := br0.cells
  have kk := K.rf w1
  clear q2
  refine wp_region_K [isV (.pointer (some ⟨g, 0, none⟩)),
      isV (.pointer (some ⟨g, 0, none⟩)),
      isV (.agg (stA s vl vp va)),
      isV (idv (idE r.e)),
      isV (.bool B1),
      isV (.bool B1),
      isV (cond (!B1) (.pointer (some ⟨g, 0, none⟩)) undef),
      isV (cond (!B1) (.pointer (some ⟨g, 0, none⟩)) undef),
      isV (cond (!B1) (.agg (stA s vl vp va)) undef),
      isV (cond (!B1) (idv (idE r.e)) undef),
      isV (cond (!B1) (.bool B2) undef),
      isV (.bool (B1 || B2)),
      isV (.bool (B1 || B2)),
      isV (cond (!(B1 || B2)) (.pointer (some ⟨g, 0, none⟩)) undef),
      isV (cond (!(B1 || B2)) (.pointer (some ⟨g, 0, none⟩)) undef),
      isV (cond (!(B1 || B2)) (.agg (stA s vl vp va)) undef),
      isV (cond (!(B1 || B2)) (idv (idE r.e)) undef),
      isV (cond (!(B1 || B2)) (.bool B3) undef),
      isV (.bool ((B1 || B2) || B3))]
    [([], []), ([0], [(7, 0)]), ([1], [(8, 1)]), ([], []), ([2, 3], [(9, 2), (10, 3)]), ([4], [(11, 4)]), ([5], []), ([6, 5], [(13, 6)]), ([7, 5], [(14, 7)]), ([5], []), ([8, 9, 5], [(15, 8), (16, 9)]), ([5, 10], [(12, 5), (17, 10)]), ([11], [(18, 11)]), ([12], []), ([13, 12], [(20, 13)]), ([14, 12], [(21, 14)]), ([12], []), ([15, 16, 12], [(22, 15), (23, 16)]), ([12, 17], [(19, 12), (24, 17)])] 38 rfl (by kernel_rfl) (by kernel_rfl) (by kernel_rfl) ?st2 ?ow2 ?_
  case st2 =>
    simp only [List.forall_mem_cons]
    and_intros
    all_goals first | exact isV_st _ | exact sl_st _ | exact anyV_st | simp
  case ow2 =>
    simp only [OwedQ]
    and_intros
    all_goals try trivial
    all_goals
      intro V W kW hp
      have kwW := k1.tr kW
      cases B1 <;> cases B2
      all_goals
        try simp only [List.forall_mem_cons, tab_zero, tab_succ, isV] at hp
        try simp [wantsG, rhoP, List.lookup, hp, tab_zero, tab_succ, ResG, execOp, bareOp, isV, Below.refl, kW, qg, qs, qx, go_sem]
    all_goals first | exact ⟨rfl, rfl, rfl⟩ | (refine (C1.out W kwW).mono ?_; rintro e w2 ⟨rfl, k⟩; exact ⟨_, rfl, rfl, k⟩) | (refine (C2.out W kwW).mono ?_; rintro e w2 ⟨rfl, k⟩; exact ⟨_, rfl, rfl, k⟩) | (refine (C3.out W kwW).mono ?_; rintro e w2 ⟨rfl, k⟩; exact ⟨_, rfl, rfl, k⟩)
  intro V W kW hp
  have h9 := hp 18 (by simp)
  simp only [tab_zero, tab_succ, isV] at h9
  clear hp
  simp only [putAll, Act.put, List.setIfInBounds_toArray, List.set_cons_succ, List.set_cons_zero, h9]
  have kwW := k1.tr kW
  have H1 := Lib.hid (H.out.st.st kwW)
  have kb : Below base w W := kwW.mono H.out.low
  have bs1 := bs0.below kW bs0.lt
  have br1 := br0.below kW br0.lt
  have hx1 := hx0.below kW hx0.lt
  have hlow : base ≤ W.heap.size := Nat.le_trans H.out.low kwW.size
  have HE1 := Lib.hid fun W' (u : UpN (fun k => k = g ∨ vl.ownBlock = some k ∨ vp.ownBlock = some k ∨ va.ownBlock = some k) W W') => H.out.en W' ((UpN.of_k kwW _).tr u)
  have hgi1 : gi < W.heap.size := Nat.lt_of_lt_of_le hx0.lt kW.size
  clear qg qs qr qx h9 C1 C2 C3 hs1 bs0 br0 hx0
  by_cases hany : ((B1 || B2) || B3) = true
  · rw [hany]
    have HQ : Hid (R = none) := Lib.hid (by rw [HR.out]; revert hany; cases B1 <;> cases B2 <;> cases B3 <;> simp)
    clear hany
    go_wp2
    go_ret
    exact ⟨by rw [HQ.out]; rfl, by rw [HQ.out]; exact ⟨_, _, _, _, _, H1.out⟩, kb⟩
  have hany2 : ((B1 || B2) || B3) = false := by simpa using hany
  rw [hany2]
  have hall : B1 = false ∧ B2 = false ∧ B3 = false := by revert hany2; cases B1 <;> cases B2 <;> cases B3 <;> simp
  clear hany hany2
  obtain ⟨rfl, rfl, rfl⟩ := hall
  have HQ : Hid (R = some ⟨s.life, s.list, s.prom ++ [r.e], s.ab⟩) := Lib.hid (by rw [HR.out]; rfl)
  generalize W = w1 at *
  have q1 := bs1.cell
  have q2 := br1.cell
  have q3 := H1.out.blk.cell
  go_upto_region 4 with (fail)
  clear q1 q2 q3
  obtain ⟨C, hC⟩ : ∃ C : World → Prop, C = fun W => UpB 0 vp.ownBlock w1 W := ⟨_, rfl⟩
  have hg : ∀ W W', C W → Below W.heap.size W W' → C W' := by
    subst hC
    intro W W' h hb
    exact h.tr (UpB.of_k hb _ _)
  have hc0 : C w1 := by rw [hC]; exact UpB.rf _ _ _
  obtain ⟨F, hF⟩ : ∃ F : World → Prop, F = fun W => Sto base g ⟨s.life, s.list, s.prom ++ [r.e], s.ab⟩ W ∧ Below base w1 W ∧ UpN (fun k => vp.ownBlock = some k ∨ k = g) w1 W := ⟨_, rfl⟩
  have hrow : ∀ b, vp.ownBlock = some b → b < w1.heap.size := fun b hb => (H1.out.rowp hb).2.1
  refine wp_region_turn3 9 12 C (fun W => W.ownsRow base 58 8 vp s.prom.length c2.flatten) (fun _ => True) (fun W W' => W.grownBy W' vp.ownBlock) F [isV (.pointer (some ⟨g, 0, none⟩)),
  isV (.pointer (some ⟨g, 0, none⟩)),
  isV (.pointer (some ⟨g, 0, none⟩)),
  isV (.pointer (some ⟨g, 2, none⟩)),
  isV (vp),
  isV (.pointer (some ⟨gr, 2, none⟩)),
  isV (.agg (entA r.e vf ve)),
  elF enS w1.heap.size r.e,
  rowS enS w1.heap.size 58 r.e,
  appS enS base w1.heap.size 58 vp.ownBlock s.prom.length c2.flatten r.e,
  isV (.pointer (some ⟨g, 0, none⟩)),
  isV (.pointer (some ⟨g, 2, none⟩)),
  anyV]
    [([], []), ([], []), ([1], [(27, 1)]), ([2], [(28, 2)]), ([3], [(29, 3)]), ([], []), ([5], [(31, 5)]), ([6], [(32, 6)]), ([7], [(33, 7)]), ([4, 8], [(30, 4), (34, 8)]), ([0], [(26, 0)]), ([10], [(36, 10)]), ([11, 9], [(37, 11), (35, 9)])] 38 rfl (by kernel_rfl) (by kernel_rfl) (by kernel_rfl) (by decide) (by decide) (by decide) (by kernel_rfl) hg (fun W W' h k => row_below h k) (fun _ _ h _ => h) (by exact hg _ _ hc0 (Below.drew (Below.refl _ _))) (row_below H1.out.p (Below.drew (Below.refl _ _))) ?st4 ?stt4 ?ow4 ?_
  case st4 =>
    simp only [List.forall_mem_cons]
    and_intros
    all_goals first | exact isV_st _ | exact anyV_st | exact elF_st _ _ | exact rowS_st _ _ _ | exact appS_st _ _ _ _ _ _ _ | simp
  case stt4 =>
    simp only [List.zipIdx_cons, List.zipIdx_nil, List.forall_mem_cons, Nat.zero_add, Nat.reduceAdd]
    and_intros
    all_goals first | exact .inl rfl | exact .inr (fun _ _ _ h _ => h) | exact .inr (elF_row hrow) | exact .inr (rowS_row hrow) | simp
  case ow4 =>
    simp only [OwedY, OwedT]
    and_intros
    all_goals try trivial
    all_goals
      simp only [Nat.reduceEqDiff, if_false, Nat.reduceAdd]
    all_goals
      first
      | (intro V w' hc hD hp
         simp only [List.forall_mem_cons, tab_zero, tab_succ, isV] at hp
         rw [hC] at hc)
      | (intro V w' hc hp
         rw [hC] at hc
         have qg := (H1.out.blk.upB hc (fun e => (H1.out.rowp e).2.2.1 rfl)).cell
         have qs := (bs1.upB hc (fun e => hns e)).cell
         have qr := (br1.upB hc (fun e => hnr e)).cell
         try simp only [List.forall_mem_cons, tab_zero, tab_succ, isV] at hp
         try (simp [wantsG, rhoP, List.lookup, hp, tab_zero, tab_succ, ResG, execOp, bareOp, isV, undef, Below.refl, qg, qs, qr, go_sem]; done))
      | skip
    · simp only [if_pos (show wantsG V none = true from rfl)]
      simp [rhoP, List.lookup, hp, tab_zero, tab_succ, ResG, execOp, bareOp, go_sem]
      refine (Whole_calls r.e _ w' (HE1.out w' (hc.upN (fun k hk => hk.elim (fun h => by omega) (fun h => .inr (.inr (.inl h.symm)))))) hsm).mono ?_
      rintro e w2 ⟨v, rfl, ho, hb⟩
      exact ⟨v, rfl, elF_of_entO (by have := hc.size; omega) ho, hb⟩
    · obtain ⟨hp7, -⟩ := hp
      obtain ⟨vf7, ve7, e7⟩ := elF_agg hp7
      have hF7 := hp7.2.2
      rw [e7] at hF7
      simp [e7, wantsG, rhoP, List.lookup, tab_zero, tab_succ, ResG, execOp, bareOp, undef, go_sem]
      exact ⟨⟨w'.heap.size, _, rfl, by have := hc.size; omega, Blk.new _ _ _, rfl, fun W' u => hF7 W' ((UpB.of_k ((K.rf w').al _) _ _).tr u)⟩, (K.rf w').al _⟩
    · obtain ⟨h1, h4, -⟩ := hp
      obtain ⟨v', w'', hrun, h7, h5, h3⟩ := exec_appS (P := Try.prog) (S := enS) (ρ := rhoP [(30, 4), (34, 8)] _ V) (.tmp 30) (.tmp 34) 25 25 58 base _ 96 s.prom.length c2.flatten TEn vp h1 hD w1.heap.size (by first | exact H1.out.2 | omega) hrow (by have := hc.size; omega) r.e _ rfl h4 (by omega)
      rw [hrun]
      refine ⟨h7, ?_, trivial, h3⟩
      rw [hC]
      exact hc.tr (UpB.of_mut h3 0)
    · obtain ⟨h6, h9, -⟩ := hp
      have hb9 := H1.out.blk.upB hc (fun e => (H1.out.rowp e).2.2.1 rfl)
      have z := hb9.frozen
      have q := hb9.cell
      have hpu := H1.out.pushP (by omega) hc h9
      obtain ⟨A9, n9, c9, e9⟩ := appS_slice h9
      generalize hA : rhoP [(37, 11), (35, 9)] _ V = ρ9
      have es4 : ρ9 (.tmp 37) = .pointer (some ⟨g, 2, none⟩) := by rw [← hA]; exact h6
      have ex4 : ρ9 (.tmp 35) = V 9 := by rw [← hA]; rfl
      rw [e9] at ex4 hpu
      have hs7 : (execOp ρ9 (bareOp (.store 25 (.tmp 37) (.tmp 35)) 0)).run Try.prog w' = .ok .skip (w'.setCell ⟨g, 2, none⟩ (.slice A9 n9 c9)) := by
        simp [es4, ex4, execOp, bareOp, q, z, go_sem]
      rw [hs7]
      show F _
      rw [hF]
      exact ⟨hpu, (below_upB hc (by omega) (fun b hb => (H1.out.rowp hb).1)).setCell H1.out.low _, grow_upn hc (UpN.rf (fun _ => False) _) (fun k _ e => e.elim (fun e => .inr e) (fun e => e.elim (fun e => .inl e.symm) False.elim))⟩
  intro V W hFW
  rw [hF] at hFW
  obtain ⟨HSF, kbF, unF⟩ := hFW
  have HSF := Lib.hid HSF
  clear hC hg hc0 hF hrow
  simp only [putAll, Act.put, List.setIfInBounds_toArray, List.set_cons_succ, List.set_cons_zero]
  go_wp2
  go_ret
  exact ⟨by rw [HQ.out]; rfl, by rw [HQ.out]; exact HSF.out, kb.trans kbF⟩
end Go.Proofs.Ythnhdeieimgfhaa
