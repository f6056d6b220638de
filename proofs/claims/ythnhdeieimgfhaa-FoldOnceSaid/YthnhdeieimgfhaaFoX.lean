/-
  The walk of FoldOnce (layer 16). Conditions: none.
-/
import Derived.Test.YthnhdeieimgfhaaFoV
set_option maxRecDepth 100000
namespace Go.Proofs.Ythnhdeieimgfhaa
open Go Go.RowKit

def stvF (s : Stt) (v : Value) (W : World) : Prop := stv s v W
theorem stvF_st (s : Stt) : ∀ v w w', stvF s v w → Below w.heap.size w w' → stvF s v w' := fun _ _ _ h k => stv_st h k
/-- What Step left, while it is stored in a block of the call's own that was made ahead of it or behind it. -/
structure OnceF (w1 : World) (s : Stt) (code : Int) (L : Nat → Bool) (V : Nat → Value) (W W1 : World) (B : Nat) (vl vp va : Value) (c1 c2 : List (List Value)) : Prop where
  v3 : V 3 = .tuple #[.agg (stA s vl vp va), .int .i64 code]
  st : StoR B s vl vp va c1 c2 W
  k : K w1 W
  ks : L 8 = false → K W1 W ∧ StoR B s vl vp va c1 c2 W1
  low : w1.heap.size ≤ B
  sz : W1.heap.size ≤ W.heap.size
  v4 : L 4 = true → V 4 = .tuple #[.agg (stA s vl vp va), .int .i64 code]
  v5 : L 5 = true → V 5 = .agg (stA s vl vp va)
  v6 : L 6 = true → V 6 = .int .i64 code
  v7 : L 7 = true → ∃ b, V 7 = .pointer (some ⟨b, 0, none⟩) ∧ w1.heap.size ≤ b ∧ (b < B ∨ W1.heap.size ≤ b) ∧ Blk W b 43 (cond (L 8) (stA s vl vp va) zSt)
  v8 : L 8 = true → L 7 = true
  v9 : L 9 = true → V 9 = .int .i64 code

set_option maxHeartbeats 8000000 in
theorem FoldOnce_walk (v0 v1 : Value) (w : World) (r0 : repRecs w v0) (r1 : repRecord w v1) :
    Calls Try.prog 11 #[v0, v1] w fun e w' => e = .returned (.bool true) ∧ Below w.heap.size w w' := by
  obtain ⟨l, hl, hf, hlen⟩ := r0
  obtain ⟨r, hr, hfr⟩ := r1
  obtain ⟨A, c, rfl⟩ := lst_slice hl
  have HRC := Lib.hid fun W (k : K w W) => rcd_st hr k
  obtain ⟨vf, ve, rfl, gf, ge⟩ := hr
  obtain ⟨Af, cf, rfl⟩ := flt_slice gf
  obtain ⟨Ae, ce, rfl⟩ := lst_slice ge
  have C1 := Lib.hid fun W (kW : K w W) => Made_calls l _ W (lst_st hl kW) hf hlen
  have CS := Lib.hid fun W (kW : K w W) => FSmall_calls r _ W (HRC.out W kW)
  have HSM := Lib.hid (made_small l)
  have hz := made_len l
  have HON := Lib.hid (stepS_once (madeS l) r)
  have HF := Lib.hid hfr
  have HIV := Lib.hid (InvS.made l hf)
  have hx := Blk.new w 60 (recA r (.slice Af r.e.f.length cf) (.slice Ae r.e.es.length ce))
  have k1 : K w (w.alloc (.cells (recA r (.slice Af r.e.f.length cf) (.slice Ae r.e.es.length ce)) 60)) := (K.rf w).al _
  generalize madeS l = M at *
  clear hl hf gf ge hfr
  go_enter Try.func11, Try.ntmps11
  go_wp2_with fail
  generalize w.alloc _ = w1 at *
  generalize w.heap.size = gx at hx ⊢
  have qx := hx.cells
  clear hx
  refine (FAwake_calls w1).mono ?_
  rintro e w2 ⟨rfl, k2⟩
  replace k1 := k1.tr k2
  go_wp2_with fail
  refine (CS.out w2 k1).mono ?_
  rintro e w3 ⟨rfl, k3⟩
  replace k1 := k1.tr k3
  have k13 := k2.tr k3
  cases hfew : fewEn r.e
  · clear qx
    go_wp2
    go_ret
    exact ⟨rfl, k1⟩
  have hsm := fewEn_small hfew
  have C2 := Lib.hid fun W (kW : K w W) v (hv : stv M v W) => Step_own M r v _ W hv (HRC.out W kW) HF.out hsm HSM.out.1 HSM.out.2 (by omega)
  have HLS := Lib.hid (len_step M r)
  have HIS := Lib.hid (HIV.out.step HF.out)
  clear hfew CS k2 k3 HIV
  go_upto_region 6 with (fail)
  have qx : ∀ W, K w3 W → ∀ i, W.cell? ⟨gx, i, none⟩ = (recA r (.slice Af r.e.f.length cf) (.slice Ae r.e.es.length ce))[i]? := fun W k => qx W (k13.tr k)
  obtain ⟨s', hs'⟩ : ∃ s', s' = (stepS M r).1 := ⟨_, rfl⟩
  obtain ⟨code, hcode⟩ : ∃ c, c = (stepS M r).2 := ⟨_, rfl⟩
  simp only [← hs', ← hcode] at C2 HON HLS HIS
  clear hs' hcode
  obtain ⟨C, hC⟩ : ∃ C : World → Prop, C = fun W => K w3 W := ⟨_, rfl⟩
  have hg : ∀ W W', C W → Below W.heap.size W W' → C W' := by
    subst hC
    intro W W' h hb
    exact h.tr hb
  have hc0 : C w3 := by rw [hC]; exact K.rf _
  obtain ⟨F, hF⟩ : ∃ F : (Nat → Bool) → (Nat → Value) → World → Prop, F = fun L V W => ∃ W1 B vl vp va c1 c2, OnceF w3 s' code L V W W1 B vl vp va c1 c2 := ⟨_, rfl⟩
  refine wp_region_turn4 1 3 [0, 1, 2] [4, 5, 6, 8, 9] C (fun _ => True) (fun _ => True) (fun W W' => K W W') F [isV (.slice A l.length c),
      stvF M,
      isV (.agg (recA r (.slice Af r.e.f.length cf) (.slice Ae r.e.es.length ce))),
      fun _ _ => False,
      fun _ _ => False,
      fun _ _ => False,
      fun _ _ => False,
      newS w3.heap.size,
      fun _ _ => False,
      fun _ _ => False]
    [([], []), ([0], [(18, 0)]), ([], []), ([1, 2], [(19, 1), (20, 2)]), ([3], [(21, 3)]), ([4], [(17, 4)]), ([4], [(17, 4)]), ([], []), ([7, 5], [(6, 7), (22, 5)]), ([6], [(23, 6)])] 40 rfl (by kernel_rfl) (by kernel_rfl) (by kernel_rfl) (by decide) (by decide) (by decide) (by kernel_rfl) (by kernel_rfl) hg (fun _ _ h _ => h) (fun _ _ h _ => h) (by exact hg _ _ hc0 (Below.drew (Below.refl _ _))) trivial ?st1 ?stt1 ?ow1 ?_
  case st1 =>
    simp only [List.forall_mem_cons]
    and_intros
    all_goals first | exact isV_st _ | exact stvF_st _ | exact newS_st _ | exact (fun _ _ _ h _ => h) | simp
  case stt1 =>
    simp only [List.zipIdx_cons, List.zipIdx_nil, List.forall_mem_cons, Nat.zero_add, Nat.reduceAdd]
    and_intros
    all_goals first | exact .inl rfl | exact .inr (fun _ _ _ h _ => h) | exact .inr (newS_st _) | simp
  case ow1 =>
    simp only [OwedU, OwedT, List.contains_cons, List.contains_nil, Nat.reduceBEq, Bool.or_false, Bool.or_true, Bool.false_eq_true, if_true, if_false, Nat.reduceEqDiff, Nat.reduceAdd, and_true, true_and]
    and_intros
    all_goals try trivial
    all_goals
      first
      | (intro V w' hc hp
         rw [hC] at hc
         have q := qx w' hc
         try simp only [List.forall_mem_cons, tab_zero, tab_succ, isV] at hp
         try (simp [wantsG, rhoP, List.lookup, tab_zero, tab_succ, ResG, execOp, bareOp, isV, undef, Below.refl, q, go_sem]; done))
      | skip
    · intro hp2
      simp only [List.forall_mem_cons, tab_zero, isV] at hp2
      simp [rhoP, List.lookup, hp2, tab_zero, tab_succ, ResT, execOp, bareOp, go_sem]
      refine (C1.out w' (k1.tr hc)).mono ?_
      rintro e w4 ⟨v, rfl, hs, k4⟩
      exact ⟨_, rfl, hs, by rw [hC]; exact hc.tr k4, k4⟩
    · intro L V w' hal hc _ hp
      have f1 := hp 1 (hal 1 (by simp))
      have f2 := hp 2 (hal 2 (by simp))
      have f4 := hp 4
      have f5 := hp 5
      have f6 := hp 6
      have f7 := hp 7
      have f8 := hp 8
      have f9 := hp 9
      simp only [tab_zero, tab_succ, isV] at f1 f2 f4 f5 f6 f7 f8 f9
      rw [hC] at hc
      simp [rhoP, List.lookup, f2, execOp, bareOp, go_sem]
      refine (C2.out w' (k1.tr hc) (V 1) f1).mono ?_
      rintro e w4 ⟨B, vl, vp, va, c1, c2, rfl, hB, hS, k4⟩
      refine ⟨_, rfl, ?_⟩
      show F _ _ w4
      rw [hF]
      refine ⟨w4, B, vl, vp, va, c1, c2, by simp [updV], hS, hc.tr k4, fun _ => ⟨K.rf _, hS⟩, Nat.le_trans hc.size hB, Nat.le_refl _, fun e => (f4 (by simpa [upd] using e)).elim, fun e => (f5 (by simpa [upd] using e)).elim, fun e => (f6 (by simpa [upd] using e)).elim, fun e => ?_, fun e => (f8 (by simpa [upd] using e)).elim, fun e => (f9 (by simpa [upd] using e)).elim⟩
      obtain ⟨b, e7, hb1, hb2⟩ := f7 (by simpa [upd] using e)
      have h8 : L 8 = false := by
        cases h : L 8
        · rfl
        · exact (f8 h).elim
      refine ⟨b, by simp [updV, e7], hb1, .inl (Nat.lt_of_lt_of_le hb2.lt hB), ?_⟩
      have : upd L 3 8 = false := by simp [upd, h8]
      rw [this]
      exact hb2.below k4 hb2.lt
    · intro L V w' hLk hal hFw
      rw [hF] at hFw ⊢
      obtain ⟨W1, B, vl, vp, va, c1, c2, h⟩ := hFw
      have e1 : V 3 = .tuple #[.agg (stA s' vl vp va), .int .i64 code] := h.v3
      generalize hA : rhoP [(21, 3)] _ V = ρ9
      have e5 : ρ9 (.tmp 21) = .tuple #[.agg (stA s' vl vp va), .int .i64 code] := by rw [← hA]; exact e1
      have hrun : (execOp ρ9 (bareOp (.move (.tmp 21)) 48)).run Try.prog w' = .ok (.value (.tuple #[.agg (stA s' vl vp va), .int .i64 code])) w' := by
        simp [e5, execOp, bareOp, go_sem]
      rw [hrun]
      refine ⟨W1, B, vl, vp, va, c1, c2, ?_⟩
      exact ⟨by simp [updV, h.v3], h.st, h.k, fun e => h.ks (by simpa [upd] using e), h.low, h.sz, fun _ => by simp [updV], fun e => by have := h.v5 (by simpa [upd] using e); simpa [updV] using this, fun e => by have := h.v6 (by simpa [upd] using e); simpa [updV] using this, fun e => by have := h.v7 (by simpa [upd] using e); simpa [updV, upd] using this, fun e => by have := h.v8 (by simpa [upd] using e); simpa [upd] using this, fun e => by have := h.v9 (by simpa [upd] using e); simpa [updV] using this⟩
    · intro L V w' hLk hal hFw
      rw [hF] at hFw ⊢
      obtain ⟨W1, B, vl, vp, va, c1, c2, h⟩ := hFw
      have e1 : V 4 = .tuple #[.agg (stA s' vl vp va), .int .i64 code] := h.v4 (hal 4 (by simp))
      generalize hA : rhoP [(17, 4)] _ V = ρ9
      have e5 : ρ9 (.tmp 17) = .tuple #[.agg (stA s' vl vp va), .int .i64 code] := by rw [← hA]; exact e1
      have hrun : (execOp ρ9 (bareOp (.extract (.tmp 17) 0) 43)).run Try.prog w' = .ok (.value (.agg (stA s' vl vp va))) w' := by
        simp [e5, execOp, bareOp, go_sem]
      rw [hrun]
      refine ⟨W1, B, vl, vp, va, c1, c2, ?_⟩
      exact ⟨by simp [updV, h.v3], h.st, h.k, fun e => h.ks (by simpa [upd] using e), h.low, h.sz, fun e => by have := h.v4 (by simpa [upd] using e); simpa [updV] using this, fun _ => by simp [updV], fun e => by have := h.v6 (by simpa [upd] using e); simpa [updV] using this, fun e => by have := h.v7 (by simpa [upd] using e); simpa [updV, upd] using this, fun e => by have := h.v8 (by simpa [upd] using e); simpa [upd] using this, fun e => by have := h.v9 (by simpa [upd] using e); simpa [updV] using this⟩
    · intro L V w' hLk hal hFw
      rw [hF] at hFw ⊢
      obtain ⟨W1, B, vl, vp, va, c1, c2, h⟩ := hFw
      have e1 : V 4 = .tuple #[.agg (stA s' vl vp va), .int .i64 code] := h.v4 (hal 4 (by simp))
      generalize hA : rhoP [(17, 4)] _ V = ρ9
      have e5 : ρ9 (.tmp 17) = .tuple #[.agg (stA s' vl vp va), .int .i64 code] := by rw [← hA]; exact e1
      have hrun : (execOp ρ9 (bareOp (.extract (.tmp 17) 1) 31)).run Try.prog w' = .ok (.value (.int .i64 code)) w' := by
        simp [e5, execOp, bareOp, go_sem]
      rw [hrun]
      refine ⟨W1, B, vl, vp, va, c1, c2, ?_⟩
      exact ⟨by simp [updV, h.v3], h.st, h.k, fun e => h.ks (by simpa [upd] using e), h.low, h.sz, fun e => by have := h.v4 (by simpa [upd] using e); simpa [updV] using this, fun e => by have := h.v5 (by simpa [upd] using e); simpa [updV] using this, fun _ => by simp [updV], fun e => by have := h.v7 (by simpa [upd] using e); simpa [updV, upd] using this, fun e => by have := h.v8 (by simpa [upd] using e); simpa [upd] using this, fun e => by have := h.v9 (by simpa [upd] using e); simpa [updV] using this⟩
    · intro L V w' hLk hal hFw
      rw [hF] at hFw ⊢
      obtain ⟨W1, B, vl, vp, va, c1, c2, h⟩ := hFw
      have h8 : L 8 = false := by
        cases h8 : L 8
        · rfl
        · have := h.v8 h8; rw [hLk] at this; cases this
      have k9 : K w' (w'.alloc (.cells zSt 43)) := (K.rf w').al _
      have hrun : ∀ ρ9 : Operand → Value, (execOp ρ9 (bareOp (.alloc 43) 0)).run Try.prog w' = .ok (.value (.pointer (some ⟨w'.heap.size, 0, none⟩))) (w'.alloc (.cells zSt 43)) := by
        intro ρ9
        simp [execOp, bareOp, go_sem]
      rw [hrun]
      refine ⟨W1, B, vl, vp, va, c1, c2, ?_⟩
      have hb9 := Blk.new w' 43 zSt
      exact ⟨by simp [updV, h.v3], h.st.st k9, h.k.tr k9, fun _ => ⟨(h.ks h8).1.tr k9, (h.ks h8).2⟩, h.low, Nat.le_trans h.sz k9.size, fun e => by have := h.v4 (by simpa [upd] using e); simpa [updV] using this, fun e => by have := h.v5 (by simpa [upd] using e); simpa [updV] using this, fun e => by have := h.v6 (by simpa [upd] using e); simpa [updV] using this,
        fun _ => ⟨w'.heap.size, by simp [updV], h.k.size, .inr h.sz, by have e : upd L 7 8 = false := by simp [upd, h8]
                                                                        rw [e]; exact hb9⟩,
        fun _ => by simp [upd], fun e => by have := h.v9 (by simpa [upd] using e); simpa [updV] using this⟩
    · simp [wantsG, tab_zero, tab_succ, ResG, execOp, bareOp, go_sem]
      exact ⟨⟨w'.heap.size, rfl, hc.size, Blk.new _ _ _⟩, (K.rf w').al _⟩
    · intro L V w' hLk hal hFw
      rw [hF] at hFw ⊢
      obtain ⟨W1, B, vl, vp, va, c1, c2, h⟩ := hFw
      have e5 := h.v5 (hal 5 (by simp))
      obtain ⟨b, e7, hb1, hb2, hb3⟩ := h.v7 (hal 7 (by simp))
      rw [hLk] at hb3
      have hb4 : Blk w' b 43 zSt := hb3
      clear hb3
      generalize hA : rhoP [(6, 7), (22, 5)] _ V = ρ9
      have es : ρ9 (.tmp 6) = .pointer (some ⟨b, 0, none⟩) := by rw [← hA]; exact e7
      have ex : ρ9 (.tmp 22) = .agg (stA s' vl vp va) := by rw [← hA]; exact e5
      obtain ⟨⟨El, fl, rfl⟩, ⟨Ep, fp, rfl⟩, Ea, fa, rfl⟩ := h.st.slices
      obtain ⟨w'', hrun, hbb, hg9⟩ := exec_storeF (P := Try.prog) (ρ := ρ9) (.tmp 6) (.tmp 22) 43 0 43 b 0 _ _ es ex hb4 (by kernel_rfl) (by simp) (by simp [Value.oneCell'])
      rw [hrun]
      have u9 : UpN (fun k => k = b) w' w'' := UpN.of_mut hg9 (fun k e => by injection e with e; exact e.symm)
      have hst : StoR B s' (.slice El s'.list.length fl) (.slice Ep s'.prom.length fp) (.slice Ea s'.ab.length fa) c1 c2 w'' := by
        rcases hb2 with hb2 | hb2
        · exact h.st.low (u9.more fun k e => by omega)
        · exact (h.ks hLk).2.st (u9.k (h.ks hLk).1 fun k e => by omega)
      refine ⟨W1, B, .slice El s'.list.length fl, .slice Ep s'.prom.length fp, .slice Ea s'.ab.length fa, c1, c2, ?_⟩
      exact ⟨by simp [updV, h.v3], hst, u9.k h.k (fun k e => by omega), fun e => by simp [upd] at e, h.low, Nat.le_trans h.sz hg9.size, fun e => by have := h.v4 (by simpa [upd] using e); simpa [updV] using this, fun e => by have := h.v5 (by simpa [upd] using e); simpa [updV] using this, fun e => by have := h.v6 (by simpa [upd] using e); simpa [updV] using this,
        fun _ => ⟨b, by simp [updV, e7], hb1, hb2, by have e : upd L 8 8 = true := by simp [upd]
                                                      rw [e]; exact hbb⟩,
        fun _ => by have := hal 7 (by simp); simp [upd, this], fun e => by have := h.v9 (by simpa [upd] using e); simpa [updV] using this⟩
    · intro L V w' hLk hal hFw
      rw [hF] at hFw ⊢
      obtain ⟨W1, B, vl, vp, va, c1, c2, h⟩ := hFw
      have e1 : V 6 = .int .i64 code := h.v6 (hal 6 (by simp))
      generalize hA : rhoP [(23, 6)] _ V = ρ9
      have e5 : ρ9 (.tmp 23) = .int .i64 code := by rw [← hA]; exact e1
      have hrun : (execOp ρ9 (bareOp (.assign (.tmp 23)) 31)).run Try.prog w' = .ok (.value (.int .i64 code)) w' := by
        simp [e5, execOp, bareOp, go_sem]
      rw [hrun]
      refine ⟨W1, B, vl, vp, va, c1, c2, ?_⟩
      exact ⟨by simp [updV, h.v3], h.st, h.k, fun e => h.ks (by simpa [upd] using e), h.low, h.sz, fun e => by have := h.v4 (by simpa [upd] using e); simpa [updV] using this, fun e => by have := h.v5 (by simpa [upd] using e); simpa [updV] using this, fun e => by have := h.v6 (by simpa [upd] using e); simpa [updV] using this, fun e => by have := h.v7 (by simpa [upd] using e); simpa [updV, upd] using this, fun e => by have := h.v8 (by simpa [upd] using e); simpa [upd] using this, fun _ => by simp [updV]⟩
  intro V W hFW
  rw [hF] at hFW
  obtain ⟨W1, B, vl, vp, va, c1, c2, h⟩ := hFW
  obtain ⟨b, e7, hb1, -, hb3⟩ := h.v7 (by decide)
  have e9 := h.v9 (by decide)
  have hb3 : Blk W b 43 (stA s' vl vp va) := hb3
  obtain ⟨⟨Al, cl, rfl⟩, ⟨Ap, cp, rfl⟩, Aa, ca, rfl⟩ := h.st.slices
  have HV := Lib.hid fun W' (k : K W W') => stv_st h.st.stv k
  have kW := k1.tr h.k
  have qx2 := qx W h.k
  have qb := hb3.cells
  have qb2 := hb3.cell
  clear hF hC hg hc0 h C1 C2 qx hb3 hb1
  simp only [putAll, Act.put, List.setIfInBounds_toArray, List.set_cons_succ, List.set_cons_zero, e7, e9]
  by_cases hcd : code = 0
  · have HST := HON.out hcd
    have hsml := fun x hx => okEn_small (HIS.out.okl x hx).1
    have hsmp := fun x hx => okEn_small (HIS.out.okp x hx).1
    have hls := HLS.out
    have C4 := Lib.hid fun W' (k : K W W') => Step_calls s' r _ _ W' (HV.out W' k) (HRC.out W' (kW.tr k)) HF.out hsm hsml hsmp (by omega)
    rw [HST] at C4
    have HSL := Lib.hid hsml
    have HSP := Lib.hid hsmp
    subst hcd
    clear HON HST HIS HLS hsml hsmp
    go_wp2_with fail
    refine (C4.out W (K.rf _)).mono ?_
    rintro e w4 ⟨v, rfl, hs, k4⟩
    obtain ⟨vl, vp, va, rfl, gl, gp, ga⟩ := hs
    obtain ⟨Bl, dl, rfl⟩ := lst_slice gl
    obtain ⟨Bp, dp, rfl⟩ := lst_slice gp
    obtain ⟨Ba, da, rfl⟩ := lst_slice ga
    have hst : stv s' (.agg (stA s' (.slice Bl s'.list.length dl) (.slice Bp s'.prom.length dp) (.slice Ba s'.ab.length da))) w4 := ⟨_, _, _, rfl, gl, gp, ga⟩
    have hb := Blk.new w4 43 (stA s' (.slice Bl s'.list.length dl) (.slice Bp s'.prom.length dp) (.slice Ba s'.ab.length da))
    have ka : K w4 (w4.alloc (.cells (stA s' (.slice Bl s'.list.length dl) (.slice Bp s'.prom.length dp) (.slice Ba s'.ab.length da)) 43)) := (K.rf _).al _
    have p1 := qb _ (k4.tr ka)
    have p2 := hb.cell
    have C7 := SSame_calls s' s' _ _ _ (HV.out _ (k4.tr ka)) (stv_st hst ka) HSL.out HSP.out (by omega)
    rw [show decide (s' = s') = true by simp] at C7
    have HC7 := Lib.hid C7
    have kF := kW.tr (k4.tr ka)
    clear gl gp ga hst hb ka k4 C4 C7 HV qb qb2 qx2
    go_wp2_with fail
    refine HC7.out.mono ?_
    rintro e w6 ⟨rfl, k6⟩
    replace kF := kF.tr k6
    clear p1 p2 HC7 k6
    go_wp2
    go_ret
    exact ⟨rfl, kF⟩
  · clear HON HIS HLS qx2 qb qb2
    go_wp2
    go_ret
    exact ⟨rfl, kW⟩
end Go.Proofs.Ythnhdeieimgfhaa
