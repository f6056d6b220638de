/-
  The walk of wire.Encode, whole (layer 13). Conditions: numbers that fit.
-/
import Derived.Test.YthnhdeieimgfhaaWiC
set_option maxRecDepth 100000
namespace Go.Proofs.Ythnhdeieimgfhaa
open Go Go.RowKit

theorem layL_len {α : Type} (enc : α → List UInt8) (l : List α) (h : ∀ x ∈ l, (enc x).length ≤ 30000) (h16 : l.length ≤ 16) : (layL enc l).length ≤ 480009 := by
  have h1 := flat_len enc 30000 l h
  have h2 := packN_len l.length (by omega)
  have h3 : 30000 * l.length ≤ 30000 * 16 := Nat.mul_le_mul_left _ h16
  unfold layL; simp only [List.length_append]; omega
theorem encM_len {m : Msg} (h : okM m = true) (hf : fitM m) : (encM m).length ≤ 2000000 := by
  obtain ⟨-, g1, g2, g3, g4, g5, g6⟩ := okM_parts h
  obtain ⟨-, f0, f1, f2, f3, f4, f5, f6⟩ := hf
  have a1 := layL_len encVo m.votes (fun x hx => encVo_len (f1 x hx)) g1.1
  have a2 := layL_len encEb m.asks (fun x hx => encEb_len (f2 x hx)) g2.1
  have a3 := layL_len encEb m.entries (fun x hx => encEb_len (f3 x hx)) g3.1
  have a4 := layL_len encEb m.prepares (fun x hx => encEb_len (f4 x hx)) g4.1
  have a5 := layL_len encId m.aborts (fun x hx => encId_len (f5 x hx)) g5.1
  have a6 := layL_len encId m.ends (fun x hx => encId_len (f6 x hx)) g6.1
  have b1 := packN_len (kindN m.kind) (kindN_lt _)
  have b2 := packN_len m.got f0
  unfold encM
  split <;> simp only [List.length_append] <;> omega

set_option maxHeartbeats 4000000 in
theorem WEncodeB_calls (m : Msg) (v : Value) (w : World) (h : msv m v w) (hf : fitM m) :
    Calls Try.prog 15 #[v] w fun e w' => ∃ v', e = .returned (.tuple #[v', .int .i64 (chkM m)]) ∧ bsl (encMR m) v' w' ∧ K w w' := by
  have C0 := Lib.hid fun W (kW : K w W) => WCheck_calls m v W (msv_st h kW)
  obtain ⟨v1, v2, v3, v4, v5, v6, rfl, h1, h2, h3, h4, h5, h6⟩ := h
  have L1 := Lib.hid fun W (kW : K w W) => lst_st h1 kW
  have L2 := Lib.hid fun W (kW : K w W) => lst_st h2 kW
  have L3 := Lib.hid fun W (kW : K w W) => lst_st h3 kW
  have L4 := Lib.hid fun W (kW : K w W) => lst_st h4 kW
  have L5 := Lib.hid fun W (kW : K w W) => lst_st h5 kW
  have L6 := Lib.hid fun W (kW : K w W) => lst_st h6 kW
  obtain ⟨A1, c1, rfl⟩ := lst_slice h1
  obtain ⟨A2, c2, rfl⟩ := lst_slice h2
  obtain ⟨A3, c3, rfl⟩ := lst_slice h3
  obtain ⟨A4, c4, rfl⟩ := lst_slice h4
  obtain ⟨A5, c5, rfl⟩ := lst_slice h5
  obtain ⟨A6, c6, rfl⟩ := lst_slice h6
  clear h1 h2 h3 h4 h5 h6
  have hx := Blk.new w 28 (msA m (.slice A1 m.votes.length c1) (.slice A2 m.asks.length c2) (.slice A3 m.entries.length c3) (.slice A4 m.prepares.length c4) (.slice A5 m.aborts.length c5) (.slice A6 m.ends.length c6))
  have k1 : K w (w.alloc (.cells (msA m (.slice A1 m.votes.length c1) (.slice A2 m.asks.length c2) (.slice A3 m.entries.length c3) (.slice A4 m.prepares.length c4) (.slice A5 m.aborts.length c5) (.slice A6 m.ends.length c6)) 28)) := (K.rf w).al _
  have HF := Lib.hid hf
  clear hf
  have HCK : Hid (chkM m = if okM m then 0 else 130) := Lib.hid rfl
  have HRM : Hid (encMR m = if okM m then encM m else []) := Lib.hid rfl
  generalize chkM m = CK at *
  generalize encMR m = RM at *
  go_enter Try.func15, Try.ntmps15
  go_upto_region 1 with (fail)
  generalize w.alloc _ = w1 at *
  have qx := hx.cells
  have kk := K.rf w1
  generalize w.heap.size = g at *
  clear hx
  go_wp2_with fail
  refine (C0.out w1 k1).mono ?_
  rintro e w2 ⟨rfl, k2⟩
  have k12 := k1.tr k2
  cases hok : okM m
  · obtain rfl : CK = 130 := by rw [HCK.out, hok]; rfl
    obtain rfl : RM = [] := by rw [HRM.out, hok]; rfl
    clear HCK HRM
    go_wp2
    go_ret2
    exact ⟨_, rfl, ⟨none, 0, rfl, Reads.nil _ _ _ _, Nat.le_refl _⟩, k12⟩
  obtain rfl : CK = 0 := by rw [HCK.out, hok]; rfl
  have HR : Hid (RM = encM m) := Lib.hid (by rw [HRM.out, hok]; rfl)
  clear HCK HRM
  have HP := Lib.hid (okM_parts hok)
  clear hok C0
  have q2 := fun W (kW : K w2 W) => qx W (k2.tr kW)
  have kk := K.rf w2
  have hkl := packN_len (kindN m.kind) (kindN_lt _)
  have hgl := packN_len m.got HF.out.2.1
  clear qx
  go_upto_region 4 with (fail)
  refine wp_region_K [isV (.pointer (some ⟨g, 0, none⟩)),
      isV (.int .i64 m.kind),
      isV (.int .u64 (kindN m.kind : Int)),
      (sl (packN (kindN m.kind))),
      isV (.pointer (some ⟨g, 1, none⟩)),
      isV (.int .u64 (m.got : Int)),
      (sl (packN (kindN m.kind) ++ packN m.got)),
      (sl (packN (kindN m.kind) ++ packN m.got))]
    [([], []), ([0], [(11, 0)]), ([1], [(12, 1)]), ([2], [(13, 2)]), ([], []), ([4], [(15, 4)]), ([3, 5], [(14, 3), (16, 5)]), ([6], [(17, 6)])] 47 rfl (by kernel_rfl) (by kernel_rfl) (by kernel_rfl) ?st4 ?ow4 ?_
  case st4 =>
    simp only [List.forall_mem_cons]
    and_intros
    all_goals first | exact isV_st _ | exact sl_st _ | exact anyV_st | simp
  case ow4 =>
    simp only [OwedQ]
    and_intros
    all_goals try trivial
    all_goals
      intro V W kW hp
      try simp only [List.forall_mem_cons, tab_zero, tab_succ, isV] at hp
      try simp [wantsG, rhoP, List.lookup, hp, tab_zero, tab_succ, ResG, execOp, bareOp, isV, Below.refl, kW, q2, u64_wrap, go_sem]
    · refine (Number_sl (kindN m.kind) (sl_nil _) (kindN_lt _) (by simp)).mono ?_
      rintro e w9 ⟨v9, rfl, ho, k9⟩
      exact ⟨_, rfl, by simpa using sl_own ho, k9⟩
    · refine (Number_sl m.got hp.1 HF.out.2.1 (by omega)).mono ?_
      rintro e w9 ⟨v9, rfl, ho, k9⟩
      exact ⟨_, rfl, sl_own ho, k9⟩
  intro V W kW hp
  have h7 := hp 7 (by simp)
  simp only [tab_zero, tab_succ] at h7
  clear hp
  simp only [putAll, Act.put, List.setIfInBounds_toArray, List.set_cons_succ, List.set_cons_zero]
  generalize V 7 = v7 at *
  have hs0 := h7
  have kw0 := k12.tr kW
  have kv0 := kW
  generalize W = W0 at *
  have b0 : (packN (kindN m.kind) ++ packN m.got).length ≤ 18 := by rw [List.length_append]; omega
  clear h7 hkl hgl
  by_cases hk1 : m.kind = 1
  · have kk := K.rf W0
    have C1 := Lib.hid (LayVote_list _ m.votes _ _ W0 hs0 (L1.out _ kw0) (by omega) HP.out.2.1.1 HF.out.2.2.1)
    have hl1 := layL_len encVo m.votes (fun x hx => encVo_len (HF.out.2.2.1 x hx)) HP.out.2.1.1
    have b1 : (packN (kindN m.kind) ++ packN m.got ++ layL encVo m.votes).length ≤ 480027 := by rw [List.length_append]; omega
    obtain ⟨B0, e0, rfl, -⟩ := hs0
    generalize (packN (kindN m.kind) ++ packN m.got).length = n0 at *
    have q0 := fun W (kW : K W0 W) => q2 W (kv0.tr kW)
    have kk := K.rf W0
    go_wp2_with fail
    refine C1.out.mono ?_
    rintro e W1 ⟨v19, rfl, hs1, j1⟩
    have kw1 := kw0.tr j1
    have kv1 := kv0.tr j1
    clear C1 q0
    have C2 := Lib.hid (LayEntry_list _ m.asks _ _ W1 (bsl_sl hs1) (L2.out _ kw1) (by omega) HP.out.2.2.1.1 HF.out.2.2.2.1)
    have hl2 := layL_len encEb m.asks (fun x hx => encEb_len (HF.out.2.2.2.1 x hx)) HP.out.2.2.1.1
    have b2 : (packN (kindN m.kind) ++ packN m.got ++ layL encVo m.votes ++ layL encEb m.asks).length ≤ 960036 := by rw [List.length_append]; omega
    obtain ⟨B1, e1, rfl, -⟩ := hs1
    generalize (packN (kindN m.kind) ++ packN m.got ++ layL encVo m.votes).length = n1 at *
    have q1 := fun W (kW : K W1 W) => q2 W (kv1.tr kW)
    have kk := K.rf W1
    go_wp2_with fail
    refine C2.out.mono ?_
    rintro e W2 ⟨v29, rfl, hs2, j2⟩
    have kw2 := kw1.tr j2
    have kv2 := kv1.tr j2
    clear C2 q1
    have HS := Lib.hid (show bsl RM v29 W2 from by rw [HR.out]; have h := hs2; simp only [encM, List.append_assoc, ite_true, hk1] at h ⊢; exact h)
    clear hs2
    go_wp2
    go_ret2
    exact ⟨_, rfl, HS.out, kw2⟩
  · have kk := K.rf W0
    have C1 := Lib.hid (LayEntry_list _ m.entries _ _ W0 hs0 (L3.out _ kw0) (by omega) HP.out.2.2.2.1.1 HF.out.2.2.2.2.1)
    have hl1 := layL_len encEb m.entries (fun x hx => encEb_len (HF.out.2.2.2.2.1 x hx)) HP.out.2.2.2.1.1
    have b1 : (packN (kindN m.kind) ++ packN m.got ++ layL encEb m.entries).length ≤ 480027 := by rw [List.length_append]; omega
    obtain ⟨B0, e0, rfl, -⟩ := hs0
    generalize (packN (kindN m.kind) ++ packN m.got).length = n0 at *
    have q0 := fun W (kW : K W0 W) => q2 W (kv0.tr kW)
    have kk := K.rf W0
    go_wp2_with fail
    refine C1.out.mono ?_
    rintro e W1 ⟨v19, rfl, hs1, j1⟩
    have kw1 := kw0.tr j1
    have kv1 := kv0.tr j1
    clear C1 q0
    have C2 := Lib.hid (LayEntry_list _ m.prepares _ _ W1 (bsl_sl hs1) (L4.out _ kw1) (by omega) HP.out.2.2.2.2.1.1 HF.out.2.2.2.2.2.1)
    have hl2 := layL_len encEb m.prepares (fun x hx => encEb_len (HF.out.2.2.2.2.2.1 x hx)) HP.out.2.2.2.2.1.1
    have b2 : (packN (kindN m.kind) ++ packN m.got ++ layL encEb m.entries ++ layL encEb m.prepares).length ≤ 960036 := by rw [List.length_append]; omega
    obtain ⟨B1, e1, rfl, -⟩ := hs1
    generalize (packN (kindN m.kind) ++ packN m.got ++ layL encEb m.entries).length = n1 at *
    have q1 := fun W (kW : K W1 W) => q2 W (kv1.tr kW)
    have kk := K.rf W1
    go_wp2_with fail
    refine C2.out.mono ?_
    rintro e W2 ⟨v29, rfl, hs2, j2⟩
    have kw2 := kw1.tr j2
    have kv2 := kv1.tr j2
    clear C2 q1
    have C3 := Lib.hid (LayID_list _ m.aborts _ _ W2 (bsl_sl hs2) (L5.out _ kw2) (by omega) HP.out.2.2.2.2.2.1.1 HF.out.2.2.2.2.2.2.1)
    have hl3 := layL_len encId m.aborts (fun x hx => encId_len (HF.out.2.2.2.2.2.2.1 x hx)) HP.out.2.2.2.2.2.1.1
    have b3 : (packN (kindN m.kind) ++ packN m.got ++ layL encEb m.entries ++ layL encEb m.prepares ++ layL encId m.aborts).length ≤ 1440045 := by rw [List.length_append]; omega
    obtain ⟨B2, e2, rfl, -⟩ := hs2
    generalize (packN (kindN m.kind) ++ packN m.got ++ layL encEb m.entries ++ layL encEb m.prepares).length = n2 at *
    have q2 := fun W (kW : K W2 W) => q2 W (kv2.tr kW)
    have kk := K.rf W2
    go_wp2_with fail
    refine C3.out.mono ?_
    rintro e W3 ⟨v39, rfl, hs3, j3⟩
    have kw3 := kw2.tr j3
    have kv3 := kv2.tr j3
    clear C3 q2
    have C4 := Lib.hid (LayID_list _ m.ends _ _ W3 (bsl_sl hs3) (L6.out _ kw3) (by omega) HP.out.2.2.2.2.2.2.1 HF.out.2.2.2.2.2.2.2)
    have hl4 := layL_len encId m.ends (fun x hx => encId_len (HF.out.2.2.2.2.2.2.2 x hx)) HP.out.2.2.2.2.2.2.1
    have b4 : (packN (kindN m.kind) ++ packN m.got ++ layL encEb m.entries ++ layL encEb m.prepares ++ layL encId m.aborts ++ layL encId m.ends).length ≤ 1920054 := by rw [List.length_append]; omega
    obtain ⟨B3, e3, rfl, -⟩ := hs3
    generalize (packN (kindN m.kind) ++ packN m.got ++ layL encEb m.entries ++ layL encEb m.prepares ++ layL encId m.aborts).length = n3 at *
    have q3 := fun W (kW : K W3 W) => q2 W (kv3.tr kW)
    have kk := K.rf W3
    go_wp2_with fail
    refine C4.out.mono ?_
    rintro e W4 ⟨v49, rfl, hs4, j4⟩
    have kw4 := kw3.tr j4
    have kv4 := kv3.tr j4
    clear C4 q3
    have HS := Lib.hid (show bsl RM v49 W4 from by rw [HR.out]; have h := hs4; simp only [encM, List.append_assoc, ite_false, hk1] at h ⊢; exact h)
    clear hs4
    go_wp2
    go_ret2
    exact ⟨_, rfl, HS.out, kw4⟩
theorem WEncode_calls (m : Msg) (v : Value) (w : World) (h : msv m v w) (hf : fitM m) :
    Calls Try.prog 15 #[v] w fun e w' => ∃ v', e = .returned (.tuple #[v', .int .i64 (chkM m)]) ∧ sl (encMR m) v' w' ∧ K w w' := by
  refine (WEncodeB_calls m v w h hf).mono ?_
  rintro e w' ⟨v', rfl, hs, k⟩
  exact ⟨v', rfl, bsl_sl hs, k⟩
end Go.Proofs.Ythnhdeieimgfhaa
