/-
  postilionlaw13.WireTells: the walk. Conditions: none.
-/
import Derived.Test.YthnhdeieimgfhaaRnI
import Derived.Test.YthnhdeieimgfhaaWiD
import Derived.Test.YthnhdeieimgfhaaWiJ
import Derived.Test.YthnhdeieimgfhaaWiI
import Derived.Test.YthnhdeieimgfhaaWiOp
set_option maxRecDepth 100000
namespace Go.Proofs.Ythnhdeieimgfhaa
open Go Go.RowKit

theorem fewEn_lit {x : Ent} (h : fewEn x = true) : litEn x := by
  simp only [fewEn, Bool.and_eq_true, decide_eq_true_eq, List.all_eq_true] at h
  obtain ⟨⟨h1, h2⟩, h3⟩ := h
  obtain ⟨h4, h5⟩ := fewF_parts h3
  refine ⟨by omega, fun t ht => by have := (h5 t ht).1; omega, by omega, fun e he => ?_⟩
  have h6 := h2 e he
  simp only [fewE, Bool.and_eq_true, decide_eq_true_eq, List.all_eq_true] at h6
  exact ⟨by omega, fun y hy => by have := (h6.2 y hy).1; omega⟩
theorem fewL_lit {l : List Ent} (h : fewL l = true) : l.length ≤ 1000 ∧ ∀ x ∈ l, litEn x := by
  simp only [fewL, Bool.and_eq_true, decide_eq_true_eq, List.all_eq_true] at h
  exact ⟨by omega, fun s hs => fewEn_lit (h.2 s hs)⟩
theorem fewM_lit {m : Msg} (h : fewM m = true) : litM m := by
  simp only [fewM, Bool.and_eq_true, decide_eq_true_eq] at h
  obtain ⟨⟨⟨⟨⟨h1, h2⟩, h3⟩, h4⟩, h5⟩, h6⟩ := h
  exact ⟨fewL_lit h1, fewL_lit h2, fewL_lit h3, by omega, by omega, by omega⟩

set_option maxHeartbeats 8000000 in
theorem WireTells_walk (v0 : Value) (w : World) (r0 : repMsg w v0) :
    Calls Try.prog 4 #[v0] w fun e w' => e = .returned (.bool true) ∧ Below w.heap.size w w' := by
  obtain ⟨m, hm0, fm⟩ := r0
  have CX := Lib.hid (msv_al hm0)
  obtain ⟨u1, u2, u3, u4, u5, u6, rfl, h1, h2, h3, h4, h5, h6⟩ := hm0
  obtain ⟨A1, Ac1, rfl⟩ := lst_slice h1
  obtain ⟨A2, Ac2, rfl⟩ := lst_slice h2
  obtain ⟨A3, Ac3, rfl⟩ := lst_slice h3
  obtain ⟨A4, Ac4, rfl⟩ := lst_slice h4
  obtain ⟨A5, Ac5, rfl⟩ := lst_slice h5
  obtain ⟨A6, Ac6, rfl⟩ := lst_slice h6
  clear h1 h2 h3 h4 h5 h6
  have FX := Lib.hid fm
  have hx := Blk.new w 28 (msA m (.slice A1 m.votes.length Ac1) (.slice A2 m.asks.length Ac2) (.slice A3 m.entries.length Ac3) (.slice A4 m.prepares.length Ac4) (.slice A5 m.aborts.length Ac5) (.slice A6 m.ends.length Ac6))
  have k1 : K w (w.alloc (.cells (msA m (.slice A1 m.votes.length Ac1) (.slice A2 m.asks.length Ac2) (.slice A3 m.entries.length Ac3) (.slice A4 m.prepares.length Ac4) (.slice A5 m.aborts.length Ac5) (.slice A6 m.ends.length Ac6)) 28)) := (K.rf w).al _
  clear fm
  go_enter Try.func4, Try.ntmps4
  go_wp2_with fail
  generalize w.alloc _ = w1 at *
  generalize w.heap.size = gx at hx ⊢
  have qx := hx.cells
  have kk := K.rf w1
  clear hx
  refine (awakeW_calls w1).mono ?_
  rintro e w2 ⟨rfl, k2⟩
  replace k1 := k1.tr k2
  replace kk := kk.tr k2
  clear k2
  go_wp2_with fail
  refine (WFew_calls m _ w2 (CX.out w2 k1)).mono ?_
  rintro e w3 ⟨rfl, k3⟩
  replace k1 := k1.tr k3
  replace kk := kk.tr k3
  clear k3
  cases hfew : fewM m
  · clear qx
    go_wp2
    go_ret
    exact ⟨rfl, k1⟩
  · have HLT := Lib.hid (fewM_lit hfew)
    clear hfew
    go_wp2_with fail
    refine (WEncode_calls m _ w3 (CX.out w3 k1) FX.out).mono ?_
    rintro e w4 ⟨va, rfl, hsa, k4⟩
    obtain ⟨Ae, ce, rfl, hRa⟩ := hsa
    replace k1 := k1.tr k4
    replace kk := kk.tr k4
    have HSA := Lib.hid (show sl (encMR m) (.slice Ae (encMR m).length ce) w4 from ⟨Ae, ce, rfl, hRa⟩)
    clear k4 hRa
    go_wp2_with fail
    refine (R13Encode_calls m _ w4 (CX.out w4 k1) HLT.out FX.out).mono ?_
    rintro e w5 ⟨vb, rfl, hsb, k5⟩
    obtain ⟨Af, cf, rfl, hRb⟩ := hsb
    replace k1 := k1.tr k5
    replace kk := kk.tr k5
    have HSB := Lib.hid (show sl (encMR m) (.slice Af (encMR m).length cf) w5 from ⟨Af, cf, rfl, hRb⟩)
    have T1 : ∀ W, K w5 W → (convert 30 9 (.slice Ae (encMR m).length ce)).run Try.prog W = .ok (.string ⟨(encMR m).toArray⟩) W := fun W kW => str (sl_st _ _ _ _ HSA.out (k5.tr kW))
    have T2 : ∀ W, K w5 W → (convert 30 9 (.slice Af (encMR m).length cf)).run Try.prog W = .ok (.string ⟨(encMR m).toArray⟩) W := fun W kW => str (sl_st _ _ _ _ HSB.out kW)
    have qx : ∀ W, K w5 W → ∀ i, W.cell? ⟨gx, i, none⟩ = (msA m (.slice A1 m.votes.length Ac1) (.slice A2 m.asks.length Ac2) (.slice A3 m.entries.length Ac3) (.slice A4 m.prepares.length Ac4) (.slice A5 m.aborts.length Ac5) (.slice A6 m.ends.length Ac6))[i]? := fun W kW => qx W (kk.tr kW)
    have CW := Lib.hid fun W (kW : K w5 W) => WCheck_calls m _ W (CX.out W (k1.tr kW))
    have CR := Lib.hid fun W (kW : K w5 W) => R13Chk_calls m _ W (CX.out W (k1.tr kW)) HLT.out
    clear k5 hRb kk
    go_upto_region 6 with (fail)
    refine wp_region_K [isV (.bool true),
        isV (.bool true),
        isV (.slice Ae (encMR m).length ce),
        isV (.string ⟨(encMR m).toArray⟩),
        isV (.slice Af (encMR m).length cf),
        isV (.string ⟨(encMR m).toArray⟩),
        isV (.bool true),
        isV (.bool true),
        isV (.bool true),
        isV (.int .i64 (chkM m)),
        isV (.int .i64 (chkM m)),
        isV (.bool true),
        isV (.bool true),
        isV (.bool true),
        isV (.agg (msA m (.slice A1 m.votes.length Ac1) (.slice A2 m.asks.length Ac2) (.slice A3 m.entries.length Ac3) (.slice A4 m.prepares.length Ac4) (.slice A5 m.aborts.length Ac5) (.slice A6 m.ends.length Ac6))),
        isV (.int .i64 (chkM m)),
        isV (.agg (msA m (.slice A1 m.votes.length Ac1) (.slice A2 m.asks.length Ac2) (.slice A3 m.entries.length Ac3) (.slice A4 m.prepares.length Ac4) (.slice A5 m.aborts.length Ac5) (.slice A6 m.ends.length Ac6))),
        isV (.int .i64 (chkM m)),
        isV (.bool true),
        isV (.bool true),
        isV (.bool true)]
      [([], []), ([0], [(23, 0)]), ([1], []), ([2, 1], [(25, 2)]), ([1], []), ([4, 1], [(27, 4)]), ([3, 5, 1], [(26, 3), (28, 5)]), ([1, 6], [(24, 1), (29, 6)]), ([7], [(30, 7)]), ([8], []), ([8], []), ([9, 10, 8], [(32, 9), (33, 10)]), ([8, 11], [(31, 8), (34, 11)]), ([12], [(35, 12)]), ([13], []), ([14, 13], [(37, 14)]), ([13], []), ([16, 13], [(39, 16)]), ([15, 17, 13], [(38, 15), (40, 17)]), ([13, 18], [(36, 13), (41, 18)]), ([19], [(42, 19)])] 43 rfl (by kernel_rfl) (by kernel_rfl) (by kernel_rfl) ?st6 ?ow6 ?_
    case st6 =>
      simp only [List.forall_mem_cons]
      and_intros
      all_goals first | exact isV_st _ | exact sl_st _ | exact anyV_st | simp
    case ow6 =>
      simp only [OwedQ]
      and_intros
      all_goals try trivial
      all_goals
        intro V W kW hp
        try simp only [List.forall_mem_cons, tab_zero, tab_succ, isV] at hp
        try simp [wantsG, rhoP, List.lookup, hp, tab_zero, tab_succ, ResG, execOp, bareOp, isV, Below.refl, kW, qx, T1, T2, go_sem]
      all_goals first | exact ⟨rfl, rfl, rfl⟩ | (with_reducible refine (CW.out W kW).mono ?_; rintro e w2 ⟨rfl, k⟩; exact ⟨_, rfl, rfl, k⟩) | (with_reducible refine (CR.out W kW).mono ?_; rintro e w2 ⟨rfl, k⟩; exact ⟨_, rfl, rfl, k⟩)
    intro V W kW hp
    have h9 := hp 20 (by simp)
    simp only [tab_zero, tab_succ, isV] at h9
    clear hp
    simp only [putAll, Act.put, List.setIfInBounds_toArray, List.set_cons_succ, List.set_cons_zero, h9]
    have kF := k1.tr kW
    clear h9 qx T1 T2 CW CR kW
    go_wp2
    go_ret
    exact ⟨rfl, kF⟩
end Go.Proofs.Ythnhdeieimgfhaa
