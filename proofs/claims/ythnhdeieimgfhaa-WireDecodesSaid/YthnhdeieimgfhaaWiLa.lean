/-
  The walks of SameEntries and SameIDs of the document's answer of layer 13. Conditions: the first lists are small.
-/
import Derived.Test.YthnhdeieimgfhaaNA
import Derived.Test.YthnhdeieimgfhaaLstB
set_option maxRecDepth 100000
namespace Go.Proofs.Ythnhdeieimgfhaa
open Go Go.RowKit

abbrev idAr (a : Idn) : Array Value := #[.int .i64 a.1, .int .u64 (a.2.1 : Int), .int .u64 (a.2.2 : Int)]

set_option maxHeartbeats 4000000 in
theorem WSameEntries_calls (la lb : List Ent) (v u : Value) (w : World) (h : lst enS la v w) (k : lst enS lb u w) (hs : ∀ s ∈ la, smallEn s) (hlen : la.length ≤ 1000000) :
    Calls Try.prog 29 #[v, u] w fun e w' => e = .returned (.bool (decide (la = lb))) ∧ K w w' := by
  obtain ⟨D1, d1, rfl, he1, hd1⟩ := h
  obtain ⟨D2, d2, rfl, he2, hd2⟩ := k
  have HS := Lib.hid hs
  clear hs
  obtain ⟨R, hR0⟩ : ∃ R, R = decide (la = lb) := ⟨_, rfl⟩
  rw [← hR0]
  have HI : Hid (R = decide (la = lb)) := Lib.hid hR0
  clear hR0
  go_enter Try.func29, Try.ntmps29
  by_cases hle : la.length = lb.length
  rotate_left
  · have HR : Hid (R = false) := Lib.hid (by rw [HI.out]; simp; exact fun e => hle (by rw [e]))
    have hle' : ((la.length : Int) != (lb.length : Int)) = true := by simp; omega
    go_wp2
    go_ret
    exact ⟨by rw [HR.out]; rfl, K.rf w⟩
  have hle' : ((la.length : Int) != (lb.length : Int)) = false := by simp; omega
  have HLE := Lib.hid hle
  have kk := K.rf w
  clear hle
  go_wp2_with fail
  go_loopw [5, 6] (fun i _ wr => ∃ j : Nat, j ≤ la.length ∧ i = .int .i64 (j : Int) ∧ Hid (la.take j = lb.take j) ∧ K w wr) (fun i _ _ => la.length - (intOf i).toNat)
  case atStart => exact ⟨0, by omega, rfl, Lib.hid (by simp), kk⟩
  case round =>
    clear kk
    obtain ⟨j, hj, rfl, HT, kr⟩ := hrel
    by_cases hlt : j < la.length
    · have hji : (j : Int) < (la.length : Int) := by omega
      have hlt2 : j < lb.length := by have := HLE.out; omega
      have hlt2i : (j : Int) < (lb.length : Int) := by omega
      have HB := Lib.hid (take_eq_succ' la lb j hlt hlt2 HT.out)
      have hsz := HS.out _ (List.getElem_mem hlt)
      obtain ⟨b1, o1, cs1, rfl, hcl1, hr1, d0, d⟩ := lsr_cells he1 j hlt (by decide)
      obtain ⟨b2, o2, cs2, rfl, hcl2, hr2, f0, f⟩ := lsr_cells he2 j hlt2 (by decide)
      generalize la[j] = x at *
      generalize lb[j] = y at *
      obtain ⟨vf1, ve1, rfl, hf1, hv1⟩ := hr1 w (K.rf w)
      obtain ⟨vf2, ve2, rfl, hf2, hv2⟩ := hr2 w (K.rf w)
      have p10 : ∀ W, K wr W → W.cell? ⟨b1, o1 + j * 8, none⟩ = some (.int .i64 x.kind) := fun W kW => d0 W (kr.tr kW)
      have p1 : ∀ W, K wr W → ∀ i, i < 8 → W.cell? ⟨b1, o1 + j * 8 + i, none⟩ = (entA x vf1 ve1)[i]? := fun W kW i hi => (d W (kr.tr kW) i hi).trans Array.getElem?_toList
      have p20 : ∀ W, K wr W → W.cell? ⟨b2, o2 + j * 8, none⟩ = some (.int .i64 y.kind) := fun W kW => f0 W (kr.tr kW)
      have p2 : ∀ W, K wr W → ∀ i, i < 8 → W.cell? ⟨b2, o2 + j * 8 + i, none⟩ = (entA y vf2 ve2)[i]? := fun W kW i hi => (f W (kr.tr kW) i hi).trans Array.getElem?_toList
      have CS := Lib.hid fun W (kW : K w W) => ESame_calls x y (.agg (entA x vf1 ve1)) (.agg (entA y vf2 ve2)) W ⟨_, _, rfl, flt_st _ _ _ _ hf1 kW, lst_st hv1 kW⟩ ⟨_, _, rfl, flt_st _ _ _ _ hf2 kW, lst_st hv2 kW⟩ hsz
      clear hf1 hv1 hf2 hv2
      clear hcl1 hcl2 hr1 hr2 d0 d f0 f
      go_upto_region 6 with (fail)
      refine wp_region_K [isV (.slice (some ⟨b1, o1, none⟩) la.length d1),
          isV (.int .i64 ((j : Int))),
          isV (.pointer (some ⟨b1, o1 + j * 8, none⟩)),
          isV (.agg (entA x vf1 ve1)),
          isV (.slice (some ⟨b2, o2, none⟩) lb.length d2),
          isV (.int .i64 ((j : Int))),
          isV (.pointer (some ⟨b2, o2 + j * 8, none⟩)),
          isV (.agg (entA y vf2 ve2)),
          isV (.bool (decide (x = y))),
          isV (.bool (decide (x = y)))]
        [([], []), ([], []), ([0, 1], [(18, 0), (19, 1)]), ([2], [(20, 2)]), ([], []), ([], []), ([4, 5], [(22, 4), (23, 5)]), ([6], [(24, 6)]), ([3, 7], [(21, 3), (25, 7)]), ([8], [(26, 8)])] 29 rfl (by kernel_rfl) (by kernel_rfl) (by kernel_rfl) ?st6 ?ow6 ?_
      case st6 =>
        simp only [List.forall_mem_cons]
        and_intros
        all_goals first | exact isV_st _ | exact sl_st _ | exact anyV_st | simp
      case ow6 =>
        simp only [OwedQ]
        and_intros
        all_goals try trivial
        all_goals
          intro V W kW hp
          try simp only [List.forall_mem_cons, tab_zero, tab_succ, isV] at hp
          try simp [wantsG, rhoP, List.lookup, hp, tab_zero, tab_succ, ResG, execOp, bareOp, isV, Below.refl, kW, p10, p1, p20, p2, hji, hlt2i, go_sem]
        refine (CS.out _ (kr.tr kW)).mono ?_
        rintro e w'' ⟨rfl, hb⟩
        exact ⟨_, rfl, rfl, hb⟩
      intro V W kW hp
      have h9 := hp 9 (by simp)
      simp only [tab_zero, tab_succ, isV] at h9
      clear hp
      simp only [putAll, Act.put, List.setIfInBounds_toArray, List.set_cons_succ, List.set_cons_zero, h9]
      have krW := kr.tr kW
      generalize hq : decide (x = y) = q at *
      have HQ := Lib.hid hq
      clear hq h9 p10 p1 p20 p2
      cases q
      · have HR : Hid (R = false) := Lib.hid (by
          rw [HI.out]
          simp only [decide_eq_false_iff_not]
          rintro rfl
          exact of_decide_eq_false HQ.out (HB.out.1 rfl))
        go_wp2
        go_ret
        exact ⟨by rw [HR.out]; rfl, krW⟩
      · have HT2 : Hid (la.take (j + 1) = lb.take (j + 1)) := Lib.hid (HB.out.2 (of_decide_eq_true HQ.out))
        go_wp2
        go_roundw
        case rel => exact ⟨j + 1, by omega, by go_num, HT2, krW⟩
        case measure => simp [intOf]; omega
    · have hji : ¬ (j : Int) < (la.length : Int) := by omega
      have HR : Hid (R = true) := Lib.hid (by
        have h1 := HT.out
        have h2 := HLE.out
        rw [List.take_of_length_le (by omega), List.take_of_length_le (by omega)] at h1
        rw [HI.out, h1]; simp)
      go_wp2
      go_ret
      exact ⟨by rw [HR.out]; rfl, kr⟩

set_option maxHeartbeats 4000000 in
theorem WSameIDs_calls (la lb : List Idn) (v u : Value) (w : World) (h : lst idS la v w) (k : lst idS lb u w) (hlen : la.length ≤ 1000000) :
    Calls Try.prog 30 #[v, u] w fun e w' => e = .returned (.bool (decide (la = lb))) ∧ K w w' := by
  obtain ⟨D1, d1, rfl, he1, hd1⟩ := h
  obtain ⟨D2, d2, rfl, he2, hd2⟩ := k
  obtain ⟨R, hR0⟩ : ∃ R, R = decide (la = lb) := ⟨_, rfl⟩
  rw [← hR0]
  have HI : Hid (R = decide (la = lb)) := Lib.hid hR0
  clear hR0
  go_enter Try.func30, Try.ntmps30
  by_cases hle : la.length = lb.length
  rotate_left
  · have HR : Hid (R = false) := Lib.hid (by rw [HI.out]; simp; exact fun e => hle (by rw [e]))
    have hle' : ((la.length : Int) != (lb.length : Int)) = true := by simp; omega
    go_wp2
    go_ret
    exact ⟨by rw [HR.out]; rfl, K.rf w⟩
  have hle' : ((la.length : Int) != (lb.length : Int)) = false := by simp; omega
  have HLE := Lib.hid hle
  have kk := K.rf w
  clear hle
  go_wp2_with fail
  go_loopw [5] (fun i wr => ∃ j : Nat, j ≤ la.length ∧ i = .int .i64 (j : Int) ∧ Hid (la.take j = lb.take j) ∧ K w wr) (fun i _ => la.length - (intOf i).toNat)
  case atStart => exact ⟨0, by omega, rfl, Lib.hid (by simp), kk⟩
  case round =>
    clear kk
    obtain ⟨j, hj, rfl, HT, kr⟩ := hrel
    by_cases hlt : j < la.length
    · have hji : (j : Int) < (la.length : Int) := by omega
      have hlt2 : j < lb.length := by have := HLE.out; omega
      have hlt2i : (j : Int) < (lb.length : Int) := by omega
      have HB := Lib.hid (take_eq_succ' la lb j hlt hlt2 HT.out)
      obtain ⟨b1, o1, cs1, rfl, hcl1, hr1, d0, d⟩ := lsr_cells he1 j hlt (by decide)
      obtain ⟨b2, o2, cs2, rfl, hcl2, hr2, f0, f⟩ := lsr_cells he2 j hlt2 (by decide)
      generalize la[j] = x at *
      generalize lb[j] = y at *
      obtain rfl := hr1 w (K.rf w)
      obtain rfl := hr2 w (K.rf w)
      have p10 : ∀ W, K wr W → W.cell? ⟨b1, o1 + j * 3, none⟩ = some (.int .i64 x.1) := fun W kW => d0 W (kr.tr kW)
      have p1 : ∀ W, K wr W → ∀ i, i < 3 → W.cell? ⟨b1, o1 + j * 3 + i, none⟩ = (idAr x)[i]? := fun W kW i hi => (d W (kr.tr kW) i hi).trans Array.getElem?_toList
      have p20 : ∀ W, K wr W → W.cell? ⟨b2, o2 + j * 3, none⟩ = some (.int .i64 y.1) := fun W kW => f0 W (kr.tr kW)
      have p2 : ∀ W, K wr W → ∀ i, i < 3 → W.cell? ⟨b2, o2 + j * 3 + i, none⟩ = (idAr y)[i]? := fun W kW i hi => (f W (kr.tr kW) i hi).trans Array.getElem?_toList
      clear hcl1 hcl2 hr1 hr2 d0 d f0 f
      go_upto_region 6 with (fail)
      refine wp_region_K [isV (.slice (some ⟨b1, o1, none⟩) la.length d1),
          isV (.int .i64 ((j : Int))),
          isV (.pointer (some ⟨b1, o1 + j * 3, none⟩)),
          isV (.agg (idAr x)),
          isV (.slice (some ⟨b2, o2, none⟩) lb.length d2),
          isV (.int .i64 ((j : Int))),
          isV (.pointer (some ⟨b2, o2 + j * 3, none⟩)),
          isV (.agg (idAr y)),
          isV (.bool (!decide (x = y)))]
        [([], []), ([], []), ([0, 1], [(17, 0), (18, 1)]), ([2], [(19, 2)]), ([], []), ([], []), ([4, 5], [(21, 4), (22, 5)]), ([6], [(23, 6)]), ([3, 7], [(20, 3), (24, 7)])] 26 rfl (by kernel_rfl) (by kernel_rfl) (by kernel_rfl) ?st6 ?ow6 ?_
      case st6 =>
        simp only [List.forall_mem_cons]
        and_intros
        all_goals first | exact isV_st _ | exact sl_st _ | exact anyV_st | simp
      case ow6 =>
        simp only [OwedQ]
        and_intros
        all_goals try trivial
        all_goals
          intro V W kW hp
          try simp only [List.forall_mem_cons, tab_zero, tab_succ, isV] at hp
          try simp [wantsG, rhoP, List.lookup, hp, tab_zero, tab_succ, ResG, execOp, bareOp, isV, Below.refl, kW, p10, p1, p20, p2, hji, hlt2i, go_sem]
        by_cases h1 : x.1 = y.1
        · by_cases h2 : (x.2.1 : Int) = (y.2.1 : Int)
          · by_cases h3 : (x.2.2 : Int) = (y.2.2 : Int)
            · rw [show decide (x = y) = true from decide_eq_true (Prod.ext h1 (Prod.ext (Int.ofNat_inj.1 h2) (Int.ofNat_inj.1 h3)))]
              simp only [h1, h2, h3, if_true, Bool.not_true]; first | exact ⟨trivial, Below.refl _ _⟩ | exact ⟨rfl, Below.refl _ _⟩
            · rw [show decide (x = y) = false from decide_eq_false (fun e => h3 (by rw [e]))]
              simp only [h1, h2, h3, if_true, if_false, Bool.not_false]; first | exact ⟨trivial, Below.refl _ _⟩ | exact ⟨rfl, Below.refl _ _⟩
          · rw [show decide (x = y) = false from decide_eq_false (fun e => h2 (by rw [e]))]
            simp only [h1, h2, if_true, if_false, Bool.not_false]; first | exact ⟨trivial, Below.refl _ _⟩ | exact ⟨rfl, Below.refl _ _⟩
        · rw [show decide (x = y) = false from decide_eq_false (fun e => h1 (by rw [e]))]
          simp only [h1, if_false, Bool.not_false]; first | exact ⟨trivial, Below.refl _ _⟩ | exact ⟨rfl, Below.refl _ _⟩
      intro V W kW hp
      have h9 := hp 8 (by simp)
      simp only [tab_zero, tab_succ, isV] at h9
      clear hp
      simp only [putAll, Act.put, List.setIfInBounds_toArray, List.set_cons_succ, List.set_cons_zero, h9]
      have krW := kr.tr kW
      generalize hq : decide (x = y) = q at *
      have HQ := Lib.hid hq
      clear hq h9 p10 p1 p20 p2
      cases q
      · have HR : Hid (R = false) := Lib.hid (by
          rw [HI.out]
          simp only [decide_eq_false_iff_not]
          rintro rfl
          exact of_decide_eq_false HQ.out (HB.out.1 rfl))
        go_wp2
        go_ret
        exact ⟨by rw [HR.out]; rfl, krW⟩
      · have HT2 : Hid (la.take (j + 1) = lb.take (j + 1)) := Lib.hid (HB.out.2 (of_decide_eq_true HQ.out))
        go_wp2
        go_roundw
        case rel => exact ⟨j + 1, by omega, by go_num, HT2, krW⟩
        case measure => simp [intOf]; omega
    · have hji : ¬ (j : Int) < (la.length : Int) := by omega
      have HR : Hid (R = true) := Lib.hid (by
        have h1 := HT.out
        have h2 := HLE.out
        rw [List.take_of_length_le (by omega), List.take_of_length_le (by omega)] at h1
        rw [HI.out, h1]; simp)
      go_wp2
      go_ret
      exact ⟨by rw [HR.out]; rfl, kr⟩
end Go.Proofs.Ythnhdeieimgfhaa
