/-
  The walk of FoldBegins (layer 16). Conditions: none.
-/
import Derived.Test.YthnhdeieimgfhaaFoV
set_option maxRecDepth 100000
namespace Go.Proofs.Ythnhdeieimgfhaa
open Go Go.RowKit

theorem lst_takeF {α : Type} {S : Shp α} {l : List α} {A : Option Addr} {c : Nat} {w : World} (h : lst S l (.slice A l.length c) w) (r : Nat) (hr : r ≤ l.length) : lst S (l.take r) (.slice A r c) w := by
  obtain ⟨A', c', e, ⟨css, hE, hR⟩, hc⟩ := h
  injection e with e1 _ e3
  subst e1 e3
  have hl : (l.take r).length = r := by simp; omega
  refine ⟨A, c, by rw [hl], ⟨css.take r, hE.take r, ?_⟩, by rw [hl]; omega⟩
  rw [hl, flatten_take_n8 css hE.lens r]
  have hfl := hE.flen
  refine ⟨by rw [List.length_take, hfl]; exact Nat.min_eq_left (Nat.mul_le_mul_right _ hr), fun h0 => ?_⟩
  obtain ⟨g, off, e, hg, hcell⟩ := hR.2 (by rw [List.length_take] at h0; omega)
  refine ⟨g, off, e, hg, fun j u hj => hcell j u ?_⟩
  rw [List.getElem?_take] at hj
  split at hj
  · exact hj
  · cases hj
/-- The place at which the records are cut. -/
theorem cut_place (m len : Nat) (hm : m ≤ 9223372036854775807) (hl : len ≤ 9223372036854775807) : ∃ k : Nat, k ≤ len ∧ (m : Int).tmod (IntKind.i64.wrap ((len : Int) + 1)) = (k : Int) ∧ ¬ IntKind.i64.wrap ((len : Int) + 1) = 0 := by
  by_cases h : len = 9223372036854775807
  · subst h
    have e : IntKind.i64.wrap (((9223372036854775807 : Nat) : Int) + 1) = -9223372036854775808 := by decide
    rw [e]
    refine ⟨m, hm, ?_, by decide⟩
    rw [Int.tmod_neg, Int.tmod_eq_of_lt (by omega) (by omega)]
  · have e : IntKind.i64.wrap ((len : Int) + 1) = (len : Int) + 1 := by rw [IntKind.wrap_i64]; omega
    rw [e]
    refine ⟨m % (len + 1), by have := Nat.mod_lt m (show 0 < len + 1 by omega); omega, ?_, by omega⟩
    rw [Int.tmod_eq_emod_of_nonneg (Int.natCast_nonneg m)]
    simp

set_option maxHeartbeats 4000000 in
theorem FoldBegins_walk (v0 v1 : Value) (w : World) (r0 : repRecs w v0) (r1 : repI64 w v1) :
    Calls Try.prog 12 #[v0, v1] w fun e w' => e = .returned (.bool true) ∧ Below w.heap.size w w' := by
  obtain ⟨l, hl, hf, hlen⟩ := r0
  obtain ⟨n, rfl, hn1, hn2⟩ := r1
  obtain ⟨A, c, rfl⟩ := lst_slice hl
  have hlc0 : l.length ≤ c := by obtain ⟨A', c', e, -, hc⟩ := hl; injection e with _ _ e3; omega
  have HLL := Lib.hid hl
  have HFF := Lib.hid hf
  clear hl hf
  go_enter Try.func12, Try.ntmps12
  go_wp2_with fail
  refine (FAwake_calls w).mono ?_
  rintro e w1 ⟨rfl, k1⟩
  go_upto_if 14 with (fail)
  go_cut [1] from 15 to 17 (fun v W => (∃ m : Nat, v = .int .i64 (m : Int) ∧ m ≤ 9223372036854775807) ∧ w1 = W)
  case first =>
    by_cases hn : n < 0
    · go_wp2
      go_meet
      case rel => exact ⟨⟨(-(n + 1)).toNat, by go_num, by omega⟩, rfl⟩
    · go_wp2
      go_meet
      case rel => exact ⟨⟨n.toNat, by congr 1; omega, by omega⟩, rfl⟩
  case rest =>
  obtain ⟨⟨m, rfl, hm⟩, rfl⟩ := hcut
  obtain ⟨k, hk, hkm, hz⟩ := cut_place m l.length hm hlen
  generalize hL1 : IntKind.i64.wrap ((l.length : Int) + 1) = L1 at *
  have hki : (k : Int) ≤ (l.length : Int) := by omega
  have hkc : (k : Int) ≤ (c : Int) := by omega
  have hkc2 : k ≤ c := by omega
  have C1 := Lib.hid fun W (kW : K w W) => Made_calls (l.take k) _ W (lst_st (lst_takeF HLL.out k hk) kW) (fun r hr => HFF.out r (List.mem_of_mem_take hr)) (by simp; omega)
  have C2 := Lib.hid fun W (kW : K w W) => Made_calls l _ W (lst_st HLL.out kW) HFF.out hlen
  have hle := leS_made l k
  have hsa := made_small (l.take k)
  have hza := made_len (l.take k)
  have hsb := made_small l
  have hzb := made_len l
  generalize madeS (l.take k) = MA at *
  generalize madeS l = MB at *
  have HLE := Lib.hid hle
  have HSB := Lib.hid hsb
  clear HLL HFF hle hsa hsb
  go_wp2_with fail
  refine (C1.out w1 k1).mono ?_
  rintro e w2 ⟨v, rfl, hs, k2⟩
  obtain ⟨vl, vp, va, rfl, hl, hp, ha⟩ := hs
  obtain ⟨Al, cl, rfl⟩ := lst_slice hl
  obtain ⟨Ap, cp, rfl⟩ := lst_slice hp
  obtain ⟨Aa, ca, rfl⟩ := lst_slice ha
  have hb := Blk.new w2 43 (stA MA (.slice Al MA.list.length cl) (.slice Ap MA.prom.length cp) (.slice Aa MA.ab.length ca))
  have ka : K w2 (w2.alloc (.cells (stA MA (.slice Al MA.list.length cl) (.slice Ap MA.prom.length cp) (.slice Aa MA.ab.length ca)) 43)) := (K.rf _).al _
  have q1 := hb.cells
  have HAL := Lib.hid fun W (k : K w2 W) => lst_st hl k
  have HAA := Lib.hid fun W (k : K w2 W) => lst_st ha k
  replace k1 := k1.tr (k2.tr ka)
  clear hl hp ha hb C1 k2
  go_wp2_with fail
  generalize w2.alloc _ = w3 at *
  generalize w2.heap.size = g1 at q1 ⊢
  refine (C2.out w3 k1).mono ?_
  rintro e w4 ⟨v, rfl, hs, k4⟩
  obtain ⟨vl, vp, va, rfl, hl, hp, ha⟩ := hs
  obtain ⟨Bl, dl, rfl⟩ := lst_slice hl
  obtain ⟨Bp, dp, rfl⟩ := lst_slice hp
  obtain ⟨Ba, da, rfl⟩ := lst_slice ha
  have hlc : MB.list.length ≤ dl := by obtain ⟨A', c', e, -, hc⟩ := hl; injection e with _ _ e3; omega
  have hac : MB.ab.length ≤ da := by obtain ⟨A', c', e, -, hc⟩ := ha; injection e with _ _ e3; omega
  have hb := Blk.new w4 43 (stA MB (.slice Bl MB.list.length dl) (.slice Bp MB.prom.length dp) (.slice Ba MB.ab.length da))
  have kb : K w4 (w4.alloc (.cells (stA MB (.slice Bl MB.list.length dl) (.slice Bp MB.prom.length dp) (.slice Ba MB.ab.length da)) 43)) := (K.rf _).al _
  have q2 := hb.cells
  have HBL := Lib.hid fun W (k : K w4 W) => lst_st hl k
  have HBA := Lib.hid fun W (k : K w4 W) => lst_st ha k
  replace k1 := k1.tr (k4.tr kb)
  have q1 : ∀ W, K (w4.alloc (.cells (stA MB (.slice Bl MB.list.length dl) (.slice Bp MB.prom.length dp) (.slice Ba MB.ab.length da)) 43)) W → ∀ i, W.cell? ⟨g1, i, none⟩ = (stA MA (.slice Al MA.list.length cl) (.slice Ap MA.prom.length cp) (.slice Aa MA.ab.length ca))[i]? := fun W kW => q1 W (k4.tr (kb.tr kW))
  have C8 := Lib.hid fun W (kW : K (w4.alloc (.cells (stA MB (.slice Bl MB.list.length dl) (.slice Bp MB.prom.length dp) (.slice Ba MB.ab.length da)) 43)) W) =>
    WSameEntries_calls (MB.list.take MA.list.length) MA.list _ _ W (lst_takeF (HBL.out W (kb.tr kW)) MA.list.length (HLE.out.1.length_le)) (HAL.out W (ka.tr (k4.tr (kb.tr kW)))) (fun x hx => HSB.out.1 x (List.mem_of_mem_take hx)) (by simp; omega)
  rw [show decide (MB.list.take MA.list.length = MA.list) = true by rw [pre_take HLE.out.1]; simp] at C8
  have C9 := Lib.hid fun W (kW : K (w4.alloc (.cells (stA MB (.slice Bl MB.list.length dl) (.slice Bp MB.prom.length dp) (.slice Ba MB.ab.length da)) 43)) W) =>
    WSameIDs_calls (MB.ab.take MA.ab.length) MA.ab _ _ W (lst_takeF (HBA.out W (kb.tr kW)) MA.ab.length (HLE.out.2.1.length_le)) (HAA.out W (ka.tr (k4.tr (kb.tr kW)))) (by simp; omega)
  rw [show decide (MB.ab.take MA.ab.length = MA.ab) = true by rw [pre_take HLE.out.2.1]; simp] at C9
  have hld : MA.list.length ≤ dl := by have := HLE.out.1.length_le; omega
  have had : MA.ab.length ≤ da := by have := HLE.out.2.1.length_le; omega
  have hlei : (MA.list.length : Int) ≤ (MB.list.length : Int) := by have := HLE.out.1.length_le; omega
  have haei : (MA.ab.length : Int) ≤ (MB.ab.length : Int) := by have := HLE.out.2.1.length_le; omega
  have hlif : (MA.life : Int) ≤ (MB.life : Int) := by have := HLE.out.2.2; omega
  have hn1' : ¬ (MB.list.length : Int) < (MA.list.length : Int) := by omega
  have hn2' : ¬ (MB.ab.length : Int) < (MA.ab.length : Int) := by omega
  have hn3' : ¬ (MB.life : Int) < (MA.life : Int) := by omega
  have kk := K.rf (w4.alloc (.cells (stA MB (.slice Bl MB.list.length dl) (.slice Bp MB.prom.length dp) (.slice Ba MB.ab.length da)) 43))
  clear hl hp ha hb C2 k4 kb ka HBL HBA HAL HAA HSB
  go_upto_region 10 with (fail)
  generalize w4.alloc _ = w5 at *
  generalize w4.heap.size = g2 at q2 ⊢
  refine wp_region_K [isV (.pointer (some ⟨g2, 1, none⟩)),
      isV (.slice Bl MB.list.length dl),
      isV (.pointer (some ⟨g1, 1, none⟩)),
      isV (.slice Al MA.list.length cl),
      isV (.int .i64 ((MA.list.length : Int))),
      isV (.slice Bl MA.list.length dl),
      isV (.pointer (some ⟨g1, 1, none⟩)),
      isV (.slice Al MA.list.length cl),
      isV (.bool true),
      isV (.bool true)]
    [([], []), ([0], [(51, 0)]), ([], []), ([2], [(53, 2)]), ([3], [(54, 3)]), ([1, 4], [(52, 1), (55, 4)]), ([], []), ([6], [(57, 6)]), ([5, 7], [(56, 5), (58, 7)]), ([8], [(59, 8)])] 73 rfl (by kernel_rfl) (by kernel_rfl) (by kernel_rfl) ?st10 ?ow10 ?_
  case st10 =>
    simp only [List.forall_mem_cons]
    and_intros
    all_goals first | exact isV_st _ | exact sl_st _ | exact anyV_st | simp
  case ow10 =>
    simp only [OwedQ]
    and_intros
    all_goals try trivial
    all_goals
      intro V W kW hp
      try simp only [List.forall_mem_cons, tab_zero, tab_succ, isV] at hp
      try simp [wantsG, rhoP, List.lookup, hp, tab_zero, tab_succ, ResG, execOp, bareOp, isV, Below.refl, kW, q1, q2, hld, go_sem]
    all_goals first | exact ⟨rfl, rfl, rfl⟩ | (refine (C8.out W (kk.tr kW)).mono ?_; rintro e w2 ⟨rfl, k⟩; exact ⟨_, rfl, rfl, k⟩)
  intro V W kW hp
  have h9 := hp 9 (by simp)
  simp only [tab_zero, tab_succ, isV] at h9
  clear hp
  simp only [putAll, Act.put, List.setIfInBounds_toArray, List.set_cons_succ, List.set_cons_zero, h9]
  replace kk := kk.tr kW
  replace k1 := k1.tr kW
  clear h9 kW
  go_upto_region 11 with (fail)
  have q1 : ∀ W', K W W' → ∀ i, W'.cell? ⟨g1, i, none⟩ = (stA MA (.slice Al MA.list.length cl) (.slice Ap MA.prom.length cp) (.slice Aa MA.ab.length ca))[i]? := fun W' kW => q1 W' (kk.tr kW)
  have q2 : ∀ W', K W W' → ∀ i, W'.cell? ⟨g2, i, none⟩ = (stA MB (.slice Bl MB.list.length dl) (.slice Bp MB.prom.length dp) (.slice Ba MB.ab.length da))[i]? := fun W' kW => q2 W' (kk.tr kW)
  generalize W = w6 at *
  refine wp_region_K [isV (.pointer (some ⟨g2, 3, none⟩)),
      isV (.slice Ba MB.ab.length da),
      isV (.pointer (some ⟨g1, 3, none⟩)),
      isV (.slice Aa MA.ab.length ca),
      isV (.int .i64 ((MA.ab.length : Int))),
      isV (.slice Ba MA.ab.length da),
      isV (.pointer (some ⟨g1, 3, none⟩)),
      isV (.slice Aa MA.ab.length ca),
      isV (.bool true),
      isV (.bool true)]
    [([], []), ([0], [(60, 0)]), ([], []), ([2], [(62, 2)]), ([3], [(63, 3)]), ([1, 4], [(61, 1), (64, 4)]), ([], []), ([6], [(66, 6)]), ([5, 7], [(65, 5), (67, 7)]), ([8], [(68, 8)])] 73 rfl (by kernel_rfl) (by kernel_rfl) (by kernel_rfl) ?st11 ?ow11 ?_
  case st11 =>
    simp only [List.forall_mem_cons]
    and_intros
    all_goals first | exact isV_st _ | exact sl_st _ | exact anyV_st | simp
  case ow11 =>
    simp only [OwedQ]
    and_intros
    all_goals try trivial
    all_goals
      intro V W kW hp
      try simp only [List.forall_mem_cons, tab_zero, tab_succ, isV] at hp
      try simp [wantsG, rhoP, List.lookup, hp, tab_zero, tab_succ, ResG, execOp, bareOp, isV, Below.refl, kW, q1, q2, had, go_sem]
    all_goals first | exact ⟨rfl, rfl, rfl⟩ | (refine (C9.out W (kk.tr kW)).mono ?_; rintro e w2 ⟨rfl, k⟩; exact ⟨_, rfl, rfl, k⟩)
  intro V W kW hp
  have h9 := hp 9 (by simp)
  simp only [tab_zero, tab_succ, isV] at h9
  clear hp
  simp only [putAll, Act.put, List.setIfInBounds_toArray, List.set_cons_succ, List.set_cons_zero, h9]
  replace k1 := k1.tr kW
  clear h9 kW C8 C9 q1 q2 kk
  go_wp2
  go_ret
  exact ⟨rfl, k1⟩
end Go.Proofs.Ythnhdeieimgfhaa
