/-
  The walks of entry.Pack and entry.Unpack (layer 11). Conditions: none.
-/
import Derived.Test.YtjcdgbnbaiebdaaEnG
set_option maxRecDepth 100000
namespace Go.Proofs.Ytjcdgbnbaiebdaa
open Go Go.RowKit

def chkRec (x : Rec) : Int := if okRec x then 0 else 110
def encRecR (x : Rec) : List UInt8 := if okRec x then encRec x else []
theorem encRec_23 {x : Rec} (h : x.kind = 2 ∨ x.kind = 3) : encRec x = packN (kindN x.kind) ++ packN x.n ++ packB (encEn x.e) := by unfold encRec; rw [if_pos h]; simp
theorem encRec_45 {x : Rec} (h : x.kind = 4 ∨ x.kind = 5) : encRec x = packN (kindN x.kind) ++ packN x.n ++ encId (x.br, x.life, x.ser) := by
  unfold encRec encId; rw [if_neg (by omega), if_pos h]; simp
theorem encRec_1 {x : Rec} (h : x.kind = 1) : encRec x = packN (kindN x.kind) ++ packN x.n := by unfold encRec; rw [if_neg (by omega), if_neg (by omega)]; simp

set_option maxHeartbeats 4000000 in
theorem Pack_calls (x : Rec) (v : Value) (w : World) (h : rcd x v w) (hfit : fitRec x) :
    Calls Try.prog 29 #[v] w fun e w' =>
      ∃ v', e = .returned (.tuple #[v', .int .i64 (chkRec x)]) ∧ sl (encRecR x) v' w' ∧ K w w' := by
  have HC := Lib.hid fun W h => May_calls x v W h
  have h' := h
  obtain ⟨vf, ve, rfl, hf, he⟩ := h
  have hx := Blk.new w 61 (recA x vf ve)
  have k1 : K w (w.alloc (.cells (recA x vf ve) 61)) := (K.rf w).al _
  have HEn := Lib.hid (rcd_al h')
  clear h'
  obtain ⟨hik, hin, hfe, hib, hil, his⟩ := hfit
  cases hok : okRec x
  · have HE : Hid (chkRec x = 110) := Lib.hid (by simp [chkRec, hok])
    have HR : Hid (encRecR x = []) := Lib.hid (by simp [encRecR, hok])
    rw [hok] at HC
    clear hok
    go_enter Try.func29, Try.ntmps29
    go_wp2_with fail
    generalize w.alloc _ = w1 at *
    refine (HC.out _ (HEn.out _ k1)).mono ?_
    rintro e w2 ⟨rfl, k2⟩
    go_wp2
    go_ret2
    exact ⟨_, by rw [HE.out]; rfl, by rw [HR.out]; exact sl_nil _, k1.tr k2⟩
  have HE : Hid (chkRec x = 0) := Lib.hid (by simp [chkRec, hok])
  have HR : Hid (encRecR x = encRec x) := Lib.hid (by simp [encRecR, hok])
  have hkk := okRec_kind hok
  rw [hok] at HC
  have H1 := Lib.hid fun h => encRec_1 (x := x) h
  have H2 := Lib.hid fun h => encRec_23 (x := x) h
  have H4 := Lib.hid fun h => encRec_45 (x := x) h
  clear hok
  obtain ⟨k, n, x, b, l, s⟩ := x
  simp only at hx k1 hf he hik hin hfe hib hil his hkk HE HR HC HEn H1 H2 H4 ⊢
  generalize encRecR ⟨k, n, x, b, l, s⟩ = R at *
  generalize encRec ⟨k, n, x, b, l, s⟩ = E at *
  generalize chkRec ⟨k, n, x, b, l, s⟩ = C at *
  have he0 : ∀ W, K w W → ent x (.agg (entA x vf ve)) W := fun W k => ⟨vf, ve, rfl, flt_st _ _ _ _ hf k, lst_st he k⟩
  have hk5 : k = 1 ∨ (k = 2 ∨ k = 3) ∨ k = 4 ∨ k = 5 := by omega
  have hoe : k = 2 ∨ k = 3 → okEn x = true := by
    intro hk
    rcases hkk with h | h | h
    · omega
    · exact h.2.1
    · omega
  clear hkk
  go_enter Try.func29, Try.ntmps29
  go_wp2_with fail
  generalize w.alloc _ = w1 at *
  generalize w.heap.size = g at hx ⊢
  have qx := hx.cells
  refine (HC.out _ (HEn.out _ k1)).mono ?_
  rintro e w2 ⟨rfl, k2⟩
  clear hf he HC HEn
  go_upto_region 3 with (fail)
  have qx2 := fun W (kW : K w2 W) => qx W (k2.tr kW)
  have p0 := packN_len (kindN k) (kindN_lt k)
  have p1 := packN_len n hin
  refine wp_region_K [isV (.pointer (some ⟨g, 0, none⟩)),
      isV (.int .i64 (k)),
      isV (.int .u64 (kindN k : Nat)),
      sl (packN (kindN k)),
      isV (.pointer (some ⟨g, 1, none⟩)),
      isV (.int .u64 (n : Int)),
      sl (packN (kindN k) ++ packN n),
      sl (packN (kindN k) ++ packN n)]
    [([], []), ([0], [(10, 0)]), ([1], [(11, 1)]), ([2], [(12, 2)]), ([], []), ([4], [(14, 4)]), ([3, 5], [(13, 3), (15, 5)]), ([6], [(16, 6)])] 42 rfl (by kernel_rfl) (by kernel_rfl) (by kernel_rfl) ?st3 ?ow3 ?_
  case st3 =>
    simp only [List.forall_mem_cons]
    and_intros
    all_goals first | exact isV_st _ | exact sl_st _ | exact anyV_st | simp
  case ow3 =>
    simp only [OwedQ]
    and_intros
    all_goals try trivial
    all_goals
      intro V W kW hp
      try simp only [List.forall_mem_cons, tab_zero, tab_succ, isV] at hp
      try simp [wantsG, rhoP, List.lookup, hp, tab_zero, tab_succ, ResG, execOp, bareOp, isV, Below.refl, kW, qx2, go_sem]
    · exact u64_wrap k
    · refine (Number_sl (kindN k) (sl_nil W) (kindN_lt k) (by simp)).mono ?_
      rintro e w'' ⟨v', rfl, ho, hb⟩
      rw [List.nil_append] at ho
      exact ⟨v', rfl, sl_own ho, hb⟩
    · refine (Number_sl n hp.1 hin (by omega)).mono ?_
      rintro e w'' ⟨v', rfl, ho, hb⟩
      exact ⟨v', rfl, sl_own ho, hb⟩
  intro V w3 k3 hp
  have h7 := hp 7 (by simp)
  simp only [tab_zero, tab_succ] at h7
  clear hp
  simp only [putAll, Act.put, List.setIfInBounds_toArray, List.set_cons_succ, List.set_cons_zero]
  generalize V 7 = v3 at *
  clear qx2
  have hl3 : (packN (kindN k) ++ packN n).length ≤ 100 := by simp; omega
  have k03 := k1.tr (k2.tr k3)
  replace k2 := k2.tr k3
  clear k3
  generalize packN (kindN k) ++ packN n = b3 at *
  obtain hk1 | hk23 | hk45 := hk5
  · subst hk1
    rw [← H1.out rfl, ← HR.out] at h7
    clear H1 H2 H4
    go_wp2
    go_ret2
    exact ⟨_, by rw [HE.out]; rfl, h7, k03⟩
  · have hokx := hoe hk23
    have HRR := Lib.hid (HR.out.trans (H2.out hk23))
    have hc1 := chkEn_good hokx
    have hc2 : encEnR x = encEn x := by simp [encEnR, hokx]
    have hne1 : (chkEn x != 0) = false := by rw [hc1]; rfl
    have hlx := encEn_len hokx hfe
    clear H1 H2 H4 HR
    go_upto_region 5 with (fail)
    rcases hk23 with rfl | rfl
    all_goals
      go_wp2_with fail
      refine (NEncode_calls x _ _ (he0 _ k03) hfe).mono ?_
      rintro e w4 ⟨v4, rfl, ho4, k4⟩
      rw [hc2] at ho4
      have h4 := sl_own ho4
      have h74 := sl_st _ _ _ _ h7 k4
      replace k03 := k03.tr k4
      clear ho4 h7
      go_wp2_with fail
      refine (Bytes_sl h74 h4 (by omega) (by omega)).mono ?_
      rintro e w5 ⟨v5, rfl, ho5, k5⟩
      rw [← HRR.out] at ho5
      have h5 := sl_own ho5
      replace k03 := k03.tr k5
      clear h74 h4 ho5
      go_wp2
      go_ret2
      exact ⟨_, by rw [HE.out]; rfl, h5, k03⟩
  · have HRR := Lib.hid (HR.out.trans (H4.out hk45))
    clear H1 H2 H4 HR
    go_upto_region 5 with (fail)
    rcases hk45 with rfl | rfl
    all_goals
      go_wp2_with fail
      refine (Nnumber_calls _ _ (b, l, s) _ h7 (by omega) ⟨hib, hil, his⟩).mono ?_
      rintro e w4 ⟨v4, rfl, ho4, k4⟩
      rw [← HRR.out] at ho4
      have h4 := sl_own ho4
      replace k03 := k03.tr k4
      clear ho4 h7
      go_wp2
      go_ret2
      exact ⟨_, by rw [HE.out]; rfl, h4, k03⟩
end Go.Proofs.Ytjcdgbnbaiebdaa
