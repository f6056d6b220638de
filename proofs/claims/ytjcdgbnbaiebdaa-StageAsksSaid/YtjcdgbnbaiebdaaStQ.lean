/-
  The walk of StageAsks (layer 17). Conditions: none.
-/
import Derived.Test.YtjcdgbnbaiebdaaStP
set_option maxRecDepth 100000
namespace Go.Proofs.Ytjcdgbnbaiebdaa
open Go Go.RowKit

theorem asks_take (l : List Txn) (q : Nat) : asksT (l.take q) <+: asksT l := by
  unfold asksT
  obtain ⟨r, hr⟩ := ((List.take_prefix q l).filter Txn.asked).map Txn.e
  rw [← hr, List.take_append]
  exact List.prefix_append _ _
theorem asks_at {l : List Txn} {q : Nat} (h : q < l.length) (ha : l[q].asked = true) (h4 : (asksT (l.take q)).length < 4) : (asksT l)[(asksT (l.take q)).length]? = some l[q].e ∧ asksT (l.take (q + 1)) = asksT (l.take q) ++ [l[q].e] := by
  have h1 : asksT (l.take (q + 1)) = asksT (l.take q) ++ [l[q].e] := by rw [List.take_succ_eq_append_getElem h, asks_step, if_pos ⟨ha, h4⟩]
  refine ⟨?_, h1⟩
  obtain ⟨r, hr⟩ := asks_take l (q + 1)
  rw [← hr, h1]
  simp
theorem asks_no {l : List Txn} {q : Nat} (h : q < l.length) (ha : l[q].asked = false ∨ ¬ (asksT (l.take q)).length < 4) : asksT (l.take (q + 1)) = asksT (l.take q) := by
  rw [List.take_succ_eq_append_getElem h, asks_step, if_neg]
  rintro ⟨h1, h2⟩
  rcases ha with ha | ha
  · rw [ha] at h1; cases h1
  · exact ha h2

set_option maxHeartbeats 8000000 in
theorem StageAsks_walk (v0 : Value) (w1 : World) (r0 : repScript w1 v0) :
    Calls Try.prog 7 #[v0] w1 fun e w' => e = .returned (.bool true) ∧ Below w1.heap.size w1 w' := by
  obtain ⟨cs, hcs, hfit⟩ := r0
  obtain ⟨A, cc, rfl, hl1, hcc⟩ := hcs
  have HF := Lib.hid hfit
  clear hfit
  have kk := K.rf w1
  go_enter Try.func7, Try.ntmps7
  go_wp2_with fail
  refine (awakeT_calls w1).mono ?_
  rintro e w2 ⟨rfl, k2⟩
  go_wp2_with fail
  go_loopw [4, 5] (fun v i W => ∃ j : Nat, j ≤ cs.length ∧ j ≤ 40 ∧ i = .int .i64 (j : Int) ∧ Hid (lst txS (runT (cs.take j)) v W) ∧ K w1 W) (fun v i _ => cs.length - (intOf i).toNat)
  case atStart => exact ⟨0, by omega, by omega, rfl, Lib.hid (by simpa [runT] using lst_nil _ _), k2⟩
  case round =>
    clear kk
    obtain ⟨j, hj, hj60, rfl, HL, kr⟩ := hrel
    have hok := run_ok HF.out j
    by_cases hlt : j < cs.length ∧ j < 40
    · obtain ⟨hlt, hlt60⟩ := hlt
      have hji : (j : Int) < (cs.length : Int) := by omega
      have hj6 : (j : Int) < 40 := by omega
      have HS := Lib.hid (run_succ hlt)
      have hfc := HF.out _ (List.getElem_mem hlt)
      obtain ⟨b1, off, cc1, rfl, hcl, hrl, d0, d⟩ := lsr_cells hl1 j hlt (by decide)
      generalize cs[j] = c at *
      generalize hLj : runT (cs.take j) = L at *
      obtain ⟨va, vf, ve, rfl, he, hf, hle⟩ := hrl w1 (K.rf w1)
      obtain ⟨Aa, ca, rfl⟩ := evt_slice he
      obtain ⟨Af, cf, rfl⟩ := flt_slice hf
      obtain ⟨Ae, ce, rfl⟩ := lst_slice hle
      have HC : Hid (∀ W, K w1 W → callv c (.agg (callA c (.slice Aa c.e.length ca) (.slice Af c.x.f.length cf) (.slice Ae c.x.es.length ce))) W) := Lib.hid fun W kW => ⟨_, _, _, rfl, evt_st _ _ _ _ he kW, flt_st _ _ _ _ hf kW, lst_st hle kW⟩
      have d0 : ∀ W, K wr W → W.cell? ⟨b1, off + j * 14, none⟩ = some (.int .i64 c.kind) := fun W kW => d0 W (kr.tr kW)
      have d : ∀ W, K wr W → ∀ i, i < 14 → W.cell? ⟨b1, off + j * 14 + i, none⟩ = (callA c (.slice Aa c.e.length ca) (.slice Af c.x.f.length cf) (.slice Ae c.x.es.length ce))[i]? := fun W kW i hi => (d W (kr.tr kW) i hi).trans Array.getElem?_toList
      have HL3 := Lib.hid fun W (kW : K wr W) => lst_st HL.out kW
      have kk := K.rf wr
      clear hcl hrl he hf hle HL
      go_wp2_with fail
      refine (SmallC_calls c _ wr (HC.out _ kr)).mono ?_
      rintro e w4 ⟨rfl, k4⟩
      have k14 := kr.tr k4
      cases hsm : smallC c
      · have HL5 : Hid (lst txS (runT (cs.take (j + 1))) u4 w4) := Lib.hid (by rw [HS.out, show stepT L c = L from by simp [stepT, hsm]]; exact HL3.out _ k4)
        clear HL3 HC hok kk
        go_wp2
        go_roundw
        case rel => exact ⟨j + 1, by omega, by omega, by go_num, HL5, k14⟩
        case measure => simp [intOf]; omega
      have HM : Hid (runT (cs.take (j + 1)) = (nextT L c).1) := Lib.hid (by rw [HS.out]; simp [stepT, hsm])
      have C2 := Lib.hid (Next_calls L c u4 _ w4 (HL3.out _ k4) (HC.out w4 k14) hok.1 hfc hsm)
      go_wp2_with fail
      refine C2.out.mono ?_
      rintro e w5 ⟨vm, rfl, hM, k5⟩
      have HL5 : Hid (lst txS (runT (cs.take (j + 1))) vm w5) := Lib.hid (by rw [HM.out]; exact hM)
      have k15 := k14.tr k5
      clear C2 HL3 HC hok kk hM d0 d
      go_wp2
      go_roundw
      case rel => exact ⟨j + 1, by omega, by omega, by go_num, HL5, k15⟩
      case measure => simp [intOf]; omega
    · have hend : (¬ (j : Int) < (cs.length : Int)) ∨ ((j : Int) < (cs.length : Int) ∧ ¬ (j : Int) < 40) := by omega
      have hokL := hok.1
      generalize wr = wo at *
      generalize runT (cs.take j) = L at *
      have HLo := Lib.hid fun W (kW : K wo W) => lst_st HL.out kW
      obtain ⟨Al, cl, rfl, hll, -⟩ := HL.out
      have HO := Lib.hid hokL
      have hlm := hokL.mil
      have kk := K.rf wo
      clear HL hok hokL hlt HF hl1
      rcases hend with hji | ⟨hji, hj6⟩
      all_goals
        go_wp2_with fail
        refine (Asks_calls L _ wo (HLo.out _ (K.rf _)) HO.out.small hlm).mono ?_
        rintro e wa ⟨va, rfl, hOa, ka⟩
        obtain ⟨A2, d2, rfl, hla, -, -⟩ := hOa.slice
        have HB := Lib.hid fun q => @asks_at L q
        have HD := Lib.hid fun q => @asks_no L q
        have h44 : (asksT L).length ≤ 4 := by unfold asksT; simp; omega
        have kk := K.rf wa
        have hl9 := lsr_st hll ka
        have k1a := kr.tr ka
        clear hOa hll
        go_wp2_with fail
        go_loopw [7, 8, 9] (fun a i _ W => ∃ q : Nat, q ≤ L.length ∧ i = .int .i64 (q : Int) ∧ a = .int .i64 ((asksT (L.take q)).length : Int) ∧ K wa W) (fun _ i _ _ => L.length - (intOf i).toNat)
        case atStart => exact ⟨0, by omega, rfl, by simp [asksT], kk⟩
        case round =>
          clear kk
          obtain ⟨q, hq, rfl, rfl, ks⟩ := hrel
          by_cases hql : q < L.length
          · have hqi : (q : Int) < (L.length : Int) := by omega
            obtain ⟨b1, off, cc1, rfl, hcl, hrl, d0, d⟩ := lsr_cells hl9 q hql (by decide)
            have HB1 := Lib.hid (HB.out q hql)
            have HD1 := Lib.hid (HD.out q hql)
            have hsx := HO.out.small _ (List.getElem_mem hql)
            have ha4 : (asksT (L.take q)).length ≤ 4 := by unfold asksT; simp; omega
            generalize L[q] = x at *
            generalize hat : (asksT (L.take q)).length = at_ at *
            obtain ⟨vf, ve, rfl, hf, he⟩ := hrl wa (K.rf wa)
            have p10 : ∀ W, K wr W → W.cell? ⟨b1, off + q * 9, none⟩ = some (.int .i64 x.e.kind) := fun W kW => d0 W (ks.tr kW)
            have p1 : ∀ W, K wr W → ∀ i, i < 9 → W.cell? ⟨b1, off + q * 9 + i, none⟩ = (txA x vf ve)[i]? := fun W kW i hi => (d W (ks.tr kW) i hi).trans Array.getElem?_toList
            have kk := K.rf wr
            clear hcl hrl d0 d
            cases hxa : x.asked
            · have HE : Hid ((asksT (L.take (q + 1))).length = at_) := Lib.hid (by rw [HD1.out (.inl hxa)]; exact hat)
              clear HB1 HD1 hat
              go_wp2
              go_roundw
              case rel => exact ⟨q + 1, by omega, by go_num, by rw [HE.out], ks⟩
              case measure => simp [intOf]; omega
            by_cases h4 : at_ < 4
            rotate_left
            · have h4i : (4 : Int) ≤ (at_ : Int) := by omega
              have HE : Hid ((asksT (L.take (q + 1))).length = at_) := Lib.hid (by rw [HD1.out (.inr h4)]; exact hat)
              clear HB1 HD1 hat
              go_wp2
              go_roundw
              case rel => exact ⟨q + 1, by omega, by go_num, by rw [HE.out], ks⟩
              case measure => simp [intOf]; omega
            have h4i : ¬ (4 : Int) ≤ (at_ : Int) := by omega
            obtain ⟨h9, h10⟩ := HB1.out hxa h4
            have HE : Hid ((asksT (L.take (q + 1))).length = at_ + 1) := Lib.hid (by rw [h10]; simp [hat])
            obtain ⟨hal, hae⟩ := List.getElem?_eq_some_iff.1 h9
            have hai : (at_ : Int) < ((asksT L).length : Int) := by omega
            have hai' : ¬ ((asksT L).length : Int) ≤ (at_ : Int) := by omega
            obtain ⟨b2, o2, cc2, rfl, hcl2, hrl2, f0, f⟩ := lsr_cells hla at_ hal (by decide)
            rw [hae] at hrl2
            obtain ⟨vf2, ve2, rfl, hf2, he2⟩ := hrl2 wa (K.rf wa)
            have p20 : ∀ W, K wr W → W.cell? ⟨b2, o2 + at_ * 8, none⟩ = some (.int .i64 x.e.kind) := fun W kW => f0 W (ks.tr kW)
            have p2 : ∀ W, K wr W → ∀ i, i < 8 → W.cell? ⟨b2, o2 + at_ * 8 + i, none⟩ = (entA x.e vf2 ve2)[i]? := fun W kW i hi => (f W (ks.tr kW) i hi).trans Array.getElem?_toList
            have CS := Lib.hid fun W (kW : K wa W) => ESame_calls x.e x.e (.agg (entA x.e vf2 ve2)) (.agg (entA x.e vf ve)) W ⟨_, _, rfl, flt_st _ _ _ _ hf2 kW, lst_st he2 kW⟩ ⟨_, _, rfl, flt_st _ _ _ _ hf kW, lst_st he kW⟩ hsx
            have hxx : decide (x.e = x.e) = true := by simp
            clear HB1 HD1 hat h9 h10 hae f0 f hcl2 hrl2 hf he hf2 he2
            go_upto_region 18 with (fail)
            refine wp_region_K [isV (.slice (some ⟨b2, o2, none⟩) (asksT L).length d2),
                isV (.int .i64 ((at_ : Int))),
                isV (.pointer (some ⟨b2, o2 + at_ * 8, none⟩)),
                isV (.agg (entA x.e vf2 ve2)),
                isV (.slice (some ⟨b1, off, none⟩) L.length cl),
                isV (.int .i64 ((q : Int))),
                isV (.pointer (some ⟨b1, off + q * 9, none⟩)),
                isV (.pointer (some ⟨b1, off + q * 9, none⟩)),
                isV (.agg (entA x.e vf ve)),
                isV (.bool true),
                isV (.bool true)]
              [([], []), ([], []), ([0, 1], [(59, 0), (60, 1)]), ([2], [(61, 2)]), ([], []), ([], []), ([4, 5], [(63, 4), (64, 5)]), ([6], [(65, 6)]), ([7], [(66, 7)]), ([3, 8], [(62, 3), (67, 8)]), ([9], [(68, 9)])] 77 rfl (by kernel_rfl) (by kernel_rfl) (by kernel_rfl) ?st18 ?ow18 ?_
            case st18 =>
              simp only [List.forall_mem_cons]
              and_intros
              all_goals first | exact isV_st _ | exact sl_st _ | exact anyV_st | simp
            case ow18 =>
              simp only [OwedQ]
              and_intros
              all_goals try trivial
              all_goals
                intro V W kW hp
                try simp only [List.forall_mem_cons, tab_zero, tab_succ, isV] at hp
                try simp [wantsG, rhoP, List.lookup, hp, tab_zero, tab_succ, ResG, execOp, bareOp, isV, Below.refl, kW, p20, p2, p10, p1, hqi, hai, go_sem]
              refine (CS.out _ (ks.tr kW)).mono ?_
              rintro e w'' ⟨rfl, hb⟩
              exact ⟨_, rfl, by rw [hxx], hb⟩
            intro V W kW hp
            have h10 := hp 10 (by simp)
            simp only [tab_zero, tab_succ, isV] at h10
            clear hp CS
            simp only [putAll, Act.put, List.setIfInBounds_toArray, List.set_cons_succ, List.set_cons_zero, h10]
            have ksW := ks.tr kW
            clear p10 p1 p20 p2
            go_wp2
            go_roundw
            case rel => exact ⟨q + 1, by omega, by go_num, by rw [HE.out]; go_num, ksW⟩
            case measure => simp [intOf]; omega
          · have hqi : ¬ (q : Int) < (L.length : Int) := by omega
            have HE : Hid ((asksT (L.take q)).length = (asksT L).length) := Lib.hid (by rw [List.take_of_length_le (by omega)])
            rw [HE.out]
            go_wp2
            go_ret
            exact ⟨by simp, k1a.tr ks⟩
end Go.Proofs.Ytjcdgbnbaiebdaa
