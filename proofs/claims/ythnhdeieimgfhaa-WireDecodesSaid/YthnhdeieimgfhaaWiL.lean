/-
  The walks of SameEntries, SameIDs, SameVotes and Same of the document's answer of layer 13. Conditions: the first lists are small.
-/
import Derived.Test.YthnhdeieimgfhaaWiJ
import Derived.Test.YthnhdeieimgfhaaWiLa
set_option maxRecDepth 100000
namespace Go.Proofs.Ythnhdeieimgfhaa
open Go Go.RowKit

theorem vot_eq {x y : Vot} (h1 : x.id = y.id) (h2 : x.yes = y.yes) : x = y := by
  cases x; cases y; simp only at h1 h2; rw [h1, h2]

set_option maxHeartbeats 4000000 in
theorem WSameVotes_calls (la lb : List Vot) (v u : Value) (w : World) (h : lst voS la v w) (k : lst voS lb u w) (hlen : la.length ≤ 1000000) :
    Calls Try.prog 67 #[v, u] w fun e w' => e = .returned (.bool (decide (la = lb))) ∧ K w w' := by
  obtain ⟨D1, d1, rfl, he1, hd1⟩ := h
  obtain ⟨D2, d2, rfl, he2, hd2⟩ := k
  obtain ⟨R, hR0⟩ : ∃ R, R = decide (la = lb) := ⟨_, rfl⟩
  rw [← hR0]
  have HI : Hid (R = decide (la = lb)) := Lib.hid hR0
  clear hR0
  go_enter Try.func67, Try.ntmps67
  by_cases hle : la.length = lb.length
  rotate_left
  · have HR : Hid (R = false) := Lib.hid (by rw [HI.out]; simp; exact fun e => hle (by rw [e]))
    have hle' : ((la.length : Int) != (lb.length : Int)) = true := by simp; omega
    go_wp2
    go_ret
    exact ⟨by rw [HR.out]; rfl, K.rf w⟩
  have hle' : ((la.length : Int) != (lb.length : Int)) = false := by simp; omega
  have HLE := Lib.hid hle
  have kk := K.rf w
  clear hle
  go_wp2_with fail
  go_loopw [5] (fun i wr => ∃ j : Nat, j ≤ la.length ∧ i = .int .i64 (j : Int) ∧ Hid (la.take j = lb.take j) ∧ K w wr) (fun i _ => la.length - (intOf i).toNat)
  case atStart => exact ⟨0, by omega, rfl, Lib.hid (by simp), kk⟩
  case round =>
    clear kk
    obtain ⟨j, hj, rfl, HT, kr⟩ := hrel
    by_cases hlt : j < la.length
    · have hji : (j : Int) < (la.length : Int) := by omega
      have hlt2 : j < lb.length := by have := HLE.out; omega
      have hlt2i : (j : Int) < (lb.length : Int) := by omega
      have HB := Lib.hid (take_eq_succ' la lb j hlt hlt2 HT.out)
      obtain ⟨b1, o1, cs1, rfl, hcl1, hr1, d0, d⟩ := lsr_cells he1 j hlt (by decide)
      obtain ⟨b2, o2, cs2, rfl, hcl2, hr2, f0, f⟩ := lsr_cells he2 j hlt2 (by decide)
      generalize la[j] = x at *
      generalize lb[j] = y at *
      obtain rfl := hr1 w (K.rf w)
      obtain rfl := hr2 w (K.rf w)
      have p10 : ∀ W, K wr W → W.cell? ⟨b1, o1 + j * 4, none⟩ = some (.int .i64 x.id.1) := fun W kW => d0 W (kr.tr kW)
      have p1 : ∀ W, K wr W → ∀ i, i < 4 → W.cell? ⟨b1, o1 + j * 4 + i, none⟩ = (voA x)[i]? := fun W kW i hi => (d W (kr.tr kW) i hi).trans Array.getElem?_toList
      have p20 : ∀ W, K wr W → W.cell? ⟨b2, o2 + j * 4, none⟩ = some (.int .i64 y.id.1) := fun W kW => f0 W (kr.tr kW)
      have p2 : ∀ W, K wr W → ∀ i, i < 4 → W.cell? ⟨b2, o2 + j * 4 + i, none⟩ = (voA y)[i]? := fun W kW i hi => (f W (kr.tr kW) i hi).trans Array.getElem?_toList
      clear hcl1 hcl2 hr1 hr2 d0 d f0 f
      go_upto_region 6 with (fail)
      refine wp_region_K [isV (.slice (some ⟨b1, o1, none⟩) la.length d1),
          isV (.int .i64 ((j : Int))),
          isV (.pointer (some ⟨b1, o1 + j * 4, none⟩)),
          isV (.agg (voA x)),
          isV (.slice (some ⟨b2, o2, none⟩) lb.length d2),
          isV (.int .i64 ((j : Int))),
          isV (.pointer (some ⟨b2, o2 + j * 4, none⟩)),
          isV (.agg (voA y)),
          isV (.bool (!decide (x = y)))]
        [([], []), ([], []), ([0, 1], [(17, 0), (18, 1)]), ([2], [(19, 2)]), ([], []), ([], []), ([4, 5], [(21, 4), (22, 5)]), ([6], [(23, 6)]), ([3, 7], [(20, 3), (24, 7)])] 26 rfl (by kernel_rfl) (by kernel_rfl) (by kernel_rfl) ?st6 ?ow6 ?_
      case st6 =>
        simp only [List.forall_mem_cons]
        and_intros
        all_goals first | exact isV_st _ | exact sl_st _ | exact anyV_st | simp
      case ow6 =>
        simp only [OwedQ]
        and_intros
        all_goals try trivial
        all_goals
          intro V W kW hp
          try simp only [List.forall_mem_cons, tab_zero, tab_succ, isV] at hp
          try simp [wantsG, rhoP, List.lookup, hp, tab_zero, tab_succ, ResG, execOp, bareOp, isV, Below.refl, kW, p10, p1, p20, p2, hji, hlt2i, go_sem]
        by_cases h1 : x.id.1 = y.id.1
        · by_cases h2 : (x.id.2.1 : Int) = (y.id.2.1 : Int)
          · by_cases h3 : (x.id.2.2 : Int) = (y.id.2.2 : Int)
            · by_cases h4 : x.yes = y.yes
              · rw [show decide (x = y) = true from decide_eq_true (vot_eq (Prod.ext h1 (Prod.ext (Int.ofNat_inj.1 h2) (Int.ofNat_inj.1 h3))) h4)]
                simp only [h1, h2, h3, h4, if_true, Bool.not_true]; first | exact ⟨trivial, Below.refl _ _⟩ | exact ⟨rfl, Below.refl _ _⟩
              · rw [show decide (x = y) = false from decide_eq_false (fun e => h4 (by rw [e]))]
                simp only [h1, h2, h3, h4, if_true, if_false, Bool.not_false]; first | exact ⟨trivial, Below.refl _ _⟩ | exact ⟨rfl, Below.refl _ _⟩
            · rw [show decide (x = y) = false from decide_eq_false (fun e => h3 (by rw [e]))]
              simp only [h1, h2, h3, if_true, if_false, Bool.not_false]; first | exact ⟨trivial, Below.refl _ _⟩ | exact ⟨rfl, Below.refl _ _⟩
          · rw [show decide (x = y) = false from decide_eq_false (fun e => h2 (by rw [e]))]
            simp only [h1, h2, if_true, if_false, Bool.not_false]; first | exact ⟨trivial, Below.refl _ _⟩ | exact ⟨rfl, Below.refl _ _⟩
        · rw [show decide (x = y) = false from decide_eq_false (fun e => h1 (by rw [e]))]
          simp only [h1, if_false, Bool.not_false]; first | exact ⟨trivial, Below.refl _ _⟩ | exact ⟨rfl, Below.refl _ _⟩
      intro V W kW hp
      have h9 := hp 8 (by simp)
      simp only [tab_zero, tab_succ, isV] at h9
      clear hp
      simp only [putAll, Act.put, List.setIfInBounds_toArray, List.set_cons_succ, List.set_cons_zero, h9]
      have krW := kr.tr kW
      generalize hq : decide (x = y) = q at *
      have HQ := Lib.hid hq
      clear hq h9 p10 p1 p20 p2
      cases q
      · have HR : Hid (R = false) := Lib.hid (by
          rw [HI.out]
          simp only [decide_eq_false_iff_not]
          rintro rfl
          exact of_decide_eq_false HQ.out (HB.out.1 rfl))
        go_wp2
        go_ret
        exact ⟨by rw [HR.out]; rfl, krW⟩
      · have HT2 : Hid (la.take (j + 1) = lb.take (j + 1)) := Lib.hid (HB.out.2 (of_decide_eq_true HQ.out))
        go_wp2
        go_roundw
        case rel => exact ⟨j + 1, by omega, by go_num, HT2, krW⟩
        case measure => simp [intOf]; omega
    · have hji : ¬ (j : Int) < (la.length : Int) := by omega
      have HR : Hid (R = true) := Lib.hid (by
        have h1 := HT.out
        have h2 := HLE.out
        rw [List.take_of_length_le (by omega), List.take_of_length_le (by omega)] at h1
        rw [HI.out, h1]; simp)
      go_wp2
      go_ret
      exact ⟨by rw [HR.out]; rfl, kr⟩

theorem msg_eq {a b : Msg} : a = b ↔ a.kind = b.kind ∧ a.got = b.got ∧ a.asks = b.asks ∧ a.entries = b.entries ∧ a.prepares = b.prepares ∧ a.aborts = b.aborts ∧ a.ends = b.ends ∧ a.votes = b.votes := by
  obtain ⟨k, g, v, x, y, z, d, e⟩ := a
  obtain ⟨k', g', v', x', y', z', d', e'⟩ := b
  simp only [Msg.mk.injEq]
  constructor
  · rintro ⟨rfl, rfl, rfl, rfl, rfl, rfl, rfl, rfl⟩; simp
  · rintro ⟨rfl, rfl, rfl, rfl, rfl, rfl, rfl, rfl⟩; simp
def smallM (m : Msg) : Prop := (∀ s ∈ m.asks, smallEn s) ∧ (∀ s ∈ m.entries, smallEn s) ∧ (∀ s ∈ m.prepares, smallEn s) ∧ m.asks.length ≤ 1000000 ∧ m.entries.length ≤ 1000000 ∧ m.prepares.length ≤ 1000000 ∧ m.aborts.length ≤ 1000000 ∧ m.ends.length ≤ 1000000 ∧ m.votes.length ≤ 1000000

set_option maxHeartbeats 4000000 in
theorem WSame_calls (a b : Msg) (v u : Value) (w : World) (h : msv a v w) (k : msv b u w) (hs : smallM a) :
    Calls Try.prog 21 #[v, u] w fun e w' => e = .returned (.bool (decide (a = b))) ∧ K w w' := by
  obtain ⟨s1, s2, s3, n1, n2, n3, n4, n5, n6⟩ := hs
  obtain ⟨v1, v2, v3, v4, v5, v6, rfl, h1, h2, h3, h4, h5, h6⟩ := h
  obtain ⟨u1, u2, u3, u4, u5, u6, rfl, g1, g2, g3, g4, g5, g6⟩ := k
  have C1 := Lib.hid fun W (kW : K w W) => WSameEntries_calls a.asks b.asks v2 u2 W (lst_st h2 kW) (lst_st g2 kW) s1 n1
  have C2 := Lib.hid fun W (kW : K w W) => WSameEntries_calls a.entries b.entries v3 u3 W (lst_st h3 kW) (lst_st g3 kW) s2 n2
  have C3 := Lib.hid fun W (kW : K w W) => WSameEntries_calls a.prepares b.prepares v4 u4 W (lst_st h4 kW) (lst_st g4 kW) s3 n3
  have C4 := Lib.hid fun W (kW : K w W) => WSameIDs_calls a.aborts b.aborts v5 u5 W (lst_st h5 kW) (lst_st g5 kW) n4
  have C5 := Lib.hid fun W (kW : K w W) => WSameIDs_calls a.ends b.ends v6 u6 W (lst_st h6 kW) (lst_st g6 kW) n5
  have C6 := Lib.hid fun W (kW : K w W) => WSameVotes_calls a.votes b.votes v1 u1 W (lst_st h1 kW) (lst_st g1 kW) n6
  obtain ⟨A1, A1c, rfl⟩ := lst_slice h1
  obtain ⟨A2, A2c, rfl⟩ := lst_slice h2
  obtain ⟨A3, A3c, rfl⟩ := lst_slice h3
  obtain ⟨A4, A4c, rfl⟩ := lst_slice h4
  obtain ⟨A5, A5c, rfl⟩ := lst_slice h5
  obtain ⟨A6, A6c, rfl⟩ := lst_slice h6
  obtain ⟨B1, B1c, rfl⟩ := lst_slice g1
  obtain ⟨B2, B2c, rfl⟩ := lst_slice g2
  obtain ⟨B3, B3c, rfl⟩ := lst_slice g3
  obtain ⟨B4, B4c, rfl⟩ := lst_slice g4
  obtain ⟨B5, B5c, rfl⟩ := lst_slice g5
  obtain ⟨B6, B6c, rfl⟩ := lst_slice g6
  clear h1 h2 h3 h4 h5 h6 g1 g2 g3 g4 g5 g6 s1 s2 s3 n1 n2 n3 n4 n5 n6
  obtain ⟨R, hR0⟩ : ∃ R, R = decide (a = b) := ⟨_, rfl⟩
  rw [← hR0]
  have HI : Hid (R = decide (a = b)) := Lib.hid hR0
  have HEQ := Lib.hid (@msg_eq a b)
  clear hR0
  have hx := (Blk.new w 28 (msA a (.slice A1 a.votes.length A1c) (.slice A2 a.asks.length A2c) (.slice A3 a.entries.length A3c) (.slice A4 a.prepares.length A4c) (.slice A5 a.aborts.length A5c) (.slice A6 a.ends.length A6c))).alloc (.cells (msA b (.slice B1 b.votes.length B1c) (.slice B2 b.asks.length B2c) (.slice B3 b.entries.length B3c) (.slice B4 b.prepares.length B4c) (.slice B5 b.aborts.length B5c) (.slice B6 b.ends.length B6c)) 28)
  have hy := Blk.new (w.alloc (.cells (msA a (.slice A1 a.votes.length A1c) (.slice A2 a.asks.length A2c) (.slice A3 a.entries.length A3c) (.slice A4 a.prepares.length A4c) (.slice A5 a.aborts.length A5c) (.slice A6 a.ends.length A6c)) 28)) 28 (msA b (.slice B1 b.votes.length B1c) (.slice B2 b.asks.length B2c) (.slice B3 b.entries.length B3c) (.slice B4 b.prepares.length B4c) (.slice B5 b.aborts.length B5c) (.slice B6 b.ends.length B6c))
  have k2 : K w ((w.alloc (.cells (msA a (.slice A1 a.votes.length A1c) (.slice A2 a.asks.length A2c) (.slice A3 a.entries.length A3c) (.slice A4 a.prepares.length A4c) (.slice A5 a.aborts.length A5c) (.slice A6 a.ends.length A6c)) 28)).alloc (.cells (msA b (.slice B1 b.votes.length B1c) (.slice B2 b.asks.length B2c) (.slice B3 b.entries.length B3c) (.slice B4 b.prepares.length B4c) (.slice B5 b.aborts.length B5c) (.slice B6 b.ends.length B6c)) 28)) := ((K.rf w).al _).al _
  have hz : (w.alloc (.cells (msA a (.slice A1 a.votes.length A1c) (.slice A2 a.asks.length A2c) (.slice A3 a.entries.length A3c) (.slice A4 a.prepares.length A4c) (.slice A5 a.aborts.length A5c) (.slice A6 a.ends.length A6c)) 28)).heap.size = w.heap.size + 1 := by simp
  rw [hz] at hy
  clear hz
  go_enter Try.func21, Try.ntmps21
  go_upto_region 1 with (fail)
  generalize World.alloc (World.alloc w _) _ = w1 at *
  generalize hg2 : w.heap.size + 1 = g2 at hy ⊢
  generalize w.heap.size = g1 at hx hg2 ⊢
  clear hg2
  have qx := hx.cells
  have qy := hy.cells
  have kk := K.rf w1
  clear hx hy
  go_wp2_with fail
  refine (C1.out w1 k2).mono ?_
  rintro e w2 ⟨rfl, j2⟩
  replace kk := kk.tr j2
  have k3 := k2.tr j2
  go_wp2_with fail
  refine (C2.out w2 k3).mono ?_
  rintro e w3 ⟨rfl, j3⟩
  replace kk := kk.tr j3
  have k4 := k3.tr j3
  go_wp2_with fail
  refine (C3.out w3 k4).mono ?_
  rintro e w4 ⟨rfl, j4⟩
  replace kk := kk.tr j4
  have k5 := k4.tr j4
  go_wp2_with fail
  refine (C4.out w4 k5).mono ?_
  rintro e w5 ⟨rfl, j5⟩
  replace kk := kk.tr j5
  have k6 := k5.tr j5
  go_wp2_with fail
  refine (C5.out w5 k6).mono ?_
  rintro e w6 ⟨rfl, j6⟩
  replace kk := kk.tr j6
  have k7 := k6.tr j6
  go_wp2_with fail
  refine (C6.out w6 k7).mono ?_
  rintro e w7 ⟨rfl, j7⟩
  replace kk := kk.tr j7
  have k8 := k7.tr j7
  clear C1 C2 C3 C4 C5 C6
  generalize hq1 : decide (a.asks = b.asks) = q1 at *
  have HQ1 := Lib.hid hq1
  clear hq1
  generalize hq2 : decide (a.entries = b.entries) = q2 at *
  have HQ2 := Lib.hid hq2
  clear hq2
  generalize hq3 : decide (a.prepares = b.prepares) = q3 at *
  have HQ3 := Lib.hid hq3
  clear hq3
  generalize hq4 : decide (a.aborts = b.aborts) = q4 at *
  have HQ4 := Lib.hid hq4
  clear hq4
  generalize hq5 : decide (a.ends = b.ends) = q5 at *
  have HQ5 := Lib.hid hq5
  clear hq5
  generalize hq6 : decide (a.votes = b.votes) = q6 at *
  have HQ6 := Lib.hid hq6
  clear hq6
  by_cases e1 : a.kind = b.kind
  rotate_left
  · have HR : Hid (R = false) := Lib.hid (by rw [HI.out]; simp only [decide_eq_false_iff_not]; exact fun e => e1 (HEQ.out.1 e).1)
    go_wp2
    go_ret
    exact ⟨by rw [HR.out]; rfl, k8⟩
  by_cases e2 : (a.got : Int) = (b.got : Int)
  rotate_left
  · have HR : Hid (R = false) := Lib.hid (by rw [HI.out]; simp only [decide_eq_false_iff_not]; exact fun e => e2 (by rw [(HEQ.out.1 e).2.1]))
    go_wp2
    go_ret
    exact ⟨by rw [HR.out]; rfl, k8⟩
  cases q1
  · have HR : Hid (R = false) := Lib.hid (by rw [HI.out]; simp only [decide_eq_false_iff_not]; exact fun e => of_decide_eq_false HQ1.out (HEQ.out.1 e).2.2.1)
    go_wp2
    go_ret
    exact ⟨by rw [HR.out]; rfl, k8⟩
  cases q2
  · have HR : Hid (R = false) := Lib.hid (by rw [HI.out]; simp only [decide_eq_false_iff_not]; exact fun e => of_decide_eq_false HQ2.out (HEQ.out.1 e).2.2.2.1)
    go_wp2
    go_ret
    exact ⟨by rw [HR.out]; rfl, k8⟩
  cases q3
  · have HR : Hid (R = false) := Lib.hid (by rw [HI.out]; simp only [decide_eq_false_iff_not]; exact fun e => of_decide_eq_false HQ3.out (HEQ.out.1 e).2.2.2.2.1)
    go_wp2
    go_ret
    exact ⟨by rw [HR.out]; rfl, k8⟩
  cases q4
  · have HR : Hid (R = false) := Lib.hid (by rw [HI.out]; simp only [decide_eq_false_iff_not]; exact fun e => of_decide_eq_false HQ4.out (HEQ.out.1 e).2.2.2.2.2.1)
    go_wp2
    go_ret
    exact ⟨by rw [HR.out]; rfl, k8⟩
  cases q5
  · have HR : Hid (R = false) := Lib.hid (by rw [HI.out]; simp only [decide_eq_false_iff_not]; exact fun e => of_decide_eq_false HQ5.out (HEQ.out.1 e).2.2.2.2.2.2.1)
    go_wp2
    go_ret
    exact ⟨by rw [HR.out]; rfl, k8⟩
  cases q6
  · have HR : Hid (R = false) := Lib.hid (by rw [HI.out]; simp only [decide_eq_false_iff_not]; exact fun e => of_decide_eq_false HQ6.out (HEQ.out.1 e).2.2.2.2.2.2.2)
    go_wp2
    go_ret
    exact ⟨by rw [HR.out]; rfl, k8⟩
  have HR : Hid (R = true) := Lib.hid (by
    rw [HI.out]
    exact decide_eq_true (HEQ.out.2 ⟨e1, Int.ofNat_inj.1 e2, of_decide_eq_true HQ1.out, of_decide_eq_true HQ2.out, of_decide_eq_true HQ3.out, of_decide_eq_true HQ4.out, of_decide_eq_true HQ5.out, of_decide_eq_true HQ6.out⟩))
  go_wp2
  go_ret
  exact ⟨by rw [HR.out]; rfl, k8⟩
end Go.Proofs.Ythnhdeieimgfhaa
