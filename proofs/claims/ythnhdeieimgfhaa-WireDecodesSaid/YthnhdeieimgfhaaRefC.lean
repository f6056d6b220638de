/-
  The walk of the document's GetValue: what it returns, and that nothing that was there is changed.
-/
import Derived.Test.YthnhdeieimgfhaaRefB
import Derived.Deep.CutRange
namespace Go.Proofs.Ythnhdeieimgfhaa
open Go Go.RowKit

theorem getK_bad {l : List UInt8} (h : getK l = 0) : (rdN l false).2.2 = true := by
  cases hd : (rdN l false).2.2 with
  | true => rfl
  | false =>
    exfalso
    have hb := congrArg List.length (rdN_back hd).1
    rw [List.length_append] at hb
    have hpos : 0 < (packN (rdN l false).1).length := by simp [packN]
    simp [getK, hd] at h
    omega
theorem getK_good {l : List UInt8} (h : ¬ getK l = 0) : rdN l false = ((rdN l false).1, l.drop (getK l), false) := by
  cases hd : (rdN l false).2.2 with
  | true => exact absurd (by simp [getK, hd]) h
  | false =>
    have hb := (rdN_back hd).1
    have hl := congrArg List.length hb
    rw [List.length_append] at hl
    have hk : getK l = (packN (rdN l false).1).length := by simp [getK, hd]; omega
    have hdrop : l.drop (getK l) = (rdN l false).2.1 := by
      rw [hk]
      calc l.drop (packN (rdN l false).1).length = (packN (rdN l false).1 ++ (rdN l false).2.1).drop (packN (rdN l false).1).length := by rw [← hb]
        _ = _ := by simp
    exact Prod.ext rfl (Prod.ext hdrop.symm hd)
theorem getBK_bad {most : Int} {l : List UInt8} (h : getBK most l = 0) : (rdB most l false).2.2 = true := by
  cases hd : (rdB most l false).2.2 with
  | true => rfl
  | false =>
    exfalso
    rcases getB_cases most l with ⟨h1, h2, h3⟩ | ⟨h1, _, _, _, _, h3⟩
    · simp only [rdB] at hd
      split at hd
      · simp at hd
      · rename_i hq
        simp only [Bool.or_eq_true, decide_eq_true_eq, not_or, Bool.not_eq_true] at hq
        obtain ⟨⟨⟨q1, q2⟩, q3⟩, q4⟩ := hq
        have hk : ¬ getK l = 0 := fun hk => by rw [getK_bad hk] at q1; cases q1
        have hg := getK_good hk
        have : (rdN l false).2.1 = l.drop (getK l) := by rw [hg]
        rw [this] at q4
        have hle := getK_le l
        simp at q4
        omega
    · omega
theorem getBK_good {most : Int} {l : List UInt8} (h : ¬ getBK most l = 0) : rdB most l false = ((rdB most l false).1, l.drop (getBK most l), false) := by
  rcases getB_cases most l with ⟨_, _, h3⟩ | ⟨h1, h2, h3, h4, h5, h6⟩
  · omega
  · have hg := getK_good h1
    have e1 : (rdN l false).2.1 = l.drop (getK l) := by rw [hg]
    have e2 : (rdN l false).2.2 = false := by rw [hg]
    unfold rdB
    rw [if_neg (by simp only [e1, e2, Bool.false_or, Bool.or_eq_true, decide_eq_true_eq, List.length_drop]; omega), e1, h6, List.drop_drop]
theorem getBK_le (most : Int) (l : List UInt8) : getBK most l ≤ l.length := by unfold getBK; split <;> omega

/-- What GetValue tells, by what Get and GetBytes tell. -/
theorem getV_bad1 {l : List UInt8} (h : getK l = 0 ∨ 3 < (rdN l false).1) : (rdV l false).1 = (0, 0, []) ∧ getVK l = 0 := by
  have : (rdV l false).2.2 = true ∧ (rdV l false).1 = (0, 0, []) := by
    unfold rdV
    simp only
    rw [if_pos]
    · exact ⟨rfl, rfl⟩
    · rcases h with h | h
      · have h1 := getK_bad h
        have h2 : (rdN (rdN l false).2.1 (rdN l false).2.2).2.2 = true := by rw [h1, rdN_true]
        have h3 : (rdB 40 (rdN (rdN l false).2.1 (rdN l false).2.2).2.1 (rdN (rdN l false).2.1 (rdN l false).2.2).2.2).2.2 = true := by
          rw [h2]; unfold rdB; rw [rdN_true]; simp
        simp [h3]
      · simp [h]
  exact ⟨this.2, by simp [getVK, this.1]⟩
theorem getV_bad2 {l : List UInt8} (h1 : ¬ getK l = 0) (h : getK (l.drop (getK l)) = 0) : (rdV l false).1 = (0, 0, []) ∧ getVK l = 0 := by
  have hg := getK_good h1
  have e1 : (rdN l false).2.1 = l.drop (getK l) := by rw [hg]
  have e2 : (rdN l false).2.2 = false := by rw [hg]
  have : (rdV l false).2.2 = true ∧ (rdV l false).1 = (0, 0, []) := by
    unfold rdV
    simp only [e1, e2]
    rw [if_pos]
    · exact ⟨rfl, rfl⟩
    · have h2 := getK_bad h
      rw [h2]
      have h3 : (rdB 40 (rdN (l.drop (getK l)) false).2.1 true).2.2 = true := by unfold rdB; rw [rdN_true]; simp
      simp [h3]
  exact ⟨this.2, by simp [getVK, this.1]⟩
theorem getV_bad3 {l : List UInt8} (h1 : ¬ getK l = 0) (h2 : ¬ getK (l.drop (getK l)) = 0) (h : getBK 40 ((l.drop (getK l)).drop (getK (l.drop (getK l)))) = 0) : (rdV l false).1 = (0, 0, []) ∧ getVK l = 0 := by
  have hg := getK_good h1
  have e1 : (rdN l false).2.1 = l.drop (getK l) := by rw [hg]
  have e2 : (rdN l false).2.2 = false := by rw [hg]
  have hg2 := getK_good h2
  have f1 : (rdN (l.drop (getK l)) false).2.1 = (l.drop (getK l)).drop (getK (l.drop (getK l))) := by rw [hg2]
  have f2 : (rdN (l.drop (getK l)) false).2.2 = false := by rw [hg2]
  have : (rdV l false).2.2 = true ∧ (rdV l false).1 = (0, 0, []) := by
    unfold rdV
    simp only [e1, e2, f1, f2]
    rw [if_pos]
    · exact ⟨rfl, rfl⟩
    · rw [getBK_bad h]; simp
  exact ⟨this.2, by simp [getVK, this.1]⟩
theorem getV_last {l : List UInt8} (h1 : ¬ getK l = 0) (h3 : ¬ 3 < (rdN l false).1) (h2 : ¬ getK (l.drop (getK l)) = 0) (h : ¬ getBK 40 ((l.drop (getK l)).drop (getK (l.drop (getK l)))) = 0) :
    (rdV l false).1 = (if okV ((rdN l false).1 : Nat) (rdVn (rdN l false).1 (rdN (l.drop (getK l)) false).1) ⟨(rdB 40 ((l.drop (getK l)).drop (getK (l.drop (getK l)))) false).1.toArray⟩ then
      ((((rdN l false).1 : Nat) : Int), rdVn (rdN l false).1 (rdN (l.drop (getK l)) false).1, (rdB 40 ((l.drop (getK l)).drop (getK (l.drop (getK l)))) false).1) else (0, 0, [])) ∧
    getVK l = (if okV ((rdN l false).1 : Nat) (rdVn (rdN l false).1 (rdN (l.drop (getK l)) false).1) ⟨(rdB 40 ((l.drop (getK l)).drop (getK (l.drop (getK l)))) false).1.toArray⟩ then
      getK l + getK (l.drop (getK l)) + getBK 40 ((l.drop (getK l)).drop (getK (l.drop (getK l)))) else 0) := by
  have hg := getK_good h1
  have e1 : (rdN l false).2.1 = l.drop (getK l) := by rw [hg]
  have e2 : (rdN l false).2.2 = false := by rw [hg]
  have hg2 := getK_good h2
  have f1 : (rdN (l.drop (getK l)) false).2.1 = (l.drop (getK l)).drop (getK (l.drop (getK l))) := by rw [hg2]
  have f2 : (rdN (l.drop (getK l)) false).2.2 = false := by rw [hg2]
  have hg3 := getBK_good h
  have k1 : (rdB 40 ((l.drop (getK l)).drop (getK (l.drop (getK l)))) false).2.1 = ((l.drop (getK l)).drop (getK (l.drop (getK l)))).drop (getBK 40 ((l.drop (getK l)).drop (getK (l.drop (getK l))))) := by rw [hg3]
  have k2 : (rdB 40 ((l.drop (getK l)).drop (getK (l.drop (getK l)))) false).2.2 = false := by rw [hg3]
  have q1 := getK_le l
  have q2 := getK_le (l.drop (getK l))
  have q3 := getBK_le 40 ((l.drop (getK l)).drop (getK (l.drop (getK l))))
  simp only [List.length_drop] at q2 q3
  unfold getVK rdV
  simp only [e1, e2, f1, f2, k1, k2, h3, decide_false, Bool.false_or, Bool.or_false]
  generalize okV _ _ _ = D
  cases D
  · simp
  · simp only [Bool.not_true, Bool.false_eq_true, if_false, if_true, List.length_drop]
    refine ⟨trivial, ?_⟩
    omega

set_option maxHeartbeats 4000000 in
set_option maxRecDepth 100000 in
theorem GetValue_calls (A : Option Addr) (m c : Nat) (l : List UInt8) (w : World) (B : Nat) (hR : Reads w B 1 A m (bys l)) (hB : B ≤ w.heap.size) (hm : m ≤ 1000000000) (hmc : m ≤ c) :
    Calls Try.prog 146 #[.slice A m c] w fun e w' => e = .returned (.tuple #[vd (rdV l false).1, .int .i64 (getVK l : Nat)]) ∧ Below w.heap.size w w' := by
  have hl : l.length = m := by simpa using hR.len
  have HV1 := Lib.hid (@getV_bad1 l)
  have HV2 := Lib.hid (@getV_bad2 l)
  have HV3 := Lib.hid (@getV_bad3 l)
  have HV4 := Lib.hid (@getV_last l)
  have hx0 := Blk.new w 156 #[.int .i64 0, .int .i64 0, .string { data := #[] }]
  have hb0 : Below w.heap.size w (w.alloc (.cells #[.int .i64 0, .int .i64 0, .string { data := #[] }] 156)) := (Below.refl _ _).alloc (Nat.le_refl _) _
  have hK1 := getK_le l
  have hN1 := rdN_lt l false
  go_enter Try.func146, Try.ntmps146
  go_wp2_with fail
  refine (Get_calls A m c l _ B (hR.below hb0 hB) (by simp; omega) hm hmc).mono ?_
  rintro e w1 ⟨rfl, hb1⟩
  have hx1 := hx0.below hb1 hx0.lt
  have hbw1 := hb0.trans (hb1.mono hb0.size)
  have hz1 := hbw1.size
  clear hx0 hb0 hb1
  have HL1 := Lib.hid (Eq.refl (l.drop (getK l)))
  by_cases hk : getK l = 0
  · have hk' : ((getK l : Int) == 0) = true := by simp [hk]
    have y0 := hx1.cell 0
    have y1 := hx1.cell 1
    have y2 := hx1.cell 2
    have z0 := hx1.frozen 0
    have z1 := hx1.frozen 1
    have z2 := hx1.frozen 2
    simp at y0 y1 y2
    go_wp2
    have hx5 := ((hx1.set_ 0 (.int .i64 0)).set_ 1 (.int .i64 0)).set_ 2 (.string { data := #[] })
    have e0 := hx5.cell 0
    have e1 := hx5.cell 1
    have e2 := hx5.cell 2
    simp at e0 e1 e2
    try simp only [Exit.jump]
    refine bodyPost_ret (v := .tuple #[vd (0, 0, []), .int .i64 0]) (by simp [results, Try.results146, go_sem, e0, e1, e2]) rfl ?_
    rw [(HV1.out (.inl hk)).1, (HV1.out (.inl hk)).2]
    exact ⟨rfl, ((hbw1.setCell (by simp) _).setCell (by simp) _).setCell (by simp) _⟩
  have hk' : ((getK l : Int) == 0) = false := by simp [hk]
  by_cases hk3 : 3 < (rdN l false).1
  · have hk3' : (3 : Int) < ((rdN l false).1 : Int) := by omega
    have y0 := hx1.cell 0
    have y1 := hx1.cell 1
    have y2 := hx1.cell 2
    have z0 := hx1.frozen 0
    have z1 := hx1.frozen 1
    have z2 := hx1.frozen 2
    simp at y0 y1 y2
    go_wp2
    have hx5 := ((hx1.set_ 0 (.int .i64 0)).set_ 1 (.int .i64 0)).set_ 2 (.string { data := #[] })
    have e0 := hx5.cell 0
    have e1 := hx5.cell 1
    have e2 := hx5.cell 2
    simp at e0 e1 e2
    try simp only [Exit.jump]
    refine bodyPost_ret (v := .tuple #[vd (0, 0, []), .int .i64 0]) (by simp [results, Try.results146, go_sem, e0, e1, e2]) rfl ?_
    rw [(HV1.out (.inr hk3)).1, (HV1.out (.inr hk3)).2]
    exact ⟨rfl, ((hbw1.setCell (by simp) _).setCell (by simp) _).setCell (by simp) _⟩
  have hk3' : ¬ (3 : Int) < ((rdN l false).1 : Int) := by omega
  have hR1 := (hR.below hbw1 hB).post (A' := if c = getK l then A else A.map (·.add (getK l))) (getK l) (by intro h; rw [if_neg (by omega)])
  have hl1 : (l.drop (getK l)).length = m - getK l := by simp; omega
  have hK2 := getK_le (l.drop (getK l))
  have hN2 := rdN_lt (l.drop (getK l)) false
  rw [hl] at hK1
  rw [hl1] at hK2
  have HK1 := Lib.hid (Eq.refl (getK l))
  go_upto_region 4 with (fail)
  go_cut [0, 6, 7] from 11 to 29 (fun s n k wc => s = .slice A m c ∧ n = .int .u64 ((rdN (l.drop (getK l)) false).1 : Nat) ∧ k = .int .i64 (getK (l.drop (getK l)) : Nat) ∧ Blk wc w.heap.size 156 #[.int .i64 0, .int .i64 0, .string { data := #[] }] ∧ Below w.heap.size w wc)
  case first =>
    by_cases hcK : c = getK l
    all_goals
      first | rw [if_pos hcK] at hR1 | rw [if_neg hcK] at hR1
      go_wp2_with fail
      refine (Get_calls _ _ _ _ _ B hR1 (by omega) (by omega) (by omega)).mono ?_
      rintro e w2 ⟨rfl, hb2⟩
      have hx2 := hx1.below hb2 hx1.lt
      have hbw2 := hbw1.trans (hb2.mono hbw1.size)
      go_wp2
      go_meet
      case rel => exact ⟨by first | rfl | rw [hcK], rfl, rfl, hx2, hbw2⟩
  case rest =>
  obtain ⟨rfl, rfl, rfl, hx2, hbw2⟩ := hcut
  clear hR1 hbw1 hz1 hx1
  have hz2 := hbw2.size
  by_cases hk2 : getK (l.drop (getK l)) = 0
  · have hk2' : ((getK (l.drop (getK l)) : Int) == 0) = true := by simp [hk2]
    have y0 := hx2.cell 0
    have y1 := hx2.cell 1
    have y2 := hx2.cell 2
    have z0 := hx2.frozen 0
    have z1 := hx2.frozen 1
    have z2 := hx2.frozen 2
    simp at y0 y1 y2
    go_wp2
    have hx5 := ((hx2.set_ 0 (.int .i64 0)).set_ 1 (.int .i64 0)).set_ 2 (.string { data := #[] })
    have e0 := hx5.cell 0
    have e1 := hx5.cell 1
    have e2 := hx5.cell 2
    simp at e0 e1 e2
    try simp only [Exit.jump]
    refine bodyPost_ret (v := .tuple #[vd (0, 0, []), .int .i64 0]) (by simp [results, Try.results146, go_sem, e0, e1, e2]) rfl ?_
    rw [(HV2.out hk hk2).1, (HV2.out hk hk2).2]
    exact ⟨rfl, ((hbw2.setCell (by simp) _).setCell (by simp) _).setCell (by simp) _⟩
  have hk2' : ((getK (l.drop (getK l)) : Int) == 0) = false := by simp [hk2]
  have hR2 := (hR.below hbw2 hB).post (A' := if c = getK l + getK (l.drop (getK l)) then A else A.map (·.add (getK l + getK (l.drop (getK l))))) (getK l + getK (l.drop (getK l))) (by intro h; rw [if_neg (by omega)])
  rw [← List.drop_drop] at hR2
  have hdd := Lib.hid (Eq.refl ((l.drop (getK l)).drop (getK (l.drop (getK l)))))
  generalize hL2 : (l.drop (getK l)).drop (getK (l.drop (getK l))) = L2 at *
  have HL2 := Lib.hid hL2
  have hl2 : L2.length = m - (getK l + getK (l.drop (getK l))) := by rw [← hL2]; simp; omega
  have hBK := getBK_le 40 L2
  rw [hl2] at hBK
  clear hL2
  go_upto_region 7 with (fail)
  go_cut [0, 8, 9] from 11 to 41 (fun s n k wc => s = .slice A m c ∧ sl (rdB 40 L2 false).1 n wc ∧ k = .int .i64 (getBK 40 L2 : Nat) ∧ Blk wc w.heap.size 156 #[.int .i64 0, .int .i64 0, .string { data := #[] }] ∧ Below w.heap.size w wc)
  case first =>
    by_cases hcK : c = getK l + getK (l.drop (getK l))
    all_goals
      first | rw [if_pos hcK] at hR2 | rw [if_neg hcK] at hR2
      go_wp2_with fail
      refine (GetBytes_calls _ _ _ _ 40 _ B hR2 (by omega) (by omega) (by omega) (by omega) (by omega)).mono ?_
      rintro e w3 ⟨A3, c3, rfl, hr3, hc3, hb3⟩
      have hx3 := hx2.below hb3 hx2.lt
      have hbw3 := hbw2.trans (hb3.mono hbw2.size)
      go_wp2
      go_meet
      case rel => exact ⟨by first | rfl | rw [hcK], ⟨A3, c3, rfl, hr3.more (Nat.le_trans hB hbw3.size)⟩, rfl, hx3, hbw3⟩
  case rest =>
  obtain ⟨rfl, hs3, rfl, hx3, hbw3⟩ := hcut
  clear hR2 hbw2 hz2 hx2
  have hz3 := hbw3.size
  by_cases hk4 : getBK 40 L2 = 0
  · have hk4' : ((getBK 40 L2 : Int) == 0) = true := by simp [hk4]
    have y0 := hx3.cell 0
    have y1 := hx3.cell 1
    have y2 := hx3.cell 2
    have z0 := hx3.frozen 0
    have z1 := hx3.frozen 1
    have z2 := hx3.frozen 2
    simp at y0 y1 y2
    go_wp2
    have hx5 := ((hx3.set_ 0 (.int .i64 0)).set_ 1 (.int .i64 0)).set_ 2 (.string { data := #[] })
    have e0 := hx5.cell 0
    have e1 := hx5.cell 1
    have e2 := hx5.cell 2
    simp at e0 e1 e2
    try simp only [Exit.jump]
    refine bodyPost_ret (v := .tuple #[vd (0, 0, []), .int .i64 0]) (by simp [results, Try.results146, go_sem, e0, e1, e2]) rfl ?_
    rw [(HV3.out hk hk2 hk4).1, (HV3.out hk hk2 hk4).2]
    exact ⟨rfl, ((hbw3.setCell (by simp) _).setCell (by simp) _).setCell (by simp) _⟩
  have hk4' : ((getBK 40 L2 : Int) == 0) = false := by simp [hk4]
  have HV := Lib.hid (HV4.out hk hk3 hk2 hk4)
  clear HV1 HV2 HV3 HV4 hdd HL1 HK1
  have hlast : okV ((rdN l false).1 : Nat) (rdVn (rdN l false).1 (rdN (l.drop (getK l)) false).1) ⟨(rdB 40 L2 false).1.toArray⟩ = true → True := fun _ => trivial
  clear hlast
  have hst : (convert 30 9 u8).run Try.prog wc = .ok (.string ⟨(rdB 40 L2 false).1.toArray⟩) wc := str hs3
  generalize (rdB 40 L2 false).1 = bs at *
  generalize hK1g : getK l = K1 at *
  generalize hK2g : getK (l.drop K1) = K2 at *
  generalize (rdN l false).1 = N1 at *
  generalize (rdN (l.drop K1) false).1 = N2 at *
  generalize getBK 40 L2 = K3 at *
  generalize hRg : rdVn N1 N2 = R at *
  by_cases hn1 : N1 = 1
  · have hn1' : ((N1 : Int) == 1) = true := by simp [hn1]
    by_cases hodd : N2 % 2 = 1
    · have hb : (((N2 : Int) % 2) == 1) = true := by simp; omega
      have hR2 : -((N2 : Int) / 2) - 1 = R := by rw [← hRg]; simp [rdVn, unfoldI, hodd, hn1]
      have HR := Lib.hid hR2
      clear hR2 hRg hn1
      go_upto_region 15 with (fail)
      simp only [HR.out]
      have hy4 := Blk.new wc 156 #[.int .i64 (N1 : Int), .int .i64 R, .string { data := bs.toArray }]
      have hb4 : Below wc.heap.size wc (wc.alloc (.cells #[.int .i64 (N1 : Int), .int .i64 R, .string { data := bs.toArray }] 156)) := (Below.refl _ _).alloc (Nat.le_refl _) _
      generalize wc.alloc _ = W4 at *
      have hv4 := hy4.lt
      have hbw4 : Below w.heap.size w W4 := hbw3.trans (hb4.mono hz3)
      have hx4 := hx3.below hb4 hx3.lt
      have hne : w.heap.size ≠ wc.heap.size := by have := hx3.lt; omega
      clear hb4
      have q0 := hy4.cell 0
      have q1 := hy4.cell 1
      have q2 := hy4.cell 2
      simp at q0 q1 q2
      go_wp2_with fail
      refine (RefCheck_calls _ _ _ _).mono ?_
      rintro e W5 ⟨rfl, hb5⟩
      have hy5 := hy4.below hb5 hv4
      have hx5 := hx4.below hb5 hx4.lt
      have hbw5 := hbw4.trans (hb5.mono hbw4.size)
      clear hb5 hx4 hy4 hbw4 q0 q1 q2
      have q0 := hy5.cell 0
      have q1 := hy5.cell 1
      have q2 := hy5.cell 2
      have y0 := hx5.cell 0
      have y1 := hx5.cell 1
      have y2 := hx5.cell 2
      have z0 := hx5.frozen 0
      have z1 := hx5.frozen 1
      have z2 := hx5.frozen 2
      simp at q0 q1 q2 y0 y1 y2
      cases hok : okV (N1 : Int) R ⟨bs.toArray⟩ with
      | false =>
        have hch : (chk (N1 : Int) R ⟨bs.toArray⟩ != 0) = true := by simp [chk, hok]
        go_wp2
        have hx6 := ((hx5.set_ 0 (.int .i64 0)).set_ 1 (.int .i64 0)).set_ 2 (.string { data := #[] })
        have e0 := hx6.cell 0
        have e1 := hx6.cell 1
        have e2 := hx6.cell 2
        simp at e0 e1 e2
        try simp only [Exit.jump]
        refine bodyPost_ret (v := .tuple #[vd (0, 0, []), .int .i64 0]) (by simp [results, Try.results146, go_sem, e0, e1, e2]) rfl ?_
        rw [HV.out.1, HV.out.2, hok]
        exact ⟨rfl, ((hbw5.setCell (by simp) _).setCell (by simp) _).setCell (by simp) _⟩
      | true =>
        have hch : (chk (N1 : Int) R ⟨bs.toArray⟩ != 0) = false := by simp [chk, hok]
        go_wp2
        have hx6 := ((hx5.set_ 0 (.int .i64 (N1 : Int))).set_ 1 (.int .i64 R)).set_ 2 (.string { data := bs.toArray })
        have e0 := hx6.cell 0
        have e1 := hx6.cell 1
        have e2 := hx6.cell 2
        simp at e0 e1 e2
        try simp only [Exit.jump]
        refine bodyPost_ret (v := .tuple #[vd (N1, R, bs), .int .i64 ((K1 : Int) + (K2 : Int) + (K3 : Int))]) (by simp [results, Try.results146, go_sem, e0, e1, e2]) rfl ?_
        rw [HV.out.1, HV.out.2, hok]
        exact ⟨by simp, ((hbw5.setCell (by simp) _).setCell (by simp) _).setCell (by simp) _⟩
    · have hb : (((N2 : Int) % 2) == 1) = false := by simp; omega
      have hR2 : (N2 : Int) / 2 = R := by rw [← hRg]; simp [rdVn, unfoldI, hodd, hn1]
      have HR := Lib.hid hR2
      clear hR2 hRg hn1
      go_upto_region 15 with (fail)
      simp only [HR.out]
      have hy4 := Blk.new wc 156 #[.int .i64 (N1 : Int), .int .i64 R, .string { data := bs.toArray }]
      have hb4 : Below wc.heap.size wc (wc.alloc (.cells #[.int .i64 (N1 : Int), .int .i64 R, .string { data := bs.toArray }] 156)) := (Below.refl _ _).alloc (Nat.le_refl _) _
      generalize wc.alloc _ = W4 at *
      have hv4 := hy4.lt
      have hbw4 : Below w.heap.size w W4 := hbw3.trans (hb4.mono hz3)
      have hx4 := hx3.below hb4 hx3.lt
      have hne : w.heap.size ≠ wc.heap.size := by have := hx3.lt; omega
      clear hb4
      have q0 := hy4.cell 0
      have q1 := hy4.cell 1
      have q2 := hy4.cell 2
      simp at q0 q1 q2
      go_wp2_with fail
      refine (RefCheck_calls _ _ _ _).mono ?_
      rintro e W5 ⟨rfl, hb5⟩
      have hy5 := hy4.below hb5 hv4
      have hx5 := hx4.below hb5 hx4.lt
      have hbw5 := hbw4.trans (hb5.mono hbw4.size)
      clear hb5 hx4 hy4 hbw4 q0 q1 q2
      have q0 := hy5.cell 0
      have q1 := hy5.cell 1
      have q2 := hy5.cell 2
      have y0 := hx5.cell 0
      have y1 := hx5.cell 1
      have y2 := hx5.cell 2
      have z0 := hx5.frozen 0
      have z1 := hx5.frozen 1
      have z2 := hx5.frozen 2
      simp at q0 q1 q2 y0 y1 y2
      cases hok : okV (N1 : Int) R ⟨bs.toArray⟩ with
      | false =>
        have hch : (chk (N1 : Int) R ⟨bs.toArray⟩ != 0) = true := by simp [chk, hok]
        go_wp2
        have hx6 := ((hx5.set_ 0 (.int .i64 0)).set_ 1 (.int .i64 0)).set_ 2 (.string { data := #[] })
        have e0 := hx6.cell 0
        have e1 := hx6.cell 1
        have e2 := hx6.cell 2
        simp at e0 e1 e2
        try simp only [Exit.jump]
        refine bodyPost_ret (v := .tuple #[vd (0, 0, []), .int .i64 0]) (by simp [results, Try.results146, go_sem, e0, e1, e2]) rfl ?_
        rw [HV.out.1, HV.out.2, hok]
        exact ⟨rfl, ((hbw5.setCell (by simp) _).setCell (by simp) _).setCell (by simp) _⟩
      | true =>
        have hch : (chk (N1 : Int) R ⟨bs.toArray⟩ != 0) = false := by simp [chk, hok]
        go_wp2
        have hx6 := ((hx5.set_ 0 (.int .i64 (N1 : Int))).set_ 1 (.int .i64 R)).set_ 2 (.string { data := bs.toArray })
        have e0 := hx6.cell 0
        have e1 := hx6.cell 1
        have e2 := hx6.cell 2
        simp at e0 e1 e2
        try simp only [Exit.jump]
        refine bodyPost_ret (v := .tuple #[vd (N1, R, bs), .int .i64 ((K1 : Int) + (K2 : Int) + (K3 : Int))]) (by simp [results, Try.results146, go_sem, e0, e1, e2]) rfl ?_
        rw [HV.out.1, HV.out.2, hok]
        exact ⟨by simp, ((hbw5.setCell (by simp) _).setCell (by simp) _).setCell (by simp) _⟩
  · have hR1 : wrap64 (N2 : Int) = R := by rw [← hRg]; simp [rdVn, hn1, toI64, wrap64]
    have hn1' : ((N1 : Int) == 1) = false := by simp; omega
    have HR := Lib.hid hR1
    clear hRg hR1
    go_upto_region 15 with (fail)
    simp only [HR.out]
    have hy4 := Blk.new wc 156 #[.int .i64 (N1 : Int), .int .i64 R, .string { data := bs.toArray }]
    have hb4 : Below wc.heap.size wc (wc.alloc (.cells #[.int .i64 (N1 : Int), .int .i64 R, .string { data := bs.toArray }] 156)) := (Below.refl _ _).alloc (Nat.le_refl _) _
    generalize wc.alloc _ = W4 at *
    have hv4 := hy4.lt
    have hbw4 : Below w.heap.size w W4 := hbw3.trans (hb4.mono hz3)
    have hx4 := hx3.below hb4 hx3.lt
    have hne : w.heap.size ≠ wc.heap.size := by have := hx3.lt; omega
    clear hb4
    have q0 := hy4.cell 0
    have q1 := hy4.cell 1
    have q2 := hy4.cell 2
    simp at q0 q1 q2
    go_wp2_with fail
    refine (RefCheck_calls _ _ _ _).mono ?_
    rintro e W5 ⟨rfl, hb5⟩
    have hy5 := hy4.below hb5 hv4
    have hx5 := hx4.below hb5 hx4.lt
    have hbw5 := hbw4.trans (hb5.mono hbw4.size)
    clear hb5 hx4 hy4 hbw4 q0 q1 q2
    have q0 := hy5.cell 0
    have q1 := hy5.cell 1
    have q2 := hy5.cell 2
    have y0 := hx5.cell 0
    have y1 := hx5.cell 1
    have y2 := hx5.cell 2
    have z0 := hx5.frozen 0
    have z1 := hx5.frozen 1
    have z2 := hx5.frozen 2
    simp at q0 q1 q2 y0 y1 y2
    cases hok : okV (N1 : Int) R ⟨bs.toArray⟩ with
    | false =>
      have hch : (chk (N1 : Int) R ⟨bs.toArray⟩ != 0) = true := by simp [chk, hok]
      go_wp2
      have hx6 := ((hx5.set_ 0 (.int .i64 0)).set_ 1 (.int .i64 0)).set_ 2 (.string { data := #[] })
      have e0 := hx6.cell 0
      have e1 := hx6.cell 1
      have e2 := hx6.cell 2
      simp at e0 e1 e2
      try simp only [Exit.jump]
      refine bodyPost_ret (v := .tuple #[vd (0, 0, []), .int .i64 0]) (by simp [results, Try.results146, go_sem, e0, e1, e2]) rfl ?_
      rw [HV.out.1, HV.out.2, hok]
      exact ⟨rfl, ((hbw5.setCell (by simp) _).setCell (by simp) _).setCell (by simp) _⟩
    | true =>
      have hch : (chk (N1 : Int) R ⟨bs.toArray⟩ != 0) = false := by simp [chk, hok]
      go_wp2
      have hx6 := ((hx5.set_ 0 (.int .i64 (N1 : Int))).set_ 1 (.int .i64 R)).set_ 2 (.string { data := bs.toArray })
      have e0 := hx6.cell 0
      have e1 := hx6.cell 1
      have e2 := hx6.cell 2
      simp at e0 e1 e2
      try simp only [Exit.jump]
      refine bodyPost_ret (v := .tuple #[vd (N1, R, bs), .int .i64 ((K1 : Int) + (K2 : Int) + (K3 : Int))]) (by simp [results, Try.results146, go_sem, e0, e1, e2]) rfl ?_
      rw [HV.out.1, HV.out.2, hok]
      exact ⟨by simp, ((hbw5.setCell (by simp) _).setCell (by simp) _).setCell (by simp) _⟩
theorem getVK_good {l : List UInt8} (h : ¬ getVK l = 0) : rdV l false = ((rdV l false).1, l.drop (getVK l), false) ∧ getVK l ≤ l.length := by
  cases hd : (rdV l false).2.2 with
  | true => exact absurd (by simp [getVK, hd]) h
  | false =>
    have hb := (rdV_back hd).1
    have hl := congrArg List.length hb
    rw [List.length_append] at hl
    generalize hp : packV (rdV l false).1.1 (rdV l false).1.2.1 ⟨(rdV l false).1.2.2.toArray⟩ = p at *
    have hk : getVK l = p.length := by simp [getVK, hd]; omega
    have hdrop : l.drop (getVK l) = (rdV l false).2.1 := by
      rw [hk]
      calc l.drop p.length = (p ++ (rdV l false).2.1).drop p.length := by rw [← hb]
        _ = _ := by simp
    exact ⟨Prod.ext rfl (Prod.ext hdrop.symm hd), by omega⟩
theorem getVK_bad {l : List UInt8} (h : getVK l = 0) : (rdV l false).2.2 = true := by
  cases hd : (rdV l false).2.2 with
  | true => rfl
  | false =>
    exfalso
    have hb := (rdV_back hd).1
    have hl := congrArg List.length hb
    rw [List.length_append] at hl
    have : 0 < (packV (rdV l false).1.1 (rdV l false).1.2.1 ⟨(rdV l false).1.2.2.toArray⟩).length := by simp [packV, packN]
    simp [getVK, hd] at h
    omega
end Go.Proofs.Ythnhdeieimgfhaa
