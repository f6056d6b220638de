/-
  The walk of the document's test, Get and Decode of filters (layer 5). Conditions: at most 10^9 bytes.
-/
import Derived.Test.YthnhdeieimgfhaaFA
import Derived.Test.YthnhdeieimgfhaaRfC
import Derived.Test.YthnhdeieimgfhaaRefC
import Derived.Deep.CutRange
import Derived.Deep.LoopGhost
namespace Go.Proofs.Ythnhdeieimgfhaa
open Go Go.RowKit

abbrev tst0 : Tst := (⟨#[]⟩, 0, 0, 0, ⟨#[]⟩)
def tstK (l : List UInt8) : Nat := if (rdT l false).2.2 then 0 else l.length - (rdT l false).2.1.length
def tstX (l : List UInt8) : Tst := if (rdT l false).2.2 then tst0 else (rdT l false).1
theorem tst_bad {l : List UInt8} (h : (rdT l false).2.2 = true) : tstX l = tst0 ∧ tstK l = 0 := by simp [tstX, tstK, h]
theorem rdN_tr (l : List UInt8) : (rdN l true).2.2 = true := by rw [rdN_true]
theorem rdV_tr (l : List UInt8) : (rdV l true).2.2 = true := by
  cases h : (rdV l true).2.2 with
  | true => rfl
  | false => obtain ⟨_, _, w, _⟩ := rdV_back h; cases w
theorem rdT_bad (l : List UInt8) (wr : Bool) (h : (rdN (rdB 16 l wr).2.1 (rdB 16 l wr).2.2).2.2 = true) : (rdT l wr).2.2 = true := by
  unfold rdT
  split
  · rfl
  · split
    · exact h
    · rw [h]; exact rdV_tr _
theorem tst_bad1 {l : List UInt8} (h : getBK 16 l = 0) : tstX l = tst0 ∧ tstK l = 0 := by
  refine tst_bad (rdT_bad _ _ ?_)
  rw [getBK_bad h]; exact rdN_tr _
theorem tst_bad2 {l : List UInt8} (h : ¬ getBK 16 l = 0) (h2 : getK (l.drop (getBK 16 l)) = 0 ∨ 8 < (rdN (l.drop (getBK 16 l)) false).1) : tstX l = tst0 ∧ tstK l = 0 := by
  refine tst_bad ?_
  rcases h2 with h2 | h2
  · refine rdT_bad _ _ ?_
    rw [getBK_good h]; exact getK_bad h2
  · refine rdT_more _ _ ?_
    rw [getBK_good h]; exact h2
theorem getK_len {l : List UInt8} : (l.drop (getK l)).length = l.length - getK l := by simp
theorem tst_eight {l : List UInt8} (h : ¬ getBK 16 l = 0) (h2 : ¬ getK (l.drop (getBK 16 l)) = 0) (h8 : (rdN (l.drop (getBK 16 l)) false).1 = 8) :
    tstX l = (⟨(rdB 16 l false).1.toArray⟩, 8, 0, 0, ⟨#[]⟩) ∧ tstK l = getBK 16 l + getK (l.drop (getBK 16 l)) := by
  have e := rdT_eight l false (by rw [getBK_good h]; exact h8)
  have e2 : (rdN (rdB 16 l false).2.1 (rdB 16 l false).2.2).2 = ((l.drop (getBK 16 l)).drop (getK (l.drop (getBK 16 l))), false) := by
    rw [getBK_good h]
    simp only
    rw [getK_good h2]
  rw [e2] at e
  have hk := getBK_le 16 l
  have hk2 := getK_le (l.drop (getBK 16 l))
  simp only [List.length_drop] at hk2
  constructor
  · simp [tstX, e]
  · simp [tstK, e]; omega
theorem tst_bad3 {l : List UInt8} (h : ¬ getBK 16 l = 0) (h2 : ¬ getK (l.drop (getBK 16 l)) = 0) (h8 : (rdN (l.drop (getBK 16 l)) false).1 < 8)
    (h3 : getVK ((l.drop (getBK 16 l)).drop (getK (l.drop (getBK 16 l)))) = 0) : tstX l = tst0 ∧ tstK l = 0 := by
  refine tst_bad ?_
  rw [rdT_less l false (by rw [getBK_good h]; exact h8)]
  simp only
  rw [getBK_good h]
  simp only
  rw [getK_good h2]
  exact getVK_bad h3
theorem tst_less {l : List UInt8} (h : ¬ getBK 16 l = 0) (h2 : ¬ getK (l.drop (getBK 16 l)) = 0) (h8 : (rdN (l.drop (getBK 16 l)) false).1 < 8)
    (h3 : ¬ getVK ((l.drop (getBK 16 l)).drop (getK (l.drop (getBK 16 l)))) = 0) :
    tstX l = (⟨(rdB 16 l false).1.toArray⟩, ((rdN (l.drop (getBK 16 l)) false).1 : Int), (rdV ((l.drop (getBK 16 l)).drop (getK (l.drop (getBK 16 l)))) false).1.1, (rdV ((l.drop (getBK 16 l)).drop (getK (l.drop (getBK 16 l)))) false).1.2.1, ⟨(rdV ((l.drop (getBK 16 l)).drop (getK (l.drop (getBK 16 l)))) false).1.2.2.toArray⟩) ∧
      tstK l = getBK 16 l + getK (l.drop (getBK 16 l)) + getVK ((l.drop (getBK 16 l)).drop (getK (l.drop (getBK 16 l)))) := by
  have e := rdT_less l false (by rw [getBK_good h]; exact h8)
  have hn : (rdN (rdB 16 l false).2.1 (rdB 16 l false).2.2) = ((rdN (l.drop (getBK 16 l)) false).1, (l.drop (getBK 16 l)).drop (getK (l.drop (getBK 16 l))), false) := by
    rw [getBK_good h]
    simp only
    exact getK_good h2
  rw [hn] at e
  simp only at e
  obtain ⟨g1, g2⟩ := getVK_good h3
  have hk := getBK_le 16 l
  have hk2 := getK_le (l.drop (getBK 16 l))
  simp only [List.length_drop] at hk2 g2
  have e2 : (rdT l false).2 = (((l.drop (getBK 16 l)).drop (getK (l.drop (getBK 16 l)))).drop (getVK ((l.drop (getBK 16 l)).drop (getK (l.drop (getBK 16 l))))), false) := by
    rw [e]; simp only; rw [g1]
  constructor
  · simp [tstX, e2]; rw [e]; simp
  · unfold tstK
    rw [e2]
    simp only [List.length_drop, Bool.false_eq_true, if_false]
    omega


set_option maxHeartbeats 1000000 in
set_option maxRecDepth 100000 in
theorem RefTest_calls (A : Option Addr) (c : Nat) (l : List UInt8) (w : World) (B : Nat) (hR : Reads w B 1 A l.length (bys l)) (hB : B ≤ w.heap.size) (hn : l.length ≤ 1000000000) (hnc : l.length ≤ c) :
    Calls Try.prog 147 #[.slice A l.length c] w fun e w' => e = .returned (.tuple #[tstv (tstX l), .int .i64 (tstK l : Nat)]) ∧ Below w.heap.size w w' := by
  have T1 := Lib.hid (@tst_bad1 l)
  have T2 := Lib.hid (@tst_bad2 l)
  have T8 := Lib.hid (@tst_eight l)
  have T3 := Lib.hid (@tst_bad3 l)
  have TL := Lib.hid (@tst_less l)
  have hK1 := getBK_le 16 l
  have hx0 := Blk.new w 162 #[.string ⟨#[]⟩, .int .i64 0, .int .i64 0, .int .i64 0, .string ⟨#[]⟩]
  have hb0 : Below w.heap.size w (w.alloc (.cells #[.string ⟨#[]⟩, .int .i64 0, .int .i64 0, .int .i64 0, .string ⟨#[]⟩] 162)) := (Below.refl _ _).alloc (Nat.le_refl _) _
  have hgz : w.heap.size < (w.alloc (.cells #[.string ⟨#[]⟩, .int .i64 0, .int .i64 0, .int .i64 0, .string ⟨#[]⟩] 162)).heap.size := by simp
  have hgw : w.heap.size ≤ w.heap.size := Nat.le_refl _
  have hR0 := hR.below hb0 hB
  have C1 := Lib.hid (GetBytes_calls A l.length c l 16 _ B hR0 (by omega) hn hnc (by omega) (by omega))
  clear hR
  go_enter Try.func147, Try.ntmps147
  go_wp2_with fail
  refine C1.out.mono ?_
  generalize w.alloc (.cells #[.string ⟨#[]⟩, .int .i64 0, .int .i64 0, .int .i64 0, .string ⟨#[]⟩] 162) = w0 at *
  rintro e w1 ⟨A1, c1, rfl, hr1, hc1, hb1⟩
  have hx1 := hx0.below hb1 hgz
  have hbw1 := hb0.trans (hb1.mono hb0.size)
  have hR1 := hR0.below hb1 (by omega)
  have hz1 := hb1.size
  clear hx0 hb0 hR0 C1
  have q0 := hx1.cell 0
  have q1 := hx1.cell 1
  have q2 := hx1.cell 2
  have q3 := hx1.cell 3
  have q4 := hx1.cell 4
  have z0 := hx1.frozen 0
  have z1 := hx1.frozen 1
  have z2 := hx1.frozen 2
  have z3 := hx1.frozen 3
  have z4 := hx1.frozen 4
  simp at q0 q1 q2 q3 q4
  by_cases hk1 : getBK 16 l = 0
  · have hk1' : ((getBK 16 l : Int) == 0) = true := by simp [hk1]
    obtain ⟨hX, hK⟩ := T1.out hk1
    have HX := Lib.hid hX
    have HK := Lib.hid hK
    clear hX hK
    generalize getBK 16 l = K1 at *
    go_wp2
    have hz := ((((hx1.set_ 0 (.string ⟨#[]⟩)).set_ 1 (.int .i64 0)).set_ 2 (.int .i64 0)).set_ 3 (.int .i64 0)).set_ 4 (.string ⟨#[]⟩)
    have g0 := hz.cell 0
    have g1 := hz.cell 1
    have g2 := hz.cell 2
    have g3 := hz.cell 3
    have g4 := hz.cell 4
    simp at g0 g1 g2 g3 g4
    refine bodyPost_ret (v := .tuple #[tstv (⟨#[]⟩, 0, 0, 0, ⟨#[]⟩), .int .i64 (0 : Nat)]) (by simp [results, Try.results147, go_sem, g0, g1, g2, g3, g4]) rfl ⟨by rw [HX.out, HK.out], ?_⟩
    exact ((((hbw1.setCell hgw _).setCell hgw _).setCell hgw _).setCell hgw _).setCell hgw _
  have hk1' : ((getBK 16 l : Int) == 0) = false := by simp [hk1]
  replace T2 := Lib.hid (T2.out hk1)
  replace T8 := Lib.hid (T8.out hk1)
  replace T3 := Lib.hid (T3.out hk1)
  replace TL := Lib.hid (TL.out hk1)
  have hs1 : sl (rdB 16 l false).1 (.slice A1 (rdB 16 l false).1.length c1) w1 := ⟨A1, c1, rfl, hr1.more (by omega)⟩
  have hRp := hR1.post (A' := if c = getBK 16 l then A else A.map (·.add (getBK 16 l))) (getBK 16 l) (by intro h; rw [if_neg (by omega)])
  have hdl : (l.drop (getBK 16 l)).length = l.length - getBK 16 l := by simp
  have HDD := Lib.hid (fun j => @List.drop_drop UInt8 j (getBK 16 l) l)
  have HDL := Lib.hid hdl
  have hlt2 := rdN_lt (l.drop (getBK 16 l)) false
  have hK2 := getK_le (l.drop (getBK 16 l))
  rw [hdl] at hK2
  clear hk1 hdl hr1 T1
  generalize (rdB 16 l false).1 = nm at *
  generalize getBK 16 l = K1 at *
  generalize l.drop K1 = l1 at *
  by_cases hcK : c = K1
  all_goals
    first | rw [if_pos hcK] at hRp | rw [if_neg hcK] at hRp
    go_wp2_with fail
    refine (Get_calls _ _ _ l1 w1 B hRp (by omega) (by omega) (by omega)).mono ?_
    rintro e w2 ⟨rfl, hb2⟩
    have hx2 := hx1.below hb2 (by omega)
    have hbw2 := hbw1.trans (hb2.mono hbw1.size)
    have hR2 := hR1.below hb2 (by omega)
    have hz2 := hb2.size
    have hs2 := sl_st _ _ _ _ hs1 hb2
    clear hx1 hbw1 hs1 hb1 hRp hR1 q0 q1 q2 q3 q4 z0 z1 z2 z3 z4 hb2
    have q0 := hx2.cell 0
    have q1 := hx2.cell 1
    have q2 := hx2.cell 2
    have q3 := hx2.cell 3
    have q4 := hx2.cell 4
    have z0 := hx2.frozen 0
    have z1 := hx2.frozen 1
    have z2 := hx2.frozen 2
    have z3 := hx2.frozen 3
    have z4 := hx2.frozen 4
    simp at q0 q1 q2 q3 q4
    by_cases hk2 : getK l1 = 0
    · have hk2' : ((getK l1 : Int) == 0) = true := by simp [hk2]
      obtain ⟨hX, hK⟩ := T2.out (.inl hk2)
      have HX := Lib.hid hX
      have HK := Lib.hid hK
      clear hX hK
      generalize getK l1 = K2 at *
      go_wp2
      have hz := ((((hx2.set_ 0 (.string ⟨#[]⟩)).set_ 1 (.int .i64 0)).set_ 2 (.int .i64 0)).set_ 3 (.int .i64 0)).set_ 4 (.string ⟨#[]⟩)
      have g0 := hz.cell 0
      have g1 := hz.cell 1
      have g2 := hz.cell 2
      have g3 := hz.cell 3
      have g4 := hz.cell 4
      simp at g0 g1 g2 g3 g4
      refine bodyPost_ret (v := .tuple #[tstv (⟨#[]⟩, 0, 0, 0, ⟨#[]⟩), .int .i64 (0 : Nat)]) (by simp [results, Try.results147, go_sem, g0, g1, g2, g3, g4]) rfl ⟨by rw [HX.out, HK.out], ?_⟩
      exact ((((hbw2.setCell hgw _).setCell hgw _).setCell hgw _).setCell hgw _).setCell hgw _
    try (exfalso; omega)
  have hk2' : ((getK l1 : Int) == 0) = false := by simp [hk2]
  by_cases h8 : 8 < (rdN l1 false).1
  · have h8' : (8 : Int) < ((rdN l1 false).1 : Int) := by omega
    obtain ⟨hX, hK⟩ := T2.out (.inr h8)
    have HX := Lib.hid hX
    have HK := Lib.hid hK
    clear hX hK
    generalize (rdN l1 false).1 = op at *
    generalize getK l1 = K2 at *
    go_wp2
    have hz := ((((hx2.set_ 0 (.string ⟨#[]⟩)).set_ 1 (.int .i64 0)).set_ 2 (.int .i64 0)).set_ 3 (.int .i64 0)).set_ 4 (.string ⟨#[]⟩)
    have g0 := hz.cell 0
    have g1 := hz.cell 1
    have g2 := hz.cell 2
    have g3 := hz.cell 3
    have g4 := hz.cell 4
    simp at g0 g1 g2 g3 g4
    refine bodyPost_ret (v := .tuple #[tstv (⟨#[]⟩, 0, 0, 0, ⟨#[]⟩), .int .i64 (0 : Nat)]) (by simp [results, Try.results147, go_sem, g0, g1, g2, g3, g4]) rfl ⟨by rw [HX.out, HK.out], ?_⟩
    exact ((((hbw2.setCell hgw _).setCell hgw _).setCell hgw _).setCell hgw _).setCell hgw _
  have h8' : ¬ (8 : Int) < ((rdN l1 false).1 : Int) := by omega
  have hst := str hs2
  replace T8 := Lib.hid (T8.out hk2)
  replace T3 := Lib.hid (T3.out hk2)
  replace TL := Lib.hid (TL.out hk2)
  have hRq := hR2.post (A' := if c = K1 + getK l1 then A else A.map (·.add (K1 + getK l1))) (K1 + getK l1) (by intro h; rw [if_neg (by omega)])
  rw [← HDD.out] at hRq
  have hdl : (l1.drop (getK l1)).length = l.length - (K1 + getK l1) := by rw [List.length_drop, HDL.out]; omega
  clear hk2 HDD T2
  generalize (rdN l1 false).1 = op at *
  generalize getK l1 = K2 at *
  generalize l1.drop K2 = l2 at *
  have HDM := Lib.hid hdl
  clear hdl
  go_upto_region 8 with (fail)
  have hop : op ≤ 8 := by omega
  have hy3 := Blk.new w2 162 #[.string ⟨nm.toArray⟩, .int .i64 (op : Int), .int .i64 0, .int .i64 0, .string ⟨#[]⟩]
  have hx3 := hx2.alloc (.cells #[.string ⟨nm.toArray⟩, .int .i64 (op : Int), .int .i64 0, .int .i64 0, .string ⟨#[]⟩] 162)
  have hb3 : Below w2.heap.size w2 (w2.alloc (.cells #[.string ⟨nm.toArray⟩, .int .i64 (op : Int), .int .i64 0, .int .i64 0, .string ⟨#[]⟩] 162)) := (Below.refl _ _).alloc (Nat.le_refl _) _
  have hR3 := hRq.below hb3 (by omega)
  have hbw3 := hbw2.trans (hb3.mono hbw2.size)
  have hz3 : w2.heap.size < (w2.alloc (.cells #[.string ⟨nm.toArray⟩, .int .i64 (op : Int), .int .i64 0, .int .i64 0, .string ⟨#[]⟩] 162)).heap.size := by simp
  have hgy : w.heap.size ≠ w2.heap.size := by omega
  have hwy : w.heap.size ≤ w2.heap.size := by omega
  have hby : B ≤ w2.heap.size := by omega
  clear hx2 hbw2 hb3 hRq hR2 hst hs2 q0 q1 q2 q3 q4 z0 z1 z2 z3 z4
  generalize w2.alloc (.cells #[.string ⟨nm.toArray⟩, .int .i64 (op : Int), .int .i64 0, .int .i64 0, .string ⟨#[]⟩] 162) = w3 at *
  generalize w2.heap.size = y at *
  have p0 := hy3.cell 0
  have p1 := hy3.cell 1
  have p2 := hy3.cell 2
  have p3 := hy3.cell 3
  have p4 := hy3.cell 4
  have o0 := hy3.frozen 0
  have o1 := hy3.frozen 1
  have o2 := hy3.frozen 2
  have o3 := hy3.frozen 3
  have o4 := hy3.frozen 4
  simp at p0 p1 p2 p3 p4
  have q0 := hx3.cell 0
  have q1 := hx3.cell 1
  have q2 := hx3.cell 2
  have q3 := hx3.cell 3
  have q4 := hx3.cell 4
  have z0 := hx3.frozen 0
  have z1 := hx3.frozen 1
  have z2 := hx3.frozen 2
  have z3 := hx3.frozen 3
  have z4 := hx3.frozen 4
  simp at q0 q1 q2 q3 q4
  by_cases he : op = 8
  · have he' : ((op : Int) == 8) = true := by simp [he]
    obtain ⟨hX, hK⟩ := T8.out he
    have HX := Lib.hid hX
    have HK := Lib.hid hK
    clear hX hK
    subst he
    go_wp2
    have hz := ((((hx3.set_ 0 (.string ⟨nm.toArray⟩)).set_ 1 (.int .i64 8)).set_ 2 (.int .i64 0)).set_ 3 (.int .i64 0)).set_ 4 (.string ⟨#[]⟩)
    have g0 := hz.cell 0
    have g1 := hz.cell 1
    have g2 := hz.cell 2
    have g3 := hz.cell 3
    have g4 := hz.cell 4
    simp at g0 g1 g2 g3 g4
    refine bodyPost_ret (v := .tuple #[tstv (⟨nm.toArray⟩, 8, 0, 0, ⟨#[]⟩), .int .i64 ((K1 : Int) + (K2 : Int))]) (by simp [results, Try.results147, go_sem, g0, g1, g2, g3, g4]) rfl ⟨by rw [HX.out, HK.out]; simp, ?_⟩
    exact ((((hbw3.setCell hgw _).setCell hgw _).setCell hgw _).setCell hgw _).setCell hgw _
  have hne : ¬ (op : Int) = 8 := by omega
  replace T3 := Lib.hid (T3.out (by omega))
  replace TL := Lib.hid (TL.out (by omega))
  have hK3 : getVK l2 ≤ l2.length := by unfold getVK; split <;> omega
  have hl2 := HDM.out
  have hv9 : l2.length ≤ 1000000000 := by omega
  rw [hl2] at hK3 hv9
  clear hl2 T8
  by_cases hcK : c = K1 + K2
  all_goals
    first | rw [if_pos hcK] at hR3 | rw [if_neg hcK] at hR3
    go_wp2_with fail
    refine (GetValue_calls _ _ _ l2 w3 B hR3 (by omega) hv9 (by omega)).mono ?_
    rintro e w4 ⟨rfl, hb4⟩
    have hx4 := hx3.below hb4 (by omega)
    have hy4 := hy3.below hb4 (by omega)
    have hbw4 := hbw3.trans (hb4.mono hbw3.size)
    have hz4 := hb4.size
    clear hx3 hy3 hbw3 hR3 hb4 q0 q1 q2 q3 q4 z0 z1 z2 z3 z4 p0 p1 p2 p3 p4 o0 o1 o2 o3 o4
    generalize hva : (rdV l2 false).1 = va at *
    have HVA := Lib.hid hva
    clear hva
    obtain ⟨vk, vn, vt⟩ := va
    generalize getVK l2 = K3 at *
    go_upto_region 11 with (fail)
    have hv5 := Blk.new w4 156 #[.int .i64 vk, .int .i64 vn, .string ⟨vt.toArray⟩]
    have hx5 := hx4.alloc (.cells #[.int .i64 vk, .int .i64 vn, .string ⟨vt.toArray⟩] 156)
    have hy5 := hy4.alloc (.cells #[.int .i64 vk, .int .i64 vn, .string ⟨vt.toArray⟩] 156)
    have hb5 : Below w.heap.size w (w4.alloc (.cells #[.int .i64 vk, .int .i64 vn, .string ⟨vt.toArray⟩] 156)) := hbw4.alloc hbw4.size _
    have hyv : y ≠ w4.heap.size := by omega
    clear hx4 hy4 hbw4
    generalize w4.alloc (.cells #[.int .i64 vk, .int .i64 vn, .string ⟨vt.toArray⟩] 156) = w5 at *
    generalize w4.heap.size = vb at *
    have m0 := hv5.cell 0
    have m1 := hv5.cell 1
    have m2 := hv5.cell 2
    simp at m0 m1 m2
    have p0 := hy5.cell 0
    have p1 := hy5.cell 1
    have p2 := hy5.cell 2
    have p3 := hy5.cell 3
    have p4 := hy5.cell 4
    have o0 := hy5.frozen 0
    have o1 := hy5.frozen 1
    have o2 := hy5.frozen 2
    have o3 := hy5.frozen 3
    have o4 := hy5.frozen 4
    simp at p0 p1 p2 p3 p4
    have q0 := hx5.cell 0
    have q1 := hx5.cell 1
    have q2 := hx5.cell 2
    have q3 := hx5.cell 3
    have q4 := hx5.cell 4
    have z0 := hx5.frozen 0
    have z1 := hx5.frozen 1
    have z2 := hx5.frozen 2
    have z3 := hx5.frozen 3
    have z4 := hx5.frozen 4
    simp at q0 q1 q2 q3 q4
    by_cases hk3 : K3 = 0
    · have hk3' : ((K3 : Int) == 0) = true := by simp [hk3]
      obtain ⟨hX, hK⟩ := T3.out hk3
      have HX := Lib.hid hX
      have HK := Lib.hid hK
      clear hX hK
      go_wp2
      have hz := ((((hx5.set_ 0 (.string ⟨#[]⟩)).set_ 1 (.int .i64 0)).set_ 2 (.int .i64 0)).set_ 3 (.int .i64 0)).set_ 4 (.string ⟨#[]⟩)
      have g0 := hz.cell 0
      have g1 := hz.cell 1
      have g2 := hz.cell 2
      have g3 := hz.cell 3
      have g4 := hz.cell 4
      simp at g0 g1 g2 g3 g4
      refine bodyPost_ret (v := .tuple #[tstv (⟨#[]⟩, 0, 0, 0, ⟨#[]⟩), .int .i64 (0 : Nat)]) (by simp [results, Try.results147, go_sem, g0, g1, g2, g3, g4]) rfl ⟨by rw [HX.out, HK.out], ?_⟩
      exact ((((hb5.setCell hgw _).setCell hgw _).setCell hgw _).setCell hgw _).setCell hgw _
    try (exfalso; omega)
  have hk3' : ((K3 : Int) == 0) = false := by simp [hk3]
  obtain ⟨hX, hK⟩ := TL.out hk3
  have HX := Lib.hid hX
  have HK := Lib.hid hK
  clear hX hK
  clear hk3 T3 TL
  go_upto_region 14 with (fail)
  have hx6 := ((hx5.far (p := ⟨y, 2, none⟩) hgy (.int .i64 vk)).far (p := ⟨y, 3, none⟩) hgy (.int .i64 vn)).far (p := ⟨y, 4, none⟩) hgy (.string ⟨vt.toArray⟩)
  have hy6 := ((hy5.set_ 2 (.int .i64 vk)).set_ 3 (.int .i64 vn)).set_ 4 (.string ⟨vt.toArray⟩)
  have hb6 : Below w.heap.size w (((w5.setCell ⟨y, 2, none⟩ (.int .i64 vk)).setCell ⟨y, 3, none⟩ (.int .i64 vn)).setCell ⟨y, 4, none⟩ (.string ⟨vt.toArray⟩)) := ((hb5.setCell (by simpa using hwy) _).setCell (by simpa using hwy) _).setCell (by simpa using hwy) _
  clear hx5 hy5 hv5 hb5 q0 q1 q2 q3 q4 z0 z1 z2 z3 z4 p0 p1 p2 p3 p4 o0 o1 o2 o3 o4 m0 m1 m2
  generalize (((w5.setCell ⟨y, 2, none⟩ (.int .i64 vk)).setCell ⟨y, 3, none⟩ (.int .i64 vn)).setCell ⟨y, 4, none⟩ (.string ⟨vt.toArray⟩)) = w6 at *
  have p0 := hy6.cell 0
  have p1 := hy6.cell 1
  have p2 := hy6.cell 2
  have p3 := hy6.cell 3
  have p4 := hy6.cell 4
  simp at p0 p1 p2 p3 p4
  have q0 := hx6.cell 0
  have q1 := hx6.cell 1
  have q2 := hx6.cell 2
  have q3 := hx6.cell 3
  have q4 := hx6.cell 4
  have z0 := hx6.frozen 0
  have z1 := hx6.frozen 1
  have z2 := hx6.frozen 2
  have z3 := hx6.frozen 3
  have z4 := hx6.frozen 4
  simp at q0 q1 q2 q3 q4
  go_wp2
  have hz := ((((hx6.set_ 0 (.string ⟨nm.toArray⟩)).set_ 1 (.int .i64 (op : Int))).set_ 2 (.int .i64 vk)).set_ 3 (.int .i64 vn)).set_ 4 (.string ⟨vt.toArray⟩)
  have g0 := hz.cell 0
  have g1 := hz.cell 1
  have g2 := hz.cell 2
  have g3 := hz.cell 3
  have g4 := hz.cell 4
  simp at g0 g1 g2 g3 g4
  refine bodyPost_ret (v := .tuple #[tstv (⟨nm.toArray⟩, (op : Int), vk, vn, ⟨vt.toArray⟩), .int .i64 ((K1 : Int) + (K2 : Int) + (K3 : Int))]) (by simp [results, Try.results147, go_sem, g0, g1, g2, g3, g4]) rfl ⟨by rw [HX.out, HK.out]; simp, ?_⟩
  exact ((((hb6.setCell hgw _).setCell hgw _).setCell hgw _).setCell hgw _).setCell hgw _
end Go.Proofs.Ythnhdeieimgfhaa
