/-
  postilionlaw04.EventBack: the walk. Conditions: none.
-/
import Derived.Test.YtghgapfhlfcjiaaEvent2
namespace Go.Proofs.Ytghgapfhlfcjiaa
open Go Go.RowKit

theorem decC_none {b : List UInt8} (h : decE b = none) : decC b = 40 ∧ decL b = [] := by simp [decC, decL, h]
theorem decC_some {b : List UInt8} {l : List Att} (h : decE b = some l) : decC b = 0 ∧ decL b = l := by simp [decC, decL, h]
theorem encE_len {l : List Att} (h : okE l = true) (hf : ∀ x ∈ l, fitA x) : (encE l).length ≤ 2000 := by
  have := encP_len l l.length h hf
  rwa [List.take_length] at this

set_option maxHeartbeats 8000000 in
set_option maxRecDepth 100000 in
theorem EventBack_walk (v0 v1 v2 : Value) (w : World) (r0 : repEvent w v0) (r1 : repBytes w v1) (r2 : repU8 w v2) :
    Calls Try.prog 6 #[v0, v1, v2] w fun e w' => e = .returned (.bool true) ∧ Below w.heap.size w w' := by
  obtain ⟨l, he, hi⟩ := evt_rep r0
  obtain ⟨b, hs⟩ := bsl_rep r1
  obtain ⟨y, rfl⟩ := r2
  have HI := Lib.hid hi
  clear r0 r1 hi
  obtain ⟨A, c, rfl⟩ := bsl_len hs
  go_enter Try.func6, Try.ntmps6
  go_wp2_with fail
  refine (awake_calls w).mono ?_
  rintro e w1 ⟨rfl, hb1⟩
  have he1 := evt_st _ _ _ _ he hb1
  have hs1 := bsl_st _ _ _ _ hs hb1
  clear he hs
  go_wp2_with fail
  refine (Few_evt he1).mono ?_
  rintro e w' ⟨rfl, rfl⟩
  cases hf : fewE l
  · go_wp2
    go_ret
    exact ⟨rfl, hb1⟩
  have hlen := (few_fit hf).1
  by_cases hl : b.length ≤ 2000
  rotate_left
  · have hl' : (2000 : Int) < (b.length : Int) := by omega
    go_wp2
    go_ret
    exact ⟨rfl, hb1⟩
  have hl' : ¬ (2000 : Int) < (b.length : Int) := by omega
  go_wp2_with fail
  refine (Encode_evt he1 HI.out).mono ?_
  rintro e w2 ⟨v8, rfl, ho2, hb2⟩
  have hx2 := bsl_own ho2
  have he2 := evt_st _ _ _ _ he1 hb2
  have hs2 := bsl_st _ _ _ _ hs1 hb2
  have hbw2 := hb1.trans (hb2.mono hb1.size)
  clear he1 hs1 hb1 hb2 ho2
  go_upto_if 37 with (fail)
  go_cut [10] from 36 to 79 (fun _ wc => bsl b (.slice A b.length c) wc ∧ Below w.heap.size w wc)
  case first =>
    cases hok : okE l
    · have hne : (chkE l == 0) = false := by simp [chkE, hok]
      go_wp2
      go_meet
      case rel => exact ⟨hs2, hbw2⟩
    · have hne : (chkE l == 0) = true := by simp [chkE, hok]
      have hck : chkE l = 0 := by simp [chkE, hok]
      rw [show encR l = encE l by simp [encR, hok]] at hx2
      have hln := encE_len hok HI.out
      have HD1 := Lib.hid (decC_some (decE_enc l hok HI.out))
      have HD2 := Lib.hid (decC_none (decE_more l hok HI.out y))
      have HD3 := Lib.hid (decC_none (decE_less l hok HI.out))
      have hpos : 0 < (encE l).length := List.length_pos_iff.2 (encE_ne l)
      clear hok hck
      go_wp2_with fail
      refine (Decode_sl (bsl_sl hx2) (by omega)).mono ?_
      rintro e w3 ⟨v10, rfl, ho3, hb3⟩
      rw [HD1.out.2] at ho3
      rw [HD1.out.1]
      have hy3 := evt_own ho3
      have he3 := evt_st _ _ _ _ he2 hb3
      have hx3 := bsl_st _ _ _ _ hx2 hb3
      have hs3 := bsl_st _ _ _ _ hs2 hb3
      have hbw3 := hbw2.trans (hb3.mono hbw2.size)
      clear he2 hx2 hs2 hbw2 hb3 ho3
      go_wp2_with fail
      refine (Same_evt he3 hy3 hlen).mono ?_
      rintro e w4 ⟨rfl, hb4⟩
      rw [show decide (l = l) = true from by simp]
      have hx4 := bsl_st _ _ _ _ hx3 hb4
      have hs4 := bsl_st _ _ _ _ hs3 hb4
      have hbw4 := hbw3.trans (hb4.mono hbw3.size)
      clear hy3 he3 hx3 hs3 hbw3 hb4
      obtain ⟨A8, c8, rfl, hR8, hc8⟩ := hx4
      generalize encE l = X at *
      generalize hm8 : X.length = m8 at *
      have HM8 := Lib.hid hm8
      clear hm8
      have hz4 := hbw4.size
      have hown0 : Own (w4.alloc (.cells #[] 5)) w4.heap.size 5 (.slice (some ⟨w4.heap.size, 0, none⟩) 0 0) [] := own_of_block (rest := []) (Nat.le_refl _) (heap_alloc_new w4 _) rfl rfl (by simp)
      have hR8' := (hR8.below (Below.alloc (Below.refl _ w4) (Nat.le_refl _) (.cells #[] 5)) (Nat.le_refl _))
      go_wp2_with (at_builtin; refine wpList_app rfl _ _ 26 rfl w4.heap.size 5 _ 1 1 TB _ _ _ rfl hown0 w4.heap.size A8 m8 c8 (bys X) rfl hR8' (bys_one _) ?a3 (by simp) ?_)
      case a3 => simp; omega
      intro v5 w5 ho5 hg5 hat5 hb5
      have hb45 : Below w4.heap.size w4 w5 := (Below.alloc (Below.refl _ _) (Nat.le_refl _) _).trans hb5
      have ho5' : Own w5 w4.heap.size 5 v5 X := by
        unfold Own
        rw [HM8.out]
        simpa [bys] using ho5
      clear ho5 hg5 hat5 hb5 hown0 hR8'
      have hz5 := hb45.size
      go_wp2_with (at_builtin; refine wpList_app rfl _ _ 26 rfl w4.heap.size 5 _ 1 1 TB _ _ _ rfl (World.ownsRow.alloc ho5' _) (w5.heap.size + 1) _ 1 1 (bys [y]) rfl ?c1 ?c2 ?c3 ?c5 ?_)
      case c1 => exact Reads.new w5 (bys [y]) 5 1 1 rfl
      case c2 => exact bys_one _
      case c3 => have := HM8.out; omega
      case c5 => simp; omega
      intro v6 w6 ho6 hg6 hat6 hb6
      have hb46 : Below w4.heap.size w4 w6 := (hb45.alloc hz5 _).trans hb6
      have ho6' : Own w6 w4.heap.size 5 v6 (X ++ [y]) := by
        unfold Own
        rw [bys_append]
        simpa using ho6
      have hx6 := hR8.below hb46 (Nat.le_refl _)
      have hs6 := bsl_st _ _ _ _ hs4 hb46
      have hbw6 := hbw4.trans (hb46.mono hz4)
      have hy6 := sl_own ho6'
      have hz6 := hb46.size
      clear ho6 hg6 hat6 hb6 ho6' ho5' hb45 hb46 hs4 hbw4 hR8
      go_wp2_with fail
      refine (Decode_sl hy6 (by have := HM8.out; simp; omega)).mono ?_
      rintro e w7 ⟨v7, rfl, -, hb7⟩
      rw [HD2.out.1]
      have hx7 := hx6.below hb7 hz6
      have hs7 := bsl_st _ _ _ _ hs6 hb7
      have hbw7 := hbw6.trans (hb7.mono hbw6.size)
      have hz7 := hb7.size
      clear hx6 hs6 hbw6 hb7 hy6
      have hpi : (1 : Int) ≤ (m8 : Int) := by omega
      go_wp2_with fail
      refine (Decode_calls A8 (m8 - 1) c8 (X.take (m8 - 1)) w7 w4.heap.size (hx7.pre (m8 - 1) (by omega)) (by omega) (by omega)).mono ?_
      rintro e w8 ⟨v8, rfl, -, hb8⟩
      rw [HD3.out.1]
      have hs8 := bsl_st _ _ _ _ hs7 hb8
      have hbw8 := hbw7.trans (hb8.mono hbw7.size)
      clear hx7 hs7 hbw7 hb8
      go_wp2
      go_meet
      case rel => exact ⟨hs8, hbw8⟩
  case rest =>
  obtain ⟨hs, hb⟩ := hcut
  clear he2 hx2 hs2 hbw2
  go_wp2_with fail
  refine (Decode_sl (bsl_sl hs) (by omega)).mono ?_
  rintro e w3 ⟨v17, rfl, ho3, hb3⟩
  have hs3 := bsl_st _ _ _ _ hs hb3
  have hbw3 := hb.trans (hb3.mono hb.size)
  have he3 := evt_own ho3
  clear hs hb hb3 ho3
  cases hd : decE b with
  | none =>
    have h1 := decC_none hd
    rw [h1.2] at he3
    rw [h1.1]
    obtain ⟨A3, c3, rfl, -⟩ := he3
    simp only [List.length_nil]
    clear hd h1
    go_wp2
    go_ret
    exact ⟨rfl, hbw3⟩
  | some z =>
    have h1 := decC_some hd
    rw [h1.2] at he3
    rw [h1.1]
    obtain ⟨e1, hok, hfz⟩ := decE_back hd
    have hck : chkE z = 0 := by simp [chkE, hok]
    have hre : encR z = b := by simp [encR, hok, e1]
    have HRE := Lib.hid hre
    have HCK := Lib.hid hck
    have HFZ := Lib.hid hfz
    clear hd h1 e1 hok hre hck hfz
    go_wp2_with fail
    refine (Encode_evt he3 HFZ.out).mono ?_
    rintro e w4 ⟨v19, rfl, ho4, hb4⟩
    rw [HRE.out] at ho4
    rw [HCK.out]
    have t1 := str (sl_own ho4)
    have t2 := str (bsl_sl (bsl_st _ _ _ _ hs3 hb4))
    have he4 := evt_st _ _ _ _ he3 hb4
    have hbw4 := hbw3.trans (hb4.mono hbw3.size)
    clear he3 hs3 hbw3 hb4 ho4
    go_wp2_with fail
    refine (ECheck_evt he4).mono ?_
    rintro e w5 ⟨rfl, hb5⟩
    rw [HCK.out]
    have hbw5 := hbw4.trans (hb5.mono hbw4.size)
    go_wp2
    go_ret
    exact ⟨by simp, hbw5⟩
end Go.Proofs.Ytghgapfhlfcjiaa
