/-
  postilionlaw05.FilterBack: the walk. Conditions: none.
-/
import Derived.Test.YtejdbdfofehdpaaFilter1
namespace Go.Proofs.Ytejdbdfofehdpaa
open Go Go.RowKit

theorem encF_len {l : List Tst} (hl : okF l = true) (hi : ∀ x ∈ l, fitT x) : (encF l).length ≤ 1000 := by
  have := encFP_len l l.length hl hi
  rwa [List.take_length] at this

set_option maxHeartbeats 2000000 in
set_option maxRecDepth 100000 in
theorem FilterBack_walk (v0 v1 : Value) (w : World) (r0 : repFilter w v0) (r1 : repBytes w v1) :
    Calls Try.prog 6 #[v0, v1] w fun e w' => e = .returned (.bool true) ∧ Below w.heap.size w w' := by
  obtain ⟨l, he, hi⟩ := flt_rep r0
  obtain ⟨b, hs⟩ := bsl_rep r1
  have HI := Lib.hid hi
  clear r0 r1 hi
  obtain ⟨A, c, rfl⟩ := bsl_len hs
  go_enter Try.func6, Try.ntmps6
  go_wp2_with fail
  refine (awake_calls w).mono ?_
  rintro e w1 ⟨rfl, hb1⟩
  have he1 := flt_st _ _ _ _ he hb1
  have hs1 := bsl_st _ _ _ _ hs hb1
  clear he hs
  go_wp2_with fail
  refine (FFew_flt he1).mono ?_
  rintro e w' ⟨rfl, rfl⟩
  cases hf : fewF l
  · go_wp2
    go_ret
    exact ⟨rfl, hb1⟩
  have hlen := (fewF_fit hf).1
  by_cases hl : b.length ≤ 1000
  rotate_left
  · have hl' : (1000 : Int) < (b.length : Int) := by omega
    go_wp2
    go_ret
    exact ⟨rfl, hb1⟩
  have hl' : ¬ (1000 : Int) < (b.length : Int) := by omega
  go_wp2_with fail
  refine (FEncode_flt he1 HI.out).mono ?_
  rintro e w2 ⟨v8, rfl, ho2, hb2⟩
  have hx2 := bsl_own ho2
  have he2 := flt_st _ _ _ _ he1 hb2
  have hs2 := bsl_st _ _ _ _ hs1 hb2
  have hbw2 := hb1.trans (hb2.mono hb1.size)
  clear he1 hs1 hb1 hb2 ho2
  go_upto_if 31 with (fail)
  go_cut [8, 9, 10] from 30 to 45 (fun _ _ _ wc => bsl b (.slice A b.length c) wc ∧ Below w.heap.size w wc)
  case first =>
    cases hok : okF l
    · have hne : (chkF l == 0) = false := by simp [chkF, hok]
      go_wp2
      go_meet
      case rel => exact ⟨hs2, hbw2⟩
    · have hne : (chkF l == 0) = true := by simp [chkF, hok]
      have hck : chkF l = 0 := by simp [chkF, hok]
      rw [show encFR l = encF l by simp [encFR, hok]] at hx2
      have hln := encF_len hok HI.out
      have HD1 := Lib.hid (decF_some (decF_enc l hok HI.out))
      clear hok hck
      go_wp2_with fail
      refine (FDecode_sl (bsl_sl hx2) (by omega)).mono ?_
      rintro e w3 ⟨v10, rfl, ho3, hb3⟩
      rw [HD1.out.2] at ho3
      rw [HD1.out.1]
      have hy3 := flt_own ho3
      have he3 := flt_st _ _ _ _ he2 hb3
      have hs3 := bsl_st _ _ _ _ hs2 hb3
      have hbw3 := hbw2.trans (hb3.mono hbw2.size)
      clear he2 hx2 hs2 hbw2 hb3 ho3
      go_wp2_with fail
      refine (FSame_flt he3 hy3 hlen).mono ?_
      rintro e w4 ⟨rfl, hb4⟩
      rw [show decide (l = l) = true from by simp]
      have hs4 := bsl_st _ _ _ _ hs3 hb4
      have hbw4 := hbw3.trans (hb4.mono hbw3.size)
      clear hy3 he3 hs3 hbw3 hb4
      go_wp2
      go_meet
      case rel => exact ⟨hs4, hbw4⟩
  case rest =>
  obtain ⟨hs, hb⟩ := hcut
  clear he2 hx2 hs2 hbw2
  go_wp2_with fail
  refine (FDecode_sl (bsl_sl hs) (by omega)).mono ?_
  rintro e w3 ⟨v17, rfl, ho3, hb3⟩
  have hs3 := bsl_st _ _ _ _ hs hb3
  have hbw3 := hb.trans (hb3.mono hb.size)
  have he3 := flt_own ho3
  clear hs hb hb3 ho3
  cases hd : decF8 b with
  | none =>
    have h1 := decF_none hd
    rw [h1.2] at he3
    rw [h1.1]
    obtain ⟨A3, c3, rfl, -⟩ := he3
    simp only [List.length_nil]
    clear hd h1
    go_wp2
    go_ret
    exact ⟨rfl, hbw3⟩
  | some z =>
    have h1 := decF_some hd
    rw [h1.2] at he3
    rw [h1.1]
    obtain ⟨e1, hok, hfz⟩ := decF_back hd
    have hck : chkF z = 0 := by simp [chkF, hok]
    have hre : encFR z = b := by simp [encFR, hok, e1]
    have HRE := Lib.hid hre
    have HCK := Lib.hid hck
    have HFZ := Lib.hid hfz
    clear hd h1 e1 hok hre hck hfz
    go_wp2_with fail
    refine (FEncode_flt he3 HFZ.out).mono ?_
    rintro e w4 ⟨v19, rfl, ho4, hb4⟩
    rw [HRE.out] at ho4
    rw [HCK.out]
    have t1 := str (sl_own ho4)
    have t2 := str (bsl_sl (bsl_st _ _ _ _ hs3 hb4))
    have hbw4 := hbw3.trans (hb4.mono hbw3.size)
    clear he3 hs3 hbw3 hb4 ho4
    go_wp2
    go_ret
    exact ⟨by simp, hbw4⟩
end Go.Proofs.Ytejdbdfofehdpaa
