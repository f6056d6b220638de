/-
  postilionlaw05.FilterDecodes and FilterUnlike: the walks. Conditions: none.
-/
import Derived.Test.YtejdbdfofehdpaaFiJ
namespace Go.Proofs.Ytejdbdfofehdpaa
open Go Go.RowKit

set_option maxHeartbeats 8000000 in
set_option maxRecDepth 100000 in
theorem FilterDecodes_walk (v0 : Value) (w : World) (r0 : repBytes w v0) :
    Calls Try.prog 5 #[v0] w fun e w' => e = .returned (.bool true) ∧ Below w.heap.size w w' := by
  obtain ⟨b, hs⟩ := bsl_rep r0
  clear r0
  obtain ⟨A, c, rfl⟩ := bsl_len hs
  go_enter Try.func5, Try.ntmps5
  go_wp2_with fail
  refine (awake_calls w).mono ?_
  rintro e w1 ⟨rfl, hb1⟩
  have hs1 := bsl_st _ _ _ _ hs hb1
  clear hs
  by_cases hl : b.length ≤ 1000
  rotate_left
  · have hl' : (1000 : Int) < (b.length : Int) := by omega
    go_wp2
    go_ret
    exact ⟨rfl, hb1⟩
  have hl' : ¬ (1000 : Int) < (b.length : Int) := by omega
  go_wp2_with fail
  refine (FDecode_sl (bsl_sl hs1) (by omega)).mono ?_
  rintro e w2 ⟨v4, rfl, ho2, hb2⟩
  have he2 := flt_own ho2
  have hs2 := bsl_st _ _ _ _ hs1 hb2
  have hbw2 := hb1.trans (hb2.mono hb1.size)
  clear hs1 hb1 hb2 ho2
  go_wp2_with fail
  refine (RefFDecode_bsl hs2 (by omega)).mono ?_
  rintro e w3 ⟨v6, rfl, ho3, hb3⟩
  have hr3 := flt_own ho3
  have he3 := flt_st _ _ _ _ he2 hb3
  have hbw3 := hbw2.trans (hb3.mono hbw2.size)
  clear he2 hs2 hbw2 hb3 ho3
  go_wp2_with fail
  refine (FSame_flt he3 hr3 ((Nat.le_trans (decFL_len b) (by omega)))).mono ?_
  rintro e w4 ⟨rfl, hb4⟩
  have hbw4 := hbw3.trans (hb4.mono hbw3.size)
  rw [show decide (decFL b = decFL b) = true from by simp]
  go_wp2
  go_ret
  exact ⟨by simp, hbw4⟩

set_option maxHeartbeats 8000000 in
set_option maxRecDepth 100000 in
theorem FilterUnlike_walk (v0 v1 : Value) (w : World) (r0 : repFilter w v0) (r1 : repFilter w v1) :
    Calls Try.prog 9 #[v0, v1] w fun e w' => e = .returned (.bool true) ∧ Below w.heap.size w w' := by
  obtain ⟨la, hea, hia⟩ := flt_rep r0
  obtain ⟨lb, heb, hib⟩ := flt_rep r1
  have HIA := Lib.hid hia
  have HIB := Lib.hid hib
  clear r0 r1 hia hib
  go_enter Try.func9, Try.ntmps9
  go_wp2_with fail
  refine (awake_calls w).mono ?_
  rintro e w1 ⟨rfl, hb1⟩
  have ha1 := flt_st _ _ _ _ hea hb1
  have hc1 := flt_st _ _ _ _ heb hb1
  clear hea heb
  go_wp2_with fail
  refine (FFew_flt ha1).mono ?_
  rintro e w' ⟨rfl, rfl⟩
  cases hfa : fewF la
  · go_wp2
    go_ret
    exact ⟨rfl, hb1⟩
  go_wp2_with fail
  refine (FFew_flt hc1).mono ?_
  rintro e w' ⟨rfl, rfl⟩
  cases hfb : fewF lb
  · go_wp2
    go_ret
    exact ⟨rfl, hb1⟩
  have hlen := (fewF_fit hfa).1
  go_wp2_with fail
  refine (FEncode_flt ha1 HIA.out).mono ?_
  rintro e w2 ⟨v6, rfl, ho2, hb2⟩
  have hs2 := sl_own ho2
  have ha2 := flt_st _ _ _ _ ha1 hb2
  have hc2 := flt_st _ _ _ _ hc1 hb2
  have hbw2 := hb1.trans (hb2.mono hb1.size)
  clear ha1 hc1 hb1 hb2 ho2
  go_wp2_with fail
  refine (FEncode_flt hc2 HIB.out).mono ?_
  rintro e w3 ⟨v8, rfl, ho3, hb3⟩
  have hr3 := sl_own ho3
  have hs3 := sl_st _ _ _ _ hs2 hb3
  have ha3 := flt_st _ _ _ _ ha2 hb3
  have hc3 := flt_st _ _ _ _ hc2 hb3
  have hbw3 := hbw2.trans (hb3.mono hbw2.size)
  clear ha2 hc2 hbw2 hb3 ho3 hs2
  cases hoka : okF la
  · have hne : (chkF la != 0) = true := by simp [chkF, hoka]
    go_wp2
    go_ret
    exact ⟨rfl, hbw3⟩
  have hne : (chkF la != 0) = false := by simp [chkF, hoka]
  cases hokb : okF lb
  · have hne2 : (chkF lb != 0) = true := by simp [chkF, hokb]
    go_wp2
    go_ret
    exact ⟨rfl, hbw3⟩
  have hne2 : (chkF lb != 0) = false := by simp [chkF, hokb]
  have HEQ : Hid (((encFR la) == (encFR lb)) = decide (la = lb)) := by
    refine Lib.hid ?_
    simp only [encFR, hoka, hokb, if_true]
    by_cases h : la = lb
    · subst h; simp
    · rw [beq_eq_false_iff_ne.2 (fun e => h (encF_inj la lb hoka hokb HIA.out HIB.out e))]; simp [h]
  clear hoka hokb
  go_wp2_with fail
  refine (FSame_flt ha3 hc3 hlen).mono ?_
  rintro e w4 ⟨rfl, hb4⟩
  have t1 := str (sl_st _ _ _ _ hs3 hb4)
  have t2 := str (sl_st _ _ _ _ hr3 hb4)
  have hbw4 := hbw3.trans (hb4.mono hbw3.size)
  go_wp2
  go_ret
  refine ⟨?_, hbw4⟩
  show Ending.returned (.bool ((encFR la == encFR lb) == decide (la = lb))) = _
  rw [HEQ.out]
  simp
end Go.Proofs.Ytejdbdfofehdpaa
