/-
  postilionlaw04.EventDecodes and EventUnlike: the walks. Conditions: none.
-/
import Derived.Test.YtghgapfhlfcjiaaEvent1
import Derived.Test.YtghgapfhlfcjiaaEvP
namespace Go.Proofs.Ytghgapfhlfcjiaa
open Go Go.RowKit

/-- A slice of bytes that was there, with its room. -/
def bsl (l : List UInt8) (v : Value) (w : World) : Prop := slc w.heap.size l v w
theorem bsl_st (l : List UInt8) : ∀ v w w', bsl l v w → Below w.heap.size w w' → bsl l v w' := by
  rintro v w w' ⟨A, c, rfl, hr, hc⟩ hb
  exact ⟨A, c, rfl, (hr.below hb (Nat.le_refl _)).more hb.size, hc⟩
theorem bsl_sl {l : List UInt8} {v : Value} {w : World} (h : bsl l v w) : sl l v w := by
  obtain ⟨A, c, rfl, hr, _⟩ := h
  exact ⟨A, c, rfl, hr⟩
theorem bsl_rep {w : World} {v : Value} (h : repBytes w v) : ∃ l : List UInt8, bsl l v w := by
  obtain ⟨A, c, l, rfl, h1, h2, _⟩ := h
  exact ⟨l, A, c, rfl, h1, h2⟩
theorem bsl_own {w : World} {base : Nat} {e : TypeId} {v : Value} {l : List UInt8} (h : Own w base e v l) : bsl l v w := by
  have h' := h
  rcases h.2 with ⟨rfl, h0⟩ | ⟨g, cap, cur, rfl, _, _, hn, _⟩
  · obtain rfl : l = [] := List.eq_nil_of_length_eq_zero h0
    exact ⟨none, 0, rfl, Reads.of_own h', by simp⟩
  · exact ⟨_, _, rfl, Reads.of_own h', hn⟩
theorem RefDecode_bsl {b : List UInt8} {v : Value} {w : World} (h : bsl b v w) (hn : b.length ≤ 1000000000) : Calls Try.prog 21 #[v] w fun e w' =>
    ∃ v', e = .returned (.tuple #[v', .int .i64 (decC b)]) ∧ OwnE w' w.heap.size v' (decL b) ∧ Below w.heap.size w w' := by
  obtain ⟨A, c, rfl, hR, hc⟩ := h
  exact RefDecode_calls A _ c b w _ hR (Nat.le_refl _) hn hc
theorem bsl_len {b : List UInt8} {v : Value} {w : World} (h : bsl b v w) : ∃ A c, v = .slice A b.length c := by
  obtain ⟨A, c, rfl, _⟩ := h
  exact ⟨A, c, rfl⟩
theorem decL_len (b : List UInt8) : (decL b).length ≤ 1000000 := by
  unfold decL decE
  split
  · rename_i h
    simp only [Bool.and_eq_true, decide_eq_true_eq] at h
    have := (rdAs_len (rdN b false).1 (rdN b false).2.1 (rdN b false).2.2).2
    show (decS b).1.length ≤ _
    unfold decS
    omega
  · simp

set_option maxHeartbeats 8000000 in
set_option maxRecDepth 100000 in
theorem EventDecodes_walk (v0 : Value) (w : World) (r0 : repBytes w v0) :
    Calls Try.prog 5 #[v0] w fun e w' => e = .returned (.bool true) ∧ Below w.heap.size w w' := by
  obtain ⟨b, hs⟩ := bsl_rep r0
  clear r0
  obtain ⟨A, c, rfl⟩ := bsl_len hs
  go_enter Try.func5, Try.ntmps5
  go_wp2_with fail
  refine (awake_calls w).mono ?_
  rintro e w1 ⟨rfl, hb1⟩
  have hs1 := bsl_st _ _ _ _ hs hb1
  clear hs
  by_cases hl : b.length ≤ 2000
  rotate_left
  · have hl' : (2000 : Int) < (b.length : Int) := by omega
    go_wp2
    go_ret
    exact ⟨rfl, hb1⟩
  have hl' : ¬ (2000 : Int) < (b.length : Int) := by omega
  go_wp2_with fail
  refine (Decode_sl (bsl_sl hs1) (by omega)).mono ?_
  rintro e w2 ⟨v4, rfl, ho2, hb2⟩
  have he2 := evt_own ho2
  have hs2 := bsl_st _ _ _ _ hs1 hb2
  have hbw2 := hb1.trans (hb2.mono hb1.size)
  clear hs1 hb1 hb2 ho2
  go_wp2_with fail
  refine (RefDecode_bsl hs2 (by omega)).mono ?_
  rintro e w3 ⟨v6, rfl, ho3, hb3⟩
  have hr3 := evt_own ho3
  have he3 := evt_st _ _ _ _ he2 hb3
  have hbw3 := hbw2.trans (hb3.mono hbw2.size)
  clear he2 hs2 hbw2 hb3 ho3
  go_wp2_with fail
  refine (Same_evt he3 hr3 (decL_len b)).mono ?_
  rintro e w4 ⟨rfl, hb4⟩
  have hbw4 := hbw3.trans (hb4.mono hbw3.size)
  rw [show decide (decL b = decL b) = true from by simp]
  go_wp2
  go_ret
  exact ⟨by simp, hbw4⟩

set_option maxHeartbeats 8000000 in
set_option maxRecDepth 100000 in
theorem EventUnlike_walk (v0 v1 : Value) (w : World) (r0 : repEvent w v0) (r1 : repEvent w v1) :
    Calls Try.prog 9 #[v0, v1] w fun e w' => e = .returned (.bool true) ∧ Below w.heap.size w w' := by
  obtain ⟨la, hea, hia⟩ := evt_rep r0
  obtain ⟨lb, heb, hib⟩ := evt_rep r1
  have HIA := Lib.hid hia
  have HIB := Lib.hid hib
  clear r0 r1 hia hib
  go_enter Try.func9, Try.ntmps9
  go_wp2_with fail
  refine (awake_calls w).mono ?_
  rintro e w1 ⟨rfl, hb1⟩
  have ha1 := evt_st _ _ _ _ hea hb1
  have hc1 := evt_st _ _ _ _ heb hb1
  clear hea heb
  go_wp2_with fail
  refine (Few_evt ha1).mono ?_
  rintro e w' ⟨rfl, rfl⟩
  cases hfa : fewE la
  · go_wp2
    go_ret
    exact ⟨rfl, hb1⟩
  go_wp2_with fail
  refine (Few_evt hc1).mono ?_
  rintro e w' ⟨rfl, rfl⟩
  cases hfb : fewE lb
  · go_wp2
    go_ret
    exact ⟨rfl, hb1⟩
  have hlen := (few_fit hfa).1
  go_wp2_with fail
  refine (Encode_evt ha1 HIA.out).mono ?_
  rintro e w2 ⟨v6, rfl, ho2, hb2⟩
  have hs2 := sl_own ho2
  have ha2 := evt_st _ _ _ _ ha1 hb2
  have hc2 := evt_st _ _ _ _ hc1 hb2
  have hbw2 := hb1.trans (hb2.mono hb1.size)
  clear ha1 hc1 hb1 hb2 ho2
  go_wp2_with fail
  refine (Encode_evt hc2 HIB.out).mono ?_
  rintro e w3 ⟨v8, rfl, ho3, hb3⟩
  have hr3 := sl_own ho3
  have hs3 := sl_st _ _ _ _ hs2 hb3
  have ha3 := evt_st _ _ _ _ ha2 hb3
  have hc3 := evt_st _ _ _ _ hc2 hb3
  have hbw3 := hbw2.trans (hb3.mono hbw2.size)
  clear ha2 hc2 hbw2 hb3 ho3 hs2
  cases hoka : okE la
  · have hne : (chkE la != 0) = true := by simp [chkE, hoka]
    go_wp2
    go_ret
    exact ⟨rfl, hbw3⟩
  have hne : (chkE la != 0) = false := by simp [chkE, hoka]
  cases hokb : okE lb
  · have hne2 : (chkE lb != 0) = true := by simp [chkE, hokb]
    go_wp2
    go_ret
    exact ⟨rfl, hbw3⟩
  have hne2 : (chkE lb != 0) = false := by simp [chkE, hokb]
  have HEQ : Hid (((encR la) == (encR lb)) = decide (la = lb)) := by
    refine Lib.hid ?_
    simp only [encR, hoka, hokb, if_true]
    by_cases h : la = lb
    · subst h; simp
    · rw [beq_eq_false_iff_ne.2 (fun e => h (encE_inj la lb hoka hokb HIA.out HIB.out e))]; simp [h]
  clear hoka hokb
  go_wp2_with fail
  refine (Same_evt ha3 hc3 hlen).mono ?_
  rintro e w4 ⟨rfl, hb4⟩
  have t1 := str (sl_st _ _ _ _ hs3 hb4)
  have t2 := str (sl_st _ _ _ _ hr3 hb4)
  have hbw4 := hbw3.trans (hb4.mono hbw3.size)
  go_wp2
  go_ret
  refine ⟨?_, hbw4⟩
  show Ending.returned (.bool ((encR la == encR lb) == decide (la = lb))) = _
  rw [HEQ.out]
  simp
end Go.Proofs.Ytghgapfhlfcjiaa
