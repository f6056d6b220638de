/-
  postilionlaw11.EntryRecords: the walk. Conditions: none.
-/
import Derived.Test.YtjcdgbnbaiebdaaEnJ
set_option maxRecDepth 100000
namespace Go.Proofs.Ytjcdgbnbaiebdaa
open Go Go.RowKit

theorem chkRec_0 {x : Rec} (h : okRec x = true) : chkRec x = 0 := by simp [chkRec, h]
theorem chkRec_1 {x : Rec} (h : okRec x = false) : chkRec x = 110 := by simp [chkRec, h]
theorem encRecR_inj {x y : Rec} (hx : okRec x = true) (hy : okRec y = true) (fx : fitRec x) (fy : fitRec y) : ((⟨(encRecR x).toArray⟩ : ByteArray) = ⟨(encRecR y).toArray⟩) ↔ x = y := by
  constructor
  · intro h
    have h2 : encRec x = encRec y := by simpa [encRecR, hx, hy] using h
    exact encRec_inj hx hy fx fy h2
  · rintro rfl; rfl
theorem beq_text (a b : List UInt8) : ((⟨a.toArray⟩ : ByteArray).toList == (⟨b.toArray⟩ : ByteArray).toList) = decide ((⟨a.toArray⟩ : ByteArray) = ⟨b.toArray⟩) := byt_beq _ _
theorem beq_list (a b : List UInt8) : (a == b) = decide ((⟨a.toArray⟩ : ByteArray) = ⟨b.toArray⟩) := by
  rw [Bool.eq_iff_iff]; simp

set_option maxHeartbeats 2000000 in
theorem EntryRecords_walk (v0 v1 : Value) (w : World) (r0 : repRecord w v0) (r1 : repRecord w v1) :
    Calls Try.prog 13 #[v0, v1] w fun e w' => e = .returned (.bool true) ∧ Below w.heap.size w w' := by
  obtain ⟨x, hx0, fx⟩ := r0
  obtain ⟨y, hy0, fy⟩ := r1
  have CX := Lib.hid (rcd_al hx0)
  have CY := Lib.hid (rcd_al hy0)
  obtain ⟨vf1, ve1, rfl, hf1, he1⟩ := hx0
  obtain ⟨vf2, ve2, rfl, hf2, he2⟩ := hy0
  have EX : Hid (∀ W, K w W → ent x.e (.agg (entA x.e vf1 ve1)) W) := Lib.hid fun W k => ⟨_, _, rfl, flt_st _ _ _ _ hf1 k, lst_st he1 k⟩
  have EY : Hid (∀ W, K w W → ent y.e (.agg (entA y.e vf2 ve2)) W) := Lib.hid fun W k => ⟨_, _, rfl, flt_st _ _ _ _ hf2 k, lst_st he2 k⟩
  have hx := (Blk.new w 61 (recA x vf1 ve1)).alloc (.cells (recA y vf2 ve2) 61)
  have hy := Blk.new (w.alloc (.cells (recA x vf1 ve1) 61)) 61 (recA y vf2 ve2)
  have k2 : K w ((w.alloc (.cells (recA x vf1 ve1) 61)).alloc (.cells (recA y vf2 ve2) 61)) := ((K.rf w).al _).al _
  have hz : (w.alloc (.cells (recA x vf1 ve1) 61)).heap.size = w.heap.size + 1 := by simp
  rw [hz] at hy
  clear hz hf1 hf2 he1 he2
  have FX := Lib.hid fx
  have FY := Lib.hid fy
  clear fx fy
  go_enter Try.func13, Try.ntmps13
  go_wp2_with fail
  generalize World.alloc (World.alloc w _) _ = w2 at *
  generalize hg2 : w.heap.size + 1 = g2 at hy ⊢
  generalize w.heap.size = g1 at hx hg2 ⊢
  clear hg2
  have qx := hx.cells
  have qy := hy.cells
  refine (awakeE_calls w2).mono ?_
  rintro e w3 ⟨rfl, k3⟩
  have k03 := k2.tr k3
  go_wp2_with fail
  refine (EFew_calls x.e _ w3 (EX.out _ k03)).mono ?_
  rintro e w4 ⟨rfl, k4⟩
  replace k3 := k3.tr k4
  replace k03 := k03.tr k4
  cases hfx : fewEn x.e
  · go_wp2
    go_ret
    exact ⟨rfl, k03⟩
  go_wp2_with fail
  refine (EFew_calls y.e _ w4 (EY.out _ k03)).mono ?_
  rintro e w5 ⟨rfl, k5⟩
  replace k3 := k3.tr k5
  replace k03 := k03.tr k5
  cases hfy : fewEn y.e
  · go_wp2
    go_ret
    exact ⟨rfl, k03⟩
  go_wp2_with fail
  refine (Pack_calls x _ w5 (CX.out _ k03) FX.out).mono ?_
  rintro e w6 ⟨v6, rfl, h6, k6⟩
  replace k3 := k3.tr k6
  replace k03 := k03.tr k6
  go_wp2_with fail
  refine (Pack_calls y _ w6 (CY.out _ k03) FY.out).mono ?_
  rintro e w7 ⟨v7, rfl, h7, k7⟩
  replace h6 := sl_st _ _ _ _ h6 k7
  replace k3 := k3.tr k7
  replace k03 := k03.tr k7
  clear k7 k6 k5 k4
  cases hox : okRec x
  · rw [chkRec_1 hox]
    clear h6 h7
    go_wp2
    go_ret
    exact ⟨rfl, k03⟩
  cases hoy : okRec y
  · rw [chkRec_0 hox, chkRec_1 hoy]
    clear h6 h7
    go_wp2
    go_ret
    exact ⟨rfl, k03⟩
  rw [chkRec_0 hox, chkRec_0 hoy]
  have HI := Lib.hid (encRecR_inj hox hoy FX.out FY.out)
  have h6' := sl_al h6
  have h7' := sl_al h7
  clear h6 h7
  go_wp2_with fail
  refine (RSame_calls x y _ _ w7 (CX.out _ k03) (CY.out _ k03) (fewEn_small hfx)).mono ?_
  rintro e w8 ⟨rfl, k8⟩
  replace k03 := k03.tr k8
  have t6 := str (h6' _ k8)
  have t7 := str (h7' _ k8)
  have hb := beq_text (encRecR x) (encRecR y)
  have hb2 := beq_list (encRecR x) (encRecR y)
  rw [show decide (x = y) = decide ((⟨(encRecR x).toArray⟩ : ByteArray) = ⟨(encRecR y).toArray⟩) from decide_eq_decide.2 HI.out.symm]
  generalize decide ((⟨(encRecR x).toArray⟩ : ByteArray) = ⟨(encRecR y).toArray⟩) = q at *
  clear h6' h7'
  go_wp2
  go_ret
  exact ⟨by simp [hb2], k03⟩
end Go.Proofs.Ytjcdgbnbaiebdaa
