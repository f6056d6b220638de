/-
  postilionlaw13.WireApart: the walk. Conditions: none.
-/
import Derived.Test.YthnhdeieimgfhaaWiL
import Derived.Test.YthnhdeieimgfhaaWiK
set_option maxRecDepth 100000
namespace Go.Proofs.Ythnhdeieimgfhaa
open Go Go.RowKit

theorem fewL_small {l : List Ent} (h : fewL l = true) : (∀ s ∈ l, smallEn s) ∧ l.length ≤ 1000000 := by
  simp only [fewL, Bool.and_eq_true, decide_eq_true_eq, List.all_eq_true] at h
  exact ⟨fun s hs => fewEn_small (h.2 s hs), by omega⟩
theorem fewM_small {m : Msg} (h : fewM m = true) : smallM m := by
  simp only [fewM, Bool.and_eq_true, decide_eq_true_eq] at h
  obtain ⟨⟨⟨⟨⟨h1, h2⟩, h3⟩, h4⟩, h5⟩, h6⟩ := h
  exact ⟨(fewL_small h1).1, (fewL_small h2).1, (fewL_small h3).1, (fewL_small h1).2, (fewL_small h2).2, (fewL_small h3).2, by omega, by omega, by omega⟩
theorem chkM_1 {m : Msg} (h : okM m = true) : chkM m = 0 := by simp [chkM, h]
theorem chkM_2 {m : Msg} (h : okM m = false) : chkM m = 130 := by simp [chkM, h]
theorem encMR_1 {m : Msg} (h : okM m = true) : encMR m = encM m := by simp [encMR, h]
theorem beqw_text (a b : List UInt8) : ((⟨a.toArray⟩ : ByteArray).toList == (⟨b.toArray⟩ : ByteArray).toList) = decide ((⟨a.toArray⟩ : ByteArray) = ⟨b.toArray⟩) := byt_beq _ _
theorem beqw_list (a b : List UInt8) : (a == b) = decide ((⟨a.toArray⟩ : ByteArray) = ⟨b.toArray⟩) := by
  rw [Bool.eq_iff_iff]; simp
theorem encM_injB {x y : Msg} (hx : okM x = true) (hy : okM y = true) (fx : fitM x) (fy : fitM y) : ((⟨(encM x).toArray⟩ : ByteArray) = ⟨(encM y).toArray⟩) ↔ x = y := by
  constructor
  · intro h
    have h2 : encM x = encM y := by simpa using h
    exact encM_inj hx hy fx fy h2
  · rintro rfl; rfl

set_option maxHeartbeats 8000000 in
theorem WireApart_walk (v0 v1 : Value) (w : World) (r0 : repMsg w v0) (r1 : repMsg w v1) :
    Calls Try.prog 7 #[v0, v1] w fun e w' => e = .returned (.bool true) ∧ Below w.heap.size w w' := by
  obtain ⟨a, ha0, fa⟩ := r0
  obtain ⟨b, hb0, fb⟩ := r1
  have CX := Lib.hid (msv_al ha0)
  have CY := Lib.hid (msv_al hb0)
  obtain ⟨u1, u2, u3, u4, u5, u6, rfl, h1, h2, h3, h4, h5, h6⟩ := ha0
  obtain ⟨A1, Ac1, rfl⟩ := lst_slice h1
  obtain ⟨A2, Ac2, rfl⟩ := lst_slice h2
  obtain ⟨A3, Ac3, rfl⟩ := lst_slice h3
  obtain ⟨A4, Ac4, rfl⟩ := lst_slice h4
  obtain ⟨A5, Ac5, rfl⟩ := lst_slice h5
  obtain ⟨A6, Ac6, rfl⟩ := lst_slice h6
  clear h1 h2 h3 h4 h5 h6
  obtain ⟨u1, u2, u3, u4, u5, u6, rfl, h1, h2, h3, h4, h5, h6⟩ := hb0
  obtain ⟨B1, Bc1, rfl⟩ := lst_slice h1
  obtain ⟨B2, Bc2, rfl⟩ := lst_slice h2
  obtain ⟨B3, Bc3, rfl⟩ := lst_slice h3
  obtain ⟨B4, Bc4, rfl⟩ := lst_slice h4
  obtain ⟨B5, Bc5, rfl⟩ := lst_slice h5
  obtain ⟨B6, Bc6, rfl⟩ := lst_slice h6
  clear h1 h2 h3 h4 h5 h6
  have hx := (Blk.new w 28 (msA a (.slice A1 a.votes.length Ac1) (.slice A2 a.asks.length Ac2) (.slice A3 a.entries.length Ac3) (.slice A4 a.prepares.length Ac4) (.slice A5 a.aborts.length Ac5) (.slice A6 a.ends.length Ac6))).alloc (.cells (msA b (.slice B1 b.votes.length Bc1) (.slice B2 b.asks.length Bc2) (.slice B3 b.entries.length Bc3) (.slice B4 b.prepares.length Bc4) (.slice B5 b.aborts.length Bc5) (.slice B6 b.ends.length Bc6)) 28)
  have hy := Blk.new (w.alloc (.cells (msA a (.slice A1 a.votes.length Ac1) (.slice A2 a.asks.length Ac2) (.slice A3 a.entries.length Ac3) (.slice A4 a.prepares.length Ac4) (.slice A5 a.aborts.length Ac5) (.slice A6 a.ends.length Ac6)) 28)) 28 (msA b (.slice B1 b.votes.length Bc1) (.slice B2 b.asks.length Bc2) (.slice B3 b.entries.length Bc3) (.slice B4 b.prepares.length Bc4) (.slice B5 b.aborts.length Bc5) (.slice B6 b.ends.length Bc6))
  have k2 : K w ((w.alloc (.cells (msA a (.slice A1 a.votes.length Ac1) (.slice A2 a.asks.length Ac2) (.slice A3 a.entries.length Ac3) (.slice A4 a.prepares.length Ac4) (.slice A5 a.aborts.length Ac5) (.slice A6 a.ends.length Ac6)) 28)).alloc (.cells (msA b (.slice B1 b.votes.length Bc1) (.slice B2 b.asks.length Bc2) (.slice B3 b.entries.length Bc3) (.slice B4 b.prepares.length Bc4) (.slice B5 b.aborts.length Bc5) (.slice B6 b.ends.length Bc6)) 28)) := ((K.rf w).al _).al _
  have hz : (w.alloc (.cells (msA a (.slice A1 a.votes.length Ac1) (.slice A2 a.asks.length Ac2) (.slice A3 a.entries.length Ac3) (.slice A4 a.prepares.length Ac4) (.slice A5 a.aborts.length Ac5) (.slice A6 a.ends.length Ac6)) 28)).heap.size = w.heap.size + 1 := by simp
  rw [hz] at hy
  clear hz
  have FX := Lib.hid fa
  have FY := Lib.hid fb
  clear fa fb
  go_enter Try.func7, Try.ntmps7
  go_upto_region 1 with (fail)
  generalize World.alloc (World.alloc w _) _ = w2 at *
  generalize hg2 : w.heap.size + 1 = g2 at hy ⊢
  generalize w.heap.size = g1 at hx hg2 ⊢
  clear hg2
  have qx := hx.cells
  have qy := hy.cells
  have kk := K.rf w2
  clear hx hy
  go_wp2_with fail
  refine (awakeW_calls w2).mono ?_
  rintro e w3 ⟨rfl, k3⟩
  replace kk := kk.tr k3
  have k03 := k2.tr k3
  go_wp2_with fail
  refine (WFew_calls a _ w3 (CX.out _ k03)).mono ?_
  rintro e w4 ⟨rfl, k4⟩
  replace kk := kk.tr k4
  replace k03 := k03.tr k4
  cases hfx : fewM a
  · go_wp2
    go_ret
    exact ⟨rfl, k03⟩
  go_wp2_with fail
  refine (WFew_calls b _ w4 (CY.out _ k03)).mono ?_
  rintro e w5 ⟨rfl, k5⟩
  replace kk := kk.tr k5
  replace k03 := k03.tr k5
  cases hfy : fewM b
  · go_wp2
    go_ret
    exact ⟨rfl, k03⟩
  have HS := Lib.hid (fewM_small hfx)
  clear hfx hfy
  go_wp2_with fail
  refine (WEncode_calls a _ w5 (CX.out _ k03) FX.out).mono ?_
  rintro e w6 ⟨v6, rfl, h6, k6⟩
  replace kk := kk.tr k6
  replace k03 := k03.tr k6
  go_wp2_with fail
  refine (WEncode_calls b _ w6 (CY.out _ k03) FY.out).mono ?_
  rintro e w7 ⟨v7, rfl, h7, k7⟩
  replace h6 := sl_st _ _ _ _ h6 k7
  replace kk := kk.tr k7
  replace k03 := k03.tr k7
  clear k3 k4 k5 k6 k7
  cases hox : okM a
  · rw [chkM_2 hox]
    clear h6 h7
    go_wp2
    go_ret
    exact ⟨rfl, k03⟩
  cases hoy : okM b
  · rw [chkM_1 hox, chkM_2 hoy]
    clear h6 h7
    go_wp2
    go_ret
    exact ⟨rfl, k03⟩
  rw [chkM_1 hox, chkM_1 hoy]
  rw [encMR_1 hox] at h6
  rw [encMR_1 hoy] at h7
  have HI := Lib.hid (encM_injB hox hoy FX.out FY.out)
  have C4 := WDecode_calls (encM a) _ w7 h6 (by have := encM_len hox FX.out; omega)
  rw [show decMC (encM a) = 0 from by unfold decMC; rw [decM_enc a hox FX.out]; rfl, show decMX (encM a) = a from by unfold decMX; rw [decM_enc a hox FX.out]; rfl] at C4
  replace C4 := Lib.hid C4
  have h6' := Lib.hid (sl_al h6)
  have h7' := Lib.hid (sl_al h7)
  obtain ⟨A9, c9, rfl, -⟩ := h6
  obtain ⟨B9, d9, rfl, -⟩ := h7
  clear hox hoy
  go_wp2_with fail
  refine C4.out.mono ?_
  rintro e w8 ⟨v8, rfl, hm, k8⟩
  obtain ⟨u1, u2, u3, u4, u5, u6, rfl, h1, h2, h3, h4, h5, h6⟩ := hm
  obtain ⟨D1, Dc1, rfl⟩ := lst_slice h1
  obtain ⟨D2, Dc2, rfl⟩ := lst_slice h2
  obtain ⟨D3, Dc3, rfl⟩ := lst_slice h3
  obtain ⟨D4, Dc4, rfl⟩ := lst_slice h4
  obtain ⟨D5, Dc5, rfl⟩ := lst_slice h5
  obtain ⟨D6, Dc6, rfl⟩ := lst_slice h6
  clear h1 h2 h3 h4 h5 h6 C4
  have hz := Blk.new w8 28 (msA a (.slice D1 a.votes.length Dc1) (.slice D2 a.asks.length Dc2) (.slice D3 a.entries.length Dc3) (.slice D4 a.prepares.length Dc4) (.slice D5 a.aborts.length Dc5) (.slice D6 a.ends.length Dc6))
  have kz : K w8 (w8.alloc (.cells (msA a (.slice D1 a.votes.length Dc1) (.slice D2 a.asks.length Dc2) (.slice D3 a.entries.length Dc3) (.slice D4 a.prepares.length Dc4) (.slice D5 a.aborts.length Dc5) (.slice D6 a.ends.length Dc6)) 28)) := (K.rf w8).al _
  have h79 := k8.tr kz
  clear k8
  go_upto_region 9 with (fail)
  generalize w8.alloc _ = w9 at *
  generalize w8.heap.size = g8 at *
  have qz := hz.cells
  replace kk := kk.tr h79
  replace k03 := k03.tr h79
  clear hz kz
  have kk9 := K.rf w9
  go_wp2_with fail
  refine (WSame_calls a b _ _ w9 (CX.out _ k03) (CY.out _ k03) HS.out).mono ?_
  rintro e w10 ⟨rfl, k10⟩
  replace kk := kk.tr k10
  replace k03 := k03.tr k10
  replace kk9 := k10
  have t6 := str (h6'.out _ (h79.tr k10))
  have t7 := str (h7'.out _ (h79.tr k10))
  have hb := beqw_text (encM a) (encM b)
  have hb2 := beqw_list (encM a) (encM b)
  rw [show decide (a = b) = decide ((⟨(encM a).toArray⟩ : ByteArray) = ⟨(encM b).toArray⟩) from decide_eq_decide.2 HI.out.symm]
  generalize decide ((⟨(encM a).toArray⟩ : ByteArray) = ⟨(encM b).toArray⟩) = q at *
  clear h79
  go_wp2
  go_ret
  exact ⟨by simp, k03⟩
end Go.Proofs.Ythnhdeieimgfhaa
