/-
  The walk of 'awake' of the statements of layer 11, and those of EntryNames and EntryLess. Conditions: none.
-/
import Derived.Test.YtjcdgbnbaiebdaaEnU
import Derived.Test.YtjcdgbnbaiebdaaEnS
set_option maxRecDepth 100000
namespace Go.Proofs.Ytjcdgbnbaiebdaa
open Go Go.RowKit

def aE : Ent := ⟨3, 3, 2, 5, 1, 9, [], []⟩
def aR : Rec := ⟨2, 7, aE, 0, 0, 0⟩
theorem okEn_a : okEn aE = true := by simp [okEn, aE, homeB]
theorem fitEn_a : fitEn aE := by simp [fitEn, aE, i64ok]
theorem okRec_a : okRec aR = true := by simp [okRec, aR, okEn_a, noId]
theorem fitRec_a : fitRec aR := by refine ⟨by simp [aR, i64ok], by simp [aR], fitEn_a, by simp [aR, i64ok], by simp [aR], by simp [aR]⟩
theorem lenE_a : (encEnR aE).length = 12 := by
  unfold encEnR; rw [okEn_a]
  simp [encEn, encHd, aE, packN, kindN, longN, be]
theorem lenR_a : (encRecR aR).length = 18 := by
  have h : (encEn aE).length = 12 := by have := lenE_a; unfold encEnR at this; rw [okEn_a] at this; exact this
  unfold encRecR; rw [okRec_a]
  simp [encRec, aR, packB, h, packN, kindN, longN, be]
theorem dec_a : decEnC (encEnR aE) = 0 ∧ decEnX (encEnR aE) = aE := by
  unfold encEnR; rw [okEn_a]
  exact decEn_some (decEn_enc aE okEn_a fitEn_a)
theorem decR_a : decRecC (encRecR aR) = 0 ∧ decRecX (encRecR aR) = aR := by
  unfold encRecR; rw [okRec_a]
  exact decRec_some (decRec_enc aR okRec_a fitRec_a)
theorem decR_0 : decRecC [] = 110 := by
  have : decRec [] = none := by simp [decRec, rdRec, rdN]
  exact (decRec_none this).1
theorem small_a : smallEn aE := by simp [smallEn, aE]
theorem chk_0 : chkEn ent0 = 110 := by simp [chkEn, okEn, ent0]

set_option maxHeartbeats 4000000 in
theorem awakeE_calls (w : World) :
    Calls Try.prog 26 #[] w fun e w' => e = .returned (.bool true) ∧ K w w' := by
  have hx := Blk.new w 34 (entA aE (.slice none 0 0) (.slice none 0 0))
  have k1 : K w (w.alloc (.cells (entA aE (.slice none 0 0) (.slice none 0 0)) 34)) := (K.rf w).al _
  have hE : ∀ W, ent aE (.agg (entA aE (.slice none 0 0) (.slice none 0 0))) W := fun W => ⟨_, _, rfl, ⟨none, 0, rfl, Reads.nil _ _ _ _⟩, lst_nil _ _⟩
  have hR : ∀ W, rcd aR (.agg (recA aR (.slice none 0 0) (.slice none 0 0))) W := fun W => ⟨_, _, rfl, ⟨none, 0, rfl, Reads.nil _ _ _ _⟩, lst_nil _ _⟩
  simp only [aE, aR] at hx k1
  have HE := Lib.hid hE
  have HR := Lib.hid hR
  clear hE hR
  go_enter Try.func26, Try.ntmps26
  go_wp2_with fail
  generalize w.alloc _ = w1 at *
  generalize w.heap.size = g1 at hx ⊢
  have qx := hx.cells
  have kk := K.rf w1
  refine (NEncode_calls aE _ w1 (HE.out _) fitEn_a).mono ?_
  rintro e w2 ⟨v2, rfl, ho2, k2⟩
  have s2 := sl_al (sl_own ho2)
  clear ho2 kk
  rw [chkEn_good okEn_a]
  go_wp2_with fail
  refine (NDecode_calls _ _ w2 (s2 _ (K.rf _)) (by rw [lenE_a]; omega)).mono ?_
  rintro e w3 ⟨v3, rfl, hen, k3⟩
  rw [dec_a.1]
  rw [dec_a.2] at hen
  obtain ⟨vf, ve, rfl, hf, he⟩ := hen _ (UpB.rf _ _ _)
  obtain ⟨A3, c3, rfl⟩ := flt_slice hf
  obtain ⟨D3, d3, rfl⟩ := lst_slice he
  have hY := fun W kW => ent_st (hen _ (UpB.rf _ _ _)) (w' := W) kW
  replace k2 := k2.tr k3
  have k23 := k3
  clear hf he hen
  have hy := Blk.new w3 34 (entA aE (.slice A3 aE.f.length c3) (.slice D3 aE.es.length d3))
  have k4 : K w3 (w3.alloc (.cells (entA aE (.slice A3 aE.f.length c3) (.slice D3 aE.es.length d3)) 34)) := (K.rf w3).al _
  go_upto_region 4 with (fail)
  generalize w3.alloc _ = w4 at *
  generalize w3.heap.size = g3 at *
  have qy := hy.cells
  have rx := fun W (kW : K w4 W) => qx W (k2.tr (k4.tr kW))
  have kk := K.rf w4
  have k04 := k1.tr (k2.tr k4)
  have s4 := fun W (kW : K w4 W) => s2 W (k23.tr (k4.tr kW))
  have hY4 := fun W (kW : K w4 W) => hY W (k4.tr kW)
  clear k2 k23 k4 k3 qx s2 hY hx hy
  have hr := Blk.new w4 61 (recA aR (.slice none 0 0) (.slice none 0 0))
  have k5 : K w4 (w4.alloc (.cells (recA aR (.slice none 0 0) (.slice none 0 0)) 61)) := (K.rf w4).al _
  simp only [aE, aR] at hr k5
  go_wp2_with fail
  generalize w4.alloc _ = w5 at *
  generalize w4.heap.size = g4 at hr ⊢
  have qr := hr.cells
  refine (Pack_calls aR _ w5 (HR.out _) fitRec_a).mono ?_
  rintro e w6 ⟨v6, rfl, ho6, k6⟩
  have s6 := sl_al ho6
  rw [show chkRec aR = 0 from by simp [chkRec, okRec_a]]
  clear ho6
  go_wp2_with fail
  refine (Unpack_calls _ _ w6 (s6 _ (K.rf _)) (by rw [lenR_a]; omega)).mono ?_
  rintro e w7 ⟨v7, rfl, hrc, k7⟩
  rw [decR_a.1]
  rw [decR_a.2] at hrc
  obtain ⟨vf, ve, rfl, hf, he⟩ := hrc _ (UpB.rf _ _ _)
  obtain ⟨A7, c7, rfl⟩ := flt_slice hf
  obtain ⟨D7, d7, rfl⟩ := lst_slice he
  have hS := fun W kW => rcd_st (hrc _ (UpB.rf _ _ _)) (w' := W) kW
  clear hf he hrc
  have hs := Blk.new w7 61 (recA aR (.slice A7 aR.e.f.length c7) (.slice D7 aR.e.es.length d7))
  have k8 : K w7 (w7.alloc (.cells (recA aR (.slice A7 aR.e.f.length c7) (.slice D7 aR.e.es.length d7)) 61)) := (K.rf w7).al _
  go_upto_region 7 with (fail)
  generalize w7.alloc _ = w8 at *
  generalize w7.heap.size = g7 at *
  have qs := hs.cells
  have k48 := k5.tr (k6.tr (k7.tr k8))
  have k58 := k6.tr (k7.tr k8)
  have k68 := k7.tr k8
  have k08 := k04.tr k48
  have rx8 := fun W (kW : K w8 W) => rx W (k48.tr kW)
  have ry8 := fun W (kW : K w8 W) => qy W (k48.tr kW)
  have rr8 := fun W (kW : K w8 W) => qr W (k58.tr kW)
  have s28 := fun W (kW : K w8 W) => s4 W (k48.tr kW)
  have s68 := fun W (kW : K w8 W) => s6 W (k68.tr kW)
  have hY8 := fun W (kW : K w8 W) => hY4 W (k48.tr kW)
  have hS8 := fun W (kW : K w8 W) => hS W (k8.tr kW)
  clear k48 k58 k68 k5 k6 k7 k8 kk rx qy qr s4 s6 hY4 hS hs hr k04
  go_wp2_with fail
  refine (Unpack_calls [] _ w8 (sl_nil w8) (by simp)).mono ?_
  rintro e w9 ⟨v9, rfl, hrc, k9⟩
  rw [decR_0]
  obtain ⟨vf, ve, rfl, hf, he⟩ := hrc _ (UpB.rf _ _ _)
  obtain ⟨A9, c9, rfl⟩ := flt_slice hf
  obtain ⟨D9, d9, rfl⟩ := lst_slice he
  clear hf he hrc
  have k10 : K w9 (w9.alloc (.cells (recA (decRecX []) (.slice A9 (decRecX []).e.f.length c9) (.slice D9 (decRecX []).e.es.length d9)) 61)) := (K.rf w9).al _
  go_upto_region 8 with (fail)
  generalize w9.alloc _ = wa at *
  have kk := k9.tr k10
  clear k9 k10
  go_wp2_with fail
  refine (ESame_calls aE aE _ _ wa (HE.out _) (hY8 _ kk) small_a).mono ?_
  rintro e wb ⟨rfl, kb⟩
  rw [show decide (aE = aE) = true from by simp]
  replace kk := kk.tr kb
  go_wp2_with fail
  refine (RSame_calls aR aR _ _ wb (HR.out _) (hS8 _ kk) small_a).mono ?_
  rintro e wc ⟨rfl, kc⟩
  rw [show decide (aR = aR) = true from by simp]
  replace kk := kk.tr kc
  obtain ⟨A2, c2, rfl, -⟩ := s28 _ kk
  obtain ⟨A6, c6, rfl, -⟩ := s68 _ kk
  have hl2 := lenE_a
  have hl6 := lenR_a
  clear s28 s68
  go_wp2_with fail
  refine (NCheck_calls aE _ _ (HE.out _)).mono ?_
  rintro e wd ⟨rfl, kd⟩
  rw [chkEn_good okEn_a]
  replace kk := kk.tr kd
  go_wp2_with fail
  refine (NCheck_calls ent0 _ _ (ent_zero _)).mono ?_
  rintro e we ⟨rfl, ke⟩
  rw [chk_0]
  replace kk := kk.tr ke
  go_wp2_with fail
  refine (Less_calls (0, 0, 1) (0, 1, 0) _).mono ?_
  rintro e wf ⟨rfl, kf⟩
  rw [show lessI (0, 0, 1) (0, 1, 0) = true from by simp [lessI]]
  replace kk := kk.tr kf
  go_wp2
  go_ret
  exact ⟨by simp, k08.tr kk⟩

set_option maxHeartbeats 400000 in
theorem EntryNames_walk (w : World) :
    Calls Try.prog 8 #[] w fun e w' => e = .returned (.bool true) ∧ Below w.heap.size w w' := by
  go_enter Try.func8, Try.ntmps8
  go_wp2_with fail
  refine (awakeE_calls w).mono ?_
  rintro e w1 ⟨rfl, hb⟩
  go_wp2
  go_ret
  exact ⟨rfl, hb⟩
end Go.Proofs.Ytjcdgbnbaiebdaa
