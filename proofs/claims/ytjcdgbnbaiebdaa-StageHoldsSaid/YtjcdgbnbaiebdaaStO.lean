/-
  The walk of 'awake' of the statements of layer 17, and that of StageNames. Conditions: none.
-/
import Derived.Test.YtjcdgbnbaiebdaaTL
import Derived.Test.YtjcdgbnbaiebdaaVA
set_option maxRecDepth 100000
namespace Go.Proofs.Ytjcdgbnbaiebdaa
open Go Go.RowKit

abbrev xA : Att := (⟨#[112]⟩, 1, 5, ⟨#[]⟩)
def aI : Idn := (0, 0, 1)
def eU : Ent := ⟨3, 0, 0, 0, 0, 0, [], []⟩
theorem okX : okE [xA] = true := by simp [okE, okL, okA, behind, okName, okCh, okV, ByteArray.size, ByteArray.toList_eq]
theorem ok_b : okEn (oneT aI 0 [[xA]]).e = true := by simp [okEn, oneT, pubE, aI, homeB, okX]
theorem encE_x : encE [xA] = [1, 1, 1, 1, 112, 1, 1, 1, 10, 0] := by
  simp [encE, encA, packV, packN, kindN, numV, foldI, longN, be, ByteArray.size, byt]
theorem big_b : bigE (oneT aI 0 [[xA]]).e = false := by
  have g1 := packN_len (kindN 1) (kindN_lt _)
  have g2 := packN_len (kindN 0) (kindN_lt _)
  have g3 := packN_len 0 (by omega)
  have g4 := packN_len 1 (by omega)
  have g5 := packN_len 10 (by omega)
  unfold bigE encOf
  rw [ok_b]
  simp only [if_true, decide_eq_false_iff_not, encEn, encHd, oneT, pubE, aI, List.flatMap_cons, List.flatMap_nil, List.append_nil, packB, encE_x, List.length_append, List.length_cons, List.length_nil, Nat.zero_add, Nat.reduceAdd]
  omega
theorem big_u : bigE eU = false := by
  unfold bigE encOf
  rw [show okEn eU = true from by simp [okEn, eU, homeB]]
  simp [eU, encEn, encHd, packN, kindN, longN, be]
theorem aw_begin : beginT [] aI 0 = ([oneT aI 0 []], 0) := by
  rw [begin_one aI 0 (by simp [aI]) (by simp [aI])]
  simp [aI, homeB]
theorem aw_publish : publishT [oneT aI 0 []] aI [xA] = ([oneT aI 0 [[xA]]], 0) := by
  have ho : openT [oneT aI 0 []] aI = some 0 := by simp [openT, seekT, List.findIdx?_cons, isId, idOf, oneT, pubE]
  have hb := big_b
  unfold publishT
  rw [ho]
  simp only [List.getElem?_cons_zero, okX]
  rw [if_neg (by decide), if_neg (by simp [oneT]), if_neg (by rw [show moreE (oneT aI 0 []).e [xA] = (oneT aI 0 [[xA]]).e from rfl, hb]; decide)]
  rfl
abbrev tB : Txn := oneT aI 0 [[xA]]
abbrev tC : Txn := ⟨(oneT aI 0 [[xA]]).e, true⟩
theorem aw_commit : commitT [tB] aI = ([tC], 0) := by
  simp [commitT, openT, seekT, List.findIdx?_cons, isId, idOf, oneT, pubE]
theorem aw_open : openT [tC] aI = none := by simp [openT, seekT, List.findIdx?_cons, isId, idOf, oneT, pubE]
theorem aw_publish2 : publishT [tC] aI [xA] = ([tC], 170) := by unfold publishT; rw [aw_open]
theorem aw_abort : abortT [tC] aI = ([tC], 170) := by unfold abortT; rw [aw_open]; rfl
theorem aw_abort2 : abortT [tB] aI = ([], 0) := by simp [abortT, settleT, openT, seekT, List.findIdx?_cons, isId, idOf, oneT, pubE]
theorem aw_settle : settleT [tC] aI = [] := by simp [settleT, seekT, List.findIdx?_cons, isId, idOf, oneT, pubE]
theorem aw_asks : asksT [tC] = [tC.e] := by simp [asksT]
theorem aw_find : findT [tC] aI = (tC, true) := by simp [findT, isId, idOf, oneT, pubE]
theorem aw_ask : askT [] eU = ([⟨eU, true⟩], 0) := by
  have h1 : okEn eU = true := by simp [okEn, eU, homeB]
  unfold askT addT
  simp [seekT, h1, big_u]
theorem sm_b (b : Bool) : ∀ s ∈ [Txn.mk (oneT aI 0 [[xA]]).e b], smallEn s.e := by
  intro s hs
  simp at hs
  subst hs
  simp [smallEn, oneT, pubE]
theorem sm_a : ∀ s ∈ [oneT aI 0 []], smallEn s.e := by
  intro s hs
  simp at hs
  subst hs
  simp [smallEn, oneT, pubE]
theorem fit_a : ∀ s ∈ [oneT aI 0 []], fitEn s.e := by
  intro s hs
  simp at hs
  subst hs
  exact pubE_fit (a := aI) (c := 0) (by simp [fitI, aI, i64ok]) (by simp [i64ok])
theorem fitX : ∀ x ∈ [xA], fitA x := by
  intro x hx
  simp at hx
  subst hx
  simp [fitA, i64ok]
theorem fit_b (b : Bool) : ∀ s ∈ [Txn.mk (oneT aI 0 [[xA]]).e b], fitEn s.e := by
  intro s hs
  simp at hs
  subst hs
  exact ⟨by simp [oneT, pubE, i64ok], by simp [oneT, pubE, aI, i64ok], by simp [oneT, pubE, i64ok], by simp [oneT, pubE, aI], by simp [oneT, pubE, aI], by simp [oneT, pubE], by simp [oneT, pubE], by
    intro e he
    simp [oneT] at he
    subst he
    exact fitX⟩

set_option maxHeartbeats 8000000 in
theorem awakeT_calls (w : World) :
    Calls Try.prog 14 #[] w fun e w' => e = .returned (.bool true) ∧ K w w' := by
  have hx := Blk.new w 26 #[.int .i64 aI.1, .int .u64 (aI.2.1 : Int), .int .u64 (aI.2.2 : Int)]
  have k1 : K w (w.alloc (.cells #[.int .i64 aI.1, .int .u64 (aI.2.1 : Int), .int .u64 (aI.2.2 : Int)] 26)) := (K.rf w).al _
  simp only [aI] at hx k1
  go_enter Try.func14, Try.ntmps14
  go_upto_region 2 with (fail)
  generalize w.alloc _ = w1 at *
  generalize w.heap.size = g at hx ⊢
  have qx := hx.cells
  have kk := K.rf w1
  go_wp2_with fail
  refine (Int_calls 5 _).mono ?_
  rintro e w2 ⟨rfl, k2⟩
  have k02 := k1.tr k2
  have r2 := fun W (kW : K w2 W) => qx W (k2.tr kW)
  clear kk qx hx k1 k2
  have hr := Reads.new w2 (attc xA) 79 4 1 rfl
  have k3 : K w2 (w2.alloc (.cells #[.string { data := #[112] }, .int .i64 1, .int .i64 5, .string { data := #[] }] 79)) := (K.rf w2).al _
  have hev : evt [xA] (.slice (some ⟨w2.heap.size, 0, none⟩) 1 1) (w2.alloc (.cells #[.string { data := #[112] }, .int .i64 1, .int .i64 5, .string { data := #[] }] 79)) := ⟨_, _, rfl, hr.more (by simp)⟩
  clear hr
  go_upto_region 3 with (fail)
  have k03 := k02.tr k3
  have r3 := fun W (kW : K _ W) => r2 W (k3.tr kW)
  generalize w2.alloc _ = w3 at *
  have HEV := Lib.hid fun W (kW : K w3 W) => evt_st _ _ _ _ hev kW
  generalize w2.heap.size = g2 at *
  clear hev r2 k02 k3
  have kk := K.rf w3
  have C1 := Lib.hid fun W => Begin_calls [] aI 0 (.slice none 0 0) W (lst_nil _ _) (by simp [fitI, aI, i64ok]) (by simp [i64ok]) (by simp) (by simp)
  rw [aw_begin] at C1
  go_wp2_with fail
  refine (C1.out w3).mono ?_
  rintro e w4 ⟨v4, rfl, hO, k4⟩
  have H4 := Lib.hid fun W (kW : K w4 W) => lst_st hO.lst kW
  obtain ⟨A4, c4, rfl⟩ := lst_slice hO.lst
  clear C1 hO
  have C2 := Lib.hid fun W (kW : K w4 W) => Publish_calls [oneT aI 0 []] aI [xA] _ _ W (H4.out W kW) (HEV.out W (k4.tr kW)) sm_a fit_a (by simp) fitX (by simp)
  rw [aw_publish] at C2
  go_wp2_with fail
  refine (C2.out w4 (K.rf _)).mono ?_
  rintro e w5 ⟨v5, rfl, hO, k5⟩
  have H5 := Lib.hid fun W (kW : K w5 W) => lst_st hO kW
  obtain ⟨A5, c5, rfl⟩ := lst_slice hO
  replace k4 := k4.tr k5
  clear C2 hO H4
  have C3 := Lib.hid fun W (kW : K w5 W) => Commit_calls [tB] aI _ W (H5.out W kW) (sm_b false) (by simp)
  rw [aw_commit] at C3
  go_wp2_with fail
  refine (C3.out w5 (K.rf _)).mono ?_
  rintro e w6 ⟨v6, rfl, hO, k6⟩
  have H6 := Lib.hid fun W (kW : K w6 W) => lst_st hO kW
  obtain ⟨A6, c6, rfl⟩ := lst_slice hO
  replace k4 := k4.tr k6
  replace k5 := k6
  clear C3 hO
  have C4 := Lib.hid fun W (kW : K w6 W) => Publish_calls [tC] aI [xA] _ _ W (H6.out W kW) (HEV.out W (k4.tr kW)) (sm_b true) (fit_b true) (by simp) fitX (by simp)
  rw [aw_publish2] at C4
  go_wp2_with fail
  refine (C4.out w6 (K.rf _)).mono ?_
  rintro e w7 ⟨v7, rfl, -, k7⟩
  replace k4 := k4.tr k7
  replace k5 := k5.tr k7
  have k67 := k7
  clear C4 k6
  have C5 := Lib.hid fun W (kW : K w6 W) => Abort_calls [tC] aI _ W (H6.out W kW) (sm_b true) (by simp)
  rw [aw_abort] at C5
  go_wp2_with fail
  refine (C5.out w7 k67).mono ?_
  rintro e w8 ⟨v8, rfl, -, k8⟩
  replace k4 := k4.tr k8
  replace k5 := k5.tr k8
  replace k67 := k67.tr k8
  clear C5 k7
  have C6 := Lib.hid fun W (kW : K w5 W) => Abort_calls [tB] aI _ W (H5.out W kW) (sm_b false) (by simp)
  rw [aw_abort2] at C6
  go_wp2_with fail
  refine (C6.out w8 k5).mono ?_
  rintro e w9 ⟨v9, rfl, hO, k9⟩
  obtain ⟨A9, c9, rfl⟩ := lst_slice hO
  replace k4 := k4.tr k9
  replace k67 := k67.tr k9
  clear C6 H5 k5 k8 hO
  have C7 := Lib.hid fun W (kW : K w6 W) => Asks_calls [tC] _ W (H6.out W kW) (sm_b true) (by simp)
  rw [aw_asks] at C7
  go_wp2_with fail
  refine (C7.out w9 k67).mono ?_
  rintro e wa ⟨va, rfl, hO, ka⟩
  obtain ⟨Aa, ca, rfl, hla, -⟩ := hO.slice
  obtain ⟨ba, oa, cs, rfl, hcl, hrl, d0, d⟩ := lsr_cells hla 0 (by simp) (by decide)
  replace k4 := k4.tr ka
  replace k67 := k67.tr ka
  clear C7 k9 hO hla
  obtain ⟨vfa, vea, rfl, -, hva⟩ := hrl wa (K.rf wa)
  obtain ⟨Da, da, rfl⟩ := lst_slice hva
  have ra : ∀ W, K wa W → ∀ i, i < 8 → W.cell? ⟨ba, oa + i, none⟩ = (entA tC.e vfa (.slice Da tC.e.es.length da))[i]? := fun W kW i hi => by
    have := (d W kW i hi).trans Array.getElem?_toList
    rwa [Nat.zero_mul, Nat.add_zero] at this
  clear hcl hrl d0 d hva
  have C8 := Lib.hid fun W (kW : K w6 W) => Find_calls [tC] aI _ W (H6.out W kW) (sm_b true) (by simp)
  rw [aw_find] at C8
  go_wp2_with fail
  refine (C8.out wa k67).mono ?_
  rintro e wb ⟨vb, rfl, hO, kb⟩
  obtain ⟨vfb, veb, rfl, hfb, heb⟩ := hO
  obtain ⟨Ab, cb, rfl⟩ := flt_slice hfb
  obtain ⟨Db, db, rfl⟩ := lst_slice heb
  replace k4 := k4.tr kb
  replace k67 := k67.tr kb
  clear C8 hfb heb
  have hx := Blk.new wb 39 (txA tC (.slice Ab tC.e.f.length cb) (.slice Db tC.e.es.length db))
  have kx : K wb (wb.alloc (.cells (txA tC (.slice Ab tC.e.f.length cb) (.slice Db tC.e.es.length db)) 39)) := (K.rf wb).al _
  go_upto_region 11 with (fail)
  have ra2 := fun W (kW : K _ W) => ra W (kb.tr (kx.tr kW))
  have r32 := fun W (kW : K _ W) => r3 W (k4.tr (kx.tr kW))
  have k04 := k03.tr (k4.tr kx)
  have k68 := k67.tr kx
  generalize wb.alloc _ = wc at *
  generalize wb.heap.size = gc at *
  have qx := hx.cells
  clear ra r3 kb kx k67 k4 k03 ka hx HEV kk
  have kk := K.rf wc
  have C9 := Lib.hid fun W => Ask_calls [] eU (.slice none 0 0) (.agg (entA eU (.slice none 0 0) (.slice none 0 0))) W (lst_nil _ _) ⟨_, _, rfl, ⟨none, 0, rfl, Reads.nil _ _ _ _⟩, lst_nil _ _⟩ (by simp [fitEn, eU, i64ok]) (by simp [smallEn, eU]) (by simp) (by simp)
  rw [aw_ask] at C9
  simp only [eU] at C9
  go_wp2_with fail
  refine (C9.out wc).mono ?_
  rintro e wd ⟨vd, rfl, hO, kd⟩
  obtain ⟨Ad, cd, rfl⟩ := lst_slice hO.lst
  have k0d := k04.tr kd
  have k6d := k68.tr kd
  clear C9 hO
  have C10 := Lib.hid fun W (kW : K w6 W) => Settle_calls [tC] aI _ W (H6.out W kW) (sm_b true) (by simp)
  rw [aw_settle] at C10
  go_wp2_with fail
  refine (C10.out wd k6d).mono ?_
  rintro e we ⟨ve, rfl, hO, ke⟩
  obtain ⟨Ae, ce, rfl⟩ := lst_slice hO
  go_wp2
  go_ret
  exact ⟨by simp, k0d.tr ke⟩

set_option maxHeartbeats 400000 in
theorem StageNames_walk (w : World) :
    Calls Try.prog 3 #[] w fun e w' => e = .returned (.bool true) ∧ Below w.heap.size w w' := by
  go_enter Try.func3, Try.ntmps3
  go_wp2_with fail
  refine (awakeT_calls w).mono ?_
  rintro e w1 ⟨rfl, hb⟩
  go_wp2
  go_ret
  exact ⟨rfl, hb⟩
end Go.Proofs.Ytjcdgbnbaiebdaa
