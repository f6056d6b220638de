/-
  postilionlaw11.EntryOnce: the walk. Conditions: none.
-/
import Derived.Test.YtjcdgbnbaiebdaaEnJ
import Derived.Test.YtjcdgbnbaiebdaaEnP
set_option maxRecDepth 100000
namespace Go.Proofs.Ytjcdgbnbaiebdaa
open Go Go.RowKit

theorem decEn_len {b : List UInt8} {x : Ent} (h : decEn b = some x) : encEnR x = b ∧ chkEn x = 0 ∧ fitEn x := by
  obtain ⟨h1, h2⟩ := decEn_back h
  exact ⟨by simp [encEnR, h2, ← h1], chkEn_good h2, decEn_fit h⟩
theorem decRec_len {b : List UInt8} {x : Rec} (h : decRec b = some x) : encRecR x = b ∧ chkRec x = 0 ∧ fitRec x := by
  obtain ⟨h1, h2⟩ := decRec_back h
  exact ⟨by simp [encRecR, h2, ← h1], by simp [chkRec, h2], decRec_fit h⟩

set_option maxHeartbeats 2000000 in
theorem EntryOnce_walk (v0 : Value) (w : World) (r0 : repBytes w v0) :
    Calls Try.prog 10 #[v0] w fun e w' => e = .returned (.bool true) ∧ Below w.heap.size w w' := by
  obtain ⟨b, hb0⟩ := bsl_rep r0
  have hs := sl_al (bsl_sl hb0)
  obtain ⟨A, c, rfl⟩ := bsl_len hb0
  clear r0 hb0
  by_cases hl : b.length ≤ 2000
  rotate_left
  · have hl' : (2000 : Int) < (b.length : Int) := by omega
    clear hs
    go_enter Try.func10, Try.ntmps10
    go_wp2_with fail
    refine (awakeE_calls w).mono ?_
    rintro e w1 ⟨rfl, k1⟩
    go_wp2
    go_ret
    exact ⟨rfl, k1⟩
  have hl' : ¬ (2000 : Int) < (b.length : Int) := by omega
  have HC1 : Hid (decEn b = none → decEnC b = 110) := Lib.hid fun h => (decEn_none h).1
  have HC2 : Hid (∀ x, decEn b = some x → decEnC b = 0) := Lib.hid fun x h => (decEn_some h).1
  have HN : Hid (∀ W, sl b (.slice A b.length c) W → Calls Try.prog 28 #[.slice A b.length c] W fun e w' => ∃ v', e = .returned (.tuple #[v', .int .i64 (decEnC b)]) ∧ (∀ W', UpB W.heap.size none w' W' → ent (decEnX b) v' W') ∧ K W w') := Lib.hid fun W h => NDecode_calls b _ W h (by omega)
  generalize decEnC b = C at HC1 HC2 HN
  go_enter Try.func10, Try.ntmps10
  go_wp2_with fail
  refine (awakeE_calls w).mono ?_
  rintro e w1 ⟨rfl, k1⟩
  go_wp2_with fail
  refine (HN.out w1 (hs _ k1)).mono ?_
  rintro e w2 ⟨v2, rfl, he, k2⟩
  obtain ⟨vf, ve, rfl, hf, hes⟩ := he _ (UpB.rf _ _ _)
  obtain ⟨A2, c2, rfl⟩ := flt_slice hf
  obtain ⟨D2, d2, rfl⟩ := lst_slice hes
  have hX := fun W kW => ent_st (he _ (UpB.rf _ _ _)) (w' := W) kW
  clear hf hes he
  have hx := Blk.new w2 34 (entA (decEnX b) (.slice A2 (decEnX b).f.length c2) (.slice D2 (decEnX b).es.length d2))
  have k3 : K w2 (w2.alloc (.cells (entA (decEnX b) (.slice A2 (decEnX b).f.length c2) (.slice D2 (decEnX b).es.length d2)) 34)) := (K.rf w2).al _
  go_upto_region 5 with (fail)
  generalize w2.alloc _ = w3 at *
  generalize w2.heap.size = g2 at hx ⊢
  have qx := hx.cells
  have k03 := (k1.tr k2).tr k3
  have hX3 := fun W (kW : K w3 W) => hX W (k3.tr kW)
  clear hX k3 k2 k1
  go_wp2_with fail
  refine (Unpack_calls b _ w3 (hs _ k03) (by omega)).mono ?_
  rintro e w4 ⟨v4, rfl, he, k4⟩
  obtain ⟨vf, ve, rfl, hf, hes⟩ := he _ (UpB.rf _ _ _)
  obtain ⟨A4, c4, rfl⟩ := flt_slice hf
  obtain ⟨D4, d4, rfl⟩ := lst_slice hes
  have hR := fun W kW => rcd_st (he _ (UpB.rf _ _ _)) (w' := W) kW
  clear hf hes he
  have hy := Blk.new w4 61 (recA (decRecX b) (.slice A4 (decRecX b).e.f.length c4) (.slice D4 (decRecX b).e.es.length d4))
  have k5 : K w4 (w4.alloc (.cells (recA (decRecX b) (.slice A4 (decRecX b).e.f.length c4) (.slice D4 (decRecX b).e.es.length d4)) 61)) := (K.rf w4).al _
  go_upto_region 6 with (fail)
  generalize w4.alloc _ = w5 at *
  generalize w4.heap.size = g4 at hy ⊢
  have qy := hy.cells
  have k35 := k4.tr k5
  have k05 := k03.tr k35
  have hX5 := fun W (kW : K w5 W) => hX3 W (k35.tr kW)
  have hR5 := fun W (kW : K w5 W) => hR W (k5.tr kW)
  have qx5 := fun W (kW : K w5 W) => qx W (k35.tr kW)
  have hs5 := fun W (kW : K w5 W) => hs W (k05.tr kW)
  clear hX3 hR qx k4 k5 k35 k03 hs
  have kk := K.rf w5
  go_upto_if 28 with (fail)
  go_cut [8, 9] from 29 to 47 (fun _ _ W => K w5 W)
  case first =>
    cases hd : decEn b with
    | none =>
      obtain rfl : C = 110 := HC1.out hd
      clear hX5 hR5
      go_wp2
      go_meet
      case rel => exact kk
    | some x =>
      have hd2 := decEn_some hd
      obtain rfl : C = 0 := HC2.out _ hd
      obtain ⟨g1, g2, g3⟩ := decEn_len hd
      rw [hd2.2] at hX5 qx5
      clear hR5
      have HX5 := Lib.hid hX5
      have HG := Lib.hid (And.intro g1 (And.intro g2 g3))
      clear hX5 g1 g2 g3 hd hd2
      go_wp2_with fail
      refine (NEncode_calls x _ w5 (HX5.out _ kk) HG.out.2.2).mono ?_
      rintro e w6 ⟨v6, rfl, ho6, k6⟩
      rw [HG.out.1] at ho6
      rw [HG.out.2.1]
      have t6 := str (sl_own ho6)
      have t0 := str (hs5 _ k6)
      clear ho6
      go_wp2_with fail
      refine (NCheck_calls x _ w6 (HX5.out _ k6)).mono ?_
      rintro e w7 ⟨rfl, k7⟩
      rw [HG.out.2.1]
      have k67 := k6.tr k7
      clear t6 t0
      go_wp2
      go_meet
      case rel => exact k67
  case rest =>
  clear hX5 qx5 kk
  have k0c := k05.tr hcut
  cases hd : decRec b with
  | none =>
    have hd2 := decRec_none hd
    rw [hd2.1]
    clear hR5
    go_wp2
    go_ret
    exact ⟨rfl, k0c⟩
  | some x =>
    have hd2 := decRec_some hd
    obtain ⟨g1, g2, g3⟩ := decRec_len hd
    rw [hd2.2] at hR5 qy
    rw [hd2.1]
    have HX5 := Lib.hid hR5
    have HG := Lib.hid (And.intro g1 (And.intro g2 g3))
    clear hR5 g1 g2 g3 hd hd2
    go_wp2_with fail
    refine (Pack_calls x _ wc (HX5.out _ hcut) HG.out.2.2).mono ?_
    rintro e w6 ⟨v6, rfl, ho6, k6⟩
    rw [HG.out.1] at ho6
    rw [HG.out.2.1]
    have t6 := str ho6
    have t0 := str (hs5 _ (hcut.tr k6))
    replace k0c := k0c.tr k6
    clear ho6
    go_wp2
    go_ret
    exact ⟨rfl, k0c⟩
end Go.Proofs.Ytjcdgbnbaiebdaa
