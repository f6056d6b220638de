/-
  The walks of few and Few of the statements of layer 13, and that of WireLess. Conditions: none.
-/
import Derived.Test.YthnhdeieimgfhaaWiI
import Derived.Test.YthnhdeieimgfhaaNA
set_option maxRecDepth 100000
namespace Go.Proofs.Ythnhdeieimgfhaa
open Go Go.RowKit

def fewL (l : List Ent) : Bool := decide (l.length ≤ 20) && l.all fewEn
def fewM (m : Msg) : Bool := fewL m.asks && fewL m.entries && fewL m.prepares && decide (m.votes.length ≤ 50) && decide (m.aborts.length ≤ 50) && decide (m.ends.length ≤ 50)

set_option maxHeartbeats 2000000 in
theorem WFewL_calls (l : List Ent) (v : Value) (w : World) (h : lst enS l v w) :
    Calls Try.prog 31 #[v] w fun e w' => e = .returned (.bool (fewL l)) ∧ K w w' := by
  obtain ⟨A, c, rfl, hl, hc⟩ := h
  have HI : Hid (fewL l = (decide (l.length ≤ 20) && l.all fewEn)) := Lib.hid rfl
  generalize fewL l = R at *
  have kk := K.rf w
  go_enter Try.func31, Try.ntmps31
  by_cases h16 : l.length ≤ 20
  rotate_left
  · have h16' : (20 : Int) < (l.length : Int) := by omega
    have HR : Hid (R = false) := Lib.hid (by rw [HI.out]; simp [h16])
    go_wp2
    go_ret
    exact ⟨by rw [HR.out]; rfl, kk⟩
  have h16' : ¬ (20 : Int) < (l.length : Int) := by omega
  go_wp2_with fail
  go_loopw [3, 4] (fun i _ wr => ∃ j : Nat, j ≤ l.length ∧ i = .int .i64 (j : Int) ∧ Hid ((l.take j).all fewEn = true) ∧ K w wr) (fun i _ _ => l.length - (intOf i).toNat)
  case atStart => exact ⟨0, by omega, rfl, Lib.hid (by simp), kk⟩
  case round =>
    clear kk
    obtain ⟨j, hj, rfl, HT, kr⟩ := hrel
    by_cases hlt : j < l.length
    · have hji : (j : Int) < (l.length : Int) := by omega
      obtain ⟨b1, off, cs, rfl, hcl, hrl, d0, d⟩ := lsr_cells hl j hlt (by decide)
      have HS := Lib.hid (all_take_succ fewEn l j hlt)
      generalize l[j] = x at *
      obtain ⟨vf, ve, rfl, hf, he⟩ := hrl w (K.rf w)
      have d0 : ∀ W, K wr W → W.cell? ⟨b1, off + j * 8, none⟩ = some (.int .i64 x.kind) := fun W kW => d0 W (kr.tr kW)
      have d : ∀ W, K wr W → ∀ i, i < 8 → W.cell? ⟨b1, off + j * 8 + i, none⟩ = (entA x vf ve)[i]? := fun W kW i hi => (d W (kr.tr kW) i hi).trans Array.getElem?_toList
      have kk := K.rf wr
      clear hcl hrl
      go_wp2_with fail
      refine (EFew_calls x _ wr ⟨_, _, rfl, flt_st _ _ _ _ hf kr, lst_st he kr⟩).mono ?_
      rintro e w4 ⟨rfl, k4⟩
      have k14 := kr.tr k4
      clear d0 d hf he
      cases hq : fewEn x
      · have HR : Hid (R = false) := Lib.hid (by
          have h1 : (l.take (j + 1)).all fewEn = false := by rw [HS.out, hq]; simp
          rw [HI.out, all_take_bad fewEn l (j + 1) h1]; simp)
        go_wp2
        go_ret
        exact ⟨by rw [HR.out]; rfl, k14⟩
      · have HT2 : Hid ((l.take (j + 1)).all fewEn = true) := Lib.hid (by rw [HS.out, hq, HT.out]; rfl)
        go_wp2
        go_roundw
        case rel => exact ⟨j + 1, by omega, by go_num, HT2, k14⟩
        case measure => simp [intOf]; omega
    · have hji : ¬ (j : Int) < (l.length : Int) := by omega
      have HR : Hid (R = true) := Lib.hid (by
        have h1 := HT.out
        rw [List.take_of_length_le (by omega)] at h1
        rw [HI.out, h1]; simp [h16])
      go_wp2
      go_ret
      exact ⟨by rw [HR.out]; rfl, kr⟩

set_option maxHeartbeats 4000000 in
theorem WFew_calls (m : Msg) (v : Value) (w : World) (h : msv m v w) :
    Calls Try.prog 14 #[v] w fun e w' => e = .returned (.bool (fewM m)) ∧ K w w' := by
  obtain ⟨v1, v2, v3, v4, v5, v6, rfl, h1, h2, h3, h4, h5, h6⟩ := h
  have CA := Lib.hid fun W (kW : K w W) => WFewL_calls m.asks v2 W (lst_st h2 kW)
  have CE := Lib.hid fun W (kW : K w W) => WFewL_calls m.entries v3 W (lst_st h3 kW)
  have CP := Lib.hid fun W (kW : K w W) => WFewL_calls m.prepares v4 W (lst_st h4 kW)
  obtain ⟨A1, c1, rfl⟩ := lst_slice h1
  obtain ⟨A2, c2, rfl⟩ := lst_slice h2
  obtain ⟨A3, c3, rfl⟩ := lst_slice h3
  obtain ⟨A4, c4, rfl⟩ := lst_slice h4
  obtain ⟨A5, c5, rfl⟩ := lst_slice h5
  obtain ⟨A6, c6, rfl⟩ := lst_slice h6
  clear h1 h2 h3 h4 h5 h6
  have HR : Hid (fewM m = (fewL m.asks && fewL m.entries && fewL m.prepares && decide (m.votes.length ≤ 50) && decide (m.aborts.length ≤ 50) && decide (m.ends.length ≤ 50))) := Lib.hid rfl
  generalize fewM m = R at *
  have hx := Blk.new w 28 (msA m (.slice A1 m.votes.length c1) (.slice A2 m.asks.length c2) (.slice A3 m.entries.length c3) (.slice A4 m.prepares.length c4) (.slice A5 m.aborts.length c5) (.slice A6 m.ends.length c6))
  have k1 : K w (w.alloc (.cells (msA m (.slice A1 m.votes.length c1) (.slice A2 m.asks.length c2) (.slice A3 m.entries.length c3) (.slice A4 m.prepares.length c4) (.slice A5 m.aborts.length c5) (.slice A6 m.ends.length c6)) 28)) := (K.rf w).al _
  go_enter Try.func14, Try.ntmps14
  go_upto_region 1 with (fail)
  generalize w.alloc _ = w1 at *
  have qx := hx.cells
  have kk := K.rf w1
  generalize w.heap.size = g at *
  clear hx
  go_wp2_with fail
  refine (CA.out w1 k1).mono ?_
  rintro e w2 ⟨rfl, j2⟩
  replace kk := kk.tr j2
  have k2 := k1.tr j2
  go_wp2_with fail
  refine (CE.out w2 k2).mono ?_
  rintro e w3 ⟨rfl, j3⟩
  replace kk := kk.tr j3
  have k3 := k2.tr j3
  go_wp2_with fail
  refine (CP.out w3 k3).mono ?_
  rintro e w4 ⟨rfl, j4⟩
  replace kk := kk.tr j4
  have k4 := k3.tr j4
  generalize fewL m.asks = q1 at *
  generalize fewL m.entries = q2 at *
  generalize fewL m.prepares = q3 at *
  clear CA CE CP
  cases q1
  · go_wp2
    go_ret
    exact ⟨by rw [HR.out]; rfl, k4⟩
  cases q2
  · go_wp2
    go_ret
    exact ⟨by rw [HR.out]; rfl, k4⟩
  cases q3
  · go_wp2
    go_ret
    exact ⟨by rw [HR.out]; rfl, k4⟩
  by_cases z1 : (m.votes.length : Int) ≤ 50
  rotate_left
  · have HQ : Hid (R = false) := Lib.hid (by rw [HR.out, show decide (m.votes.length ≤ 50) = false from by simp; omega]; simp)
    go_wp2
    go_ret
    exact ⟨by rw [HQ.out]; first | rfl | (simp; omega), k4⟩
  by_cases z2 : (m.aborts.length : Int) ≤ 50
  rotate_left
  · have HQ : Hid (R = false) := Lib.hid (by rw [HR.out, show decide (m.aborts.length ≤ 50) = false from by simp; omega]; simp)
    go_wp2
    go_ret
    exact ⟨by rw [HQ.out]; first | rfl | (simp; omega), k4⟩
  by_cases z3 : (m.ends.length : Int) ≤ 50
  rotate_left
  · have HQ : Hid (R = false) := Lib.hid (by rw [HR.out, show decide (m.ends.length ≤ 50) = false from by simp; omega]; simp)
    go_wp2
    go_ret
    exact ⟨by rw [HQ.out]; first | rfl | (simp; omega), k4⟩
  have HQ : Hid (R = true) := Lib.hid (by
    rw [HR.out, show decide (m.votes.length ≤ 50) = true from by simp; omega, show decide (m.aborts.length ≤ 50) = true from by simp; omega, show decide (m.ends.length ≤ 50) = true from by simp; omega]; rfl)
  go_wp2
  go_ret
  exact ⟨by rw [HQ.out]; first | rfl | (simp; omega), k4⟩
end Go.Proofs.Ythnhdeieimgfhaa
