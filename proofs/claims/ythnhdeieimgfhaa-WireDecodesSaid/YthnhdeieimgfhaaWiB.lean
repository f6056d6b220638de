/-
  Messages in memory, and the walk of wire.Check (layer 13). Conditions: none.
-/
import Derived.Test.YthnhdeieimgfhaaWiA
import Derived.Test.YthnhdeieimgfhaaLstB
import Derived.Test.YthnhdeieimgfhaaNA
set_option maxRecDepth 100000
namespace Go.Proofs.Ythnhdeieimgfhaa
open Go Go.RowKit

abbrev idA (a : Idn) : Array Value := #[.int .i64 a.1, .int .u64 (a.2.1 : Int), .int .u64 (a.2.2 : Int)]
abbrev voA (v : Vot) : Array Value := #[.int .i64 v.id.1, .int .u64 (v.id.2.1 : Int), .int .u64 (v.id.2.2 : Int), .bool v.yes]
def voS : Shp Vot where
  size := 4
  rel v cs _ := cs = (voA v).toList
  len := by rintro _ _ _ rfl; rfl
  one := by
    rintro x _ _ rfl u hu
    simp at hu
    rcases hu with rfl | rfl | rfl | rfl <;> rfl
  st := by rintro _ _ _ _ h _; exact h
/-- Messages: eight cells. -/
abbrev msA (m : Msg) (v1 v2 v3 v4 v5 v6 : Value) : Array Value := #[.int .i64 m.kind, .int .u64 (m.got : Int), v1, v2, v3, v4, v5, v6]
def msv (m : Msg) (v : Value) (w : World) : Prop := ∃ v1 v2 v3 v4 v5 v6, v = .agg (msA m v1 v2 v3 v4 v5 v6) ∧ lst voS m.votes v1 w ∧ lst enS m.asks v2 w ∧ lst enS m.entries v3 w ∧ lst enS m.prepares v4 w ∧ lst idS m.aborts v5 w ∧ lst idS m.ends v6 w
theorem msv_st {m : Msg} {v : Value} {w w' : World} (h : msv m v w) (k : K w w') : msv m v w' := by
  obtain ⟨v1, v2, v3, v4, v5, v6, e, h1, h2, h3, h4, h5, h6⟩ := h
  exact ⟨v1, v2, v3, v4, v5, v6, e, lst_st h1 k, lst_st h2 k, lst_st h3 k, lst_st h4 k, lst_st h5 k, lst_st h6 k⟩
theorem msv_al {m : Msg} {v : Value} {w : World} (h : msv m v w) : ∀ W, K w W → msv m v W := fun _ k => msv_st h k

set_option maxHeartbeats 1000000 in
theorem WHome_calls (a : Idn) (w : World) :
    Calls Try.prog 44 #[.agg (idA a)] w fun e w' => e = .returned (.bool (okId a)) ∧ K w w' := by
  obtain ⟨a0, a1, a2⟩ := a
  have k1 : K w (w.alloc (.cells (idA (a0, a1, a2)) 53)) := (K.rf w).al _
  have HR : Hid (okId (a0, a1, a2) = (decide (0 ≤ a0) && decide (a0 < 16))) := Lib.hid rfl
  generalize okId (a0, a1, a2) = R at *
  by_cases h0 : (0 : Int) ≤ a0
  · by_cases h1 : a0 < (16 : Int)
    · go_enter Try.func44, Try.ntmps44
      go_wp2
      go_ret
      exact ⟨by rw [HR.out]; simp [h0, h1], k1⟩
    · go_enter Try.func44, Try.ntmps44
      go_wp2
      go_ret
      exact ⟨by rw [HR.out]; simp [h0, h1], k1⟩
  · go_enter Try.func44, Try.ntmps44
    go_wp2
    go_ret
    exact ⟨by rw [HR.out]; simp; intro; omega, k1⟩
set_option maxHeartbeats 1000000 in
theorem VoteC_calls (x : Vot) (w : World) :
    Calls Try.prog 43 #[.agg (voA x)] w fun e w' => e = .returned (.bool (okVo x)) ∧ K w w' := by
  have k1 : K w (w.alloc (.cells (voA x) 71)) := (K.rf w).al _
  have HR : Hid (okVo x = okId x.id) := Lib.hid rfl
  go_enter Try.func43, Try.ntmps43
  go_wp2_with fail
  generalize w.alloc _ = w1 at *
  refine (WHome_calls x.id w1).mono ?_
  rintro e w2 ⟨rfl, k2⟩
  go_wp2
  go_ret
  exact ⟨by rw [HR.out]; rfl, k1.tr k2⟩
set_option maxHeartbeats 1000000 in
theorem EntC_calls (x : Ent) (v : Value) (w : World) (h : ent x v w) :
    Calls Try.prog 45 #[v] w fun e w' => e = .returned (.bool (okEn x)) ∧ K w w' := by
  obtain ⟨vf, ve, rfl, hf, he⟩ := h
  obtain ⟨Af, cf, rfl⟩ := flt_slice hf
  obtain ⟨Ae, ce, rfl⟩ := lst_slice he
  have k1 : K w (w.alloc (.cells (entA x (.slice Af x.f.length cf) (.slice Ae x.es.length ce)) 58)) := (K.rf w).al _
  have C1 := Lib.hid (NCheck_calls x _ _ ⟨_, _, rfl, flt_st _ _ _ _ hf k1, lst_st he k1⟩)
  clear hf he
  go_enter Try.func45, Try.ntmps45
  go_wp2_with fail
  generalize w.alloc _ = w1 at *
  refine C1.out.mono ?_
  rintro e w2 ⟨rfl, k2⟩
  cases hok : okEn x
  · rw [chkEn_bad hok]
    go_wp2
    go_ret
    exact ⟨by simp [hok], k1.tr k2⟩
  · rw [chkEn_good hok]
    go_wp2
    go_ret
    exact ⟨by simp [hok], k1.tr k2⟩

set_option maxHeartbeats 2000000 in
theorem AllVote_calls (l : List Vot) (v : Value) (w : World) (h : lst voS l v w) :
    Calls Try.prog 47 #[v, .func (Fn.func 43) #[] #[]] w fun e w' => e = .returned (.bool (okLs okVo l)) ∧ K w w' := by
  obtain ⟨A, c, rfl, hl, hc⟩ := h
  have HI : Hid (okLs okVo l = (decide (l.length ≤ 16) && l.all okVo)) := Lib.hid rfl
  generalize okLs okVo l = R at *
  have kk := K.rf w
  go_enter Try.func47, Try.ntmps47
  by_cases h16 : l.length ≤ 16
  rotate_left
  · have h16' : (16 : Int) < (l.length : Int) := by omega
    have HR : Hid (R = false) := Lib.hid (by rw [HI.out]; simp [h16])
    go_wp2
    go_ret
    exact ⟨by rw [HR.out]; rfl, kk⟩
  have h16' : ¬ (16 : Int) < (l.length : Int) := by omega
  go_wp2_with fail
  go_loopw [6, 12] (fun _ i wr => ∃ j : Nat, j ≤ l.length ∧ i = .int .i64 (j : Int) ∧ Hid ((l.take j).all okVo = true) ∧ K w wr) (fun _ i _ => l.length - (intOf i).toNat)
  case atStart => exact ⟨0, by omega, rfl, Lib.hid (by simp), kk⟩
  case round =>
    clear kk
    obtain ⟨j, hj, rfl, HT, kr⟩ := hrel
    by_cases hlt : j < l.length
    · have hji : (j : Int) < (l.length : Int) := by omega
      obtain ⟨b1, off, cs, rfl, hcl, hrl, d0, d⟩ := lsr_cells hl j hlt (by decide)
      have HS := Lib.hid (all_take_succ okVo l j hlt)
      generalize l[j] = x at *
      obtain rfl := hrl w (K.rf w)
      have d0 : ∀ W, K wr W → W.cell? ⟨b1, off + j * 4, none⟩ = some (.int .i64 x.id.1) := fun W kW => d0 W (kr.tr kW)
      have d : ∀ W, K wr W → ∀ i, i < 4 → W.cell? ⟨b1, off + j * 4 + i, none⟩ = (voA x)[i]? := fun W kW i hi => (d W (kr.tr kW) i hi).trans Array.getElem?_toList
      have kk := K.rf wr
      have hx := Blk.new wr 71 (voA x)
      have kx : K wr (wr.alloc (.cells (voA x) 71)) := (K.rf wr).al _
      clear hcl hrl
      go_upto_region 6 with (fail)
      have kwx := kr.tr kx
      generalize wr.alloc _ = wx at *
      generalize wr.heap.size = gx at *
      have q := hx.cells
      have kk := K.rf wx
      clear d0 d hx
      go_wp2_with fail
      refine (VoteC_calls x wx).mono ?_
      rintro e w4 ⟨rfl, k4⟩
      have k14 := kwx.tr k4
      cases hq : okVo x
      · have HR : Hid (R = false) := Lib.hid (by
          have h1 : (l.take (j + 1)).all okVo = false := by rw [HS.out, hq]; simp
          rw [HI.out, all_take_bad okVo l (j + 1) h1]; simp)
        clear q
        go_wp2
        go_ret
        exact ⟨by rw [HR.out]; rfl, k14⟩
      · have HT2 : Hid ((l.take (j + 1)).all okVo = true) := Lib.hid (by rw [HS.out, hq, HT.out]; rfl)
        clear q
        go_wp2
        go_roundw
        case rel => exact ⟨j + 1, by omega, by go_num, HT2, k14⟩
        case measure => simp [intOf]; omega
    · have hji : ¬ (j : Int) < (l.length : Int) := by omega
      have HR : Hid (R = true) := Lib.hid (by
        have h1 := HT.out
        rw [List.take_of_length_le (by omega)] at h1
        rw [HI.out, h1]; simp [h16])
      go_wp2
      go_ret
      exact ⟨by rw [HR.out]; rfl, kr⟩

set_option maxHeartbeats 2000000 in
theorem AllEntry_calls (l : List Ent) (v : Value) (w : World) (h : lst enS l v w) :
    Calls Try.prog 48 #[v, .func (Fn.func 45) #[] #[]] w fun e w' => e = .returned (.bool (okLs okEn l)) ∧ K w w' := by
  obtain ⟨A, c, rfl, hl, hc⟩ := h
  have HI : Hid (okLs okEn l = (decide (l.length ≤ 16) && l.all okEn)) := Lib.hid rfl
  generalize okLs okEn l = R at *
  have kk := K.rf w
  go_enter Try.func48, Try.ntmps48
  by_cases h16 : l.length ≤ 16
  rotate_left
  · have h16' : (16 : Int) < (l.length : Int) := by omega
    have HR : Hid (R = false) := Lib.hid (by rw [HI.out]; simp [h16])
    go_wp2
    go_ret
    exact ⟨by rw [HR.out]; rfl, kk⟩
  have h16' : ¬ (16 : Int) < (l.length : Int) := by omega
  go_wp2_with fail
  go_loopw [6, 12] (fun _ i wr => ∃ j : Nat, j ≤ l.length ∧ i = .int .i64 (j : Int) ∧ Hid ((l.take j).all okEn = true) ∧ K w wr) (fun _ i _ => l.length - (intOf i).toNat)
  case atStart => exact ⟨0, by omega, rfl, Lib.hid (by simp), kk⟩
  case round =>
    clear kk
    obtain ⟨j, hj, rfl, HT, kr⟩ := hrel
    by_cases hlt : j < l.length
    · have hji : (j : Int) < (l.length : Int) := by omega
      obtain ⟨b1, off, cs, rfl, hcl, hrl, d0, d⟩ := lsr_cells hl j hlt (by decide)
      have HS := Lib.hid (all_take_succ okEn l j hlt)
      generalize l[j] = x at *
      obtain ⟨vf, ve, rfl, hf, he⟩ := hrl w (K.rf w)
      obtain ⟨Af, cf, rfl⟩ := flt_slice hf
      obtain ⟨Ae, ce, rfl⟩ := lst_slice he
      have d0 : ∀ W, K wr W → W.cell? ⟨b1, off + j * 8, none⟩ = some (.int .i64 x.kind) := fun W kW => d0 W (kr.tr kW)
      have d : ∀ W, K wr W → ∀ i, i < 8 → W.cell? ⟨b1, off + j * 8 + i, none⟩ = (entA x (.slice Af x.f.length cf) (.slice Ae x.es.length ce))[i]? := fun W kW i hi => (d W (kr.tr kW) i hi).trans Array.getElem?_toList
      have kk := K.rf wr
      have hx := Blk.new wr 58 (entA x (.slice Af x.f.length cf) (.slice Ae x.es.length ce))
      have kx : K wr (wr.alloc (.cells (entA x (.slice Af x.f.length cf) (.slice Ae x.es.length ce)) 58)) := (K.rf wr).al _
      clear hcl hrl
      go_upto_region 6 with (fail)
      have kwx := kr.tr kx
      generalize wr.alloc _ = wx at *
      generalize wr.heap.size = gx at *
      have q := hx.cells
      have kk := K.rf wx
      clear d0 d hx
      go_wp2_with fail
      refine (EntC_calls x _ wx ⟨_, _, rfl, flt_st _ _ _ _ hf kwx, lst_st he kwx⟩).mono ?_
      rintro e w4 ⟨rfl, k4⟩
      have k14 := kwx.tr k4
      cases hq : okEn x
      · have HR : Hid (R = false) := Lib.hid (by
          have h1 : (l.take (j + 1)).all okEn = false := by rw [HS.out, hq]; simp
          rw [HI.out, all_take_bad okEn l (j + 1) h1]; simp)
        clear q
        go_wp2
        go_ret
        exact ⟨by rw [HR.out]; rfl, k14⟩
      · have HT2 : Hid ((l.take (j + 1)).all okEn = true) := Lib.hid (by rw [HS.out, hq, HT.out]; rfl)
        clear q
        go_wp2
        go_roundw
        case rel => exact ⟨j + 1, by omega, by go_num, HT2, k14⟩
        case measure => simp [intOf]; omega
    · have hji : ¬ (j : Int) < (l.length : Int) := by omega
      have HR : Hid (R = true) := Lib.hid (by
        have h1 := HT.out
        rw [List.take_of_length_le (by omega)] at h1
        rw [HI.out, h1]; simp [h16])
      go_wp2
      go_ret
      exact ⟨by rw [HR.out]; rfl, kr⟩

set_option maxHeartbeats 2000000 in
theorem AllID_calls (l : List Idn) (v : Value) (w : World) (h : lst idS l v w) :
    Calls Try.prog 49 #[v, .func (Fn.func 44) #[] #[]] w fun e w' => e = .returned (.bool (okLs okId l)) ∧ K w w' := by
  obtain ⟨A, c, rfl, hl, hc⟩ := h
  have HI : Hid (okLs okId l = (decide (l.length ≤ 16) && l.all okId)) := Lib.hid rfl
  generalize okLs okId l = R at *
  have kk := K.rf w
  go_enter Try.func49, Try.ntmps49
  by_cases h16 : l.length ≤ 16
  rotate_left
  · have h16' : (16 : Int) < (l.length : Int) := by omega
    have HR : Hid (R = false) := Lib.hid (by rw [HI.out]; simp [h16])
    go_wp2
    go_ret
    exact ⟨by rw [HR.out]; rfl, kk⟩
  have h16' : ¬ (16 : Int) < (l.length : Int) := by omega
  go_wp2_with fail
  go_loopw [6, 12] (fun _ i wr => ∃ j : Nat, j ≤ l.length ∧ i = .int .i64 (j : Int) ∧ Hid ((l.take j).all okId = true) ∧ K w wr) (fun _ i _ => l.length - (intOf i).toNat)
  case atStart => exact ⟨0, by omega, rfl, Lib.hid (by simp), kk⟩
  case round =>
    clear kk
    obtain ⟨j, hj, rfl, HT, kr⟩ := hrel
    by_cases hlt : j < l.length
    · have hji : (j : Int) < (l.length : Int) := by omega
      obtain ⟨b1, off, cs, rfl, hcl, hrl, d0, d⟩ := lsr_cells hl j hlt (by decide)
      have HS := Lib.hid (all_take_succ okId l j hlt)
      generalize l[j] = x at *
      obtain rfl := hrl w (K.rf w)
      have d0 : ∀ W, K wr W → W.cell? ⟨b1, off + j * 3, none⟩ = some (.int .i64 x.1) := fun W kW => d0 W (kr.tr kW)
      have d : ∀ W, K wr W → ∀ i, i < 3 → W.cell? ⟨b1, off + j * 3 + i, none⟩ = (idA x)[i]? := fun W kW i hi => (d W (kr.tr kW) i hi).trans Array.getElem?_toList
      have kk := K.rf wr
      have hx := Blk.new wr 53 (idA x)
      have kx : K wr (wr.alloc (.cells (idA x) 53)) := (K.rf wr).al _
      clear hcl hrl
      go_upto_region 6 with (fail)
      have kwx := kr.tr kx
      generalize wr.alloc _ = wx at *
      generalize wr.heap.size = gx at *
      have q := hx.cells
      have kk := K.rf wx
      clear d0 d hx
      go_wp2_with fail
      refine (WHome_calls x wx).mono ?_
      rintro e w4 ⟨rfl, k4⟩
      have k14 := kwx.tr k4
      cases hq : okId x
      · have HR : Hid (R = false) := Lib.hid (by
          have h1 : (l.take (j + 1)).all okId = false := by rw [HS.out, hq]; simp
          rw [HI.out, all_take_bad okId l (j + 1) h1]; simp)
        clear q
        go_wp2
        go_ret
        exact ⟨by rw [HR.out]; rfl, k14⟩
      · have HT2 : Hid ((l.take (j + 1)).all okId = true) := Lib.hid (by rw [HS.out, hq, HT.out]; rfl)
        clear q
        go_wp2
        go_roundw
        case rel => exact ⟨j + 1, by omega, by go_num, HT2, k14⟩
        case measure => simp [intOf]; omega
    · have hji : ¬ (j : Int) < (l.length : Int) := by omega
      have HR : Hid (R = true) := Lib.hid (by
        have h1 := HT.out
        rw [List.take_of_length_le (by omega)] at h1
        rw [HI.out, h1]; simp [h16])
      go_wp2
      go_ret
      exact ⟨by rw [HR.out]; rfl, kr⟩

theorem okKd_1 {m : Msg} (h : m.kind = 1) : okKd m = (m.entries.isEmpty && m.prepares.isEmpty && m.aborts.isEmpty && m.ends.isEmpty) := by unfold okKd; rw [if_pos h]
theorem okKd_2 {m : Msg} (h : m.kind = 2) : okKd m = (m.votes.isEmpty && m.asks.isEmpty) := by unfold okKd; rw [if_neg (by omega), if_pos h]
theorem okKd_0 {m : Msg} (h : ¬ m.kind = 1) (h2 : ¬ m.kind = 2) : okKd m = false := by unfold okKd; rw [if_neg h, if_neg h2]
theorem len_ne {α : Type} {l : List α} (h : l.isEmpty = false) : ((l.length : Int) == 0) = false := by rw [len0', h]
theorem len_eq {α : Type} {l : List α} (h : l.isEmpty = true) : ((l.length : Int) == 0) = true := by rw [len0', h]

set_option maxHeartbeats 8000000 in
theorem WCheck_calls (m : Msg) (v : Value) (w : World) (h : msv m v w) :
    Calls Try.prog 17 #[v] w fun e w' => e = .returned (.int .i64 (chkM m)) ∧ K w w' := by
  obtain ⟨v1, v2, v3, v4, v5, v6, rfl, h1, h2, h3, h4, h5, h6⟩ := h
  have CV := Lib.hid fun W (kW : K w W) => AllVote_calls m.votes v1 W (lst_st h1 kW)
  have CA := Lib.hid fun W (kW : K w W) => AllEntry_calls m.asks v2 W (lst_st h2 kW)
  have CE := Lib.hid fun W (kW : K w W) => AllEntry_calls m.entries v3 W (lst_st h3 kW)
  have CP := Lib.hid fun W (kW : K w W) => AllEntry_calls m.prepares v4 W (lst_st h4 kW)
  have CB := Lib.hid fun W (kW : K w W) => AllID_calls m.aborts v5 W (lst_st h5 kW)
  have CD := Lib.hid fun W (kW : K w W) => AllID_calls m.ends v6 W (lst_st h6 kW)
  obtain ⟨A1, c1, rfl⟩ := lst_slice h1
  obtain ⟨A2, c2, rfl⟩ := lst_slice h2
  obtain ⟨A3, c3, rfl⟩ := lst_slice h3
  obtain ⟨A4, c4, rfl⟩ := lst_slice h4
  obtain ⟨A5, c5, rfl⟩ := lst_slice h5
  obtain ⟨A6, c6, rfl⟩ := lst_slice h6
  clear h1 h2 h3 h4 h5 h6
  have hx := Blk.new w 28 (msA m (.slice A1 m.votes.length c1) (.slice A2 m.asks.length c2) (.slice A3 m.entries.length c3) (.slice A4 m.prepares.length c4) (.slice A5 m.aborts.length c5) (.slice A6 m.ends.length c6))
  have k1 : K w (w.alloc (.cells (msA m (.slice A1 m.votes.length c1) (.slice A2 m.asks.length c2) (.slice A3 m.entries.length c3) (.slice A4 m.prepares.length c4) (.slice A5 m.aborts.length c5) (.slice A6 m.ends.length c6)) 28)) := (K.rf w).al _
  go_enter Try.func17, Try.ntmps17
  go_upto_region 2 with (fail)
  generalize w.alloc _ = w1 at *
  have qx := hx.cells
  have kk := K.rf w1
  generalize w.heap.size = g at *
  clear hx
  by_cases hk1 : m.kind = 1
  · have hkd := okKd_1 hk1
    cases e3 : m.entries.isEmpty
    · have z3 := len_ne e3
      have HQ : Hid (chkM m = 130) := Lib.hid (by unfold chkM; rw [show okM m = false from by simp [okM, hkd, e3]]; rfl)
      go_wp2
      go_ret
      exact ⟨by rw [HQ.out]; rfl, k1⟩
    have z3 := len_eq e3
    cases e4 : m.prepares.isEmpty
    · have z4 := len_ne e4
      have HQ : Hid (chkM m = 130) := Lib.hid (by unfold chkM; rw [show okM m = false from by simp [okM, hkd, e4]]; rfl)
      go_wp2
      go_ret
      exact ⟨by rw [HQ.out]; rfl, k1⟩
    have z4 := len_eq e4
    cases e5 : m.aborts.isEmpty
    · have z5 := len_ne e5
      have HQ : Hid (chkM m = 130) := Lib.hid (by unfold chkM; rw [show okM m = false from by simp [okM, hkd, e5]]; rfl)
      go_wp2
      go_ret
      exact ⟨by rw [HQ.out]; rfl, k1⟩
    have z5 := len_eq e5
    cases e6 : m.ends.isEmpty
    · have z6 := len_ne e6
      have HQ : Hid (chkM m = 130) := Lib.hid (by unfold chkM; rw [show okM m = false from by simp [okM, hkd, e6]]; rfl)
      go_wp2
      go_ret
      exact ⟨by rw [HQ.out]; rfl, k1⟩
    have z6 := len_eq e6
    have hK : okKd m = true := by rw [hkd, e3, e4, e5, e6]; rfl
    clear hkd
    go_wp2_with fail
    refine (CV.out w1 k1).mono ?_
    rintro e w2 ⟨rfl, j2⟩
    have k2 := k1.tr j2
    replace kk := kk.tr j2
    cases h2 : okLs okVo m.votes
    · have HQ : Hid (chkM m = 130) := Lib.hid (by unfold chkM; rw [show okM m = false from by simp [okM, h2]]; rfl)
      go_wp2
      go_ret
      exact ⟨by rw [HQ.out]; rfl, k2⟩
    go_wp2_with fail
    refine (CA.out w2 k2).mono ?_
    rintro e w3 ⟨rfl, j3⟩
    have k3 := k2.tr j3
    replace kk := kk.tr j3
    cases h3 : okLs okEn m.asks
    · have HQ : Hid (chkM m = 130) := Lib.hid (by unfold chkM; rw [show okM m = false from by simp [okM, h3]]; rfl)
      go_wp2
      go_ret
      exact ⟨by rw [HQ.out]; rfl, k3⟩
    go_wp2_with fail
    refine (CE.out w3 k3).mono ?_
    rintro e w4 ⟨rfl, j4⟩
    have k4 := k3.tr j4
    replace kk := kk.tr j4
    cases h4 : okLs okEn m.entries
    · have HQ : Hid (chkM m = 130) := Lib.hid (by unfold chkM; rw [show okM m = false from by simp [okM, h4]]; rfl)
      go_wp2
      go_ret
      exact ⟨by rw [HQ.out]; rfl, k4⟩
    go_wp2_with fail
    refine (CP.out w4 k4).mono ?_
    rintro e w5 ⟨rfl, j5⟩
    have k5 := k4.tr j5
    replace kk := kk.tr j5
    cases h5 : okLs okEn m.prepares
    · have HQ : Hid (chkM m = 130) := Lib.hid (by unfold chkM; rw [show okM m = false from by simp [okM, h5]]; rfl)
      go_wp2
      go_ret
      exact ⟨by rw [HQ.out]; rfl, k5⟩
    go_wp2_with fail
    refine (CB.out w5 k5).mono ?_
    rintro e w6 ⟨rfl, j6⟩
    have k6 := k5.tr j6
    replace kk := kk.tr j6
    cases h6 : okLs okId m.aborts
    · have HQ : Hid (chkM m = 130) := Lib.hid (by unfold chkM; rw [show okM m = false from by simp [okM, h6]]; rfl)
      go_wp2
      go_ret
      exact ⟨by rw [HQ.out]; rfl, k6⟩
    go_wp2_with fail
    refine (CD.out w6 k6).mono ?_
    rintro e w7 ⟨rfl, j7⟩
    have k7 := k6.tr j7
    replace kk := kk.tr j7
    cases h7 : okLs okId m.ends
    · have HQ : Hid (chkM m = 130) := Lib.hid (by unfold chkM; rw [show okM m = false from by simp [okM, h7]]; rfl)
      go_wp2
      go_ret
      exact ⟨by rw [HQ.out]; rfl, k7⟩
    have HQ : Hid (chkM m = 0) := Lib.hid (by unfold chkM; rw [show okM m = true from by simp [okM, hK, h2, h3, h4, h5, h6, h7]]; rfl)
    go_wp2
    go_ret
    exact ⟨by rw [HQ.out]; rfl, k7⟩
  by_cases hk2 : m.kind = 2
  · have hkd := okKd_2 hk2
    cases e3 : m.votes.isEmpty
    · have z3 := len_ne e3
      have HQ : Hid (chkM m = 130) := Lib.hid (by unfold chkM; rw [show okM m = false from by simp [okM, hkd, e3]]; rfl)
      go_wp2
      go_ret
      exact ⟨by rw [HQ.out]; rfl, k1⟩
    have z3 := len_eq e3
    cases e4 : m.asks.isEmpty
    · have z4 := len_ne e4
      have HQ : Hid (chkM m = 130) := Lib.hid (by unfold chkM; rw [show okM m = false from by simp [okM, hkd, e4]]; rfl)
      go_wp2
      go_ret
      exact ⟨by rw [HQ.out]; rfl, k1⟩
    have z4 := len_eq e4
    have hK : okKd m = true := by rw [hkd, e3, e4]; rfl
    clear hkd
    go_wp2_with fail
    refine (CV.out w1 k1).mono ?_
    rintro e w2 ⟨rfl, j2⟩
    have k2 := k1.tr j2
    replace kk := kk.tr j2
    cases h2 : okLs okVo m.votes
    · have HQ : Hid (chkM m = 130) := Lib.hid (by unfold chkM; rw [show okM m = false from by simp [okM, h2]]; rfl)
      go_wp2
      go_ret
      exact ⟨by rw [HQ.out]; rfl, k2⟩
    go_wp2_with fail
    refine (CA.out w2 k2).mono ?_
    rintro e w3 ⟨rfl, j3⟩
    have k3 := k2.tr j3
    replace kk := kk.tr j3
    cases h3 : okLs okEn m.asks
    · have HQ : Hid (chkM m = 130) := Lib.hid (by unfold chkM; rw [show okM m = false from by simp [okM, h3]]; rfl)
      go_wp2
      go_ret
      exact ⟨by rw [HQ.out]; rfl, k3⟩
    go_wp2_with fail
    refine (CE.out w3 k3).mono ?_
    rintro e w4 ⟨rfl, j4⟩
    have k4 := k3.tr j4
    replace kk := kk.tr j4
    cases h4 : okLs okEn m.entries
    · have HQ : Hid (chkM m = 130) := Lib.hid (by unfold chkM; rw [show okM m = false from by simp [okM, h4]]; rfl)
      go_wp2
      go_ret
      exact ⟨by rw [HQ.out]; rfl, k4⟩
    go_wp2_with fail
    refine (CP.out w4 k4).mono ?_
    rintro e w5 ⟨rfl, j5⟩
    have k5 := k4.tr j5
    replace kk := kk.tr j5
    cases h5 : okLs okEn m.prepares
    · have HQ : Hid (chkM m = 130) := Lib.hid (by unfold chkM; rw [show okM m = false from by simp [okM, h5]]; rfl)
      go_wp2
      go_ret
      exact ⟨by rw [HQ.out]; rfl, k5⟩
    go_wp2_with fail
    refine (CB.out w5 k5).mono ?_
    rintro e w6 ⟨rfl, j6⟩
    have k6 := k5.tr j6
    replace kk := kk.tr j6
    cases h6 : okLs okId m.aborts
    · have HQ : Hid (chkM m = 130) := Lib.hid (by unfold chkM; rw [show okM m = false from by simp [okM, h6]]; rfl)
      go_wp2
      go_ret
      exact ⟨by rw [HQ.out]; rfl, k6⟩
    go_wp2_with fail
    refine (CD.out w6 k6).mono ?_
    rintro e w7 ⟨rfl, j7⟩
    have k7 := k6.tr j7
    replace kk := kk.tr j7
    cases h7 : okLs okId m.ends
    · have HQ : Hid (chkM m = 130) := Lib.hid (by unfold chkM; rw [show okM m = false from by simp [okM, h7]]; rfl)
      go_wp2
      go_ret
      exact ⟨by rw [HQ.out]; rfl, k7⟩
    have HQ : Hid (chkM m = 0) := Lib.hid (by unfold chkM; rw [show okM m = true from by simp [okM, hK, h2, h3, h4, h5, h6, h7]]; rfl)
    go_wp2
    go_ret
    exact ⟨by rw [HQ.out]; rfl, k7⟩
  have hK := okKd_0 hk1 hk2
  have HQ : Hid (chkM m = 130) := Lib.hid (by unfold chkM; rw [show okM m = false from by simp [okM, hK]]; rfl)
  go_wp2
  go_ret
  exact ⟨by rw [HQ.out]; rfl, k1⟩
end Go.Proofs.Ythnhdeieimgfhaa
