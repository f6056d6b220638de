/-
  The walk of Check of the document's answer of layer 13. Conditions: the loads are of a bounded size.
-/
import Derived.Test.YthnhdeieimgfhaaRnF
set_option maxRecDepth 100000
namespace Go.Proofs.Ythnhdeieimgfhaa
open Go Go.RowKit

/-- A message whose loads are of a bounded size. -/
def litM (m : Msg) : Prop := (m.asks.length ≤ 1000 ∧ ∀ x ∈ m.asks, litEn x) ∧ (m.entries.length ≤ 1000 ∧ ∀ x ∈ m.entries, litEn x) ∧ (m.prepares.length ≤ 1000 ∧ ∀ x ∈ m.prepares, litEn x) ∧ m.votes.length ≤ 1000 ∧ m.aborts.length ≤ 1000 ∧ m.ends.length ≤ 1000

set_option maxHeartbeats 4000000 in
theorem R13Chk_calls (m : Msg) (v : Value) (w : World) (h : msv m v w) (hs : litM m) :
    Calls Try.prog 18 #[v] w fun e w' => e = .returned (.int .i64 (chkM m)) ∧ K w w' := by
  obtain ⟨v1, v2, v3, v4, v5, v6, rfl, g1, g2, g3, g4, g5, g6⟩ := h
  obtain ⟨⟨n2, s2⟩, ⟨n3, s3⟩, ⟨n4, s4⟩, n1, n5, n6⟩ := hs
  have C2 := Lib.hid fun W (k : K w W) => R13Entries_calls m.asks v2 W (lst_st g2 k) (by omega) s2
  have C3 := Lib.hid fun W (k : K w W) => R13Entries_calls m.entries v3 W (lst_st g3 k) (by omega) s3
  have C4 := Lib.hid fun W (k : K w W) => R13Entries_calls m.prepares v4 W (lst_st g4 k) (by omega) s4
  have C5 := Lib.hid fun W (k : K w W) => R13Ids_calls m.aborts v5 W (lst_st g5 k) (by omega)
  have C6 := Lib.hid fun W (k : K w W) => R13Ids_calls m.ends v6 W (lst_st g6 k) (by omega)
  have C1 := Lib.hid fun W (k : K w W) => R13Voted_calls m.votes v1 W (lst_st g1 k) (by omega)
  have D1 := Lib.hid fun W v (h : lst idS (m.votes.map (·.id)) v W) => R13Ids_calls _ v W h (by simp; omega)
  simp only [okVo_ids] at D1
  have HO : Hid (chkM m = if (okKd m && okLs okVo m.votes && okLs okEn m.asks && okLs okEn m.entries && okLs okEn m.prepares && okLs okId m.aborts && okLs okId m.ends) then 0 else 130) := Lib.hid rfl
  have HK : Hid (okKd m = if m.kind = 1 then m.entries.isEmpty && m.prepares.isEmpty && m.aborts.isEmpty && m.ends.isEmpty else if m.kind = 2 then m.votes.isEmpty && m.asks.isEmpty else false) := Lib.hid rfl
  obtain ⟨A1, c1, rfl⟩ := lst_slice g1
  obtain ⟨A2, c2, rfl⟩ := lst_slice g2
  obtain ⟨A3, c3, rfl⟩ := lst_slice g3
  obtain ⟨A4, c4, rfl⟩ := lst_slice g4
  obtain ⟨A5, c5, rfl⟩ := lst_slice g5
  obtain ⟨A6, c6, rfl⟩ := lst_slice g6
  have hx := Blk.new w 28 (msA m (.slice A1 m.votes.length c1) (.slice A2 m.asks.length c2) (.slice A3 m.entries.length c3) (.slice A4 m.prepares.length c4) (.slice A5 m.aborts.length c5) (.slice A6 m.ends.length c6))
  have k1 : K w (w.alloc (.cells (msA m (.slice A1 m.votes.length c1) (.slice A2 m.asks.length c2) (.slice A3 m.entries.length c3) (.slice A4 m.prepares.length c4) (.slice A5 m.aborts.length c5) (.slice A6 m.ends.length c6)) 28)) := (K.rf w).al _
  clear g1 g2 g3 g4 g5 g6 s2 s3 s4
  obtain ⟨k, g, vs, ak, es, ps, bs, ds⟩ := m
  simp only at hx k1 C1 C2 C3 C4 C5 C6 D1 HO HK n1 n2 n3 n4 n5 n6 ⊢
  generalize chkM ⟨k, g, vs, ak, es, ps, bs, ds⟩ = R at *
  generalize okKd ⟨k, g, vs, ak, es, ps, bs, ds⟩ = b0 at *
  generalize okLs okVo vs = b1 at *
  generalize okLs okEn ak = b2 at *
  generalize okLs okEn es = b3 at *
  generalize okLs okEn ps = b4 at *
  generalize okLs okId bs = b5 at *
  generalize okLs okId ds = b6 at *
  go_enter Try.func18, Try.ntmps18
  go_wp2_with fail
  generalize w.alloc _ = w0 at *
  generalize w.heap.size = gx at hx ⊢
  have qx := hx.cells
  have kk := K.rf w0
  clear hx
  refine (C2.out w0 k1).mono ?_
  rintro e w1 ⟨rfl, k⟩
  replace k1 := k1.tr k
  replace kk := kk.tr k
  clear k C2
  go_wp2_with fail
  refine (C3.out w1 k1).mono ?_
  rintro e w2 ⟨rfl, k⟩
  replace k1 := k1.tr k
  replace kk := kk.tr k
  clear k C3
  go_wp2_with fail
  refine (C4.out w2 k1).mono ?_
  rintro e w3 ⟨rfl, k⟩
  replace k1 := k1.tr k
  replace kk := kk.tr k
  clear k C4
  go_wp2_with fail
  refine (C5.out w3 k1).mono ?_
  rintro e w4 ⟨rfl, k⟩
  replace k1 := k1.tr k
  replace kk := kk.tr k
  clear k C5
  go_wp2_with fail
  refine (C6.out w4 k1).mono ?_
  rintro e w5 ⟨rfl, k⟩
  replace k1 := k1.tr k
  replace kk := kk.tr k
  clear k C6
  go_wp2_with fail
  refine (C1.out w5 k1).mono ?_
  rintro e w6 ⟨vv, rfl, hv, k⟩
  replace k1 := k1.tr k
  replace kk := kk.tr k
  have D := Lib.hid (D1.out w6 vv hv)
  clear k C1 hv D1
  go_wp2_with fail
  refine D.out.mono ?_
  rintro e w7 ⟨rfl, k⟩
  replace k1 := k1.tr k
  replace kk := kk.tr k
  clear k D
  go_upto_region 7 with (fail)
  go_cut [9] from 29 to 64 (fun v W => v = .bool b0 ∧ w7 = W)
  case first =>
    have e1 := len0' vs
    have e2 := len0' ak
    have e3 := len0' es
    have e4 := len0' ps
    have e5 := len0' bs
    have e6 := len0' ds
    by_cases hk1 : k = 1
    · have HQ : Hid (b0 = ((((es.length : Int) + (ps.length : Int) + (bs.length : Int) + (ds.length : Int)) == 0))) := Lib.hid (by
        rw [HK.out, if_pos hk1, ← e3, ← e4, ← e5, ← e6, Bool.eq_iff_iff]
        simp only [Bool.and_eq_true, beq_iff_eq]
        omega)
      clear e1 e2 e3 e4 e5 e6
      subst hk1
      go_wp2
      all_goals
        go_meet
        case rel => exact ⟨by (rw [HQ.out]) <;> simp_all, rfl⟩
    · by_cases hk2 : k = 2
      · have HQ : Hid (b0 = (((vs.length : Int) + (ak.length : Int)) == 0)) := Lib.hid (by
          rw [HK.out, if_neg hk1, if_pos hk2, ← e1, ← e2, Bool.eq_iff_iff]
          simp only [Bool.and_eq_true, beq_iff_eq]
          omega)
        clear e1 e2 e3 e4 e5 e6
        subst hk2
        go_wp2
        all_goals
          go_meet
          case rel => exact ⟨by (rw [HQ.out]) <;> simp_all, rfl⟩
      · have HQ : Hid (b0 = false) := Lib.hid (by rw [HK.out, if_neg hk1, if_neg hk2])
        clear e1 e2 e3 e4 e5 e6
        go_wp2
        all_goals
          go_meet
          case rel => exact ⟨by rw [HQ.out], rfl⟩
  case rest =>
  obtain ⟨rfl, rfl⟩ := hcut
  clear HK qx kk
  cases b0
  · go_wp2
    go_ret
    exact ⟨by rw [HO.out]; simp, k1⟩
  cases b2
  · go_wp2
    go_ret
    exact ⟨by rw [HO.out]; simp, k1⟩
  cases b3
  · go_wp2
    go_ret
    exact ⟨by rw [HO.out]; simp, k1⟩
  cases b4
  · go_wp2
    go_ret
    exact ⟨by rw [HO.out]; simp, k1⟩
  cases b5
  · go_wp2
    go_ret
    exact ⟨by rw [HO.out]; simp, k1⟩
  cases b6
  · go_wp2
    go_ret
    exact ⟨by rw [HO.out]; simp, k1⟩
  cases b1
  · go_wp2
    go_ret
    exact ⟨by rw [HO.out]; simp, k1⟩
  go_wp2
  go_ret
  exact ⟨by rw [HO.out]; rfl, k1⟩
end Go.Proofs.Ythnhdeieimgfhaa
