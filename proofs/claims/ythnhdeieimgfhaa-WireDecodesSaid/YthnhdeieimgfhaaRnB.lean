/-
  The walk of Check of the document's answer of layer 11. Conditions: the loads are of a bounded size.
-/
import Derived.Test.YthnhdeieimgfhaaRnA
set_option maxRecDepth 100000
namespace Go.Proofs.Ythnhdeieimgfhaa
open Go Go.RowKit

set_option maxHeartbeats 4000000 in
theorem REChk_calls (x : Ent) (v : Value) (w : World) (h : ent x v w) (hs : litEn x) :
    Calls Try.prog 87 #[v] w fun e w' => e = .returned (.int .i64 (chkEn x)) ∧ K w w' := by
  obtain ⟨vf, ve, rfl, hf, he⟩ := h
  obtain ⟨Af, cf, rfl, hRf⟩ := hf
  obtain ⟨hs1, hs2, hs3, hs4⟩ := hs
  have C1 := Lib.hid fun W (k : K w W) => REvents_calls x.es ve W (lst_st he k) hs3 hs4
  have C2 := Lib.hid fun W (k : K w W) => RefFCheck_calls Af cf x.f W _ (hRf.below k (Nat.le_refl _)) k.size hs1 hs2
  obtain ⟨Ae, ce, rfl⟩ := lst_slice he
  have HF := Lib.hid (show chkF x.f = if okF x.f then 0 else 50 by rfl)
  have HC : Hid (chkEn x = if okEn x then 0 else 110) := Lib.hid rfl
  have HO : Hid (okEn x = ((homeB x.br && decide (0 ≤ x.cl) && decide (x.cl < 32)) && (if x.kind = 1 then decide (x.sub = 0) && x.f.isEmpty && decide (x.es.length ≤ 8) && x.es.all okE
     else if x.kind = 3 then x.f.isEmpty && x.es.isEmpty
     else if x.kind = 2 then x.es.isEmpty && okF x.f else false))) := Lib.hid rfl
  have hx := Blk.new w 58 (entA x (.slice Af x.f.length cf) (.slice Ae x.es.length ce))
  have k1 : K w (w.alloc (.cells (entA x (.slice Af x.f.length cf) (.slice Ae x.es.length ce)) 58)) := (K.rf w).al _
  clear hRf he hs1 hs2 hs3 hs4
  have hfl := Lib.hid (len0' x.f)
  have hel := Lib.hid (len0' x.es)
  obtain ⟨k, b, l, s, cl, u, f, es⟩ := x
  simp only at hx k1 C1 C2 HF HO HC hfl hel ⊢
  generalize okEn ⟨k, b, l, s, cl, u, f, es⟩ = R at *
  generalize chkEn ⟨k, b, l, s, cl, u, f, es⟩ = C at *
  generalize okF f = B2 at *
  generalize es.all okE = B1 at *
  generalize hm : (homeB b && decide (0 ≤ cl) && decide (cl < 32)) = m at *
  have HM := Lib.hid hm
  clear hm
  go_enter Try.func87, Try.ntmps87
  go_upto_region 1 with (fail)
  generalize w.alloc _ = w1 at *
  generalize w.heap.size = g at hx ⊢
  have qx := hx.cells
  have kk := K.rf w1
  have hgz := hx.lt
  clear hx
  go_cut [3] from 5 to 24 (fun v wc => v = .bool m ∧ w1 = wc)
  case first =>
    go_wp2
    all_goals
      go_meet
      case rel =>
        refine ⟨?_, rfl⟩
        rw [← HM.out]
        clear qx
        congr 1
        rw [Bool.eq_iff_iff]
        simp only [homeB, Bool.and_eq_true, decide_eq_true_eq]
        simp_all
        try omega
  case rest =>
  obtain ⟨rfl, rfl⟩ := hcut
  have hfl := hfl.out
  have hel := hel.out
  generalize f.isEmpty = Bf at *
  generalize es.isEmpty = Be at *
  by_cases hk1 : k = 1
  · subst hk1
    have HQ : Hid (R = (m && (decide (u = 0) && Bf && decide (es.length ≤ 8) && B1))) := Lib.hid (by rw [HO.out, if_pos rfl])
    clear HO HF C2
    go_wp2_with fail
    refine (C1.out w1 k1).mono ?_
    rintro e w2 ⟨rfl, k2⟩
    have kk2 := kk.tr k2
    have HB : Hid ((decide (u = 0) && Bf && decide (es.length ≤ 8) && B1) = (decide (u = 0) && Bf && (B1 && decide (es.length ≤ 8)))) := Lib.hid (by cases B1 <;> simp)
    have HQ := Lib.hid (by rw [HQ.out, HB.out] : R = (m && (decide (u = 0) && Bf && (B1 && decide (es.length ≤ 8)))))
    generalize (B1 && decide (es.length ≤ 8)) = Bv at *
    have kF := k1.tr k2
    clear C1 HB k2 kk hel
    obtain ⟨bu, hbu⟩ : ∃ bu, decide (u = 0) = bu := ⟨_, rfl⟩
    have hu : ((u : Int) == 0) = bu := by rw [← hbu, Bool.eq_iff_iff]; simp
    rw [hbu] at HQ
    clear hbu
    cases m <;> cases bu <;> cases Bf <;> cases Bv
    all_goals
      go_wp2
      go_ret
      exact ⟨by rw [HC.out, HQ.out]; rfl, kF⟩
  by_cases hk2 : k = 2
  · subst hk2
    have HQ : Hid (R = (m && (Be && B2))) := Lib.hid (by rw [HO.out, if_neg (by decide), if_neg (by decide), if_pos rfl])
    have hc : chkF f = if B2 then 0 else 50 := HF.out
    clear HO HF C1 hk1 hfl
    cases m <;> cases Be
    case true.true =>
      go_wp2_with fail
      refine (C2.out w1 k1).mono ?_
      rintro e w2 ⟨rfl, k2⟩
      have kF := k1.tr k2
      rw [hc]
      clear C2 k2 kk qx hc
      cases B2
      all_goals
        simp only [if_true, if_false, Bool.false_eq_true]
        go_wp2
        go_ret
        exact ⟨by rw [HC.out, HQ.out]; rfl, kF⟩
    all_goals
      clear C2 hc
      go_wp2
      go_ret
      exact ⟨by rw [HC.out, HQ.out]; rfl, k1⟩
  by_cases hk3 : k = 3
  · subst hk3
    have HQ : Hid (R = (m && (Bf && Be))) := Lib.hid (by rw [HO.out, if_neg (by decide), if_pos rfl])
    clear HO HF C1 C2 hk1 hk2
    cases m <;> cases Bf <;> cases Be
    all_goals
      go_wp2
      go_ret
      exact ⟨by rw [HC.out, HQ.out]; rfl, k1⟩
  have HQ : Hid (R = false) := Lib.hid (by rw [HO.out, if_neg hk1, if_neg hk3, if_neg hk2, Bool.and_false])
  clear HO HF C1 C2 hfl hel
  go_wp2
  go_ret
  exact ⟨by rw [HC.out, HQ.out]; rfl, k1⟩
end Go.Proofs.Ythnhdeieimgfhaa
