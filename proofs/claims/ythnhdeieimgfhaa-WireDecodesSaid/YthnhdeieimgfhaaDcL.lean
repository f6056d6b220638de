/-
  postilionlaw13.WireDecodes: the walk. Conditions: none.
-/
import Derived.Test.YthnhdeieimgfhaaDcK
import Derived.Test.YthnhdeieimgfhaaWiD
import Derived.Test.YthnhdeieimgfhaaWiI
import Derived.Test.YthnhdeieimgfhaaWiL
set_option maxRecDepth 100000
namespace Go.Proofs.Ythnhdeieimgfhaa
open Go Go.RowKit

theorem okEn_small13 {x : Ent} (h : okEn x = true) : smallEn x := by
  unfold okEn at h
  simp only [Bool.and_eq_true, decide_eq_true_eq] at h
  obtain ⟨-, h⟩ := h
  split at h
  · simp only [Bool.and_eq_true, decide_eq_true_eq, List.isEmpty_iff] at h
    obtain ⟨⟨⟨-, h1⟩, h2⟩, h3⟩ := h
    exact ⟨by simp [h1], by omega, fun e he => by
      have h4 := List.all_eq_true.1 h3 e he
      unfold okE at h4
      simp only [Bool.and_eq_true, decide_eq_true_eq] at h4
      omega⟩
  · split at h
    · simp only [Bool.and_eq_true, List.isEmpty_iff] at h
      exact ⟨by simp [h.1], by simp [h.2], by simp [h.2]⟩
    · split at h
      · simp only [Bool.and_eq_true, List.isEmpty_iff] at h
        exact ⟨by have := (okF_parts h.2).1; omega, by simp [h.1], by simp [h.1]⟩
      · cases h
theorem okLs_parts {α : Type} {p : α → Bool} {l : List α} (h : okLs p l = true) : l.length ≤ 16 ∧ ∀ x ∈ l, p x = true := by
  simp only [okLs, Bool.and_eq_true, decide_eq_true_eq, List.all_eq_true] at h
  exact h
theorem decMX_small (b : List UInt8) : smallM (decMX b) := by
  cases hd : decM b with
  | none => rw [(decM_none hd).2]; simp [smallM, msg0]
  | some m =>
    rw [(decM_some hd).2]
    have ho := (decM_back hd).2
    simp only [okM, Bool.and_eq_true] at ho
    obtain ⟨⟨⟨⟨⟨⟨-, h1⟩, h2⟩, h3⟩, h4⟩, h5⟩, h6⟩ := ho
    have q1 := okLs_parts h1
    have q2 := okLs_parts h2
    have q3 := okLs_parts h3
    have q4 := okLs_parts h4
    have q5 := okLs_parts h5
    have q6 := okLs_parts h6
    exact ⟨fun s hs => okEn_small13 (q2.2 s hs), fun s hs => okEn_small13 (q3.2 s hs), fun s hs => okEn_small13 (q4.2 s hs), by omega, by omega, by omega, by omega, by omega, by omega⟩

set_option maxHeartbeats 8000000 in
theorem WireDecodes_walk (v0 : Value) (w : World) (r0 : repBytes w v0) :
    Calls Try.prog 5 #[v0] w fun e w' => e = .returned (.bool true) ∧ Below w.heap.size w w' := by
  obtain ⟨b, hb0⟩ := bsl_rep r0
  obtain ⟨A, c, rfl, hR, hc⟩ := hb0
  have SB := Lib.hid (sl_al (show sl b (.slice A b.length c) w from ⟨A, c, rfl, hR⟩))
  have HR := Lib.hid (fun W (k : K w W) => (hR.below k (Nat.le_refl _)).more k.size)
  have HSM := Lib.hid (decMX_small b)
  have k1 := K.rf w
  clear r0 hR
  go_enter Try.func5, Try.ntmps5
  go_wp2_with fail
  refine (awakeW_calls w).mono ?_
  rintro e w2 ⟨rfl, k2⟩
  replace k1 := k1.tr k2
  clear k2
  by_cases hl : b.length ≤ 3000
  · have hli : ¬ (3000 : Int) < (b.length : Int) := by omega
    go_wp2_with fail
    refine (WDecode_calls b _ w2 (SB.out w2 k1) (by omega)).mono ?_
    rintro e w3 ⟨v1, rfl, hm1, k3⟩
    replace k1 := k1.tr k3
    have C1 := Lib.hid (msv_al hm1)
    obtain ⟨u1, u2, u3, u4, u5, u6, rfl, h1, h2, h3, h4, h5, h6⟩ := hm1
    obtain ⟨A1, c1, rfl⟩ := lst_slice h1
    obtain ⟨A2, c2, rfl⟩ := lst_slice h2
    obtain ⟨A3, c3, rfl⟩ := lst_slice h3
    obtain ⟨A4, c4, rfl⟩ := lst_slice h4
    obtain ⟨A5, c5, rfl⟩ := lst_slice h5
    obtain ⟨A6, c6, rfl⟩ := lst_slice h6
    clear h1 h2 h3 h4 h5 h6 k3
    have hx := Blk.new w3 28 (msA (decMX b) (.slice A1 (decMX b).votes.length c1) (.slice A2 (decMX b).asks.length c2) (.slice A3 (decMX b).entries.length c3) (.slice A4 (decMX b).prepares.length c4) (.slice A5 (decMX b).aborts.length c5) (.slice A6 (decMX b).ends.length c6))
    have kA : K w3 (w3.alloc (.cells (msA (decMX b) (.slice A1 (decMX b).votes.length c1) (.slice A2 (decMX b).asks.length c2) (.slice A3 (decMX b).entries.length c3) (.slice A4 (decMX b).prepares.length c4) (.slice A5 (decMX b).aborts.length c5) (.slice A6 (decMX b).ends.length c6)) 28)) := (K.rf w3).al _
    have kw4 := k1.tr kA
    go_wp2_with fail
    generalize w3.alloc _ = w4 at *
    generalize w3.heap.size = gx at *
    have hRz := HR.out w4 kw4
    refine (R13Decode_calls A b.length c b w4 hRz hc (by omega)).mono ?_
    rintro e w5 ⟨v2, rfl, hm2, k5⟩
    have kw5 := kw4.tr k5
    have kA5 := kA.tr k5
    have hx5 := hx.below k5 hx.lt
    have C2 := Lib.hid (msv_al hm2)
    obtain ⟨u1, u2, u3, u4, u5, u6, rfl, h1, h2, h3, h4, h5, h6⟩ := hm2
    obtain ⟨B1, d1, rfl⟩ := lst_slice h1
    obtain ⟨B2, d2, rfl⟩ := lst_slice h2
    obtain ⟨B3, d3, rfl⟩ := lst_slice h3
    obtain ⟨B4, d4, rfl⟩ := lst_slice h4
    obtain ⟨B5, d5, rfl⟩ := lst_slice h5
    obtain ⟨B6, d6, rfl⟩ := lst_slice h6
    clear h1 h2 h3 h4 h5 h6 k5 hRz hx kA k1
    have hy := Blk.new w5 28 (msA (decMX b) (.slice B1 (decMX b).votes.length d1) (.slice B2 (decMX b).asks.length d2) (.slice B3 (decMX b).entries.length d3) (.slice B4 (decMX b).prepares.length d4) (.slice B5 (decMX b).aborts.length d5) (.slice B6 (decMX b).ends.length d6))
    have kB : K w5 (w5.alloc (.cells (msA (decMX b) (.slice B1 (decMX b).votes.length d1) (.slice B2 (decMX b).asks.length d2) (.slice B3 (decMX b).entries.length d3) (.slice B4 (decMX b).prepares.length d4) (.slice B5 (decMX b).aborts.length d5) (.slice B6 (decMX b).ends.length d6)) 28)) := (K.rf w5).al _
    have hx6 := hx5.below kB hx5.lt
    have kw6 := kw5.tr kB
    have kA6 := kA5.tr kB
    go_upto_region 6 with (fail)
    have CW := Lib.hid (fun W (kW : K (w5.alloc (.cells (msA (decMX b) (.slice B1 (decMX b).votes.length d1) (.slice B2 (decMX b).asks.length d2) (.slice B3 (decMX b).entries.length d3) (.slice B4 (decMX b).prepares.length d4) (.slice B5 (decMX b).aborts.length d5) (.slice B6 (decMX b).ends.length d6)) 28)) W) => WSame_calls (decMX b) (decMX b) _ _ W (C1.out W (kA6.tr kW)) (C2.out W (kB.tr kW)) HSM.out)
    have kz := K.rf (w5.alloc (.cells (msA (decMX b) (.slice B1 (decMX b).votes.length d1) (.slice B2 (decMX b).asks.length d2) (.slice B3 (decMX b).entries.length d3) (.slice B4 (decMX b).prepares.length d4) (.slice B5 (decMX b).aborts.length d5) (.slice B6 (decMX b).ends.length d6)) 28))
    generalize w5.alloc _ = w6 at *
    generalize w5.heap.size = gy at *
    have q := hx6.cell
    have qy := hy.cell
    clear hx5 C1 C2 kB kA5 kA6 kw5 kw4 HR SB
    go_wp2_with fail
    refine (CW.out w6 kz).mono ?_
    rintro e w7 ⟨rfl, k7⟩
    have kF := kw6.tr k7
    clear CW q qy
    generalize decMC b = code at *
    go_wp2
    go_ret
    exact ⟨rfl, kF⟩
  · have hli : (3000 : Int) < (b.length : Int) := by omega
    go_wp2
    go_ret
    exact ⟨rfl, k1⟩
end Go.Proofs.Ythnhdeieimgfhaa
