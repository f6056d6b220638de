/-
  The walk of entry.may (layer 11). Conditions: none.
-/
import Derived.Test.YtjcdgbnbaiebdaaEnD
set_option maxRecDepth 100000
namespace Go.Proofs.Ytjcdgbnbaiebdaa
open Go Go.RowKit

theorem chkEn_eq (x : Ent) : (chkEn x == 0) = okEn x := by unfold chkEn; cases okEn x <;> rfl
set_option maxHeartbeats 4000000 in
theorem May_calls (x : Rec) (v : Value) (w : World) (h : rcd x v w) :
    Calls Try.prog 63 #[v] w fun e w' => e = .returned (.bool (okRec x)) ∧ K w w' := by
  obtain ⟨vf, ve, rfl, hf, he⟩ := h
  obtain ⟨k, n, x, b, l, s⟩ := x
  simp only at hf he
  have hx := Blk.new w 61 (recA ⟨k, n, x, b, l, s⟩ vf ve)
  have k1 : K w (w.alloc (.cells (recA ⟨k, n, x, b, l, s⟩ vf ve) 61)) := (K.rf w).al _
  have HO : Hid (okRec ⟨k, n, x, b, l, s⟩ = if k = 1 then emptyEn x && noId ⟨k, n, x, b, l, s⟩ else if k = 2 then okEn x && noId ⟨k, n, x, b, l, s⟩ else if k = 3 then decide (n = 0) && okEn x && noId ⟨k, n, x, b, l, s⟩
    else if k = 4 ∨ k = 5 then homeB b && decide (n = 0) && emptyEn x else false) := Lib.hid rfl
  have HN : Hid (noId ⟨k, n, x, b, l, s⟩ = (decide (b = 0) && decide (l = 0) && decide (s = 0))) := Lib.hid rfl
  generalize okRec ⟨k, n, x, b, l, s⟩ = R at *
  have he0 : ∀ W, K w W → ent x (.agg (entA x vf ve)) W := fun W k => ⟨vf, ve, rfl, flt_st _ _ _ _ hf k, lst_st he k⟩
  clear hf he
  go_enter Try.func63, Try.ntmps63
  go_upto_region 1 with (fail)
  generalize w.alloc _ = w1 at *
  generalize w.heap.size = g at hx ⊢
  have qx := hx.cells
  have kk := K.rf w1
  generalize noId ⟨k, n, x, b, l, s⟩ = m at *
  go_cut [0, 3] from 4 to 7 (fun _ v wc => v = .bool m ∧ wc = w1)
  case first =>
    go_wp2
    all_goals
      go_meet
      case rel => (refine ⟨?_, rfl⟩; rw [HN.out]; clear qx HO; simp_all)
  case rest =>
  obtain ⟨rfl, rfl⟩ := hcut
  clear HN
  by_cases hk1 : k = 1
  · subst hk1
    rw [if_pos rfl] at HO
    go_wp2_with fail
    refine (Empty_calls x _ _ (he0 _ k1)).mono ?_
    rintro e w2 ⟨rfl, k2⟩
    have k02 := k1.tr k2
    cases he : emptyEn x
    · have HR : Hid (R = false) := Lib.hid (by rw [HO.out, he]; rfl)
      clear HO
      go_wp2
      go_ret
      exact ⟨by rw [HR.out]; rfl, k02⟩
    · have HR : Hid (R = m) := Lib.hid (by rw [HO.out, he]; rfl)
      clear HO
      go_wp2
      go_ret
      exact ⟨by rw [HR.out]; rfl, k02⟩
  by_cases hk3 : k = 3
  · subst hk3
    rw [if_neg (by decide), if_neg (by decide), if_pos rfl] at HO
    by_cases hn : n = 0
    rotate_left
    · have hn' : ((n : Int) != 0) = true := by simpa using hn
      have HR : Hid (R = false) := Lib.hid (by rw [HO.out]; simp [hn])
      clear HO
      go_wp2
      go_ret
      exact ⟨by rw [HR.out]; rfl, k1⟩
    subst hn
    have hn' : (((0 : Nat) : Int) != 0) = false := by simp
    go_wp2_with fail
    refine (NCheck_calls x _ _ (he0 _ k1)).mono ?_
    rintro e w2 ⟨rfl, k2⟩
    have k02 := k1.tr k2
    have e3 := chkEn_eq x
    cases he : okEn x
    · have HR : Hid (R = false) := Lib.hid (by rw [HO.out, he]; rfl)
      clear HO
      go_wp2
      go_ret
      exact ⟨by rw [HR.out]; rfl, k02⟩
    · have HR : Hid (R = m) := Lib.hid (by rw [HO.out, he]; rfl)
      clear HO
      go_wp2
      go_ret
      exact ⟨by rw [HR.out]; rfl, k02⟩
  by_cases hk2 : k = 2
  · subst hk2
    rw [if_neg (by decide), if_pos rfl] at HO
    go_wp2_with fail
    refine (NCheck_calls x _ _ (he0 _ k1)).mono ?_
    rintro e w2 ⟨rfl, k2⟩
    have k02 := k1.tr k2
    have e3 := chkEn_eq x
    cases he : okEn x
    · have HR : Hid (R = false) := Lib.hid (by rw [HO.out, he]; rfl)
      clear HO
      go_wp2
      go_ret
      exact ⟨by rw [HR.out]; rfl, k02⟩
    · have HR : Hid (R = m) := Lib.hid (by rw [HO.out, he]; rfl)
      clear HO
      go_wp2
      go_ret
      exact ⟨by rw [HR.out]; rfl, k02⟩
  have g1 : (k == 1) = false := by simpa using hk1
  have g2 : (k == 2) = false := by simpa using hk2
  have g3 : (k == 3) = false := by simpa using hk3
  rw [if_neg hk1, if_neg hk2, if_neg hk3] at HO
  clear hk1 hk2 hk3
  have four : (k = 4 ∨ k = 5) ∨ (¬ k = 4 ∧ ¬ k = 5) := by omega
  rcases four with h45 | ⟨h4, h5⟩
  · rw [if_pos h45] at HO
    have hor : (k == 4 || k == 5) = true := by simpa using h45
    go_upto_region 6 with (fail)
    rcases h45 with rfl | rfl
    all_goals
      clear hor
      go_wp2_with fail
      refine (Home_calls (b, l, s) _).mono ?_
      rintro e w2 ⟨rfl, k2⟩
      have k02 := k1.tr k2
      cases hh : homeB b
      · have HR : Hid (R = false) := Lib.hid (by rw [HO.out, hh]; rfl)
        clear HO
        go_wp2
        go_ret
        exact ⟨by rw [HR.out]; rfl, k02⟩
      by_cases hn : n = 0
      rotate_left
      · have hn' : ((n : Int) == 0) = false := by simpa using hn
        have HR : Hid (R = false) := Lib.hid (by rw [HO.out]; simp [hn])
        clear HO
        go_wp2
        go_ret
        exact ⟨by rw [HR.out]; rfl, k02⟩
      subst hn
      have hn' : (((0 : Nat) : Int) == 0) = true := by simp
      have HR : Hid (R = emptyEn x) := Lib.hid (by rw [HO.out, hh]; simp)
      go_wp2_with fail
      refine (Empty_calls x _ _ (he0 _ k02)).mono ?_
      rintro e w3 ⟨rfl, k3⟩
      replace k02 := k02.tr k3
      go_wp2
      go_ret
      exact ⟨by rw [HR.out]; rfl, k02⟩
  · have HR : Hid (R = false) := Lib.hid (by rw [HO.out, if_neg (by omega)])
    have g4 : (k == 4) = false := by simpa using h4
    have g5 : (k == 5) = false := by simpa using h5
    clear HO h4 h5
    go_wp2
    go_ret
    exact ⟨by rw [HR.out]; rfl, k1⟩
end Go.Proofs.Ytjcdgbnbaiebdaa
