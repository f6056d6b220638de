/-
  The walk of event.Check (layer 4). Conditions: none.
-/
import Derived.Test.YtjcdgbnbaiebdaaEvB
set_option maxRecDepth 100000
namespace Go.Proofs.Ytjcdgbnbaiebdaa
open Go Go.RowKit

set_option maxHeartbeats 2000000 in
theorem ECheck_calls (A : Option Addr) (c : Nat) (l : List Att) (w : World) (B : Nat) (hR : Reads w B 4 A l.length (l.flatMap attc)) (hB : B ≤ w.heap.size) :
    Calls Try.prog 23 #[.slice A l.length c] w fun e w' => e = .returned (.int .i64 (chkE l)) ∧ Below w.heap.size w w' := by
  by_cases h1 : l.length < 1
  · have h1' : (l.length : Int) < 1 := by omega
    have HE : Hid (chkE l = 40) := Lib.hid (by simp [chkE, okE, show ¬ 1 ≤ l.length by omega])
    clear hR
    generalize l.length = n at *
    go_enter Try.func23, Try.ntmps23
    go_wp2
    go_step3
    go_wp2
    rw [Exit.noGoto_ret]
    go_ret
    exact ⟨by rw [HE.out]; rfl, Below.refl _ _⟩
  have h1' : ¬ (l.length : Int) < 1 := by omega
  by_cases h16 : 16 < l.length
  · have h16' : (16 : Int) < (l.length : Int) := by omega
    have HE : Hid (chkE l = 40) := Lib.hid (by simp [chkE, okE]; omega)
    clear hR
    generalize l.length = n at *
    go_enter Try.func23, Try.ntmps23
    go_wp2
    go_step3
    go_wp2
    rw [Exit.noGoto_ret]
    go_ret
    exact ⟨by rw [HE.out]; rfl, Below.refl _ _⟩
  have h16' : ¬ (16 : Int) < (l.length : Int) := by omega
  obtain ⟨b, off, rfl, hbB, hcell⟩ := hR.atts (by omega)
  have HC := Lib.hid hcell
  clear hcell hR
  go_enter Try.func23, Try.ntmps23
  go_wp2
  go_step3
  go_wp2_with fail
  go_step3
  go_wp2_with fail
  go_loopw [3, 16] (fun m i wr => ∃ k : Nat, k ≤ l.length ∧ m = .int .i64 (k : Int) ∧ i = .int .i64 (k : Int) ∧ Hid (okL none (l.take k) = true) ∧ Below w.heap.size w wr) (fun _ i _ => l.length - (intOf i).toNat)
  case atStart => exact ⟨0, by omega, rfl, rfl, Lib.hid (by simp [okL]), Below.refl _ _⟩
  case round =>
    obtain ⟨k, hk, rfl, rfl, hall, hb⟩ := hrel
    by_cases hlt : k < l.length
    · have hki : (k : Int) < (l.length : Int) := by omega
      obtain ⟨e0, e1, e2, e3⟩ := HC.out k hlt
      have d0 := (hb.cell (p := ⟨b, off + k * 4, none⟩) (Nat.lt_of_lt_of_le hbB hB)).trans e0
      have d1 := (hb.cell (p := ⟨b, off + k * 4 + 1, none⟩) (Nat.lt_of_lt_of_le hbB hB)).trans e1
      have d2 := (hb.cell (p := ⟨b, off + k * 4 + 2, none⟩) (Nat.lt_of_lt_of_le hbB hB)).trans e2
      have d3 := (hb.cell (p := ⟨b, off + k * 4 + 3, none⟩) (Nat.lt_of_lt_of_le hbB hB)).trans e3
      clear e0 e1 e2 e3
      have hz := hb.size
      have hzz : b < wr.heap.size := by omega
      have hbad : Hid (okL none (l.take (k + 1)) = false → chkE l = 40) := Lib.hid (okE_bad l (k + 1))
      have hend : ∀ W, Below wr.heap.size wr W → Below w.heap.size w W := fun W h => hb.trans (h.mono hz)
      have hend := Lib.hid hend
      rcases Nat.eq_zero_or_pos k with h0 | h0
      · have hT : Hid (okL none (l.take (k + 1)) = okA l[k]) := by subst h0; exact Lib.hid (okL_zero l hlt)
        have hk0 : ¬ (0 : Int) < (k : Int) := by omega
        have hd0 : decide (0 < k) = false := by simp; omega
        clear h0
        generalize l[k] = x at *
        obtain ⟨s, vk, vn, vs⟩ := x
        simp only at d0 d1 d2 d3
        go_wp2_with fail
        refine (Name_calls s _).mono ?_
        rintro e w' ⟨rfl, rfl⟩
        cases hn : okName s
        · go_wp2
          rw [Exit.noGoto_ret]
          go_ret
          exact ⟨by rw [hbad.out (by rw [hT.out]; simp [okA, hn])]; rfl, hend.out _ ((Below.refl _ _).alloc (Nat.le_refl _) _)⟩
        · go_wp2_with fail
          refine (Check_calls vk vn vs _).mono ?_
          rintro e w2 ⟨rfl, hb2⟩
          have hbx : Below wr.heap.size wr w2 := ((Below.refl _ _).alloc (Nat.le_refl _) _).trans (hb2.mono (by simp))
          have hx2 := (Blk.new wr 79 #[.string s, .int .i64 vk, .int .i64 vn, .string vs]).below hb2 (by simp)
          clear hb2
          cases hv : okV vk vn vs
          · have hch : (chk vk vn vs != 0) = true := by simp [chk, hv]
            go_wp2
            rw [Exit.noGoto_ret]
            go_ret
            exact ⟨by rw [hbad.out (by rw [hT.out]; simp [okA, hv])]; rfl, hend.out _ hbx⟩
          · have hch : (chk vk vn vs != 0) = false := by simp [chk, hv]
            have q0 := hx2.cell 0
            simp at q0
            go_wp2_with fail
            go_quiet (fail)
            have hr : Hid (okL none (l.take (k + 1)) = true) := Lib.hid (by rw [hT.out]; simp [okA, hn, hv])
            go_wp2
            go_roundw
            case rel => exact ⟨k + 1, by omega, by go_num, by go_num, hr, hend.out _ (below_drewN hbx _)⟩
            case measure => simp [intOf]; omega
      · have hk0 : (0 : Int) < (k : Int) := by omega
        have hd0 : decide (0 < k) = true := by simp; omega
        have hkp : k - 1 < l.length := by omega
        have hT : Hid (okL none (l.take (k + 1)) = (okL none (l.take k) && (okA l[k] && ltS l[k - 1].1 l[k].1))) := by
          refine Lib.hid ?_
          obtain ⟨j, rfl⟩ : ∃ j, k = j + 1 := ⟨k - 1, by omega⟩
          exact okL_succ l j hlt
        obtain ⟨e0, _⟩ := HC.out (k - 1) hkp
        have p0 := (hb.cell (p := ⟨b, off + (k - 1) * 4, none⟩) (Nat.lt_of_lt_of_le hbB hB)).trans e0
        clear e0
        generalize l[k - 1].1 = y at *
        generalize l[k] = x at *
        obtain ⟨s, vk, vn, vs⟩ := x
        simp only at d0 d1 d2 d3 hT
        go_wp2_with fail
        refine (Name_calls s _).mono ?_
        rintro e w' ⟨rfl, rfl⟩
        cases hn : okName s
        · go_wp2
          rw [Exit.noGoto_ret]
          go_ret
          exact ⟨by rw [hbad.out (by rw [hT.out]; simp [okA, hn])]; rfl, hend.out _ ((Below.refl _ _).alloc (Nat.le_refl _) _)⟩
        · go_wp2_with fail
          refine (Check_calls vk vn vs _).mono ?_
          rintro e w2 ⟨rfl, hb2⟩
          have hbx : Below wr.heap.size wr w2 := ((Below.refl _ _).alloc (Nat.le_refl _) _).trans (hb2.mono (by simp))
          have hx2 := (Blk.new wr 79 #[.string s, .int .i64 vk, .int .i64 vn, .string vs]).below hb2 (by simp)
          clear hb2
          cases hv : okV vk vn vs
          · have hch : (chk vk vn vs != 0) = true := by simp [chk, hv]
            go_wp2
            rw [Exit.noGoto_ret]
            go_ret
            exact ⟨by rw [hbad.out (by rw [hT.out]; simp [okA, hv])]; rfl, hend.out _ hbx⟩
          · have hch : (chk vk vn vs != 0) = false := by simp [chk, hv]
            have q0 := hx2.cell 0
            simp at q0
            have p1 : w2.cell? ⟨b, off + (k - 1) * 4, none⟩ = some (.string y) := (hbx.cell hzz).trans p0
            have hw1 : IntKind.i64.wrap ((k : Int) - 1) = (k : Int) - 1 := IntWalk.i64_in _ (by omega)
            have hp1 : (1 : Int) ≤ (k : Int) := by omega
            have hp2 : ((k : Int) - 1).toNat = k - 1 := by omega
            have hp3 : (k : Int) - 1 < (l.length : Int) := by omega
            have hbk : b < w2.heap.size := by have := hbx.size; omega
            cases hls : ltS y s
            · have hls' : (!(Op.bytesLess y.toList s.toList)) = true := by unfold ltS at hls; simp [hls]
              have HB : Hid (chkE l = 40) := Lib.hid (hbad.out (by rw [hT.out]; simp [okA, hls]))
              go_wp2_with fail
              go_quiet (fail)
              go_wp2
              rw [Exit.noGoto_ret]
              go_ret
              exact ⟨by rw [HB.out]; rfl, hend.out _ (below_drewN hbx _)⟩
            · have hls' : (!(Op.bytesLess y.toList s.toList)) = false := by unfold ltS at hls; simp [hls]
              have hr : Hid (okL none (l.take (k + 1)) = true) := Lib.hid (by rw [hT.out, hall.out]; simp [okA, hn, hv, hls])
              go_wp2_with fail
              go_quiet (fail)
              clear hw1 hp2
              go_wp2
              go_roundw
              case rel => exact ⟨k + 1, by omega, by go_num, by go_num, hr, hend.out _ (below_drewN hbx _)⟩
              case measure => simp [intOf]; omega
    · have hki : ¬ (k : Int) < (l.length : Int) := by omega
      have hkl : k = l.length := by omega
      have HE : Hid (chkE l = 0) := Lib.hid (okE_good l (by omega) (by omega) (by have := hall.out; rwa [hkl] at this))
      clear hkl
      go_wp2
      try rw [Exit.noGoto_ret]
      go_ret
      exact ⟨by rw [HE.out]; rfl, hb⟩
section
variable {l la lb : List Att} {b : List UInt8} {v va vb : Value} {w : World}
theorem ECheck_evt (h : evt l v w) : Calls Try.prog 23 #[v] w fun e w' => e = .returned (.int .i64 (chkE l)) ∧ Below w.heap.size w w' := by
  obtain ⟨A, c, rfl, hR⟩ := h
  exact ECheck_calls A c l w _ hR (Nat.le_refl _)
end
end Go.Proofs.Ytjcdgbnbaiebdaa
