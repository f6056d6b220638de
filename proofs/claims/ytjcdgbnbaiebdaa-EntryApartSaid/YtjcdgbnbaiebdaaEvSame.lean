/-
  The walk of the document's Same of events (layer 4). Conditions: none.
-/
import Derived.Test.YtjcdgbnbaiebdaaEvG
set_option maxRecDepth 100000
namespace Go.Proofs.Ytjcdgbnbaiebdaa
open Go Go.RowKit

theorem take_eq_succ {α : Type} (a b : List α) (k : Nat) (ha : k < a.length) (hb : k < b.length) (h : a.take k = b.take k) : (a.take (k + 1) = b.take (k + 1)) ↔ a[k] = b[k] := by
  rw [List.take_succ_eq_append_getElem ha, List.take_succ_eq_append_getElem hb, h]
  constructor
  · intro e
    have := List.append_cancel_left e
    simpa using this
  · intro e; rw [e]

set_option maxHeartbeats 2000000 in
theorem Same_calls (A D : Option Addr) (c d : Nat) (la lb : List Att) (w : World) (B B' : Nat) (hR : Reads w B 4 A la.length (la.flatMap attc)) (hB : B ≤ w.heap.size) (hS : Reads w B' 4 D lb.length (lb.flatMap attc)) (hB' : B' ≤ w.heap.size) (hlen : la.length ≤ 1000000) :
    Calls Try.prog 42 #[.slice A la.length c, .slice D lb.length d] w fun e w' => e = .returned (.bool (decide (la = lb))) ∧ Below w.heap.size w w' := by
  have HA := Lib.hid hR
  have HD := Lib.hid hS
  clear hR hS
  by_cases hl : la.length = lb.length
  rotate_left
  · have hb1 : ((la.length : Int) != (lb.length : Int)) = true := by rw [bne_iff_ne]; omega
    have HE : Hid (decide (la = lb) = false) := Lib.hid (by simp; rintro rfl; exact hl rfl)
    clear hl
    go_enter Try.func42, Try.ntmps42
    go_wp2
    go_ret
    exact ⟨by rw [HE.out]; rfl, Below.refl _ _⟩
  have hb1 : ((la.length : Int) != (lb.length : Int)) = false := by rw [bne_eq_false_iff_eq]; omega
  have HL := Lib.hid hl
  have hl1 : la.length ≤ lb.length := by omega
  clear hl
  go_enter Try.func42, Try.ntmps42
  go_wp2_with fail
  go_loopw [5] (fun i wr => ∃ k : Nat, k ≤ la.length ∧ i = .int .i64 (k : Int) ∧ Hid (la.take k = lb.take k) ∧ Below w.heap.size w wr) (fun i _ => la.length - (intOf i).toNat)
  case atStart => exact ⟨0, by omega, rfl, Lib.hid (by simp), Below.refl _ _⟩
  case round =>
    obtain ⟨k, hk, rfl, hall, hb⟩ := hrel
    by_cases hlt : k < la.length
    · have hki : (k : Int) < (la.length : Int) := by omega
      have hlt2 : k < lb.length := by omega
      have hki2 : (k : Int) < (lb.length : Int) := by omega
      have hki0 : (0 : Int) ≤ (k : Int) := by omega
      obtain ⟨b, off, rfl, hbB, hcell⟩ := HA.out.atts (by omega)
      obtain ⟨e, eo, rfl, heB, hcelle⟩ := HD.out.atts (by omega)
      have hbw : b < w.heap.size := Nat.lt_of_lt_of_le hbB hB
      have hew : e < w.heap.size := Nat.lt_of_lt_of_le heB hB'
      obtain ⟨e0, e1, e2, e3⟩ := hcell k hlt
      obtain ⟨f0, f1, f2, f3⟩ := hcelle k hlt2
      have a0 := (hb.cell (p := ⟨b, off + k * 4, none⟩) hbw).trans e0
      have a1 := (hb.cell (p := ⟨b, off + k * 4 + 1, none⟩) hbw).trans e1
      have a2 := (hb.cell (p := ⟨b, off + k * 4 + 2, none⟩) hbw).trans e2
      have a3 := (hb.cell (p := ⟨b, off + k * 4 + 3, none⟩) hbw).trans e3
      have d0 := (hb.cell (p := ⟨e, eo + k * 4, none⟩) hew).trans f0
      have d1 := (hb.cell (p := ⟨e, eo + k * 4 + 1, none⟩) hew).trans f1
      have d2 := (hb.cell (p := ⟨e, eo + k * 4 + 2, none⟩) hew).trans f2
      have d3 := (hb.cell (p := ⟨e, eo + k * 4 + 3, none⟩) hew).trans f3
      have hT := Lib.hid (take_eq_succ la lb k hlt hlt2 hall.out)
      have HF : Hid (la[k] ≠ lb[k] → decide (la = lb) = false) := Lib.hid fun h => by
        simp; rintro rfl; exact h rfl
      clear e0 e1 e2 e3 f0 f1 f2 f3 hcell hcelle
      generalize la[k] = x at *
      generalize lb[k] = y at *
      have hne := neq_att x y
      obtain ⟨xs, xk, xn, xt⟩ := x
      obtain ⟨ys, yk, yn, yt⟩ := y
      simp only at a0 a1 a2 a3 d0 d1 d2 d3 hne
      generalize hq : decide ((xs, xk, xn, xt) = (ys, yk, yn, yt)) = q at *
      have HQ := Lib.hid hq
      have HNE := Lib.hid hne
      clear hq hne
      go_wp2_with fail
      obtain ⟨C, hC⟩ : ∃ C : World → Prop, C = fun W => Below wr.heap.size wr W := ⟨_, rfl⟩
      have hg : ∀ W W', C W → Below W.heap.size W W' → C W' := by
        subst hC
        exact fun W W' h1 hb => h1.trans (hb.mono h1.size)
      have hc0 : C wr := by rw [hC]; exact Below.refl _ _
      have hz := hb.size
      refine wp_region_grow C [isV (.slice (some ⟨b, off, none⟩) la.length c), isV (.int .i64 (k : Int)), isV (.pointer (some ⟨b, off + k * 4, none⟩)), isV (attv (xs, xk, xn, xt)), isV (.slice (some ⟨e, eo, none⟩) lb.length d), isV (.int .i64 (k : Int)), isV (.pointer (some ⟨e, eo + k * 4, none⟩)), isV (attv (ys, yk, yn, yt)), isV (.bool (!q))]
        [([], []), ([], []), ([0, 1], [(17, 0), (18, 1)]), ([2], [(19, 2)]), ([], []), ([], []), ([4, 5], [(21, 4), (22, 5)]), ([6], [(23, 6)]), ([3, 7], [(20, 3), (24, 7)])] 26 rfl (by kernel_rfl) (by kernel_rfl) (by kernel_rfl) hg (by exact hg _ _ hc0 (Below.drew (Below.refl _ _))) ?st ?ow ?_
      case st =>
        simp only [List.forall_mem_cons]
        and_intros
        all_goals first | exact isV_st _ | simp
      case ow =>
        simp only [OwedQ]
        and_intros
        all_goals try trivial
        all_goals
          intro V w' hc hp
          rw [hC] at hc
          have hcl := fun p h => hc.cell (p := p) h
          have c0 := (hc.cell (p := ⟨b, off + k * 4, none⟩) (by simp; omega)).trans a0
          have c1 := (hc.cell (p := ⟨b, off + k * 4 + 1, none⟩) (by simp; omega)).trans a1
          have c2 := (hc.cell (p := ⟨b, off + k * 4 + 2, none⟩) (by simp; omega)).trans a2
          have c3 := (hc.cell (p := ⟨b, off + k * 4 + 3, none⟩) (by simp; omega)).trans a3
          have g0 := (hc.cell (p := ⟨e, eo + k * 4, none⟩) (by simp; omega)).trans d0
          have g1 := (hc.cell (p := ⟨e, eo + k * 4 + 1, none⟩) (by simp; omega)).trans d1
          have g2 := (hc.cell (p := ⟨e, eo + k * 4 + 2, none⟩) (by simp; omega)).trans d2
          have g3 := (hc.cell (p := ⟨e, eo + k * 4 + 3, none⟩) (by simp; omega)).trans d3
          try simp only [List.forall_mem_cons, tab_zero, tab_succ, isV] at hp
          try simp [wantsG, rhoP, List.lookup, hp, tab_zero, tab_succ, ResG, execOp, bareOp, isV, undef, Below.refl, c0, c1, c2, c3, g0, g1, g2, g3, hlt, hlt2, HNE.out, go_sem]
      intro V W hc hp
      have h8 := hp 8 (by simp)
      simp only [tab_zero, tab_succ, isV] at h8
      rw [hC] at hc
      clear hp hg hc0 hC
      simp only [putAll, Act.put, List.setIfInBounds_toArray, List.set_cons_succ, List.set_cons_zero, h8]
      have hbW := hb.trans (hc.mono hz)
      clear hc hb HNE
      cases q
      · have HE : Hid (decide (la = lb) = false) := Lib.hid (HF.out (by have := HQ.out; simpa using this))
        go_wp2
        go_ret
        exact ⟨by rw [HE.out]; rfl, hbW⟩
      · have hr : Hid (la.take (k + 1) = lb.take (k + 1)) := Lib.hid (hT.out.2 (by have := HQ.out; simpa using this))
        go_wp2
        go_roundw
        case rel => exact ⟨k + 1, by omega, by go_num, hr, hbW⟩
        case measure => simp [intOf]; omega
    · have hki : ¬ (k : Int) < (la.length : Int) := by omega
      have HE : Hid (decide (la = lb) = true) := by
        refine Lib.hid ?_
        have h1 := hall.out
        have h2 := HL.out
        rw [List.take_of_length_le (by omega), List.take_of_length_le (by omega)] at h1
        simp [h1]
      go_wp2
      go_ret
      exact ⟨by rw [HE.out]; rfl, hb⟩

section
variable {l la lb : List Att} {b : List UInt8} {v va vb : Value} {w : World}
theorem Same_evt (h : evt la va w) (k : evt lb vb w) (hlen : la.length ≤ 1000000) : Calls Try.prog 42 #[va, vb] w fun e w' => e = .returned (.bool (decide (la = lb))) ∧ Below w.heap.size w w' := by
  obtain ⟨A, c, rfl, hR⟩ := h
  obtain ⟨D, d, rfl, hS⟩ := k
  exact Same_calls A D c d la lb w _ _ hR (Nat.le_refl _) hS (Nat.le_refl _) hlen
end
end Go.Proofs.Ytjcdgbnbaiebdaa
