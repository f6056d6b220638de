/-
  Two attributes, or values, held against each other; the walks of the document's Same and of the statements' Few (layer 4). Conditions: none.
-/
import Derived.Test.YtghgapfhlfcjiaaEvC
namespace Go.Proofs.Ytghgapfhlfcjiaa
open Go Go.RowKit

theorem toList_iff (a b : ByteArray) : a.toList = b.toList ↔ a = b := by
  rw [ByteArray.toList_eq, ByteArray.toList_eq]
  exact ⟨fun h => byt_inj h, fun h => by rw [h]⟩
theorem run_val_eq (k n k' n' : Int) (s s' : ByteArray) (w : World) (d : Nat) : (Op.equalIn (d + 1 + 1) 31 (vv k n s) (vv k' n' s')).run Try.prog w = .ok (decide ((k, n, s) = (k', n', s'))) w := by
  simp [go_sem, toList_iff]
  by_cases h1 : k = k' <;> by_cases h2 : n = n' <;> by_cases h3 : s = s' <;> simp [h1, h2, h3]
theorem run_att_eq (x y : Att) (w : World) (d : Nat) : (Op.equalIn (d + 1 + 1 + 1) 43 (.agg #[.string x.1, .int .i64 x.2.1, .int .i64 x.2.2.1, .string x.2.2.2]) (.agg #[.string y.1, .int .i64 y.2.1, .int .i64 y.2.2.1, .string y.2.2.2])).run Try.prog w = .ok (decide (x = y)) w := by
  obtain ⟨a, k, n, s⟩ := x
  obtain ⟨a', k', n', s'⟩ := y
  simp [go_sem, toList_iff]
  by_cases h0 : a = a' <;> by_cases h1 : k = k' <;> by_cases h2 : n = n' <;> by_cases h3 : s = s' <;> simp [h0, h1, h2, h3]
theorem neq_att (x y : Att) (w : World) : (binOp .neq 43 (.agg #[.string x.1, .int .i64 x.2.1, .int .i64 x.2.2.1, .string x.2.2.2]) (.agg #[.string y.1, .int .i64 y.2.1, .int .i64 y.2.2.1, .string y.2.2.2])).run Try.prog w = .ok (.bool (!decide (x = y))) w := by
  rw [run_neq_struct, run_att_eq x y w 9997]; rfl
theorem eql_val (k n k' n' : Int) (s s' : ByteArray) (w : World) : (binOp .eql 31 (vv k n s) (vv k' n' s')).run Try.prog w = .ok (.bool (decide ((k, n, s) = (k', n', s')))) w := by
  rw [run_eql_struct, run_val_eq k n k' n' s s' w 9998]; rfl
theorem neq_val (k n k' n' : Int) (s s' : ByteArray) (w : World) : (binOp .neq 31 (vv k n s) (vv k' n' s')).run Try.prog w = .ok (.bool (!decide ((k, n, s) = (k', n', s')))) w := by
  rw [run_neq_struct, run_val_eq k n k' n' s s' w 9998]; rfl

theorem take_eq_succ {α : Type} (a b : List α) (k : Nat) (ha : k < a.length) (hb : k < b.length) (h : a.take k = b.take k) : (a.take (k + 1) = b.take (k + 1)) ↔ a[k] = b[k] := by
  rw [List.take_succ_eq_append_getElem ha, List.take_succ_eq_append_getElem hb, h]
  constructor
  · intro e
    have := List.append_cancel_left e
    simpa using this
  · intro e; rw [e]

set_option maxHeartbeats 2000000 in
theorem Same_calls (A D : Option Addr) (c d : Nat) (la lb : List Att) (w : World) (B B' : Nat) (hR : Reads w B 4 A la.length (la.flatMap attc)) (hB : B ≤ w.heap.size) (hS : Reads w B' 4 D lb.length (lb.flatMap attc)) (hB' : B' ≤ w.heap.size) (hlen : la.length ≤ 1000000) :
    Calls Try.prog 22 #[.slice A la.length c, .slice D lb.length d] w fun e w' => e = .returned (.bool (decide (la = lb))) ∧ Below w.heap.size w w' := by
  have HA := Lib.hid hR
  have HD := Lib.hid hS
  clear hR hS
  by_cases hl : la.length = lb.length
  rotate_left
  · have hb1 : ((la.length : Int) != (lb.length : Int)) = true := by rw [bne_iff_ne]; omega
    have HE : Hid (decide (la = lb) = false) := Lib.hid (by simp; rintro rfl; exact hl rfl)
    clear hl
    go_enter Try.func22, Try.ntmps22
    go_wp2
    go_ret
    exact ⟨by rw [HE.out]; rfl, Below.refl _ _⟩
  have hb1 : ((la.length : Int) != (lb.length : Int)) = false := by rw [bne_eq_false_iff_eq]; omega
  have HL := Lib.hid hl
  have hl1 : la.length ≤ lb.length := by omega
  clear hl
  go_enter Try.func22, Try.ntmps22
  go_wp2_with fail
  go_loopw [5] (fun i wr => ∃ k : Nat, k ≤ la.length ∧ i = .int .i64 (k : Int) ∧ Hid (la.take k = lb.take k) ∧ Below w.heap.size w wr) (fun i _ => la.length - (intOf i).toNat)
  case atStart => exact ⟨0, by omega, rfl, Lib.hid (by simp), Below.refl _ _⟩
  case round =>
    obtain ⟨k, hk, rfl, hall, hb⟩ := hrel
    by_cases hlt : k < la.length
    · have hki : (k : Int) < (la.length : Int) := by omega
      have hlt2 : k < lb.length := by omega
      have hki2 : (k : Int) < (lb.length : Int) := by omega
      have hki0 : (0 : Int) ≤ (k : Int) := by omega
      obtain ⟨b, off, rfl, hbB, hcell⟩ := HA.out.atts (by omega)
      obtain ⟨e, eo, rfl, heB, hcelle⟩ := HD.out.atts (by omega)
      have hbw : b < w.heap.size := Nat.lt_of_lt_of_le hbB hB
      have hew : e < w.heap.size := Nat.lt_of_lt_of_le heB hB'
      obtain ⟨e0, e1, e2, e3⟩ := hcell k hlt
      obtain ⟨f0, f1, f2, f3⟩ := hcelle k hlt2
      have a0 := (hb.cell (p := ⟨b, off + k * 4, none⟩) hbw).trans e0
      have a1 := (hb.cell (p := ⟨b, off + k * 4 + 1, none⟩) hbw).trans e1
      have a2 := (hb.cell (p := ⟨b, off + k * 4 + 2, none⟩) hbw).trans e2
      have a3 := (hb.cell (p := ⟨b, off + k * 4 + 3, none⟩) hbw).trans e3
      have d0 := (hb.cell (p := ⟨e, eo + k * 4, none⟩) hew).trans f0
      have d1 := (hb.cell (p := ⟨e, eo + k * 4 + 1, none⟩) hew).trans f1
      have d2 := (hb.cell (p := ⟨e, eo + k * 4 + 2, none⟩) hew).trans f2
      have d3 := (hb.cell (p := ⟨e, eo + k * 4 + 3, none⟩) hew).trans f3
      have hT := Lib.hid (take_eq_succ la lb k hlt hlt2 hall.out)
      have HF : Hid (la[k] ≠ lb[k] → decide (la = lb) = false) := Lib.hid fun h => by
        simp; rintro rfl; exact h rfl
      clear e0 e1 e2 e3 f0 f1 f2 f3 hcell hcelle
      generalize la[k] = x at *
      generalize lb[k] = y at *
      have hne := neq_att x y
      obtain ⟨xs, xk, xn, xt⟩ := x
      obtain ⟨ys, yk, yn, yt⟩ := y
      simp only at a0 a1 a2 a3 d0 d1 d2 d3 hne
      generalize hq : decide ((xs, xk, xn, xt) = (ys, yk, yn, yt)) = q at *
      have HQ := Lib.hid hq
      have HNE := Lib.hid hne
      clear hq hne
      go_wp2_with fail
      obtain ⟨C, hC⟩ : ∃ C : World → Prop, C = fun W => Below wr.heap.size wr W := ⟨_, rfl⟩
      have hg : ∀ W W', C W → Below W.heap.size W W' → C W' := by
        subst hC
        exact fun W W' h1 hb => h1.trans (hb.mono h1.size)
      have hc0 : C wr := by rw [hC]; exact Below.refl _ _
      have hz := hb.size
      refine wp_region_grow C [isV (.slice (some ⟨b, off, none⟩) la.length c), isV (.int .i64 (k : Int)), isV (.pointer (some ⟨b, off + k * 4, none⟩)), isV (attv (xs, xk, xn, xt)), isV (.slice (some ⟨e, eo, none⟩) lb.length d), isV (.int .i64 (k : Int)), isV (.pointer (some ⟨e, eo + k * 4, none⟩)), isV (attv (ys, yk, yn, yt)), isV (.bool (!q))]
        [([], []), ([], []), ([0, 1], [(17, 0), (18, 1)]), ([2], [(19, 2)]), ([], []), ([], []), ([4, 5], [(21, 4), (22, 5)]), ([6], [(23, 6)]), ([3, 7], [(20, 3), (24, 7)])] 26 rfl (by kernel_rfl) (by kernel_rfl) (by kernel_rfl) hg (by exact hg _ _ hc0 (Below.drew (Below.refl _ _))) ?st ?ow ?_
      case st =>
        simp only [List.forall_mem_cons]
        and_intros
        all_goals first | exact isV_st _ | simp
      case ow =>
        simp only [OwedQ]
        and_intros
        all_goals try trivial
        all_goals
          intro V w' hc hp
          rw [hC] at hc
          have hcl := fun p h => hc.cell (p := p) h
          have c0 := (hc.cell (p := ⟨b, off + k * 4, none⟩) (by simp; omega)).trans a0
          have c1 := (hc.cell (p := ⟨b, off + k * 4 + 1, none⟩) (by simp; omega)).trans a1
          have c2 := (hc.cell (p := ⟨b, off + k * 4 + 2, none⟩) (by simp; omega)).trans a2
          have c3 := (hc.cell (p := ⟨b, off + k * 4 + 3, none⟩) (by simp; omega)).trans a3
          have g0 := (hc.cell (p := ⟨e, eo + k * 4, none⟩) (by simp; omega)).trans d0
          have g1 := (hc.cell (p := ⟨e, eo + k * 4 + 1, none⟩) (by simp; omega)).trans d1
          have g2 := (hc.cell (p := ⟨e, eo + k * 4 + 2, none⟩) (by simp; omega)).trans d2
          have g3 := (hc.cell (p := ⟨e, eo + k * 4 + 3, none⟩) (by simp; omega)).trans d3
          try simp only [List.forall_mem_cons, tab_zero, tab_succ, isV] at hp
          try simp [wantsG, rhoP, List.lookup, hp, tab_zero, tab_succ, ResG, execOp, bareOp, isV, undef, Below.refl, c0, c1, c2, c3, g0, g1, g2, g3, hlt, hlt2, HNE.out, go_sem]
      intro V W hc hp
      have h8 := hp 8 (by simp)
      simp only [tab_zero, tab_succ, isV] at h8
      rw [hC] at hc
      clear hp hg hc0 hC
      simp only [putAll, Act.put, List.setIfInBounds_toArray, List.set_cons_succ, List.set_cons_zero, h8]
      have hbW := hb.trans (hc.mono hz)
      clear hc hb HNE
      cases q
      · have HE : Hid (decide (la = lb) = false) := Lib.hid (HF.out (by have := HQ.out; simpa using this))
        go_wp2
        go_ret
        exact ⟨by rw [HE.out]; rfl, hbW⟩
      · have hr : Hid (la.take (k + 1) = lb.take (k + 1)) := Lib.hid (hT.out.2 (by have := HQ.out; simpa using this))
        go_wp2
        go_roundw
        case rel => exact ⟨k + 1, by omega, by go_num, hr, hbW⟩
        case measure => simp [intOf]; omega
    · have hki : ¬ (k : Int) < (la.length : Int) := by omega
      have HE : Hid (decide (la = lb) = true) := by
        refine Lib.hid ?_
        have h1 := hall.out
        have h2 := HL.out
        rw [List.take_of_length_le (by omega), List.take_of_length_le (by omega)] at h1
        simp [h1]
      go_wp2
      go_ret
      exact ⟨by rw [HE.out]; rfl, hb⟩

/-- At most twenty attributes, of texts of at most a hundred bytes. -/
def fewE (l : List Att) : Bool := decide (l.length ≤ 20) && l.all fun x => decide (x.1.size ≤ 100) && decide (x.2.2.2.size ≤ 100)
theorem few_bad (l : List Att) (k : Nat) (h : k < l.length) (hb : ¬ (l[k].1.size ≤ 100 ∧ l[k].2.2.2.size ≤ 100)) : fewE l = false := by
  simp only [fewE, Bool.and_eq_false_iff]
  right
  rw [List.all_eq_false]
  exact ⟨l[k], List.getElem_mem h, by simpa using hb⟩
theorem few_good (l : List Att) (h20 : l.length ≤ 20) (h : ∀ k (hk : k < l.length), l[k].1.size ≤ 100 ∧ l[k].2.2.2.size ≤ 100) : fewE l = true := by
  simp only [fewE, Bool.and_eq_true, decide_eq_true_eq, h20, true_and, List.all_eq_true]
  intro x hx
  obtain ⟨k, hk, rfl⟩ := List.getElem_of_mem hx
  exact h k hk
theorem few_parts {l : List Att} (h : fewE l = true) : l.length ≤ 20 ∧ ∀ x ∈ l, x.1.size ≤ 100 ∧ x.2.2.2.size ≤ 100 := by
  simp only [fewE, Bool.and_eq_true, decide_eq_true_eq, List.all_eq_true] at h
  exact h

set_option maxHeartbeats 2000000 in
theorem Few_calls (A : Option Addr) (c : Nat) (l : List Att) (w : World) (B : Nat) (hR : Reads w B 4 A l.length (l.flatMap attc)) (_hB : B ≤ w.heap.size) :
    Calls Try.prog 11 #[.slice A l.length c] w fun e w' => e = .returned (.bool (fewE l)) ∧ w = w' := by
  have HA := Lib.hid hR
  clear hR
  by_cases hl : l.length ≤ 20
  rotate_left
  · have hb1 : (20 : Int) < (l.length : Int) := by omega
    have HE : Hid (fewE l = false) := Lib.hid (by simp [fewE]; omega)
    clear hl
    go_enter Try.func11, Try.ntmps11
    go_wp2
    go_ret
    exact ⟨by rw [HE.out]; rfl, rfl⟩
  have hb1 : ¬ (20 : Int) < (l.length : Int) := by omega
  go_enter Try.func11, Try.ntmps11
  go_wp2_with fail
  go_loop [3] (fun i => ∃ k : Nat, k ≤ l.length ∧ i = .int .i64 (k : Int) ∧ Hid (∀ j (hj : j < l.length), j < k → l[j].1.size ≤ 100 ∧ l[j].2.2.2.size ≤ 100)) (fun i => l.length - (intOf i).toNat)
  case atStart => exact ⟨0, by omega, rfl, Lib.hid (fun j _ h => absurd h (by omega))⟩
  case round =>
    obtain ⟨k, hk, rfl, hall⟩ := hrel
    by_cases hlt : k < l.length
    · have hki : (k : Int) < (l.length : Int) := by omega
      obtain ⟨b, off, rfl, hbB, hcell⟩ := HA.out.atts (by omega)
      obtain ⟨d0, d1, d2, d3⟩ := hcell k hlt
      clear hcell d1 d2
      have HF := Lib.hid (few_bad l k hlt)
      have HT : Hid (l[k].1.size ≤ 100 ∧ l[k].2.2.2.size ≤ 100 → ∀ j (hj : j < l.length), j < k + 1 → l[j].1.size ≤ 100 ∧ l[j].2.2.2.size ≤ 100) := by
        refine Lib.hid fun h j hj hjk => ?_
        by_cases e : j = k
        · subst e; exact h
        · exact hall.out j hj (by omega)
      generalize l[k] = x at *
      obtain ⟨xs, xk, xn, xt⟩ := x
      simp only at d0 d3 HF HT
      by_cases h1 : xs.size ≤ 100
      · have h1' : ¬ (100 : Int) < (xs.size : Int) := by omega
        by_cases h2 : xt.size ≤ 100
        · have h2' : ¬ (100 : Int) < (xt.size : Int) := by omega
          have hr := Lib.hid (HT.out ⟨h1, h2⟩)
          go_wp2
          go_round
          case rel => exact ⟨k + 1, by omega, by go_num, hr⟩
          case measure => simp [intOf]; omega
        · have h2' : (100 : Int) < (xt.size : Int) := by omega
          have HE : Hid (fewE l = false) := Lib.hid (HF.out (by omega))
          go_wp2
          go_ret
          exact ⟨by rw [HE.out]; rfl, rfl⟩
      · have h1' : (100 : Int) < (xs.size : Int) := by omega
        have HE : Hid (fewE l = false) := Lib.hid (HF.out (by omega))
        go_wp2
        go_ret
        exact ⟨by rw [HE.out]; rfl, rfl⟩
    · have hki : ¬ (k : Int) < (l.length : Int) := by omega
      have HE : Hid (fewE l = true) := Lib.hid (few_good l hl fun j hj => hall.out j hj (by omega))
      go_wp2
      go_ret
      exact ⟨by rw [HE.out]; rfl, rfl⟩
end Go.Proofs.Ytghgapfhlfcjiaa
