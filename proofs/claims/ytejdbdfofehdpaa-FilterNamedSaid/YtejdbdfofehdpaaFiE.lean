/-
  The walks of filter.Holds and filter.Matches. Conditions: none.
-/
import Derived.Test.YtejdbdfofehdpaaFiD
import Derived.Test.YtejdbdfofehdpaaEvD
namespace Go.Proofs.Ytejdbdfofehdpaa
open Go Go.RowKit

/-- What Find tells, taken apart: found, or not. -/
theorem findV_cases (e : List Att) (s : ByteArray) : (∃ x : Att, e.find? (isN s) = some x ∧ findV e s = .tuple #[vv x.2.1 x.2.2.1 x.2.2.2, .bool true]) ∨ (e.find? (isN s) = none ∧ findV e s = .tuple #[vv 0 0 { data := #[] }, .bool false]) := by
  unfold findV
  cases h : e.find? (isN s) with
  | none => exact .inr ⟨rfl, rfl⟩
  | some x => exact .inl ⟨x, rfl, rfl⟩

set_option maxHeartbeats 1000000 in
set_option maxRecDepth 100000 in
theorem Holds_calls (t : Tst) (e : List Att) (v : Value) (w : World) (he : evt e v w) (hlen : e.length ≤ 1000000) :
    Calls Try.prog 23 #[tstv t, v] w fun r w' => r = .returned (.bool (holdsT t e)) ∧ Below w.heap.size w w' := by
  obtain ⟨s, op, k, n, x⟩ := t
  have hb0 : Below w.heap.size w (w.alloc (.cells #[.string s, .int .i64 op, .int .i64 k, .int .i64 n, .string x] 30)) := (Below.refl _ _).alloc (Nat.le_refl _) _
  have hx0 := Blk.new w 30 #[.string s, .int .i64 op, .int .i64 k, .int .i64 n, .string x]
  have he0 := evt_st _ _ _ _ he hb0
  rcases findV_cases e s with ⟨y, hf, hv⟩ | ⟨hf, hv⟩
  · have HF : Hid (∀ W, evt e v W → Calls Try.prog 51 #[v, .string s] W fun r w' => r = .returned (.tuple #[vv y.2.1 y.2.2.1 y.2.2.2, .bool true]) ∧ Below W.heap.size W w') := Lib.hid fun W h => by
      have := Find_evt s h hlen; rwa [hv] at this
    have HE : Hid (holdsT (s, op, k, n, x) e = isT (s, op, k, n, x) y.2) := Lib.hid (by simp only [holdsT, hf])
    clear hf hv
    obtain ⟨yn, yk, yv, yt⟩ := y
    simp only at HF HE
    go_enter Try.func23, Try.ntmps23
    go_wp2_with fail
    refine (HF.out _ he0).mono ?_
    rintro r w1 ⟨rfl, hb1⟩
    have hx1 := (hx0.below hb1 hx0.lt).alloc (.cells #[.int .i64 yk, .int .i64 yv, .string yt] 28)
    have hbw := hb0.trans (hb1.mono hb0.size)
    have hbw1 : Below w.heap.size w (w1.alloc (.cells #[.int .i64 yk, .int .i64 yv, .string yt] 28)) := hbw.alloc hbw.size _
    have x0 : (w1.alloc (.cells #[.int .i64 yk, .int .i64 yv, .string yt] 28)).cell? ⟨w.heap.size, 0, none⟩ = some (.string s) := hx1.cell 0
    have x1 : (w1.alloc (.cells #[.int .i64 yk, .int .i64 yv, .string yt] 28)).cell? ⟨w.heap.size, 1, none⟩ = some (.int .i64 op) := hx1.cell 1
    have x2 : (w1.alloc (.cells #[.int .i64 yk, .int .i64 yv, .string yt] 28)).cell? ⟨w.heap.size, 2, none⟩ = some (.int .i64 k) := hx1.cell 2
    have x3 : (w1.alloc (.cells #[.int .i64 yk, .int .i64 yv, .string yt] 28)).cell? ⟨w.heap.size, 3, none⟩ = some (.int .i64 n) := hx1.cell 3
    have x4 : (w1.alloc (.cells #[.int .i64 yk, .int .i64 yv, .string yt] 28)).cell? ⟨w.heap.size, 4, none⟩ = some (.string x) := hx1.cell 4
    go_upto_region 2 with (fail)
    have hn := Blk.new w1 28 #[.int .i64 yk, .int .i64 yv, .string yt]
    have n0 := hn.cell 0
    have n1 := hn.cell 1
    have n2 := hn.cell 2
    generalize hw2 : w1.alloc (.cells #[.int .i64 yk, .int .i64 yv, .string yt] 28) = w2 at *
    clear hw2 hn hx1
    go_wp2_with fail
    refine (Is_calls (s, op, k, n, x) (yk, yv, yt) _).mono ?_
    rintro r w3 ⟨rfl, hb3⟩
    go_wp2
    go_ret
    exact ⟨by rw [HE.out]; rfl, hbw1.trans (hb3.mono hbw1.size)⟩
  · have HF : Hid (∀ W, evt e v W → Calls Try.prog 51 #[v, .string s] W fun r w' => r = .returned (.tuple #[vv 0 0 { data := #[] }, .bool false]) ∧ Below W.heap.size W w') := Lib.hid fun W h => by
      have := Find_evt s h hlen; rwa [hv] at this
    have HE : Hid (holdsT (s, op, k, n, x) e = false) := Lib.hid (by simp only [holdsT, hf])
    clear hf hv
    go_enter Try.func23, Try.ntmps23
    go_wp2_with fail
    refine (HF.out _ he0).mono ?_
    rintro r w1 ⟨rfl, hb1⟩
    have hbw := hb0.trans (hb1.mono hb0.size)
    go_wp2
    go_ret
    exact ⟨by rw [HE.out]; rfl, hbw.alloc hbw.size _⟩

theorem matches_take (l : List Tst) (e : List Att) (k : Nat) (h : k < l.length) (ha : ∀ t ∈ l.take k, holdsT t e = true) (hb : holdsT l[k] e = true) : ∀ t ∈ l.take (k + 1), holdsT t e = true := by
  intro x hx
  rw [List.take_succ_eq_append_getElem h] at hx
  rcases List.mem_append.1 hx with hx | hx
  · exact ha x hx
  · simp at hx; rw [hx]; exact hb
theorem matches_bad (l : List Tst) (e : List Att) (k : Nat) (h : k < l.length) (hb : holdsT l[k] e = false) : matchesF l e = false := by
  unfold matchesF
  rw [List.all_eq_false]
  exact ⟨l[k], List.getElem_mem h, by simp [hb]⟩
theorem matches_good (l : List Tst) (e : List Att) (h : ∀ t ∈ l.take l.length, holdsT t e = true) : matchesF l e = true := by
  rw [List.take_length] at h
  exact List.all_eq_true.2 h

set_option maxHeartbeats 2000000 in
set_option maxRecDepth 100000 in
theorem Matches_calls (A : Option Addr) (c : Nat) (l : List Tst) (e : List Att) (v : Value) (w : World) (B : Nat) (hR : Reads w B 5 A l.length (l.flatMap tstc)) (hB : B ≤ w.heap.size) (hll : l.length ≤ 1000000) (he : evt e v w) (hlen : e.length ≤ 1000000) :
    Calls Try.prog 19 #[.slice A l.length c, v] w fun r w' => r = .returned (.bool (matchesF l e)) ∧ Below w.heap.size w w' := by
  have HA := Lib.hid hR
  have HV := Lib.hid he
  clear hR he
  go_enter Try.func19, Try.ntmps19
  go_wp2
  go_step3
  go_wp2_with fail
  go_step3
  go_wp2_with fail
  go_loopw [5, 10] (fun m i wr => ∃ k : Nat, k ≤ l.length ∧ i = .int .i64 (k : Int) ∧ m = .bool true ∧ Hid (∀ t ∈ l.take k, holdsT t e = true) ∧ Below w.heap.size w wr) (fun _ i _ => l.length - (intOf i).toNat)
  case atStart => exact ⟨0, by omega, rfl, rfl, Lib.hid (by simp), Below.refl _ _⟩
  case round =>
    obtain ⟨k, hk, rfl, rfl, hall, hb⟩ := hrel
    by_cases hlt : k < l.length
    · have hki : (k : Int) < (l.length : Int) := by omega
      obtain ⟨b, off, rfl, hbB, hcell⟩ := HA.out.tsts (by omega)
      obtain ⟨e0, e1, e2, e3, e4⟩ := hcell k hlt
      have hbw : b < w.heap.size := Nat.lt_of_lt_of_le hbB hB
      have d0 := (hb.cell (p := ⟨b, off + k * 5, none⟩) hbw).trans e0
      have d1 := (hb.cell (p := ⟨b, off + k * 5 + 1, none⟩) hbw).trans e1
      have d2 := (hb.cell (p := ⟨b, off + k * 5 + 2, none⟩) hbw).trans e2
      have d3 := (hb.cell (p := ⟨b, off + k * 5 + 3, none⟩) hbw).trans e3
      have d4 := (hb.cell (p := ⟨b, off + k * 5 + 4, none⟩) hbw).trans e4
      have HT := Lib.hid (matches_take l e k hlt hall.out)
      have HBD := Lib.hid (matches_bad l e k hlt)
      have hz := hb.size
      clear e0 e1 e2 e3 e4 hcell
      generalize l[k] = x at *
      obtain ⟨xs, xo, xk, xn, xt⟩ := x
      simp only at d0 d1 d2 d3 d4
      have hal : Below wr.heap.size wr (wr.alloc (.cells #[.string xs, .int .i64 xo, .int .i64 xk, .int .i64 xn, .string xt] 30)) := (Below.refl _ _).alloc (Nat.le_refl _) _
      have hev := Lib.hid (evt_st _ _ _ _ (evt_st _ _ _ _ HV.out hb) hal)
      go_wp2_with fail
      refine (Holds_calls (xs, xo, xk, xn, xt) e v _ hev.out hlen).mono ?_
      rintro r w2 ⟨rfl, hb2⟩
      have hbw2 : Below w.heap.size w w2 := (hb.trans (hal.mono hz)).trans (hb2.mono (by simp; omega))
      cases hh : holdsT (xs, xo, xk, xn, xt) e
      · have HE : Hid (matchesF l e = false) := Lib.hid (HBD.out hh)
        clear hh
        go_wp2
        try rw [Exit.noGoto_ret]
        go_ret
        exact ⟨by rw [HE.out]; rfl, hbw2⟩
      · have hr := Lib.hid (HT.out hh)
        clear hh
        go_wp2
        go_roundw
        case rel => exact ⟨k + 1, by omega, by go_num, by trivial, hr, hbw2⟩
        case measure => simp [intOf]; omega
    · have hki : ¬ (k : Int) < (l.length : Int) := by omega
      have HE : Hid (matchesF l e = true) := Lib.hid (matches_good l e (by
        have := hall.out
        rwa [show k = l.length by omega] at this))
      go_wp2
      try rw [Exit.noGoto_ret]
      go_ret
      exact ⟨by rw [HE.out]; rfl, hb⟩
theorem Matches_flt {l : List Tst} {e : List Att} {vf ve : Value} {w : World} (hf : flt l vf w) (hll : l.length ≤ 1000000) (he : evt e ve w) (hlen : e.length ≤ 1000000) :
    Calls Try.prog 19 #[vf, ve] w fun r w' => r = .returned (.bool (matchesF l e)) ∧ Below w.heap.size w w' := by
  obtain ⟨A, c, rfl, hR⟩ := hf
  exact Matches_calls A c l e ve w _ hR (Nat.le_refl _) hll he hlen
end Go.Proofs.Ytejdbdfofehdpaa
