/-
  The walks of the document's Is, Holds and Matches. Conditions: none.
-/
import Derived.Test.YtejdbdfofehdpaaFiE
import Derived.Test.YtejdbdfofehdpaaRfB
import Derived.Test.YtejdbdfofehdpaaRevD
namespace Go.Proofs.Ytejdbdfofehdpaa
open Go Go.RowKit

set_option maxHeartbeats 4000000 in
set_option maxRecDepth 100000 in
theorem RefIs_calls (t : Tst) (v : Vl) (w : World) :
    Calls Try.prog 22 #[tstv t, vv v.1 v.2.1 v.2.2] w fun e w' => e = .returned (.bool (isT t v)) ∧ Below w.heap.size w w' := by
  obtain ⟨s, op, k, n, x⟩ := t
  obtain ⟨vk, vn, vt⟩ := v
  have hq : Below w.heap.size w ((w.alloc (.cells #[.string s, .int .i64 op, .int .i64 k, .int .i64 n, .string x] 30)).alloc (.cells #[.int .i64 vk, .int .i64 vn, .string vt] 28)) := ((Below.refl _ _).alloc (Nat.le_refl _) _).alloc (by simp) _
  have hx := (Blk.new w 30 #[.string s, .int .i64 op, .int .i64 k, .int .i64 n, .string x]).alloc (.cells #[.int .i64 vk, .int .i64 vn, .string vt] 28)
  have hy := Blk.new (w.alloc (.cells #[.string s, .int .i64 op, .int .i64 k, .int .i64 n, .string x] 30)) 28 #[.int .i64 vk, .int .i64 vn, .string vt]
  rw [World.size_alloc] at hy
  have HT : Hid (isT (s, op, k, n, x) (vk, vn, vt) = (if op == 8 then true else (vk == k) && (if op == 1 then ordV (vk, vn, vt) (k, n, x) == 0 else if op == 2 then ordV (vk, vn, vt) (k, n, x) != 0 else if op == 3 then decide (ordV (vk, vn, vt) (k, n, x) < 0) else if op == 4 then decide (ordV (vk, vn, vt) (k, n, x) ≤ 0)
    else if op == 5 then decide (0 < ordV (vk, vn, vt) (k, n, x)) else if op == 6 then decide (0 ≤ ordV (vk, vn, vt) (k, n, x)) else if op == 7 then begV (vk, vn, vt) (k, n, x) else false))) := Lib.hid rfl
  by_cases h8 : op = 8
  · have hb88 : (op == 8) = true := by simp [h8]
    have HE : Hid (isT (s, op, k, n, x) (vk, vn, vt) = true) := Lib.hid (by rw [HT.out, hb88]; rfl)
    clear h8
    go_enter Try.func22, Try.ntmps22
    go_wp2
    go_ret
    exact ⟨by rw [HE.out]; rfl, hq⟩
  have hb88 : (op == 8) = false := by simp [h8]
  cases hkk : (vk == k)
  · have hnk : (vk != k) = true := by simp only [bne, hkk]; rfl
    have HE : Hid (isT (s, op, k, n, x) (vk, vn, vt) = false) := Lib.hid (by rw [HT.out, hb88, hkk]; rfl)
    clear h8
    go_enter Try.func22, Try.ntmps22
    go_wp2
    go_ret
    exact ⟨by rw [HE.out]; rfl, hq⟩
  have hnk : (vk != k) = false := by simp only [bne, hkk]; rfl
  go_enter Try.func22, Try.ntmps22
  go_wp2_with fail
  refine (RefOrder_calls (vk, vn, vt) (k, n, x) _).mono ?_
  rintro e w1 ⟨rfl, hb1⟩
  have hbw := hq.trans (hb1.mono hq.size)
  have hx1 := hx.below hb1 hx.lt
  have hy1 := hy.below hb1 (by simp)
  have x1 := hx1.cell 1
  have x2 := hx1.cell 2
  have x3 := hx1.cell 3
  have x4 := hx1.cell 4
  have y0 := hy1.cell 0
  have y1 := hy1.cell 1
  have y2 := hy1.cell 2
  simp at x1 x2 x3 x4 y0 y1 y2
  by_cases h17 : 1 ≤ op ∧ op ≤ 7
  rotate_left
  · have HE : Hid (isT (s, op, k, n, x) (vk, vn, vt) = false) := Lib.hid (by
      rw [HT.out, hb88]
      have e : ∀ i : Int, 1 ≤ i → i ≤ 7 → (op == i) = false := fun i h1 h2 => by simp; omega
      simp [e])
    have e1 : (op == 1) = false := by simp; omega
    have e2 : (op == 2) = false := by simp; omega
    have e3 : (op == 3) = false := by simp; omega
    have e4 : (op == 4) = false := by simp; omega
    have e5 : (op == 5) = false := by simp; omega
    have e6 : (op == 6) = false := by simp; omega
    have e7 : (op == 7) = false := by simp; omega
    clear h8 h17
    go_wp2
    go_ret
    exact ⟨by rw [HE.out]; rfl, hbw⟩
  rcases (by omega : op = 1 ∨ op = 2 ∨ op = 3 ∨ op = 4 ∨ op = 5 ∨ op = 6 ∨ op = 7) with rfl | rfl | rfl | rfl | rfl | rfl | rfl
  · have HE : Hid (isT (s, 1, k, n, x) (vk, vn, vt) = (ordV (vk, vn, vt) (k, n, x) == 0)) := Lib.hid (by rw [HT.out, hkk]; rfl)
    generalize ordV (vk, vn, vt) (k, n, x) = o at *
    go_wp2
    go_ret
    exact ⟨by rw [HE.out]; rfl, hbw⟩
  · have HE : Hid (isT (s, 2, k, n, x) (vk, vn, vt) = (ordV (vk, vn, vt) (k, n, x) != 0)) := Lib.hid (by rw [HT.out, hkk]; rfl)
    generalize ordV (vk, vn, vt) (k, n, x) = o at *
    go_wp2
    go_ret
    exact ⟨by rw [HE.out]; rfl, hbw⟩
  · have HE : Hid (isT (s, 3, k, n, x) (vk, vn, vt) = (decide (ordV (vk, vn, vt) (k, n, x) < 0))) := Lib.hid (by rw [HT.out, hkk]; rfl)
    generalize ordV (vk, vn, vt) (k, n, x) = o at *
    go_wp2
    go_ret
    exact ⟨by rw [HE.out]; rfl, hbw⟩
  · have HE : Hid (isT (s, 4, k, n, x) (vk, vn, vt) = (decide (ordV (vk, vn, vt) (k, n, x) ≤ 0))) := Lib.hid (by rw [HT.out, hkk]; rfl)
    generalize ordV (vk, vn, vt) (k, n, x) = o at *
    go_wp2
    go_ret
    exact ⟨by rw [HE.out]; rfl, hbw⟩
  · have HE : Hid (isT (s, 5, k, n, x) (vk, vn, vt) = (decide (0 < ordV (vk, vn, vt) (k, n, x)))) := Lib.hid (by rw [HT.out, hkk]; rfl)
    generalize ordV (vk, vn, vt) (k, n, x) = o at *
    go_wp2
    go_ret
    exact ⟨by rw [HE.out]; rfl, hbw⟩
  · have HE : Hid (isT (s, 6, k, n, x) (vk, vn, vt) = (decide (0 ≤ ordV (vk, vn, vt) (k, n, x)))) := Lib.hid (by rw [HT.out, hkk]; rfl)
    generalize ordV (vk, vn, vt) (k, n, x) = o at *
    go_wp2
    go_ret
    exact ⟨by rw [HE.out]; rfl, hbw⟩
  · have HE : Hid (isT (s, 7, k, n, x) (vk, vn, vt) = begV (vk, vn, vt) (k, n, x)) := Lib.hid (by rw [HT.out, hkk]; rfl)
    go_wp2_with fail
    refine (RefBegins_calls (vk, vn, vt) (k, n, x) _).mono ?_
    rintro e w2 ⟨rfl, hb2⟩
    go_wp2
    go_ret
    exact ⟨by rw [HE.out]; rfl, hbw.trans (hb2.mono hbw.size)⟩

set_option maxHeartbeats 1000000 in
set_option maxRecDepth 100000 in
theorem RefHolds_calls (t : Tst) (e : List Att) (v : Value) (w : World) (he : evt e v w) (hlen : e.length ≤ 1000000) :
    Calls Try.prog 24 #[tstv t, v] w fun r w' => r = .returned (.bool (holdsT t e)) ∧ Below w.heap.size w w' := by
  obtain ⟨s, op, k, n, x⟩ := t
  have hb0 : Below w.heap.size w (w.alloc (.cells #[.string s, .int .i64 op, .int .i64 k, .int .i64 n, .string x] 30)) := (Below.refl _ _).alloc (Nat.le_refl _) _
  have hx0 := Blk.new w 30 #[.string s, .int .i64 op, .int .i64 k, .int .i64 n, .string x]
  have he0 := evt_st _ _ _ _ he hb0
  rcases findV_cases e s with ⟨y, hf, hv⟩ | ⟨hf, hv⟩
  · have HF : Hid (∀ W, evt e v W → Calls Try.prog 52 #[v, .string s] W fun r w' => r = .returned (.tuple #[vv y.2.1 y.2.2.1 y.2.2.2, .bool true]) ∧ Below W.heap.size W w') := Lib.hid fun W h => by
      have := RefFind_evt s h hlen; rwa [hv] at this
    have HE : Hid (holdsT (s, op, k, n, x) e = isT (s, op, k, n, x) y.2) := Lib.hid (by simp only [holdsT, hf])
    clear hf hv
    obtain ⟨yn, yk, yv, yt⟩ := y
    simp only at HF HE
    go_enter Try.func24, Try.ntmps24
    go_wp2_with fail
    refine (HF.out _ he0).mono ?_
    rintro r w1 ⟨rfl, hb1⟩
    have hx1 := (hx0.below hb1 hx0.lt).alloc (.cells #[.int .i64 yk, .int .i64 yv, .string yt] 28)
    have hbw := hb0.trans (hb1.mono hb0.size)
    have hbw1 : Below w.heap.size w (w1.alloc (.cells #[.int .i64 yk, .int .i64 yv, .string yt] 28)) := hbw.alloc hbw.size _
    have x0 : (w1.alloc (.cells #[.int .i64 yk, .int .i64 yv, .string yt] 28)).cell? ⟨w.heap.size, 0, none⟩ = some (.string s) := hx1.cell 0
    have x1 : (w1.alloc (.cells #[.int .i64 yk, .int .i64 yv, .string yt] 28)).cell? ⟨w.heap.size, 1, none⟩ = some (.int .i64 op) := hx1.cell 1
    have x2 : (w1.alloc (.cells #[.int .i64 yk, .int .i64 yv, .string yt] 28)).cell? ⟨w.heap.size, 2, none⟩ = some (.int .i64 k) := hx1.cell 2
    have x3 : (w1.alloc (.cells #[.int .i64 yk, .int .i64 yv, .string yt] 28)).cell? ⟨w.heap.size, 3, none⟩ = some (.int .i64 n) := hx1.cell 3
    have x4 : (w1.alloc (.cells #[.int .i64 yk, .int .i64 yv, .string yt] 28)).cell? ⟨w.heap.size, 4, none⟩ = some (.string x) := hx1.cell 4
    go_upto_region 2 with (fail)
    have hn := Blk.new w1 28 #[.int .i64 yk, .int .i64 yv, .string yt]
    have n0 := hn.cell 0
    have n1 := hn.cell 1
    have n2 := hn.cell 2
    generalize hw2 : w1.alloc (.cells #[.int .i64 yk, .int .i64 yv, .string yt] 28) = w2 at *
    clear hw2 hn hx1
    go_wp2_with fail
    refine (RefIs_calls (s, op, k, n, x) (yk, yv, yt) _).mono ?_
    rintro r w3 ⟨rfl, hb3⟩
    go_wp2
    go_ret
    exact ⟨by rw [HE.out]; rfl, hbw1.trans (hb3.mono hbw1.size)⟩
  · have HF : Hid (∀ W, evt e v W → Calls Try.prog 52 #[v, .string s] W fun r w' => r = .returned (.tuple #[vv 0 0 { data := #[] }, .bool false]) ∧ Below W.heap.size W w') := Lib.hid fun W h => by
      have := RefFind_evt s h hlen; rwa [hv] at this
    have HE : Hid (holdsT (s, op, k, n, x) e = false) := Lib.hid (by simp only [holdsT, hf])
    clear hf hv
    go_enter Try.func24, Try.ntmps24
    go_wp2_with fail
    refine (HF.out _ he0).mono ?_
    rintro r w1 ⟨rfl, hb1⟩
    have hbw := hb0.trans (hb1.mono hb0.size)
    go_wp2
    go_ret
    exact ⟨by rw [HE.out]; rfl, hbw.alloc hbw.size _⟩

set_option maxHeartbeats 2000000 in
set_option maxRecDepth 100000 in
theorem RefMatches_calls (A : Option Addr) (c : Nat) (l : List Tst) (e : List Att) (v : Value) (w : World) (B : Nat) (hR : Reads w B 5 A l.length (l.flatMap tstc)) (hB : B ≤ w.heap.size) (hll : l.length ≤ 1000000) (he : evt e v w) (hlen : e.length ≤ 1000000) :
    Calls Try.prog 20 #[.slice A l.length c, v] w fun r w' => r = .returned (.bool (matchesF l e)) ∧ Below w.heap.size w w' := by
  have HA := Lib.hid hR
  have HV := Lib.hid he
  clear hR he
  go_enter Try.func20, Try.ntmps20
  go_wp2_with fail
  go_loopw [5] (fun i wr => ∃ k : Nat, k ≤ l.length ∧ i = .int .i64 (k : Int) ∧ Hid (∀ t ∈ l.take k, holdsT t e = true) ∧ Below w.heap.size w wr) (fun i _ => l.length - (intOf i).toNat)
  case atStart => exact ⟨0, by omega, rfl, Lib.hid (by simp), Below.refl _ _⟩
  case round =>
    obtain ⟨k, hk, rfl, hall, hb⟩ := hrel
    by_cases hlt : k < l.length
    · have hki : (k : Int) < (l.length : Int) := by omega
      obtain ⟨b, off, rfl, hbB, hcell⟩ := HA.out.tsts (by omega)
      obtain ⟨e0, e1, e2, e3, e4⟩ := hcell k hlt
      have hbw : b < w.heap.size := Nat.lt_of_lt_of_le hbB hB
      have d0 := (hb.cell (p := ⟨b, off + k * 5, none⟩) hbw).trans e0
      have d1 := (hb.cell (p := ⟨b, off + k * 5 + 1, none⟩) hbw).trans e1
      have d2 := (hb.cell (p := ⟨b, off + k * 5 + 2, none⟩) hbw).trans e2
      have d3 := (hb.cell (p := ⟨b, off + k * 5 + 3, none⟩) hbw).trans e3
      have d4 := (hb.cell (p := ⟨b, off + k * 5 + 4, none⟩) hbw).trans e4
      have HT := Lib.hid (matches_take l e k hlt hall.out)
      have HBD := Lib.hid (matches_bad l e k hlt)
      have hz := hb.size
      clear e0 e1 e2 e3 e4 hcell
      generalize l[k] = x at *
      obtain ⟨xs, xo, xk, xn, xt⟩ := x
      simp only at d0 d1 d2 d3 d4
      have hev := Lib.hid (evt_st _ _ _ _ HV.out hb)
      go_wp2_with fail
      refine (RefHolds_calls (xs, xo, xk, xn, xt) e v _ hev.out hlen).mono ?_
      rintro r w2 ⟨rfl, hb2⟩
      have hbw2 : Below w.heap.size w w2 := hb.trans (hb2.mono hz)
      cases hh : holdsT (xs, xo, xk, xn, xt) e
      · have HE : Hid (matchesF l e = false) := Lib.hid (HBD.out hh)
        clear hh
        go_wp2
        go_ret
        exact ⟨by rw [HE.out]; rfl, hbw2⟩
      · have hr := Lib.hid (HT.out hh)
        clear hh
        go_wp2
        go_roundw
        case rel => exact ⟨k + 1, by omega, by go_num, hr, hbw2⟩
        case measure => simp [intOf]; omega
    · have hki : ¬ (k : Int) < (l.length : Int) := by omega
      have HE : Hid (matchesF l e = true) := Lib.hid (matches_good l e (by
        have := hall.out
        rwa [show k = l.length by omega] at this))
      go_wp2
      go_ret
      exact ⟨by rw [HE.out]; rfl, hb⟩
theorem RefMatches_flt {l : List Tst} {e : List Att} {vf ve : Value} {w : World} (hf : flt l vf w) (hll : l.length ≤ 1000000) (he : evt e ve w) (hlen : e.length ≤ 1000000) :
    Calls Try.prog 20 #[vf, ve] w fun r w' => r = .returned (.bool (matchesF l e)) ∧ Below w.heap.size w w' := by
  obtain ⟨A, c, rfl, hR⟩ := hf
  exact RefMatches_calls A c l e ve w _ hR (Nat.le_refl _) hll he hlen
end Go.Proofs.Ytejdbdfofehdpaa
