/-
  The walks of package value's Order and Begins. Conditions: none.
-/
import Derived.Test.YtejdbdfofehdpaaFiA
namespace Go.Proofs.Ytejdbdfofehdpaa
open Go Go.RowKit

theorem ret_i {k : IntKind} {a b : Int} (h : a = b) : Ending.returned (.int k a) = .returned (.int k b) := by rw [h]
theorem ret_b {a b : Bool} (h : a = b) : Ending.returned (.bool a) = .returned (.bool b) := by rw [h]

set_option maxHeartbeats 400000 in
theorem placeI_calls (a b : Int) (w : World) :
    Calls Try.prog 63 #[.int .i64 a, .int .i64 b] w fun e w' => e = .returned (.int .i64 (ordI a b)) ∧ w = w' := by
  by_cases h1 : a < b
  · have HE : Hid (ordI a b = -1) := Lib.hid (by simp [ordI, h1])
    go_enter Try.func63, Try.ntmps63
    go_wp2
    go_ret
    exact ⟨by rw [HE.out]; rfl, rfl⟩
  · by_cases h2 : b < a
    · have HE : Hid (ordI a b = 1) := Lib.hid (by simp [ordI, h1, h2])
      go_enter Try.func63, Try.ntmps63
      go_wp2
      go_ret
      exact ⟨by rw [HE.out]; rfl, rfl⟩
    · have HE : Hid (ordI a b = 0) := Lib.hid (by simp [ordI, h1, h2])
      go_enter Try.func63, Try.ntmps63
      go_wp2
      go_ret
      exact ⟨by rw [HE.out]; rfl, rfl⟩
set_option maxHeartbeats 400000 in
theorem placeL_calls (a b : Int) (w : World) :
    Calls Try.prog 64 #[.int .i64 a, .int .i64 b] w fun e w' => e = .returned (.int .i64 (ordI a b)) ∧ w = w' := by
  by_cases h1 : a < b
  · have HE : Hid (ordI a b = -1) := Lib.hid (by simp [ordI, h1])
    go_enter Try.func64, Try.ntmps64
    go_wp2
    go_ret
    exact ⟨by rw [HE.out]; rfl, rfl⟩
  · by_cases h2 : b < a
    · have HE : Hid (ordI a b = 1) := Lib.hid (by simp [ordI, h1, h2])
      go_enter Try.func64, Try.ntmps64
      go_wp2
      go_ret
      exact ⟨by rw [HE.out]; rfl, rfl⟩
    · have HE : Hid (ordI a b = 0) := Lib.hid (by simp [ordI, h1, h2])
      go_enter Try.func64, Try.ntmps64
      go_wp2
      go_ret
      exact ⟨by rw [HE.out]; rfl, rfl⟩
theorem ltS_gtr (a b : ByteArray) : (!(Op.bytesLess a.toList b.toList || a.toList == b.toList)) = ltS b a := by rw [ltS_tri]; simp
set_option maxHeartbeats 400000 in
theorem placeS_calls (a b : ByteArray) (w : World) :
    Calls Try.prog 65 #[.string a, .string b] w fun e w' => e = .returned (.int .i64 (ordS a b)) ∧ w = w' := by
  cases h1 : ltS a b
  · have h1' : Op.bytesLess a.toList b.toList = false := h1
    cases h2 : ltS b a
    · have h2' : (!(a.toList == b.toList)) = false := by have := ltS_gtr a b; rw [h1', h2] at this; simpa using this
      have HE : Hid (ordS a b = 0) := Lib.hid (by simp [ordS, h1, h2])
      clear h1 h2
      go_enter Try.func65, Try.ntmps65
      go_wp2
      go_ret
      exact ⟨by rw [HE.out]; rfl, rfl⟩
    · have h2' : (!(a.toList == b.toList)) = true := by have := ltS_gtr a b; rw [h1', h2] at this; simpa using this
      have HE : Hid (ordS a b = 1) := Lib.hid (by simp [ordS, h1, h2])
      clear h1 h2
      go_enter Try.func65, Try.ntmps65
      go_wp2
      go_ret
      exact ⟨by rw [HE.out]; rfl, rfl⟩
  · have h1' : Op.bytesLess a.toList b.toList = true := h1
    have HE : Hid (ordS a b = -1) := Lib.hid (by simp [ordS, h1])
    clear h1
    go_enter Try.func65, Try.ntmps65
    go_wp2
    go_ret
    exact ⟨by rw [HE.out]; rfl, rfl⟩

set_option maxHeartbeats 2000000 in
theorem Order_calls (a b : Vl) (w : World) :
    Calls Try.prog 40 #[vv a.1 a.2.1 a.2.2, vv b.1 b.2.1 b.2.2] w fun e w' => e = .returned (.int .i64 (ordV a b)) ∧ Below w.heap.size w w' := by
  obtain ⟨ka, na, sa⟩ := a
  obtain ⟨kb, nb, sb⟩ := b
  have hb2 : Below w.heap.size w ((w.alloc (.cells #[.int .i64 ka, .int .i64 na, .string sa] 28)).alloc (.cells #[.int .i64 kb, .int .i64 nb, .string sb] 28)) := ((Below.refl _ _).alloc (Nat.le_refl _) _).alloc (by simp) _
  have hx := (Blk.new w 28 #[.int .i64 ka, .int .i64 na, .string sa]).alloc (.cells #[.int .i64 kb, .int .i64 nb, .string sb] 28)
  have hy := Blk.new (w.alloc (.cells #[.int .i64 ka, .int .i64 na, .string sa] 28)) 28 #[.int .i64 kb, .int .i64 nb, .string sb]
  have HV : Hid (ordV (ka, na, sa) (kb, nb, sb) = if ordI ka kb != 0 then ordI ka kb else if ordI na nb != 0 then ordI na nb else ordS sa sb) := Lib.hid rfl
  go_enter Try.func40, Try.ntmps40
  go_wp2
  go_step3
  go_wp2_with fail
  go_step3
  generalize hW : ((w.alloc (.cells #[.int .i64 ka, .int .i64 na, .string sa] 28)).alloc (.cells #[.int .i64 kb, .int .i64 nb, .string sb] 28)) = W at *
  clear hW
  have x0 := hx.cell 0
  have x1 := hx.cell 1
  have x2 := hx.cell 2
  have y0 := hy.cell 0
  have y1 := hy.cell 1
  have y2 := hy.cell 2
  simp at x0 x1 x2 y0 y1 y2
  generalize hr0 : ordI ka kb = r0 at *
  generalize hr1 : ordI na nb = r1 at *
  generalize hr2 : ordS sa sb = r2 at *
  have HR0 := Lib.hid hr0
  have HR1 := Lib.hid hr1
  have HR2 := Lib.hid hr2
  clear hr0 hr1 hr2
  go_wp2_with fail
  go_loop [5, 7] (fun t i => ∃ k : Nat, k ≤ 3 ∧ i = .int .i64 (k : Int) ∧ t = .int .i64 0 ∧ Hid ((1 ≤ k → r0 = 0) ∧ (2 ≤ k → r1 = 0) ∧ (3 ≤ k → r2 = 0))) (fun _ i => 3 - (intOf i).toNat)
  case atStart => exact ⟨0, by omega, rfl, rfl, Lib.hid ⟨by omega, by omega, by omega⟩⟩
  case round =>
    obtain ⟨k, hk, rfl, rfl, hf⟩ := hrel
    rcases (by omega : k = 0 ∨ k = 1 ∨ k = 2 ∨ k = 3) with rfl | rfl | rfl | rfl
    · go_wp2_with fail
      refine (placeI_calls ka kb W).mono ?_
      rintro e w' ⟨rfl, rfl⟩
      rw [HR0.out]
      by_cases h0 : r0 = 0
      · have h0' : (r0 != 0) = false := by simp [h0]
        have HH := Lib.hid h0
        obtain rfl := h0
        go_wp2
        go_round
        case rel => exact ⟨1, by omega, rfl, rfl, Lib.hid (by refine ⟨?_, ?_, ?_⟩ <;> first | trivial | (intro _; rfl) | (intro _; exact hf.out.1 (by omega)) | (intro _; exact hf.out.2.1 (by omega)) | omega)⟩
        case measure => simp [intOf]
      · have h0' : (r0 != 0) = true := by simp [h0]
        have HE : Hid (ordV (ka, na, sa) (kb, nb, sb) = r0) := by
          have := HV.out
          rw [if_pos h0'] at this
          exact Lib.hid this
        clear h0
        go_wp2
        try rw [Exit.noGoto_ret]
        go_ret
        exact ⟨by rw [HE.out]; rfl, hb2⟩
    · go_wp2_with fail
      refine (placeL_calls na nb W).mono ?_
      rintro e w' ⟨rfl, rfl⟩
      rw [HR1.out]
      by_cases h0 : r1 = 0
      · obtain rfl := h0
        go_wp2
        go_round
        case rel => exact ⟨2, by omega, rfl, rfl, Lib.hid (by refine ⟨?_, ?_, ?_⟩ <;> first | trivial | (intro _; rfl) | (intro _; exact hf.out.1 (by omega)) | (intro _; exact hf.out.2.1 (by omega)) | omega)⟩
        case measure => simp [intOf]
      · have h0' : (r1 != 0) = true := by simp [h0]
        have HE : Hid (ordV (ka, na, sa) (kb, nb, sb) = r1) := by
          have := HV.out
          rw [if_neg (by simp [hf.out.1 (by omega)]), if_pos h0'] at this
          exact Lib.hid this
        clear h0
        go_wp2
        try rw [Exit.noGoto_ret]
        go_ret
        exact ⟨by rw [HE.out]; rfl, hb2⟩
    · have HE : Hid (ordV (ka, na, sa) (kb, nb, sb) = r2) := by
        have := HV.out
        rw [if_neg (by simp [hf.out.1 (by omega)]), if_neg (by simp [hf.out.2.1 (by omega)])] at this
        exact Lib.hid this
      go_wp2_with fail
      refine (placeS_calls sa sb W).mono ?_
      rintro e w' ⟨rfl, rfl⟩
      rw [HR2.out]
      by_cases h0 : r2 = 0
      · obtain rfl := h0
        go_wp2
        go_round
        case rel => exact ⟨3, by omega, rfl, rfl, Lib.hid (by refine ⟨?_, ?_, ?_⟩ <;> first | trivial | (intro _; rfl) | (intro _; exact hf.out.1 (by omega)) | (intro _; exact hf.out.2.1 (by omega)) | omega)⟩
        case measure => simp [intOf]
      · have h0' : (r2 != 0) = true := by simp [h0]
        clear h0
        go_wp2
        try rw [Exit.noGoto_ret]
        go_ret
        exact ⟨by rw [HE.out]; rfl, hb2⟩
    · have HE : Hid (ordV (ka, na, sa) (kb, nb, sb) = 0) := by
        have := HV.out
        rw [if_neg (by simp [hf.out.1 (by omega)]), if_neg (by simp [hf.out.2.1 (by omega)]), hf.out.2.2 (by omega)] at this
        exact Lib.hid this
      go_wp2
      try rw [Exit.noGoto_ret]
      go_ret
      exact ⟨by rw [HE.out]; rfl, hb2⟩

set_option maxHeartbeats 400000 in
theorem HasPrefix1_calls (a b : ByteArray) (w : World) :
    Calls Try.prog 74 #[.string a, .string b] w fun e w' => e = .returned (.bool (preB a b)) ∧ w = w' := by
  by_cases hl : b.size ≤ a.size
  · have hl' : (b.size : Int) ≤ (a.size : Int) := by omega
    have HE : Hid (preB a b = ((a.extract 0 b.size).toList == b.toList)) := Lib.hid (by simp [preB, hl])
    go_enter Try.func74, Try.ntmps74
    go_wp2
    go_ret
    exact ⟨by rw [HE.out]; rfl, rfl⟩
  · have hl' : ¬ (b.size : Int) ≤ (a.size : Int) := by omega
    have HE : Hid (preB a b = false) := Lib.hid (by simp [preB, hl])
    go_enter Try.func74, Try.ntmps74
    go_wp2
    go_ret
    exact ⟨by rw [HE.out]; rfl, rfl⟩
theorem HasPrefix_calls (a b : ByteArray) (w : World) :
    Calls Try.prog 66 #[.string a, .string b] w fun e w' => e = .returned (.bool (preB a b)) ∧ w = w' := by
  go_enter Try.func66, Try.ntmps66
  go_wp2_with fail
  refine (HasPrefix1_calls a b w).mono ?_
  rintro e w' ⟨rfl, rfl⟩
  go_wp2
  go_ret
  exact ⟨rfl, rfl⟩

set_option maxHeartbeats 400000 in
theorem Begins_calls (a b : Vl) (w : World) :
    Calls Try.prog 48 #[vv a.1 a.2.1 a.2.2, vv b.1 b.2.1 b.2.2] w fun e w' => e = .returned (.bool (begV a b)) ∧ Below w.heap.size w w' := by
  obtain ⟨ka, na, sa⟩ := a
  obtain ⟨kb, nb, sb⟩ := b
  have hb2 : Below w.heap.size w ((w.alloc (.cells #[.int .i64 ka, .int .i64 na, .string sa] 28)).alloc (.cells #[.int .i64 kb, .int .i64 nb, .string sb] 28)) := ((Below.refl _ _).alloc (Nat.le_refl _) _).alloc (by simp) _
  cases h1 : (ka == 2)
  · have HE : Hid (begV (ka, na, sa) (kb, nb, sb) = false) := Lib.hid (by simp [begV, h1])
    go_enter Try.func48, Try.ntmps48
    go_wp2
    go_ret
    exact ⟨by rw [HE.out]; rfl, hb2⟩
  · cases h2 : (kb == 2)
    · have HE : Hid (begV (ka, na, sa) (kb, nb, sb) = false) := Lib.hid (by simp [begV, h2])
      go_enter Try.func48, Try.ntmps48
      go_wp2
      go_ret
      exact ⟨by rw [HE.out]; rfl, hb2⟩
    · have HE : Hid (begV (ka, na, sa) (kb, nb, sb) = preB sa sb) := Lib.hid (by simp [begV, h1, h2])
      go_enter Try.func48, Try.ntmps48
      go_wp2_with fail
      refine (HasPrefix_calls sa sb _).mono ?_
      rintro e w' ⟨rfl, rfl⟩
      go_wp2
      go_ret
      exact ⟨by rw [HE.out]; rfl, hb2⟩
end Go.Proofs.Ytejdbdfofehdpaa
