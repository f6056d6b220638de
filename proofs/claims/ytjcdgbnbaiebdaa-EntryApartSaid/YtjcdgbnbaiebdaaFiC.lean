/-
  The walks of filter.One and filter.Check. Conditions: none.
-/
import Derived.Test.YtjcdgbnbaiebdaaFiA
set_option maxRecDepth 100000
namespace Go.Proofs.Ytjcdgbnbaiebdaa
open Go Go.RowKit

set_option maxHeartbeats 2000000 in
set_option maxRecDepth 100000 in
theorem One_calls (t : Tst) (w : World) :
    Calls Try.prog 75 #[tstv t] w fun e w' => e = .returned (.int .i64 (chkT t)) ∧ Below w.heap.size w w' := by
  obtain ⟨s, op, k, n, x⟩ := t
  have hb0 : Below w.heap.size w (w.alloc (.cells #[.string s, .int .i64 op, .int .i64 k, .int .i64 n, .string x] 116)) := (Below.refl _ _).alloc (Nat.le_refl _) _
  have hx0 := Blk.new w 116 #[.string s, .int .i64 op, .int .i64 k, .int .i64 n, .string x]
  have HT : Hid (okT (s, op, k, n, x) = (okName s && (if op == 8 then decide ((k, n, x) = (0, 0, (⟨#[]⟩ : ByteArray))) else if op == 7 then okV k n x && k == 2 else decide (1 ≤ op) && decide (op ≤ 8) && okV k n x))) := Lib.hid rfl
  have hbad : Hid (okT (s, op, k, n, x) = false → chkT (s, op, k, n, x) = 50) := Lib.hid (fun h => by simp [chkT, h])
  have hgood : Hid (okT (s, op, k, n, x) = true → chkT (s, op, k, n, x) = 0) := Lib.hid (fun h => by simp [chkT, h])
  go_enter Try.func75, Try.ntmps75
  go_wp2_with fail
  refine (Name_calls s _).mono ?_
  rintro e w' ⟨rfl, rfl⟩
  cases hn : okName s
  · have HE := Lib.hid (hbad.out (by rw [HT.out, hn]; rfl))
    go_wp2
    go_ret
    exact ⟨by rw [HE.out]; rfl, hb0⟩
  by_cases h1 : op < 1
  · have HE := Lib.hid (hbad.out (by
      rw [HT.out, if_neg (by simp; omega), if_neg (by simp; omega)]
      simp; omega))
    go_wp2
    go_ret
    exact ⟨by rw [HE.out]; rfl, hb0⟩
  by_cases h8 : 8 < op
  · have HE := Lib.hid (hbad.out (by
      rw [HT.out, if_neg (by simp; omega), if_neg (by simp; omega)]
      simp; omega))
    go_wp2
    go_ret
    exact ⟨by rw [HE.out]; rfl, hb0⟩
  go_wp2_with fail
  refine (Check_calls k n x _).mono ?_
  rintro e w2 ⟨rfl, hb2⟩
  have hx2 := hx0.below hb2 hx0.lt
  have hbw := hb0.trans (hb2.mono hb0.size)
  have x1 := hx2.cell 1
  have x2 := hx2.cell 2
  have x3 := hx2.cell 3
  have x4 := hx2.cell 4
  simp at x1 x2 x3 x4
  have HC : Hid ((chk k n x == 0) = okV k n x) := Lib.hid (by unfold chk; cases okV k n x <;> rfl)
  clear hb2 hb0 hx0
  by_cases e7 : op = 7
  · have HE : Hid (okT (s, op, k, n, x) = (okV k n x && k == 2)) := by
      refine Lib.hid ?_
      rw [HT.out, hn, if_neg (by simp; omega), if_pos (by simp; omega)]
      rfl
    have b7 : (op == 7) = true := by simp [e7]
    have b8 : (op == 8) = false := by simp [e7]
    clear e7 h1 h8
    cases hv : okV k n x
    · have hch : (chk k n x == 0) = false := by rw [HC.out, hv]
      have HF := Lib.hid (hbad.out (by rw [HE.out, hv]; rfl))
      go_wp2
      go_ret
      exact ⟨by rw [HF.out]; rfl, hbw⟩
    · have hch : (chk k n x == 0) = true := by rw [HC.out, hv]
      cases hk : (k == 2)
      · have HF := Lib.hid (hbad.out (by rw [HE.out, hv, hk]; rfl))
        go_wp2
        go_ret
        exact ⟨by rw [HF.out]; rfl, hbw⟩
      · have HF := Lib.hid (hgood.out (by rw [HE.out, hv, hk]; rfl))
        go_wp2
        go_ret
        exact ⟨by rw [HF.out]; rfl, hbw⟩
  · have b7 : (op == 7) = false := by simp [e7]
    by_cases e8 : op = 8
    · have HE : Hid (okT (s, op, k, n, x) = decide ((k, n, x) = (0, 0, (⟨#[]⟩ : ByteArray)))) := by
        refine Lib.hid ?_
        rw [HT.out, hn, if_pos (by simp; omega)]
        rfl
      have b8 : (op == 8) = true := by simp [e8]
      clear e8 h1 h8 e7
      have hev := eql_val k n 0 0 x ⟨#[]⟩
      generalize hd : decide ((k, n, x) = (0, 0, (⟨#[]⟩ : ByteArray))) = d at *
      have HD := Lib.hid hd
      clear hd
      cases d
      · have HF := Lib.hid (hbad.out (by rw [HE.out]))
        go_wp2
        go_ret
        exact ⟨by rw [HF.out]; rfl, hbw⟩
      · have HF := Lib.hid (hgood.out (by rw [HE.out]))
        go_wp2
        go_ret
        exact ⟨by rw [HF.out]; rfl, hbw⟩
    · have HE : Hid (okT (s, op, k, n, x) = okV k n x) := by
        refine Lib.hid ?_
        rw [HT.out, hn, if_neg (by simp; omega), if_neg (by simp; omega)]
        simp; omega
      have b8 : (op == 8) = false := by simp [e8]
      clear e8 h1 h8 e7
      cases hv : okV k n x
      · have hch : (chk k n x == 0) = false := by rw [HC.out, hv]
        have HF := Lib.hid (hbad.out (by rw [HE.out, hv]))
        go_wp2
        go_ret
        exact ⟨by rw [HF.out]; rfl, hbw⟩
      · have hch : (chk k n x == 0) = true := by rw [HC.out, hv]
        have HF := Lib.hid (hgood.out (by rw [HE.out, hv]))
        go_wp2
        go_ret
        exact ⟨by rw [HF.out]; rfl, hbw⟩

theorem okF_bad (l : List Tst) (k : Nat) (h : k < l.length) (hb : okT l[k] = false) : chkF l = 50 := by
  have : l.all okT = false := by rw [List.all_eq_false]; exact ⟨l[k], List.getElem_mem h, by simp [hb]⟩
  simp [chkF, okF, this]
theorem okF_good (l : List Tst) (h8 : l.length ≤ 8) (h : ∀ x ∈ l.take l.length, okT x = true) : chkF l = 0 := by
  rw [List.take_length] at h
  have : l.all okT = true := List.all_eq_true.2 h
  simp [chkF, okF, this, h8]
theorem allT_take (l : List Tst) (k : Nat) (h : k < l.length) (ha : ∀ x ∈ l.take k, okT x = true) (hb : okT l[k] = true) : ∀ x ∈ l.take (k + 1), okT x = true := by
  intro x hx
  rw [List.take_succ_eq_append_getElem h] at hx
  rcases List.mem_append.1 hx with hx | hx
  · exact ha x hx
  · simp at hx; rw [hx]; exact hb
theorem chkT_cases (t : Tst) : (chkT t = 0 ∧ okT t = true) ∨ (chkT t = 50 ∧ okT t = false) := by
  unfold chkT; cases okT t <;> simp

set_option maxHeartbeats 2000000 in
theorem FCheck_calls (A : Option Addr) (c : Nat) (l : List Tst) (w : World) (B : Nat) (hR : Reads w B 5 A l.length (l.flatMap tstc)) (hB : B ≤ w.heap.size) :
    Calls Try.prog 65 #[.slice A l.length c] w fun e w' => e = .returned (.int .i64 (chkF l)) ∧ Below w.heap.size w w' := by
  by_cases h8 : 8 < l.length
  · have h8' : (8 : Int) < (l.length : Int) := by omega
    have HE : Hid (chkF l = 50) := Lib.hid (by simp [chkF, okF, show ¬ l.length ≤ 8 by omega])
    clear hR
    generalize l.length = n at *
    go_enter Try.func65, Try.ntmps65
    go_wp2
    go_ret
    exact ⟨by rw [HE.out]; rfl, Below.refl _ _⟩
  have h8' : ¬ (8 : Int) < (l.length : Int) := by omega
  have HA := Lib.hid hR
  clear hR
  go_enter Try.func65, Try.ntmps65
  go_wp2_with fail
  go_loopw [11] (fun i wr => ∃ k : Nat, k ≤ l.length ∧ i = .int .i64 (k : Int) ∧ Hid (∀ x ∈ l.take k, okT x = true) ∧ Below w.heap.size w wr) (fun i _ => l.length - (intOf i).toNat)
  case atStart => exact ⟨0, by omega, rfl, Lib.hid (by simp), Below.refl _ _⟩
  case round =>
    obtain ⟨k, hk, rfl, hall, hb⟩ := hrel
    by_cases hlt : k < l.length
    · have hki : (k : Int) < (l.length : Int) := by omega
      obtain ⟨b, off, rfl, hbB, hcell⟩ := HA.out.tsts (by omega)
      obtain ⟨e0, e1, e2, e3, e4⟩ := hcell k hlt
      have hbw : b < w.heap.size := Nat.lt_of_lt_of_le hbB hB
      have d0 := (hb.cell (p := ⟨b, off + k * 5, none⟩) hbw).trans e0
      have d1 := (hb.cell (p := ⟨b, off + k * 5 + 1, none⟩) hbw).trans e1
      have d2 := (hb.cell (p := ⟨b, off + k * 5 + 2, none⟩) hbw).trans e2
      have d3 := (hb.cell (p := ⟨b, off + k * 5 + 3, none⟩) hbw).trans e3
      have d4 := (hb.cell (p := ⟨b, off + k * 5 + 4, none⟩) hbw).trans e4
      have HT := Lib.hid (allT_take l k hlt hall.out)
      have HBD := Lib.hid (okF_bad l k hlt)
      have hz := hb.size
      clear e0 e1 e2 e3 e4 hcell
      generalize l[k] = x at *
      obtain ⟨xs, xo, xk, xn, xt⟩ := x
      simp only at d0 d1 d2 d3 d4
      go_wp2_with fail
      refine (One_calls (xs, xo, xk, xn, xt) _).mono ?_
      rintro e w2 ⟨rfl, hb2⟩
      have hbw2 : Below w.heap.size w w2 := (hb.alloc hz _).trans (hb2.mono (by simp; omega))
      rcases chkT_cases (xs, xo, xk, xn, xt) with ⟨hc, ho⟩ | ⟨hc, ho⟩
      · have hne : (chkT (xs, xo, xk, xn, xt) != 0) = false := by rw [hc]; rfl
        have hr := Lib.hid (HT.out ho)
        clear hc ho
        go_wp2
        go_roundw
        case rel => exact ⟨k + 1, by omega, by go_num, hr, hbw2⟩
        case measure => simp [intOf]; omega
      · have hne : (chkT (xs, xo, xk, xn, xt) != 0) = true := by rw [hc]; rfl
        have HE : Hid (chkF l = 50) := Lib.hid (HBD.out ho)
        have HC := Lib.hid hc
        clear hc ho
        go_wp2
        go_ret
        exact ⟨by rw [HE.out, ← HC.out]; rfl, hbw2⟩
    · have hki : ¬ (k : Int) < (l.length : Int) := by omega
      have HE : Hid (chkF l = 0) := Lib.hid (okF_good l (by omega) (by
        have := hall.out
        rwa [show k = l.length by omega] at this))
      go_wp2
      go_ret
      exact ⟨by rw [HE.out]; rfl, hb⟩
theorem FCheck_flt {l : List Tst} {v : Value} {w : World} (h : flt l v w) : Calls Try.prog 65 #[v] w fun e w' => e = .returned (.int .i64 (chkF l)) ∧ Below w.heap.size w w' := by
  obtain ⟨A, c, rfl, hR⟩ := h
  exact FCheck_calls A c l w _ hR (Nat.le_refl _)
end Go.Proofs.Ytjcdgbnbaiebdaa
