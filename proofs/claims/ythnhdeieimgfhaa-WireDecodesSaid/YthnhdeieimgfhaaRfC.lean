/-
  The walks of the document's One and Check of filters. Conditions: none.
-/
import Derived.Test.YthnhdeieimgfhaaFA
import Derived.Test.YthnhdeieimgfhaaRevA
import Derived.Test.YthnhdeieimgfhaaRefB
namespace Go.Proofs.Ythnhdeieimgfhaa
open Go Go.RowKit

set_option maxHeartbeats 4000000 in
set_option maxRecDepth 100000 in
theorem RefOne_calls (t : Tst) (w : World) (hsz : t.1.size ≤ 1000000000) :
    Calls Try.prog 136 #[tstv t] w fun e w' => e = .returned (.int .i64 (chkT t)) ∧ Below w.heap.size w w' := by
  obtain ⟨s, op, k, n, x⟩ := t
  have hb0 : Below w.heap.size w (w.alloc (.cells #[.string s, .int .i64 op, .int .i64 k, .int .i64 n, .string x] 162)) := (Below.refl _ _).alloc (Nat.le_refl _) _
  have hx0 := Blk.new w 162 #[.string s, .int .i64 op, .int .i64 k, .int .i64 n, .string x]
  have HT : Hid (chkT (s, op, k, n, x) = if (okName s && (if op == 8 then decide ((k, n, x) = (0, 0, (⟨#[]⟩ : ByteArray))) else if op == 7 then okV k n x && k == 2 else decide (1 ≤ op) && decide (op ≤ 8) && okV k n x)) = true then 0 else 50) := Lib.hid rfl
  go_enter Try.func136, Try.ntmps136
  go_wp2_with fail
  refine (RefName_calls s _ hsz).mono ?_
  rintro e w' ⟨rfl, rfl⟩
  go_wp2_with fail
  refine (RefCheck_calls k n x _).mono ?_
  rintro e w2 ⟨rfl, hb2⟩
  have hx2 := hx0.below hb2 hx0.lt
  have hbw := hb0.trans (hb2.mono hb0.size)
  have x1 := hx2.cell 1
  have x2 := hx2.cell 2
  have x3 := hx2.cell 3
  have x4 := hx2.cell 4
  simp at x1 x2 x3 x4
  have HC : Hid ((chk k n x == 0) = okV k n x) := Lib.hid (by unfold chk; cases okV k n x <;> rfl)
  have hev := eql_val k n 0 0 x ⟨#[]⟩
  clear hb2 hb0 hx0
  generalize hn : okName s = nm at *
  generalize hv : okV k n x = vl at *
  generalize hk : (k == 2) = kk at *
  generalize hd : decide ((k, n, x) = (0, 0, (⟨#[]⟩ : ByteArray))) = d at *
  have hch : (chk k n x == 0) = vl := HC.out
  have HHn := Lib.hid hn
  have HHv := Lib.hid hv
  have HHk := Lib.hid hk
  have HHd := Lib.hid hd
  have HHc := Lib.hid hch
  have HHe := Lib.hid hev
  clear hn hv hk hd hch hev HC
  by_cases e8 : op = 8
  · have b8 : (op == 8) = true := by simp [e8]
    have b7 : (op == 7) = false := by simp [e8]
    have b1 : (1 : Int) ≤ op := by omega
    have b9 : op ≤ (8 : Int) := by omega
    clear e8
    cases nm <;> cases d
    all_goals
      have hk' := HHk.out
      have hch := HHc.out
      have hev := HHe.out
      go_wp2
      go_ret
      exact ⟨by rw [HT.out, b8]; rfl, hbw⟩
  · have b8 : (op == 8) = false := by simp [e8]
    by_cases e7 : op = 7
    · have b7 : (op == 7) = true := by simp [e7]
      have b1 : (1 : Int) ≤ op := by omega
      have b9 : op ≤ (8 : Int) := by omega
      clear e8 e7
      cases nm <;> cases vl <;> cases kk
      all_goals
        have hk' := HHk.out
        have hch := HHc.out
        go_wp2
        go_ret
        exact ⟨by rw [HT.out, b8, b7]; rfl, hbw⟩
    · have b7 : (op == 7) = false := by simp [e7]
      by_cases h1 : op < 1
      · have HI : Hid (decide (1 ≤ op) = false) := Lib.hid (by simp; omega)
        clear e8 e7
        cases nm <;> cases vl
        all_goals
          have hch := HHc.out
          go_wp2
          go_ret
          exact ⟨by rw [HT.out, b8, b7, HI.out]; rfl, hbw⟩
      · have HI : Hid (decide (1 ≤ op) = true) := Lib.hid (by simp; omega)
        by_cases h8 : 8 < op
        · have HJ : Hid (decide (op ≤ 8) = false) := Lib.hid (by simp; omega)
          clear e8 e7
          cases nm <;> cases vl
          all_goals
            have hch := HHc.out
            go_wp2
            go_ret
            exact ⟨by rw [HT.out, b8, b7, HI.out, HJ.out]; rfl, hbw⟩
        · have HJ : Hid (decide (op ≤ 8) = true) := Lib.hid (by simp; omega)
          clear e8 e7
          cases nm <;> cases vl
          all_goals
            have hch := HHc.out
            go_wp2
            go_ret
            exact ⟨by rw [HT.out, b8, b7, HI.out, HJ.out]; rfl, hbw⟩

set_option maxHeartbeats 2000000 in
theorem RefFCheck_calls (A : Option Addr) (c : Nat) (l : List Tst) (w : World) (B : Nat) (hR : Reads w B 5 A l.length (l.flatMap tstc)) (hB : B ≤ w.heap.size) (hlen : l.length ≤ 1000000) (hsz : ∀ x ∈ l, x.1.size ≤ 1000000000) :
    Calls Try.prog 122 #[.slice A l.length c] w fun e w' => e = .returned (.int .i64 (chkF l)) ∧ Below w.heap.size w w' := by
  by_cases h8 : 8 < l.length
  · have h8' : (8 : Int) < (l.length : Int) := by omega
    have HE : Hid (chkF l = 50) := Lib.hid (by simp [chkF, okF, show ¬ l.length ≤ 8 by omega])
    clear hR
    generalize l.length = n at *
    go_enter Try.func122, Try.ntmps122
    go_wp2
    go_ret
    exact ⟨by rw [HE.out]; rfl, Below.refl _ _⟩
  have h8' : ¬ (8 : Int) < (l.length : Int) := by omega
  have HA := Lib.hid hR
  have HS := Lib.hid hsz
  clear hR hsz
  go_enter Try.func122, Try.ntmps122
  go_wp2_with fail
  go_loopw [3] (fun i wr => ∃ k : Nat, k ≤ l.length ∧ i = .int .i64 (k : Int) ∧ Hid (∀ x ∈ l.take k, okT x = true) ∧ Below w.heap.size w wr) (fun i _ => l.length - (intOf i).toNat)
  case atStart => exact ⟨0, by omega, rfl, Lib.hid (by simp), Below.refl _ _⟩
  case round =>
    obtain ⟨k, hk, rfl, hall, hb⟩ := hrel
    by_cases hlt : k < l.length
    · have hki : (k : Int) < (l.length : Int) := by omega
      obtain ⟨b, off, rfl, hbB, hcell⟩ := HA.out.tsts (by omega)
      obtain ⟨e0, e1, e2, e3, e4⟩ := hcell k hlt
      have hbw : b < w.heap.size := Nat.lt_of_lt_of_le hbB hB
      have d0 := (hb.cell (p := ⟨b, off + k * 5, none⟩) hbw).trans e0
      have d1 := (hb.cell (p := ⟨b, off + k * 5 + 1, none⟩) hbw).trans e1
      have d2 := (hb.cell (p := ⟨b, off + k * 5 + 2, none⟩) hbw).trans e2
      have d3 := (hb.cell (p := ⟨b, off + k * 5 + 3, none⟩) hbw).trans e3
      have d4 := (hb.cell (p := ⟨b, off + k * 5 + 4, none⟩) hbw).trans e4
      have HT := Lib.hid (allT_take l k hlt hall.out)
      have HBD := Lib.hid (okF_bad l k hlt)
      have hss := HS.out _ (List.getElem_mem hlt)
      have hz := hb.size
      clear e0 e1 e2 e3 e4 hcell
      generalize l[k] = x at *
      obtain ⟨xs, xo, xk, xn, xt⟩ := x
      simp only at d0 d1 d2 d3 d4 hss
      go_wp2_with fail
      refine (RefOne_calls (xs, xo, xk, xn, xt) _ hss).mono ?_
      rintro e w2 ⟨rfl, hb2⟩
      have hbw2 : Below w.heap.size w w2 := hb.trans (hb2.mono hz)
      rcases chkT_cases (xs, xo, xk, xn, xt) with ⟨hc, ho⟩ | ⟨hc, ho⟩
      · have hne : (chkT (xs, xo, xk, xn, xt) != 0) = false := by rw [hc]; rfl
        have hr := Lib.hid (HT.out ho)
        clear hc ho
        go_wp2
        go_roundw
        case rel => exact ⟨k + 1, by omega, by go_num, hr, hbw2⟩
        case measure => simp [intOf]; omega
      · have hne : (chkT (xs, xo, xk, xn, xt) != 0) = true := by rw [hc]; rfl
        have HE : Hid (chkF l = 50) := Lib.hid (HBD.out ho)
        clear hc ho
        go_wp2
        go_ret
        exact ⟨by rw [HE.out]; rfl, hbw2⟩
    · have hki : ¬ (k : Int) < (l.length : Int) := by omega
      have HE : Hid (chkF l = 0) := Lib.hid (okF_good l (by omega) (by
        have := hall.out
        rwa [show k = l.length by omega] at this))
      go_wp2
      go_ret
      exact ⟨by rw [HE.out]; rfl, hb⟩
theorem RefFCheck_flt {l : List Tst} {v : Value} {w : World} (h : flt l v w) (hlen : l.length ≤ 1000000) (hsz : ∀ x ∈ l, x.1.size ≤ 1000000000) : Calls Try.prog 122 #[v] w fun e w' => e = .returned (.int .i64 (chkF l)) ∧ Below w.heap.size w w' := by
  obtain ⟨A, c, rfl, hR⟩ := h
  exact RefFCheck_calls A c l w _ hR (Nat.le_refl _) hlen hsz
end Go.Proofs.Ythnhdeieimgfhaa
