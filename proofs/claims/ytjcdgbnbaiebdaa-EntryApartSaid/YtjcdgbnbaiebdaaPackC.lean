/-
  The walks of pack.New and of the reader's methods Wrong, Done, Number, Bytes and Value: what each returns, how the reader stands behind it, and that nothing else that was there is changed.
-/
import Derived.Test.YtjcdgbnbaiebdaaPackB
namespace Go.Proofs.Ytjcdgbnbaiebdaa
open Go Go.RowKit

/-- A reader: its block, what is left, whether something was wrong. -/
def Rd (w : World) (g : Nat) (l : List UInt8) (wr : Bool) : Prop :=
  ∃ A c, Blk w g 120 #[.slice A l.length c, .bool wr] ∧ Reads w g 1 A l.length (bys l) ∧ l.length ≤ c ∧ c ≤ 2199023255552

/-- The number of bytes, the highest first. -/
def ofBe (l : List UInt8) : Nat := l.foldl (fun n b => n * 256 + b.toNat) 0

/-- What a reader's Number tells, what is left, and whether something is wrong. -/
def rdN (l : List UInt8) (wr : Bool) : Nat × List UInt8 × Bool :=
  match l with
  | [] => (0, l, true)
  | b :: r =>
    if wr || decide (8 < b.toNat) || decide (r.length < b.toNat) || (decide (0 < b.toNat) && r.head? == some 0) then (0, l, true)
    else (ofBe (r.take b.toNat), r.drop b.toNat, false)

set_option maxHeartbeats 400000 in
theorem New_calls (A : Option Addr) (n c : Nat) (l : List UInt8) (w : World) (B : Nat) (hR : Reads w B 1 A n (bys l)) (hB : B ≤ w.heap.size) (hn : n ≤ 1000000000) :
    Calls Try.prog 55 #[.slice A n c] w fun e w' =>
      ∃ g, e = .returned (.pointer (some ⟨g, 0, none⟩)) ∧ w.heap.size ≤ g ∧ Rd w' g l false ∧ Below w.heap.size w w' := by
  have hl : l.length = n := by simpa using hR.len
  subst hl
  go_enter Try.func55, Try.ntmps55
  go_wp2_with fail
  refine (own_calls A _ c l 0 w B hR hB (by omega) (by omega) (by omega)).mono ?_
  rintro e w1 ⟨g, cap, rfl, ho, hb, hc1, hc2⟩
  go_wp2
  go_ret
  refine ⟨w1.heap.size, rfl, hb.size, ⟨_, _, Blk.new _ _ _, ?_, ?_, ?_⟩, hb.alloc hb.size _⟩
  · exact (Reads.of_own ho).below (Below.alloc (Below.refl _ _) (Nat.le_refl _) _) (Nat.le_refl _)
  · exact hc1
  · exact hc2

theorem len0 (l : List UInt8) : ((l.length : Int) == 0) = l.isEmpty := by cases l <;> simp; omega

theorem Done_calls (g : Nat) (l : List UInt8) (wr : Bool) (w : World) (h : Rd w g l wr) :
    Calls Try.prog 62 #[.pointer (some ⟨g, 0, none⟩)] w fun e w' => e = .returned (.bool (!wr && l.isEmpty)) ∧ w = w' := by
  obtain ⟨A, c, hb, hr, h1, h2⟩ := h
  have hc := hb.cell 1
  have hc0 := hb.cell 0
  simp at hc hc0
  cases wr
  · go_enter Try.func62, Try.ntmps62
    go_wp2
    go_ret
    exact ⟨by show Ending.returned (.bool _) = _; rw [len0]; rfl, rfl⟩
  · go_enter Try.func62, Try.ntmps62
    go_wp2
    go_ret
    exact ⟨rfl, rfl⟩

/-- How the reader stands behind a call: only its block, and what is new, has changed. -/
def Went (g : Nat) (l : List UInt8) (wr : Bool) (w w' : World) : Prop := Rd w' g l wr ∧ w.grownBy w' (some g)

set_option maxHeartbeats 400000 in
theorem RNumber_wrong (g : Nat) (l : List UInt8) (wr : Bool) (w : World) (h : Rd w g l wr) (hw : (rdN l wr).2.2 = true) :
    Calls Try.prog 58 #[.pointer (some ⟨g, 0, none⟩)] w fun e w' => e = .returned (.int .u64 0) ∧ Went g l true w w' := by
  obtain ⟨A, c, hb, hr, h1, h2⟩ := h
  have hc := hb.cell 1
  have hc0 := hb.cell 0
  have hf1 := hb.frozen 1
  simp at hc hc0
  have hend : ∀ W : World, W = w.setCell ⟨g, 1, none⟩ (.bool true) → Went g l true w W := by
    rintro W rfl
    refine ⟨⟨A, c, hb.set_ 1 _, ?_, h1, h2⟩, mut_set (mut_refl _ _) rfl _⟩
    exact hr.keep fun k hk => Below.heap_setCell w _ _ k (by simp; omega)
  cases wr
  · cases l with
    | nil =>
      go_enter Try.func58, Try.ntmps58
      go_wp2
      refine wp_scope_fwd 0 rfl ?_
      go_wp2
      go_step3
      refine ⟨rfl, ?_⟩
      go_wp2
      rw [Exit.noGoto_ret]
      go_ret
      exact ⟨rfl, hend _ rfl⟩
    | cons b r =>
      obtain ⟨bb, off, rfl, hbb, hcell⟩ := hr.2 (by simp)
      have hc1 : w.cell? ⟨bb, off, none⟩ = some (.int .u8 (b.toNat : Int)) := hcell 0 _ (by simp [bys])
      simp only [List.length_cons] at hc0 h1 hb
      have h256 : b.toNat < 256 := b.toNat_lt
      by_cases h8 : 8 < b.toNat
      · have h8' : (8 : Int) < (b.toNat : Int) := by omega
        go_enter Try.func58, Try.ntmps58
        go_wp2
        refine wp_scope_fwd 0 rfl ?_
        go_wp2
        go_step3
        refine ⟨rfl, ?_⟩
        go_wp2
        rw [Exit.noGoto_ret]
        go_ret
        exact ⟨rfl, hend _ rfl⟩
      · have h8' : ¬ (8 : Int) < (b.toNat : Int) := by omega
        have hbl : b.toNat ≤ 8 := by omega
        by_cases h9 : r.length < b.toNat
        · have h9' : (r.length : Int) + 1 < 1 + (b.toNat : Int) := by omega
          go_enter Try.func58, Try.ntmps58
          go_wp2
          refine wp_scope_fwd 0 rfl ?_
          go_wp2
          go_step3
          refine ⟨rfl, ?_⟩
          go_wp2
          rw [Exit.noGoto_ret]
          go_ret
          exact ⟨rfl, hend _ rfl⟩
        · have h9' : ¬ (r.length : Int) + 1 < 1 + (b.toNat : Int) := by omega
          cases r with
          | nil =>
            have h0 : b.toNat = 0 := by simp at h9; omega
            simp [rdN, h0] at hw
          | cons x r =>
            have hx : (x == 0) = true ∧ 0 < b.toNat := by
              simp only [rdN] at hw
              split at hw
              · rename_i hq
                simp [h8] at hq
                rcases hq with hq | hq
                · simp at h9; omega
                · simp [hq.2]; omega
              · simp at hw
            obtain ⟨hx, hb0⟩ := hx
            have hx : x = 0 := by simpa using hx
            subst hx
            have hc2 : w.cell? ⟨bb, off + 1, none⟩ = some (.int .u8 0) := hcell 1 _ (by simp [bys])
            clear hcell
            have hb0' : (0 : Int) < (b.toNat : Int) := by omega
            simp only [List.length_cons] at hc0 h1 hb h9' h9
            go_enter Try.func58, Try.ntmps58
            go_wp2
            refine wp_scope_fwd 0 rfl ?_
            go_wp2
            go_step3
            refine ⟨rfl, ?_⟩
            go_wp2
            rw [Exit.noGoto_ret]
            go_ret
            exact ⟨rfl, hend _ rfl⟩
  · go_enter Try.func58, Try.ntmps58
    go_wp2
    refine wp_scope_fwd 0 rfl ?_
    go_wp2
    go_step3
    refine ⟨rfl, ?_⟩
    go_wp2
    rw [Exit.noGoto_ret]
    go_ret
    exact ⟨rfl, hend _ rfl⟩

theorem Reads.at_ {w : World} {B : Nat} {A : Option Addr} {l : List UInt8} {n : Nat} (h : Reads w B 1 A n (bys l)) (h0 : 0 < l.length) :
    ∃ b off, A = some ⟨b, off, none⟩ ∧ b < B ∧ ∀ j (hj : j < l.length), w.cell? ⟨b, off + j, none⟩ = some (.int .u8 (l[j].toNat : Int)) := by
  obtain ⟨b, off, e, hb, hc⟩ := h.2 (by simpa using h0)
  exact ⟨b, off, e, hb, fun j hj => hc j _ (bys_get l j hj)⟩

theorem ofBe_snoc (l : List UInt8) (b : UInt8) : ofBe (l ++ [b]) = ofBe l * 256 + b.toNat := by simp [ofBe]
theorem ofBe_lt (l : List UInt8) : ofBe l < 256 ^ l.length := by
  induction h : l.length generalizing l with
  | zero => simp [List.eq_nil_of_length_eq_zero h, ofBe]
  | succ n ih =>
    have hne : l ≠ [] := by rintro rfl; simp at h
    rw [← List.dropLast_concat_getLast hne, ofBe_snoc]
    have := ih l.dropLast (by simp [h])
    have hb := (l.getLast hne).toNat_lt
    rw [Nat.pow_succ]
    omega

set_option maxHeartbeats 1000000 in
theorem RNumber_right (g : Nat) (b : UInt8) (r : List UInt8) (w : World) (h : Rd w g (b :: r) false) (h8 : b.toNat ≤ 8) (hl : b.toNat ≤ r.length) (hx : 0 < b.toNat → ∃ x r', r = x :: r' ∧ 0 < x.toNat) :
    Calls Try.prog 58 #[.pointer (some ⟨g, 0, none⟩)] w fun e w' => e = .returned (.int .u64 (ofBe (r.take b.toNat) : Nat)) ∧ Went g (r.drop b.toNat) false w w' := by
  obtain ⟨A, c, hb, hr, h1, h2⟩ := h
  have hc := hb.cell 1
  have hc0 := hb.cell 0
  have hf0 := hb.frozen 0
  simp at hc hc0
  obtain ⟨bb, off, rfl, hbb, hcell⟩ := hr.at_ (by simp)
  have hc1 := hcell 0 (by simp)
  simp at hc1
  have H1 := Lib.hid hcell
  clear hcell
  simp only [List.length_cons] at hc0 h1 hb
  generalize hN : b.toNat = N at *
  have HN := Lib.hid hN
  clear hN
  have h8' : ¬ (8 : Int) < (N : Int) := by omega
  have h9' : ¬ (r.length : Int) + 1 < 1 + (N : Int) := by omega
  have hend : ∀ (A' : Option Addr) (m c' : Nat), m = r.length - N → (0 < m → A' = some ⟨bb, off + (1 + N), none⟩) → m ≤ c' → c' ≤ c → Went g (r.drop N) false w (w.setCell ⟨g, 0, none⟩ (.slice A' m c')) := by
    rintro A' m c' rfl hA hm hc'
    have hb' := hb.set_ 0 (.slice A' (r.length - N) c')
    refine ⟨⟨A', c', by simpa using hb', ⟨by simp, fun h0 => ?_⟩, by simpa using hm, by omega⟩, mut_set (mut_refl _ _) rfl _⟩
    simp at h0
    refine ⟨bb, off + (1 + N), hA (by omega), hbb, fun j u hu => ?_⟩
    rw [World.cell?_setCell_other _ _ _ _ (by intro e; injection e; omega)]
    have hj : j < (r.drop N).length := by
      have := (List.getElem?_eq_some_iff.1 hu).1
      simpa using this
    rw [bys_get _ _ hj] at hu
    injection hu with hu
    rw [← hu, List.getElem_drop]
    simp at hj
    have := H1.out (1 + N + j) (by simp; omega)
    rw [show off + (1 + N) + j = off + (1 + N + j) by omega, this]
    simp [show 1 + N + j = (N + j) + 1 by omega]
  by_cases hN0 : 0 < N
  · obtain ⟨x, r', rfl, hx0⟩ := hx hN0
    have hc2 := H1.out 1 (by simp)
    simp at hc2
    have hxb : ((x.toNat : Int) == 0) = false := by simp; omega
    have hNi : (0 : Int) < (N : Int) := by omega
    generalize hR : x :: r' = r at *
    have HR := Lib.hid hR
    clear hR
    go_enter Try.func58, Try.ntmps58
    go_wp2
    go_step3
    go_wp2_with fail
    go_loop [3, 51] (fun n i => ∃ k : Nat, k ≤ N ∧ i = .int .i64 (k : Int) ∧ n = .int .u64 (ofBe (r.take k) : Nat)) (fun _ i => N - (intOf i).toNat)
    case atStart => exact ⟨0, by omega, rfl, rfl⟩
    case round =>
      obtain ⟨k, hk, rfl, rfl⟩ := hrel
      by_cases hlt : k < N
      · have hki : (k : Int) < (N : Int) := by omega
        have hck : w.cell? ⟨bb, off + (1 + k), none⟩ = some (.int .u8 (r[k].toNat : Int)) := by
          have := H1.out (1 + k) (by simp; omega)
          simpa [Nat.add_comm 1 k] using this
        have hb7 : ofBe (r.take k) < 72057594037927936 := by
          have := ofBe_lt (r.take k)
          have h2 : (r.take k).length ≤ 7 := by simp; omega
          have h3 : 256 ^ (r.take k).length ≤ 256 ^ 7 := Nat.pow_le_pow_right (by decide) h2
          omega
        generalize hv : ofBe (r.take k) = v at *
        have htk : ofBe (r.take (k + 1)) = v * 256 + r[k].toNat := by
          rw [List.take_succ_eq_append_getElem (by omega), ofBe_snoc, hv]
        have hx256 : r[k].toNat < 256 := r[k].toNat_lt
        have hor : bits BinOp.or IntKind.u64 ((v : Int) * 256) (r[k].toNat : Int) = ((v * 256 + r[k].toNat : Nat) : Int) := by
          rw [show (v : Int) * 256 = ((v * 256 : Nat) : Int) by simp, u64_or_nat _ _ (by omega) (by omega), nat_join 8 _ _ (by omega) (by omega)]
        have HV := Lib.hid hv
        have HT := Lib.hid htk
        have HO := Lib.hid hor
        clear hv htk hor
        go_wp2
        go_round
        case rel => exact ⟨k + 1, by omega, by go_num, by rw [HO.out, HT.out]⟩
        case measure => simp [intOf]; omega
      · have hki : ¬ (k : Int) < (N : Int) := by omega
        have hkN : k = N := by omega
        subst hkN
        go_wp2
        all_goals
          go_ret
          refine ⟨rfl, hend _ _ _ (by omega) (fun hpos => ?_) (by omega) (by omega)⟩
          first | rfl | omega
  · obtain rfl : N = 0 := by omega
    have hNi : ¬ (0 : Int) < ((0 : Nat) : Int) := by omega
    go_enter Try.func58, Try.ntmps58
    go_wp2
    go_step3
    go_wp2_with fail
    refine wp_loop_rounds 1 ?_
    rw [rounds_succ]
    go_wp2
    all_goals
      go_ret
      refine ⟨rfl, hend _ _ _ (by omega) (fun hpos => ?_) (by omega) (by omega)⟩
      first | rfl | omega

/-- The reader's Number, whatever it stands at. -/
theorem RNumber_calls (g : Nat) (l : List UInt8) (wr : Bool) (w : World) (h : Rd w g l wr) :
    Calls Try.prog 58 #[.pointer (some ⟨g, 0, none⟩)] w fun e w' => e = .returned (.int .u64 ((rdN l wr).1 : Nat)) ∧ Went g (rdN l wr).2.1 (rdN l wr).2.2 w w' := by
  by_cases hw : (rdN l wr).2.2 = true
  · have e : rdN l wr = (0, l, true) := by
      unfold rdN at hw ⊢
      split at hw
      · rfl
      · split at hw
        · rename_i hq; simp [hq]
        · simp at hw
    rw [e]
    exact RNumber_wrong g l wr w h hw
  · match l, h, hw with
    | [], _, hw => simp [rdN] at hw
    | b :: r, h, hw =>
      have hq : (wr || decide (8 < b.toNat) || decide (r.length < b.toNat) || (decide (0 < b.toNat) && r.head? == some 0)) = false := by
        cases hq : (wr || decide (8 < b.toNat) || decide (r.length < b.toNat) || (decide (0 < b.toNat) && r.head? == some 0))
        · rfl
        · simp only [rdN, hq] at hw; simp at hw
      have e : rdN (b :: r) wr = (ofBe (r.take b.toNat), r.drop b.toNat, false) := by simp only [rdN, hq]; rfl
      rw [e]
      simp at hq
      obtain ⟨⟨⟨rfl, h8⟩, h9⟩, h10⟩ := hq
      refine RNumber_right g b r w h h8 h9 fun h0 => ?_
      have := h10 h0
      match r, h9, this with
      | [], h9, _ => simp at h9; omega
      | x :: r', _, h11 =>
        refine ⟨x, r', rfl, ?_⟩
        rcases Nat.eq_zero_or_pos x.toNat with h | h
        · exact absurd (by simpa using UInt8.toNat_inj.1 (show x.toNat = (0 : UInt8).toNat from h)) h11
        · exact h
end Go.Proofs.Ytjcdgbnbaiebdaa
