/-
  The walks of the reader's methods Bytes and Value: what each returns, how the reader stands behind it, and that nothing else that was there is changed.
-/
import Derived.Test.YtjcdgbnbaiebdaaPackC
namespace Go.Proofs.Ytjcdgbnbaiebdaa
open Go Go.RowKit

/-- What a reader's Bytes tells, what is left, and whether something is wrong. -/
def rdB (most : Int) (l : List UInt8) (wr : Bool) : List UInt8 × List UInt8 × Bool :=
  if (rdN l wr).2.2 || decide (most < 0) || decide (most.toNat < (rdN l wr).1) || decide ((rdN l wr).2.1.length < (rdN l wr).1) then ([], (rdN l wr).2.1, true)
  else ((rdN l wr).2.1.take (rdN l wr).1, (rdN l wr).2.1.drop (rdN l wr).1, false)

theorem rdN_len (l : List UInt8) (wr : Bool) : (rdN l wr).2.1.length ≤ l.length := by
  unfold rdN
  split
  · simp
  · split
    · simp
    · simp; omega
theorem rdN_lt (l : List UInt8) (wr : Bool) : (rdN l wr).1 < 18446744073709551616 := by
  unfold rdN
  split
  · simp
  · rename_i b r
    split
    · simp
    · rename_i hq
      simp at hq
      have h1 := ofBe_lt (r.take b.toNat)
      have h2 : (r.take b.toNat).length ≤ 8 := by simp; omega
      have h3 : 256 ^ (r.take b.toNat).length ≤ 256 ^ 8 := Nat.pow_le_pow_right (by decide) h2
      show ofBe (r.take b.toNat) < _
      omega

theorem Rd.wrongly {w : World} {g : Nat} {l : List UInt8} {wr : Bool} (h : Rd w g l wr) : Went g l true w (w.setCell ⟨g, 1, none⟩ (.bool true)) := by
  obtain ⟨A, c, hb, hr, h1, h2⟩ := h
  refine ⟨⟨A, c, hb.set_ 1 _, ?_, h1, h2⟩, mut_set (mut_refl _ _) rfl _⟩
  exact hr.keep fun k hk => Below.heap_setCell w _ _ k (by simp; omega)

set_option maxHeartbeats 1000000 in
theorem RBytes_calls (g : Nat) (l : List UInt8) (wr : Bool) (most : Int) (w : World) (h : Rd w g l wr) (hl : l.length ≤ 1000000000) (hm0 : -9223372036854775808 ≤ most) (hm1 : most ≤ 9223372036854775807) :
    Calls Try.prog 60 #[.pointer (some ⟨g, 0, none⟩), .int .i64 most] w fun e w' =>
      ∃ v, e = .returned v ∧ Own w' w.heap.size 5 v (rdB most l wr).1 ∧ Went g (rdB most l wr).2.1 (rdB most l wr).2.2 w w' := by
  have hnum := RNumber_calls g l wr w h
  have hlen := rdN_len l wr
  have hlt := rdN_lt l wr
  unfold rdB
  generalize rdN l wr = R at *
  obtain ⟨n, l1, w1⟩ := R
  simp only at hnum hlen hlt ⊢
  have HN := Lib.hid hnum
  clear hnum h
  by_cases hbad : (w1 || decide (most < 0) || decide (most.toNat < n) || decide (l1.length < n)) = true
  · rw [hbad]
    have hfin : ∀ W, Rd W g l1 w1 → w.grownBy W (some g) → Own (W.setCell ⟨g, 1, none⟩ (.bool true)) w.heap.size 5 (.slice none 0 0) [] ∧ Went g l1 true w (W.setCell ⟨g, 1, none⟩ (.bool true)) := by
      intro W hrd hgr
      obtain ⟨h1, h2⟩ := hrd.wrongly
      exact ⟨World.ownsRow_nil _ _ _ _, h1, mut_trans hgr h2⟩
    cases w1
    · by_cases h1 : most < 0
      · go_enter Try.func60, Try.ntmps60
        go_wp2
        refine wp_scope_fwd 0 rfl ?_
        go_wp2_with fail
        refine HN.out.mono ?_
        rintro e w2 ⟨rfl, hrd, hgr⟩
        obtain ⟨h9, h10⟩ := hfin w2 hrd hgr
        obtain ⟨A, c, hb, hr, hc1, hc2⟩ := hrd
        have hx0 := hb.cell 0
        have hx1 := hb.cell 1
        have hf1 := hb.frozen 1
        simp at hx0 hx1
        go_wp2
        go_step3
        refine ⟨rfl, ?_⟩
        go_wp2
        rw [Exit.noGoto_ret]
        go_ret
        exact ⟨_, rfl, h9, h10⟩

      · by_cases h2 : most.toNat < n
        · obtain ⟨m, rfl⟩ := Int.eq_ofNat_of_zero_le (show 0 ≤ most by omega)
          have h2' : (m : Int) < (n : Int) := by omega
          go_enter Try.func60, Try.ntmps60
          go_wp2
          refine wp_scope_fwd 0 rfl ?_
          go_wp2_with fail
          refine HN.out.mono ?_
          rintro e w2 ⟨rfl, hrd, hgr⟩
          obtain ⟨h9, h10⟩ := hfin w2 hrd hgr
          obtain ⟨A, c, hb, hr, hc1, hc2⟩ := hrd
          have hx0 := hb.cell 0
          have hx1 := hb.cell 1
          have hf1 := hb.frozen 1
          simp at hx0 hx1
          go_wp2
          go_step3
          refine ⟨rfl, ?_⟩
          go_wp2
          rw [Exit.noGoto_ret]
          go_ret
          exact ⟨_, rfl, h9, h10⟩
        · have h3 : l1.length < n := by simpa [h1, h2] using hbad
          obtain ⟨m, rfl⟩ := Int.eq_ofNat_of_zero_le (show 0 ≤ most by omega)
          have h2' : ¬ (m : Int) < (n : Int) := by omega
          have h3' : (l1.length : Int) < (n : Int) := by omega
          go_enter Try.func60, Try.ntmps60
          go_wp2
          refine wp_scope_fwd 0 rfl ?_
          go_wp2_with fail
          refine HN.out.mono ?_
          rintro e w2 ⟨rfl, hrd, hgr⟩
          obtain ⟨h9, h10⟩ := hfin w2 hrd hgr
          obtain ⟨A, c, hb, hr, hc1, hc2⟩ := hrd
          have hx0 := hb.cell 0
          have hx1 := hb.cell 1
          have hf1 := hb.frozen 1
          simp at hx0 hx1
          go_wp2
          go_step3
          refine ⟨rfl, ?_⟩
          go_wp2
          rw [Exit.noGoto_ret]
          go_ret
          exact ⟨_, rfl, h9, h10⟩
    · go_enter Try.func60, Try.ntmps60
      go_wp2
      refine wp_scope_fwd 0 rfl ?_
      go_wp2_with fail
      refine HN.out.mono ?_
      rintro e w2 ⟨rfl, hrd, hgr⟩
      obtain ⟨h9, h10⟩ := hfin w2 hrd hgr
      obtain ⟨A, c, hb, hr, hc1, hc2⟩ := hrd
      have hx0 := hb.cell 0
      have hx1 := hb.cell 1
      have hf1 := hb.frozen 1
      simp at hx0 hx1
      go_wp2
      go_step3
      refine ⟨rfl, ?_⟩
      go_wp2
      rw [Exit.noGoto_ret]
      go_ret
      exact ⟨_, rfl, h9, h10⟩
  · have hbad : (w1 || decide (most < 0) || decide (most.toNat < n) || decide (l1.length < n)) = false := by simpa using hbad
    rw [hbad]
    simp at hbad
    obtain ⟨⟨⟨rfl, h1⟩, h2⟩, h3⟩ := hbad
    obtain ⟨m, rfl⟩ := Int.eq_ofNat_of_zero_le h1
    simp at h2
    have h2' : (n : Int) ≤ (m : Int) := by omega
    have h3' : (n : Int) ≤ (l1.length : Int) := by omega
    go_enter Try.func60, Try.ntmps60
    go_wp2
    go_step3
    go_wp2_with fail
    refine HN.out.mono ?_
    rintro e w2 ⟨rfl, ⟨A, c, hb, hr, hc1, hc2⟩, hgr⟩
    have hx0 := hb.cell 0
    have hx1 := hb.cell 1
    simp at hx0 hx1
    go_wp2_with fail
    refine (own_calls A n c (l1.take n) 0 w2 g (hr.pre n h3) (Nat.le_of_lt hb.lt) (by omega) (by omega) (by omega)).mono ?_
    rintro e w3 ⟨g3, cap3, rfl, ho, hb3, _, _⟩
    have hb' := hb.below hb3 hb.lt
    have hr' := hr.below hb3 (Nat.le_of_lt hb.lt)
    have hy0 := hb'.cell 0
    have hf0 := hb'.frozen 0
    simp at hy0
    have hfin : ∀ (A' : Option Addr) (c' : Nat), (n < l1.length → A' = A.map (·.add n)) → l1.length - n ≤ c' → c' ≤ c →
        Own (w3.setCell ⟨g, 0, none⟩ (.slice A' (l1.length - n) c')) w.heap.size 5 (.slice (some ⟨g3, 0, none⟩) n cap3) (l1.take n) ∧ Went g (l1.drop n) false w (w3.setCell ⟨g, 0, none⟩ (.slice A' (l1.length - n) c')) := by
      intro A' c' hA h4 h5
      refine ⟨?_, ⟨A', c', ?_, ?_, by simpa using h4, by omega⟩, mut_set (mut_trans hgr (mut_of_below hb3 _)) rfl _⟩
      · have h6 := ownsRow_setCell_below (a := ⟨g, 0, none⟩) ho hb.lt (.slice A' (l1.length - n) c')
        refine own_base hgr.size ?_ rfl
        unfold Own
        rw [show (l1.take n).length = n by simp; omega]
        exact h6
      · have h7 := hb'.set_ 0 (.slice A' (l1.length - n) c')
        simpa using h7
      · have h8 := hr'.post (A' := A') n hA
        rw [List.length_drop]
        exact h8.keep fun k hk => Below.heap_setCell w3 _ _ k (by simp; omega)
    go_wp2
    all_goals
      go_ret
      refine ⟨_, rfl, hfin _ _ (fun hlt2 => ?_) (by omega) (by omega)⟩
      first | rfl | omega

def toI64 (n : Nat) : Int := ((n : Int) + 9223372036854775808) % 18446744073709551616 - 9223372036854775808

/-- What a reader's Value tells, what is left, and whether something is wrong. -/
def rdVn (k n : Nat) : Int := if k = 1 then unfoldI n else toI64 n
def rdV (l : List UInt8) (wr : Bool) : (Int × Int × List UInt8) × List UInt8 × Bool :=
  let a := rdN l wr
  let b := rdN a.2.1 a.2.2
  let s := rdB 40 b.2.1 b.2.2
  if decide (3 < a.1) || s.2.2 || !(okV a.1 (rdVn a.1 b.1) ⟨s.1.toArray⟩) then ((0, 0, []), s.2.1, true)
  else ((a.1, rdVn a.1 b.1, s.1), s.2.1, false)

theorem rdB_len (most : Int) (l : List UInt8) (wr : Bool) : (rdB most l wr).2.1.length ≤ l.length := by
  have := rdN_len l wr
  unfold rdB
  split
  · exact this
  · simp; omega

/-- The value of a datum. -/
abbrev vd (d : Int × Int × List UInt8) : Value := vv d.1 d.2.1 ⟨d.2.2.toArray⟩

theorem Rd.below {w w' : World} {g B : Nat} {l : List UInt8} {wr : Bool} (h : Rd w g l wr) (hb : Below B w w') (hg : g < B) : Rd w' g l wr := by
  obtain ⟨A, c, hk, hr, h1, h2⟩ := h
  exact ⟨A, c, hk.below hb hg, hr.below hb (by omega), h1, h2⟩
theorem Rd.mut {w w' : World} {g g' : Nat} {l : List UInt8} {wr : Bool} (h : Rd w g l wr) (hb : w.grownBy w' (some g')) (hg : g < g') : Rd w' g l wr := by
  have hz : g < w.heap.size := by obtain ⟨_, _, hb, _⟩ := h; exact hb.lt
  by_cases hz' : g' ≤ w.heap.size
  · exact h.below (below_of_mut hb (Nat.le_refl g') hz') hg
  · exact h.below (B := w.heap.size) ⟨hb.os, hb.tape, hb.output, hb.size, fun i hi => hb.block i hi (by intro e; injection e with e; omega)⟩ hz
theorem Rd.lt {w : World} {g : Nat} {l : List UInt8} {wr : Bool} (h : Rd w g l wr) : g < w.heap.size := by obtain ⟨_, _, hb, _⟩ := h; exact hb.lt

set_option maxHeartbeats 2000000 in
set_option maxRecDepth 100000 in
theorem RValue_calls (g : Nat) (l : List UInt8) (wr : Bool) (w : World) (h : Rd w g l wr) (hl : l.length ≤ 1000000000) :
    Calls Try.prog 73 #[.pointer (some ⟨g, 0, none⟩)] w fun e w' =>
      e = .returned (vd (rdV l wr).1) ∧ Went g (rdV l wr).2.1 (rdV l wr).2.2 w w' := by
  have hg := h.lt
  have c1 := fun W (hW : Rd W g l wr) => RNumber_calls g l wr W hW
  have c2 := fun W (hW : Rd W g (rdN l wr).2.1 (rdN l wr).2.2) => RNumber_calls g _ _ W hW
  have c3 := fun W (hW : Rd W g (rdN (rdN l wr).2.1 (rdN l wr).2.2).2.1 (rdN (rdN l wr).2.1 (rdN l wr).2.2).2.2) => RBytes_calls g _ _ 40 W hW (by have := rdN_len l wr; have := rdN_len (rdN l wr).2.1 (rdN l wr).2.2; omega) (by omega) (by omega)
  have b1 := rdN_lt l wr
  have b2 := rdN_lt (rdN l wr).2.1 (rdN l wr).2.2
  simp only [rdV]
  generalize rdN l wr = a at *
  obtain ⟨k, l1, w1⟩ := a
  simp only at *
  generalize rdN l1 w1 = a at *
  obtain ⟨n, l2, w2⟩ := a
  simp only at *
  generalize rdB 40 l2 w2 = a at *
  obtain ⟨s, l3, w3⟩ := a
  simp only at *
  have C1 := Lib.hid c1
  have C2 := Lib.hid c2
  have C3 := Lib.hid c3
  clear c1 c2 c3
  have hW0 : Below w.heap.size w (w.alloc (.cells #[.int .i64 0, .int .i64 0, .string { data := #[] }] 76)) := (Below.refl _ _).alloc (Nat.le_refl _) _
  have hx0 := Blk.new w 76 #[.int .i64 0, .int .i64 0, .string { data := #[] }]
  have h0 := h.below hW0 hg
  clear h
  go_enter Try.func73, Try.ntmps73
  go_wp2
  refine wp_scope_fwd 0 rfl ?_
  go_wp2_with fail
  refine (C1.out _ h0).mono ?_
  rintro e W1 ⟨rfl, hr1, hg1⟩
  have hx1 := hx0.grown hg1 (by simp; omega)
  clear hx0 h0
  go_wp2_with fail
  refine (C2.out _ hr1).mono ?_
  rintro e W2 ⟨rfl, hr2, hg2⟩
  have hx2 := hx1.grown hg2 (by simp; omega)
  clear hx1 hr1
  go_wp2_with fail
  refine (C3.out _ hr2).mono ?_
  rintro e W3 ⟨v3, rfl, ho3, hr3, hg3⟩
  have hx3 := hx2.grown hg3 (by simp; omega)
  clear hx2 hr2
  obtain ⟨A3, k3, rfl, hR3⟩ := ho3.slice
  have hst := run_str (P := Try.prog) W3 46 9 5 Try.underlying46 Try.underlying5 Try.underlying9 _ A3 _ k3 s hR3
  clear ho3
  by_cases h3 : 3 < k
  · have h3' : (3 : Int) < (k : Int) := by omega
    have hr4 := hr3.below (Below.alloc (Below.refl _ W3) (Nat.le_refl _) (.cells #[.int .i64 0, .int .i64 (wrap64 (n : Int)), .string { data := s.toArray }] 76)) hr3.lt
    have hx4 := hx3.alloc (.cells #[.int .i64 0, .int .i64 (wrap64 (n : Int)), .string { data := s.toArray }] 76)
    have hgr : w.grownBy (W3.alloc (.cells #[.int .i64 0, .int .i64 (wrap64 (n : Int)), .string { data := s.toArray }] 76)) (some g) := mut_alloc (mut_trans (mut_trans (mut_trans (mut_alloc (mut_refl _ _) _) hg1) hg2) hg3) _
    go_wp2
    generalize W3.alloc _ = W4 at *
    have hif : (if (decide (3 < k) || w3 || !(okV (k : Int) (rdVn k n) ⟨s.toArray⟩)) = true then (((0, 0, []), l3, true) : (Int × Int × List UInt8) × List UInt8 × Bool) else (((k : Int), rdVn k n, s), l3, false)) = ((0, 0, []), l3, true) := by simp [h3]
    go_step3
    refine ⟨rfl, ?_⟩
    have hy0 := hx4.cell 0
    have hy1 := hx4.cell 1
    have hy2 := hx4.cell 2
    have hz0 := hx4.frozen 0
    have hz1 := hx4.frozen 1
    have hz2 := hx4.frozen 2
    simp at hy0 hy1 hy2
    obtain ⟨A4, c4, hb4, _⟩ := id hr4
    have hq1 := hb4.cell 1
    have hf1 := hb4.frozen 1
    simp at hq1
    go_wp2
    have hx5 := (((hx4.far (p := ⟨g, 1, none⟩) (by simp; omega) (.bool true)).set_ 0 (.int .i64 0)).set_ 1 (.int .i64 0)).set_ 2 (.string { data := #[] })
    have e0 := hx5.cell 0
    have e1 := hx5.cell 1
    have e2 := hx5.cell 2
    simp at e0 e1 e2
    have hw := hr4.wrongly
    rw [Exit.noGoto_ret]
    refine bodyPost_ret (v := vd (0, 0, [])) (by simp [results, Try.results73, go_sem, e0, e1, e2]) rfl ?_
    rw [hif]
    refine ⟨rfl, ?_, ?_⟩
    · exact Rd.below (B := w.heap.size) hw.1 ((((Below.refl _ _).setCell (by simp) _).setCell (by simp) _).setCell (by simp) _) hg
    · exact mut_new (mut_new (mut_new (mut_trans hgr hw.2) (by simp) _) (by simp) _) (by simp) _
  · have h3' : ¬ (3 : Int) < (k : Int) := by omega
    have hk3 : (k : Int) ≤ 3 := by omega
    generalize hN : rdVn k n = N at *
    have HN := Lib.hid hN
    clear hN
    by_cases h1 : k = 1
    · have h1' : ((k : Int) == 1) = true := by simp; omega
      have HU : Hid (unfoldI n = N) := by rw [← HN.out]; exact Lib.hid (by simp [rdVn, h1])
      clear h1
      have hr4 := hr3.below (Below.alloc (Below.refl _ W3) (Nat.le_refl _) (.cells #[.int .i64 (k : Int), .int .i64 N, .string { data := s.toArray }] 76)) hr3.lt
      have hx4 := hx3.alloc (.cells #[.int .i64 (k : Int), .int .i64 N, .string { data := s.toArray }] 76)
      have hgr : w.grownBy (W3.alloc (.cells #[.int .i64 (k : Int), .int .i64 N, .string { data := s.toArray }] 76)) (some g) := mut_alloc (mut_trans (mut_trans (mut_trans (mut_alloc (mut_refl _ _) _) hg1) hg2) hg3) _
      cases hw3 : w3
      · subst hw3
        obtain ⟨A5, c5, hb5, _⟩ := id hr3
        have hq1 := fun o => (hb5.alloc o).cell 1
        simp at hq1
        go_wp2_with fail
        refine (unfold_calls n _ b2).mono ?_
        rintro e w' ⟨rfl, rfl⟩
        rw [HU.out]
        go_wp2_with fail
        refine (Check_calls k N ⟨s.toArray⟩ _).mono ?_
        rintro e W5 ⟨rfl, hb6⟩
        have hr4 := hr4.below hb6 (by have := hr3.lt; simp; omega)
        have hx4 := hx4.below hb6 hx4.lt
        have hgr := mut_trans hgr (mut_of_below hb6 _)
        have hv6 := (Blk.new W3 76 #[.int .i64 (k : Int), .int .i64 N, .string { data := s.toArray }]).below hb6 (by simp)
        have hz3 := hx3.lt
        have hb7 := hb6.size
        simp only [World.size_alloc] at hb7
        clear hb6
        by_cases hok : okV (k : Int) N ⟨s.toArray⟩ = true
        · have hch : (chk (k : Int) N ⟨s.toArray⟩ != 0) = false := by simp [chk, hok]
          have hy0 := hx4.cell 0
          have hy1 := hx4.cell 1
          have hy2 := hx4.cell 2
          have hz0 := hx4.frozen 0
          have hz1 := hx4.frozen 1
          have hz2 := hx4.frozen 2
          have hv0 := hv6.cell 0
          have hv1 := hv6.cell 1
          have hv2 := hv6.cell 2
          simp at hy0 hy1 hy2 hv0 hv1 hv2
          go_wp2
          have hx5 := ((hx4.set_ 0 (.int .i64 (k : Int))).set_ 1 (.int .i64 N)).set_ 2 (.string { data := s.toArray })
          have e0 := hx5.cell 0
          have e1 := hx5.cell 1
          have e2 := hx5.cell 2
          simp at e0 e1 e2
          simp only [Exit.jump]
          refine bodyPost_ret (v := vd (k, N, s)) (by simp [results, Try.results73, go_sem, e0, e1, e2]) rfl ?_
          have hif : (if (decide (3 < k) || false || !(okV (k : Int) N ⟨s.toArray⟩)) = true then (((0, 0, []), l3, true) : (Int × Int × List UInt8) × List UInt8 × Bool) else (((k : Int), N, s), l3, false)) = (((k : Int), N, s), l3, false) := by simp [h3, hok]
          rw [HN.out, hif]
          refine ⟨rfl, ?_, ?_⟩
          · exact Rd.below (B := w.heap.size) hr4 ((((Below.refl _ _).setCell (by simp) _).setCell (by simp) _).setCell (by simp) _) hg
          · exact mut_new (mut_new (mut_new hgr (by simp) _) (by simp) _) (by simp) _
        · have hok : okV (k : Int) N ⟨s.toArray⟩ = false := by simpa using hok
          have hch : (chk (k : Int) N ⟨s.toArray⟩ != 0) = true := by simp [chk, hok]
          have hv0 := hv6.cell 0
          have hv1 := hv6.cell 1
          have hv2 := hv6.cell 2
          simp at hv0 hv1 hv2
          go_wp2
          have hif : (if (decide (3 < k) || false || !(okV (k : Int) N ⟨s.toArray⟩)) = true then (((0, 0, []), l3, true) : (Int × Int × List UInt8) × List UInt8 × Bool) else (((k : Int), N, s), l3, false)) = ((0, 0, []), l3, true) := by simp [hok]
          go_step3
          refine ⟨rfl, ?_⟩
          have hy0 := hx4.cell 0
          have hy1 := hx4.cell 1
          have hy2 := hx4.cell 2
          have hz0 := hx4.frozen 0
          have hz1 := hx4.frozen 1
          have hz2 := hx4.frozen 2
          simp at hy0 hy1 hy2
          obtain ⟨A4, c4, hb4, _⟩ := id hr4
          have hq1 := hb4.cell 1
          have hf1 := hb4.frozen 1
          simp at hq1
          go_wp2
          have hx5 := (((hx4.far (p := ⟨g, 1, none⟩) (by simp; omega) (.bool true)).set_ 0 (.int .i64 0)).set_ 1 (.int .i64 0)).set_ 2 (.string { data := #[] })
          have e0 := hx5.cell 0
          have e1 := hx5.cell 1
          have e2 := hx5.cell 2
          simp at e0 e1 e2
          have hw := hr4.wrongly
          rw [Exit.noGoto_ret]
          refine bodyPost_ret (v := vd (0, 0, [])) (by simp [results, Try.results73, go_sem, e0, e1, e2]) rfl ?_
          rw [HN.out, hif]
          refine ⟨rfl, ?_, ?_⟩
          · exact Rd.below (B := w.heap.size) hw.1 ((((Below.refl _ _).setCell (by simp) _).setCell (by simp) _).setCell (by simp) _) hg
          · exact mut_new (mut_new (mut_new (mut_trans hgr hw.2) (by simp) _) (by simp) _) (by simp) _
      · subst hw3
        obtain ⟨A5, c5, hb5, _⟩ := id hr3
        have hq1 := fun o => (hb5.alloc o).cell 1
        simp at hq1
        go_wp2_with fail
        refine (unfold_calls n _ b2).mono ?_
        rintro e w' ⟨rfl, rfl⟩
        rw [HU.out]
        go_wp2_with fail
        go_wp2
        generalize W3.alloc _ = W4 at *
        have hif : (if (decide (3 < k) || true || !(okV (k : Int) N ⟨s.toArray⟩)) = true then (((0, 0, []), l3, true) : (Int × Int × List UInt8) × List UInt8 × Bool) else (((k : Int), N, s), l3, false)) = ((0, 0, []), l3, true) := by simp
        go_step3
        refine ⟨rfl, ?_⟩
        have hy0 := hx4.cell 0
        have hy1 := hx4.cell 1
        have hy2 := hx4.cell 2
        have hz0 := hx4.frozen 0
        have hz1 := hx4.frozen 1
        have hz2 := hx4.frozen 2
        simp at hy0 hy1 hy2
        obtain ⟨A4, c4, hb4, _⟩ := id hr4
        have hq1 := hb4.cell 1
        have hf1 := hb4.frozen 1
        simp at hq1
        go_wp2
        have hx5 := (((hx4.far (p := ⟨g, 1, none⟩) (by simp; omega) (.bool true)).set_ 0 (.int .i64 0)).set_ 1 (.int .i64 0)).set_ 2 (.string { data := #[] })
        have e0 := hx5.cell 0
        have e1 := hx5.cell 1
        have e2 := hx5.cell 2
        simp at e0 e1 e2
        have hw := hr4.wrongly
        rw [Exit.noGoto_ret]
        refine bodyPost_ret (v := vd (0, 0, [])) (by simp [results, Try.results73, go_sem, e0, e1, e2]) rfl ?_
        rw [HN.out, hif]
        refine ⟨rfl, ?_, ?_⟩
        · exact Rd.below (B := w.heap.size) hw.1 ((((Below.refl _ _).setCell (by simp) _).setCell (by simp) _).setCell (by simp) _) hg
        · exact mut_new (mut_new (mut_new (mut_trans hgr hw.2) (by simp) _) (by simp) _) (by simp) _
    · have h1' : ((k : Int) == 1) = false := by simp; omega
      have HU : Hid (wrap64 (n : Int) = N) := by rw [← HN.out]; exact Lib.hid (by simp [rdVn, h1, toI64, wrap64])
      clear h1
      have hr4 := hr3.below (Below.alloc (Below.refl _ W3) (Nat.le_refl _) (.cells #[.int .i64 (k : Int), .int .i64 N, .string { data := s.toArray }] 76)) hr3.lt
      have hx4 := hx3.alloc (.cells #[.int .i64 (k : Int), .int .i64 N, .string { data := s.toArray }] 76)
      have hgr : w.grownBy (W3.alloc (.cells #[.int .i64 (k : Int), .int .i64 N, .string { data := s.toArray }] 76)) (some g) := mut_alloc (mut_trans (mut_trans (mut_trans (mut_alloc (mut_refl _ _) _) hg1) hg2) hg3) _
      cases hw3 : w3
      · subst hw3
        obtain ⟨A5, c5, hb5, _⟩ := id hr3
        have hq1 := fun o => (hb5.alloc o).cell 1
        simp at hq1
        go_wp2_with fail
        simp only [HU.out]
        refine (Check_calls k N ⟨s.toArray⟩ _).mono ?_
        rintro e W5 ⟨rfl, hb6⟩
        have hr4 := hr4.below hb6 (by have := hr3.lt; simp; omega)
        have hx4 := hx4.below hb6 hx4.lt
        have hgr := mut_trans hgr (mut_of_below hb6 _)
        have hv6 := (Blk.new W3 76 #[.int .i64 (k : Int), .int .i64 N, .string { data := s.toArray }]).below hb6 (by simp)
        have hz3 := hx3.lt
        have hb7 := hb6.size
        simp only [World.size_alloc] at hb7
        clear hb6
        by_cases hok : okV (k : Int) N ⟨s.toArray⟩ = true
        · have hch : (chk (k : Int) N ⟨s.toArray⟩ != 0) = false := by simp [chk, hok]
          have hy0 := hx4.cell 0
          have hy1 := hx4.cell 1
          have hy2 := hx4.cell 2
          have hz0 := hx4.frozen 0
          have hz1 := hx4.frozen 1
          have hz2 := hx4.frozen 2
          have hv0 := hv6.cell 0
          have hv1 := hv6.cell 1
          have hv2 := hv6.cell 2
          simp at hy0 hy1 hy2 hv0 hv1 hv2
          go_wp2
          have hx5 := ((hx4.set_ 0 (.int .i64 (k : Int))).set_ 1 (.int .i64 N)).set_ 2 (.string { data := s.toArray })
          have e0 := hx5.cell 0
          have e1 := hx5.cell 1
          have e2 := hx5.cell 2
          simp at e0 e1 e2
          simp only [Exit.jump]
          refine bodyPost_ret (v := vd (k, N, s)) (by simp [results, Try.results73, go_sem, e0, e1, e2]) rfl ?_
          have hif : (if (decide (3 < k) || false || !(okV (k : Int) N ⟨s.toArray⟩)) = true then (((0, 0, []), l3, true) : (Int × Int × List UInt8) × List UInt8 × Bool) else (((k : Int), N, s), l3, false)) = (((k : Int), N, s), l3, false) := by simp [h3, hok]
          rw [HN.out, hif]
          refine ⟨rfl, ?_, ?_⟩
          · exact Rd.below (B := w.heap.size) hr4 ((((Below.refl _ _).setCell (by simp) _).setCell (by simp) _).setCell (by simp) _) hg
          · exact mut_new (mut_new (mut_new hgr (by simp) _) (by simp) _) (by simp) _
        · have hok : okV (k : Int) N ⟨s.toArray⟩ = false := by simpa using hok
          have hch : (chk (k : Int) N ⟨s.toArray⟩ != 0) = true := by simp [chk, hok]
          have hv0 := hv6.cell 0
          have hv1 := hv6.cell 1
          have hv2 := hv6.cell 2
          simp at hv0 hv1 hv2
          go_wp2
          have hif : (if (decide (3 < k) || false || !(okV (k : Int) N ⟨s.toArray⟩)) = true then (((0, 0, []), l3, true) : (Int × Int × List UInt8) × List UInt8 × Bool) else (((k : Int), N, s), l3, false)) = ((0, 0, []), l3, true) := by simp [hok]
          go_step3
          refine ⟨rfl, ?_⟩
          have hy0 := hx4.cell 0
          have hy1 := hx4.cell 1
          have hy2 := hx4.cell 2
          have hz0 := hx4.frozen 0
          have hz1 := hx4.frozen 1
          have hz2 := hx4.frozen 2
          simp at hy0 hy1 hy2
          obtain ⟨A4, c4, hb4, _⟩ := id hr4
          have hq1 := hb4.cell 1
          have hf1 := hb4.frozen 1
          simp at hq1
          go_wp2
          have hx5 := (((hx4.far (p := ⟨g, 1, none⟩) (by simp; omega) (.bool true)).set_ 0 (.int .i64 0)).set_ 1 (.int .i64 0)).set_ 2 (.string { data := #[] })
          have e0 := hx5.cell 0
          have e1 := hx5.cell 1
          have e2 := hx5.cell 2
          simp at e0 e1 e2
          have hw := hr4.wrongly
          rw [Exit.noGoto_ret]
          refine bodyPost_ret (v := vd (0, 0, [])) (by simp [results, Try.results73, go_sem, e0, e1, e2]) rfl ?_
          rw [HN.out, hif]
          refine ⟨rfl, ?_, ?_⟩
          · exact Rd.below (B := w.heap.size) hw.1 ((((Below.refl _ _).setCell (by simp) _).setCell (by simp) _).setCell (by simp) _) hg
          · exact mut_new (mut_new (mut_new (mut_trans hgr hw.2) (by simp) _) (by simp) _) (by simp) _
      · subst hw3
        obtain ⟨A5, c5, hb5, _⟩ := id hr3
        have hq1 := fun o => (hb5.alloc o).cell 1
        simp at hq1
        go_wp2_with fail
        simp only [HU.out]
        go_wp2
        generalize W3.alloc _ = W4 at *
        have hif : (if (decide (3 < k) || true || !(okV (k : Int) N ⟨s.toArray⟩)) = true then (((0, 0, []), l3, true) : (Int × Int × List UInt8) × List UInt8 × Bool) else (((k : Int), N, s), l3, false)) = ((0, 0, []), l3, true) := by simp
        go_step3
        refine ⟨rfl, ?_⟩
        have hy0 := hx4.cell 0
        have hy1 := hx4.cell 1
        have hy2 := hx4.cell 2
        have hz0 := hx4.frozen 0
        have hz1 := hx4.frozen 1
        have hz2 := hx4.frozen 2
        simp at hy0 hy1 hy2
        obtain ⟨A4, c4, hb4, _⟩ := id hr4
        have hq1 := hb4.cell 1
        have hf1 := hb4.frozen 1
        simp at hq1
        go_wp2
        have hx5 := (((hx4.far (p := ⟨g, 1, none⟩) (by simp; omega) (.bool true)).set_ 0 (.int .i64 0)).set_ 1 (.int .i64 0)).set_ 2 (.string { data := #[] })
        have e0 := hx5.cell 0
        have e1 := hx5.cell 1
        have e2 := hx5.cell 2
        simp at e0 e1 e2
        have hw := hr4.wrongly
        rw [Exit.noGoto_ret]
        refine bodyPost_ret (v := vd (0, 0, [])) (by simp [results, Try.results73, go_sem, e0, e1, e2]) rfl ?_
        rw [HN.out, hif]
        refine ⟨rfl, ?_, ?_⟩
        · exact Rd.below (B := w.heap.size) hw.1 ((((Below.refl _ _).setCell (by simp) _).setCell (by simp) _).setCell (by simp) _) hg
        · exact mut_new (mut_new (mut_new (mut_trans hgr hw.2) (by simp) _) (by simp) _) (by simp) _
end Go.Proofs.Ytjcdgbnbaiebdaa
