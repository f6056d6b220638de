/-
  The walk of filter.Decode (layer 5). Conditions: at most 10^9 bytes.
-/
import Derived.Test.YtjcdgbnbaiebdaaFiC
import Derived.Test.YtjcdgbnbaiebdaaEvH
set_option maxRecDepth 100000
namespace Go.Proofs.Ytjcdgbnbaiebdaa
open Go Go.RowKit

theorem infoTest : (Try.prog.info? 116).map (fun i => (i.zero, i.size, i.bytes)) = some (some (.agg #[.string { data := #[] }, .int .i64 0, .int .i64 0, .int .i64 0, .string { data := #[] }]), 5, 56) := by kernel_rfl
theorem TF : SliceT Try.prog 31 116 (.agg #[.string { data := #[] }, .int .i64 0, .int .i64 0, .int .i64 0, .string { data := #[] }]) 5 56 := ⟨Try.underlying31, infoTest, rfl, by decide⟩
/-- A filter that a call made. -/
abbrev OwnF (w : World) (base : Nat) (v : Value) (l : List Tst) : Prop := w.ownsRow base 116 5 v l.length (l.flatMap tstc)
theorem OwnF.slice {w : World} {base : Nat} {v : Value} {l : List Tst} (h : OwnF w base v l) : ∃ A c, v = .slice A l.length c ∧ Reads w w.heap.size 5 A l.length (l.flatMap tstc) ∧ l.length ≤ c ∧ c ≤ maxLen := by
  have h' := h
  rcases h.2 with ⟨rfl, h0⟩ | ⟨g, cap, cur, rfl, _, _, hn, hc, _⟩
  · obtain rfl : l = [] := List.eq_nil_of_length_eq_zero h0
    exact ⟨none, 0, rfl, Reads.of_own h', by simp, by simp⟩
  · exact ⟨_, _, rfl, Reads.of_own h', hn, hc⟩
theorem tstc_one (x : Tst) : ∀ u ∈ tstc x, u.oneCell' = true := by
  intro u hu
  simp at hu
  rcases hu with rfl | rfl | rfl | rfl | rfl <;> rfl
theorem flt_own {w : World} {base : Nat} {v : Value} {l : List Tst} (h : OwnF w base v l) : flt l v w := by
  obtain ⟨A, c, rfl, hr, _⟩ := h.slice
  exact ⟨A, c, rfl, hr⟩
theorem decFL_len (b : List UInt8) : (decFL b).length ≤ 8 := by
  unfold decFL decF8
  split
  · rename_i h
    simp only [Bool.and_eq_true, decide_eq_true_eq] at h
    have := (rdL_len rdT_codec (rdN b false).1 (rdN b false).2.1 (rdN b false).2.2).2
    show (decFS b).1.length ≤ _
    unfold decFS
    omega
  · simp
theorem decFL_fit (b : List UInt8) : ∀ x ∈ decFL b, fitT x ∧ x.1.size ≤ 16 := by
  unfold decFL decF8
  split
  · exact rdL_all (fun x : Tst => fitT x ∧ x.1.size ≤ 16) rdT_fit _ _ _
  · simp
theorem decFS_bad (b : List UInt8) (k : Nat) (hk : k ≤ (rdN b false).1) (h : (rdL rdT k (rdN b false).2.1 (rdN b false).2.2).2.2 = true) : decFC b = 50 ∧ decFL b = [] := by
  have : (decFS b).2.2 = true := by
    have := rdL_bad rdT_codec h ((rdN b false).1 - k)
    rwa [show k + ((rdN b false).1 - k) = (rdN b false).1 by omega] at this
  have h2 : decF8 b = none := by simp [decF8, this]
  simp [decFC, decFL, h2]
/-- A test as a reader reads it, in its three ways. -/
theorem rdT_more (l : List UInt8) (wr : Bool) (h : 8 < (rdN (rdB 16 l wr).2.1 (rdB 16 l wr).2.2).1) : (rdT l wr).2.2 = true := by
  unfold rdT; rw [if_pos h]
theorem rdT_eight (l : List UInt8) (wr : Bool) (h : (rdN (rdB 16 l wr).2.1 (rdB 16 l wr).2.2).1 = 8) : rdT l wr = ((⟨(rdB 16 l wr).1.toArray⟩, 8, 0, 0, ⟨#[]⟩), (rdN (rdB 16 l wr).2.1 (rdB 16 l wr).2.2).2) := by
  unfold rdT; rw [if_neg (by omega), if_pos h]
theorem rdT_less (l : List UInt8) (wr : Bool) (h : (rdN (rdB 16 l wr).2.1 (rdB 16 l wr).2.2).1 < 8) : rdT l wr = ((⟨(rdB 16 l wr).1.toArray⟩, ((rdN (rdB 16 l wr).2.1 (rdB 16 l wr).2.2).1 : Int), (rdV (rdN (rdB 16 l wr).2.1 (rdB 16 l wr).2.2).2.1 (rdN (rdB 16 l wr).2.1 (rdB 16 l wr).2.2).2.2).1.1,
    (rdV (rdN (rdB 16 l wr).2.1 (rdB 16 l wr).2.2).2.1 (rdN (rdB 16 l wr).2.1 (rdB 16 l wr).2.2).2.2).1.2.1, ⟨(rdV (rdN (rdB 16 l wr).2.1 (rdB 16 l wr).2.2).2.1 (rdN (rdB 16 l wr).2.1 (rdB 16 l wr).2.2).2.2).1.2.2.toArray⟩),
    (rdV (rdN (rdB 16 l wr).2.1 (rdB 16 l wr).2.2).2.1 (rdN (rdB 16 l wr).2.1 (rdB 16 l wr).2.2).2.2).2) := by
  unfold rdT; rw [if_neg (by omega), if_neg (by omega)]
theorem rdL_succ (k : Nat) (l : List UInt8) (bad : Bool) (s : List Tst × List UInt8 × Bool) (hs : rdL rdT k l bad = s) : rdL rdT (k + 1) l bad = (s.1 ++ [(rdT s.2.1 s.2.2).1], (rdT s.2.1 s.2.2).2) := by subst hs; rfl

set_option maxHeartbeats 400000 in
set_option maxRecDepth 100000 in
theorem FDecode_calls (A : Option Addr) (n c : Nat) (b : List UInt8) (w : World) (B : Nat) (hR : Reads w B 1 A n (bys b)) (hB : B ≤ w.heap.size) (hn : n ≤ 1000000000) :
    Calls Try.prog 61 #[.slice A n c] w fun e w' =>
      ∃ v', e = .returned (.tuple #[v', .int .i64 (decFC b)]) ∧ OwnF w' w.heap.size v' (decFL b) ∧ Below w.heap.size w w' := by
  have hbl : b.length = n := by simpa using hR.len
  have hle : b.length ≤ 1000000000 := by omega
  clear hbl
  go_enter Try.func61, Try.ntmps61
  go_wp2_with fail
  refine (New_calls A n c b w B hR hB hn).mono ?_
  rintro e w1 ⟨g, rfl, hg, hr1, hb1⟩
  go_wp2_with fail
  refine (RNumber_calls g b false w1 hr1).mono ?_
  rintro e w2 ⟨rfl, hr2, hg2⟩
  have hgl := hr1.lt
  have hz2 := hg2.size
  have hbw : Below w.heap.size w w2 := hb1.trans (below_of_mut hg2 hg hb1.size)
  have hlt := rdN_lt b false
  have hle2 := rdN_len b false
  have HB := Lib.hid (decFS_bad b)
  have HD : Hid (decF8 b = if decide ((rdN b false).1 ≤ 8) && !(rdL rdT (rdN b false).1 (rdN b false).2.1 (rdN b false).2.2).2.2 && (rdL rdT (rdN b false).1 (rdN b false).2.1 (rdN b false).2.2).2.1.isEmpty && okF (rdL rdT (rdN b false).1 (rdN b false).2.1 (rdN b false).2.2).1 then some (rdL rdT (rdN b false).1 (rdN b false).2.1 (rdN b false).2.2).1 else none) := Lib.hid rfl
  generalize rdN b false = a at *
  obtain ⟨m, l, bad⟩ := a
  simp only at hr2 hlt hle2 HD HB ⊢
  clear hr1 hb1 hR
  by_cases h16 : m ≤ 8
  rotate_left
  · have h16' : (8 : Int) < (m : Int) := by omega
    have HE : Hid (decFC b = 50) := Lib.hid (by have := HD.out; simp [h16] at this; simp [decFC, this])
    have HL : Hid (decFL b = []) := Lib.hid (by have := HD.out; simp [h16] at this; simp [decFL, this])
    go_wp2
    go_ret2
    exact ⟨_, by rw [HE.out]; rfl, by rw [HL.out]; exact World.ownsRow_nil _ _ _ _, hbw⟩
  have h16' : ¬ (8 : Int) < (m : Int) := by omega
  go_wp2_with fail
  go_loopw [6, 7, 8, 16] (fun v _ _ i wk => ∃ k : Nat, k ≤ m ∧ i = .int .u64 (k : Int) ∧ OwnF wk w1.heap.size v (rdL rdT k l bad).1 ∧ Rd wk g (rdL rdT k l bad).2.1 (rdL rdT k l bad).2.2 ∧ Below w.heap.size w wk ∧ w1.heap.size ≤ wk.heap.size) (fun _ _ _ i _ => m - (intOf i).toNat)
  case atStart => exact ⟨0, by omega, rfl, World.ownsRow_nil _ _ _ _, hr2, hbw, hz2⟩
  case round =>
    obtain ⟨k, hk, rfl, hown, hrd, hb, hz⟩ := hrel
    by_cases hlt : k < m
    · have hki : (k : Int) < (m : Int) := by omega
      have hlk := rdL_len rdT_codec k l bad
      have hfit := rdL_succ k l bad
      have hbd := HB.out (k + 1) (by omega)
      generalize hs : rdL rdT k l bad = s at *
      replace hfit := hfit s rfl
      obtain ⟨ats, lk, wk⟩ := s
      simp only at hown hrd hlk hfit
      rw [hfit] at hbd
      obtain ⟨hlk1, hlk2⟩ := hlk
      have HLK := Lib.hid hlk2
      have hasl : ats.length ≤ 8 := by omega
      clear hlk2
      have C1 := Lib.hid (RBytes_calls g lk wk 16 wr hrd (by omega) (by omega) (by omega))
      have hl1 := rdB_len 16 lk wk
      have F8 := Lib.hid fun h => hbd (rdT_more lk wk h)
      have FE := Lib.hid fun h => hfit.trans (show ((ats, lk, wk).1 ++ [(rdT lk wk).1], (rdT lk wk).2) = _ by rw [rdT_eight lk wk h])
      have FL := Lib.hid fun h => hfit.trans (show ((ats, lk, wk).1 ++ [(rdT lk wk).1], (rdT lk wk).2) = _ by rw [rdT_less lk wk h])
      clear hfit hs hbd
      have hl2 := rdN_len (rdB 16 lk wk).2.1 (rdB 16 lk wk).2.2
      have hlt2 := rdN_lt (rdB 16 lk wk).2.1 (rdB 16 lk wk).2.2
      have C2 : Hid (∀ W, Rd W g (rdB 16 lk wk).2.1 (rdB 16 lk wk).2.2 → Calls Try.prog 58 #[.pointer (some ⟨g, 0, none⟩)] W fun e w' => e = .returned (.int .u64 ((rdN (rdB 16 lk wk).2.1 (rdB 16 lk wk).2.2).1 : Nat)) ∧ Went g (rdN (rdB 16 lk wk).2.1 (rdB 16 lk wk).2.2).2.1 (rdN (rdB 16 lk wk).2.1 (rdB 16 lk wk).2.2).2.2 W w') := Lib.hid fun W hW => RNumber_calls g _ _ W hW
      generalize rdB 16 lk wk = sb at *
      obtain ⟨nm, lb, wb⟩ := sb
      simp only at C1 C2 F8 FE FL hl1 hl2 hlt2
      generalize rdN lb wb = sn at *
      obtain ⟨op, lo, wo⟩ := sn
      simp only at C2 F8 FE FL hl2 hlt2
      have hl3 := rdV_len lo wo
      have C3 : Hid (∀ W, Rd W g lo wo → Calls Try.prog 73 #[.pointer (some ⟨g, 0, none⟩)] W fun e w' => e = .returned (vd (rdV lo wo).1) ∧ Went g (rdV lo wo).2.1 (rdV lo wo).2.2 W w') := Lib.hid fun W hW => RValue_calls g _ _ W hW (by omega)
      generalize rdV lo wo = sv at *
      obtain ⟨⟨vk, vn, vt⟩, lv, wv⟩ := sv
      simp only [vd] at C3 FL hl3
      have hgz : g < wr.heap.size := by omega
      go_wp2_with fail
      refine C1.out.mono ?_
      rintro e w3 ⟨v3, rfl, ho3, hr3, hg3⟩
      have hst := str (sl_own ho3)
      have hz3 := hg3.size
      have hown3 := row_mut hown hg3 hgl
      have hb3 : Below w.heap.size w w3 := hb.trans (below_of_mut hg3 hg hb.size)
      clear hown hrd hg3 hb C1
      go_wp2_with fail
      have hx3 := Blk.new w3 116 #[.string ⟨nm.toArray⟩, .int .i64 0, .int .i64 0, .int .i64 0, .string ⟨#[]⟩]
      have hb3a : Below w3.heap.size w3 (w3.alloc (.cells #[.string ⟨nm.toArray⟩, .int .i64 0, .int .i64 0, .int .i64 0, .string ⟨#[]⟩] 116)) := (Below.refl _ _).alloc (Nat.le_refl _) _
      have hr3a := hr3.below hb3a (by omega)
      have hown3a := row_below hown3 hb3a
      have hbw3 := hb3.trans (hb3a.mono hb3.size)
      have hhz : w3.heap.size < (w3.alloc (.cells #[.string ⟨nm.toArray⟩, .int .i64 0, .int .i64 0, .int .i64 0, .string ⟨#[]⟩] 116)).heap.size := by simp
      have hgh : g ≠ w3.heap.size := by omega
      have hh1 : w1.heap.size ≤ w3.heap.size := by omega
      have hhw : w.heap.size ≤ w3.heap.size := hb3.size
      have hnb : u6.ownBlock ≠ some w3.heap.size := by
        intro e
        have := (hown3.lt _ e).2
        omega
      clear hr3 hb3a hown3 hb3 hst ho3
      generalize w3.alloc (.cells #[.string ⟨nm.toArray⟩, .int .i64 0, .int .i64 0, .int .i64 0, .string ⟨#[]⟩] 116) = w3a at *
      generalize w3.heap.size = h at *
      refine (C2.out _ hr3a).mono ?_
      rintro e w4 ⟨rfl, hr4, hg4⟩
      have hz4 := hg4.size
      have hown4 := row_mut hown3a hg4 hgl
      have hb4 : Below w.heap.size w w4 := hbw3.trans (below_of_mut hg4 hg hbw3.size)
      have hx4 := hx3.grown hg4 (by intro e; injection e with e; exact hgh e.symm)
      clear hown3a hr3a hg4 hbw3 C2 hx3
      by_cases h8 : 8 < op
      · have h8' : (8 : Int) < (op : Int) := by omega
        obtain ⟨hC, hL⟩ := F8.out h8
        have HC := Lib.hid hC
        have HL := Lib.hid hL
        clear hC hL h8
        go_wp2
        go_ret2
        exact ⟨_, by rw [HC.out]; rfl, by rw [HL.out]; exact World.ownsRow_nil _ _ _ _, hb4⟩
      have h8' : ¬ (8 : Int) < (op : Int) := by omega
      have q0 := hx4.cell 0
      have q1 := hx4.cell 1
      have q2 := hx4.cell 2
      have q3 := hx4.cell 3
      have q4 := hx4.cell 4
      have z1 := hx4.frozen 1
      simp at q0 q1 q2 q3 q4
      go_upto_region 13 with (fail)
      have hg5 : w4.grownBy (w4.setCell ⟨h, 1, none⟩ (.int .i64 (op : Int))) (some h) := mut_set (mut_refl w4 _) rfl _
      have hz5 := hg5.size
      have hx5 := hx4.set_ 1 (.int .i64 (op : Int))
      have hb5 : Below w.heap.size w (w4.setCell ⟨h, 1, none⟩ (.int .i64 (op : Int))) := hb4.trans (below_of_mut hg5 hhw hb4.size)
      have hr5 := hr4.below (below_of_mut hg5 (Nat.le_refl h) (by omega)) (by omega)
      have hown5 : OwnF _ _ _ _ := World.ownsRow.kept hown4 hg5 (.inr hnb)
      clear hg5 hx4 hb4 hr4 hown4 q0 q1 q2 q3 q4 z1
      generalize w4.setCell ⟨h, 1, none⟩ (.int .i64 (op : Int)) = w5 at *
      have q0 := hx5.cell 0
      have q1 := hx5.cell 1
      have q2 := hx5.cell 2
      have q3 := hx5.cell 3
      have q4 := hx5.cell 4
      simp at q0 q1 q2 q3 q4
      by_cases he : op = 8
      · have HF := Lib.hid (FE.out he)
        subst he
        have hw15 : w1.heap.size ≤ w5.heap.size := by omega
        go_wp2_with (at_builtin; refine wpList_app rfl _ _ 31 rfl w1.heap.size 116 _ 5 56 TF _ _ _ rfl (World.ownsRow.alloc hown5 _) (w5.heap.size + 1) _ 1 1 (tstc ((⟨nm.toArray⟩, 8, 0, 0, ⟨#[]⟩) : Tst)) rfl ?c1 ?c2 ?c3 ?c5 ?_)
        case c1 => exact Reads.new w5 (tstc ((⟨nm.toArray⟩, 8, 0, 0, ⟨#[]⟩) : Tst)) 116 5 1 rfl
        case c2 => first | exact tstc_one _ | exact ⟨rfl, rfl, rfl, rfl, rfl⟩ | exact ⟨rfl, rfl, rfl, rfl⟩
        case c3 => omega
        case c5 => first | omega | (simp; omega)
        intro v9 w9 hown9 hg9 hat9 hb9
        have hown10 : OwnF w9 w1.heap.size v9 (rdL rdT (k + 1) l bad).1 := by
          rw [HF.out]
          unfold OwnF
          simpa [List.flatMap_append] using hown9
        have hr9 : Rd w9 g (rdL rdT (k + 1) l bad).2.1 (rdL rdT (k + 1) l bad).2.2 := by
          rw [HF.out]
          exact (hr5.below (Below.alloc (Below.refl _ _) (Nat.le_refl _) _) hr5.lt).below hb9 hgl
        have hbw9 : Below w.heap.size w w9 := (hb5.alloc hb5.size _).trans (hb9.mono (by omega))
        have hz9 : w1.heap.size ≤ w9.heap.size := by have := hb9.size; simp at this; omega
        clear hown9 hg9 hat9 hb9
        go_wp2
        go_roundw
        case rel => exact ⟨k + 1, by omega, by go_num, hown10, hr9, hbw9, hz9⟩
        case measure => simp [intOf]; omega
      · have HF := Lib.hid (FL.out (by omega))
        have hne : ¬ (op : Int) = 8 := by omega
        go_wp2_with fail
        refine (C3.out _ hr5).mono ?_
        rintro e w6 ⟨rfl, hr6, hg6⟩
        have hz6 := hg6.size
        have hown6 := row_mut hown5 hg6 hgl
        have hb6 : Below w.heap.size w w6 := hb5.trans (below_of_mut hg6 hg hb5.size)
        have hx6 := hx5.grown hg6 (by intro e; injection e with e; exact hgh e.symm)
        clear hown5 hr5 hg6 hb5 C3 hx5 q0 q1 q2 q3 q4
        have q0 := hx6.cell 0
        have q1 := hx6.cell 1
        have q2 := hx6.cell 2
        have q3 := hx6.cell 3
        have q4 := hx6.cell 4
        have z2 := hx6.frozen 2
        have z3 := hx6.frozen 3
        have z4 := hx6.frozen 4
        simp at q0 q1 q2 q3 q4
        go_upto_region 15 with (fail)
        have hg7 := mut_set (mut_set (mut_set (mut_refl w6 (some h)) (p := ⟨h, 2, none⟩) rfl (.int .i64 vk)) (p := ⟨h, 3, none⟩) rfl (.int .i64 vn)) (p := ⟨h, 4, none⟩) rfl (.string ⟨vt.toArray⟩)
        have hz7 := hg7.size
        have hx7 := ((hx6.set_ 2 (.int .i64 vk)).set_ 3 (.int .i64 vn)).set_ 4 (.string ⟨vt.toArray⟩)
        have hb7 : Below w.heap.size w (((w6.setCell ⟨h, 2, none⟩ (.int .i64 vk)).setCell ⟨h, 3, none⟩ (.int .i64 vn)).setCell ⟨h, 4, none⟩ (.string ⟨vt.toArray⟩)) := hb6.trans (below_of_mut hg7 hhw hb6.size)
        have hr7 := hr6.below (below_of_mut hg7 (Nat.le_refl h) (by omega)) (by omega)
        have hown7 : OwnF _ _ _ _ := World.ownsRow.kept hown6 hg7 (.inr hnb)
        clear hg7 hx6 hb6 hr6 hown6 q0 q1 q2 q3 q4 z2 z3 z4
        generalize ((w6.setCell ⟨h, 2, none⟩ (.int .i64 vk)).setCell ⟨h, 3, none⟩ (.int .i64 vn)).setCell ⟨h, 4, none⟩ (.string ⟨vt.toArray⟩) = w7 at *
        have q0 := hx7.cell 0
        have q1 := hx7.cell 1
        have q2 := hx7.cell 2
        have q3 := hx7.cell 3
        have q4 := hx7.cell 4
        simp at q0 q1 q2 q3 q4
        have hw17 : w1.heap.size ≤ w7.heap.size := by omega
        go_wp2_with (at_builtin; refine wpList_app rfl _ _ 31 rfl w1.heap.size 116 _ 5 56 TF _ _ _ rfl (World.ownsRow.alloc hown7 _) (w7.heap.size + 1) _ 1 1 (tstc ((⟨nm.toArray⟩, (op : Int), vk, vn, ⟨vt.toArray⟩) : Tst)) rfl ?c1 ?c2 ?c3 ?c5 ?_)
        case c1 => exact Reads.new w7 (tstc ((⟨nm.toArray⟩, (op : Int), vk, vn, ⟨vt.toArray⟩) : Tst)) 116 5 1 rfl
        case c2 => first | exact tstc_one _ | exact ⟨rfl, rfl, rfl, rfl, rfl⟩ | exact ⟨rfl, rfl, rfl, rfl⟩
        case c3 => omega
        case c5 => first | omega | (simp; omega)
        intro v9 w9 hown9 hg9 hat9 hb9
        have hown10 : OwnF w9 w1.heap.size v9 (rdL rdT (k + 1) l bad).1 := by
          rw [HF.out]
          unfold OwnF
          simpa [List.flatMap_append] using hown9
        have hr9 : Rd w9 g (rdL rdT (k + 1) l bad).2.1 (rdL rdT (k + 1) l bad).2.2 := by
          rw [HF.out]
          exact (hr7.below (Below.alloc (Below.refl _ _) (Nat.le_refl _) _) hr7.lt).below hb9 hgl
        have hbw9 : Below w.heap.size w w9 := (hb7.alloc hb7.size _).trans (hb9.mono (by omega))
        have hz9 : w1.heap.size ≤ w9.heap.size := by have := hb9.size; simp at this; omega
        clear hown9 hg9 hat9 hb9
        go_wp2
        go_roundw
        case rel => exact ⟨k + 1, by omega, by go_num, hown10, hr9, hbw9, hz9⟩
        case measure => simp [intOf]; omega
    · have hki : ¬ (k : Int) < (m : Int) := by omega
      obtain rfl : k = m := by omega
      clear hlt hk
      have hlk := (rdL_len rdT_codec k l bad).2
      generalize rdL rdT k l bad = s at *
      obtain ⟨ats, lk, wk⟩ := s
      simp only at hown hrd HD hlk
      have HLK := Lib.hid hlk
      clear hlk
      have hcomp : ∀ x : Bool, x = (!wk && lk.isEmpty && okF ats) → Hid (decFC b = (if x then 0 else 50)) ∧ Hid (decFL b = if x then ats else []) := by
        intro x hx
        have h := HD.out
        rw [show (decide (k ≤ 8)) = true by simp; omega] at h
        cases x with
        | true => rw [Bool.true_and, ← hx] at h; exact ⟨Lib.hid (by simp [decFC, h]), Lib.hid (by simp [decFL, h])⟩
        | false => rw [Bool.true_and, ← hx] at h; exact ⟨Lib.hid (by simp [decFC, h]), Lib.hid (by simp [decFL, h])⟩
      have HCO := Lib.hid hcomp
      clear hcomp
      go_wp2_with fail
      refine (Done_calls g _ _ wr hrd).mono ?_
      rintro e w' ⟨rfl, rfl⟩
      cases hd : (!wk && lk.isEmpty)
      · obtain ⟨HE, HL⟩ := HCO.out false (by rw [hd]; rfl)
        go_wp2
        go_ret2
        exact ⟨_, by rw [HE.out]; rfl, by rw [HL.out]; exact World.ownsRow_nil _ _ _ _, hb⟩
      · obtain ⟨A', c', rfl, hR', _, _⟩ := hown.slice
        have hrow := row_base (Nat.le_trans hg (Nat.le_of_lt hgl)) hown
        go_wp2_with fail
        refine (FCheck_calls A' c' ats wr wr.heap.size hR' (Nat.le_refl _)).mono ?_
        rintro e w6 ⟨rfl, hb6⟩
        have hbw6 := hb.trans (hb6.mono hb.size)
        have hrow6 := row_below hrow hb6
        cases hok : okF ats
        · have hne : (chkF ats != 0) = true := by simp [chkF, hok]
          obtain ⟨HE, HL⟩ := HCO.out false (by rw [hd, hok]; rfl)
          go_wp2
          go_ret2
          exact ⟨_, by rw [HE.out]; rfl, by rw [HL.out]; exact World.ownsRow_nil _ _ _ _, hbw6⟩
        · have hne : (chkF ats != 0) = false := by simp [chkF, hok]
          obtain ⟨HE, HL⟩ := HCO.out true (by rw [hd, hok]; rfl)
          go_wp2
          go_ret2
          exact ⟨_, by rw [HE.out]; rfl, by rw [HL.out]; exact hrow6, hbw6⟩
theorem FDecode_sl {b : List UInt8} {v : Value} {w : World} (h : sl b v w) (hn : b.length ≤ 1000000000) : Calls Try.prog 61 #[v] w fun e w' =>
    ∃ v', e = .returned (.tuple #[v', .int .i64 (decFC b)]) ∧ OwnF w' w.heap.size v' (decFL b) ∧ Below w.heap.size w w' := by
  obtain ⟨A, c, rfl, hR⟩ := h
  exact FDecode_calls A _ c b w _ hR (Nat.le_refl _) hn
end Go.Proofs.Ytjcdgbnbaiebdaa
