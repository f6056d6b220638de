/-
  postilionlaw02.read and PackReads: the walks: what is unpacked is what the document's answer unpacks. Conditions: none.
-/
import Derived.Test.YtipkjgfhadlblaaPackE
import Derived.Test.YtipkjgfhadlblaaRefC
import Derived.Test.YtipkjgfhadlblaaOpen
import Derived.Deep.CutRange
namespace Go.Proofs.Ytipkjgfhadlblaa
open Go Go.RowKit

theorem drop_rest {α : Type} {l a r : List α} (h : l = a ++ r) : l.drop (l.length - r.length) = r := by
  subst h; simp

theorem rdN_nil : rdN [] false = (0, [], true) := rfl
theorem rdB_true (most : Int) (l : List UInt8) : rdB most l true = ([], l, true) := by unfold rdB; rw [rdN_true]; simp
theorem rdB_nil (most : Int) : rdB most [] false = ([], [], true) := by unfold rdB; rw [rdN_nil]; simp
theorem rdV_true (l : List UInt8) : rdV l true = ((0, 0, []), l, true) := by unfold rdV; simp only [rdN_true, rdB_true]; simp
theorem rdV_nil : rdV [] false = ((0, 0, []), [], true) := by unfold rdV; simp only [rdN_nil, rdN_true, rdB_true]; simp

theorem rdV_len (l : List UInt8) (wr : Bool) : (rdV l wr).2.1.length ≤ l.length := by
  have h1 := rdN_len l wr
  have h2 := rdN_len (rdN l wr).2.1 (rdN l wr).2.2
  have h3 := rdB_len 40 (rdN (rdN l wr).2.1 (rdN l wr).2.2).2.1 (rdN (rdN l wr).2.1 (rdN l wr).2.2).2.2
  unfold rdV
  simp only
  split <;> simp only <;> omega

section
variable {l ys : List UInt8} {wr : Bool}
theorem stepN (h0 : wr = false → ys = l) (h1 : wr = true → ys = []) :
    (rdN l wr).1 = (rdN ys false).1 ∧ (rdN l wr).2.2 = (wr || decide (getK ys = 0)) ∧ ((rdN l wr).2.2 = false → (rdN l wr).2.1 = ys.drop (getK ys)) ∧ getK ys ≤ ys.length := by
  refine ⟨?_, ?_, ?_, getK_le ys⟩
  all_goals
    cases wr with
    | true => rw [h1 rfl, rdN_true]; simp [rdN_nil]
    | false =>
      obtain rfl := h0 rfl
      first
      | rfl
      | (by_cases hk : getK ys = 0
         · simp [hk, getK_bad hk]
         · rw [getK_good hk]; simp [hk])
theorem stepB (most : Int) (h0 : wr = false → ys = l) (h1 : wr = true → ys = []) :
    (rdB most l wr).1 = (rdB most ys false).1 ∧ (rdB most l wr).2.2 = (wr || decide (getBK most ys = 0)) ∧ ((rdB most l wr).2.2 = false → (rdB most l wr).2.1 = ys.drop (getBK most ys)) ∧ getBK most ys ≤ ys.length := by
  refine ⟨?_, ?_, ?_, getBK_le most ys⟩
  all_goals
    cases wr with
    | true => rw [h1 rfl, rdB_true]; simp [rdB_nil]
    | false =>
      obtain rfl := h0 rfl
      first
      | rfl
      | (by_cases hk : getBK most ys = 0
         · simp [hk, getBK_bad hk]
         · rw [getBK_good hk]; simp [hk])
theorem getVK_le (l : List UInt8) : getVK l ≤ l.length := by unfold getVK; split <;> omega
theorem stepV (h0 : wr = false → ys = l) (h1 : wr = true → ys = []) :
    (rdV l wr).1 = (rdV ys false).1 ∧ (rdV l wr).2.2 = (wr || decide (getVK ys = 0)) ∧ ((rdV l wr).2.2 = false → (rdV l wr).2.1 = ys.drop (getVK ys)) ∧ getVK ys ≤ ys.length := by
  refine ⟨?_, ?_, ?_, getVK_le ys⟩
  all_goals
    cases wr with
    | true => rw [h1 rfl, rdV_true]; simp [rdV_nil]
    | false =>
      obtain rfl := h0 rfl
      first
      | rfl
      | (cases hd : (rdV ys false).2.2 with
         | true => simp [getVK, hd]
         | false =>
           have hb := (rdV_back hd).1
           have hl := congrArg List.length hb
           rw [List.length_append] at hl
           have hpos : 0 < (packV (rdV ys false).1.1 (rdV ys false).1.2.1 ⟨(rdV ys false).1.2.2.toArray⟩).length := by simp [packV, packN]
           have hk : getVK ys = ys.length - (rdV ys false).2.1.length := by simp [getVK, hd]
           first
           | (simp; omega)
           | (intro _; rw [hk]; exact (drop_rest hb).symm))
end

set_option maxHeartbeats 4000000 in
set_option maxRecDepth 100000 in
theorem read_calls (g : Nat) (l xs : List UInt8) (wr : Bool) (A : Option Addr) (n c : Nat) (kind most : Int) (w : World) (h : Rd w g l wr) (hR : Reads w g 1 A n (bys xs)) (hnc : n ≤ c) (hn : n ≤ 1000000000) (hl : l.length ≤ 1000000000) (hx : wr = false → xs = l)
    (hm0 : -9223372036854775808 ≤ most) (hm1 : most ≤ 9223372036854775807) :
    Calls Try.prog 19 #[.pointer (some ⟨g, 0, none⟩), .slice A n c, .agg #[.int .i64 kind, .int .i64 most], .bool wr] w fun e w' => ∃ (k : Nat) (l' : List UInt8) (wr' : Bool),
      e = .returned (.tuple #[.bool true, .int .i64 (k : Int)]) ∧ Went g l' wr' w w' ∧ k ≤ n ∧ l'.length ≤ l.length ∧ ((kind = 1 ∨ kind = 2 ∨ kind = 3) → wr' = (wr || decide (k = 0)) ∧ (wr' = false → l' = xs.drop k)) ∧
      (¬ (kind = 1 ∨ kind = 2 ∨ kind = 3) → k = 0 ∧ l' = l ∧ wr' = wr) := by
  have hgl := h.lt
  have hx0 := Blk.new w 43 #[.int .i64 kind, .int .i64 most]
  have hb0 : Below w.heap.size w (w.alloc (.cells #[.int .i64 kind, .int .i64 most] 43)) := (Below.refl _ _).alloc (Nat.le_refl _) _
  go_enter Try.func19, Try.ntmps19
  go_upto_if 16 with (fail)
  generalize w.alloc _ = W0 at *
  have h0 := h.below hb0 hgl
  have hR0 := hR.below hb0 (Nat.le_of_lt hgl)
  have hgW : g < W0.heap.size := h0.lt
  go_cut [1, 3] from 16 to 16 (fun s bw wc => bw = .bool wr ∧ (∃ A' n' c' ys, s = .slice A' n' c' ∧ Reads wc g 1 A' n' (bys ys) ∧ n' ≤ c' ∧ n' ≤ n ∧ (wr = false → ys = xs) ∧ (wr = true → ys = [])) ∧ wc = W0)
  case first =>
    cases hw : wr
    · go_wp2
      go_meet
      case rel => exact ⟨by rw [hw], ⟨A, n, c, xs, rfl, hR0, hnc, Nat.le_refl _, fun _ => rfl, fun h' => by simp [hw] at h'⟩, rfl⟩
    · go_wp2
      go_meet
      case rel => exact ⟨by rw [hw], ⟨none, 0, 0, [], rfl, Reads.nil _ _ _ _, by omega, by omega, fun h' => (by simp [hw] at h'), fun _ => rfl⟩, rfl⟩
  case rest =>
  obtain ⟨rfl, ⟨A', n', c', ys, rfl, hY, hnc', hnn, hy0, hy1⟩, rfl⟩ := hcut
  have hyl : ys.length = n' := by simpa using hY.len
  have hyx : wr = false → ys = l := fun hw => (hy0 hw).trans (hx hw)
  have q0 := hx0.cell 0
  have q1 := hx0.cell 1
  simp at q0 q1
  by_cases hk1 : kind = 1
  · have hk1' : (kind == 1) = true := by simp [hk1]
    obtain ⟨E1, E2, E3, E4⟩ := stepN hyx hy1
    have HE := Lib.hid E1
    clear E1
    go_wp2_with fail
    refine (Get_calls A' n' c' ys _ g hY (Nat.le_of_lt hgW) (by omega) hnc').mono ?_
    rintro e w1 ⟨rfl, hb1⟩
    have h1 := h0.below hb1 hgW
    go_wp2_with fail
    refine (RNumber_calls g l wr w1 h1).mono ?_
    rintro e w2 ⟨rfl, hr2, hm2⟩
    rw [HE.out]
    go_wp2
    go_ret2
    refine ⟨getK ys, _, _, rfl, ⟨hr2, mut_trans (mut_trans (mut_of_below hb0 _) (mut_of_below hb1 _)) hm2⟩, by omega, rdN_len l wr, fun _ => ⟨E2, fun hw => ?_⟩, fun hne => absurd (.inl hk1) hne⟩
    rw [E3 hw]
    have : wr = false := by rw [E2] at hw; cases wr <;> simp_all
    rw [hy0 this]
  have hk1' : (kind == 1) = false := by simpa using hk1
  by_cases hk2 : kind = 2
  · have hk2' : (kind == 2) = true := by simp [hk2]
    obtain ⟨E1, E2, E3, E4⟩ := stepB most hyx hy1
    have HE := Lib.hid E1
    clear E1
    go_wp2_with fail
    refine (GetBytes_calls A' n' c' ys most _ g hY (Nat.le_of_lt hgW) (by omega) hnc' hm0 hm1).mono ?_
    rintro e w1 ⟨A3, c3, rfl, hr3, hc3, hb1⟩
    have h1 := h0.below hb1 hgW
    have hx1 := hx0.below hb1 hx0.lt
    have hgr1 : w.grownBy w1 (some g) := mut_trans (mut_of_below hb0 _) (mut_of_below hb1 _)
    generalize hS : (rdB most ys false).1 = S at *
    clear hS
    obtain ⟨C, hC⟩ : ∃ C : World → Prop, C = fun W => Blk W w.heap.size 43 #[.int .i64 kind, .int .i64 most] ∧ Reads W g 1 A3 S.length (bys S) ∧ w.grownBy W (some g) ∧ g < W.heap.size := ⟨_, rfl⟩
    have hg : ∀ W W', C W → Below W.heap.size W W' → C W' := by
      subst hC
      rintro W W' ⟨a1, a2, a3, a4⟩ hb
      have := hb.size
      exact ⟨a1.below hb a1.lt, a2.below hb (Nat.le_of_lt a4), mut_trans a3 (mut_of_below hb _), by omega⟩
    have hc0 : C w1 := by rw [hC]; exact ⟨hx1, hr3, hgr1, h1.lt⟩
    go_wp2_with fail
    refine wp_region_turn 3 C (fun W => Rd W g l wr) (fun W => Rd W g (rdB most l wr).2.1 (rdB most l wr).2.2) (fun W W' => W.grownBy W' (some g))
      [isV (.pointer (some ⟨g, 0, none⟩)), isV (.pointer (some ⟨w.heap.size, 1, none⟩)), isV (.int .i64 most), sl S, isV (.string ⟨S.toArray⟩), isV (.slice A3 S.length c3), isV (.string ⟨S.toArray⟩), isV (.bool true), isV (.int .i64 (getBK most ys : Nat)), isV (.bool true), isV (.int .i64 (getBK most ys : Nat))]
      [([], []), ([], []), ([1], [(41, 1)]), ([0, 2], [(40, 0), (42, 2)]), ([3], [(43, 3)]), ([], []), ([5], [(45, 5)]), ([4, 6], [(44, 4), (46, 6)]), ([], []), ([7], [(47, 7)]), ([8], [(48, 8)])] 61 rfl (by kernel_rfl) (by kernel_rfl) (by kernel_rfl) (by decide) hg
      (fun W W' hd hb => hd.below hb hd.lt) (fun W W' hd hb => hd.below hb hd.lt) (by exact hg _ _ hc0 (Below.drew (Below.refl _ _))) (h1.below (Below.drew (Below.refl _ _)) h1.lt) ?st ?st2 ?ow ?_
    case st =>
      simp only [List.forall_mem_cons]
      and_intros
      all_goals first | exact isV_st _ | exact sl_st _ | simp
    case st2 =>
      simp only [List.take_succ_cons, List.take_zero, List.drop_succ_cons, List.drop_zero, List.cons_append, List.nil_append, List.forall_mem_cons]
      and_intros
      all_goals first | exact fun _ _ _ h _ => h | simp
    case ow =>
      simp only [OwedT, Nat.reduceEqDiff, if_true, if_false, Nat.reduceAdd]
      and_intros
      all_goals try trivial
      all_goals first
        | (intro V w' hc hp
           rw [hC] at hc
           obtain ⟨a1, a2, a3, a4⟩ := hc
           have c1 := a1.cell 1
           simp at c1
           try simp only [List.forall_mem_cons, tab_zero, tab_succ, isV] at hp
           try simp [wantsG, rhoP, List.lookup, hp, tab_zero, tab_succ, ResG, execOp, bareOp, isV, undef, Below.refl, c1, go_sem])
        | skip
      · intro e0 e2
        rw [e0, e2]
        simp only [ResT, tab_zero, tab_succ]
        refine (RBytes_calls g l wr most w' hp hl hm0 hm1).mono ?_
        rintro e w'' ⟨v, rfl, ho, hr4, hm4⟩
        rw [HE.out] at ho
        have hb4 := below_of_mut hm4 (Nat.le_refl _) (Nat.le_of_lt a4)
        refine ⟨v, rfl, sl_own ho, ?_, hr4, hm4⟩
        rw [hC]
        exact ⟨a1.grown hm4 (by simp; omega), a2.below hb4 (Nat.le_refl _), mut_trans a3 hm4, hr4.lt⟩
      · rw [str hp.1]; simp [Result.andThen, Below.refl]
      · rw [str (show sl S (.slice A3 S.length c3) w' from ⟨A3, c3, rfl, a2.more (Nat.le_of_lt a4)⟩)]; simp [Result.andThen, Below.refl]
    intro V9 W9 hc9 hd9 hp9
    have hr9 : V9 9 = .bool true := hp9 9 (by simp)
    have hs9 : V9 10 = .int .i64 (getBK most ys : Nat) := hp9 10 (by simp)
    clear hp9
    simp only [putAll, Act.put, List.setIfInBounds_toArray, List.set_cons_succ, List.set_cons_zero, hr9, hs9]
    rw [hC] at hc9
    go_wp2
    go_ret2
    refine ⟨getBK most ys, _, _, rfl, ⟨hd9, hc9.2.2.1⟩, by omega, rdB_len most l wr, fun _ => ⟨E2, fun hw => ?_⟩, fun hne => absurd (.inr (.inl hk2)) hne⟩
    rw [E3 hw]
    have : wr = false := by rw [E2] at hw; cases wr <;> simp_all
    rw [hy0 this]
  have hk2' : (kind == 2) = false := by simpa using hk2
  by_cases hk3 : kind = 3
  · have hk3' : (kind == 3) = true := by simp [hk3]
    obtain ⟨E1, E2, E3, E4⟩ := stepV hyx hy1
    have HE := Lib.hid E1
    clear E1
    go_wp2_with fail
    refine (GetValue_calls A' n' c' ys _ g hY (Nat.le_of_lt hgW) (by omega) hnc').mono ?_
    rintro e w1 ⟨rfl, hb1⟩
    have h1 := h0.below hb1 hgW
    have hgr1 : w.grownBy w1 (some g) := mut_trans (mut_of_below hb0 _) (mut_of_below hb1 _)
    generalize hS : (rdV ys false).1 = S at *
    clear hS
    obtain ⟨sk, sn, ss⟩ := S
    have hx1 := Blk.new w1 28 #[.int .i64 sk, .int .i64 sn, .string ⟨ss.toArray⟩]
    have hb2 : Below w1.heap.size w1 (w1.alloc (.cells #[.int .i64 sk, .int .i64 sn, .string ⟨ss.toArray⟩] 28)) := (Below.refl _ _).alloc (Nat.le_refl _) _
    have h2 := h1.below hb2 h1.lt
    have hgr2 := mut_trans hgr1 (mut_of_below hb2 (some g))
    have hgw1 : g < w1.heap.size := h1.lt
    obtain ⟨C, hC⟩ : ∃ C : World → Prop, C = fun W => Blk W w1.heap.size 28 #[.int .i64 sk, .int .i64 sn, .string ⟨ss.toArray⟩] ∧ w.grownBy W (some g) := ⟨_, rfl⟩
    have hg : ∀ W W', C W → Below W.heap.size W W' → C W' := by
      subst hC
      rintro W W' ⟨a1, a3⟩ hb
      exact ⟨a1.below hb a1.lt, mut_trans a3 (mut_of_below hb _)⟩
    have hc0 : C (w1.alloc (.cells #[.int .i64 sk, .int .i64 sn, .string ⟨ss.toArray⟩] 28)) := by rw [hC]; exact ⟨hx1, hgr2⟩
    go_wp2_with fail
    refine wp_region_turn 1 C (fun W => Rd W g l wr) (fun W => Rd W g (rdV l wr).2.1 (rdV l wr).2.2) (fun W W' => W.grownBy W' (some g))
      [isV (.pointer (some ⟨g, 0, none⟩)), isV (vd (sk, sn, ss)), isV (vd (sk, sn, ss)), isV (.bool true), isV (.int .i64 (getVK ys : Nat)), isV (.bool true), isV (.int .i64 (getVK ys : Nat))]
      [([], []), ([0], [(56, 0)]), ([], []), ([1, 2], [(57, 1), (58, 2)]), ([], []), ([3], [(59, 3)]), ([4], [(60, 4)])] 61 rfl (by kernel_rfl) (by kernel_rfl) (by kernel_rfl) (by decide) hg
      (fun W W' hd hb => hd.below hb hd.lt) (fun W W' hd hb => hd.below hb hd.lt) (by exact hg _ _ hc0 (Below.drew (Below.refl _ _))) (h2.below (Below.drew (Below.refl _ _)) h2.lt) ?st ?st2 ?ow ?_
    case st =>
      simp only [List.forall_mem_cons]
      and_intros
      all_goals first | exact isV_st _ | exact sl_st _ | simp
    case st2 =>
      simp only [List.take_succ_cons, List.take_zero, List.drop_succ_cons, List.drop_zero, List.cons_append, List.nil_append, List.forall_mem_cons]
      and_intros
      all_goals first | exact fun _ _ _ h _ => h | simp
    case ow =>
      simp only [OwedT, Nat.reduceEqDiff, if_true, if_false, Nat.reduceAdd, Nat.zero_ne_one]
      and_intros
      all_goals try trivial
      all_goals first
        | (intro V w' hc hp
           rw [hC] at hc
           obtain ⟨a1, a3⟩ := hc
           have c0 := a1.cell 0
           have c1 := a1.cell 1
           have c2 := a1.cell 2
           simp at c0 c1 c2
           try simp only [List.forall_mem_cons, tab_zero, tab_succ, isV] at hp
           try simp [wantsG, rhoP, List.lookup, hp, tab_zero, tab_succ, ResG, execOp, bareOp, isV, undef, Below.refl, c0, c1, c2, go_sem])
        | skip
      · intro e0
        rw [e0]
        simp only [ResT, tab_zero, tab_succ]
        refine (RValue_calls g l wr w' hp hl).mono ?_
        rintro e w'' ⟨rfl, hr4, hm4⟩
        rw [HE.out]
        refine ⟨_, rfl, rfl, ?_, hr4, hm4⟩
        rw [hC]
        exact ⟨a1.grown hm4 (by simp; omega), mut_trans a3 hm4⟩
    intro V9 W9 hc9 hd9 hp9
    have hr9 : V9 5 = .bool true := hp9 5 (by simp)
    have hs9 : V9 6 = .int .i64 (getVK ys : Nat) := hp9 6 (by simp)
    clear hp9
    simp only [putAll, Act.put, List.setIfInBounds_toArray, List.set_cons_succ, List.set_cons_zero, hr9, hs9]
    rw [hC] at hc9
    go_wp2
    go_ret2
    refine ⟨getVK ys, _, _, rfl, ⟨hd9, hc9.2⟩, by omega, rdV_len l wr, fun _ => ⟨E2, fun hw => ?_⟩, fun hne => absurd (.inr (.inr hk3)) hne⟩
    rw [E3 hw]
    have : wr = false := by rw [E2] at hw; cases wr <;> simp_all
    rw [hy0 this]
  have hk3' : (kind == 3) = false := by simpa using hk3
  go_wp2
  go_ret2
  exact ⟨0, l, wr, rfl, ⟨h0, mut_of_below hb0 _⟩, by omega, Nat.le_refl _, fun h => by omega, fun _ => ⟨rfl, rfl, rfl⟩⟩
end Go.Proofs.Ytipkjgfhadlblaa
