/-
  The walk of 'awake' of the statements of layer 2: it returns true and changes nothing that was there.
-/
import Derived.Test.YtipkjgfhadlblaaStr
import Derived.Deep.RegionHeld3
import Derived.Deep.DrawnRows
namespace Go.Proofs.Ytipkjgfhadlblaa
open Go Go.RowKit

attribute [local go_sem ↓] Go.wp_at_zero Go.wp_at_succ

theorem packV_m1 : packV 1 (-1) { data := #[] } = [1, 1, 1, 1, 0] := by
  simp [packV, packN, kindN, numV, foldI, longN, be, ByteArray.size]
theorem packN_258 : packN 258 = [2, 1, 2] := by simp [packN, longN, be]

set_option maxHeartbeats 4000000 in
theorem awake_calls (w : World) :
    Calls Try.prog 10 #[] w fun e w' => e = .returned (.bool true) ∧ Below w.heap.size w w' := by
  go_enter Try.func10, Try.ntmps10
  go_wp2_with fail
  refine (Int_calls (-1) _).mono ?_
  rintro e w1 ⟨rfl, hb1⟩
  go_wp2_with fail
  refine (Value_calls none 0 0 [] 1 (-1) { data := #[] } w1 0 (Reads.nil _ _ _ _) (by omega) (by omega) (by simp [ByteArray.size]) (by omega) (by omega)).mono ?_
  rintro e w2 ⟨v2, rfl, ho2, hb2⟩
  rw [List.nil_append, packV_m1] at ho2
  have hb12 := hb1.trans (hb2.mono hb1.size)
  go_wp2_with fail
  refine (New_calls _ 5 5 [2, 1, 2, 1, 97] _ (w2.heap.size + 1) (Reads.new w2 (bys [2, 1, 2, 1, 97]) 5 1 5 rfl) (by simp) (by omega)).mono ?_
  rintro e w3 ⟨g, rfl, hg3, hr3, hb3⟩
  simp only [World.size_alloc] at hg3
  have hb13 : Below w.heap.size w w3 := (hb12.alloc hb12.size _).trans (hb3.mono (by have := hb12.size; simp; omega))
  have ho3 : Own w3 w1.heap.size 5 v2 [1, 1, 1, 1, 0] := own_below (Nat.le_refl _) ho2 (Below.trans (Below.alloc (Below.refl _ _) (Nat.le_refl _) _) (hb3.mono (by simp)))
  go_wp2_with fail
  refine (RNumber_calls g _ _ _ hr3).mono ?_
  rintro e w4 ⟨rfl, hr4, hm4⟩
  have e1 : rdN [2, 1, 2, 1, 97] false = (258, [1, 97], false) := by simp [rdN, ofBe]
  rw [e1] at hr4 ⊢
  simp only at hr4 ⊢
  go_wp2_with fail
  refine (Done_calls g _ _ _ hr4).mono ?_
  rintro e w' ⟨rfl, rfl⟩
  have ho4 := own_mut ho3 hm4 (by obtain ⟨A2, c2, rfl, hr⟩ := ho2.slice; obtain ⟨b, off, rfl, hb, _⟩ := hr.2 (by simp [bys]); simp [Value.ownBlock]; omega)
  have hb14 : Below w.heap.size w w4 := hb13.trans (below_of_mut hm4 (by have := hb12.size; omega) hb13.size)
  go_wp2_with fail
  refine (New_calls _ 3 3 [2, 0, 5] _ (w4.heap.size + 1) (Reads.new w4 (bys [2, 0, 5]) 5 1 3 rfl) (by simp) (by omega)).mono ?_
  rintro e w5 ⟨g5, rfl, hg5, hr5, hb5⟩
  simp only [World.size_alloc] at hg5
  have hb45 : Below w4.heap.size w4 w5 := (Below.alloc (Below.refl _ _) (Nat.le_refl _) _).trans (hb5.mono (by simp))
  have hb15 : Below w.heap.size w w5 := hb14.trans (hb45.mono hb14.size)
  have ho5 := own_below (Nat.le_refl _) ho4 hb45
  have hr45 := hr4.below hb45 hr4.lt
  have hgl := hr4.lt
  go_wp2_with fail
  refine (RNumber_calls g5 _ _ _ hr5).mono ?_
  rintro e w6 ⟨rfl, hr6, hm6⟩
  have e2 : rdN [2, 0, 5] false = (0, [2, 0, 5], true) := by simp [rdN]
  rw [e2] at hr6 ⊢
  simp only [Int.natCast_zero] at hr6 ⊢
  have hb16 : Below w.heap.size w w6 := hb15.trans (below_of_mut hm6 (by have := hb14.size; omega) hb15.size)
  have ho6 := own_mut ho5 hm6 (by obtain ⟨A2, c2, rfl, hr⟩ := ho4.slice; obtain ⟨b, off, rfl, hb, _⟩ := hr.2 (by simp [bys]); simp [Value.ownBlock]; omega)
  have hr46 : Rd w6 g [1, 97] false := hr45.mut hm6 (by omega)
  clear ho2 ho3 ho4 ho5 hr3 hr4 hr45 hr5 hb1 hb2 hb12 hb3 hb13 hb14 hb5 hb45 hb15 hm4 hm6 e1 e2 hg3 hg5 hgl
  go_wp2_with fail
  obtain ⟨C, hC⟩ : ∃ C : World → Prop, C = fun W => Below w.heap.size w W ∧ sl [1, 1, 1, 1, 0] v2 W ∧ Rd W g [1, 97] false ∧ Rd W g5 [2, 0, 5] true := ⟨_, rfl⟩
  have hg : ∀ W W', C W → Below W.heap.size W W' → C W' := by
    subst hC
    rintro W W' ⟨h1, h2, h3, h4⟩ hb
    exact ⟨h1.trans (hb.mono h1.size), sl_st _ _ _ _ h2 hb, h3.below hb h3.lt, h4.below hb h4.lt⟩
  refine wp_region_grow C [sl [2, 1, 2], isV (.string ⟨#[2, 1, 2]⟩), sl [2, 1, 2], isV (.string ⟨#[2, 1, 2]⟩), isV (.bool true), isV (.bool true),
      isV v2, isV (.string ⟨#[1, 1, 1, 1, 0]⟩), sl [1, 1, 1, 1, 0], isV (.string ⟨#[1, 1, 1, 1, 0]⟩), isV (.bool true), isV (.bool true), isV (.bool true),
      isV (.int .u64 258), isV (.bool true), isV (.bool true), isV (.bool true), isV (.bool false), isV (.bool true), isV (.bool true), isV (.bool true), isV (.pointer (some ⟨g, 0, none⟩)), isV (.bool false), isV (.bool true), isV (.bool true),
      isV (.bool true), isV (.int .u64 0), isV (.bool true), isV (.bool true), isV (.bool true), isV (.pointer (some ⟨g5, 0, none⟩)), isV (.bool true), isV (.bool true), isV (.bool true)]
    [([], []), ([0], [(19, 0)]), ([], []), ([2], [(21, 2)]), ([1, 3], [(20, 1), (22, 3)]), ([4], [(23, 4)]), ([5], []), ([6, 5], [(25, 6)]), ([5], []), ([8, 5], [(27, 8)]), ([7, 9, 5], [(26, 7), (28, 9)]), ([5, 10], [(24, 5), (29, 10)]), ([11], [(30, 11)]), ([12], []), ([13, 12], [(32, 13)]), ([12, 14], [(31, 12), (33, 14)]), ([15], [(34, 15)]), ([16], []), ([17, 16], [(36, 17)]), ([16, 18], [(35, 16), (37, 18)]), ([19], [(38, 19)]), ([20], []), ([21, 20], [(40, 21)]), ([22, 20], [(41, 22)]), ([20, 23], [(39, 20), (42, 23)]), ([24], [(43, 24)]), ([25], []), ([26, 25], [(45, 26)]), ([25, 27], [(44, 25), (46, 27)]), ([28], [(47, 28)]), ([29], []), ([30, 29], [(49, 30)]), ([29, 31], [(48, 29), (50, 31)]), ([32], [(51, 32)])] 52 rfl (by kernel_rfl) (by kernel_rfl) (by kernel_rfl) hg (by rw [hC]; exact ⟨hb16.drew, sl_own ho6, hr46, hr6⟩) ?st ?ow ?_
  case st =>
    simp only [List.forall_mem_cons]
    and_intros
    all_goals first | exact isV_st _ | exact sl_st _ | simp
  case ow =>
    simp only [OwedQ]
    and_intros
    all_goals try trivial
    all_goals
      intro V w' hc hp
      try simp only [List.forall_mem_cons, tab_zero, tab_succ, isV] at hp
      try simp [wantsG, rhoP, List.lookup, hp, tab_zero, tab_succ, ResG, execOp, bareOp, isV, Below.refl, go_sem]
    · refine (Number_calls none 0 0 [] 258 (by omega) w' 0 (Reads.nil _ _ _ _) (by omega) (by omega)).mono ?_
      rintro e w'' ⟨v, rfl, ho, hb⟩
      rw [List.nil_append, packN_258] at ho
      exact ⟨v, rfl, sl_own ho, hb⟩
    · rw [str hp.1]; simp [Result.andThen, Below.refl]
    · exact ⟨sl_new _ _ _ _ rfl _ rfl, (Below.refl _ _).alloc (Nat.le_refl _) _⟩
    · rw [str hp.1]; simp [Result.andThen, Below.refl]
    · rw [hC] at hc
      rw [str hc.2.1]; simp [Result.andThen, Below.refl]
    · exact ⟨sl_new _ _ _ _ rfl _ rfl, (Below.refl _ _).alloc (Nat.le_refl _) _⟩
    · rw [str hp.1]; simp [Result.andThen, Below.refl]
    · rw [hC] at hc
      exact (Wrong_calls g _ _ w' hc.2.2.1).mono fun e w'' ⟨he, hw⟩ => ⟨_, he, rfl, hw ▸ Below.refl _ _⟩
    · rw [hC] at hc
      exact (Wrong_calls g5 _ _ w' hc.2.2.2).mono fun e w'' ⟨he, hw⟩ => ⟨_, he, rfl, hw ▸ Below.refl _ _⟩
  intro V W hc hp
  have h33 := hp 33 (by simp)
  simp only [tab_zero, tab_succ, isV] at h33
  rw [hC] at hc
  have hc1 := hc.1
  clear hp hc hg
  simp only [putAll, Act.put, List.setIfInBounds_toArray, List.set_cons_succ, List.set_cons_zero, h33]
  go_wp2
  go_ret
  exact ⟨rfl, hc1⟩

set_option maxHeartbeats 400000 in
theorem PackNames_walk (w : World) :
    Calls Try.prog 3 #[] w fun e w' => e = .returned (.bool true) ∧ Below w.heap.size w w' := by
  go_enter Try.func3, Try.ntmps3
  go_wp2_with fail
  refine (awake_calls w).mono ?_
  rintro e w1 ⟨rfl, hb⟩
  go_wp2
  go_ret
  exact ⟨rfl, hb⟩
end Go.Proofs.Ytipkjgfhadlblaa
