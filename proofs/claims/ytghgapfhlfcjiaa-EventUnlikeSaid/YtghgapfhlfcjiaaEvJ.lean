/-
  The walk of 'awake' of the statements of layer 4, and that of EventNames. Conditions: none.
-/
import Derived.Test.YtghgapfhlfcjiaaEvD
import Derived.Test.YtghgapfhlfcjiaaEvF
import Derived.Test.YtghgapfhlfcjiaaEvG
import Derived.Test.YtghgapfhlfcjiaaEvH
namespace Go.Proofs.Ytghgapfhlfcjiaa
open Go Go.RowKit

attribute [local go_sem ↓] Go.wp_at_zero Go.wp_at_succ

/-- A slice that reads as an event. -/
def evt (l : List Att) (v : Value) (w : World) : Prop := ∃ A c, v = .slice A l.length c ∧ Reads w w.heap.size 4 A l.length (l.flatMap attc)
theorem evt_st (l : List Att) : ∀ v w w', evt l v w → Below w.heap.size w w' → evt l v w' := by
  rintro v w w' ⟨A, c, rfl, hr⟩ hb
  exact ⟨A, c, rfl, (hr.below hb (Nat.le_refl _)).more hb.size⟩
theorem evt_own {w : World} {base : Nat} {v : Value} {l : List Att} (h : OwnE w base v l) : evt l v w := by
  obtain ⟨A, c, rfl, hr, _⟩ := h.slice
  exact ⟨A, c, rfl, hr⟩

section
variable {l la lb : List Att} {b : List UInt8} {v va vb : Value} {w : World}
theorem Decode_sl (h : sl b v w) (hn : b.length ≤ 1000000000) : Calls Try.prog 20 #[v] w fun e w' =>
    ∃ v', e = .returned (.tuple #[v', .int .i64 (decC b)]) ∧ OwnE w' w.heap.size v' (decL b) ∧ Below w.heap.size w w' := by
  obtain ⟨A, c, rfl, hR⟩ := h
  exact Decode_calls A _ c b w _ hR (Nat.le_refl _) hn
theorem Encode_evt (h : evt l v w) (hi : ∀ x ∈ l, i64ok x.2.1 ∧ i64ok x.2.2.1) : Calls Try.prog 12 #[v] w fun e w' =>
    ∃ v', e = .returned (.tuple #[v', .int .i64 (chkE l)]) ∧ Own w' w.heap.size 5 v' (encR l) ∧ Below w.heap.size w w' := by
  obtain ⟨A, c, rfl, hR⟩ := h
  exact Encode_calls A c l w _ hR (Nat.le_refl _) hi
theorem RefEncode_evt (h : evt l v w) (hlen : l.length ≤ 1000000) (hsz : ∀ x ∈ l, x.1.size ≤ 1000000000) (hi : ∀ x ∈ l, i64ok x.2.1 ∧ i64ok x.2.2.1) : Calls Try.prog 13 #[v] w fun e w' =>
    ∃ v', e = .returned (.tuple #[v', .int .i64 (chkE l)]) ∧ Own w' w.heap.size 5 v' (encR l) ∧ Below w.heap.size w w' := by
  obtain ⟨A, c, rfl, hR⟩ := h
  exact RefEncode_calls A c l w _ hR (Nat.le_refl _) hlen hsz hi
theorem ECheck_evt (h : evt l v w) : Calls Try.prog 16 #[v] w fun e w' => e = .returned (.int .i64 (chkE l)) ∧ Below w.heap.size w w' := by
  obtain ⟨A, c, rfl, hR⟩ := h
  exact ECheck_calls A c l w _ hR (Nat.le_refl _)
theorem RefECheck_evt (h : evt l v w) (hlen : l.length ≤ 1000000) (hsz : ∀ x ∈ l, x.1.size ≤ 1000000000) : Calls Try.prog 17 #[v] w fun e w' => e = .returned (.int .i64 (chkE l)) ∧ Below w.heap.size w w' := by
  obtain ⟨A, c, rfl, hR⟩ := h
  exact RefECheck_calls A c l w _ hR (Nat.le_refl _) hlen hsz
theorem Find_evt (s : ByteArray) (h : evt l v w) (hlen : l.length ≤ 1000000) : Calls Try.prog 14 #[v, .string s] w fun e w' => e = .returned (findV l s) ∧ Below w.heap.size w w' := by
  obtain ⟨A, c, rfl, hR⟩ := h
  exact Find_calls A c l s w _ hR (Nat.le_refl _) hlen
theorem RefFind_evt (s : ByteArray) (h : evt l v w) (hlen : l.length ≤ 1000000) : Calls Try.prog 15 #[v, .string s] w fun e w' => e = .returned (findV l s) ∧ Below w.heap.size w w' := by
  obtain ⟨A, c, rfl, hR⟩ := h
  exact RefFind_calls A c l s w _ hR (Nat.le_refl _) hlen
theorem Same_evt (h : evt la va w) (k : evt lb vb w) (hlen : la.length ≤ 1000000) : Calls Try.prog 22 #[va, vb] w fun e w' => e = .returned (.bool (decide (la = lb))) ∧ Below w.heap.size w w' := by
  obtain ⟨A, c, rfl, hR⟩ := h
  obtain ⟨D, d, rfl, hS⟩ := k
  exact Same_calls A D c d la lb w _ _ hR (Nat.le_refl _) hS (Nat.le_refl _) hlen
theorem Few_evt (h : evt l v w) : Calls Try.prog 11 #[v] w fun e w' => e = .returned (.bool (fewE l)) ∧ w = w' := by
  obtain ⟨A, c, rfl, hR⟩ := h
  exact Few_calls A c l w _ hR (Nat.le_refl _)
end

/-- The event of 'awake'. -/
abbrev xA : Att := (⟨#[112]⟩, 1, 5, ⟨#[]⟩)
abbrev encX : List UInt8 := [1, 1, 1, 1, 112, 1, 1, 1, 10, 0]
theorem okX : okE [xA] = true := by simp [okE, okL, okA, behind, okName, okCh, okV, ByteArray.size, ByteArray.toList_eq]
theorem encR_x : encR [xA] = encX := by
  simp [encR, okX, encE, encA, packV, packN, kindN, numV, foldI, longN, be, ByteArray.size, byt]
theorem decE_x : decE encX = some [xA] := by
  have h := okX
  simp [decE, decS, rdAs, rdA, rdN, rdB, rdV, ofBe, okV, rdVn, unfoldI, h, ByteArray.toList_eq]
theorem decL_x : decL encX = [xA] := by simp [decL, decE_x]
theorem decC_x : decC encX = 0 := by simp [decC, decE_x]
theorem decE_nil : decE [] = none := by simp [decE, decS, rdAs, rdN]
theorem decL_nil : decL [] = [] := by simp [decL, decE_nil]
theorem decC_nil : decC [] = 40 := by simp [decC, decE_nil]
theorem find_p : findV [xA] ⟨#[112]⟩ = .tuple #[vv 1 5 { data := #[] }, .bool true] := by simp [findV, isN]
theorem find_q : findV [xA] ⟨#[113]⟩ = .tuple #[vv 0 0 { data := #[] }, .bool false] := by simp [findV, isN]
theorem chkE_x : chkE [xA] = 0 := by simp [chkE, okX]
theorem name_a1 : okName ⟨#[97, 49]⟩ = true := by simp [okName, okCh, ByteArray.size]
theorem name_A : okName ⟨#[65]⟩ = false := by simp [okName, okCh, ByteArray.size]

set_option maxHeartbeats 8000000 in
set_option maxRecDepth 100000 in
theorem awake_calls (w : World) :
    Calls Try.prog 10 #[] w fun e w' => e = .returned (.bool true) ∧ Below w.heap.size w w' := by
  go_enter Try.func10, Try.ntmps10
  go_wp2_with fail
  refine (Int_calls 5 _).mono ?_
  rintro e w1 ⟨rfl, hb1⟩
  have hz1 := hb1.size
  have hx := Reads.new w1 (attc xA) 43 4 1 rfl
  have hi : ∀ x ∈ [xA], i64ok x.2.1 ∧ i64ok x.2.2.1 := by
    intro x hx
    simp only [List.mem_singleton] at hx
    subst hx
    unfold i64ok; simp
  have hbx : Below w.heap.size w (w1.alloc (.cells #[.string { data := #[112] }, .int .i64 1, .int .i64 5, .string { data := #[] }] 43)) := hb1.alloc hz1 _
  have hevx : evt [xA] (.slice (some ⟨w1.heap.size, 0, none⟩) 1 1) (w1.alloc (.cells #[.string { data := #[112] }, .int .i64 1, .int .i64 5, .string { data := #[] }] 43)) := ⟨_, _, rfl, hx.more (by simp)⟩
  go_upto_region 2 with (fail)
  generalize w1.alloc (.cells #[.string { data := #[112] }, .int .i64 1, .int .i64 5, .string { data := #[] }] 43) = wa at hbx hevx ⊢
  generalize Value.slice (some ⟨w1.heap.size, 0, none⟩) 1 1 = v1 at hevx ⊢
  clear hx hb1 hz1
  go_wp2_with fail
  refine (Encode_evt hevx hi).mono ?_
  rintro e w2 ⟨v2, rfl, ho2, hb2⟩
  rw [encR_x] at ho2
  rw [chkE_x]
  have hev2 := evt_st _ _ _ _ hevx hb2
  have hbw2 := hbx.trans (hb2.mono hbx.size)
  have hs2 := sl_own ho2
  clear hevx hbx hb2 ho2 hi
  go_wp2_with fail
  refine (Decode_sl hs2 (by simp)).mono ?_
  rintro e w3 ⟨v4, rfl, ho3, hb3⟩
  rw [decL_x] at ho3
  rw [decC_x]
  have hev3 := evt_st _ _ _ _ hev2 hb3
  have hs3 := sl_st _ _ _ _ hs2 hb3
  have hd3 := evt_own ho3
  have hbw3 := hbw2.trans (hb3.mono hbw2.size)
  clear hev2 hbw2 hb3 ho3 hs2
  go_wp2_with fail
  refine (Find_evt _ hev3 (by simp)).mono ?_
  rintro e w4 ⟨rfl, hb4⟩
  rw [find_p]
  have hev4 := evt_st _ _ _ _ hev3 hb4
  have hs4 := sl_st _ _ _ _ hs3 hb4
  have hd4 := evt_st _ _ _ _ hd3 hb4
  have hbw4 := hbw3.trans (hb4.mono hbw3.size)
  clear hev3 hbw3 hb4 hd3 hs3
  go_wp2_with fail
  have hk5 : Below w4.heap.size w4 (w4.alloc (.cells #[.int .i64 1, .int .i64 5, .string { data := #[] }] 31)) := (Below.refl _ _).alloc (Nat.le_refl _) _
  have hx5 := Blk.new w4 31 #[.int .i64 1, .int .i64 5, .string { data := #[] }]
  have hev5 := evt_st _ _ _ _ hev4 hk5
  have hs5 := sl_st _ _ _ _ hs4 hk5
  have hd5 := evt_st _ _ _ _ hd4 hk5
  have hbw5 := hbw4.trans (hk5.mono hbw4.size)
  generalize w4.alloc (.cells #[.int .i64 1, .int .i64 5, .string { data := #[] }] 31) = w5 at *
  generalize w4.heap.size = g6 at *
  clear hev4 hs4 hd4 hbw4 hk5
  refine (Find_evt _ hev5 (by simp)).mono ?_
  rintro e w6 ⟨rfl, hb6⟩
  rw [find_q]
  have hev6 := evt_st _ _ _ _ hev5 hb6
  have hs6 := sl_st _ _ _ _ hs5 hb6
  have hd6 := evt_st _ _ _ _ hd5 hb6
  have hx6 := hx5.below hb6 hx5.lt
  have hbw6 := hbw5.trans (hb6.mono hbw5.size)
  clear hev5 hs5 hd5 hbw5 hb6 hx5
  have hk7 : Below w6.heap.size w6 (w6.alloc (.cells #[.int .i64 0, .int .i64 0, .string { data := #[] }] 31)) := (Below.refl _ _).alloc (Nat.le_refl _) _
  have hev7 := evt_st _ _ _ _ hev6 hk7
  have hs7 := sl_st _ _ _ _ hs6 hk7
  have hd7 := evt_st _ _ _ _ hd6 hk7
  have hx7 := hx6.below hk7 hx6.lt
  have hbw7 := hbw6.trans (hk7.mono hbw6.size)
  go_wp2_with fail
  generalize w6.alloc (.cells #[.int .i64 0, .int .i64 0, .string { data := #[] }] 31) = w7 at *
  generalize w6.heap.size = g8 at *
  clear hev6 hs6 hd6 hbw6 hk7 hx6
  refine (Decode_sl (b := []) (w := w7) ⟨none, 0, rfl, Reads.nil _ _ _ _⟩ (by simp)).mono ?_
  rintro e w8 ⟨v10, rfl, -, hb8⟩
  rw [decC_nil]
  have hev8 := evt_st _ _ _ _ hev7 hb8
  have hs8 := sl_st _ _ _ _ hs7 hb8
  have hd8 := evt_st _ _ _ _ hd7 hb8
  have hx8 := hx7.below hb8 hx7.lt
  have hbw8 := hbw7.trans (hb8.mono hbw7.size)
  clear hev7 hs7 hd7 hbw7 hb8 hx7
  go_wp2_with fail
  refine (Same_evt hev8 hd8 (by simp)).mono ?_
  rintro e w9 ⟨rfl, hb9⟩
  rw [show decide ([xA] = [xA]) = true from by simp]
  have hev9 := evt_st _ _ _ _ hev8 hb9
  have hs9 := sl_st _ _ _ _ hs8 hb9
  have hx9 := hx8.below hb9 hx8.lt
  have hbw9 := hbw8.trans (hb9.mono hbw8.size)
  clear hev8 hs8 hd8 hbw8 hb9 hx8
  go_wp2_with fail
  obtain ⟨C, hC⟩ : ∃ C : World → Prop, C = fun W => Below w.heap.size w W ∧ evt [xA] v1 W ∧ sl encX v2 W ∧ Blk W g6 31 #[.int .i64 1, .int .i64 5, .string { data := #[] }] := ⟨_, rfl⟩
  have hg : ∀ W W', C W → Below W.heap.size W W' → C W' := by
    subst hC
    rintro W W' ⟨h1, h2, h3, h4⟩ hb
    exact ⟨h1.trans (hb.mono h1.size), evt_st _ _ _ _ h2 hb, sl_st _ _ _ _ h3 hb, h4.below hb h4.lt⟩
  have hc0 : C w9 := by rw [hC]; exact ⟨hbw9, hev9, hs9, hx9⟩
  refine wp_region_grow C [isV (v2),
      isV (.string ⟨#[1, 1, 1, 1, 112, 1, 1, 1, 10, 0]⟩),
      sl [1, 1, 1, 1, 112, 1, 1, 1, 10, 0],
      isV (.string ⟨#[1, 1, 1, 1, 112, 1, 1, 1, 10, 0]⟩),
      isV (.bool true),
      isV (.bool true),
      isV (.int .i64 (0)),
      isV (.bool true),
      isV (.bool true),
      isV (.bool true),
      isV (.bool true),
      isV (.bool true),
      isV (.bool true),
      isV (.int .i64 (0)),
      isV (.bool true),
      isV (.bool true),
      isV (.bool true),
      isV (vv 1 5 { data := #[] }),
      isV (vv 1 5 { data := #[] }),
      isV (.bool true),
      isV (.bool true),
      isV (.bool true),
      isV (.bool true),
      isV (.bool true),
      isV (.bool true),
      isV (.bool false),
      isV (.bool true),
      isV (.bool true),
      isV (.bool true),
      isV (.int .i64 (40)),
      isV (.bool true),
      isV (.bool true),
      isV (.bool true),
      isV (v1),
      isV (.int .i64 (0)),
      isV (.bool true),
      isV (.bool true),
      isV (.bool true),
      isV (.bool true),
      isV (.bool true),
      isV (.bool true),
      isV (.bool false),
      isV (.bool true),
      isV (.bool true),
      isV (.bool true)]
    [([], []), ([0], [(43, 0)]), ([], []), ([2], [(45, 2)]), ([1, 3], [(44, 1), (46, 3)]), ([4], [(47, 4)]), ([5], []), ([6, 5], [(49, 6)]), ([5, 7], [(48, 5), (50, 7)]), ([8], [(51, 8)]), ([9], []), ([9, 10], [(52, 9), (53, 10)]), ([11], [(54, 11)]), ([12], []), ([13, 12], [(56, 13)]), ([12, 14], [(55, 12), (57, 14)]), ([15], [(58, 15)]), ([16], []), ([16], []), ([17, 18, 16], [(60, 17), (61, 18)]), ([16, 19], [(59, 16), (62, 19)]), ([20], [(63, 20)]), ([21], []), ([21, 22], [(64, 21), (65, 22)]), ([23], [(66, 23)]), ([24], []), ([25, 24], [(68, 25)]), ([24, 26], [(67, 24), (69, 26)]), ([27], [(70, 27)]), ([28], []), ([29, 28], [(72, 29)]), ([28, 30], [(71, 28), (73, 30)]), ([31], [(74, 31)]), ([32], []), ([33, 32], [(76, 33)]), ([34, 32], [(77, 34)]), ([32, 35], [(75, 32), (78, 35)]), ([36], [(79, 36)]), ([37], []), ([37, 38], [(80, 37), (81, 38)]), ([39], [(82, 39)]), ([40], []), ([41, 40], [(84, 41)]), ([40, 42], [(83, 40), (85, 42)]), ([43], [(86, 43)])] 87 rfl (by kernel_rfl) (by kernel_rfl) (by kernel_rfl) hg (by exact hg _ _ hc0 (Below.drew (Below.refl _ _))) ?st8 ?ow8 ?_
  case st8 =>
    simp only [List.forall_mem_cons]
    and_intros
    all_goals first | exact isV_st _ | exact sl_st _ | simp
  case ow8 =>
    simp only [OwedQ]
    and_intros
    all_goals try trivial
    all_goals
      intro V w' hc hp
      rw [hC] at hc
      obtain ⟨-, he, hs, hx⟩ := hc
      have c0 := hx.cell 0
      have c1 := hx.cell 1
      have c2 := hx.cell 2
      simp at c0 c1 c2
      try simp only [List.forall_mem_cons, tab_zero, tab_succ, isV] at hp
      try simp [wantsG, rhoP, List.lookup, hp, tab_zero, tab_succ, ResG, execOp, bareOp, isV, Below.refl, c0, c1, c2, go_sem]
    · rw [str hs]; simp [Result.andThen, Below.refl]
    · exact ⟨sl_new _ _ _ _ rfl _ rfl, (Below.refl _ _).alloc (Nat.le_refl _) _⟩
    · rw [str hp.1]; simp [Result.andThen, Below.refl]
    · refine (Int_calls 5 w').mono ?_
      rintro e w2 ⟨rfl, hb⟩
      exact ⟨_, rfl, rfl, hb⟩
    · refine (ECheck_evt he).mono ?_
      rintro e w2 ⟨rfl, hb⟩
      exact ⟨_, rfl, by rw [chkE_x], hb⟩
    · refine (Name_calls _ w').mono ?_
      rintro e w2 ⟨rfl, rfl⟩
      exact ⟨_, rfl, by rw [name_a1], Below.refl _ _⟩
    · refine (Name_calls _ w').mono ?_
      rintro e w2 ⟨rfl, rfl⟩
      exact ⟨_, rfl, by rw [name_A], Below.refl _ _⟩
  intro V W hc hp
  have h44 := hp 44 (by simp)
  simp only [tab_zero, tab_succ, isV] at h44
  rw [hC] at hc
  have hc1 := hc.1
  clear hp hc hg
  simp only [putAll, Act.put, List.setIfInBounds_toArray, List.set_cons_succ, List.set_cons_zero, h44]
  go_wp2
  go_ret
  exact ⟨rfl, hc1⟩

set_option maxHeartbeats 400000 in
theorem EventNames_walk (w : World) :
    Calls Try.prog 3 #[] w fun e w' => e = .returned (.bool true) ∧ Below w.heap.size w w' := by
  go_enter Try.func3, Try.ntmps3
  go_wp2_with fail
  refine (awake_calls w).mono ?_
  rintro e w1 ⟨rfl, hb⟩
  go_wp2
  go_ret
  exact ⟨rfl, hb⟩
end Go.Proofs.Ytghgapfhlfcjiaa
