/-
  postilionlaw04.EventFinds: the walk. Conditions: none.
-/
import Derived.Test.YtghgapfhlfcjiaaEvent2
namespace Go.Proofs.Ytghgapfhlfcjiaa
open Go Go.RowKit

theorem findV_any {l : List Att} {s : ByteArray} (h : l.any (isN s) = true) : ∃ k n t, findV l s = .tuple #[vv k n t, .bool true] := by
  rw [← find_some_any] at h
  obtain ⟨x, hx⟩ := Option.isSome_iff_exists.1 h
  exact ⟨x.2.1, x.2.2.1, x.2.2.2, by simp only [findV, hx]⟩
theorem findV_none {l : List Att} {s : ByteArray} (h : l.any (isN s) = false) : findV l s = .tuple #[vv 0 0 { data := #[] }, .bool false] := by
  rw [← find_some_any] at h
  cases hx : l.find? (isN s) with
  | none => simp only [findV, hx]
  | some x => rw [hx] at h; cases h
theorem any_take (l : List Att) (s : ByteArray) (k : Nat) (hk : k < l.length) : (l.take (k + 1)).any (isN s) = ((l.take k).any (isN s) || isN s l[k]) := by
  rw [List.take_succ_eq_append_getElem hk, List.any_append]; simp

set_option maxHeartbeats 8000000 in
set_option maxRecDepth 100000 in
theorem EventFinds_walk (v0 v1 : Value) (w : World) (r0 : repEvent w v0) (r1 : repStr w v1) :
    Calls Try.prog 7 #[v0, v1] w fun e w' => e = .returned (.bool true) ∧ Below w.heap.size w w' := by
  obtain ⟨l, he, hi⟩ := evt_rep r0
  obtain ⟨name, rfl⟩ := r1
  clear r0 hi
  obtain ⟨A, c, rfl, hR⟩ := id he
  go_enter Try.func7, Try.ntmps7
  go_wp2_with fail
  refine (awake_calls w).mono ?_
  rintro e w1 ⟨rfl, hb1⟩
  have he1 := evt_st _ _ _ _ he hb1
  have hR1 := hR.below hb1 (Nat.le_refl _)
  clear he hR
  go_wp2_with fail
  refine (Few_evt he1).mono ?_
  rintro e w' ⟨rfl, rfl⟩
  cases hf : fewE l
  · go_wp2
    go_ret
    exact ⟨rfl, hb1⟩
  have hlen := (few_fit hf).1
  go_wp2_with fail
  refine (ECheck_evt he1).mono ?_
  rintro e w2 ⟨rfl, hb2⟩
  have he2 := evt_st _ _ _ _ he1 hb2
  have hbw2 := hb1.trans (hb2.mono hb1.size)
  have hR2 := hR1.below hb2 hb1.size
  clear he1 hb2 hR1 hb1
  cases hok : okE l
  · have hne : (chkE l != 0) = true := by simp [chkE, hok]
    go_wp2
    go_ret
    exact ⟨rfl, hbw2⟩
  have hne : (chkE l != 0) = false := by simp [chkE, hok]
  by_cases hn : name.size ≤ 100
  rotate_left
  · have hn' : (100 : Int) < (name.size : Int) := by omega
    go_wp2
    go_ret
    exact ⟨rfl, hbw2⟩
  have hn' : ¬ (100 : Int) < (name.size : Int) := by omega
  have HOK := Lib.hid hok
  have HRD := Lib.hid hR2
  have HE2 := Lib.hid he2
  clear hok hR2 he2
  go_wp2_with fail
  go_loopw [6, 7] (fun t i wr => ∃ k : Nat, k ≤ l.length ∧ i = .int .i64 (k : Int) ∧ t = .bool ((l.take k).any (isN name)) ∧ Below w2.heap.size w2 wr) (fun _ i _ => l.length - (intOf i).toNat)
  case atStart => exact ⟨0, by omega, rfl, by simp, Below.refl _ _⟩
  case round =>
    obtain ⟨k, hk, rfl, rfl, hb⟩ := hrel
    have her := evt_st _ _ _ _ HE2.out hb
    have hbw := hbw2.trans (hb.mono hbw2.size)
    have hz2 := hbw2.size
    have hz := hb.size
    by_cases hlt : k < l.length
    · have hki : (k : Int) < (l.length : Int) := by omega
      have hn1 : (0 : Int) ≤ (k : Int) := by omega
      obtain ⟨b, off, rfl, hbB, hcell⟩ := HRD.out.atts (by omega)
      obtain ⟨e0, e1, e2, e3⟩ := hcell k hlt
      have hbz : b < w2.heap.size := by omega
      have d0 := (hb.cell (p := ⟨b, off + k * 4, none⟩) hbz).trans e0
      have d1 := (hb.cell (p := ⟨b, off + k * 4 + 1, none⟩) hbz).trans e1
      have d2 := (hb.cell (p := ⟨b, off + k * 4 + 2, none⟩) hbz).trans e2
      have d3 := (hb.cell (p := ⟨b, off + k * 4 + 3, none⟩) hbz).trans e3
      have hfo : findV l l[k].1 = .tuple #[vv l[k].2.1 l[k].2.2.1 l[k].2.2.2, .bool true] := by
        simp only [findV, find_own l HOK.out k hlt]
      have HF : Hid (∀ W, evt l (.slice (some ⟨b, off, none⟩) l.length c) W → Calls Try.prog 14 #[.slice (some ⟨b, off, none⟩) l.length c, .string l[k].1] W fun e w' => e = .returned (.tuple #[vv l[k].2.1 l[k].2.2.1 l[k].2.2.2, .bool true]) ∧ Below W.heap.size W w') := Lib.hid fun W h => by
        have := Find_evt l[k].1 h hlen; rwa [hfo] at this
      have HT := Lib.hid (any_take l name k hlt)
      clear e0 e1 e2 e3 hcell hfo
      generalize l[k] = x at *
      obtain ⟨xs, vk, vn, vt⟩ := x
      simp only at d0 d1 d2 d3 HF
      generalize (l.take k).any (isN name) = th at *
      go_wp2_with fail
      refine (HF.out _ her).mono ?_
      rintro e w3 ⟨rfl, hb3⟩
      have hb3w := hb.trans (hb3.mono hz)
      have f0 := (hb3.cell (p := ⟨b, off + k * 4, none⟩) (by simp; omega)).trans d0
      have f1 := (hb3.cell (p := ⟨b, off + k * 4 + 1, none⟩) (by simp; omega)).trans d1
      have f2 := (hb3.cell (p := ⟨b, off + k * 4 + 2, none⟩) (by simp; omega)).trans d2
      have f3 := (hb3.cell (p := ⟨b, off + k * 4 + 3, none⟩) (by simp; omega)).trans d3
      have hz3 := hb3w.size
      have hx4 := Blk.new w3 31 #[.int .i64 vk, .int .i64 vn, .string vt]
      have hk4 : Below w3.heap.size w3 (w3.alloc (.cells #[.int .i64 vk, .int .i64 vn, .string vt] 31)) := (Below.refl _ _).alloc (Nat.le_refl _) _
      have hb4w := hb3w.trans (hk4.mono hz3)
      have k0 := (hk4.cell (p := ⟨b, off + k * 4, none⟩) (by simp; omega)).trans f0
      have k1 := (hk4.cell (p := ⟨b, off + k * 4 + 1, none⟩) (by simp; omega)).trans f1
      have k2 := (hk4.cell (p := ⟨b, off + k * 4 + 2, none⟩) (by simp; omega)).trans f2
      have k3 := (hk4.cell (p := ⟨b, off + k * 4 + 3, none⟩) (by simp; omega)).trans f3
      clear d0 d1 d2 d3 f0 f1 f2 f3 hb3 HF her
      go_wp2_with fail
      generalize hw4 : w3.alloc (.cells #[.int .i64 vk, .int .i64 vn, .string vt] 31) = w4 at *
      generalize hg8 : w3.heap.size = g8 at *
      have hz4 : b < w4.heap.size := by have := hb4w.size; omega
      clear hw4 hg8 hk4 hb3w
      obtain ⟨C, hC⟩ : ∃ C : World → Prop, C = fun W => Below w4.heap.size w4 W ∧ Blk W g8 31 #[.int .i64 vk, .int .i64 vn, .string vt] := ⟨_, rfl⟩
      have hg : ∀ W W', C W → Below W.heap.size W W' → C W' := by
        subst hC
        exact fun W W' h1 hb => ⟨h1.1.trans (hb.mono h1.1.size), h1.2.below hb h1.2.lt⟩
      have hc0 : C w4 := by rw [hC]; exact ⟨Below.refl _ _, hx4⟩
      refine wp_region_grow C [isV (.bool true),
          isV (.bool false),
          isV (.bool false),
          isV (vv vk vn vt),
          isV (.slice (some ⟨b, off, none⟩) l.length c),
          isV (.int .i64 ((k : Int))),
          isV (.pointer (some ⟨b, off + k * 4, none⟩)),
          isV (.pointer (some ⟨b, off + k * 4 + 1, none⟩)),
          isV (vv vk vn vt),
          isV (.bool false),
          isV (.bool false)]
        [([], []), ([0], [(43, 0)]), ([1], [(44, 1)]), ([2], []), ([2], []), ([2], []), ([4, 5, 2], [(47, 4), (48, 5)]), ([6, 2], [(49, 6)]), ([7, 2], [(50, 7)]), ([3, 8, 2], [(46, 3), (51, 8)]), ([2, 9], [(45, 2), (52, 9)])] 84 rfl (by kernel_rfl) (by kernel_rfl) (by kernel_rfl) hg (by exact hg _ _ hc0 (Below.drew (Below.refl _ _))) ?st9 ?ow9 ?_
      case st9 =>
        simp only [List.forall_mem_cons]
        and_intros
        all_goals first | exact isV_st _ | simp
      case ow9 =>
        simp only [OwedQ]
        and_intros
        all_goals try trivial
        all_goals
          intro V w' hc hp
          rw [hC] at hc
          obtain ⟨hc, hx⟩ := hc
          have c1 := (hc.cell (p := ⟨b, off + k * 4 + 1, none⟩) hz4).trans k1
          have c2 := (hc.cell (p := ⟨b, off + k * 4 + 2, none⟩) hz4).trans k2
          have c3 := (hc.cell (p := ⟨b, off + k * 4 + 3, none⟩) hz4).trans k3
          have y0 := hx.cell 0
          have y1 := hx.cell 1
          have y2 := hx.cell 2
          simp at y0 y1 y2
          try simp only [List.forall_mem_cons, tab_zero, tab_succ, isV] at hp
          try simp [wantsG, rhoP, List.lookup, hp, tab_zero, tab_succ, ResG, execOp, bareOp, isV, Below.refl, c1, c2, c3, y0, y1, y2, hlt, go_sem]
      intro V W hc hp
      have h10 := hp 10 (by simp)
      simp only [tab_zero, tab_succ, isV] at h10
      rw [hC] at hc
      have hcW := hc.1
      clear hp hc hg hc0 hC
      simp only [putAll, Act.put, List.setIfInBounds_toArray, List.set_cons_succ, List.set_cons_zero, h10]
      have hbW := hb4w.trans (hcW.mono hb4w.size)
      have c0 := (hcW.cell (p := ⟨b, off + k * 4, none⟩) hz4).trans k0
      clear hcW hb4w hx4 k0 k1 k2 k3
      cases th
      · have HX : Hid ((l.take (k + 1)).any (isN name) = (xs.toList == name.toList)) := Lib.hid (by rw [HT.out, byt_beq]; rfl)
        go_wp2
        go_roundw
        case rel => exact ⟨k + 1, by omega, by go_num, by rw [HX.out], hbW⟩
        case measure => simp [intOf]; omega
      · have HX : Hid ((l.take (k + 1)).any (isN name) = true) := Lib.hid (by rw [HT.out]; rfl)
        go_wp2
        go_roundw
        case rel => exact ⟨k + 1, by omega, by go_num, by rw [HX.out], hbW⟩
        case measure => simp [intOf]; omega
    · have hki : ¬ (k : Int) < (l.length : Int) := by omega
      rw [List.take_of_length_le (by omega)]
      cases ha : l.any (isN name)
      · have hfo := findV_none ha
        have HF : Hid (∀ W, evt l (.slice A l.length c) W → Calls Try.prog 14 #[.slice A l.length c, .string name] W fun e w' => e = .returned (.tuple #[vv 0 0 { data := #[] }, .bool false]) ∧ Below W.heap.size W w') := Lib.hid fun W h => by
          have := Find_evt name h hlen; rwa [hfo] at this
        clear hfo ha
        go_wp2_with fail
        refine (HF.out _ her).mono ?_
        rintro e w3 ⟨rfl, hb3⟩
        have hb3w := hbw.trans (hb3.mono hbw.size)
        go_wp2
        go_ret
        exact ⟨by simp, hb3w.alloc hb3w.size _⟩
      · obtain ⟨fk, fn, ft, hfo⟩ := findV_any ha
        have HF : Hid (∀ W, evt l (.slice A l.length c) W → Calls Try.prog 14 #[.slice A l.length c, .string name] W fun e w' => e = .returned (.tuple #[vv fk fn ft, .bool true]) ∧ Below W.heap.size W w') := Lib.hid fun W h => by
          have := Find_evt name h hlen; rwa [hfo] at this
        clear hfo ha
        go_wp2_with fail
        refine (HF.out _ her).mono ?_
        rintro e w3 ⟨rfl, hb3⟩
        have hb3w := hbw.trans (hb3.mono hbw.size)
        go_wp2
        go_ret
        exact ⟨by simp, hb3w.alloc hb3w.size _⟩
end Go.Proofs.Ytghgapfhlfcjiaa
