/-
  The walk of the document's Check of events (layer 4). Conditions: none.
-/
import Derived.Test.YthnhdeieimgfhaaVA
import Derived.Test.YthnhdeieimgfhaaRevA
import Derived.Test.YthnhdeieimgfhaaRefB
import Derived.Test.YthnhdeieimgfhaaMA
set_option maxRecDepth 100000
namespace Go.Proofs.Ythnhdeieimgfhaa
open Go Go.RowKit

theorem okL_zero' (l : List Att) (k : Nat) (hk : k < l.length) (r : Bool) (hr : ∀ h : 0 < k, r = ltS (l[k - 1]'(by omega)).1 l[k].1) :
    okL none (l.take (k + 1)) = (okL none (l.take k) && !(!(okName l[k].1) || !(okV l[k].2.1 l[k].2.2.1 l[k].2.2.2) || (decide (0 < k) && !r))) := by
  rcases Nat.eq_zero_or_pos k with h | h
  · subst h; rw [okL_zero l hk]; simp [okA, okL]
  · obtain ⟨j, rfl⟩ : ∃ j, k = j + 1 := ⟨k - 1, by omega⟩
    rw [okL_succ l j hk, hr (by omega)]
    simp [okA, Bool.and_assoc]

set_option maxHeartbeats 4000000 in
theorem RefECheck_calls (A : Option Addr) (c : Nat) (l : List Att) (w : World) (B : Nat) (hR : Reads w B 4 A l.length (l.flatMap attc)) (hB : B ≤ w.heap.size) (hlen : l.length ≤ 1000000) (hsz : ∀ x ∈ l, x.1.size ≤ 1000000000) :
    Calls Try.prog 134 #[.slice A l.length c] w fun e w' => e = .returned (.int .i64 (chkE l)) ∧ Below w.heap.size w w' := by
  by_cases h1 : l.length < 1
  · have h1' : (l.length : Int) < 1 := by omega
    have HE : Hid (chkE l = 40) := Lib.hid (by simp [chkE, okE, show ¬ 1 ≤ l.length by omega])
    clear hR
    generalize l.length = n at *
    go_enter Try.func134, Try.ntmps134
    go_wp2
    go_ret
    exact ⟨by rw [HE.out]; rfl, Below.refl _ _⟩
  have h1' : ¬ (l.length : Int) < 1 := by omega
  by_cases h16 : 16 < l.length
  · have h16' : (16 : Int) < (l.length : Int) := by omega
    have HE : Hid (chkE l = 40) := Lib.hid (by simp [chkE, okE]; omega)
    clear hR
    generalize l.length = n at *
    go_enter Try.func134, Try.ntmps134
    go_wp2
    go_ret
    exact ⟨by rw [HE.out]; rfl, Below.refl _ _⟩
  have h16' : ¬ (16 : Int) < (l.length : Int) := by omega
  obtain ⟨b, off, rfl, hbB, hcell⟩ := hR.atts (by omega)
  have HC := Lib.hid hcell
  have HS := Lib.hid hsz
  clear hcell hR hsz
  go_enter Try.func134, Try.ntmps134
  go_wp2_with fail
  go_loopw [3] (fun i wr => ∃ k : Nat, k ≤ l.length ∧ i = .int .i64 (k : Int) ∧ Hid (okL none (l.take k) = true) ∧ Below w.heap.size w wr) (fun i _ => l.length - (intOf i).toNat)
  case atStart => exact ⟨0, by omega, rfl, Lib.hid (by simp [okL]), Below.refl _ _⟩
  case round =>
    obtain ⟨k, hk, rfl, hall, hb⟩ := hrel
    by_cases hlt : k < l.length
    · have hki : (k : Int) < (l.length : Int) := by omega
      obtain ⟨e0, e1, e2, e3⟩ := HC.out k hlt
      have d0 := (hb.cell (p := ⟨b, off + k * 4, none⟩) (Nat.lt_of_lt_of_le hbB hB)).trans e0
      have d1 := (hb.cell (p := ⟨b, off + k * 4 + 1, none⟩) (Nat.lt_of_lt_of_le hbB hB)).trans e1
      have d2 := (hb.cell (p := ⟨b, off + k * 4 + 2, none⟩) (Nat.lt_of_lt_of_le hbB hB)).trans e2
      have d3 := (hb.cell (p := ⟨b, off + k * 4 + 3, none⟩) (Nat.lt_of_lt_of_le hbB hB)).trans e3
      clear e0 e1 e2 e3
      have hz := hb.size
      have hzz : b < wr.heap.size := by omega
      have hss := HS.out _ (List.getElem_mem hlt)
      obtain ⟨y, hy⟩ : ∃ y : ByteArray, ∀ h : 0 < k, y = (l[k - 1]'(by omega)).1 := by
        by_cases h : 0 < k
        · exact ⟨(l[k - 1]'(by omega)).1, fun _ => rfl⟩
        · exact ⟨⟨#[]⟩, fun h' => absurd h' h⟩
      have dy : 0 < k → wr.cell? ⟨b, off + (k - 1) * 4, none⟩ = some (.string y) := by
        intro h
        rw [hy h]
        exact (hb.cell (p := ⟨b, off + (k - 1) * 4, none⟩) (Nat.lt_of_lt_of_le hbB hB)).trans (HC.out (k - 1) (by omega)).1
      have hT := okL_zero' l k hlt (ltS y l[k].1) (fun h => by rw [hy h])
      have hbad := Lib.hid (okE_bad l (k + 1))
      have DY := Lib.hid dy
      clear dy hy
      generalize l[k] = x at *
      obtain ⟨s, vk, vn, vs⟩ := x
      simp only at d0 d1 d2 d3 hT hss
      generalize hp : okName s = p at *
      generalize hq : okV vk vn vs = q at *
      generalize hr : ltS y s = r at *
      generalize hzd : decide (0 < k) = z at *
      have HT := Lib.hid hT
      have HQ := Lib.hid hq
      have HP := Lib.hid hp
      have HR := Lib.hid hr
      have HZ := Lib.hid hzd
      clear hT hq hr hzd hp
      go_wp2_with fail
      refine (RefName_calls s _ hss).mono ?_
      rintro e w' ⟨rfl, rfl⟩
      rw [HP.out]
      go_wp2_with fail
      obtain ⟨C, hC⟩ : ∃ C : World → Prop, C = fun W => Below wr.heap.size wr W := ⟨_, rfl⟩
      have hg : ∀ W W', C W → Below W.heap.size W W' → C W' := by
        subst hC
        exact fun W W' h1 hb => h1.trans (hb.mono h1.size)
      have hc0 : C wr := by rw [hC]; exact Below.refl _ _
      refine wp_region_grow C [isV (.bool p),
          isV (.bool (!p)),
          isV (.bool (!p)),
          isV (cond (!(!p)) (.slice (some ⟨b, off, none⟩) l.length c) undef),
          isV (cond (!(!p)) (.int .i64 ((k : Int))) undef),
          isV (cond (!(!p)) (.pointer (some ⟨b, off + k * 4, none⟩)) undef),
          isV (cond (!(!p)) (.pointer (some ⟨b, off + k * 4 + 1, none⟩)) undef),
          isV (cond (!(!p)) (vv vk vn vs) undef),
          isV (cond (!(!p)) (.int .i64 (chk vk vn vs)) undef),
          isV (cond (!(!p)) (.bool (!q)) undef),
          isV (.bool ((!p) || (!q))),
          isV (.bool ((!p) || (!q))),
          isV (cond (!((!p) || (!q))) (.int .i64 ((k : Int))) undef),
          isV (cond (!((!p) || (!q))) (.bool z) undef),
          isV (cond (!((!p) || (!q))) (.bool z) undef),
          isV (cond ((!((!p) || (!q))) && z) (.slice (some ⟨b, off, none⟩) l.length c) undef),
          isV (cond ((!((!p) || (!q))) && z) (.int .i64 ((k : Int))) undef),
          isV (cond ((!((!p) || (!q))) && z) (.pointer (some ⟨b, off + k * 4, none⟩)) undef),
          isV (cond ((!((!p) || (!q))) && z) (.pointer (some ⟨b, off + k * 4, none⟩)) undef),
          isV (cond ((!((!p) || (!q))) && z) (.string s) undef),
          isV (cond ((!((!p) || (!q))) && z) (.slice (some ⟨b, off, none⟩) l.length c) undef),
          isV (cond ((!((!p) || (!q))) && z) (.int .i64 ((k : Int))) undef),
          isV (cond ((!((!p) || (!q))) && z) (.int .i64 ((k : Int) - 1)) undef),
          isV (cond ((!((!p) || (!q))) && z) (.pointer (some ⟨b, off + (k - 1) * 4, none⟩)) undef),
          isV (cond ((!((!p) || (!q))) && z) (.pointer (some ⟨b, off + (k - 1) * 4, none⟩)) undef),
          isV (cond ((!((!p) || (!q))) && z) (.string y) undef),
          isV (cond ((!((!p) || (!q))) && z) (.bool (!r)) undef),
          isV (cond (!((!p) || (!q))) (.bool (z && (!r))) undef),
          isV (.bool (((!p) || (!q)) || (z && (!r))))]
        [([], []), ([0], [(25, 0)]), ([1], [(26, 1)]), ([2], []), ([2], []), ([3, 4, 2], [(28, 3), (29, 4)]), ([5, 2], [(30, 5)]), ([6, 2], [(31, 6)]), ([7, 2], [(32, 7)]), ([8, 2], [(33, 8)]), ([2, 9], [(27, 2), (34, 9)]), ([10], [(35, 10)]), ([11], []), ([12, 11], [(37, 12)]), ([13, 11], [(38, 13)]), ([14], []), ([14], []), ([15, 16, 14], [(40, 15), (41, 16)]), ([17, 14], [(42, 17)]), ([18, 14], [(43, 18)]), ([14], []), ([14], []), ([21, 14], [(46, 21)]), ([20, 22, 14], [(45, 20), (47, 22)]), ([23, 14], [(48, 23)]), ([24, 14], [(49, 24)]), ([19, 25, 14], [(44, 19), (50, 25)]), ([14, 26, 11], [(39, 14), (51, 26)]), ([11, 27], [(36, 11), (52, 27)])] 54 rfl (by kernel_rfl) (by kernel_rfl) (by kernel_rfl) hg (by exact hg _ _ hc0 (Below.drew (Below.refl _ _))) ?st7 ?ow7 ?_
      case st7 =>
        simp only [List.forall_mem_cons]
        and_intros
        all_goals first | exact isV_st _ | exact sl_st _ | simp
      case ow7 =>
        have hn1 : (0 : Int) ≤ (k : Int) := by omega
        simp only [OwedQ]
        and_intros
        all_goals try trivial
        all_goals
          intro V w' hc hp
          try simp only [List.forall_mem_cons, tab_zero, tab_succ, isV] at hp
          rw [hC] at hc
          have c0 := (hc.cell (p := ⟨b, off + k * 4, none⟩) hzz).trans d0
          have c1 := (hc.cell (p := ⟨b, off + k * 4 + 1, none⟩) hzz).trans d1
          have c2 := (hc.cell (p := ⟨b, off + k * 4 + 2, none⟩) hzz).trans d2
          have c3 := (hc.cell (p := ⟨b, off + k * 4 + 3, none⟩) hzz).trans d3
          have cy := fun h => (hc.cell (p := ⟨b, off + (k - 1) * 4, none⟩) hzz).trans (DY.out h)
          cases p <;> cases q <;> cases z
        all_goals
          try simp [wantsG, rhoP, List.lookup, hp, tab_zero, tab_succ, ResG, execOp, bareOp, isV, undef, Below.refl, c0, c1, c2, c3, hlt, go_sem]
        all_goals first
          | (refine (RefCheck_calls vk vn vs w').mono ?_
             rintro e w2 ⟨rfl, hb2⟩
             exact ⟨_, rfl, rfl, hb2⟩)
          | (rw [ltS_tri, HR.out]; simp; done)
          | (rw [ltS_tri, HR.out])
          | (have := HQ.out; simp [chk, this]; done)
          | (have := HZ.out; simp at this; omega)
          | exact IntWalk.i64_in _ (by omega)
          | (have h0 : 0 < k := by have := HZ.out; simpa using this
             rw [if_pos ⟨by omega, by omega⟩]
             exact ⟨rfl, Below.refl _ _⟩)
          | (have h0 : 0 < k := by have := HZ.out; simpa using this
             rw [cy h0]
             exact ⟨rfl, Below.refl _ _⟩)
      intro V W hc hp
      have h28 := hp 28 (by simp)
      simp only [tab_zero, tab_succ, isV] at h28
      rw [hC] at hc
      clear hp hg hc0 hC
      simp only [putAll, Act.put, List.setIfInBounds_toArray, List.set_cons_succ, List.set_cons_zero, h28]
      have hbW := hb.trans (hc.mono hz)
      clear hc hb
      have hT := HT.out
      generalize (!p || !q || (z && !r)) = v at *
      cases v
      · have hr : Hid (okL none (l.take (k + 1)) = true) := Lib.hid (by rw [hT, hall.out]; rfl)
        clear hT
        go_wp2
        go_roundw
        case rel => exact ⟨k + 1, by omega, by go_num, hr, hbW⟩
        case measure => simp [intOf]; omega
      · have HE : Hid (chkE l = 40) := Lib.hid (hbad.out (by rw [hT]; simp))
        clear hT
        go_wp2
        go_ret
        exact ⟨by rw [HE.out]; rfl, hbW⟩
    · have hki : ¬ (k : Int) < (l.length : Int) := by omega
      have hkl : k = l.length := by omega
      have HE : Hid (chkE l = 0) := Lib.hid (okE_good l (by omega) (by omega) (by have := hall.out; rwa [hkl] at this))
      clear hkl
      go_wp2
      go_ret
      exact ⟨by rw [HE.out]; rfl, hb⟩
section
variable {l la lb : List Att} {b : List UInt8} {v va vb : Value} {w : World}
theorem RefECheck_evt (h : evt l v w) (hlen : l.length ≤ 1000000) (hsz : ∀ x ∈ l, x.1.size ≤ 1000000000) : Calls Try.prog 134 #[v] w fun e w' => e = .returned (.int .i64 (chkE l)) ∧ Below w.heap.size w w' := by
  obtain ⟨A, c, rfl, hR⟩ := h
  exact RefECheck_calls A c l w _ hR (Nat.le_refl _) hlen hsz
end
end Go.Proofs.Ythnhdeieimgfhaa
