/-
  The walk of the closure of fold.on that lays an abort (layer 16). Conditions: lists of at most a million.
-/
import Derived.Test.YthnhdeieimgfhaaFoH
import Derived.Test.YthnhdeieimgfhaaMA
set_option maxRecDepth 100000
namespace Go.Proofs.Ythnhdeieimgfhaa
open Go Go.RowKit

theorem Blk.upB {w w' : World} {b : Nat} {t : TypeId} {cs : Array Value} {row : Option Nat} (h : Blk w b t cs) (u : UpB 0 row w w') (hr : row ≠ some b) : Blk w' b t cs := (u.block b (Nat.zero_le _) h.lt (fun e => hr e.symm)).trans h
theorem below_upB {base : Nat} {w w' : World} {row : Option Nat} (u : UpB 0 row w w') (hb : base ≤ w.heap.size) (hr : ∀ b, row = some b → base ≤ b) : Below base w w' := by
  refine ⟨u.os, u.tape, u.output, u.size, fun i hi => u.block i (Nat.zero_le _) (by omega) ?_⟩
  intro e
  have := hr i e.symm
  omega
theorem appS_slice {α : Type} {S : Shp α} {base gb : Nat} {T : TypeId} {row : Option Nat} {n : Nat} {xs : List Value} {x : α} {v : Value} {W : World} (h : appS S base gb T row n xs x v W) : ∃ A m c, v = .slice A m c := by
  obtain ⟨cs, h1, -⟩ := h
  rcases h1.2 with ⟨h, _⟩ | ⟨g, cap, cur, h, _⟩
  · exact ⟨_, _, _, h⟩
  · exact ⟨_, _, _, h⟩
theorem elF_of_entO {gb B : Nat} (hB : gb ≤ B) {x : Ent} {v : Value} {w : World} (h : entO B x v w) : elF enS gb x v w := by
  obtain ⟨vf, ve, rfl, h1, h2⟩ := h
  exact ⟨⟨_, rfl⟩, rfl, fun W' u => ⟨vf, ve, rfl, flt_own (h1.up (u.more hB (fun _ _ _ => by simp))), (h2.up (Nat.le_refl _) (u.more hB (fun _ _ _ => by simp))).lst⟩⟩
theorem elF_agg {gb : Nat} {x : Ent} {v : Value} {w : World} (h : elF enS gb x v w) : ∃ vf ve, v = .agg (entA x vf ve) := by
  obtain ⟨⟨arr, rfl⟩, -, h⟩ := h
  obtain ⟨vf, ve, h1, -⟩ := h w (UpB.rf _ _ _)
  refine ⟨vf, ve, ?_⟩
  have h2 : arr.toList = entc x vf ve := h1
  congr 1
  exact Array.toList_inj.1 h2

theorem OnV.ns {base g gs gr : Nat} {s : Stt} {r : Rec} {vl vp va vf ve : Value} {c1 c2 : List (List Value)} {w : World} (h : OnV base g gs gr s r vl vp va vf ve c1 c2 w) : vl.ownBlock ≠ some gs ∧ vp.ownBlock ≠ some gs ∧ va.ownBlock ≠ some gs ∧ vl.ownBlock ≠ some gr ∧ vp.ownBlock ≠ some gr ∧ va.ownBlock ≠ some gr := by
  refine ⟨fun e => ?_, fun e => ?_, fun e => ?_, fun e => ?_, fun e => ?_, fun e => ?_⟩
  · obtain ⟨cur, h1⟩ := row_blk h.st.l e; exact absurd (h1.unlike h.bs) (by decide)
  · obtain ⟨cur, h1⟩ := row_blk h.st.p e; exact absurd (h1.unlike h.bs) (by decide)
  · obtain ⟨cur, h1⟩ := row_blk h.st.a e; exact absurd (h1.unlike h.bs) (by decide)
  · obtain ⟨cur, h1⟩ := row_blk h.st.l e; exact absurd (h1.unlike h.br) (by decide)
  · obtain ⟨cur, h1⟩ := row_blk h.st.p e; exact absurd (h1.unlike h.br) (by decide)
  · obtain ⟨cur, h1⟩ := row_blk h.st.a e; exact absurd (h1.unlike h.br) (by decide)

set_option maxHeartbeats 4000000 in
theorem On4_calls {base g gs gr : Nat} {s : Stt} {r : Rec} {vl vp va vf ve : Value} {c1 c2 : List (List Value)} (w : World) (h : OnV base g gs gr s r vl vp va vf ve c1 c2 w) :
    Calls Try.prog 106 #[.pointer (some ⟨gs, 0, none⟩), .pointer (some ⟨gr, 0, none⟩)] w fun e w' => OnPost base g s (on4 s r) w e w' := by
  have HR : Hid (on4 s r = if hasE s.list (idR r) then none else if hasI s.ab (idR r) then none else some ⟨s.life, s.list, dropE s.prom (idR r), s.ab ++ [idR r]⟩) := Lib.hid rfl
  generalize on4 s r = R at *
  have qg := h.st.blk.cells
  have qs := h.bs.cells
  have qr := h.br.cells
  have H := Lib.hid h
  obtain ⟨-, -, hns, -, -, hnr⟩ := h.ns
  have hsz := h.sz
  have C1 := Lib.hid fun W (kW : K w W) => Has_calls s (idR r) _ W (h.st.st kW).stv (by omega)
  have C2 := Lib.hid fun W (kW : K w W) => Aborted_calls s (idR r) _ W (h.st.st kW).stv (by omega)
  generalize hasE s.list (idR r) = B1 at *
  generalize hasI s.ab (idR r) = B2 at *
  clear h
  have k0 := K.rf w
  go_enter Try.func106, Try.ntmps106
  go_upto_region 1 with (fail)
  refine wp_region_K [isV (.pointer (some ⟨g, 0, none⟩)),
      isV (.pointer (some ⟨g, 0, none⟩)),
      isV (.agg (stA s vl vp va)),
      isV (.pointer (some ⟨gr, 10, none⟩)),
      isV (idv (idR r)),
      isV (.bool B1),
      isV (.bool B1),
      isV (cond (!B1) (.pointer (some ⟨g, 0, none⟩)) undef),
      isV (cond (!B1) (.pointer (some ⟨g, 0, none⟩)) undef),
      isV (cond (!B1) (.agg (stA s vl vp va)) undef),
      isV (cond (!B1) (.pointer (some ⟨gr, 10, none⟩)) undef),
      isV (cond (!B1) (idv (idR r)) undef),
      isV (cond (!B1) (.bool B2) undef),
      isV (.bool (B1 || B2))]
    [([], []), ([0], [(3, 0)]), ([1], [(4, 1)]), ([], []), ([3], [(6, 3)]), ([2, 4], [(5, 2), (7, 4)]), ([5], [(8, 5)]), ([6], []), ([7, 6], [(10, 7)]), ([8, 6], [(11, 8)]), ([6], []), ([10, 6], [(13, 10)]), ([9, 11, 6], [(12, 9), (14, 11)]), ([6, 12], [(9, 6), (15, 12)])] 32 rfl (by kernel_rfl) (by kernel_rfl) (by kernel_rfl) ?st1 ?ow1 ?_
  case st1 =>
    simp only [List.forall_mem_cons]
    and_intros
    all_goals first | exact isV_st _ | exact sl_st _ | exact anyV_st | simp
  case ow1 =>
    simp only [OwedQ]
    and_intros
    all_goals try trivial
    all_goals
      intro V W kW hp
      cases B1
      all_goals
        try simp only [List.forall_mem_cons, tab_zero, tab_succ, isV] at hp
        try simp [wantsG, rhoP, List.lookup, hp, tab_zero, tab_succ, ResG, execOp, bareOp, isV, Below.refl, kW, qg, qs, qr, go_sem]
      all_goals first | exact ⟨rfl, rfl, rfl⟩ | (refine (C1.out W kW).mono ?_; rintro e w2 ⟨rfl, k⟩; exact ⟨_, rfl, rfl, k⟩) | (refine (C2.out W kW).mono ?_; rintro e w2 ⟨rfl, k⟩; exact ⟨_, rfl, rfl, k⟩)
  intro V W kW hp
  have h9 := hp 13 (by simp)
  simp only [tab_zero, tab_succ, isV] at h9
  clear hp
  simp only [putAll, Act.put, List.setIfInBounds_toArray, List.set_cons_succ, List.set_cons_zero, h9]
  have H1 := Lib.hid (H.out.st.st kW)
  have kb : Below base w W := kW.mono H.out.low
  have bs1 := H.out.bs.below kW H.out.bs.lt
  have br1 := H.out.br.below kW H.out.br.lt
  have hlow : base ≤ W.heap.size := Nat.le_trans H.out.low kW.size
  clear qg qs qr h9 C1 C2
  cases B1
  · cases B2
    · have HQ : Hid (R = some ⟨s.life, s.list, dropE s.prom (idR r), s.ab ++ [idR r]⟩) := Lib.hid (by rw [HR.out]; rfl)
      generalize W = w1 at *
      have q1 := bs1.cell
      have q2 := br1.cell
      have q3 := H1.out.blk.cell
      go_upto_region 3 with (fail)
      clear q1 q2 q3
      obtain ⟨C, hC⟩ : ∃ C : World → Prop, C = fun W => UpB 0 va.ownBlock w1 W := ⟨_, rfl⟩
      have hg : ∀ W W', C W → Below W.heap.size W W' → C W' := by
        subst hC
        intro W W' h hb
        exact h.tr (UpB.of_k hb _ _)
      have hc0 : C w1 := by rw [hC]; exact UpB.rf _ _ _
      obtain ⟨F, hF⟩ : ∃ F : World → Prop, F = fun W => Sto base g ⟨s.life, s.list, s.prom, s.ab ++ [idR r]⟩ W ∧ Below base w1 W ∧ UpN (fun k => va.ownBlock = some k ∨ k = g) w1 W := ⟨_, rfl⟩
      have hrow : ∀ b, va.ownBlock = some b → b < w1.heap.size := fun b hb => (H1.out.rowa hb).2.1
      refine wp_region_turn3 8 11 C (fun W => W.ownsRow base 53 3 va s.ab.length (s.ab.flatMap idc)) (fun _ => True) (fun W W' => W.grownBy W' va.ownBlock) F [isV (.pointer (some ⟨g, 0, none⟩)),
    isV (.pointer (some ⟨g, 0, none⟩)),
    isV (.pointer (some ⟨g, 0, none⟩)),
    isV (.pointer (some ⟨g, 3, none⟩)),
    isV (va),
    isV (.pointer (some ⟨gr, 10, none⟩)),
    isV (idv (idR r)),
    rowS idS w1.heap.size 53 (idR r),
    appS idS base w1.heap.size 53 va.ownBlock s.ab.length (s.ab.flatMap idc) (idR r),
    isV (.pointer (some ⟨g, 0, none⟩)),
    isV (.pointer (some ⟨g, 3, none⟩)),
    anyV]
        [([], []), ([], []), ([1], [(18, 1)]), ([2], [(19, 2)]), ([3], [(20, 3)]), ([], []), ([5], [(22, 5)]), ([6], [(23, 6)]), ([4, 7], [(21, 4), (24, 7)]), ([0], [(17, 0)]), ([9], [(26, 9)]), ([10, 8], [(27, 10), (25, 8)])] 32 rfl (by kernel_rfl) (by kernel_rfl) (by kernel_rfl) (by decide) (by decide) (by decide) (by kernel_rfl) hg (fun W W' h k => row_below h k) (fun _ _ h _ => h) (by exact hg _ _ hc0 (Below.drew (Below.refl _ _))) (row_below H1.out.a (Below.drew (Below.refl _ _))) ?st3 ?stt3 ?ow3 ?_
      case st3 =>
        simp only [List.forall_mem_cons]
        and_intros
        all_goals first | exact isV_st _ | exact anyV_st | exact elF_st _ _ | exact rowS_st _ _ _ | exact appS_st _ _ _ _ _ _ _ | simp
      case stt3 =>
        simp only [List.zipIdx_cons, List.zipIdx_nil, List.forall_mem_cons, Nat.zero_add, Nat.reduceAdd]
        and_intros
        all_goals first | exact .inl rfl | exact .inr (fun _ _ _ h _ => h) | exact .inr (elF_row hrow) | exact .inr (rowS_row hrow) | simp
      case ow3 =>
        simp only [OwedY, OwedT]
        and_intros
        all_goals try trivial
        all_goals
          simp only [Nat.reduceEqDiff, if_false, Nat.reduceAdd]
        all_goals
          first
          | (intro V w' hc hD hp
             simp only [List.forall_mem_cons, tab_zero, tab_succ, isV] at hp
             rw [hC] at hc)
          | (intro V w' hc hp
             rw [hC] at hc
             have qg := (H1.out.blk.upB hc (fun e => (H1.out.rowa e).2.2.1 rfl)).cell
             have qs := (bs1.upB hc (fun e => hns e)).cell
             have qr := (br1.upB hc (fun e => hnr e)).cell
             try simp only [List.forall_mem_cons, tab_zero, tab_succ, isV] at hp
             try (simp [wantsG, rhoP, List.lookup, hp, tab_zero, tab_succ, ResG, execOp, bareOp, isV, undef, Below.refl, qg, qs, qr, idR, go_sem]; done))
          | skip
        · obtain ⟨h7, -⟩ := hp
          simp [h7, wantsG, rhoP, List.lookup, tab_zero, tab_succ, ResG, execOp, bareOp, undef, go_sem]
          exact ⟨⟨w'.heap.size, _, rfl, by have := hc.size; omega, Blk.new _ _ _, rfl, fun W' u => rfl⟩, (K.rf w').al _⟩
        · obtain ⟨h1, h4, -⟩ := hp
          obtain ⟨v', w'', hrun, h7, h5, h3⟩ := exec_appS (P := Try.prog) (S := idS) (ρ := rhoP [(21, 4), (24, 7)] _ V) (.tmp 21) (.tmp 24) 26 26 53 base _ 24 s.ab.length (s.ab.flatMap idc) TId va h1 hD w1.heap.size (by first | exact H1.out.2 | omega) hrow (by have := hc.size; omega) (idR r) _ rfl h4 (by omega)
          rw [hrun]
          refine ⟨h7, ?_, trivial, h3⟩
          rw [hC]
          exact hc.tr (UpB.of_mut h3 0)
        · obtain ⟨h6, h9, -⟩ := hp
          have hb9 := H1.out.blk.upB hc (fun e => (H1.out.rowa e).2.2.1 rfl)
          have z := hb9.frozen
          have q := hb9.cell
          have hpu := H1.out.pushA (by omega) hc h9
          obtain ⟨A9, n9, c9, e9⟩ := appS_slice h9
          generalize hA : rhoP [(27, 10), (25, 8)] _ V = ρ9
          have es4 : ρ9 (.tmp 27) = .pointer (some ⟨g, 3, none⟩) := by rw [← hA]; exact h6
          have ex4 : ρ9 (.tmp 25) = V 8 := by rw [← hA]; rfl
          rw [e9] at ex4 hpu
          have hs7 : (execOp ρ9 (bareOp (.store 26 (.tmp 27) (.tmp 25)) 0)).run Try.prog w' = .ok .skip (w'.setCell ⟨g, 3, none⟩ (.slice A9 n9 c9)) := by
            simp [es4, ex4, execOp, bareOp, q, z, go_sem]
          rw [hs7]
          show F _
          rw [hF]
          exact ⟨hpu, (below_upB hc (by omega) (fun b hb => (H1.out.rowa hb).1)).setCell H1.out.low _, grow_upn hc (UpN.rf (fun _ => False) _) (fun k _ e => e.elim (fun e => .inr e) (fun e => e.elim (fun e => .inl e.symm) False.elim))⟩
      intro V W hFW
      rw [hF] at hFW
      obtain ⟨HSF, kbF, unF⟩ := hFW
      have HSF := Lib.hid HSF
      clear hC hg hc0 hF hrow
      simp only [putAll, Act.put, List.setIfInBounds_toArray, List.set_cons_succ, List.set_cons_zero]
      have hlp : s.prom.length ≤ 1000000 := by have := H.out.sz; omega
      have hzz := Nat.le_trans hlow kbF.size
      have C3 := Lib.hid (Forget_calls ⟨s.life, s.list, s.prom, s.ab ++ [idR r]⟩ (idR r) base g W HSF.out hlp hzz)
      have hgs : gs ≠ g := by rintro rfl; exact absurd (bs1.unlike H1.out.blk) (by decide)
      have hgr : gr ≠ g := by rintro rfl; exact absurd (br1.unlike H1.out.blk) (by decide)
      have qs2 := (show Blk W gs _ _ from (unF.block gs bs1.lt (fun e => e.elim hns hgs)).trans bs1).cell
      have qr2 := (show Blk W gr _ _ from (unF.block gr br1.lt (fun e => e.elim hnr hgr)).trans br1).cell
      clear unF HSF bs1 br1 H1 hns hnr
      go_wp2_with fail
      refine C3.out.mono ?_
      rintro e w3 ⟨rfl, hs, hb⟩
      have HS := Lib.hid hs
      clear hs
      go_wp2
      go_ret
      exact ⟨by rw [HQ.out]; rfl, by rw [HQ.out]; exact HS.out, (kb.trans kbF).trans hb⟩
    · have HQ : Hid (R = none) := Lib.hid (by rw [HR.out]; rfl)
      go_wp2
      go_ret
      exact ⟨by rw [HQ.out]; rfl, by rw [HQ.out]; exact ⟨_, _, _, _, _, H1.out⟩, kb⟩
  · have HQ : Hid (R = none) := Lib.hid (by rw [HR.out]; rfl)
    rw [show (true || B2) = true from rfl]
    go_wp2
    go_ret
    exact ⟨by rw [HQ.out]; rfl, by rw [HQ.out]; exact ⟨_, _, _, _, _, H1.out⟩, kb⟩
end Go.Proofs.Ythnhdeieimgfhaa
