/-
  The walks of the closures of fold.on that lay a life and forget a promise (layer 16). Conditions: lists of at most a million.
-/
import Derived.Test.YthnhdeieimgfhaaFoG
set_option maxRecDepth 100000
namespace Go.Proofs.Ythnhdeieimgfhaa
open Go Go.RowKit

/-- What the closures of 'on' hold: the state's block, the record, and the cell that leads to the state. -/
structure OnV (base g gs gr : Nat) (s : Stt) (r : Rec) (vl vp va vf ve : Value) (c1 c2 : List (List Value)) (w : World) : Prop where
  st : StoV base g s vl vp va c1 c2 w
  bs : Blk w gs 115 #[.pointer (some ⟨g, 0, none⟩)]
  br : Blk w gr 60 (recA r vf ve)
  en : ∀ W, UpN (fun k => k = g ∨ vl.ownBlock = some k ∨ vp.ownBlock = some k ∨ va.ownBlock = some k) w W → ent r.e (.agg (entA r.e vf ve)) W
  low : base ≤ w.heap.size
  sz : s.list.length ≤ 900000 ∧ s.prom.length ≤ 900000 ∧ s.ab.length ≤ 900000
  sm : smallEn r.e
/-- What 'on' and its closures answer: whether the state goes on, and the state. -/
def OnPost (base g : Nat) (s : Stt) (o : Option Stt) (w : World) (e : Ending) (w' : World) : Prop := e = .returned (.bool o.isSome) ∧ Sto base g (o.getD s) w' ∧ Below base w w'

set_option maxHeartbeats 2000000 in
theorem On1_calls {base g gs gr : Nat} {s : Stt} {r : Rec} {vl vp va vf ve : Value} {c1 c2 : List (List Value)} (w : World) (h : OnV base g gs gr s r vl vp va vf ve c1 c2 w) :
    Calls Try.prog 101 #[.pointer (some ⟨gr, 0, none⟩), .pointer (some ⟨gs, 0, none⟩)] w fun e w' => OnPost base g s (on1 s r) w e w' := by
  have HR : Hid (on1 s r = if r.n ≤ s.life then none else some ⟨r.n, s.list, s.prom, s.ab⟩) := Lib.hid rfl
  generalize on1 s r = R at *
  have qg := h.st.blk.cells
  have qs := h.bs.cells
  have qr := h.br.cells
  have H := Lib.hid h
  have hgb := h.st.low
  clear h
  have k0 := K.rf w
  go_enter Try.func101, Try.ntmps101
  go_upto_region 1 with (fail)
  refine wp_region_K [isV (.pointer (some ⟨gr, 1, none⟩)),
      isV (.int .u64 (r.n : Int)),
      isV (.pointer (some ⟨g, 0, none⟩)),
      isV (.pointer (some ⟨g, 0, none⟩)),
      isV (.pointer (some ⟨g, 0, none⟩)),
      isV (.int .u64 (s.life : Int)),
      isV (.bool (decide ((r.n : Int) ≤ (s.life : Int))))]
    [([], []), ([0], [(3, 0)]), ([], []), ([2], [(5, 2)]), ([3], [(6, 3)]), ([4], [(7, 4)]), ([1, 5], [(4, 1), (8, 5)])] 15 rfl (by kernel_rfl) (by kernel_rfl) (by kernel_rfl) ?st1 ?ow1 ?_
  case st1 =>
    simp only [List.forall_mem_cons]
    and_intros
    all_goals first | exact isV_st _ | exact sl_st _ | exact anyV_st | simp
  case ow1 =>
    simp only [OwedQ]
    and_intros
    all_goals try trivial
    all_goals
      intro V W kW hp
      try simp only [List.forall_mem_cons, tab_zero, tab_succ, isV] at hp
      try simp [wantsG, rhoP, List.lookup, hp, tab_zero, tab_succ, ResG, execOp, bareOp, isV, Below.refl, kW, qg, qs, qr, go_sem]
  intro V W kW hp
  have h9 := hp 6 (by simp)
  simp only [tab_zero, tab_succ, isV] at h9
  clear hp
  simp only [putAll, Act.put, List.setIfInBounds_toArray, List.set_cons_succ, List.set_cons_zero, h9]
  have HW := Lib.hid (H.out.st.st kW)
  have kb : Below base w W := kW.mono H.out.low
  have qg2 := HW.out.blk.cell
  have zg2 := HW.out.blk.frozen
  have qs2 := (H.out.bs.below kW H.out.bs.lt).cell
  have qr2 := (H.out.br.below kW H.out.br.lt).cell
  clear qg qs qr h9
  by_cases hle : r.n ≤ s.life
  · have hle' : decide ((r.n : Int) ≤ (s.life : Int)) = true := decide_eq_true (by omega)
    have HQ : Hid (R = none) := Lib.hid (by rw [HR.out, if_pos hle])
    rw [hle']
    go_wp2
    go_ret
    exact ⟨by rw [HQ.out]; rfl, by rw [HQ.out]; exact ⟨_, _, _, _, _, HW.out⟩, kb⟩
  · have hle' : decide ((r.n : Int) ≤ (s.life : Int)) = false := decide_eq_false (by omega)
    have HQ : Hid (R = some ⟨r.n, s.list, s.prom, s.ab⟩) := Lib.hid (by rw [HR.out, if_neg hle])
    rw [hle']
    go_wp2
    go_ret
    exact ⟨by rw [HQ.out]; rfl, by rw [HQ.out]; exact ⟨_, _, _, _, _, HW.out.setLife r.n⟩, kb.setCell hgb _⟩

set_option maxHeartbeats 2000000 in
theorem On5_calls {base g gs gr : Nat} {s : Stt} {r : Rec} {vl vp va vf ve : Value} {c1 c2 : List (List Value)} (w : World) (h : OnV base g gs gr s r vl vp va vf ve c1 c2 w) :
    Calls Try.prog 107 #[.pointer (some ⟨gs, 0, none⟩), .pointer (some ⟨gr, 0, none⟩)] w fun e w' => OnPost base g s (on5 s r) w e w' := by
  have HR : Hid (on5 s r = if hasE s.prom (idR r) then some ⟨s.life, s.list, dropE s.prom (idR r), s.ab⟩ else none) := Lib.hid rfl
  generalize on5 s r = R at *
  have qg := h.st.blk.cells
  have qs := h.bs.cells
  have qr := h.br.cells
  have H := Lib.hid h
  have C1 := Lib.hid fun W (kW : K w W) => Promised_calls s (idR r) _ W (h.st.st kW).stv (by have := h.sz; omega)
  clear h
  have k0 := K.rf w
  go_enter Try.func107, Try.ntmps107
  go_upto_region 1 with (fail)
  refine wp_region_K [isV (.pointer (some ⟨g, 0, none⟩)),
      isV (.pointer (some ⟨g, 0, none⟩)),
      isV (.agg (stA s vl vp va)),
      isV (.pointer (some ⟨gr, 10, none⟩)),
      isV (idv (idR r)),
      isV (.bool (hasE s.prom (idR r))),
      isV (.bool (!hasE s.prom (idR r)))]
    [([], []), ([0], [(3, 0)]), ([1], [(4, 1)]), ([], []), ([3], [(6, 3)]), ([2, 4], [(5, 2), (7, 4)]), ([5], [(8, 5)])] 14 rfl (by kernel_rfl) (by kernel_rfl) (by kernel_rfl) ?st1 ?ow1 ?_
  case st1 =>
    simp only [List.forall_mem_cons]
    and_intros
    all_goals first | exact isV_st _ | exact sl_st _ | exact anyV_st | simp
  case ow1 =>
    simp only [OwedQ]
    and_intros
    all_goals try trivial
    all_goals
      intro V W kW hp
      try simp only [List.forall_mem_cons, tab_zero, tab_succ, isV] at hp
      try simp [wantsG, rhoP, List.lookup, hp, tab_zero, tab_succ, ResG, execOp, bareOp, isV, Below.refl, kW, qg, qs, qr, idR, go_sem]
    refine (C1.out W kW).mono ?_
    rintro e w2 ⟨rfl, k⟩
    exact ⟨_, rfl, rfl, k⟩
  intro V W kW hp
  have h9 := hp 6 (by simp)
  simp only [tab_zero, tab_succ, isV] at h9
  clear hp
  simp only [putAll, Act.put, List.setIfInBounds_toArray, List.set_cons_succ, List.set_cons_zero, h9]
  have HW := Lib.hid (H.out.st.st kW)
  have kb : Below base w W := kW.mono H.out.low
  have C2 := Lib.hid (Forget_calls s (idR r) base g W ⟨_, _, _, _, _, HW.out⟩ (by have := H.out.sz; omega) (by have := H.out.low; have := kW.size; omega))
  have qs2 := (H.out.bs.below kW H.out.bs.lt).cell
  have qr2 := (H.out.br.below kW H.out.br.lt).cell
  clear qg qs qr h9 C1
  generalize hh : hasE s.prom (idR r) = B at *
  cases B
  · have HQ : Hid (R = none) := Lib.hid (by rw [HR.out]; rfl)
    go_wp2
    go_ret
    exact ⟨by rw [HQ.out]; rfl, by rw [HQ.out]; exact ⟨_, _, _, _, _, HW.out⟩, kb⟩
  · have HQ : Hid (R = some ⟨s.life, s.list, dropE s.prom (idR r), s.ab⟩) := Lib.hid (by rw [HR.out]; rfl)
    go_wp2_with fail
    refine C2.out.mono ?_
    rintro e w3 ⟨rfl, hs, hb⟩
    have HS := Lib.hid hs
    clear hs
    go_wp2
    go_ret
    exact ⟨by rw [HQ.out]; rfl, by rw [HQ.out]; exact HS.out, kb.trans hb⟩
end Go.Proofs.Ythnhdeieimgfhaa
