/-
  The walks of small and made (layer 16). Conditions: none.
-/
import Derived.Test.YthnhdeieimgfhaaFoP
set_option maxRecDepth 100000
namespace Go.Proofs.Ythnhdeieimgfhaa
open Go Go.RowKit

/-- A state behind a record, if its loads are little. -/
def tryS (s : Stt) (r : Rec) : Stt := if fewEn r.e then (stepS s r).1 else s
/-- The state that records make, of which at most forty are taken. -/
def madeS (l : List Rec) : Stt := (l.take 40).foldl tryS st0
theorem foldl_len (l : List Rec) : ∀ s, (l.foldl tryS s).list.length ≤ s.list.length + l.length ∧ (l.foldl tryS s).prom.length ≤ s.prom.length + l.length ∧ (l.foldl tryS s).ab.length ≤ s.ab.length + l.length := by
  induction l with
  | nil => intro s; simp
  | cons r l ih =>
    intro s
    have h2 := ih (tryS s r)
    have h1 : (tryS s r).list.length ≤ s.list.length + 1 ∧ (tryS s r).prom.length ≤ s.prom.length + 1 ∧ (tryS s r).ab.length ≤ s.ab.length + 1 := by
      unfold tryS
      split
      · exact len_step s r
      · simp
    simp only [List.foldl_cons, List.length_cons]
    omega
theorem foldl_ok (l : List Rec) : ∀ s, (∀ x ∈ s.list, okEn x = true) → (∀ x ∈ s.prom, okEn x = true) → (∀ x ∈ (l.foldl tryS s).list, okEn x = true) ∧ ∀ x ∈ (l.foldl tryS s).prom, okEn x = true := by
  induction l with
  | nil => intro s h1 h2; exact ⟨h1, h2⟩
  | cons r l ih =>
    intro s h1 h2
    have h3 : (∀ x ∈ (tryS s r).list, okEn x = true) ∧ ∀ x ∈ (tryS s r).prom, okEn x = true := by
      unfold tryS
      split
      · exact small_step s r h1 h2
      · exact ⟨h1, h2⟩
    exact ih _ h3.1 h3.2
theorem foldl_small (l : List Rec) : (∀ x ∈ (l.foldl tryS st0).list, smallEn x) ∧ ∀ x ∈ (l.foldl tryS st0).prom, smallEn x := by
  have h := foldl_ok l st0 (by simp [st0]) (by simp [st0])
  exact ⟨fun x hx => okEn_small (h.1 x hx), fun x hx => okEn_small (h.2 x hx)⟩
theorem made_len (l : List Rec) : (madeS l).list.length ≤ 40 ∧ (madeS l).prom.length ≤ 40 ∧ (madeS l).ab.length ≤ 40 := by
  have h := foldl_len (l.take 40) st0
  have hl : (l.take 40).length ≤ 40 := by simp; omega
  simp only [show st0.list.length = 0 from rfl, show st0.prom.length = 0 from rfl, show st0.ab.length = 0 from rfl] at h
  unfold madeS
  omega
theorem made_small (l : List Rec) : (∀ x ∈ (madeS l).list, smallEn x) ∧ ∀ x ∈ (madeS l).prom, smallEn x := foldl_small _

set_option maxHeartbeats 1000000 in
theorem FSmall_calls (r : Rec) (v : Value) (w : World) (h : rcd r v w) :
    Calls Try.prog 27 #[v] w fun e w' => e = .returned (.bool (fewEn r.e)) ∧ K w w' := by
  obtain ⟨vf, ve, rfl, hf, he⟩ := h
  have hx := Blk.new w 60 (recA r vf ve)
  have k1 : K w (w.alloc (.cells (recA r vf ve) 60)) := (K.rf w).al _
  have C1 := Lib.hid fun W (k : K w W) => EFew_calls r.e _ W ⟨vf, ve, rfl, flt_st _ _ _ _ hf k, lst_st he k⟩
  have q := hx.cell
  clear hf he hx
  generalize fewEn r.e = B at *
  go_enter Try.func27, Try.ntmps27
  go_wp2_with fail
  generalize w.alloc _ = w1 at *
  refine (C1.out w1 k1).mono ?_
  rintro e w2 ⟨rfl, k2⟩
  have k := k1.tr k2
  go_wp2
  go_ret
  exact ⟨rfl, k⟩

/-- What a call of Step leaves, as a tuple, and as a value. -/
def stpF (gb : Nat) (s : Stt) (c : Int) (v : Value) (W : World) : Prop := ∃ B vl vp va c1 c2, v = .tuple #[.agg (stA s vl vp va), .int .i64 c] ∧ gb ≤ B ∧ StoR B s vl vp va c1 c2 W
def stoF (gb : Nat) (s : Stt) (v : Value) (W : World) : Prop := ∃ B vl vp va c1 c2, v = .agg (stA s vl vp va) ∧ gb ≤ B ∧ StoR B s vl vp va c1 c2 W
theorem StoR.st {base : Nat} {s : Stt} {vl vp va : Value} {c1 c2 : List (List Value)} {W W' : World} (h : StoR base s vl vp va c1 c2 W) (k : K W W') : StoR base s vl vp va c1 c2 W' :=
  ⟨row_below h.l k, row_below h.p k, row_below h.a k, h.ne, h.len1, h.len2, fun W'' u' => h.el W'' ((UpN.of_k k _).tr u')⟩
theorem stpF_st (gb : Nat) (s : Stt) (c : Int) : ∀ v w w', stpF gb s c v w → Below w.heap.size w w' → stpF gb s c v w' := by
  rintro v w w' ⟨B, vl, vp, va, c1, c2, e, h1, h2⟩ k
  exact ⟨B, vl, vp, va, c1, c2, e, h1, h2.st k⟩
theorem stoF_st (gb : Nat) (s : Stt) : ∀ v w w', stoF gb s v w → Below w.heap.size w w' → stoF gb s v w' := by
  rintro v w w' ⟨B, vl, vp, va, c1, c2, e, h1, h2⟩ k
  exact ⟨B, vl, vp, va, c1, c2, e, h1, h2.st k⟩
/-- A state in a block of the call's own, that is written over as a whole. -/
def hasS (g : Nat) (s : Stt) (W : World) : Prop := ∃ v, stoF (g + 1) s v W ∧ Blk W g 43 v.cells
theorem hasS_st {g : Nat} {s : Stt} {W W' : World} (h : hasS g s W) (k : K W W') : hasS g s W' := by
  obtain ⟨v, h1, h2⟩ := h
  exact ⟨v, stoF_st _ _ _ _ _ h1 k, h2.below k h2.lt⟩
theorem StoR.nil (base : Nat) (W : World) : StoR base st0 (.slice none 0 0) (.slice none 0 0) (.slice none 0 0) [] [] W :=
  ⟨World.ownsRow_nil _ _ _ _, World.ownsRow_nil _ _ _ _, World.ownsRow_nil _ _ _ _, fun b h => by simp [Value.ownBlock] at h, rfl, rfl, fun _ _ => ⟨Each.nil _ _, Each.nil _ _⟩⟩
theorem StoR.slices {base : Nat} {s : Stt} {vl vp va : Value} {c1 c2 : List (List Value)} {W : World} (h : StoR base s vl vp va c1 c2 W) : (∃ A c, vl = .slice A s.list.length c) ∧ (∃ A c, vp = .slice A s.prom.length c) ∧ ∃ A c, va = .slice A s.ab.length c := by
  obtain ⟨vl', vp', va', e, h1, h2, h3⟩ := h.stv
  simp at e
  obtain ⟨rfl, rfl, rfl⟩ := e
  exact ⟨lst_slice h1, lst_slice h2, lst_slice h3⟩

set_option maxHeartbeats 8000000 in
theorem Made_calls (l : List Rec) (v : Value) (w : World) (h : lst recS l v w) (hfit : ∀ r ∈ l, fitRec r) (hlen : l.length ≤ 9223372036854775807) :
    Calls Try.prog 23 #[v] w fun e w' => ∃ v', e = .returned v' ∧ stv (madeS l) v' w' ∧ K w w' := by
  obtain ⟨D, d_, rfl, hl, -⟩ := h
  have HL := Lib.hid hl
  have HF := Lib.hid hfit
  have hr0 := (Blk.new w 43 zSt).alloc (.cells zSt 43)
  have hs0 := Blk.new (w.alloc (.cells zSt 43)) 43 zSt
  have k0 : K w ((w.alloc (.cells zSt 43)).alloc (.cells zSt 43)) := ((K.rf w).al _).al _
  rw [World.size_alloc] at hs0
  clear hl hfit
  obtain ⟨M, hM⟩ : ∃ M : Nat → Stt, M = fun j => (l.take j).foldl tryS st0 := ⟨_, rfl⟩
  have HM0 : Hid (M 0 = st0) := Lib.hid (by rw [hM]; simp)
  have HM1 : Hid (∀ j (h : j < l.length), M (j + 1) = tryS (M j) l[j]) := Lib.hid fun j h => by rw [hM]; simp only; rw [List.take_succ_eq_append_getElem h, List.foldl_append]; rfl
  have HMS : Hid (∀ j, (∀ x ∈ (M j).list, smallEn x) ∧ ∀ x ∈ (M j).prom, smallEn x) := Lib.hid fun j => by rw [hM]; exact foldl_small _
  have HML : Hid (∀ j, j ≤ 40 → (M j).list.length ≤ 900000 ∧ (M j).prom.length ≤ 900000 ∧ (M j).ab.length ≤ 900000) := Lib.hid fun j hj => by
    rw [hM]
    have h := foldl_len (l.take j) st0
    have hl : (l.take j).length ≤ 40 := by simp; omega
    simp only [show st0.list.length = 0 from rfl, show st0.prom.length = 0 from rfl, show st0.ab.length = 0 from rfl] at h
    simp only
    omega
  have HME : Hid (∀ j, (40 ≤ j ∧ j ≤ 40 ∨ l.length ≤ j ∧ j ≤ 40) → M j = madeS l) := Lib.hid fun j hj => by
    rw [hM]
    unfold madeS
    rcases hj with ⟨h1, h2⟩ | ⟨h1, h2⟩
    · obtain rfl : j = 40 := by omega
      rfl
    · simp only
      rw [List.take_of_length_le h1, List.take_of_length_le (by omega)]
  generalize madeS l = ML at *
  clear hM
  go_enter Try.func23, Try.ntmps23
  go_upto_region 2 with (fail)
  generalize World.alloc (World.alloc w _) _ = w0 at *
  generalize hgp : w.heap.size = gp at hr0 hs0 ⊢
  have HS0 : Hid (hasS (gp + 1) (M 0) w0) := Lib.hid (by rw [HM0.out]; exact ⟨.agg zSt, ⟨gp + 2, _, _, _, [], [], rfl, by omega, StoR.nil _ _⟩, hs0⟩)
  have kk : Below (gp + 1) w0 w0 := Below.refl _ _
  have hgw : gp + 1 < w0.heap.size := hs0.lt
  clear hs0
  go_wp2_with fail
  go_loopw [4] (fun i W => ∃ j : Nat, j ≤ 40 ∧ j ≤ l.length ∧ i = .int .i64 (j : Int) ∧ Hid (hasS (gp + 1) (M j) W) ∧ Below (gp + 1) w0 W) (fun i _ => l.length - (intOf i).toNat)
  case atStart => exact ⟨0, by omega, by omega, rfl, HS0, kk⟩
  case round =>
    clear kk HS0
    obtain ⟨j, hj40, hj, rfl, HSj, kb⟩ := hrel
    have kr : K w wr := k0.trans (kb.mono (by omega))
    have h64 : ¬ (j : Int) < -9223372036854775808 := by omega
    by_cases hlt : j < l.length ∧ j < 40
    · obtain ⟨hlt, hlt40⟩ := hlt
      have hji : (j : Int) < (l.length : Int) := by omega
      have hj4 : (j : Int) < 40 := by omega
      have HN := Lib.hid (HM1.out j hlt)
      have hfr := HF.out _ (List.getElem_mem hlt)
      obtain ⟨b1, off, cs, rfl, hcl1, hrl, d0, d⟩ := lsr_cells HL.out j hlt (by decide)
      generalize l[j] = r at *
      obtain ⟨vf, ve, rfl, hf, he⟩ := hrl w (K.rf w)
      have HRC : Hid (∀ W, K w W → rcd r (.agg (recA r vf ve)) W) := Lib.hid fun W k => by
        obtain ⟨vf', ve', e, h1, h2⟩ := hrl W k
        simp at e
        obtain ⟨rfl, rfl⟩ := e
        exact ⟨_, _, rfl, h1, h2⟩
      have d0 : ∀ W, K w W → W.cell? ⟨b1, off + j * 13, none⟩ = some (.int .i64 r.kind) := d0
      have d : ∀ W, K w W → ∀ i, i < 13 → W.cell? ⟨b1, off + j * 13 + i, none⟩ = (recA r vf ve)[i]? := fun W kW i hi => (d W kW i hi).trans Array.getElem?_toList
      obtain ⟨Af, cf, rfl⟩ := flt_slice hf
      obtain ⟨Ae, ce, rfl⟩ := lst_slice he
      have C1 := Lib.hid fun W (kW : K w W) => FSmall_calls r _ W (HRC.out W kW)
      have e0 := d0 wr kr
      have e1 := d wr kr
      have HD : Hid (∀ W, K w W → ∀ i, i < 13 → W.cell? ⟨b1, off + j * 13 + i, none⟩ = (recA r (.slice Af r.e.f.length cf) (.slice Ae r.e.es.length ce))[i]?) := Lib.hid d
      have HD0 : Hid (∀ W, K w W → W.cell? ⟨b1, off + j * 13, none⟩ = some (.int .i64 r.kind)) := Lib.hid d0
      clear hrl hcl1 hf he d d0
      go_wp2_with fail
      refine (C1.out wr kr).mono ?_
      rintro e w2 ⟨rfl, k2⟩
      have HS2 := Lib.hid (hasS_st HSj.out k2)
      have kb2 : Below (gp + 1) w0 w2 := kb.trans (k2.mono (Nat.le_trans (Nat.le_of_lt hgw) kb.size))
      have kr2 := kr.tr k2
      clear HSj C1 e0 e1 kb kr
      cases hfew : fewEn r.e
      · have HS3 : Hid (hasS (gp + 1) (M (j + 1)) w2) := Lib.hid (by rw [HN.out, tryS, hfew]; exact HS2.out)
        go_wp2
        go_roundw
        case rel => exact ⟨j + 1, by omega, by omega, by go_num, HS3, kb2⟩
        case measure => simp [intOf]; omega
      · have HS3 : Hid (M (j + 1) = (stepS (M j) r).1) := Lib.hid (by rw [HN.out, tryS, hfew, if_pos rfl])
        have hsm := fewEn_small hfew
        have C2 := Lib.hid fun W (kW : K w W) v (hv : stv (M j) v W) => Step_own (M j) r v _ W hv (HRC.out W kW) hfr hsm (HMS.out j).1 (HMS.out j).2 (HML.out j (by omega))
        clear hfew hsm
        go_upto_region 6 with (fail)
        obtain ⟨v0, hsto, hblk⟩ := HS2.out
        obtain ⟨B0, vl, vp, va, c1, c2, rfl, hB0, hS0⟩ := hsto
        obtain ⟨⟨Al, cl, rfl⟩, ⟨Ap, cp, rfl⟩, Aa, ca, rfl⟩ := hS0.slices
        have hblk : Blk w2 (gp + 1) 43 (stA (M j) (.slice Al (M j).list.length cl) (.slice Ap (M j).prom.length cp) (.slice Aa (M j).ab.length ca)) := hblk
        have HST := Lib.hid fun W (kW : K w2 W) => stv_st hS0.stv kW
        have hg2 : gp + 2 ≤ w2.heap.size := hblk.lt
        obtain ⟨s', hs'⟩ : ∃ s', s' = (stepS (M j) r).1 := ⟨_, rfl⟩
        rw [← hs'] at HS3
        obtain ⟨code, hcode⟩ : ∃ c, c = (stepS (M j) r).2 := ⟨_, rfl⟩
        simp only [← hs', ← hcode] at C2
        obtain ⟨C, hC⟩ : ∃ C : World → Prop, C = fun W => K w2 W := ⟨_, rfl⟩
        have hg : ∀ W W', C W → Below W.heap.size W W' → C W' := by
          subst hC
          intro W W' h hb
          exact h.tr hb
        have hc0 : C w2 := by rw [hC]; exact K.rf _
        obtain ⟨F, hF⟩ : ∃ F : (Nat → Bool) → (Nat → Value) → World → Prop, F = fun L V W => hasS (gp + 1) s' W ∧ Below (gp + 1) w2 W ∧ (L 6 = true → ∃ u, V 6 = .tuple #[u, .int .i64 code]) := ⟨_, rfl⟩
        refine wp_region_turn4 5 9 [0, 1, 2, 3, 4, 5, 6, 7] [] C (fun _ => True) (fun _ => True) (fun W W' => K W W') F [isV (.agg (stA (M j) (.slice Al (M j).list.length cl) (.slice Ap (M j).prom.length cp) (.slice Aa (M j).ab.length ca))),
            isV (.slice (some ⟨b1, off, none⟩) l.length d_),
            isV (.int .i64 (j : Int)),
            isV (.pointer (some ⟨b1, off + j * 13, none⟩)),
            isV (.agg (recA r (.slice Af r.e.f.length cf) (.slice Ae r.e.es.length ce))),
            stpF (gp + 2) s' code,
            stpF (gp + 2) s' code,
            stoF (gp + 2) s',
            isV (.int .i64 code),
            anyV]
          [([], []), ([], []), ([], []), ([1, 2], [(22, 1), (23, 2)]), ([3], [(24, 3)]), ([0, 4], [(21, 0), (25, 4)]), ([5], [(26, 5)]), ([6], [(20, 6)]), ([6], [(20, 6)]), ([7], [(27, 7)])] 30 rfl (by kernel_rfl) (by kernel_rfl) (by kernel_rfl) (by decide) (by decide) (by decide) (by kernel_rfl) (by kernel_rfl) hg (fun _ _ h _ => h) (fun _ _ h _ => h) (by exact hg _ _ hc0 (Below.drew (Below.refl _ _))) trivial ?st1 ?stt1 ?ow1 ?_
        case st1 =>
          simp only [List.forall_mem_cons]
          and_intros
          all_goals first | exact isV_st _ | exact anyV_st | exact stpF_st _ _ _ | exact stoF_st _ _ | simp
        case stt1 =>
          simp only [List.zipIdx_cons, List.zipIdx_nil, List.forall_mem_cons, Nat.zero_add, Nat.reduceAdd]
          and_intros
          all_goals first | exact .inl rfl | exact .inr (fun _ _ _ h _ => h) | simp
        case ow1 =>
          simp only [OwedU, OwedT, List.contains_cons, List.contains_nil, Nat.reduceBEq, Bool.or_false, Bool.or_true, Bool.false_eq_true, if_true, if_false, Nat.reduceEqDiff, Nat.reduceAdd, and_true, true_and]
          and_intros
          all_goals try trivial
          all_goals
            first
            | (intro V w' hc hp
               rw [hC] at hc
               have q := (hblk.below hc hblk.lt).cell
               have e1 := HD.out w' (kr2.tr hc)
               have e0 := HD0.out w' (kr2.tr hc)
               try simp only [List.forall_mem_cons, tab_zero, tab_succ, isV] at hp
               try (simp [wantsG, rhoP, List.lookup, hp, tab_zero, tab_succ, ResG, execOp, bareOp, isV, undef, Below.refl, q, e0, e1, hji, go_sem]; done))
            | skip
          · intro hp2
            simp only [List.forall_mem_cons, tab_zero, tab_succ, isV] at hp2
            simp [rhoP, List.lookup, hp2, tab_zero, tab_succ, ResT, execOp, bareOp, go_sem]
            refine (C2.out w' (kr2.tr hc) _ (HST.out w' hc)).mono ?_
            rintro e w3 ⟨B, vl', vp', va', c1', c2', rfl, hB, hS, k3⟩
            refine ⟨_, rfl, ⟨B, _, _, _, _, _, rfl, by have := hc.size; omega, hS⟩, by rw [hC]; exact hc.tr k3, k3⟩
          · obtain ⟨⟨B, vl', vp', va', c1', c2', e6, hB, hS⟩, -⟩ := hp
            simp [e6, wantsG, rhoP, List.lookup, tab_zero, tab_succ, ResG, execOp, bareOp, Below.refl, go_sem]
            exact ⟨B, _, _, _, _, _, rfl, hB, hS⟩
          · intro L V w' hLk hal hFw
            rw [hF] at hFw ⊢
            obtain ⟨h1, h2, h3⟩ := hFw
            obtain ⟨u, e6⟩ := h3 (hal 6 (by simp))
            generalize hA : rhoP [(20, 6)] _ V = ρ9
            have e5 : ρ9 (.tmp 20) = .tuple #[u, .int .i64 code] := by rw [← hA]; exact e6
            have hrun : (execOp ρ9 (bareOp (.extract (.tmp 20) 1) 31)).run Try.prog w' = .ok (.value (.int .i64 code)) w' := by
              simp [e5, execOp, bareOp, go_sem]
            rw [hrun]
            exact ⟨h1, h2, fun _ => ⟨u, by simp [updV, e6]⟩⟩
          · obtain ⟨⟨B, vl', vp', va', c1', c2', e6, hB, hS⟩, -⟩ := hp
            simp [e6, wantsG, rhoP, List.lookup, tab_zero, tab_succ, ResG, execOp, bareOp, isV, Below.refl, go_sem]
          · intro L V w' hal hc _ hp
            have f7 := hp 7 (hal 7 (by simp))
            have f6 := hp 6
            simp only [tab_zero, tab_succ] at f7 f6
            obtain ⟨B, vl', vp', va', c1', c2', e7, hB, hS⟩ := f7
            rw [hC] at hc
            have hb9 := hblk.below hc hblk.lt
            generalize hA : rhoP [(27, 7)] _ V = ρ9
            have es : ρ9 (.tmp 3) = .pointer (some ⟨gp + 1, 0, none⟩) := by rw [← hA]; rfl
            have ex : ρ9 (.tmp 27) = .agg (stA s' vl' vp' va') := by rw [← hA]; exact e7
            obtain ⟨⟨El, fl, rfl⟩, ⟨Ep, fp, rfl⟩, Ea, fa, rfl⟩ := hS.slices
            obtain ⟨w'', hrun, hb2, hg9⟩ := exec_storeF (P := Try.prog) (ρ := ρ9) (.tmp 3) (.tmp 27) 43 0 43 (gp + 1) 0 _ _ es ex hb9 (by kernel_rfl) (by simp) (by simp [Value.oneCell'])
            rw [hrun]
            have u9 : UpN (fun k => k = gp + 1) w' w'' := UpN.of_mut hg9 (fun k e => by injection e with e; exact e.symm)
            show F _ _ w''
            rw [hF]
            refine ⟨⟨_, ⟨B, _, _, _, _, _, rfl, hB, hS.low (u9.more fun k e => by omega)⟩, hb2⟩, ?_, fun h => ?_⟩
            · have hcb : Below (gp + 1) w2 w' := hc.mono (by omega)
              exact hcb.trans ⟨hg9.os, hg9.tape, hg9.output, hg9.size, fun i hi => hg9.block i (by have := hc.size; omega) (by intro e; injection e with e; omega)⟩
            · obtain ⟨B', vl6, vp6, va6, c16, c26, e6, -, -⟩ := f6 (by simpa [upd] using h)
              exact ⟨.agg (stA s' vl6 vp6 va6), by simp [updV, e6]⟩
        intro V W hFW
        rw [hF] at hFW
        obtain ⟨hS, hb, -⟩ := hFW
        have HS4 := Lib.hid (show hasS (gp + 1) (M (j + 1)) W by rw [HS3.out]; exact hS)
        have kb4 := kb2.trans hb
        simp only [putAll, Act.put, List.setIfInBounds_toArray, List.set_cons_succ, List.set_cons_zero]
        clear hF hC hg hc0 hS hb kb2 HS2 HS3 hblk hS0 C2 HST HD HD0
        go_wp2
        go_roundw
        case rel => exact ⟨j + 1, by omega, by omega, by go_num, HS4, kb4⟩
        case measure => simp [intOf]; omega
    · have hjl : l.length ≤ j ∨ 40 ≤ j := by omega
      have HMJ : Hid (M j = ML) := Lib.hid (HME.out j (by omega))
      obtain ⟨v0, ⟨B0, vl, vp, va, c1, c2, rfl, hB0, hS0⟩, hblk⟩ := HSj.out
      obtain ⟨⟨El, fl, rfl⟩, ⟨Ep, fp, rfl⟩, Ea, fa, rfl⟩ := hS0.slices
      have hblk : Blk wr (gp + 1) 43 (stA (M j) (.slice El (M j).list.length fl) (.slice Ep (M j).prom.length fp) (.slice Ea (M j).ab.length fa)) := hblk
      have hr9 := hr0.below kb (by omega)
      simp only [HMJ.out] at hS0 hblk
      have q := hblk.cell
      have z := hr9.frozen
      have qz := hr9.cell
      have HR := Lib.hid hS0
      clear hS0 HSj hr0 HL HF hblk HM0 HM1 HMS HML HME HMJ hlt
      have FIN : Hid (∀ W9, W9 = World.setCell (World.setCell (World.setCell (World.setCell wr ⟨gp, 0, none⟩ (.int .u64 (ML.life : Int))) ⟨gp, 1, none⟩ (.slice El (ML.list).length fl)) ⟨gp, 2, none⟩ (.slice Ep ML.prom.length fp)) ⟨gp, 3, none⟩ (.slice Ea ML.ab.length fa) →
          Blk W9 gp 43 (stA ML (.slice El ML.list.length fl) (.slice Ep ML.prom.length fp) (.slice Ea ML.ab.length fa)) ∧ K w W9 ∧ StoR B0 ML (.slice El ML.list.length fl) (.slice Ep ML.prom.length fp) (.slice Ea ML.ab.length fa) c1 c2 W9) := Lib.hid (by
        rintro W9 rfl
        refine ⟨(((hr9.set_ 0 (.int .u64 (ML.life : Int))).set_ 1 (.slice El ML.list.length fl)).set_ 2 (.slice Ep ML.prom.length fp)).set_ 3 (.slice Ea ML.ab.length fa),
          K.set (K.set (K.set (K.set kr (r := gp) (by omega) 0 (.int .u64 (ML.life : Int))) (r := gp) (by omega) 1 (.slice El ML.list.length fl)) (r := gp) (by omega) 2 (.slice Ep ML.prom.length fp)) (r := gp) (by omega) 3 (.slice Ea ML.ab.length fa), ?_⟩
        exact HR.out.low ((((UpN.setF (X := fun k => k < B0) (g := gp) (i := 0) (by omega) wr (.int .u64 (ML.life : Int))).tr (UpN.setF (X := fun k => k < B0) (g := gp) (i := 1) (by omega) _ (.slice El ML.list.length fl))).tr (UpN.setF (X := fun k => k < B0) (g := gp) (i := 2) (by omega) _ (.slice Ep ML.prom.length fp))).tr (UpN.setF (X := fun k => k < B0) (g := gp) (i := 3) (by omega) _ (.slice Ea ML.ab.length fa))))
      clear hr9
      by_cases hjl2 : l.length ≤ j
      · have hji : ¬ (j : Int) < (l.length : Int) := by omega
        clear hjl hjl2
        go_wp2
        obtain ⟨hb9, kS, hR9⟩ := FIN.out _ rfl
        clear q z qz FIN
        generalize World.setCell (World.setCell (World.setCell (World.setCell wr _ _) _ _) _ _) _ _ = W9 at *
        have e9 := hb9.cell
        refine bodyPost_ret (v := .agg (stA ML (.slice El ML.list.length fl) (.slice Ep ML.prom.length fp) (.slice Ea ML.ab.length fa))) (by simp [results, Try.results23, go_sem, e9]) rfl ?_
        exact ⟨_, rfl, hR9.stv, kS⟩
      · have hji : (j : Int) < (l.length : Int) := by omega
        have hj4 : ¬ (j : Int) < 40 := by omega
        clear hjl hjl2
        go_wp2
        obtain ⟨hb9, kS, hR9⟩ := FIN.out _ rfl
        clear q z qz FIN
        generalize World.setCell (World.setCell (World.setCell (World.setCell wr _ _) _ _) _ _) _ _ = W9 at *
        have e9 := hb9.cell
        refine bodyPost_ret (v := .agg (stA ML (.slice El ML.list.length fl) (.slice Ep ML.prom.length fp) (.slice Ea ML.ab.length fa))) (by simp [results, Try.results23, go_sem, e9]) rfl ?_
        exact ⟨_, rfl, hR9.stv, kS⟩
end Go.Proofs.Ythnhdeieimgfhaa
