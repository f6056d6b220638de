/-
  postilionlaw05.FilterNamed: the walk. Conditions: none.
-/
import Derived.Test.YtejdbdfofehdpaaFilter2
namespace Go.Proofs.Ytejdbdfofehdpaa
open Go Go.RowKit

/-- Whether a filter asks after an attribute. -/
def askF (f : List Tst) (x : Att) : Bool := f.any fun t => decide (t.1 = x.1)
theorem find_less (p q : Att → Bool) (h : ∀ x, p x = true → q x = true) (e : List Att) : (e.filter q).find? p = e.find? p := by
  induction e with
  | nil => rfl
  | cons x e ih =>
    cases hp : p x with
    | true => rw [List.filter_cons, if_pos (h x hp), List.find?_cons, List.find?_cons, hp]
    | false =>
      rw [List.filter_cons]
      split
      · rw [List.find?_cons, List.find?_cons, hp]; exact ih
      · rw [List.find?_cons, hp]; exact ih
theorem holds_less (f : List Tst) (t : Tst) (ht : t ∈ f) (e : List Att) : holdsT t (e.filter (askF f)) = holdsT t e := by
  unfold holdsT
  rw [find_less (isN t.1) (askF f) ?_ e]
  intro x hx
  unfold askF
  rw [List.any_eq_true]
  exact ⟨t, ht, by simp only [isN, decide_eq_true_eq] at hx ⊢; exact hx.symm⟩
theorem matches_less (f : List Tst) (e : List Att) : matchesF f (e.filter (askF f)) = matchesF f e := by
  unfold matchesF
  rw [Bool.eq_iff_iff, List.all_eq_true, List.all_eq_true]
  constructor
  · intro h t ht; rw [← holds_less f t ht e]; exact h t ht
  · intro h t ht; rw [holds_less f t ht e]; exact h t ht
theorem holds_no (t : Tst) (e : List Att) (h : e.any (isN t.1) = false) : holdsT t e = false := by
  unfold holdsT
  have : e.find? (isN t.1) = none := by
    rw [List.find?_eq_none]
    intro x hx
    rw [List.any_eq_false] at h
    exact h x hx
  rw [this]
theorem any_takeP {α : Type} (p : α → Bool) (l : List α) (k : Nat) (h : k < l.length) : (l.take (k + 1)).any p = ((l.take k).any p || p l[k]) := by
  rw [List.take_succ_eq_append_getElem h, List.any_append]; simp
theorem filter_take {α : Type} (p : α → Bool) (l : List α) (k : Nat) (h : k < l.length) : (l.take (k + 1)).filter p = (l.take k).filter p ++ (if p l[k] then [l[k]] else []) := by
  rw [List.take_succ_eq_append_getElem h, List.filter_append, List.filter_cons]
  split <;> rfl
theorem filter_len (p : Att → Bool) (l : List Att) (k : Nat) (h : l.length ≤ 20) : ((l.take k).filter p).length ≤ 20 := by
  have h1 := List.length_filter_le p (l.take k)
  have h2 : (l.take k).length ≤ l.length := by simp; omega
  omega

set_option maxHeartbeats 2000000 in
set_option maxRecDepth 100000 in
theorem FilterNamed_walk (v0 v1 v2 : Value) (w : World) (r0 : repFilter w v0) (r1 : repEvent w v1) (r2 : repTest w v2) :
    Calls Try.prog 8 #[v0, v1, v2] w fun e w' => e = .returned (.bool true) ∧ Below w.heap.size w w' := by
  obtain ⟨l, hf, hi⟩ := flt_rep r0
  obtain ⟨ev, he, -⟩ := evt_rep r1
  obtain ⟨⟨s, op, tk, tn, x⟩, rfl, -⟩ := r2
  clear r0 r1 hi
  have hx := Blk.new w 30 #[.string s, .int .i64 op, .int .i64 tk, .int .i64 tn, .string x]
  have hbw : Below w.heap.size w (w.alloc (.cells #[.string s, .int .i64 op, .int .i64 tk, .int .i64 tn, .string x] 30)) := (Below.refl _ _).alloc (Nat.le_refl _) _
  replace hf := flt_st _ _ _ _ hf hbw
  replace he := evt_st _ _ _ _ he hbw
  go_enter Try.func8, Try.ntmps8
  go_wp2_with fail
  generalize w.alloc (.cells #[.string s, .int .i64 op, .int .i64 tk, .int .i64 tn, .string x] 30) = w1 at *
  refine (awake_calls _).mono ?_
  rintro e w2 ⟨rfl, hb⟩
  replace hf := flt_st _ _ _ _ hf hb
  replace he := evt_st _ _ _ _ he hb
  replace hx := hx.below hb hx.lt
  replace hbw := hbw.trans (hb.mono hbw.size)
  clear hb
  go_wp2_with fail
  refine (FFew_flt hf).mono ?_
  rintro e w' ⟨rfl, rfl⟩
  cases hq : fewF l
  · go_wp2
    go_ret
    exact ⟨rfl, hbw⟩
  have hlen := (fewF_parts hq).1
  have hlen6 := (fewF_fit hq).1
  clear hq
  have q0 := hx.cell 0
  have q1 := hx.cell 1
  have q2 := hx.cell 2
  have q3 := hx.cell 3
  have q4 := hx.cell 4
  simp at q0 q1 q2 q3 q4
  go_wp2_with fail
  have ho : flt [((s, op, tk, tn, x) : Tst)] (.slice (some ⟨w2.heap.size, 0, none⟩) 1 1) (w2.alloc (.cells #[.string s, .int .i64 op, .int .i64 tk, .int .i64 tn, .string x] 30)) := ⟨_, _, rfl, (Reads.new w2 (tstc ((s, op, tk, tn, x) : Tst)) 30 5 1 rfl).more (by simp)⟩
  clear q0 q1 q2 q3 q4
  have hb : Below w2.heap.size w2 (w2.alloc (.cells #[.string s, .int .i64 op, .int .i64 tk, .int .i64 tn, .string x] 30)) := (Below.refl _ _).alloc (Nat.le_refl _) _
  replace hf := flt_st _ _ _ _ hf hb
  replace he := evt_st _ _ _ _ he hb
  replace hx := hx.below hb hx.lt
  replace hbw := hbw.trans (hb.mono hbw.size)
  clear hb
  generalize w2.alloc (.cells #[.string s, .int .i64 op, .int .i64 tk, .int .i64 tn, .string x] 30) = w3 at *
  generalize w2.heap.size = g3 at *
  refine (FFew_flt ho).mono ?_
  rintro e w' ⟨rfl, rfl⟩
  clear ho
  cases hq : fewF [((s, op, tk, tn, x) : Tst)]
  · go_wp2
    go_ret
    exact ⟨rfl, hbw⟩
  clear hq
  go_wp2_with fail
  refine (Few_evt he).mono ?_
  rintro e w' ⟨rfl, rfl⟩
  cases hq : fewE ev
  · go_wp2
    go_ret
    exact ⟨rfl, hbw⟩
  have hel := (few_parts hq).1
  have hle := (few_fit hq).1
  clear hq
  obtain ⟨Af, cf, rfl, hRf⟩ := hf
  obtain ⟨Ae, ce, rfl, hRe⟩ := he
  have HRF := Lib.hid hRf
  have HRE := Lib.hid hRe
  clear hRf hRe
  go_wp2_with fail
  go_loopw [8, 9, 10] (fun v hs i wr => ∃ k : Nat, k ≤ ev.length ∧ i = .int .i64 (k : Int) ∧ OwnE wr w3.heap.size v ((ev.take k).filter (askF l)) ∧ hs = .bool ((ev.take k).any (isN s)) ∧ Below w3.heap.size w3 wr) (fun _ _ i _ => ev.length - (intOf i).toNat)
  case atStart => exact ⟨0, by omega, rfl, World.ownsRow_nil _ _ _ _, rfl, Below.refl _ _⟩
  case round =>
    obtain ⟨k, hk, rfl, hown, rfl, hb⟩ := hrel
    by_cases hlt : k < ev.length
    · have hki : (k : Int) < (ev.length : Int) := by omega
      have hki0 : (0 : Int) ≤ (k : Int) := by omega
      obtain ⟨b, off, rfl, hbB, hcell⟩ := HRE.out.atts (by omega)
      obtain ⟨e0, e1, e2, e3⟩ := hcell k hlt
      have HAN := Lib.hid (any_takeP (isN s) ev k hlt)
      have HFI := Lib.hid (filter_take (askF l) ev k hlt)
      have hfl := filter_len (askF l) ev k hel
      clear hcell
      generalize ev[k] = y at *
      obtain ⟨ys, yk, yn, yt⟩ := y
      simp only at e0 e1 e2 e3
      generalize wr = wo at *
      generalize hhs : (ev.take k).any (isN s) = hs at *
      have hzo := hb.size
      go_wp2_with fail
      go_loopw [11, 12] (fun a j W => ∃ q : Nat, q ≤ l.length ∧ j = .int .i64 (q : Int) ∧ a = .bool ((l.take q).any fun t => decide (t.1 = ys)) ∧ Below wo.heap.size wo W) (fun _ j _ => l.length - (intOf j).toNat)
      case atStart => exact ⟨0, by omega, rfl, rfl, Below.refl _ _⟩
      case round =>
        obtain ⟨q, hq, rfl, rfl, hb2⟩ := hrel
        by_cases hlq : q < l.length
        · have hqi : (q : Int) < (l.length : Int) := by omega
          have hqi0 : (0 : Int) ≤ (q : Int) := by omega
          obtain ⟨b2, off2, rfl, hbB2, hcell2⟩ := HRF.out.tsts (by omega)
          obtain ⟨t0, -, -, -, -⟩ := hcell2 q hlq
          have HAT := Lib.hid (any_takeP (fun t : Tst => decide (t.1 = ys)) l q hlq)
          clear hcell2
          generalize l[q] = tz at *
          obtain ⟨ts, tz2⟩ := tz
          simp only at t0
          have hbb := hb.trans (hb2.mono hzo)
          have f0 := (hbb.cell (p := ⟨b2, off2 + q * 5, none⟩) hbB2).trans t0
          have g0 := (hbb.cell (p := ⟨b, off + k * 4, none⟩) hbB).trans e0
          have hzz := hbb.size
          have hz2 : b2 < wr.heap.size := by omega
          have hz1 : b < wr.heap.size := by omega
          clear t0
          generalize (l.take q).any (fun t => decide (t.1 = ys)) = asked at *
          go_upto_region 13 with (fail)
          cases asked
          · obtain ⟨C, hC⟩ : ∃ C : World → Prop, C = fun Wz => Below wr.heap.size wr Wz := ⟨_, rfl⟩
            have hg : ∀ W W', C W → Below W.heap.size W W' → C W' := by
              subst hC
              exact fun W W' h1 hb => h1.trans (hb.mono h1.size)
            have hc0 : C wr := by rw [hC]; exact Below.refl _ _
            refine wp_region_grow C [isV (.bool false),
                isV (.bool false),
                isV (.slice (some ⟨b2, off2, none⟩) l.length cf),
                isV (.int .i64 ((q : Int))),
                isV (.pointer (some ⟨b2, off2 + q * 5, none⟩)),
                isV (.pointer (some ⟨b2, off2 + q * 5, none⟩)),
                isV (.string ts),
                isV (.slice (some ⟨b, off, none⟩) ev.length ce),
                isV (.int .i64 ((k : Int))),
                isV (.pointer (some ⟨b, off + k * 4, none⟩)),
                isV (.pointer (some ⟨b, off + k * 4, none⟩)),
                isV (.string ys),
                isV (.bool (ts.toList == ys.toList)),
                isV (.bool (ts.toList == ys.toList)),
                isV (.bool (ts.toList == ys.toList))]
              [([], []), ([0], [(41, 0)]), ([1], []), ([1], []), ([2, 3, 1], [(43, 2), (44, 3)]), ([4, 1], [(45, 4)]), ([5, 1], [(46, 5)]), ([1], []), ([1], []), ([7, 8, 1], [(48, 7), (49, 8)]), ([9, 1], [(50, 9)]), ([10, 1], [(51, 10)]), ([6, 11, 1], [(47, 6), (52, 11)]), ([1, 12], [(42, 1), (53, 12)]), ([13], [(54, 13)])] 93 rfl (by kernel_rfl) (by kernel_rfl) (by kernel_rfl) hg (by exact hg _ _ hc0 (Below.drew (Below.refl _ _))) ?st13 ?ow13 ?_
            case st13 =>
              simp only [List.forall_mem_cons]
              and_intros
              all_goals first | exact isV_st _ | simp
            case ow13 =>
              simp only [OwedQ]
              and_intros
              all_goals try trivial
              all_goals
                intro V w' hc hp
                rw [hC] at hc
                have c0 := (hc.cell (p := ⟨b2, off2 + q * 5, none⟩) hz2).trans f0
                have d0 := (hc.cell (p := ⟨b, off + k * 4, none⟩) hz1).trans g0
                try simp only [List.forall_mem_cons, tab_zero, tab_succ, isV] at hp
                try simp [wantsG, rhoP, List.lookup, hp, tab_zero, tab_succ, ResG, execOp, bareOp, isV, undef, Below.refl, c0, d0, hqi, hqi0, hki, hki0, go_sem]
            intro V W hc hp
            have hlast := hp 14 (by simp)
            simp only [tab_zero, tab_succ, isV] at hlast
            rw [hC] at hc
            clear hp hg hc0 hC
            simp only [putAll, Act.put, List.setIfInBounds_toArray, List.set_cons_succ, List.set_cons_zero, hlast]
            go_wp2
            go_roundw
            case rel => exact ⟨q + 1, by omega, by go_num, by rw [HAT.out, byt_beq]; rfl, hb2.trans (hc.mono hb2.size)⟩
            case measure => simp [intOf]; omega
          · obtain ⟨C, hC⟩ : ∃ C : World → Prop, C = fun Wz => Below wr.heap.size wr Wz := ⟨_, rfl⟩
            have hg : ∀ W W', C W → Below W.heap.size W W' → C W' := by
              subst hC
              exact fun W W' h1 hb => h1.trans (hb.mono h1.size)
            have hc0 : C wr := by rw [hC]; exact Below.refl _ _
            refine wp_region_grow C [isV (.bool true),
                isV (.bool true),
                isV (cond (false) (.slice (some ⟨b2, off2, none⟩) l.length cf) undef),
                isV (cond (false) (.int .i64 ((q : Int))) undef),
                isV (cond (false) (.pointer (some ⟨b2, off2 + q * 5, none⟩)) undef),
                isV (cond (false) (.pointer (some ⟨b2, off2 + q * 5, none⟩)) undef),
                isV (cond (false) (.string ts) undef),
                isV (cond (false) (.slice (some ⟨b, off, none⟩) ev.length ce) undef),
                isV (cond (false) (.int .i64 ((k : Int))) undef),
                isV (cond (false) (.pointer (some ⟨b, off + k * 4, none⟩)) undef),
                isV (cond (false) (.pointer (some ⟨b, off + k * 4, none⟩)) undef),
                isV (cond (false) (.string ys) undef),
                isV (cond (false) (.bool (ts.toList == ys.toList)) undef),
                isV (.bool true),
                isV (.bool true)]
              [([], []), ([0], [(41, 0)]), ([1], []), ([1], []), ([2, 3, 1], [(43, 2), (44, 3)]), ([4, 1], [(45, 4)]), ([5, 1], [(46, 5)]), ([1], []), ([1], []), ([7, 8, 1], [(48, 7), (49, 8)]), ([9, 1], [(50, 9)]), ([10, 1], [(51, 10)]), ([6, 11, 1], [(47, 6), (52, 11)]), ([1, 12], [(42, 1), (53, 12)]), ([13], [(54, 13)])] 93 rfl (by kernel_rfl) (by kernel_rfl) (by kernel_rfl) hg (by exact hg _ _ hc0 (Below.drew (Below.refl _ _))) ?st14 ?ow14 ?_
            case st14 =>
              simp only [List.forall_mem_cons]
              and_intros
              all_goals first | exact isV_st _ | simp
            case ow14 =>
              simp only [OwedQ]
              and_intros
              all_goals try trivial
              all_goals
                intro V w' hc hp
                rw [hC] at hc
                have _c0 := (hc.cell (p := ⟨b2, off2 + q * 5, none⟩) hz2).trans f0
                have _d0 := (hc.cell (p := ⟨b, off + k * 4, none⟩) hz1).trans g0
                try simp only [List.forall_mem_cons, tab_zero, tab_succ, isV] at hp
                try simp [wantsG, rhoP, List.lookup, hp, tab_zero, tab_succ, ResG, execOp, bareOp, isV, undef, Below.refl, go_sem]
            intro V W hc hp
            have hlast := hp 14 (by simp)
            simp only [tab_zero, tab_succ, isV] at hlast
            rw [hC] at hc
            clear hp hg hc0 hC
            simp only [putAll, Act.put, List.setIfInBounds_toArray, List.set_cons_succ, List.set_cons_zero, hlast]
            go_wp2
            go_roundw
            case rel => exact ⟨q + 1, by omega, by go_num, by rw [HAT.out]; rfl, hb2.trans (hc.mono hb2.size)⟩
            case measure => simp [intOf]; omega
        · have hqi : ¬ (q : Int) < (l.length : Int) := by omega
          have HAS : Hid (((l.take q).any fun t => decide (t.1 = ys)) = askF l (ys, yk, yn, yt)) := Lib.hid (by rw [List.take_of_length_le (by omega)]; rfl)
          generalize ((l.take q).any fun t => decide (t.1 = ys)) = asked at *
          have hown2 := row_below hown hb2
          have hbb := hb.trans (hb2.mono hzo)
          have hzz := hbb.size
          have d0 := (hbb.cell (p := ⟨b, off + k * 4, none⟩) hbB).trans e0
          have d1 := (hbb.cell (p := ⟨b, off + k * 4 + 1, none⟩) hbB).trans e1
          have d2 := (hbb.cell (p := ⟨b, off + k * 4 + 2, none⟩) hbB).trans e2
          have d3 := (hbb.cell (p := ⟨b, off + k * 4 + 3, none⟩) hbB).trans e3
          rw [← HAS.out] at HFI
          clear hown hb hb2 hzo hlq HAS e1 e2 e3
          go_upto_if 55 with (fail)
          go_cut [8] from 55 to 62 (fun v wc => OwnE wc w3.heap.size v ((ev.take (k + 1)).filter (askF l)) ∧ Below w3.heap.size w3 wc)
          case first =>
            cases asked
            · go_wp2
              go_meet
              case rel => exact ⟨by rw [HFI.out]; simpa using hown2, hbb⟩
            · go_wp2_with (at_builtin; refine wpList_app rfl _ _ 26 rfl w3.heap.size 50 _ 4 48 TE _ _ _ rfl (World.ownsRow.alloc hown2 _) (wr.heap.size + 1) _ 1 1 (attc (ys, yk, yn, yt)) rfl ?c1 ?c2 ?c3 ?c5 ?_)
              case c1 => exact Reads.new wr (attc (ys, yk, yn, yt)) 50 4 1 rfl
              case c2 => first | exact attc_one _ | exact ⟨rfl, rfl, rfl, rfl⟩
              case c3 => omega
              case c5 => omega
              intro v9 w9 hown9 hg9 hat9 hb9
              have hown10 : OwnE w9 w3.heap.size v9 ((ev.take (k + 1)).filter (askF l)) := by
                rw [HFI.out]
                unfold OwnE
                simpa [List.flatMap_append] using hown9
              have hbb9 : Below w3.heap.size w3 w9 := (hbb.alloc hbb.size _).trans hb9
              clear hown9 hg9 hat9 hb9 hown2 hbb
              go_wp2
              go_meet
              case rel => exact ⟨hown10, hbb9⟩
          case rest =>
          obtain ⟨hown4, hb4⟩ := hcut
          clear hown2 hbb hzz d0 d1 d2 d3 hfl HFI
          have g0 := (hb4.cell (p := ⟨b, off + k * 4, none⟩) hbB).trans e0
          have hx5 := hx.below hb4 hx.lt
          have hz4 := hb4.size
          have hz1 : b < wc.heap.size := by omega
          clear e0
          go_upto_region 16 with (fail)
          cases hs
          · obtain ⟨C, hC⟩ : ∃ C : World → Prop, C = fun Wz => Below wc.heap.size wc Wz := ⟨_, rfl⟩
            have hg : ∀ W W', C W → Below W.heap.size W W' → C W' := by
              subst hC
              exact fun W W' h1 hb => h1.trans (hb.mono h1.size)
            have hc0 : C wc := by rw [hC]; exact Below.refl _ _
            refine wp_region_grow C [isV (.bool false),
                isV (.bool false),
                isV (.slice (some ⟨b, off, none⟩) ev.length ce),
                isV (.int .i64 ((k : Int))),
                isV (.pointer (some ⟨b, off + k * 4, none⟩)),
                isV (.pointer (some ⟨b, off + k * 4, none⟩)),
                isV (.string ys),
                isV (.pointer (some ⟨w.heap.size, 0, none⟩)),
                isV (.string s),
                isV (.bool (ys.toList == s.toList)),
                isV (.bool (ys.toList == s.toList)),
                isV (.bool (ys.toList == s.toList))]
              [([], []), ([0], [(63, 0)]), ([1], []), ([1], []), ([2, 3, 1], [(65, 2), (66, 3)]), ([4, 1], [(67, 4)]), ([5, 1], [(68, 5)]), ([1], []), ([7, 1], [(70, 7)]), ([6, 8, 1], [(69, 6), (71, 8)]), ([1, 9], [(64, 1), (72, 9)]), ([10], [(73, 10)])] 93 rfl (by kernel_rfl) (by kernel_rfl) (by kernel_rfl) hg (by exact hg _ _ hc0 (Below.drew (Below.refl _ _))) ?st16 ?ow16 ?_
            case st16 =>
              simp only [List.forall_mem_cons]
              and_intros
              all_goals first | exact isV_st _ | simp
            case ow16 =>
              simp only [OwedQ]
              and_intros
              all_goals try trivial
              all_goals
                intro V w' hc hp
                rw [hC] at hc
                have c0 := (hc.cell (p := ⟨b, off + k * 4, none⟩) hz1).trans g0
                have q0 := (hx5.below hc hx5.lt).cell 0
                simp at q0
                try simp only [List.forall_mem_cons, tab_zero, tab_succ, isV] at hp
                try simp [wantsG, rhoP, List.lookup, hp, tab_zero, tab_succ, ResG, execOp, bareOp, isV, undef, Below.refl, c0, q0, hki, hki0, go_sem]
            intro V W hc hp
            have hlast := hp 11 (by simp)
            simp only [tab_zero, tab_succ, isV] at hlast
            rw [hC] at hc
            clear hp hg hc0 hC
            simp only [putAll, Act.put, List.setIfInBounds_toArray, List.set_cons_succ, List.set_cons_zero, hlast]
            go_wp2
            go_roundw
            case rel => exact ⟨k + 1, by omega, by go_num, row_below hown4 hc, by rw [HAN.out, byt_beq]; rfl, hb4.trans (hc.mono hz4)⟩
            case measure => simp [intOf]; omega
          · obtain ⟨C, hC⟩ : ∃ C : World → Prop, C = fun Wz => Below wc.heap.size wc Wz := ⟨_, rfl⟩
            have hg : ∀ W W', C W → Below W.heap.size W W' → C W' := by
              subst hC
              exact fun W W' h1 hb => h1.trans (hb.mono h1.size)
            have hc0 : C wc := by rw [hC]; exact Below.refl _ _
            refine wp_region_grow C [isV (.bool true),
                isV (.bool true),
                isV (cond (false) (.slice (some ⟨b, off, none⟩) ev.length ce) undef),
                isV (cond (false) (.int .i64 ((k : Int))) undef),
                isV (cond (false) (.pointer (some ⟨b, off + k * 4, none⟩)) undef),
                isV (cond (false) (.pointer (some ⟨b, off + k * 4, none⟩)) undef),
                isV (cond (false) (.string ys) undef),
                isV (cond (false) (.pointer (some ⟨w.heap.size, 0, none⟩)) undef),
                isV (cond (false) (.string s) undef),
                isV (cond (false) (.bool (ys.toList == s.toList)) undef),
                isV (.bool true),
                isV (.bool true)]
              [([], []), ([0], [(63, 0)]), ([1], []), ([1], []), ([2, 3, 1], [(65, 2), (66, 3)]), ([4, 1], [(67, 4)]), ([5, 1], [(68, 5)]), ([1], []), ([7, 1], [(70, 7)]), ([6, 8, 1], [(69, 6), (71, 8)]), ([1, 9], [(64, 1), (72, 9)]), ([10], [(73, 10)])] 93 rfl (by kernel_rfl) (by kernel_rfl) (by kernel_rfl) hg (by exact hg _ _ hc0 (Below.drew (Below.refl _ _))) ?st17 ?ow17 ?_
            case st17 =>
              simp only [List.forall_mem_cons]
              and_intros
              all_goals first | exact isV_st _ | simp
            case ow17 =>
              simp only [OwedQ]
              and_intros
              all_goals try trivial
              all_goals
                intro V w' hc hp
                rw [hC] at hc
                have _c0 := (hc.cell (p := ⟨b, off + k * 4, none⟩) hz1).trans g0
                try simp only [List.forall_mem_cons, tab_zero, tab_succ, isV] at hp
                try simp [wantsG, rhoP, List.lookup, hp, tab_zero, tab_succ, ResG, execOp, bareOp, isV, undef, Below.refl, go_sem]
            intro V W hc hp
            have hlast := hp 11 (by simp)
            simp only [tab_zero, tab_succ, isV] at hlast
            rw [hC] at hc
            clear hp hg hc0 hC
            simp only [putAll, Act.put, List.setIfInBounds_toArray, List.set_cons_succ, List.set_cons_zero, hlast]
            go_wp2
            go_roundw
            case rel => exact ⟨k + 1, by omega, by go_num, row_below hown4 hc, by rw [HAN.out]; rfl, hb4.trans (hc.mono hz4)⟩
            case measure => simp [intOf]; omega
    · have hki : ¬ (k : Int) < (ev.length : Int) := by omega
      rw [List.take_of_length_le (by omega)] at hown ⊢
      have hl2 : (ev.filter (askF l)).length ≤ 1000000 := Nat.le_trans (List.length_filter_le _ _) hle
      have HML := Lib.hid (matches_less l ev)
      have HNO := Lib.hid (holds_no (s, op, tk, tn, x) ev)
      have hes := evt_own hown
      have hf : flt l (.slice Af l.length cf) wr := ⟨Af, cf, rfl, (HRF.out.below hb (Nat.le_refl _)).more hb.size⟩
      have he : evt ev (.slice Ae ev.length ce) wr := ⟨Ae, ce, rfl, (HRE.out.below hb (Nat.le_refl _)).more hb.size⟩
      replace hx := hx.below hb hx.lt
      replace hbw := hbw.trans (hb.mono hbw.size)
      clear hown hb HRF HRE
      generalize hany : ev.any (isN s) = hs at *
      go_wp2_with fail
      refine (Matches_flt hf hlen6 hes hl2).mono ?_
      rintro e w4 ⟨rfl, hb⟩
      rw [HML.out]
      replace hf := flt_st _ _ _ _ hf hb
      replace he := evt_st _ _ _ _ he hb
      replace hx := hx.below hb hx.lt
      replace hbw := hbw.trans (hb.mono hbw.size)
      clear hb hes
      go_wp2_with fail
      refine (Matches_flt hf hlen6 he hle).mono ?_
      rintro e w5 ⟨rfl, hb⟩
      replace hf := flt_st _ _ _ _ hf hb
      replace he := evt_st _ _ _ _ he hb
      replace hx := hx.below hb hx.lt
      replace hbw := hbw.trans (hb.mono hbw.size)
      clear hb
      generalize matchesF l ev = mf at *
      cases hs
      · have HH := Lib.hid (HNO.out rfl)
        have q0 := hx.cell 0
        have q1 := hx.cell 1
        have q2 := hx.cell 2
        have q3 := hx.cell 3
        have q4 := hx.cell 4
        simp at q0 q1 q2 q3 q4
        go_wp2_with fail
        clear q0 q1 q2 q3 q4
        refine (Holds_calls (s, op, tk, tn, x) ev _ _ he hle).mono ?_
        rintro e w6 ⟨rfl, hb⟩
        rw [HH.out]
        replace hbw := hbw.trans (hb.mono hbw.size)
        go_wp2
        go_ret
        exact ⟨by simp, hbw⟩
      · go_wp2
        go_ret
        exact ⟨by simp, hbw⟩
end Go.Proofs.Ytejdbdfofehdpaa
