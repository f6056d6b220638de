/-
  postilionlaw04.EventLess: the walk. Conditions: none.
-/
import Derived.Test.YtghgapfhlfcjiaaEvent4
import Derived.Test.YtghgapfhlfcjiaaRegion2
namespace Go.Proofs.Ytghgapfhlfcjiaa
open Go Go.RowKit

theorem flatMap_take (l : List Att) (k : Nat) : (l.take k).flatMap attc = (l.flatMap attc).take (k * 4) := by
  induction l generalizing k with
  | nil => simp
  | cons x l ih =>
    cases k with
    | zero => simp
    | succ k =>
      rw [List.take_succ_cons, List.flatMap_cons, List.flatMap_cons, ih, show (k + 1) * 4 = (attc x).length + k * 4 by simp; omega, List.take_length_add_append]
theorem flatMap_drop (l : List Att) (k : Nat) : (l.drop k).flatMap attc = (l.flatMap attc).drop (k * 4) := by
  induction l generalizing k with
  | nil => simp
  | cons x l ih =>
    cases k with
    | zero => simp
    | succ k =>
      rw [List.drop_succ_cons, List.flatMap_cons, ih, show (k + 1) * 4 = (attc x).length + k * 4 by simp; omega, List.drop_length_add_append]
theorem Reads.preE {w : World} {B n : Nat} {A : Option Addr} {l : List Att} (h : Reads w B 4 A n (l.flatMap attc)) (k : Nat) (hk : k ≤ n) : Reads w B 4 A k ((l.take k).flatMap attc) := by
  have hn := h.attn
  refine ⟨by rw [atts_len]; simp; omega, fun h0 => ?_⟩
  rw [atts_len] at h0
  simp at h0
  obtain ⟨b, off, e, hb, hc⟩ := h.2 (by rw [atts_len]; omega)
  refine ⟨b, off, e, hb, fun j u hu => hc j u ?_⟩
  rw [flatMap_take] at hu
  rw [List.getElem?_take] at hu
  split at hu
  · exact hu
  · cases hu
theorem Reads.postE {w : World} {B n : Nat} {A A' : Option Addr} {l : List Att} (h : Reads w B 4 A n (l.flatMap attc)) (k : Nat) (hA : k < n → A' = A.map (·.add (k * 4))) : Reads w B 4 A' (n - k) ((l.drop k).flatMap attc) := by
  have hn := h.attn
  refine ⟨by rw [atts_len]; simp; omega, fun h0 => ?_⟩
  rw [atts_len] at h0
  simp at h0
  obtain ⟨b, off, rfl, hb, hc⟩ := h.2 (by rw [atts_len]; omega)
  refine ⟨b, off + k * 4, by rw [hA (by omega)]; simp [Addr.add_lit], hb, fun j u hu => ?_⟩
  rw [Nat.add_assoc]
  refine hc _ u ?_
  rw [flatMap_drop, List.getElem?_drop] at hu
  exact hu

theorem reads_grow {w w' : World} {B size n : Nat} {A : Option Addr} {xs : List Value} (h : Reads w B size A n xs) (hb : Below w.heap.size w w') : Reads w' B size A n xs :=
  ⟨h.1, fun hn => by
    obtain ⟨b, off, e, hB, hc⟩ := h.2 hn
    exact ⟨b, off, e, hB, fun j u hu => (hb.cell (p := ⟨b, off + j, none⟩) (World.block_lt_of_cell? w _ (hc j u hu))).trans (hc j u hu)⟩⟩
/-- An empty slice of the call's own. -/
def emp (base : Nat) (v : Value) (w : World) : Prop := ∃ g, v = .slice (some ⟨g, 0, none⟩) 0 0 ∧ base ≤ g ∧ Blk w g 43 #[]
theorem emp_own {base : Nat} {v : Value} {w : World} (h : emp base v w) : OwnE w base v [] := by
  obtain ⟨g, rfl, hb, hk⟩ := h
  exact ⟨by simp, .inr ⟨g, 0, #[], rfl, hb, hk, by simp, by simp, by simp, by simp⟩⟩
/-- What an append to an empty slice may change. -/
def M4 (base : Nat) (w w' : World) : Prop := Below base w w' ∧ ∃ g, w.heap[g]? = some (.cells #[] 43 (0, 0)) ∧ w.grownBy w' (some g)
def Mk (base k : Nat) (w w' : World) : Prop := if k = 4 then M4 base w w' else Below base w w'
theorem Mk_below {base k : Nat} {w w' : World} (h : Mk base k w w') : Below base w w' := by
  unfold Mk at h
  split at h
  · exact h.1
  · exact h
/-- A slice that lies below a block. -/
def low (B base : Nat) (l : List Att) (v : Value) (w : World) : Prop := ∃ A c, v = .slice A l.length c ∧ Reads w B 4 A l.length (l.flatMap attc) ∧ B ≤ base
theorem low_any (B base : Nat) (l : List Att) : ∀ v w w', low B base l v w → Below base w w' → low B base l v w' := by
  rintro v w w' ⟨A, c, rfl, hr, hb⟩ h
  exact ⟨A, c, rfl, hr.below h hb, hb⟩
/-- One attribute in a block of its own. -/
def oneA (x : Att) (v : Value) (w : World) : Prop := ∃ g, v = .slice (some ⟨g, 0, none⟩) 1 1 ∧ Blk w g 43 (attc x).toArray
theorem oneA_M4 {base : Nat} (x : Att) : ∀ v w w', oneA x v w → M4 base w w' → oneA x v w' := by
  rintro v w w' ⟨g, rfl, hk⟩ ⟨_, g', h1, h2⟩
  refine ⟨g, rfl, hk.grown h2 ?_⟩
  rintro e
  injection e with e
  subst e
  unfold Blk at hk
  rw [hk] at h1
  injection h1 with h1
  injection h1 with h1
  have := congrArg Array.size h1
  simp at this
theorem ownE_grow (base : Nat) (l : List Att) : ∀ v w w', OwnE w base v l → Below w.heap.size w w' → OwnE w' base v l := fun _ _ _ h hb => row_below h hb

theorem atts_one (l : List Att) : ∀ u ∈ l.flatMap attc, u.oneCell' = true := by
  intro u hu
  obtain ⟨x, _, hx⟩ := List.mem_flatMap.1 hu
  exact attc_one x u hx
/-- The place that a number means. -/
def placeOf (x : Int) (n : Nat) : Nat := (if x < 0 then (-(x + 1)) else x).toNat % n

set_option maxHeartbeats 8000000 in
set_option maxRecDepth 100000 in
theorem EventLess_walk (v0 v1 : Value) (w : World) (r0 : repEvent w v0) (r1 : repI64 w v1) :
    Calls Try.prog 8 #[v0, v1] w fun e w' => e = .returned (.bool true) ∧ Below w.heap.size w w' := by
  obtain ⟨A, c, l, rfl, hR, hi, hlc, hcm⟩ := r0
  obtain ⟨x, rfl, hx0, hx1⟩ := r1
  have he : evt l (.slice A l.length c) w := ⟨A, c, rfl, hR⟩
  clear hi
  go_enter Try.func8, Try.ntmps8
  go_wp2_with fail
  refine (awake_calls w).mono ?_
  rintro e w1 ⟨rfl, hb1⟩
  have he1 := evt_st _ _ _ _ he hb1
  have hR1 := hR.below hb1 (Nat.le_refl _)
  clear he hR
  go_wp2_with fail
  refine (Few_evt he1).mono ?_
  rintro e w' ⟨rfl, rfl⟩
  cases hf : fewE l
  · go_wp2
    go_ret
    exact ⟨rfl, hb1⟩
  have hlen := (few_parts hf).1
  go_wp2_with fail
  refine (ECheck_evt he1).mono ?_
  rintro e w2 ⟨rfl, hb2⟩
  have he2 := evt_st _ _ _ _ he1 hb2
  have hbw2 := hb1.trans (hb2.mono hb1.size)
  have hR2 := hR1.below hb2 hb1.size
  clear he1 hb2 hR1 hb1
  cases hok : okE l
  · have hne : (chkE l != 0) = true := by simp [chkE, hok]
    go_wp2
    go_ret
    exact ⟨rfl, hbw2⟩
  have hne : (chkE l != 0) = false := by simp [chkE, hok]
  by_cases h2 : l.length < 2
  · have h2' : (l.length : Int) < 2 := by omega
    go_wp2
    go_ret
    exact ⟨rfl, hbw2⟩
  have h2' : ¬ (l.length : Int) < 2 := by omega
  obtain ⟨a, ha⟩ : ∃ a, a = placeOf x l.length := ⟨_, rfl⟩
  have hal : a < l.length := by rw [ha]; exact Nat.mod_lt _ (by omega)
  have HA := Lib.hid ha
  have HOK := Lib.hid hok
  clear ha hok
  obtain ⟨m, hm⟩ : ∃ m : Nat, (m : Int) = if x < 0 then -(x + 1) else x := by
    by_cases h : x < 0
    · exact ⟨(-(x + 1)).toNat, by rw [if_pos h]; omega⟩
    · exact ⟨x.toNat, by rw [if_neg h]; omega⟩
  have hml : (m : Int) ≤ 9223372036854775807 := by rw [hm]; split <;> omega
  have HM := Lib.hid hm
  clear hm
  go_upto_if 26 with (fail)
  go_cut [1] from 26 to 29 (fun v wc => v = .int .i64 (m : Int) ∧ w2 = wc)
  case first =>
    by_cases hx : x < 0
    · have HX : Hid (-(x + 1) = (m : Int)) := by refine Lib.hid ?_; rw [HM.out, if_pos hx]
      go_wp2
      go_meet
      case rel => exact ⟨by rw [← HX.out], rfl⟩
    · have HX : Hid (x = (m : Int)) := by refine Lib.hid ?_; rw [HM.out, if_neg hx]
      have hx' : 0 ≤ x := by omega
      go_wp2
      go_meet
      case rel => exact ⟨by rw [← HX.out], rfl⟩
  case rest =>
  obtain ⟨rfl, rfl⟩ := hcut
  have hlp : (2 : Int) ≤ (l.length : Int) := by omega
  have HMA : Hid (m % l.length = a) := by
    refine Lib.hid ?_
    have h1 := HA.out
    unfold placeOf at h1
    rw [h1, ← HM.out]
    rfl
  go_upto_region 6 with (fail)
  go_cut [1] from 30 to 33 (fun v wc => v = .int .i64 (a : Int) ∧ w2 = wc)
  case first =>
    go_wp2
    go_meet
    case rel => exact ⟨by rw [← HMA.out]; first | rfl | simp, rfl⟩
  case rest =>
  obtain ⟨rfl, rfl⟩ := hcut
  clear HMA HM HA hml
  obtain ⟨b, off, rfl, hbB, hcell⟩ := hR2.atts (by omega)
  have hx := hcell a hal
  clear hcell
  have HX := Lib.hid hx
  have HR2 := Lib.hid hR2
  have hz2 := hbw2.size
  have hain : (a : Int) < (l.length : Int) := by omega
  have ha0 : (0 : Int) ≤ (a : Int) := by omega
  have hbs : b < w2.heap.size := by omega
  clear hx hR2
  generalize hcap : c = cap at *
  have hcapm : (a : Int) ≤ (cap : Int) := by omega
  have hcapn : (l.length : Int) ≤ (cap : Int) := by omega
  clear hcap
  go_wp2_with fail
  obtain ⟨C, hC⟩ : ∃ C : World → Prop, C = fun W => Below w2.heap.size w2 W := ⟨_, rfl⟩
  have hg : ∀ W W', C W → Below W.heap.size W W' → C W' := by
    subst hC
    exact fun W W' h1 hb => h1.trans (hb.mono h1.size)
  have hc0 : C w2 := by rw [hC]; exact Below.refl _ _
  refine wp_region_kill C (Mk w2.heap.size) [4, 9] [[4, 9], [], [], [], [9], [], [], [], [], [], []]
    [emp w2.heap.size, isV (.slice (some ⟨b, off, none⟩) l.length cap), isV (.int .i64 (a : Int)), isV (.slice (some ⟨b, off, none⟩) a cap),
      fun v W => OwnE W w2.heap.size v (l.take a), isV (.slice (some ⟨b, off, none⟩) l.length cap), isV (.int .i64 (a : Int)), isV (.int .i64 ((a : Int) + 1)),
      low w.heap.size w2.heap.size (l.drop (a + 1)), fun v W => OwnE W w2.heap.size v (l.take a ++ l.drop (a + 1)), fun v W => OwnE W w2.heap.size v (l.take a ++ l.drop (a + 1))]
    [([], []), ([], []), ([], []), ([1, 2], [(35, 1), (36, 2)]), ([0, 3], [(34, 0), (37, 3)]), ([], []), ([], []), ([6], [(40, 6)]), ([5, 7], [(39, 5), (41, 7)]), ([4, 8], [(38, 4), (42, 8)]), ([9], [(43, 9)])] 84 rfl (by kernel_rfl) (by kernel_rfl) (by kernel_rfl) (by kernel_rfl) hg (by exact hg _ _ hc0 (Below.drew (Below.refl _ _))) ?st7 ?sz7 ?ow7 ?_
  case st7 =>
    simp only [List.forall_mem_cons]
    and_intros
    all_goals first
      | exact isV_st _
      | exact ownE_grow _ _
      | (rintro v W W' ⟨g, rfl, h1, h2⟩ hb; exact ⟨g, rfl, h1, h2.below hb h2.lt⟩)
      | (rintro v W W' ⟨A, c, rfl, h1, h2⟩ hb; exact ⟨A, c, rfl, reads_grow h1 hb, h2⟩)
      | simp
  case sz7 =>
    refine kill_st _ ?_
    intro z hz
    simp only [List.mem_cons, List.not_mem_nil, or_false] at hz
    rcases hz with rfl | rfl
    all_goals
      simp only [List.zipIdx_cons, List.zipIdx_nil, List.forall_mem_cons]
      and_intros
      all_goals first
        | (left; rfl)
        | (right; exact isV_any _ _)
        | (right; intro v W W' h hm; exact low_any _ _ _ _ _ _ h (Mk_below hm))
        | simp
  case ow7 =>
    have hw1 : IntKind.i64.wrap ((a : Int) + 1) = (a : Int) + 1 := IntWalk.i64_in _ (by omega)
    have hR := HR2.out
    have hRt := hR.preE a (by omega)
    have hRd := hR.postE (A' := if cap = a + 1 then some ⟨b, off, none⟩ else some ⟨b, off + (a + 1) * 4, none⟩) (a + 1) (by intro h; rw [if_neg (by omega)]; simp [Addr.add_lit])
    have hdl : (l.drop (a + 1)).length = l.length - (a + 1) := by simp
    have htl : (l.take a).length = a := by simp; omega
    simp only [OwedK]
    refine ⟨?a0, ?a1, ?a2, ?a3, ?h4, ?a5, ?a6, ?a7, ?a8, ?h9, ?a10, trivial⟩
    case h4 =>
      intro V w' hc hp
      rw [hC] at hc
      simp only [List.forall_mem_cons, tab_zero, tab_succ, isV] at hp
      obtain ⟨hemp, h3, -⟩ := hp
      rw [if_pos (show wantsG V none = true from rfl)]
      refine resK_app 43 w2.heap.size _ 4 48 TE (V 0) 0 [] rfl (emp_own hemp) w.heap.size (some ⟨b, off, none⟩) a cap ((l.take a).flatMap attc) h3 (hRt.below hc hz2) (atts_one _) (by omega) hc.size ?_
      intro v' w'' h5 h6 h7
      refine ⟨?_, ?_, ?_⟩
      · show OwnE w'' w2.heap.size v' (l.take a)
        unfold OwnE
        rw [htl]
        simpa using h5
      · rw [hC]; exact hc.trans h6
      · obtain ⟨g, hg1, _, hg3⟩ := hemp
        rw [hg1] at h7
        exact ⟨h6, g, hg3, h7⟩
    case h9 =>
      intro V w' hc hp
      rw [hC] at hc
      simp only [List.forall_mem_cons, tab_zero, tab_succ] at hp
      obtain ⟨hown, ⟨A8, c8, h8, hr8, hB8⟩, -⟩ := hp
      rw [if_pos (show wantsG V none = true from rfl)]
      refine resK_app 43 w2.heap.size _ 4 48 TE (V 4) _ _ rfl hown w.heap.size A8 _ c8 ((l.drop (a + 1)).flatMap attc) h8 hr8 (atts_one _) (by rw [htl, hdl]; omega) hc.size ?_
      intro v' w'' h5 h6 h7
      refine ⟨?_, ?_, ?_⟩
      · show OwnE w'' w2.heap.size v' (l.take a ++ l.drop (a + 1))
        unfold OwnE
        rw [List.flatMap_append, List.length_append]
        exact h5
      · rw [hC]; exact hc.trans h6
      · exact h6
    all_goals
      intro V w' hc hp
      rw [hC] at hc
      try simp only [List.forall_mem_cons, tab_zero, tab_succ, isV] at hp
      try simp [wantsG, rhoP, List.lookup, hp, tab_zero, tab_succ, ResG, execOp, bareOp, isV, undef, Below.refl, ha0, hcapm, go_sem]
    case a0 => exact ⟨⟨_, rfl, hc.size, Blk.new _ _ _⟩, (Below.refl _ _).alloc (Nat.le_refl _) _⟩
    case a7 => exact hw1
    case a8 =>
      rw [if_pos ⟨by omega, by omega⟩]
      exact ⟨⟨_, _, by rw [hdl], by rw [hdl]; exact hRd.below hc hz2, hz2⟩, Below.refl _ _⟩
  intro V W hc hp
  have h10 := hp 10 (by simp) rfl
  simp only [tab_zero, tab_succ] at h10
  rw [hC] at hc
  have hbW := hbw2.trans (hc.mono hz2)
  clear hp hg hc0 hC
  simp only [putAll, Act.put, List.setIfInBounds_toArray, List.set_cons_succ, List.set_cons_zero]
  have hew := evt_own h10
  clear h10
  generalize V 10 = v6 at *
  clear he2
  have hfo := find_without l HOK.out a hal
  have HF : Hid (∀ W, evt (l.take a ++ l.drop (a + 1)) v6 W → Calls Try.prog 14 #[v6, .string l[a].1] W fun e w' => e = .returned (.tuple #[vv 0 0 { data := #[] }, .bool false]) ∧ Below W.heap.size W w') := Lib.hid fun W h => by
    have := Find_evt l[a].1 h (by simp; omega)
    simpa only [findV, hfo] using this
  have HCK : Hid (chkE (l.take a ++ l.drop (a + 1)) = 0) := Lib.hid (by simp [chkE, okE_without l HOK.out (by omega) a hal])
  have HTW := Lib.hid (okE_twice l a hal)
  clear hfo
  obtain ⟨e0, e1, e2, e3⟩ := HX.out
  have d0 := (hc.cell (p := ⟨b, off + a * 4, none⟩) hbs).trans e0
  have d1 := (hc.cell (p := ⟨b, off + a * 4 + 1, none⟩) hbs).trans e1
  have d2 := (hc.cell (p := ⟨b, off + a * 4 + 2, none⟩) hbs).trans e2
  have d3 := (hc.cell (p := ⟨b, off + a * 4 + 3, none⟩) hbs).trans e3
  have hzW := hbW.size
  have hzc := hc.size
  have HRW := Lib.hid (HR2.out.below hc hz2)
  clear e0 e1 e2 e3 HX HR2 hc
  generalize l[a] = y at *
  obtain ⟨ys, vk, vn, vt⟩ := y
  simp only at d0 d1 d2 d3 HF
  go_wp2_with fail
  refine (HF.out _ hew).mono ?_
  rintro e w3 ⟨rfl, hb3⟩
  have f0 := (hb3.cell (p := ⟨b, off + a * 4, none⟩) (by simp; omega)).trans d0
  have f1 := (hb3.cell (p := ⟨b, off + a * 4 + 1, none⟩) (by simp; omega)).trans d1
  have f2 := (hb3.cell (p := ⟨b, off + a * 4 + 2, none⟩) (by simp; omega)).trans d2
  have f3 := (hb3.cell (p := ⟨b, off + a * 4 + 3, none⟩) (by simp; omega)).trans d3
  have hew3 := evt_st _ _ _ _ hew hb3
  have hbW3 := hbW.trans (hb3.mono hzW)
  have HR3 := Lib.hid (HRW.out.below hb3 hzW)
  have hz3 := hb3.size
  clear d0 d1 d2 d3 hew hbW HRW hb3 HF
  have hk4 : Below w3.heap.size w3 (w3.alloc (.cells #[.int .i64 0, .int .i64 0, .string { data := #[] }] 31)) := (Below.refl _ _).alloc (Nat.le_refl _) _
  have k0 := (hk4.cell (p := ⟨b, off + a * 4, none⟩) (by simp; omega)).trans f0
  have k1 := (hk4.cell (p := ⟨b, off + a * 4 + 1, none⟩) (by simp; omega)).trans f1
  have k2 := (hk4.cell (p := ⟨b, off + a * 4 + 2, none⟩) (by simp; omega)).trans f2
  have k3 := (hk4.cell (p := ⟨b, off + a * 4 + 3, none⟩) (by simp; omega)).trans f3
  have hew4 := evt_st _ _ _ _ hew3 hk4
  have hbW4 := hbW3.trans (hk4.mono hbW3.size)
  have HR4 := Lib.hid (HR3.out.below hk4 hbW3.size)
  clear f0 f1 f2 f3 hew3 HR3
  go_wp2_with fail
  generalize hw4 : w3.alloc (.cells #[.int .i64 0, .int .i64 0, .string { data := #[] }] 31) = w4 at *
  generalize w3.heap.size = g7 at *
  have hz4 : b < w4.heap.size := by have := hbW4.size; omega
  have hzw4 := hbW4.size
  clear hw4 hk4 hbW3 hz3
  obtain ⟨C, hC⟩ : ∃ C : World → Prop, C = fun W => Below w4.heap.size w4 W := ⟨_, rfl⟩
  have hg : ∀ W W', C W → Below W.heap.size W W' → C W' := by
    subst hC
    exact fun W W' h1 hb => h1.trans (hb.mono h1.size)
  have hc0 : C w4 := by rw [hC]; exact Below.refl _ _
  refine wp_region_kill C (Mk w4.heap.size) [4, 10, 14] [[4, 10, 14], [], [], [], [10, 14], [], [], [], [], [10, 14], [14], [], [], [], [], []]
    [emp w4.heap.size, isV (.slice (some ⟨b, off, none⟩) l.length cap), isV (.int .i64 (a : Int)), isV (.slice (some ⟨b, off, none⟩) a cap),
      fun v W => OwnE W w4.heap.size v (l.take a), isV (.slice (some ⟨b, off, none⟩) l.length cap), isV (.int .i64 (a : Int)), isV (.pointer (some ⟨b, off + a * 4, none⟩)),
      isV (attv (ys, vk, vn, vt)), oneA (ys, vk, vn, vt), fun v W => OwnE W w4.heap.size v (l.take a ++ [(ys, vk, vn, vt)]),
      isV (.slice (some ⟨b, off, none⟩) l.length cap), isV (.int .i64 (a : Int)), low w.heap.size w4.heap.size (l.drop a),
      fun v W => OwnE W w4.heap.size v (l.take a ++ [(ys, vk, vn, vt)] ++ l.drop a), fun v W => OwnE W w4.heap.size v (l.take a ++ [(ys, vk, vn, vt)] ++ l.drop a)]
    [([], []), ([], []), ([], []), ([1, 2], [(55, 1), (56, 2)]), ([0, 3], [(54, 0), (57, 3)]), ([], []), ([], []), ([5, 6], [(59, 5), (60, 6)]), ([7], [(61, 7)]), ([8], [(62, 8)]), ([4, 9], [(58, 4), (63, 9)]), ([], []), ([], []), ([11, 12], [(65, 11), (66, 12)]), ([10, 13], [(64, 10), (67, 13)]), ([14], [(68, 14)])] 84 rfl (by kernel_rfl) (by kernel_rfl) (by kernel_rfl) (by kernel_rfl) hg (by exact hg _ _ hc0 (Below.drew (Below.refl _ _))) ?st9 ?sz9 ?ow9 ?_
  case st9 =>
    simp only [List.forall_mem_cons]
    and_intros
    all_goals first
      | exact isV_st _
      | exact ownE_grow _ _
      | (rintro v W W' ⟨g, rfl, h1, h2⟩ hb; exact ⟨g, rfl, h1, h2.below hb h2.lt⟩)
      | (rintro v W W' ⟨g, rfl, h2⟩ hb; exact ⟨g, rfl, h2.below hb h2.lt⟩)
      | (rintro v W W' ⟨A, c, rfl, h1, h2⟩ hb; exact ⟨A, c, rfl, reads_grow h1 hb, h2⟩)
      | simp
  case sz9 =>
    refine kill_st _ ?_
    intro z hz
    simp only [List.mem_cons, List.not_mem_nil, or_false] at hz
    rcases hz with rfl | rfl | rfl
    all_goals
      simp only [List.zipIdx_cons, List.zipIdx_nil, List.forall_mem_cons]
      and_intros
      all_goals first
        | (left; rfl)
        | (right; exact isV_any _ _)
        | (right; intro v W W' h hm; exact low_any _ _ _ _ _ _ h (Mk_below hm))
        | (right; exact oneA_M4 _)
        | simp
  case ow9 =>
    have hR := HR4.out
    have hRt := hR.preE a (by omega)
    have hRd := hR.postE (A' := if cap = a then some ⟨b, off, none⟩ else some ⟨b, off + a * 4, none⟩) a (by intro h; rw [if_neg (by omega)]; simp [Addr.add_lit])
    have hdl : (l.drop a).length = l.length - a := by simp
    have htl : (l.take a).length = a := by simp; omega
    simp only [OwedK]
    refine ⟨?b0, ?b1, ?b2, ?b3, ?g4, ?b5, ?b6, ?b7, ?b8, ?b9, ?g10, ?b11, ?b12, ?b13, ?g14, ?b15, trivial⟩
    case g4 =>
      intro V w' hc hp
      rw [hC] at hc
      simp only [List.forall_mem_cons, tab_zero, tab_succ, isV] at hp
      obtain ⟨hemp, h3, -⟩ := hp
      rw [if_pos (show wantsG V none = true from rfl)]
      refine resK_app 43 w4.heap.size _ 4 48 TE (V 0) 0 [] rfl (emp_own hemp) w.heap.size (some ⟨b, off, none⟩) a cap ((l.take a).flatMap attc) h3 (hRt.below hc hzw4) (atts_one _) (by omega) hc.size ?_
      intro v' w'' h5 h6 h7
      refine ⟨?_, ?_, ?_⟩
      · show OwnE w'' w4.heap.size v' (l.take a)
        unfold OwnE
        rw [htl]
        simpa using h5
      · rw [hC]; exact hc.trans h6
      · obtain ⟨g, hg1, _, hg3⟩ := hemp
        rw [hg1] at h7
        exact ⟨h6, g, hg3, h7⟩
    case g10 =>
      intro V w' hc hp
      rw [hC] at hc
      simp only [List.forall_mem_cons, tab_zero, tab_succ] at hp
      obtain ⟨hown, ⟨g9, h9, hb9⟩, -⟩ := hp
      rw [if_pos (show wantsG V none = true from rfl)]
      have hr9 : Reads w' (g9 + 1) 4 (some ⟨g9, 0, none⟩) 1 (attc (ys, vk, vn, vt)) := ⟨rfl, fun _ => ⟨g9, 0, rfl, by omega, fun j u hu => by
        rw [Nat.zero_add, hb9.cell j]
        simpa using hu⟩⟩
      refine resK_app 43 w4.heap.size _ 4 48 TE (V 4) _ _ rfl hown (g9 + 1) (some ⟨g9, 0, none⟩) 1 1 (attc (ys, vk, vn, vt)) h9 hr9 (attc_one _) (by rw [htl]; omega) hc.size ?_
      intro v' w'' h5 h6 h7
      refine ⟨?_, ?_, ?_⟩
      · show OwnE w'' w4.heap.size v' (l.take a ++ [(ys, vk, vn, vt)])
        unfold OwnE
        rw [List.flatMap_append, List.length_append]
        simpa using h5
      · rw [hC]; exact hc.trans h6
      · exact h6
    case g14 =>
      intro V w' hc hp
      rw [hC] at hc
      simp only [List.forall_mem_cons, tab_zero, tab_succ] at hp
      obtain ⟨hown, ⟨A8, c8, h8, hr8, hB8⟩, -⟩ := hp
      rw [if_pos (show wantsG V none = true from rfl)]
      refine resK_app 43 w4.heap.size _ 4 48 TE (V 10) _ _ rfl hown w.heap.size A8 _ c8 ((l.drop a).flatMap attc) h8 hr8 (atts_one _) (by rw [List.length_append, htl, hdl]; simp; omega) hc.size ?_
      intro v' w'' h5 h6 h7
      refine ⟨?_, ?_, ?_⟩
      · show OwnE w'' w4.heap.size v' (l.take a ++ [(ys, vk, vn, vt)] ++ l.drop a)
        unfold OwnE
        rw [@List.flatMap_append _ _ (l.take a ++ [(ys, vk, vn, vt)]), @List.length_append _ (l.take a ++ [(ys, vk, vn, vt)])]
        exact h5
      · rw [hC]; exact hc.trans h6
      · exact h6
    all_goals
      intro V w' hc hp
      rw [hC] at hc
      have c0 := (hc.cell (p := ⟨b, off + a * 4, none⟩) hz4).trans k0
      have c1 := (hc.cell (p := ⟨b, off + a * 4 + 1, none⟩) hz4).trans k1
      have c2 := (hc.cell (p := ⟨b, off + a * 4 + 2, none⟩) hz4).trans k2
      have c3 := (hc.cell (p := ⟨b, off + a * 4 + 3, none⟩) hz4).trans k3
      try simp only [List.forall_mem_cons, tab_zero, tab_succ, isV] at hp
      try simp [wantsG, rhoP, List.lookup, hp, tab_zero, tab_succ, ResG, execOp, bareOp, isV, undef, Below.refl, hal, ha0, hcapm, c0, c1, c2, c3, go_sem]
    case b0 => exact ⟨⟨_, rfl, hc.size, Blk.new _ _ _⟩, (Below.refl _ _).alloc (Nat.le_refl _) _⟩
    case b9 => exact ⟨⟨_, rfl, Blk.new _ _ _⟩, (Below.refl _ _).alloc (Nat.le_refl _) _⟩
    case b13 =>
      rw [if_pos (by omega)]
      exact ⟨⟨_, _, by rw [hdl], by rw [hdl]; exact hRd.below hc hzw4, hzw4⟩, Below.refl _ _⟩
    case b15 => simpa using hp.1
  intro V W hc hp
  have h15 := hp 15 (by simp) rfl
  simp only [tab_zero, tab_succ] at h15
  rw [hC] at hc
  have hbW := hbW4.trans (hc.mono hzw4)
  have hewW := (evt_st _ _ _ _ hew4 hc)
  clear hp hg hc0 hC
  simp only [putAll, Act.put, List.setIfInBounds_toArray, List.set_cons_succ, List.set_cons_zero]
  have htwW := evt_own h15
  clear h15 hew4 hbW4
  generalize V 15 = v9 at *
  go_wp2_with fail
  refine (ECheck_evt hewW).mono ?_
  rintro e w5 ⟨rfl, hb5⟩
  rw [HCK.out]
  have htw5 := evt_st _ _ _ _ htwW hb5
  have hbw5 := hbW.trans (hb5.mono hbW.size)
  go_wp2_with fail
  refine (ECheck_evt htw5).mono ?_
  rintro e w6 ⟨rfl, hb6⟩
  rw [HTW.out]
  have hbw6 := hbw5.trans (hb6.mono hbw5.size)
  go_wp2
  go_ret
  exact ⟨rfl, hbw6⟩
end Go.Proofs.Ytghgapfhlfcjiaa
