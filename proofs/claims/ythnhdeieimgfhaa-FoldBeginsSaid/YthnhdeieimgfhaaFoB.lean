/-
  The walks of fold.of, Has, Promised and Aborted (layer 16). Conditions: lists of at most a million.
-/
import Derived.Test.YthnhdeieimgfhaaFoD
set_option maxRecDepth 100000
namespace Go.Proofs.Ythnhdeieimgfhaa
open Go Go.RowKit


theorem any_take_succ {α : Type} (p : α → Bool) (l : List α) (j : Nat) (hj : j < l.length) : (l.take (j + 1)).any p = ((l.take j).any p || p l[j]) := by
  rw [List.take_succ_eq_append_getElem hj, List.any_append]; simp
theorem any_of_take {α : Type} (p : α → Bool) (l : List α) (j : Nat) (h : (l.take j).any p = true) : l.any p = true := by
  rw [List.any_eq_true] at h ⊢
  obtain ⟨x, hx, hp⟩ := h
  exact ⟨x, List.mem_of_mem_take hx, hp⟩

set_option maxHeartbeats 4000000 in
theorem Of_calls (l : List Ent) (a : Idn) (v : Value) (w : World) (h : lst enS l v w) (hlen : l.length ≤ 1000000) :
    Calls Try.prog 95 #[v, idv a] w fun e w' => e = .returned (.bool (hasE l a)) ∧ K w w' := by
  obtain ⟨D, d, rfl, hl, -⟩ := h
  have HI : Hid (hasE l a = l.any fun x => decide (idE x = a)) := Lib.hid rfl
  generalize hasE l a = R at *
  have hx := Blk.new w 53 #[.int .i64 a.1, .int .u64 (a.2.1 : Int), .int .u64 (a.2.2 : Int)]
  have k1 : K w (w.alloc (.cells #[.int .i64 a.1, .int .u64 (a.2.1 : Int), .int .u64 (a.2.2 : Int)] 53)) := (K.rf w).al _
  go_enter Try.func95, Try.ntmps95
  go_upto_region 1 with (fail)
  generalize w.alloc _ = w1 at *
  generalize w.heap.size = g at hx ⊢
  have qx := hx.cells
  have kk := K.rf w1
  clear hx
  go_wp2_with fail
  go_loopw [5, 8] (fun _ i wr => ∃ j : Nat, j ≤ l.length ∧ i = .int .i64 (j : Int) ∧ Hid ((l.take j).any (fun x => decide (idE x = a)) = false) ∧ K w1 wr) (fun _ i _ => l.length - (intOf i).toNat)
  case atStart => exact ⟨0, by omega, rfl, Lib.hid (by simp), kk⟩
  case round =>
    clear kk
    obtain ⟨j, hj, rfl, HT, kr⟩ := hrel
    by_cases hlt : j < l.length
    · have hji : (j : Int) < (l.length : Int) := by omega
      obtain ⟨b1, o1, cs1, rfl, hcl1, hr1, d0, dd⟩ := lsr_cells hl j hlt (by decide)
      have HB := Lib.hid (any_take_succ (fun x => decide (idE x = a)) l j hlt)
      have HA := Lib.hid (any_of_take (fun x => decide (idE x = a)) l (j + 1))
      generalize l[j] = x at *
      obtain ⟨vf1, ve1, rfl, hf1, hv1⟩ := hr1 w (K.rf w)
      have qr := fun W (kW : K wr W) => qx W (kr.tr kW)
      have p1 : ∀ W, K wr W → W.cell? ⟨b1, o1 + j * 8 + 1, none⟩ = some (.int .i64 x.br) := fun W kW => dd W (k1.tr (kr.tr kW)) 1 (by decide)
      have p2 : ∀ W, K wr W → W.cell? ⟨b1, o1 + j * 8 + 2, none⟩ = some (.int .u64 (x.life : Int)) := fun W kW => dd W (k1.tr (kr.tr kW)) 2 (by decide)
      have p3 : ∀ W, K wr W → W.cell? ⟨b1, o1 + j * 8 + 3, none⟩ = some (.int .u64 (x.ser : Int)) := fun W kW => dd W (k1.tr (kr.tr kW)) 3 (by decide)
      clear hcl1 hr1 d0 dd hf1 hv1
      go_upto_region 4 with (fail)
      refine wp_region_K [isV (.slice (some ⟨b1, o1, none⟩) l.length d),
          isV (.int .i64 ((j : Int))),
          isV (.pointer (some ⟨b1, o1 + j * 8, none⟩)),
          isV (.pointer (some ⟨b1, o1 + j * 8 + 1, none⟩)),
          isV (idv (idE x)),
          isV (idv a),
          isV (.bool (decide (idE x = a)))]
        [([], []), ([], []), ([0, 1], [(11, 0), (12, 1)]), ([2], [(13, 2)]), ([3], [(14, 3)]), ([], []), ([4, 5], [(15, 4), (16, 5)])] 19 rfl (by kernel_rfl) (by kernel_rfl) (by kernel_rfl) ?st6 ?ow6 ?_
      case st6 =>
        simp only [List.forall_mem_cons]
        and_intros
        all_goals first | exact isV_st _ | exact sl_st _ | exact anyV_st | simp
      case ow6 =>
        simp only [OwedQ]
        and_intros
        all_goals try trivial
        all_goals
          intro V W kW hp
          try simp only [List.forall_mem_cons, tab_zero, tab_succ, isV] at hp
          try simp [wantsG, rhoP, List.lookup, hp, tab_zero, tab_succ, ResG, execOp, bareOp, isV, Below.refl, kW, p1, p2, p3, qr, hji, go_sem]
        · exact ⟨rfl, rfl, rfl⟩
        by_cases h1 : (idE x).1 = a.1
        · by_cases h2 : (idE x).2.1 = a.2.1
          · by_cases h3 : (idE x).2.2 = a.2.2
            · rw [show decide (idE x = a) = true from decide_eq_true (Prod.ext h1 (Prod.ext h2 h3))]
              simp [h1, h2, h3, Below.refl]
            · rw [show decide (idE x = a) = false from decide_eq_false (fun e => h3 (by rw [← e]))]
              try simp only [h1, h2, if_true]
              rw [if_neg (by omega)]; exact ⟨rfl, Below.refl _ _⟩
          · rw [show decide (idE x = a) = false from decide_eq_false (fun e => h2 (by rw [← e]))]
            try simp only [h1, if_true]
            rw [if_neg (by omega)]; exact ⟨rfl, Below.refl _ _⟩
        · rw [show decide (idE x = a) = false from decide_eq_false (fun e => h1 (by rw [← e]))]
          simp [h1, Below.refl]
      intro V W kW hp
      have h9 := hp 6 (by simp)
      simp only [tab_zero, tab_succ, isV] at h9
      clear hp
      simp only [putAll, Act.put, List.setIfInBounds_toArray, List.set_cons_succ, List.set_cons_zero, h9]
      have krW := kr.tr kW
      generalize hq : decide (idE x = a) = q at *
      have HQ := Lib.hid hq
      clear hq h9 p1 p2 p3 qr
      cases q
      · have HT2 : Hid ((l.take (j + 1)).any (fun x => decide (idE x = a)) = false) := Lib.hid (by rw [HB.out, HT.out]; rfl)
        go_wp2
        go_roundw
        case rel => exact ⟨j + 1, by omega, by go_num, HT2, krW⟩
        case measure => simp [intOf]; omega
      · have HR : Hid (R = true) := Lib.hid (by rw [HI.out]; exact HA.out (by rw [HB.out]; simp))
        go_wp2
        go_ret
        exact ⟨by rw [HR.out]; rfl, k1.tr krW⟩
    · have hji : ¬ (j : Int) < (l.length : Int) := by omega
      have HR : Hid (R = false) := Lib.hid (by
        have h1 := HT.out
        rw [List.take_of_length_le (by omega)] at h1
        rw [HI.out, h1])
      go_wp2
      go_ret
      exact ⟨by rw [HR.out]; rfl, k1.tr kr⟩

theorem idx_hit {l : List Idn} {a : Idn} {k : Nat} (hk : k < l.length) (h : l[k] = a) : hasI l a = true := by
  unfold hasI
  rw [List.any_eq_true]
  exact ⟨l[k], List.getElem_mem hk, by simpa using h⟩
theorem idx_miss {l : List Idn} {a : Idn} (h : ∀ x ∈ l, x ≠ a) : hasI l a = false := by
  unfold hasI
  rw [List.any_eq_false]
  intro x hx
  simpa using h x hx

set_option maxHeartbeats 4000000 in
theorem IIndex_calls (l : List Idn) (a : Idn) (v : Value) (w : World) (h : lst idS l v w) (hlen : l.length ≤ 1000000) :
    Calls Try.prog 129 #[v, idv a] w fun e w' => ∃ i : Int, e = .returned (.int .i64 i) ∧ K w w' ∧ hasI l a = decide (0 ≤ i) := by
  obtain ⟨D, d, rfl, hl, -⟩ := h
  have HM := Lib.hid (@idx_miss l a)
  have HH := Lib.hid fun k hk => @idx_hit l a k hk
  have hx := Blk.new w 53 #[.int .i64 a.1, .int .u64 (a.2.1 : Int), .int .u64 (a.2.2 : Int)]
  have k1 : K w (w.alloc (.cells #[.int .i64 a.1, .int .u64 (a.2.1 : Int), .int .u64 (a.2.2 : Int)] 53)) := (K.rf w).al _
  go_enter Try.func129, Try.ntmps129
  go_upto_region 1 with (fail)
  generalize w.alloc _ = w1 at *
  generalize w.heap.size = g at hx ⊢
  have qx := hx.cells
  have kk := K.rf w1
  clear hx
  go_wp2_with fail
  go_loopw [5, 8] (fun _ i wr => ∃ j : Nat, j ≤ l.length ∧ i = .int .i64 (j : Int) ∧ Hid (∀ x ∈ l.take j, x ≠ a) ∧ K w1 wr) (fun _ i _ => l.length - (intOf i).toNat)
  case atStart => exact ⟨0, by omega, rfl, Lib.hid (by simp), kk⟩
  case round =>
    clear kk
    obtain ⟨j, hj, rfl, HT, kr⟩ := hrel
    by_cases hlt : j < l.length
    · have hji : (j : Int) < (l.length : Int) := by omega
      obtain ⟨b1, o1, cs1, rfl, hcl1, hr1, d0, dd⟩ := lsr_cells hl j hlt (by decide)
      have HB : Hid (l[j] ≠ a → ∀ x ∈ l.take (j + 1), x ≠ a) := by
        refine Lib.hid fun h x hx => ?_
        rw [List.take_succ_eq_append_getElem hlt] at hx
        rcases List.mem_append.1 hx with hx | hx
        · exact HT.out x hx
        · simp at hx; rw [hx]; exact h
      have HA := Lib.hid (HH.out j hlt)
      generalize l[j] = x at *
      obtain rfl := hr1 w (K.rf w)
      have qr := fun W (kW : K wr W) => qx W (kr.tr kW)
      have p1 : ∀ W, K wr W → W.cell? ⟨b1, o1 + j * 3, none⟩ = some (.int .i64 x.1) := fun W kW => d0 W (k1.tr (kr.tr kW))
      have p2 : ∀ W, K wr W → W.cell? ⟨b1, o1 + j * 3 + 1, none⟩ = some (.int .u64 (x.2.1 : Int)) := fun W kW => dd W (k1.tr (kr.tr kW)) 1 (by decide)
      have p3 : ∀ W, K wr W → W.cell? ⟨b1, o1 + j * 3 + 2, none⟩ = some (.int .u64 (x.2.2 : Int)) := fun W kW => dd W (k1.tr (kr.tr kW)) 2 (by decide)
      clear hcl1 hr1 d0 dd
      go_upto_region 4 with (fail)
      refine wp_region_K [isV (idv a),
          isV (.slice (some ⟨b1, o1, none⟩) l.length d),
          isV (.int .i64 ((j : Int))),
          isV (.pointer (some ⟨b1, o1 + j * 3, none⟩)),
          isV (idv x),
          isV (.bool (decide (a = x)))]
        [([], []), ([], []), ([], []), ([1, 2], [(12, 1), (13, 2)]), ([3], [(14, 3)]), ([0, 4], [(11, 0), (15, 4)])] 19 rfl (by kernel_rfl) (by kernel_rfl) (by kernel_rfl) ?st6 ?ow6 ?_
      case st6 =>
        simp only [List.forall_mem_cons]
        and_intros
        all_goals first | exact isV_st _ | exact sl_st _ | exact anyV_st | simp
      case ow6 =>
        simp only [OwedQ]
        and_intros
        all_goals try trivial
        all_goals
          intro V W kW hp
          try simp only [List.forall_mem_cons, tab_zero, tab_succ, isV] at hp
          try simp [wantsG, rhoP, List.lookup, hp, tab_zero, tab_succ, ResG, execOp, bareOp, isV, Below.refl, kW, p1, p2, p3, qr, hji, go_sem]
        by_cases h1 : a.1 = x.1
        · by_cases h2 : a.2.1 = x.2.1
          · by_cases h3 : a.2.2 = x.2.2
            · rw [show decide (a = x) = true from decide_eq_true (Prod.ext h1 (Prod.ext h2 h3))]
              simp [h1, h2, h3, Below.refl]
            · rw [show decide (a = x) = false from decide_eq_false (fun e => h3 (by rw [← e]))]
              try simp only [h1, h2, if_true]
              rw [if_neg (by omega)]; exact ⟨rfl, Below.refl _ _⟩
          · rw [show decide (a = x) = false from decide_eq_false (fun e => h2 (by rw [← e]))]
            try simp only [h1, if_true]
            rw [if_neg (by omega)]; exact ⟨rfl, Below.refl _ _⟩
        · rw [show decide (a = x) = false from decide_eq_false (fun e => h1 (by rw [← e]))]
          simp [h1, Below.refl]
      intro V W kW hp
      have h9 := hp 5 (by simp)
      simp only [tab_zero, tab_succ, isV] at h9
      clear hp
      simp only [putAll, Act.put, List.setIfInBounds_toArray, List.set_cons_succ, List.set_cons_zero, h9]
      have krW := kr.tr kW
      generalize hq : decide (a = x) = q at *
      have HQ := Lib.hid hq
      clear hq h9 p1 p2 p3 qr
      cases q
      · have HT2 := Lib.hid (HB.out fun e => by have := of_decide_eq_false HQ.out; exact this e.symm)
        go_wp2
        go_roundw
        case rel => exact ⟨j + 1, by omega, by go_num, HT2, krW⟩
        case measure => simp [intOf]; omega
      · have HR := Lib.hid (HA.out (of_decide_eq_true HQ.out).symm)
        go_wp2
        go_ret
        exact ⟨_, rfl, k1.tr krW, by rw [HR.out]; simp⟩
    · have hji : ¬ (j : Int) < (l.length : Int) := by omega
      have HR := Lib.hid (HM.out (by
        have h1 := HT.out
        rw [List.take_of_length_le (by omega)] at h1
        exact h1))
      go_wp2
      go_ret
      exact ⟨_, rfl, k1.tr kr, by rw [HR.out]; rfl⟩

set_option maxHeartbeats 400000 in
theorem IContains_calls (l : List Idn) (a : Idn) (v : Value) (w : World) (h : lst idS l v w) (hlen : l.length ≤ 1000000) :
    Calls Try.prog 96 #[v, idv a] w fun e w' => e = .returned (.bool (hasI l a)) ∧ K w w' := by
  have h' := h
  obtain ⟨D, d, rfl, hl, -⟩ := h
  have hx := Blk.new w 53 #[.int .i64 a.1, .int .u64 (a.2.1 : Int), .int .u64 (a.2.2 : Int)]
  have k1 : K w (w.alloc (.cells #[.int .i64 a.1, .int .u64 (a.2.1 : Int), .int .u64 (a.2.2 : Int)] 53)) := (K.rf w).al _
  have C1 := Lib.hid fun W (kW : K w W) => IIndex_calls l a _ W (lst_st h' kW) hlen
  clear h' hl
  go_enter Try.func96, Try.ntmps96
  go_wp2_with fail
  generalize w.alloc _ = w1 at *
  refine (C1.out w1 k1).mono ?_
  rintro e w2 ⟨i, rfl, k2, hi⟩
  have HI := Lib.hid hi
  clear hi
  go_wp2
  go_ret
  exact ⟨by rw [HI.out]; rfl, k1.tr k2⟩

set_option maxHeartbeats 400000 in
theorem Has_calls (s : Stt) (a : Idn) (v : Value) (w : World) (h : stv s v w) (hlen : s.list.length ≤ 1000000) :
    Calls Try.prog 68 #[v, idv a] w fun e w' => e = .returned (.bool (hasE s.list a)) ∧ K w w' := by
  obtain ⟨vl, vp, va, rfl, hl, hp, ha⟩ := h
  have C1 := Lib.hid fun W (kW : K w W) => Of_calls s.list a _ W (lst_st hl kW) hlen
  have k1 : K w ((w.alloc (.cells (stA s vl vp va) 43)).alloc (.cells #[.int .i64 a.1, .int .u64 (a.2.1 : Int), .int .u64 (a.2.2 : Int)] 53)) := ((K.rf w).al _).al _
  clear hl hp ha
  go_enter Try.func68, Try.ntmps68
  go_wp2_with fail
  generalize World.alloc (World.alloc w _) _ = w1 at *
  refine (C1.out w1 k1).mono ?_
  rintro e w2 ⟨rfl, k2⟩
  go_wp2
  go_ret
  exact ⟨rfl, k1.tr k2⟩
set_option maxHeartbeats 400000 in
theorem Promised_calls (s : Stt) (a : Idn) (v : Value) (w : World) (h : stv s v w) (hlen : s.prom.length ≤ 1000000) :
    Calls Try.prog 69 #[v, idv a] w fun e w' => e = .returned (.bool (hasE s.prom a)) ∧ K w w' := by
  obtain ⟨vl, vp, va, rfl, hl, hp, ha⟩ := h
  have C1 := Lib.hid fun W (kW : K w W) => Of_calls s.prom a _ W (lst_st hp kW) hlen
  have k1 : K w ((w.alloc (.cells (stA s vl vp va) 43)).alloc (.cells #[.int .i64 a.1, .int .u64 (a.2.1 : Int), .int .u64 (a.2.2 : Int)] 53)) := ((K.rf w).al _).al _
  clear hl hp ha
  go_enter Try.func69, Try.ntmps69
  go_wp2_with fail
  generalize World.alloc (World.alloc w _) _ = w1 at *
  refine (C1.out w1 k1).mono ?_
  rintro e w2 ⟨rfl, k2⟩
  go_wp2
  go_ret
  exact ⟨rfl, k1.tr k2⟩
set_option maxHeartbeats 400000 in
theorem Aborted_calls (s : Stt) (a : Idn) (v : Value) (w : World) (h : stv s v w) (hlen : s.ab.length ≤ 1000000) :
    Calls Try.prog 70 #[v, idv a] w fun e w' => e = .returned (.bool (hasI s.ab a)) ∧ K w w' := by
  obtain ⟨vl, vp, va, rfl, hl, hp, ha⟩ := h
  have C1 := Lib.hid fun W (kW : K w W) => IContains_calls s.ab a _ W (lst_st ha kW) hlen
  have k1 : K w ((w.alloc (.cells (stA s vl vp va) 43)).alloc (.cells #[.int .i64 a.1, .int .u64 (a.2.1 : Int), .int .u64 (a.2.2 : Int)] 53)) := ((K.rf w).al _).al _
  clear hl hp ha
  go_enter Try.func70, Try.ntmps70
  go_wp2_with fail
  generalize World.alloc (World.alloc w _) _ = w1 at *
  refine (C1.out w1 k1).mono ?_
  rintro e w2 ⟨rfl, k2⟩
  go_wp2
  go_ret
  exact ⟨rfl, k1.tr k2⟩
end Go.Proofs.Ythnhdeieimgfhaa
