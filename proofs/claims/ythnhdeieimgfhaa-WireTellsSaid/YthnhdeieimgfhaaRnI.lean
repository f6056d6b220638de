/-
  The walk of Encode of the document's answer of layer 13. Conditions: the loads are of a bounded size.
-/
import Derived.Test.YthnhdeieimgfhaaRnH
set_option maxRecDepth 100000
namespace Go.Proofs.Ythnhdeieimgfhaa
open Go Go.RowKit

theorem encVo_len13 (x : Vot) (hf : fitI x.id) : (encVo x).length ≤ 36 := by
  have h1 := encId_len13 x.id hf
  have h2 := packN_len (if x.yes then 1 else 0) (by split <;> omega)
  simp only [encVo, List.length_append]
  omega
theorem layL_len13 {α : Type} (enc : α → List UInt8) (n : Nat) (l : List α) (h : ∀ x ∈ l, (enc x).length ≤ n) (hl : l.length ≤ 1000) (hn : n ≤ 20009) : (layL enc l).length ≤ 21000000 := by
  have h1 := flat_bound enc n l h
  have h2 := packN_len l.length (by omega)
  have h3 : n * l.length ≤ 20009 * 1000 := Nat.mul_le_mul hn hl
  simp only [layL, List.length_append]
  omega
theorem okM_kind {m : Msg} (h : okM m = true) : m.kind = 1 ∨ m.kind = 2 := by
  unfold okM okKd at h
  by_cases h1 : m.kind = 1
  · exact .inl h1
  · by_cases h2 : m.kind = 2
    · exact .inr h2
    · simp [h1, h2] at h

set_option maxHeartbeats 8000000 in
theorem R13Encode_calls (m : Msg) (v : Value) (w : World) (h : msv m v w) (hs : litM m) (hf : fitM m) :
    Calls Try.prog 16 #[v] w fun e w' => ∃ v', e = .returned (.tuple #[v', .int .i64 (chkM m)]) ∧ sl (encMR m) v' w' ∧ K w w' := by
  have CH := Lib.hid fun W (k : K w W) => R13Chk_calls m v W (msv_st h k) hs
  obtain ⟨v1, v2, v3, v4, v5, v6, rfl, g1, g2, g3, g4, g5, g6⟩ := h
  obtain ⟨⟨n2, s2⟩, ⟨n3, s3⟩, ⟨n4, s4⟩, n1, n5, n6⟩ := hs
  obtain ⟨-, hgg, f1, f2, f3, f4, f5, f6⟩ := hf
  have P2 := Lib.hid fun W (k : K w W) => PutEntries_calls m.asks v2 W (lst_st g2 k) n2 s2 f2
  have P3 := Lib.hid fun W (k : K w W) => PutEntries_calls m.entries v3 W (lst_st g3 k) n3 s3 f3
  have P4 := Lib.hid fun W (k : K w W) => PutEntries_calls m.prepares v4 W (lst_st g4 k) n4 s4 f4
  have P5 := Lib.hid fun W (k : K w W) => PutIDs_calls m.aborts v5 W (lst_st g5 k) n5 f5
  have P6 := Lib.hid fun W (k : K w W) => PutIDs_calls m.ends v6 W (lst_st g6 k) n6 f6
  have HV := Lib.hid (show ∃ A c, v1 = .slice A m.votes.length c ∧ lsr voS m.votes A w by obtain ⟨A, c, e, h, _⟩ := g1; exact ⟨A, c, e, h⟩)
  obtain ⟨A1, c1, rfl⟩ := lst_slice g1
  obtain ⟨A2, c2, rfl⟩ := lst_slice g2
  obtain ⟨A3, c3, rfl⟩ := lst_slice g3
  obtain ⟨A4, c4, rfl⟩ := lst_slice g4
  obtain ⟨A5, c5, rfl⟩ := lst_slice g5
  obtain ⟨A6, c6, rfl⟩ := lst_slice g6
  have hx := Blk.new w 28 (msA m (.slice A1 m.votes.length c1) (.slice A2 m.asks.length c2) (.slice A3 m.entries.length c3) (.slice A4 m.prepares.length c4) (.slice A5 m.aborts.length c5) (.slice A6 m.ends.length c6))
  have k1 : K w (w.alloc (.cells (msA m (.slice A1 m.votes.length c1) (.slice A2 m.asks.length c2) (.slice A3 m.entries.length c3) (.slice A4 m.prepares.length c4) (.slice A5 m.aborts.length c5) (.slice A6 m.ends.length c6)) 28)) := (K.rf w).al _
  have l1 := layL_len13 encVo 36 m.votes (fun x hx => encVo_len13 x (f1 x hx)) n1 (by omega)
  have l2 := layL_len13 encEb 20009 m.asks (fun x hx => encEb_len13 x (f2 x hx)) n2 (by omega)
  have l3 := layL_len13 encEb 20009 m.entries (fun x hx => encEb_len13 x (f3 x hx)) n3 (by omega)
  have l4 := layL_len13 encEb 20009 m.prepares (fun x hx => encEb_len13 x (f4 x hx)) n4 (by omega)
  have l5 := layL_len13 encId 27 m.aborts (fun x hx => encId_len13 x (f5 x hx)) n5 (by omega)
  have l6 := layL_len13 encId 27 m.ends (fun x hx => encId_len13 x (f6 x hx)) n6 (by omega)
  have FV := Lib.hid f1
  clear g1 g2 g3 g4 g5 g6 s2 s3 s4 f1 f2 f3 f4 f5 f6
  cases hok : okM m
  · have HC : Hid (chkM m = 130) := Lib.hid (by simp [chkM, hok])
    have HR : Hid (encMR m = []) := Lib.hid (by simp [encMR, hok])
    have hne : (chkM m != 0) = true := by rw [HC.out]; rfl
    clear hok l1 l2 l3 l4 l5 l6
    go_enter Try.func16, Try.ntmps16
    go_wp2_with fail
    generalize w.alloc _ = w1 at *
    refine (CH.out w1 k1).mono ?_
    rintro e w2 ⟨rfl, k2⟩
    have kF := k1.tr k2
    clear CH P2 P3 P4 P5 P6
    go_wp2
    go_ret2
    exact ⟨_, by rw [HC.out]; rfl, by rw [HR.out]; exact sl_nil _, kF⟩
  have HC : Hid (chkM m = 0) := Lib.hid (by simp [chkM, hok])
  have hne : (chkM m != 0) = false := by rw [HC.out]; rfl
  have HR : Hid (encMR m = packN (kindN m.kind) ++ packN m.got ++ (if m.kind = 1 then layL encVo m.votes ++ layL encEb m.asks else layL encEb m.entries ++ layL encEb m.prepares ++ layL encId m.aborts ++ layL encId m.ends)) := Lib.hid (by simp [encMR, hok, encM])
  have hk12 := okM_kind hok
  clear hok
  obtain ⟨k, g, vs, ak, es, ps, bs, ds⟩ := m
  simp only at hx k1 P2 P3 P4 P5 P6 HC HR HV FV CH hne hk12 hgg n1 n2 n3 n4 n5 n6 l1 l2 l3 l4 l5 l6 ⊢
  generalize chkM ⟨k, g, vs, ak, es, ps, bs, ds⟩ = C at *
  generalize encMR ⟨k, g, vs, ak, es, ps, bs, ds⟩ = R at *
  have u1 := u64_wrap k
  have p1 := packN_len (kindN k) (kindN_lt _)
  have p2 := packN_len g hgg
  go_enter Try.func16, Try.ntmps16
  go_wp2_with fail
  generalize w.alloc _ = w1 at *
  generalize w.heap.size = gx at hx ⊢
  have qx := hx.cells
  clear hx
  refine (CH.out w1 k1).mono ?_
  rintro e w2 ⟨rfl, k2⟩
  have k02 := Lib.hid (k1.tr k2)
  have qx : ∀ W, K w2 W → ∀ i, W.cell? ⟨gx, i, none⟩ = (msA ⟨k, g, vs, ak, es, ps, bs, ds⟩ (.slice A1 vs.length c1) (.slice A2 ak.length c2) (.slice A3 es.length c3) (.slice A4 ps.length c4) (.slice A5 bs.length c5) (.slice A6 ds.length c6))[i]? := fun W kW => qx W (k2.tr kW)
  clear CH k1 k2
  go_upto_region 3 with (fail)
  obtain ⟨B0, hB0⟩ : ∃ b, Hid (b = w2.heap.size) := ⟨_, Lib.hid rfl⟩
  have HB : B0 ≤ w2.heap.size := by rw [hB0.out]; exact Nat.le_refl _
  have HB2 : w2.heap.size ≤ B0 := by rw [hB0.out]; exact Nat.le_refl _
  have HM := HB
  refine wp_region_rows (fun W => K w2 W ∧ B0 ≤ W.heap.size) B0 [3, 6, 7, 8] [] [(7, 3), (8, 7)] [[], [], [], [7], [], [], [], [8], []] [isV (.pointer (some ⟨gx, 0, none⟩)),
    isV (.int .i64 k),
    isV (.int .u64 (kindN k : Int)),
    owR B0 (packN (kindN k)),
    isV (.pointer (some ⟨gx, 1, none⟩)),
    isV (.int .u64 (g : Int)),
    owR B0 (packN g),
    owR B0 (packN (kindN k) ++ packN g),
    owR B0 (packN (kindN k) ++ packN g)]
    [([], []), ([0], [(10, 0)]), ([1], [(11, 1)]), ([2], [(12, 2)]), ([], []), ([4], [(14, 4)]), ([5], [(15, 5)]), ([3, 6], [(13, 3), (16, 6)]), ([7], [(17, 7)])] 76 rfl (by kernel_rfl) (by kernel_rfl) (by kernel_rfl) (by kernel_rfl) (by decide) (fun _ _ h k => ⟨h.1.tr k, Nat.le_trans h.2 k.size⟩) ⟨Below.drew (Below.refl _ _), HM⟩ ?st3 ?sb3 ?sr3 ?ow3 ?_
  case st3 =>
    simp only [List.forall_mem_cons]
    and_intros
    all_goals first | exact isV_st _ | exact owR_st _ _ | exact sl_st _ | exact anyV_st | simp
  case sb3 =>
    simp only [List.zipIdx_cons, List.zipIdx_nil, List.forall_mem_cons, Nat.zero_add, Nat.reduceAdd]
    and_intros
    all_goals first | exact .inl rfl | exact .inr (fun _ _ _ h _ => h) | simp
  case sr3 =>
    simp only [List.zipIdx_cons, List.zipIdx_nil, List.forall_mem_cons, Nat.zero_add, Nat.reduceAdd]
    and_intros
    all_goals first | exact .inl rfl | exact .inr (owR_row _ _) | simp
  case ow3 =>
    refine ⟨?x3_0, ?x3_1, ?x3_2, ?x3_3, ?x3_4, ?x3_5, ?x3_6, ?x3_7, ?x3_8, trivial⟩
    case x3_0 | x3_1 | x3_2 | x3_4 | x3_5 =>
      intro V w' kW hp
      try simp only [List.forall_mem_cons, tab_zero, tab_succ, isV] at hp
      simp [wantsG, rhoP, List.lookup, hp, tab_zero, tab_succ, ResG, execOp, bareOp, isV, Below.refl, kW.1, qx, u1, go_sem]
    case x3_3 | x3_6 =>
      refine ⟨rfl, fun V w' kW hp => ?_⟩
      try simp only [List.forall_mem_cons, tab_zero, tab_succ, isV] at hp
      simp [rhoP, List.lookup, hp, tab_zero, tab_succ, ResN, execOp, bareOp, go_sem]
      first
      | refine (N13_calls (kindN k) (kindN_lt _) w').mono ?_
      | refine (N13_calls g hgg w').mono ?_
      rintro e w2 ⟨v, rfl, ho, hb⟩
      exact ⟨v, rfl, own_base kW.2 ho rfl, hb, fun b hb2 => ho.lt b hb2⟩
    case x3_7 =>
      refine ⟨⟨rfl, rfl⟩, fun V w' kW hp => ?_⟩
      simp only [List.forall_mem_cons, tab_zero, tab_succ] at hp
      obtain ⟨h3, h6, -⟩ := hp
      exact resA_app (ρ := rhoP [(13, 3), (16, 6)] _ V) (.tmp 13) (.tmp 16) _ rfl h3 rfl (sl_own h6) (by omega) (Nat.le_trans HB kW.1.size) (fun w'' hb => ⟨kW.1.trans (hb.mono HB2), Nat.le_trans kW.2 hb.size⟩) (fun v' w'' h => h)
    case x3_8 =>
      refine ⟨⟨rfl, rfl⟩, fun V w' kW hp => ?_⟩
      simp only [List.forall_mem_cons, tab_zero, tab_succ] at hp
      obtain ⟨h7, -⟩ := hp
      exact resA_assign h7 kW rfl
  intro V W kW hp
  have h9 : owR B0 (packN (kindN k) ++ packN g) (V 8) W := hp 8 (by simp) rfl
  clear hp
  simp only [putAll, Act.put, List.setIfInBounds_toArray, List.set_cons_succ, List.set_cons_zero]
  have HO3 := Lib.hid (show Own W B0 5 (V 8) (packN (kindN k) ++ packN g) from h9)
  obtain ⟨A9, c9, e9, -⟩ := sl_own h9
  generalize V 8 = v3 at *
  have kb3 := kW.1
  generalize hH : packN (kindN k) ++ packN g = H at *
  have hHl : H.length ≤ 18 := by rw [← hH]; simp only [List.length_append]; omega
  have hH := Lib.hid hH
  subst e9
  clear h9 kW u1 p1 p2
  generalize W = w3 at *
  have qx3 := qx w3 kb3
  rcases hk12 with rfl | rfl
  · have HR1 : Hid (R = H ++ (packN vs.length ++ vs.flatMap encVo) ++ layL encEb ak) := Lib.hid (by rw [HR.out, if_pos rfl]; simp [layL])
    have C2 := Lib.hid fun W (kW : K w2 W) => P2.out W (k02.out.tr kW)
    obtain ⟨A', c', e', hlv⟩ := HV.out
    injection e' with e1 _ e3
    subst e1 e3
    have HLV := Lib.hid hlv
    have hwr := len_u64 vs.length (by omega)
    have hpl := packN_len vs.length (by omega)
    have HLN : Hid (∀ j, (H ++ packN vs.length ++ (vs.take j).flatMap encVo).length ≤ 21000000) := Lib.hid fun j => by
      have h1 := flat_bound encVo 36 (vs.take j) fun x hx => encVo_len13 x (FV.out x (List.mem_of_mem_take hx))
      have h2 : (vs.take j).length ≤ 1000 := by simp; omega
      simp only [List.length_append]
      omega
    clear P2 P3 P4 P5 P6 HR l3 l4 l5 l6 HV hlv l1
    go_wp2_with fail
    refine (N13_calls vs.length (by omega) w3).mono ?_
    rintro e w4 ⟨v4, rfl, ho4, k4⟩
    have hor : Own w4 B0 5 _ H := row_below HO3.out k4
    have kb4 := kb3.tr k4
    have hsl := sl_own ho4
    clear ho4 k4 kb3 HO3 qx3
    go_wp2_with (at_builtin; refine wpList_appB rfl _ _ rfl B0 _ _ H (packN vs.length) rfl hor rfl hsl (by omega) (Nat.le_trans HB kb4.size) ?_)
    intro v5 w5 ho5 hb5
    have HO5 : Hid (Own w5 B0 5 v5 (H ++ packN vs.length ++ (vs.take 0).flatMap encVo)) := Lib.hid (by simpa using ho5)
    have kb5 := kb4.trans (hb5.mono HB2)
    clear ho5 hb5 hor hsl kb4
    go_wp2_with fail
    go_loopw [4, 5, 6] (fun o i _ wr => ∃ j : Nat, j ≤ vs.length ∧ i = .int .i64 (j : Int) ∧ Hid (Own wr B0 5 o (H ++ packN vs.length ++ (vs.take j).flatMap encVo)) ∧ K w2 wr) (fun _ i _ _ => vs.length - (intOf i).toNat)
    case atStart => exact ⟨0, by omega, rfl, HO5, kb5⟩
    case round =>
      clear kb5 HO5
      obtain ⟨j, hj, rfl, HO, kr⟩ := hrel
      by_cases hlt : j < vs.length
      · have hji : (j : Int) < (vs.length : Int) := by omega
        obtain ⟨b1, off, cs, rfl, hcl, hrl, d0, d⟩ := lsr_cells HLV.out j hlt (by decide)
        have HT : Hid (H ++ packN vs.length ++ (vs.take (j + 1)).flatMap encVo = H ++ packN vs.length ++ (vs.take j).flatMap encVo ++ encId vs[j].id ++ packN (if vs[j].yes then 1 else 0)) := Lib.hid (by rw [List.take_succ_eq_append_getElem hlt, List.flatMap_append]; simp [encVo])
        have hfx := FV.out _ (List.getElem_mem hlt)
        have hlj := HLN.out j
        generalize vs[j] = x at *
        generalize H ++ packN vs.length ++ (vs.take j).flatMap encVo = T at *
        have kw := k02.out.tr kr
        obtain rfl := hrl wr kw
        have d0' : ∀ W, K w2 W → W.cell? ⟨b1, off + j * 4, none⟩ = some (.int .i64 x.id.1) := fun W kW => d0 W (k02.out.tr kW)
        have d' : ∀ W, K w2 W → ∀ i, i < 4 → W.cell? ⟨b1, off + j * 4 + i, none⟩ = (voA x)[i]? := fun W kW i hi => (d W (k02.out.tr kW) i hi).trans Array.getElem?_toList
        have d1 : wr.cell? ⟨b1, off + j * 4 + 3, none⟩ = some (.bool x.yes) := d' wr kr 3 (by decide)
        have e0 := d0' wr kr
        have e1 := d' wr kr
        have C1 := Lib.hid (R13Id_calls x.id hfx wr)
        have hel := encId_len13 x.id hfx
        clear hrl hcl hfx d0 d d0' d'
        obtain ⟨⟨i0, i1, i2⟩, y⟩ := x
        simp only at *
        cases y
        all_goals
          go_wp2_with fail
          refine C1.out.mono ?_
          rintro e w6 ⟨v6, rfl, ho6, k6⟩
          have hor6 : Own w6 B0 5 _ T := row_below HO.out k6
          replace kr := kr.tr k6
          have hsl6 := sl_own ho6
          clear ho6 k6 C1 d1 e0 e1 HO kw
          go_wp2_with (at_builtin; refine wpList_appB rfl _ _ rfl B0 _ _ T (encId (i0, i1, i2)) rfl hor6 rfl hsl6 (by omega) (Nat.le_trans HB kr.size) ?_)
          intro v7 w7 ho7 hb7
          have kr7 := kr.trans (hb7.mono HB2)
          have HO7 := Lib.hid ho7
          clear hor6 hsl6 ho7 hb7 kr
        · go_wp2_with fail
          refine (N13_calls 0 (by omega) w7).mono ?_
          rintro e w8 ⟨v8, rfl, ho8, k8⟩
          have hor8 : Own w8 B0 5 _ (T ++ encId (i0, i1, i2)) := row_below HO7.out k8
          have kr8 := kr7.tr k8
          have hsl8 := sl_own ho8
          have p8 := packN_len 0 (by omega)
          clear ho8 k8 HO7 kr7
          go_wp2_with (at_builtin; refine wpList_appB rfl _ _ rfl B0 _ _ (T ++ encId (i0, i1, i2)) (packN 0) rfl hor8 rfl hsl8 (by simp only [List.length_append]; omega) (Nat.le_trans HB kr8.size) ?_)
          intro v9 w9 ho9 hb9
          have HO9 : Hid (Own w9 B0 5 v9 (H ++ packN vs.length ++ (vs.take (j + 1)).flatMap encVo)) := Lib.hid (by rw [HT.out]; simpa using ho9)
          have kr9 := kr8.trans (hb9.mono HB2)
          clear ho9 hb9 hor8 hsl8 kr8
          go_wp2
          go_roundw
          case rel => exact ⟨j + 1, by omega, by go_num, HO9, kr9⟩
          case measure => simp [intOf]; omega
        · go_wp2_with fail
          refine (N13_calls 1 (by omega) w7).mono ?_
          rintro e w8 ⟨v8, rfl, ho8, k8⟩
          have hor8 : Own w8 B0 5 _ (T ++ encId (i0, i1, i2)) := row_below HO7.out k8
          have kr8 := kr7.tr k8
          have hsl8 := sl_own ho8
          have p8 := packN_len 1 (by omega)
          clear ho8 k8 HO7 kr7
          go_wp2_with (at_builtin; refine wpList_appB rfl _ _ rfl B0 _ _ (T ++ encId (i0, i1, i2)) (packN 1) rfl hor8 rfl hsl8 (by simp only [List.length_append]; omega) (Nat.le_trans HB kr8.size) ?_)
          intro v9 w9 ho9 hb9
          have HO9 : Hid (Own w9 B0 5 v9 (H ++ packN vs.length ++ (vs.take (j + 1)).flatMap encVo)) := Lib.hid (by rw [HT.out]; simpa using ho9)
          have kr9 := kr8.trans (hb9.mono HB2)
          clear ho9 hb9 hor8 hsl8 kr8
          go_wp2
          go_roundw
          case rel => exact ⟨j + 1, by omega, by go_num, HO9, kr9⟩
          case measure => simp [intOf]; omega
      · have hji : ¬ (j : Int) < (vs.length : Int) := by omega
        rw [List.take_of_length_le (by omega)] at HO
        have HO6 := Lib.hid (show Own wr B0 5 _ (H ++ packN vs.length ++ vs.flatMap encVo) from HO.out)
        have hlj := HLN.out vs.length
        rw [List.take_of_length_le (Nat.le_refl _)] at hlj
        clear HO HLN HLV FV
        go_wp2_with fail
        refine (C2.out wr kr).mono ?_
        rintro e w7 ⟨v7, rfl, ho7, k7⟩
        have hor : Own w7 B0 5 _ (H ++ packN vs.length ++ vs.flatMap encVo) := row_below HO6.out k7
        have kr7 := kr.tr k7
        have hsl := sl_own ho7
        clear ho7 k7 HO6 C2
        go_wp2_with (at_builtin; refine wpList_appB rfl _ _ rfl B0 _ _ (H ++ packN vs.length ++ vs.flatMap encVo) (layL encEb ak) rfl hor rfl hsl (by omega) (Nat.le_trans HB kr7.size) ?_)
        intro v9 w9 ho9 hb9
        have HF : Hid (sl R v9 w9) := Lib.hid (by have h := sl_own ho9; rw [HR1.out]; simpa using h)
        have kF := k02.out.tr (kr7.trans (hb9.mono HB2))
        clear ho9 hb9 hor hsl kr kr7
        go_wp2
        go_ret2
        exact ⟨_, by rw [HC.out]; rfl, HF.out, kF⟩
  · have HR2 : Hid (R = H ++ layL encEb es ++ layL encEb ps ++ layL encId bs ++ layL encId ds) := Lib.hid (by rw [HR.out, if_neg (by decide)]; simp)
    have C3 := Lib.hid fun W (kW : K w2 W) => P3.out W (k02.out.tr kW)
    have C4 := Lib.hid fun W (kW : K w2 W) => P4.out W (k02.out.tr kW)
    have C5 := Lib.hid fun W (kW : K w2 W) => P5.out W (k02.out.tr kW)
    have C6 := Lib.hid fun W (kW : K w2 W) => P6.out W (k02.out.tr kW)
    clear P2 P3 P4 P5 P6 HR l1 l2 HV
    go_upto_region 5 with (fail)
    obtain ⟨MB, hMB⟩ : ∃ b, Hid (b = w3.heap.size) := ⟨_, Lib.hid rfl⟩
    have HM : MB ≤ w3.heap.size := by rw [hMB.out]; exact Nat.le_refl _
    have HB01 : B0 ≤ MB := by rw [hMB.out]; exact Nat.le_trans HB kb3.size
    have hlt3 : ∀ b, (Value.slice A9 H.length c9).ownBlock = some b → b < MB := fun b hb => by rw [hMB.out]; exact (HO3.out.lt b hb).2
    clear qx3
    refine wp_region_rows (fun W => K w2 W ∧ MB ≤ W.heap.size) B0 [0, 3, 4, 7, 8, 9] [0] [(4, 0), (8, 4), (9, 8)] [[4], [], [], [], [8], [], [], [], [9], []] [owR B0 (H),
      isV (.pointer (some ⟨gx, 4, none⟩)),
      isV (.slice A3 es.length c3),
      owR MB (layL encEb es),
      owR B0 (H ++ layL encEb es),
      isV (.pointer (some ⟨gx, 5, none⟩)),
      isV (.slice A4 ps.length c4),
      owR MB (layL encEb ps),
      owR B0 (H ++ layL encEb es ++ layL encEb ps),
      owR B0 (H ++ layL encEb es ++ layL encEb ps)]
      [([], []), ([], []), ([1], [(22, 1)]), ([2], [(23, 2)]), ([0, 3], [(21, 0), (24, 3)]), ([], []), ([5], [(26, 5)]), ([6], [(27, 6)]), ([4, 7], [(25, 4), (28, 7)]), ([8], [(29, 8)])] 76 rfl (by kernel_rfl) (by kernel_rfl) (by kernel_rfl) (by kernel_rfl) (by decide) (fun _ _ h k => ⟨h.1.tr k, Nat.le_trans h.2 k.size⟩) ⟨Below.drew kb3, HM⟩ ?st5 ?sb5 ?sr5 ?ow5 ?_
    case st5 =>
      simp only [List.forall_mem_cons]
      and_intros
      all_goals first | exact isV_st _ | exact owR_st _ _ | exact sl_st _ | exact anyV_st | simp
    case sb5 =>
      simp only [List.zipIdx_cons, List.zipIdx_nil, List.forall_mem_cons, Nat.zero_add, Nat.reduceAdd]
      and_intros
      all_goals first | exact .inl rfl | exact .inr (fun _ _ _ h _ => h) | simp
    case sr5 =>
      simp only [List.zipIdx_cons, List.zipIdx_nil, List.forall_mem_cons, Nat.zero_add, Nat.reduceAdd]
      and_intros
      all_goals first | exact .inl rfl | exact .inr (owR_row _ _) | simp
    case ow5 =>
      refine ⟨?x5_0, ?x5_1, ?x5_2, ?x5_3, ?x5_4, ?x5_5, ?x5_6, ?x5_7, ?x5_8, ?x5_9, trivial⟩
      case x5_1 | x5_2 | x5_5 | x5_6 =>
        intro V w' kW hp
        try simp only [List.forall_mem_cons, tab_zero, tab_succ, isV] at hp
        simp [wantsG, rhoP, List.lookup, hp, tab_zero, tab_succ, ResG, execOp, bareOp, isV, Below.refl, kW.1, qx, go_sem]
      case x5_3 | x5_7 =>
        refine ⟨rfl, fun V w' kW hp => ?_⟩
        try simp only [List.forall_mem_cons, tab_zero, tab_succ, isV] at hp
        simp [rhoP, List.lookup, hp, tab_zero, tab_succ, ResN, execOp, bareOp, go_sem]
        first
        | with_reducible refine (C3.out w' kW.1).mono ?_
        | with_reducible refine (C4.out w' kW.1).mono ?_
        rintro e w2 ⟨v, rfl, ho, hb⟩
        exact ⟨v, rfl, own_base kW.2 ho rfl, hb, fun b hb2 => ho.lt b hb2⟩
      case x5_0 =>
        refine ⟨⟨rfl, rfl⟩, fun V w' kW kH _ => resFr_move rfl (row_below HO3.out kH) (fun b hb => Nat.lt_of_lt_of_le (hlt3 b hb) kW.2) fun j hj hjk hf v' h b hb e => ?_⟩
        simp only [List.mem_cons, List.not_mem_nil, or_false] at hj
        rcases hj with rfl | rfl | rfl | rfl | rfl | rfl
        all_goals first | exact absurd rfl hjk | exact absurd hf (by decide) | (have h1 := (h.lt b e).1; have h2 := hlt3 b hb; omega)
      case x5_4 =>
        refine ⟨⟨rfl, rfl⟩, fun V w' kW hp => ?_⟩
        simp only [List.forall_mem_cons, tab_zero, tab_succ] at hp
        obtain ⟨h0, h3, -⟩ := hp
        exact resA_app (ρ := rhoP [(21, 0), (24, 3)] _ V) (.tmp 21) (.tmp 24) _ rfl h0 rfl (sl_own h3) (by omega) (Nat.le_trans HB kW.1.size) (fun w'' hb => ⟨kW.1.trans (hb.mono HB2), Nat.le_trans kW.2 hb.size⟩) (fun v' w'' h => h)
      case x5_8 =>
        refine ⟨⟨rfl, rfl⟩, fun V w' kW hp => ?_⟩
        simp only [List.forall_mem_cons, tab_zero, tab_succ] at hp
        obtain ⟨h4, h7, -⟩ := hp
        exact resA_app (ρ := rhoP [(25, 4), (28, 7)] _ V) (.tmp 25) (.tmp 28) _ rfl h4 rfl (sl_own h7) (by simp only [List.length_append]; omega) (Nat.le_trans HB kW.1.size) (fun w'' hb => ⟨kW.1.trans (hb.mono HB2), Nat.le_trans kW.2 hb.size⟩) (fun v' w'' h => h)
      case x5_9 =>
        refine ⟨⟨rfl, rfl⟩, fun V w' kW hp => ?_⟩
        simp only [List.forall_mem_cons, tab_zero, tab_succ] at hp
        obtain ⟨h8, -⟩ := hp
        exact resA_assign h8 kW rfl
    intro V W kW hp
    have h9 : owR B0 (H ++ layL encEb es ++ layL encEb ps) (V 9) W := hp 9 (by simp) rfl
    clear hp
    simp only [putAll, Act.put, List.setIfInBounds_toArray, List.set_cons_succ, List.set_cons_zero]
    have HO5 := Lib.hid (show Own W B0 5 (V 9) (H ++ layL encEb es ++ layL encEb ps) from h9)
    have hlen9 : (H ++ layL encEb es ++ layL encEb ps).length ≤ 50000000 := by simp only [List.length_append]; omega
    obtain ⟨A8, c8, e9, -⟩ := sl_own h9
    generalize V 9 = v5 at *
    have kb5 := kW.1
    generalize hH5 : H ++ layL encEb es ++ layL encEb ps = H5 at *
    have hH5 := Lib.hid hH5
    subst e9
    clear h9 kW C3 C4 hMB HM HB01 hlt3 HO3
    generalize W = w5 at *
    go_upto_region 6 with (fail)
    obtain ⟨MB, hMB⟩ : ∃ b, Hid (b = w5.heap.size) := ⟨_, Lib.hid rfl⟩
    have HM : MB ≤ w5.heap.size := by rw [hMB.out]; exact Nat.le_refl _
    have HB01 : B0 ≤ MB := by rw [hMB.out]; exact Nat.le_trans HB kb5.size
    have hlt5 : ∀ b, (Value.slice A8 H5.length c8).ownBlock = some b → b < MB := fun b hb => by rw [hMB.out]; exact (HO5.out.lt b hb).2
    refine wp_region_rows (fun W => K w2 W ∧ MB ≤ W.heap.size) B0 [0, 3, 4, 7, 8, 9] [0] [(4, 0), (8, 4), (9, 8)] [[4], [], [], [], [8], [], [], [], [9], [], []] [owR B0 (H5),
      isV (.pointer (some ⟨gx, 6, none⟩)),
      isV (.slice A5 bs.length c5),
      owR MB (layL encId bs),
      owR B0 (H5 ++ layL encId bs),
      isV (.pointer (some ⟨gx, 7, none⟩)),
      isV (.slice A6 ds.length c6),
      owR MB (layL encId ds),
      owR B0 (H5 ++ layL encId bs ++ layL encId ds),
      owR B0 (H5 ++ layL encId bs ++ layL encId ds),
      isV (.int .i64 0)]
      [([], []), ([], []), ([1], [(31, 1)]), ([2], [(32, 2)]), ([0, 3], [(30, 0), (33, 3)]), ([], []), ([5], [(35, 5)]), ([6], [(36, 6)]), ([4, 7], [(34, 4), (37, 7)]), ([8], [(38, 8)]), ([], [])] 76 rfl (by kernel_rfl) (by kernel_rfl) (by kernel_rfl) (by kernel_rfl) (by decide) (fun _ _ h k => ⟨h.1.tr k, Nat.le_trans h.2 k.size⟩) ⟨Below.drew kb5, HM⟩ ?st6 ?sb6 ?sr6 ?ow6 ?_
    case st6 =>
      simp only [List.forall_mem_cons]
      and_intros
      all_goals first | exact isV_st _ | exact owR_st _ _ | exact sl_st _ | exact anyV_st | simp
    case sb6 =>
      simp only [List.zipIdx_cons, List.zipIdx_nil, List.forall_mem_cons, Nat.zero_add, Nat.reduceAdd]
      and_intros
      all_goals first | exact .inl rfl | exact .inr (fun _ _ _ h _ => h) | simp
    case sr6 =>
      simp only [List.zipIdx_cons, List.zipIdx_nil, List.forall_mem_cons, Nat.zero_add, Nat.reduceAdd]
      and_intros
      all_goals first | exact .inl rfl | exact .inr (owR_row _ _) | simp
    case ow6 =>
      refine ⟨?x6_0, ?x6_1, ?x6_2, ?x6_3, ?x6_4, ?x6_5, ?x6_6, ?x6_7, ?x6_8, ?x6_9, ?x6_10, trivial⟩
      case x6_1 | x6_2 | x6_5 | x6_6 | x6_10 =>
        intro V w' kW hp
        try simp only [List.forall_mem_cons, tab_zero, tab_succ, isV] at hp
        simp [wantsG, rhoP, List.lookup, hp, tab_zero, tab_succ, ResG, execOp, bareOp, isV, Below.refl, kW.1, qx, go_sem]
      case x6_3 | x6_7 =>
        refine ⟨rfl, fun V w' kW hp => ?_⟩
        try simp only [List.forall_mem_cons, tab_zero, tab_succ, isV] at hp
        simp [rhoP, List.lookup, hp, tab_zero, tab_succ, ResN, execOp, bareOp, go_sem]
        first
        | with_reducible refine (C5.out w' kW.1).mono ?_
        | with_reducible refine (C6.out w' kW.1).mono ?_
        rintro e w2 ⟨v, rfl, ho, hb⟩
        exact ⟨v, rfl, own_base kW.2 ho rfl, hb, fun b hb2 => ho.lt b hb2⟩
      case x6_0 =>
        refine ⟨⟨rfl, rfl⟩, fun V w' kW kH _ => resFr_move rfl (row_below HO5.out kH) (fun b hb => Nat.lt_of_lt_of_le (hlt5 b hb) kW.2) fun j hj hjk hf v' h b hb e => ?_⟩
        simp only [List.mem_cons, List.not_mem_nil, or_false] at hj
        rcases hj with rfl | rfl | rfl | rfl | rfl | rfl
        all_goals first | exact absurd rfl hjk | exact absurd hf (by decide) | (have h1 := (h.lt b e).1; have h2 := hlt5 b hb; omega)
      case x6_4 =>
        refine ⟨⟨rfl, rfl⟩, fun V w' kW hp => ?_⟩
        simp only [List.forall_mem_cons, tab_zero, tab_succ] at hp
        obtain ⟨h0, h3, -⟩ := hp
        exact resA_app (ρ := rhoP [(30, 0), (33, 3)] _ V) (.tmp 30) (.tmp 33) _ rfl h0 rfl (sl_own h3) (by omega) (Nat.le_trans HB kW.1.size) (fun w'' hb => ⟨kW.1.trans (hb.mono HB2), Nat.le_trans kW.2 hb.size⟩) (fun v' w'' h => h)
      case x6_8 =>
        refine ⟨⟨rfl, rfl⟩, fun V w' kW hp => ?_⟩
        simp only [List.forall_mem_cons, tab_zero, tab_succ] at hp
        obtain ⟨h4, h7, -⟩ := hp
        exact resA_app (ρ := rhoP [(34, 4), (37, 7)] _ V) (.tmp 34) (.tmp 37) _ rfl h4 rfl (sl_own h7) (by simp only [List.length_append]; omega) (Nat.le_trans HB kW.1.size) (fun w'' hb => ⟨kW.1.trans (hb.mono HB2), Nat.le_trans kW.2 hb.size⟩) (fun v' w'' h => h)
      case x6_9 =>
        refine ⟨⟨rfl, rfl⟩, fun V w' kW hp => ?_⟩
        simp only [List.forall_mem_cons, tab_zero, tab_succ] at hp
        obtain ⟨h8, -⟩ := hp
        exact resA_assign h8 kW rfl
    intro V W kW hp
    have h9 : owR B0 (H5 ++ layL encId bs ++ layL encId ds) (V 9) W := hp 9 (by simp) rfl
    have h91 := hp 10 (by simp) rfl
    clear hp
    simp only [putAll, Act.put, List.setIfInBounds_toArray, List.set_cons_succ, List.set_cons_zero]
    have HF := Lib.hid (show sl R (V 9) W by rw [HR2.out]; exact sl_own h9)
    have h91 : V 10 = .int .i64 0 := h91
    rw [h91]
    generalize V 9 = v9 at *
    have kF := k02.out.tr kW.1
    clear h9 h91 kW C5 C6 qx HO5
    go_wp2
    go_ret2
    exact ⟨_, by rw [HC.out]; rfl, HF.out, kF⟩
end Go.Proofs.Ythnhdeieimgfhaa
