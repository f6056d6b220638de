/-
  postilionlaw11.EntryBack: the walk. Conditions: none.
-/
import Derived.Test.YtjcdgbnbaiebdaaEntry2
import Derived.Test.YtjcdgbnbaiebdaaEnP
set_option maxRecDepth 100000
namespace Go.Proofs.Ytjcdgbnbaiebdaa
open Go Go.RowKit

theorem encEnR_ok {x : Ent} (h : okEn x = true) (hf : fitEn x) : decEnC (encEnR x) = 0 ∧ decEnX (encEnR x) = x ∧ (encEnR x).length ≤ 20000 ∧ ∀ by_, decEnC (encEnR x ++ [by_]) = 110 := by
  have h1 : encEnR x = encEn x := by simp [encEnR, h]
  rw [h1]
  have h2 := decEn_some (decEn_enc x h hf)
  exact ⟨h2.1, h2.2, encEn_len h hf, fun b => (decEn_none (decEn_more x h hf b)).1⟩
theorem encRec_len {x : Rec} (h : okRec x = true) (hf : fitRec x) : (encRec x).length ≤ 30000 := by
  have g1 := packN_len (kindN x.kind) (kindN_lt _)
  have g2 := packN_len x.n hf.2.1
  rcases okRec_kind h with ⟨hk, _⟩ | ⟨hk, he, _⟩ | ⟨hk, _⟩
  · rw [encRec_1 hk]; simp only [List.length_append]; omega
  · have := encEn_len he hf.2.2.1
    have g3 := packN_len (encEn x.e).length (by omega)
    rw [encRec_23 (by omega)]; simp only [List.length_append, packB]; omega
  · have g3 := packN_len (kindN x.br) (kindN_lt _)
    have g4 := packN_len x.life hf.2.2.2.2.1
    have g5 := packN_len x.ser hf.2.2.2.2.2
    rw [encRec_45 hk]; simp only [List.length_append, encId]; omega
theorem encRecR_ok {x : Rec} (h : okRec x = true) (hf : fitRec x) : decRecC (encRecR x) = 0 ∧ decRecX (encRecR x) = x ∧ (encRecR x).length ≤ 30000 ∧ ∀ by_, decRecC (encRecR x ++ [by_]) = 110 := by
  have h1 : encRecR x = encRec x := by simp [encRecR, h]
  rw [h1]
  have h2 := decRec_some (decRec_enc x h hf)
  exact ⟨h2.1, h2.2, encRec_len h hf, fun b => (decRec_none (decRec_more x h hf b)).1⟩
/-- An empty slice of bytes that was just written down. -/
theorem own_empty (w : World) (base : Nat) (hb : base ≤ w.heap.size) : Own (w.alloc (.cells #[] 5)) base 5 (.slice (some ⟨w.heap.size, 0, none⟩) 0 0) [] :=
  own_of_block (rest := []) hb (heap_alloc_new w _) rfl rfl (by unfold maxLen; omega)

set_option maxHeartbeats 4000000 in
theorem EntryBack_walk (v0 v1 v2 : Value) (w : World) (r0 : repEntry w v0) (r1 : repRecord w v1) (r2 : repU8 w v2) :
    Calls Try.prog 9 #[v0, v1, v2] w fun e w' => e = .returned (.bool true) ∧ Below w.heap.size w w' := by
  obtain ⟨x, hx0, fx⟩ := r0
  obtain ⟨y, hy0, fy⟩ := r1
  obtain ⟨by_, rfl⟩ := r2
  have CX := Lib.hid (ent_al hx0)
  have CY := Lib.hid (rcd_al hy0)
  obtain ⟨vf1, ve1, rfl, hf1, he1⟩ := hx0
  obtain ⟨vf2, ve2, rfl, hf2, he2⟩ := hy0
  have EY : Hid (∀ W, K w W → ent y.e (.agg (entA y.e vf2 ve2)) W) := Lib.hid fun W k => ⟨_, _, rfl, flt_st _ _ _ _ hf2 k, lst_st he2 k⟩
  have hx := (Blk.new w 34 (entA x vf1 ve1)).alloc (.cells (recA y vf2 ve2) 61)
  have hy := Blk.new (w.alloc (.cells (entA x vf1 ve1) 34)) 61 (recA y vf2 ve2)
  have k2 : K w ((w.alloc (.cells (entA x vf1 ve1) 34)).alloc (.cells (recA y vf2 ve2) 61)) := ((K.rf w).al _).al _
  have hz : (w.alloc (.cells (entA x vf1 ve1) 34)).heap.size = w.heap.size + 1 := by simp
  rw [hz] at hy
  clear hz hf1 hf2 he1 he2
  have FX := Lib.hid fx
  have FY := Lib.hid fy
  clear fx fy
  go_enter Try.func9, Try.ntmps9
  go_wp2_with fail
  generalize World.alloc (World.alloc w _) _ = w2 at *
  generalize hg2 : w.heap.size + 1 = g2 at hy ⊢
  generalize w.heap.size = g1 at hx hg2 ⊢
  clear hg2
  have qx := hx.cells
  have qy := hy.cells
  refine (awakeE_calls w2).mono ?_
  rintro e w3 ⟨rfl, k3⟩
  have k03 := k2.tr k3
  go_wp2_with fail
  refine (EFew_calls x _ w3 (CX.out _ k03)).mono ?_
  rintro e w4 ⟨rfl, k4⟩
  replace k3 := k3.tr k4
  replace k03 := k03.tr k4
  cases hfx : fewEn x
  · go_wp2
    go_ret
    exact ⟨rfl, k03⟩
  go_wp2_with fail
  refine (EFew_calls y.e _ w4 (EY.out _ k03)).mono ?_
  rintro e w5 ⟨rfl, k5⟩
  replace k3 := k3.tr k5
  replace k03 := k03.tr k5
  cases hfy : fewEn y.e
  · go_wp2
    go_ret
    exact ⟨rfl, k03⟩
  go_wp2_with fail
  have CE : Hid (∃ C, C = chkEn x) := Lib.hid ⟨_, rfl⟩
  refine (NEncode_calls x _ w5 (CX.out _ k03) FX.out).mono ?_
  rintro e w6 ⟨v6, rfl, ho6, k6⟩
  have s6 := sl_al (sl_own ho6)
  replace k3 := k3.tr k6
  replace k03 := k03.tr k6
  have HC : Hid ((okEn x = true ∧ chkEn x = 0) ∨ (okEn x = false ∧ chkEn x = 110)) := Lib.hid (by
    cases h : okEn x
    · exact .inr ⟨rfl, chkEn_bad h⟩
    · exact .inl ⟨rfl, chkEn_good h⟩)
  generalize chkEn x = C at HC ⊢
  clear ho6 k6 k5 k4 CE
  obtain ⟨A6, c6, e6, -⟩ := s6 _ (K.rf _)
  obtain rfl := e6
  go_upto_if 39 with (fail)
  go_cut [10, 11, 12, 13, 14] from 40 to 67 (fun _ _ _ _ _ W => K w6 W)
  case first =>
    rcases HC.out with ⟨hok, rfl⟩ | ⟨hok, rfl⟩
    rotate_left
    · have kk := K.rf w6
      clear s6
      go_wp2
      go_meet
      case rel => exact kk
    obtain ⟨o1, o2, o3, o4⟩ := encEnR_ok hok FX.out
    have HO := Lib.hid (And.intro o1 (And.intro o2 (o4 by_)))
    clear o1 o2 o4
    go_wp2_with fail
    refine (NDecode_calls (encEnR x) _ w6 (s6 _ (K.rf _)) (by omega)).mono ?_
    rintro e w7 ⟨v7, rfl, he, k7⟩
    rw [HO.out.1]
    rw [HO.out.2.1] at he
    obtain ⟨vf, ve, rfl, hf, hes⟩ := he _ (UpB.rf _ _ _)
    obtain ⟨A7, c7, rfl⟩ := flt_slice hf
    obtain ⟨D7, d7, rfl⟩ := lst_slice hes
    have hX := fun W kW => ent_st (he _ (UpB.rf _ _ _)) (w' := W) kW
    clear hf hes he
    have hz := Blk.new w7 34 (entA (x) (.slice A7 (Ent.f (x)).length c7) (.slice D7 (Ent.es (x)).length d7))
    have k8 : K w7 (w7.alloc (.cells (entA (x) (.slice A7 (Ent.f (x)).length c7) (.slice D7 (Ent.es (x)).length d7)) 34)) := (K.rf w7).al _
    go_upto_region 7 with (fail)
    generalize w7.alloc _ = w8 at *
    generalize w7.heap.size = g7 at hz ⊢
    have qz := hz.cells
    have kk := K.rf w8
    have k68 := k7.tr k8
    have k38 := k3.tr k68
    have hX8 := fun W (kW : K w8 W) => hX W (k8.tr kW)
    go_wp2_with fail
    refine (ESame_calls x x _ _ w8 (CX.out _ (k03.tr k68)) (hX8 _ kk) (fewEn_small hfx)).mono ?_
    rintro e w9 ⟨rfl, k9⟩
    rw [show decide (x = x) = true from by simp]
    replace k68 := k68.tr k9
    clear kk k7 k8 k9 hX hX8 k38
    have hsz := k68.size
    have hown := own_empty w9 w6.heap.size hsz
    have kE : K w9 (w9.alloc (.cells #[] 5)) := (K.rf w9).al _
    have s9 := s6 _ (k68.tr kE)
    obtain ⟨A0, c0, e0, hR0⟩ := s9
    injection e0 with e0a _ e0b
    subst e0a e0b
    have hbz : w6.heap.size ≤ (w9.alloc (.cells #[] 5)).heap.size := Nat.le_trans hsz kE.size
    go_wp2_with (at_builtin; refine wpList_app rfl _ _ 46 rfl w6.heap.size 5 _ 1 1 TB _ 0 [] rfl hown _ _ (encEnR x).length _ (bys (encEnR x)) rfl hR0 (bys_one _) ?p1 hbz ?_)
    case p1 => omega
    intro va wa hoa hga hata hba
    have k6a := (k68.tr kE).trans (hba.mono (Nat.le_refl _))
    have hza := k6a.size
    have hbza : w6.heap.size ≤ (wa.alloc (.cells #[.int .u8 (by_.toNat : Int)] 5)).heap.size := by simp; omega
    clear hga hata hba hown hR0
    go_wp2_with (at_builtin; refine wpList_app rfl _ _ 46 rfl w6.heap.size 5 _ 1 1 TB _ _ _ rfl (World.ownsRow.alloc hoa _) (wa.heap.size + 1) _ 1 1 (bys [by_]) rfl ?p2 (bys_one _) ?p3 hbza ?_)
    case p2 => exact Reads.new wa (bys [by_]) 5 1 1 rfl
    case p3 => omega
    intro vb wb hob hgb hatb hbb
    have k6b := (k6a.al (.cells #[.int .u8 (by_.toNat : Int)] 5)).trans hbb
    have hob2 : Own wb w6.heap.size 5 vb (encEnR x ++ [by_]) := by
      unfold Own
      rw [bys_append]
      simpa using hob
    have sb := sl_own hob2
    clear hob hob2 hgb hatb hbb hoa
    go_wp2_with fail
    refine (NDecode_calls (encEnR x ++ [by_]) _ wb sb (by simp; omega)).mono ?_
    rintro e wc ⟨v9, rfl, he, kc⟩
    rw [HO.out.2.2]
    obtain ⟨vf, ve, rfl, hf, hes⟩ := he _ (UpB.rf _ _ _)
    obtain ⟨A9, c9, rfl⟩ := flt_slice hf
    obtain ⟨D9, d9, rfl⟩ := lst_slice hes
    clear hf hes he sb
    have k6d : K w6 (wc.alloc (.cells (entA (decEnX (encEnR x ++ [by_])) (.slice A9 (Ent.f (decEnX (encEnR x ++ [by_]))).length c9) (.slice D9 (Ent.es (decEnX (encEnR x ++ [by_]))).length d9)) 34)) := (k6b.tr kc).al _
    go_wp2
    go_meet
    case rel => exact k6d
  case rest =>
  have k3c := k3.tr hcut
  have k0c := k03.tr hcut
  clear s6 qx k3 k03 hcut
  go_wp2_with fail
  refine (Pack_calls y _ wc (CY.out _ k0c) FY.out).mono ?_
  rintro e w6 ⟨v6, rfl, ho6, k6⟩
  have s6 := sl_al ho6
  have k3 := k3c.tr k6
  have k03 := k0c.tr k6
  clear k3c k0c
  cases hok : okRec y
  · rw [chkRec_1 hok]
    clear s6 ho6
    rcases HC.out with ⟨-, rfl⟩ | ⟨-, rfl⟩
    all_goals
      go_wp2
      go_ret
      exact ⟨rfl, k03⟩
  · rw [chkRec_0 hok]
    obtain ⟨A6, c6, e6, -⟩ := s6 _ (K.rf _)
    obtain rfl := e6
    clear ho6 k6
    obtain ⟨o1, o2, o3, o4⟩ := encRecR_ok hok FY.out
    have HO := Lib.hid (And.intro o1 (And.intro o2 (o4 by_)))
    clear o1 o2 o4
    go_wp2_with fail
    refine (Unpack_calls (encRecR y) _ w6 (s6 _ (K.rf _)) (by omega)).mono ?_
    rintro e w7 ⟨v7, rfl, he, k7⟩
    rw [HO.out.1]
    rw [HO.out.2.1] at he
    obtain ⟨vf, ve, rfl, hf, hes⟩ := he _ (UpB.rf _ _ _)
    obtain ⟨A7, c7, rfl⟩ := flt_slice hf
    obtain ⟨D7, d7, rfl⟩ := lst_slice hes
    have hX := fun W kW => rcd_st (he _ (UpB.rf _ _ _)) (w' := W) kW
    clear hf hes he
    have hz := Blk.new w7 61 (recA (y) (.slice A7 (Rec.e (y)).f.length c7) (.slice D7 (Rec.e (y)).es.length d7))
    have k8 : K w7 (w7.alloc (.cells (recA (y) (.slice A7 (Rec.e (y)).f.length c7) (.slice D7 (Rec.e (y)).es.length d7)) 61)) := (K.rf w7).al _
    go_upto_region 14 with (fail)
    generalize w7.alloc _ = w8 at *
    generalize w7.heap.size = g7 at hz ⊢
    have qz := hz.cells
    have kk := K.rf w8
    have k68 := k7.tr k8
    have k38 := k3.tr k68
    have hX8 := fun W (kW : K w8 W) => hX W (k8.tr kW)
    go_wp2_with fail
    refine (RSame_calls y y _ _ w8 (CY.out _ (k03.tr k68)) (hX8 _ kk) (fewEn_small hfy)).mono ?_
    rintro e w9 ⟨rfl, k9⟩
    rw [show decide (y = y) = true from by simp]
    replace k68 := k68.tr k9
    clear kk k7 k8 k9 hX hX8 k38
    have hsz := k68.size
    have hown := own_empty w9 w6.heap.size hsz
    have kE : K w9 (w9.alloc (.cells #[] 5)) := (K.rf w9).al _
    have s9 := s6 _ (k68.tr kE)
    obtain ⟨A0, c0, e0, hR0⟩ := s9
    injection e0 with e0a _ e0b
    subst e0a e0b
    have hbz : w6.heap.size ≤ (w9.alloc (.cells #[] 5)).heap.size := Nat.le_trans hsz kE.size
    go_wp2_with (at_builtin; refine wpList_app rfl _ _ 46 rfl w6.heap.size 5 _ 1 1 TB _ 0 [] rfl hown _ _ (encRecR y).length _ (bys (encRecR y)) rfl hR0 (bys_one _) ?p1 hbz ?_)
    case p1 => omega
    intro va wa hoa hga hata hba
    have k6a := (k68.tr kE).trans (hba.mono (Nat.le_refl _))
    have hza := k6a.size
    have hbza : w6.heap.size ≤ (wa.alloc (.cells #[.int .u8 (by_.toNat : Int)] 5)).heap.size := by simp; omega
    clear hga hata hba hown hR0
    go_wp2_with (at_builtin; refine wpList_app rfl _ _ 46 rfl w6.heap.size 5 _ 1 1 TB _ _ _ rfl (World.ownsRow.alloc hoa _) (wa.heap.size + 1) _ 1 1 (bys [by_]) rfl ?p2 (bys_one _) ?p3 hbza ?_)
    case p2 => exact Reads.new wa (bys [by_]) 5 1 1 rfl
    case p3 => omega
    intro vb wb hob hgb hatb hbb
    have k6b := (k6a.al (.cells #[.int .u8 (by_.toNat : Int)] 5)).trans hbb
    have hob2 : Own wb w6.heap.size 5 vb (encRecR y ++ [by_]) := by
      unfold Own
      rw [bys_append]
      simpa using hob
    have sb := sl_own hob2
    clear hob hob2 hgb hatb hbb hoa
    go_wp2_with fail
    refine (Unpack_calls (encRecR y ++ [by_]) _ wb sb (by simp; omega)).mono ?_
    rintro e wc ⟨v9, rfl, he, kc⟩
    rw [HO.out.2.2]
    obtain ⟨vf, ve, rfl, hf, hes⟩ := he _ (UpB.rf _ _ _)
    obtain ⟨A9, c9, rfl⟩ := flt_slice hf
    obtain ⟨D9, d9, rfl⟩ := lst_slice hes
    clear hf hes he sb
    have k6d : K w6 (wc.alloc (.cells (recA (decRecX (encRecR y ++ [by_])) (.slice A9 (Rec.e (decRecX (encRecR y ++ [by_]))).f.length c9) (.slice D9 (Rec.e (decRecX (encRecR y ++ [by_]))).es.length d9)) 61)) := (k6b.tr kc).al _
    have k0d := k03.tr k6d
    rcases HC.out with ⟨-, rfl⟩ | ⟨-, rfl⟩
    all_goals
      go_wp2
      go_ret
      exact ⟨rfl, k0d⟩
end Go.Proofs.Ytjcdgbnbaiebdaa
