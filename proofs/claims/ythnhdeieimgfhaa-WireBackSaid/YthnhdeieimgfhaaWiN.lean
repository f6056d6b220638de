/-
  postilionlaw13.WireBack: the walk. Conditions: none.
-/
import Derived.Test.YthnhdeieimgfhaaWiM
set_option maxRecDepth 100000
namespace Go.Proofs.Ythnhdeieimgfhaa
open Go Go.RowKit

theorem encM_facts {m : Msg} (h : okM m = true) (hf : fitM m) : decMC (encM m) = 0 ∧ decMX (encM m) = m ∧ (∀ y, decMC (encM m ++ [y]) = 130) ∧ decMC ((encM m).take ((encM m).length - 1)) = 130 := by
  refine ⟨by unfold decMC; rw [decM_enc m h hf]; rfl, by unfold decMX; rw [decM_enc m h hf]; rfl, fun y => ?_, ?_⟩
  · unfold decMC; rw [decM_more m h hf [y] (by simp)]; rfl
  · unfold decMC; rw [decM_cut m h hf]; rfl
theorem encM_pos (m : Msg) : 1 ≤ (encM m).length := by
  have : 1 ≤ (packN (kindN m.kind)).length := by unfold packN; simp
  unfold encM; simp only [List.length_append]; omega
theorem decM_facts {b : List UInt8} {m : Msg} (h : decM b = some m) : decMC b = 0 ∧ decMX b = m ∧ encMR m = b ∧ chkM m = 0 ∧ fitM m := by
  obtain ⟨h1, h2⟩ := decM_back h
  exact ⟨by unfold decMC; rw [h]; rfl, by unfold decMX; rw [h]; rfl, by rw [encMR_1 h2, ← h1], chkM_1 h2, decM_fit h⟩
theorem decM_no {b : List UInt8} (h : decM b = none) : decMC b = 130 := by unfold decMC; rw [h]; rfl
/-- The first bytes of a slice. -/
theorem bsl_cut {l : List UInt8} {A : Option Addr} {c : Nat} {w : World} (h : bsl l (.slice A l.length c) w) (k : Nat) (hk : k ≤ l.length) : sl (l.take k) (.slice A k c) w := by
  obtain ⟨A', c', e, hR, -⟩ := h
  injection e with e1 _ e3
  subst e1 e3
  have hl : (l.take k).length = k := by simp; omega
  exact ⟨A, c, by rw [hl], by rw [hl]; exact hR.pre k hk⟩

set_option maxHeartbeats 8000000 in
theorem WireBack_walk (v0 v1 v2 : Value) (w : World) (r0 : repMsg w v0) (r1 : repBytes w v1) (r2 : repU8 w v2) :
    Calls Try.prog 6 #[v0, v1, v2] w fun e w' => e = .returned (.bool true) ∧ Below w.heap.size w w' := by
  obtain ⟨a, ha0, fa⟩ := r0
  obtain ⟨b, hb0⟩ := bsl_rep r1
  obtain ⟨by_, rfl⟩ := r2
  have CX := Lib.hid (msv_al ha0)
  have SB := Lib.hid (sl_al (bsl_sl hb0))
  obtain ⟨B, cB, rfl⟩ := bsl_len hb0
  clear hb0 r1
  obtain ⟨u1, u2, u3, u4, u5, u6, rfl, h1, h2, h3, h4, h5, h6⟩ := ha0
  obtain ⟨A1, Ac1, rfl⟩ := lst_slice h1
  obtain ⟨A2, Ac2, rfl⟩ := lst_slice h2
  obtain ⟨A3, Ac3, rfl⟩ := lst_slice h3
  obtain ⟨A4, Ac4, rfl⟩ := lst_slice h4
  obtain ⟨A5, Ac5, rfl⟩ := lst_slice h5
  obtain ⟨A6, Ac6, rfl⟩ := lst_slice h6
  clear h1 h2 h3 h4 h5 h6
  have hx := Blk.new w 28 (msA a (.slice A1 (Msg.votes a).length Ac1) (.slice A2 (Msg.asks a).length Ac2) (.slice A3 (Msg.entries a).length Ac3) (.slice A4 (Msg.prepares a).length Ac4) (.slice A5 (Msg.aborts a).length Ac5) (.slice A6 (Msg.ends a).length Ac6))
  have k2 : K w (w.alloc (.cells (msA a (.slice A1 (Msg.votes a).length Ac1) (.slice A2 (Msg.asks a).length Ac2) (.slice A3 (Msg.entries a).length Ac3) (.slice A4 (Msg.prepares a).length Ac4) (.slice A5 (Msg.aborts a).length Ac5) (.slice A6 (Msg.ends a).length Ac6)) 28)) := (K.rf w).al _
  have FX := Lib.hid fa
  clear fa
  go_enter Try.func6, Try.ntmps6
  go_upto_region 1 with (fail)
  generalize w.alloc _ = w2 at *
  generalize w.heap.size = g1 at hx ⊢
  have qx := hx.cells
  have kk := K.rf w2
  clear hx
  go_wp2_with fail
  refine (awakeW_calls w2).mono ?_
  rintro e w3 ⟨rfl, k3⟩
  replace kk := kk.tr k3
  have k03 := k2.tr k3
  go_wp2_with fail
  refine (WFew_calls a _ w3 (CX.out _ k03)).mono ?_
  rintro e w4 ⟨rfl, k4⟩
  replace kk := kk.tr k4
  replace k03 := k03.tr k4
  cases hfx : fewM a
  · go_wp2
    go_ret
    exact ⟨rfl, k03⟩
  have HS := Lib.hid (fewM_small hfx)
  clear hfx k3 k4
  by_cases hl : b.length ≤ 3000
  rotate_left
  · have hl' : (3000 : Int) < (b.length : Int) := by omega
    go_wp2
    go_ret
    exact ⟨rfl, k03⟩
  have hl' : ¬ (3000 : Int) < (b.length : Int) := by omega
  have HL := Lib.hid hl
  clear hl
  go_wp2_with fail
  refine (WEncodeB_calls a _ w4 (CX.out _ k03) FX.out).mono ?_
  rintro e w6 ⟨v6, rfl, h6, k6⟩
  replace kk := kk.tr k6
  replace k03 := k03.tr k6
  have SX := Lib.hid fun W (kW : K w6 W) => bsl_st _ _ _ _ h6 kW
  have HC : Hid ((okM a = true ∧ chkM a = 0) ∨ (okM a = false ∧ chkM a = 130)) := Lib.hid (by
    cases h : okM a
    · exact .inr ⟨rfl, chkM_2 h⟩
    · exact .inl ⟨rfl, chkM_1 h⟩)
  have HE : Hid (okM a = true → encMR a = encM a) := Lib.hid encMR_1
  obtain ⟨A6, c6, rfl, -, hc6⟩ := h6
  generalize encMR a = X at *
  generalize chkM a = C at *
  clear k6
  go_upto_if 37 with (fail)
  go_cut [10, 11, 12, 13, 14, 15, 16] from 38 to 79 (fun _ _ _ _ _ _ _ W => K w6 W)
  case first =>
    rcases HC.out with ⟨hok, rfl⟩ | ⟨hok, rfl⟩
    rotate_left
    · have kk := K.rf w6
      clear SX hok
      go_wp2
      go_meet
      case rel => exact kk
    obtain rfl := HE.out hok
    have hpos := encM_pos a
    have hlen := encM_len hok FX.out
    obtain ⟨f1, f2, f3, f4⟩ := encM_facts hok FX.out
    have HF := Lib.hid (And.intro (f3 by_) f4)
    have C4 := Lib.hid fun W (h : sl (encM a) (.slice A6 (encM a).length c6) W) => WDecode_calls (encM a) _ W h (by omega)
    rw [f1, f2] at C4
    clear f1 f2 f3 f4 hok HC HE
    go_wp2_with fail
    refine (C4.out w6 (bsl_sl (SX.out _ (K.rf _)))).mono ?_
    rintro e w7 ⟨v7, rfl, hm, k7⟩
    have HM := Lib.hid (msv_al hm)
    obtain ⟨u1, u2, u3, u4, u5, u6, rfl, h1, h2, h3, h4, h5, h6⟩ := hm
    obtain ⟨D1, Dc1, rfl⟩ := lst_slice h1
    obtain ⟨D2, Dc2, rfl⟩ := lst_slice h2
    obtain ⟨D3, Dc3, rfl⟩ := lst_slice h3
    obtain ⟨D4, Dc4, rfl⟩ := lst_slice h4
    obtain ⟨D5, Dc5, rfl⟩ := lst_slice h5
    obtain ⟨D6, Dc6, rfl⟩ := lst_slice h6
    clear h1 h2 h3 h4 h5 h6
    have hz := Blk.new w7 28 (msA a (.slice D1 (Msg.votes a).length Dc1) (.slice D2 (Msg.asks a).length Dc2) (.slice D3 (Msg.entries a).length Dc3) (.slice D4 (Msg.prepares a).length Dc4) (.slice D5 (Msg.aborts a).length Dc5) (.slice D6 (Msg.ends a).length Dc6))
    have kz : K w7 (w7.alloc (.cells (msA a (.slice D1 (Msg.votes a).length Dc1) (.slice D2 (Msg.asks a).length Dc2) (.slice D3 (Msg.entries a).length Dc3) (.slice D4 (Msg.prepares a).length Dc4) (.slice D5 (Msg.aborts a).length Dc5) (.slice D6 (Msg.ends a).length Dc6)) 28)) := (K.rf w7).al _
    clear C4
    go_upto_region 7 with (fail)
    generalize w7.alloc _ = w8 at *
    generalize w7.heap.size = g7 at hz ⊢
    have qz := hz.cells
    replace kk := (kk.tr k7).tr kz
    have k68 := k7.tr kz
    have kk8 := K.rf w8
    have HM8 := Lib.hid fun W (kW : K w8 W) => HM.out W (kz.tr kW)
    have k08 := k03.tr k68
    clear hz k7 kz HM
    go_wp2_with fail
    refine (WSame_calls a a _ _ w8 (CX.out _ k08) (HM8.out _ kk8) HS.out).mono ?_
    rintro e w9 ⟨rfl, k9⟩
    rw [show decide (a = a) = true from by simp]
    replace k68 := k68.tr k9
    clear HM8 kk8 k08 k9 qz kk
    have hsz := k68.size
    have hown := own_emptyW w9 w6.heap.size hsz
    have kE : K w9 (w9.alloc (.cells #[] 5)) := (K.rf w9).al _
    have s9 := bsl_sl (SX.out _ (k68.tr kE))
    obtain ⟨A0, c0, e0, hR0⟩ := s9
    injection e0 with e0a _ e0b
    subst e0a e0b
    have hbz : w6.heap.size ≤ (w9.alloc (.cells #[] 5)).heap.size := Nat.le_trans hsz kE.size
    go_wp2_with (at_builtin; refine wpList_app rfl _ _ 30 rfl w6.heap.size 5 _ 1 1 TB _ 0 [] rfl hown _ _ (encM a).length _ (bys (encM a)) rfl hR0 (bys_one _) ?p1 hbz ?_)
    case p1 => omega
    intro va wa hoa hga hata hba
    have k6a := (k68.tr kE).trans (hba.mono (Nat.le_refl _))
    have hza := k6a.size
    have hbza : w6.heap.size ≤ (wa.alloc (.cells #[.int .u8 (by_.toNat : Int)] 5)).heap.size := by simp; omega
    clear hga hata hba hown hR0
    go_wp2_with (at_builtin; refine wpList_app rfl _ _ 30 rfl w6.heap.size 5 _ 1 1 TB _ _ _ rfl (World.ownsRow.alloc hoa _) (wa.heap.size + 1) _ 1 1 (bys [by_]) rfl ?p2 (bys_one _) ?p3 hbza ?_)
    case p2 => exact Reads.new wa (bys [by_]) 5 1 1 rfl
    case p3 => omega
    intro vb wb hob hgb hatb hbb
    have k6b := (k6a.al (.cells #[.int .u8 (by_.toNat : Int)] 5)).trans hbb
    have hob2 : Own wb w6.heap.size 5 vb (encM a ++ [by_]) := by
      unfold Own
      rw [bys_append]
      simpa using hob
    have sb := sl_own hob2
    clear hob hob2 hgb hatb hbb hoa
    go_wp2_with fail
    refine (WDecode_calls (encM a ++ [by_]) _ wb sb (by simp; omega)).mono ?_
    rintro e wc ⟨v9, rfl, hm, kc⟩
    rw [HF.out.1]
    generalize decMX (encM a ++ [by_]) = mz at *
    obtain ⟨u1, u2, u3, u4, u5, u6, rfl, h1, h2, h3, h4, h5, h6⟩ := hm
    obtain ⟨E1, Ec1, rfl⟩ := lst_slice h1
    obtain ⟨E2, Ec2, rfl⟩ := lst_slice h2
    obtain ⟨E3, Ec3, rfl⟩ := lst_slice h3
    obtain ⟨E4, Ec4, rfl⟩ := lst_slice h4
    obtain ⟨E5, Ec5, rfl⟩ := lst_slice h5
    obtain ⟨E6, Ec6, rfl⟩ := lst_slice h6
    clear h1 h2 h3 h4 h5 h6
    have kE2 : K wc (wc.alloc (.cells (msA mz (.slice E1 (Msg.votes mz).length Ec1) (.slice E2 (Msg.asks mz).length Ec2) (.slice E3 (Msg.entries mz).length Ec3) (.slice E4 (Msg.prepares mz).length Ec4) (.slice E5 (Msg.aborts mz).length Ec5) (.slice E6 (Msg.ends mz).length Ec6)) 28)) := (K.rf wc).al _
    have k6d := (k6b.tr kc).tr kE2
    clear k6b kc sb k6a hza hbza hbz hsz kE k68
    go_upto_region 9 with (fail)
    generalize wc.alloc _ = wd at *
    clear kE2
    have SD := Lib.hid (bsl_cut (SX.out _ k6d) ((encM a).length - 1) (by omega))
    have HN := Lib.hid (encM_len (m := a))
    generalize hL : encM a = L at *
    have hpi : (1 : Int) ≤ (L.length : Int) := by omega
    clear hL
    go_wp2_with fail
    refine (WDecode_calls (L.take (L.length - 1)) _ wd SD.out (by simp; omega)).mono ?_
    rintro e we ⟨v9, rfl, hm, ke⟩
    rw [HF.out.2]
    generalize decMX (L.take (L.length - 1)) = my at *
    obtain ⟨u1, u2, u3, u4, u5, u6, rfl, h1, h2, h3, h4, h5, h6⟩ := hm
    obtain ⟨G1, Gc1, rfl⟩ := lst_slice h1
    obtain ⟨G2, Gc2, rfl⟩ := lst_slice h2
    obtain ⟨G3, Gc3, rfl⟩ := lst_slice h3
    obtain ⟨G4, Gc4, rfl⟩ := lst_slice h4
    obtain ⟨G5, Gc5, rfl⟩ := lst_slice h5
    obtain ⟨G6, Gc6, rfl⟩ := lst_slice h6
    clear h1 h2 h3 h4 h5 h6
    have k6f : K w6 (we.alloc (.cells (msA my (.slice G1 (Msg.votes my).length Gc1) (.slice G2 (Msg.asks my).length Gc2) (.slice G3 (Msg.entries my).length Gc3) (.slice G4 (Msg.prepares my).length Gc4) (.slice G5 (Msg.aborts my).length Gc5) (.slice G6 (Msg.ends my).length Gc6)) 28)) := (k6d.tr ke).al _
    go_wp2
    go_meet
    case rel => exact k6f
  case rest =>
  have k0c := k03.tr hcut
  clear SX qx hcut kk HC HE k03 CX
  have C5 := Lib.hid fun W (h : sl b (.slice B b.length cB) W) => WDecode_calls b _ W h (by have := HL.out; omega)
  have HC1 : Hid (decM b = none → decMC b = 130) := Lib.hid decM_no
  have HC2 : Hid (∀ x, decM b = some x → decMC b = 0 ∧ decMX b = x ∧ encMR x = b ∧ chkM x = 0 ∧ fitM x) := Lib.hid fun x h => decM_facts h
  generalize decMC b = C at HC1 HC2 C5
  generalize decMX b = y at HC2 C5
  go_wp2_with fail
  refine (C5.out wc (SB.out _ k0c)).mono ?_
  rintro e w7 ⟨v7, rfl, hm, k7⟩
  have HM := Lib.hid (msv_al hm)
  obtain ⟨u1, u2, u3, u4, u5, u6, rfl, h1, h2, h3, h4, h5, h6⟩ := hm
  obtain ⟨D1, Dc1, rfl⟩ := lst_slice h1
  obtain ⟨D2, Dc2, rfl⟩ := lst_slice h2
  obtain ⟨D3, Dc3, rfl⟩ := lst_slice h3
  obtain ⟨D4, Dc4, rfl⟩ := lst_slice h4
  obtain ⟨D5, Dc5, rfl⟩ := lst_slice h5
  obtain ⟨D6, Dc6, rfl⟩ := lst_slice h6
  clear h1 h2 h3 h4 h5 h6
  have hz := Blk.new w7 28 (msA y (.slice D1 (Msg.votes y).length Dc1) (.slice D2 (Msg.asks y).length Dc2) (.slice D3 (Msg.entries y).length Dc3) (.slice D4 (Msg.prepares y).length Dc4) (.slice D5 (Msg.aborts y).length Dc5) (.slice D6 (Msg.ends y).length Dc6))
  have kz : K w7 (w7.alloc (.cells (msA y (.slice D1 (Msg.votes y).length Dc1) (.slice D2 (Msg.asks y).length Dc2) (.slice D3 (Msg.entries y).length Dc3) (.slice D4 (Msg.prepares y).length Dc4) (.slice D5 (Msg.aborts y).length Dc5) (.slice D6 (Msg.ends y).length Dc6)) 28)) := (K.rf w7).al _
  have k08 := k0c.tr (k7.tr kz)
  cases hd : decM b with
  | none =>
    obtain rfl := HC1.out hd
    clear HM HC1 HC2 hz C5
    go_wp2
    go_ret
    exact ⟨rfl, k08⟩
  | some z =>
    obtain ⟨rfl, rfl, g3, g4, g5⟩ := HC2.out z hd
    clear hd
    have HG := Lib.hid (And.intro g3 (And.intro g4 g5))
    clear g3 g4 g5 HC1 HC2 C5
    go_upto_region 13 with (fail)
    generalize w7.alloc _ = w8 at *
    generalize w7.heap.size = g7 at hz ⊢
    have qz := hz.cells
    have kk := K.rf w8
    have HM8 := Lib.hid fun W (kW : K w8 W) => HM.out W (kz.tr kW)
    clear hz kz k7 HM
    go_wp2_with fail
    refine (WEncode_calls y _ w8 (HM8.out _ kk) HG.out.2.2).mono ?_
    rintro e w9 ⟨v9, rfl, h9, k9⟩
    rw [HG.out.1] at h9
    rw [HG.out.2.1]
    replace kk := kk.tr k9
    have k09 := k08.tr k9
    have t1 := str h9
    have t2 := str (SB.out _ k09)
    clear HM8
    go_wp2
    go_ret
    exact ⟨by simp, k09⟩
end Go.Proofs.Ythnhdeieimgfhaa
