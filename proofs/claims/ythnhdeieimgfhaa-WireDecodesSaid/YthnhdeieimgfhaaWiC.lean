/-
  The walk of wire.Encode (layer 13). Conditions: lists of which a message may have that many.
-/
import Derived.Test.YthnhdeieimgfhaaWiB
import Derived.Test.YthnhdeieimgfhaaNA
set_option maxRecDepth 100000
namespace Go.Proofs.Ythnhdeieimgfhaa
open Go Go.RowKit

theorem encId_len {a : Idn} (h : fitI a) : (encId a).length ≤ 30000 := by
  have g1 := packN_len (kindN a.1) (kindN_lt _)
  have g2 := packN_len a.2.1 h.2.1
  have g3 := packN_len a.2.2 h.2.2
  unfold encId; simp only [List.length_append]; omega
theorem encId_len' {a : Idn} (h : fitI a) : (encId a).length ≤ 27 := by
  have g1 := packN_len (kindN a.1) (kindN_lt _)
  have g2 := packN_len a.2.1 h.2.1
  have g3 := packN_len a.2.2 h.2.2
  unfold encId; simp only [List.length_append]; omega
theorem encVo_len {v : Vot} (h : fitI v.id) : (encVo v).length ≤ 30000 := by
  have g1 := encId_len' h
  have g2 := packN_len (if v.yes then 1 else 0) (by split <;> omega)
  unfold encVo; simp only [List.length_append]; omega
theorem encEnR_len {x : Ent} (h : fitEn x) : (encEnR x).length ≤ 20000 := by
  unfold encEnR
  cases hok : okEn x
  · simp
  · exact encEn_len hok h
theorem encEb_len {x : Ent} (h : fitEn x) : (encEb x).length ≤ 30000 := by
  have g1 := encEnR_len h
  have g2 := packN_len (encEnR x).length (by omega)
  unfold encEb packB; simp only [List.length_append]; omega
theorem flat_len {α : Type} (enc : α → List UInt8) (B : Nat) : ∀ (l : List α), (∀ x ∈ l, (enc x).length ≤ B) → (l.flatMap enc).length ≤ B * l.length
  | [], _ => by simp
  | x :: l, h => by
    have h1 := h x (by simp)
    have h2 := flat_len enc B l (fun y hy => h y (by simp [hy]))
    simp only [List.flatMap_cons, List.length_append, List.length_cons, Nat.mul_succ]
    omega

set_option maxHeartbeats 1000000 in
theorem LayID_calls (l : List UInt8) (v : Value) (a : Idn) (w : World) (h : sl l v w) (hl : l.length ≤ 900000000) (hf : fitI a) :
    Calls Try.prog 38 #[v, .agg (idA a)] w fun e w' => ∃ v', e = .returned v' ∧ bsl (l ++ encId a) v' w' ∧ K w w' := by
  obtain ⟨A, c, rfl, hR⟩ := h
  obtain ⟨b, li, se⟩ := a
  obtain ⟨h0, h1, h2⟩ := hf
  simp only at h0 h1 h2
  have p0 := packN_len (kindN b) (kindN_lt b)
  have p1 := packN_len li h1
  have p2 := packN_len se h2
  have hx := Blk.new w 53 #[.int .i64 b, .int .u64 (li : Int), .int .u64 (se : Int)]
  have k1 : K w (w.alloc (.cells #[.int .i64 b, .int .u64 (li : Int), .int .u64 (se : Int)] 53)) := (K.rf w).al _
  have hR1 := (hR.below k1 (Nat.le_refl _)).more k1.size
  go_enter Try.func38, Try.ntmps38
  go_upto_region 1 with (fail)
  generalize w.alloc _ = w1 at *
  have qx := hx.cells
  have kk := K.rf w1
  go_wp2_with fail
  rw [u64_wrap b]
  refine (Number_calls A _ c l (kindN b) (kindN_lt b) w1 _ hR1 (Nat.le_refl _) (by omega)).mono ?_
  rintro e w2 ⟨v2, rfl, ho2, k2⟩
  obtain ⟨A2, c2, rfl, hR2⟩ := (sl_own ho2)
  have hl2 : (l ++ packN (kindN b)).length ≤ 900000009 := by simp; omega
  generalize hm2 : (l ++ packN (kindN b)).length = m2 at *
  clear hm2
  go_wp2_with fail
  refine (Number_calls A2 m2 c2 _ li h1 w2 _ hR2 (Nat.le_refl _) (by omega)).mono ?_
  rintro e w3 ⟨v3, rfl, ho3, k3⟩
  replace k2 := k2.tr k3
  obtain ⟨A3, c3, rfl, hR3⟩ := (sl_own ho3)
  have hl3 : (l ++ packN (kindN b) ++ packN li).length ≤ 900000018 := by simp; omega
  generalize hm3 : (l ++ packN (kindN b) ++ packN li).length = m3 at *
  clear hm3
  go_wp2_with fail
  refine (Number_calls A3 m3 c3 _ se h2 w3 _ hR3 (Nat.le_refl _) (by omega)).mono ?_
  rintro e w4 ⟨v4, rfl, ho4, k4⟩
  have hs := bsl_own ho4
  have e9 : l ++ packN (kindN b) ++ packN li ++ packN se = l ++ encId (b, li, se) := by simp [encId]
  rw [e9] at hs
  have HS := Lib.hid hs
  have kk := k1.tr (k2.tr k4)
  clear hs ho4 ho3 ho2 e9 qx
  go_wp2
  go_ret
  exact ⟨_, rfl, HS.out, kk⟩
set_option maxHeartbeats 1000000 in
theorem LayVote_calls (l : List UInt8) (v : Value) (x : Vot) (w : World) (h : sl l v w) (hl : l.length ≤ 800000000) (hf : fitI x.id) :
    Calls Try.prog 34 #[v, .agg (voA x)] w fun e w' => ∃ v', e = .returned v' ∧ bsl (l ++ encVo x) v' w' ∧ K w w' := by
  have hx := Blk.new w 71 (voA x)
  have k1 : K w (w.alloc (.cells (voA x) 71)) := (K.rf w).al _
  have h1 := sl_st _ _ _ _ h k1
  have C1 := Lib.hid (LayID_calls l v x.id _ h1 (by omega) hf)
  have hlen := encId_len hf
  obtain ⟨A, c, rfl, -⟩ := h
  obtain ⟨a, y⟩ := x
  have hlen : (encId a).length ≤ 30000 := hlen
  clear h1
  go_enter Try.func34, Try.ntmps34
  go_upto_region 1 with (fail)
  generalize w.alloc _ = w1 at *
  generalize w.heap.size = g at hx ⊢
  have qx := hx.cells
  have kk := K.rf w1
  cases y
  · go_wp2_with fail
    refine C1.out.mono ?_
    rintro e w2 ⟨v2, rfl, hs, k2⟩
    have C2 := Number_sl 0 (bsl_sl hs) (by omega) (by simp only [List.length_append]; omega)
    rw [show ((0 : Nat) : Int) = 0 from rfl] at C2
    replace C2 := Lib.hid C2
    obtain ⟨A2, c2, rfl, -⟩ := hs
    generalize hm2 : (l ++ encId a).length = m2 at *
    clear hm2
    go_wp2_with fail
    refine C2.out.mono ?_
    rintro e w3 ⟨v3, rfl, ho, k3⟩
    have hs := bsl_own ho
    rw [show l ++ encId a ++ packN 0 = l ++ encVo ⟨a, false⟩ from by simp [encVo]] at hs
    have HS := Lib.hid hs
    clear hs ho qx
    go_wp2
    go_ret
    exact ⟨_, rfl, HS.out, k1.tr (k2.tr k3)⟩
  · go_wp2_with fail
    refine C1.out.mono ?_
    rintro e w2 ⟨v2, rfl, hs, k2⟩
    have C2 := Number_sl 1 (bsl_sl hs) (by omega) (by simp only [List.length_append]; omega)
    rw [show ((1 : Nat) : Int) = 1 from rfl] at C2
    replace C2 := Lib.hid C2
    obtain ⟨A2, c2, rfl, -⟩ := hs
    generalize hm2 : (l ++ encId a).length = m2 at *
    clear hm2
    go_wp2_with fail
    refine C2.out.mono ?_
    rintro e w3 ⟨v3, rfl, ho, k3⟩
    have hs := bsl_own ho
    rw [show l ++ encId a ++ packN 1 = l ++ encVo ⟨a, true⟩ from by simp [encVo]] at hs
    have HS := Lib.hid hs
    clear hs ho qx
    go_wp2
    go_ret
    exact ⟨_, rfl, HS.out, k1.tr (k2.tr k3)⟩
set_option maxHeartbeats 1000000 in
theorem LayEntry_calls (l : List UInt8) (v : Value) (x : Ent) (u : Value) (w : World) (h : sl l v w) (hx : ent x u w) (hl : l.length ≤ 800000000) (hf : fitEn x) :
    Calls Try.prog 36 #[v, u] w fun e w' => ∃ v', e = .returned v' ∧ bsl (l ++ encEb x) v' w' ∧ K w w' := by
  obtain ⟨vf, ve, rfl, hff, he⟩ := hx
  obtain ⟨Af, cf, rfl⟩ := flt_slice hff
  obtain ⟨Ae, ce, rfl⟩ := lst_slice he
  have k1 : K w (w.alloc (.cells (entA x (.slice Af x.f.length cf) (.slice Ae x.es.length ce)) 58)) := (K.rf w).al _
  have C1 := Lib.hid (NEncode_calls x _ _ ⟨_, _, rfl, flt_st _ _ _ _ hff k1, lst_st he k1⟩ hf)
  have h1 := Lib.hid fun W (kW : K w W) => sl_st _ _ _ _ h kW
  have hlen := encEnR_len hf
  obtain ⟨A, c, rfl, -⟩ := h
  clear hff he
  go_enter Try.func36, Try.ntmps36
  go_wp2_with fail
  generalize w.alloc _ = w1 at *
  refine C1.out.mono ?_
  rintro e w2 ⟨v2, rfl, ho, k2⟩
  have C2 := Lib.hid (Bytes_sl (h1.out w2 (k1.tr k2)) (sl_own ho) (by omega) (by omega))
  obtain ⟨A2, c2, rfl, -⟩ := sl_own ho
  clear ho
  go_wp2_with fail
  refine C2.out.mono ?_
  rintro e w3 ⟨v3, rfl, ho, k3⟩
  have HS := Lib.hid (show bsl (l ++ encEb x) v3 w3 from bsl_own ho)
  clear ho
  go_wp2
  go_ret
  exact ⟨_, rfl, HS.out, k1.tr (k2.tr k3)⟩

set_option maxHeartbeats 2000000 in
theorem LayVote_list (b : List UInt8) (l : List Vot) (v u : Value) (w : World) (hb : sl b v w) (h : lst voS l u w) (hbl : b.length ≤ 500000000) (hl16 : l.length ≤ 16) (hfit : ∀ s ∈ l, fitI s.id) :
    Calls Try.prog 33 #[v, u, .func (Fn.func 34) #[] #[]] w fun e w' => ∃ v', e = .returned v' ∧ bsl (b ++ layL encVo l) v' w' ∧ K w w' := by
  obtain ⟨A, c, rfl, hl, hc⟩ := h
  have HF := Lib.hid hfit
  clear hfit
  have C0 := Lib.hid (Number_sl l.length hb (by omega) (by omega))
  obtain ⟨Ab, cb, rfl, -⟩ := hb
  have hpl := packN_len l.length (by omega)
  have hu : IntKind.u64.wrap (l.length : Int) = (l.length : Int) := by show (l.length : Int) % 2 ^ 64 = _; omega
  go_enter Try.func33, Try.ntmps33
  go_wp2_with fail
  refine C0.out.mono ?_
  rintro e w1 ⟨v1, rfl, ho, kk⟩
  have HB0 := Lib.hid (bsl_own ho)
  clear ho C0
  go_wp2_with fail
  go_loopw [0, 8, 16] (fun o _ i wr => ∃ j : Nat, j ≤ l.length ∧ i = .int .i64 (j : Int) ∧ Hid (bsl (b ++ packN l.length ++ (l.take j).flatMap encVo) o wr) ∧ K w wr) (fun _ _ i _ => l.length - (intOf i).toNat)
  case atStart => exact ⟨0, by omega, rfl, by simpa using HB0, kk⟩
  case round =>
    clear kk
    obtain ⟨j, hj, rfl, HB, kr⟩ := hrel
    by_cases hlt : j < l.length
    · have hji : (j : Int) < (l.length : Int) := by omega
      obtain ⟨b1, off, cs, rfl, hcl, hrl, d0, d⟩ := lsr_cells hl j hlt (by decide)
      have HS : Hid (b ++ packN l.length ++ (l.take (j + 1)).flatMap encVo = b ++ packN l.length ++ (l.take j).flatMap encVo ++ encVo l[j]) := Lib.hid (by rw [List.take_succ_eq_append_getElem hlt, List.flatMap_append]; simp only [List.flatMap_cons, List.flatMap_nil, List.append_nil, List.append_assoc])
      have hfx := HF.out _ (List.getElem_mem hlt)
      have hbj : (b ++ packN l.length ++ (l.take j).flatMap encVo).length ≤ 600000000 := by
        have := flat_len encVo 30000 (l.take j) (fun x hx => by have hfx := HF.out x (List.mem_of_mem_take hx); exact encVo_len hfx)
        simp only [List.length_append, List.length_take] at this ⊢
        have : min j l.length ≤ 16 := by omega
        have h9 : 30000 * min j l.length ≤ 30000 * 16 := Nat.mul_le_mul_left _ this
        omega
      generalize l[j] = x at *
      obtain rfl := hrl w (K.rf w)
      have d0 : ∀ W, K wr W → W.cell? ⟨b1, off + j * 4, none⟩ = some (.int .i64 x.id.1) := fun W kW => d0 W (kr.tr kW)
      have d : ∀ W, K wr W → ∀ i, i < 4 → W.cell? ⟨b1, off + j * 4 + i, none⟩ = (voA x)[i]? := fun W kW i hi => (d W (kr.tr kW) i hi).trans Array.getElem?_toList
      have kk := K.rf wr
      have kw := K.rf wr
      have hx := Blk.new wr 71 (voA x)
      have kx : K wr (wr.alloc (.cells (voA x) 71)) := (K.rf wr).al _
      clear hcl hrl
      go_upto_region 5 with (fail)
      have kwx := kr.tr kx
      generalize wr.alloc _ = wx at *
      generalize wr.heap.size = gx at *
      have q := hx.cells
      have kk := K.rf wx
      clear d0 d hx
      go_wp2_with fail
      refine (LayVote_calls _ _ x wx (sl_st _ _ _ _ (bsl_sl HB.out) (kw.tr kx)) (by omega) hfx).mono ?_
      rintro e w4 ⟨v4, rfl, hs4, k4⟩
      rw [← HS.out] at hs4
      have HB4 := Lib.hid hs4
      have k14 := kwx.tr k4
      clear q hs4 HB HS
      go_wp2
      go_roundw
      case rel => exact ⟨j + 1, by omega, by go_num, HB4, k14⟩
      case measure => simp [intOf]; omega
    · have hji : ¬ (j : Int) < (l.length : Int) := by omega
      have hs := HB.out
      rw [List.take_of_length_le (by omega), List.append_assoc] at hs
      have HS := Lib.hid (show bsl (b ++ layL encVo l) u0 wr from hs)
      clear hs HB
      go_wp2
      go_ret
      exact ⟨_, rfl, HS.out, kr⟩

set_option maxHeartbeats 2000000 in
theorem LayEntry_list (b : List UInt8) (l : List Ent) (v u : Value) (w : World) (hb : sl b v w) (h : lst enS l u w) (hbl : b.length ≤ 500000000) (hl16 : l.length ≤ 16) (hfit : ∀ s ∈ l, fitEn s) :
    Calls Try.prog 35 #[v, u, .func (Fn.func 36) #[] #[]] w fun e w' => ∃ v', e = .returned v' ∧ bsl (b ++ layL encEb l) v' w' ∧ K w w' := by
  obtain ⟨A, c, rfl, hl, hc⟩ := h
  have HF := Lib.hid hfit
  clear hfit
  have C0 := Lib.hid (Number_sl l.length hb (by omega) (by omega))
  obtain ⟨Ab, cb, rfl, -⟩ := hb
  have hpl := packN_len l.length (by omega)
  have hu : IntKind.u64.wrap (l.length : Int) = (l.length : Int) := by show (l.length : Int) % 2 ^ 64 = _; omega
  go_enter Try.func35, Try.ntmps35
  go_wp2_with fail
  refine C0.out.mono ?_
  rintro e w1 ⟨v1, rfl, ho, kk⟩
  have HB0 := Lib.hid (bsl_own ho)
  clear ho C0
  go_wp2_with fail
  go_loopw [0, 8, 16] (fun o _ i wr => ∃ j : Nat, j ≤ l.length ∧ i = .int .i64 (j : Int) ∧ Hid (bsl (b ++ packN l.length ++ (l.take j).flatMap encEb) o wr) ∧ K w wr) (fun _ _ i _ => l.length - (intOf i).toNat)
  case atStart => exact ⟨0, by omega, rfl, by simpa using HB0, kk⟩
  case round =>
    clear kk
    obtain ⟨j, hj, rfl, HB, kr⟩ := hrel
    by_cases hlt : j < l.length
    · have hji : (j : Int) < (l.length : Int) := by omega
      obtain ⟨b1, off, cs, rfl, hcl, hrl, d0, d⟩ := lsr_cells hl j hlt (by decide)
      have HS : Hid (b ++ packN l.length ++ (l.take (j + 1)).flatMap encEb = b ++ packN l.length ++ (l.take j).flatMap encEb ++ encEb l[j]) := Lib.hid (by rw [List.take_succ_eq_append_getElem hlt, List.flatMap_append]; simp only [List.flatMap_cons, List.flatMap_nil, List.append_nil, List.append_assoc])
      have hfx := HF.out _ (List.getElem_mem hlt)
      have hbj : (b ++ packN l.length ++ (l.take j).flatMap encEb).length ≤ 600000000 := by
        have := flat_len encEb 30000 (l.take j) (fun x hx => by have hfx := HF.out x (List.mem_of_mem_take hx); exact encEb_len hfx)
        simp only [List.length_append, List.length_take] at this ⊢
        have : min j l.length ≤ 16 := by omega
        have h9 : 30000 * min j l.length ≤ 30000 * 16 := Nat.mul_le_mul_left _ this
        omega
      generalize l[j] = x at *
      obtain ⟨vf, ve, rfl, hf, he⟩ := hrl w (K.rf w)
      obtain ⟨Af, cf, rfl⟩ := flt_slice hf
      obtain ⟨Ae, ce, rfl⟩ := lst_slice he
      have d0 : ∀ W, K wr W → W.cell? ⟨b1, off + j * 8, none⟩ = some (.int .i64 x.kind) := fun W kW => d0 W (kr.tr kW)
      have d : ∀ W, K wr W → ∀ i, i < 8 → W.cell? ⟨b1, off + j * 8 + i, none⟩ = (entA x (.slice Af x.f.length cf) (.slice Ae x.es.length ce))[i]? := fun W kW i hi => (d W (kr.tr kW) i hi).trans Array.getElem?_toList
      have kk := K.rf wr
      have kw := K.rf wr
      have hx := Blk.new wr 58 (entA x (.slice Af x.f.length cf) (.slice Ae x.es.length ce))
      have kx : K wr (wr.alloc (.cells (entA x (.slice Af x.f.length cf) (.slice Ae x.es.length ce)) 58)) := (K.rf wr).al _
      clear hcl hrl
      go_upto_region 5 with (fail)
      have kwx := kr.tr kx
      generalize wr.alloc _ = wx at *
      generalize wr.heap.size = gx at *
      have q := hx.cells
      have kk := K.rf wx
      clear d0 d hx
      go_wp2_with fail
      refine (LayEntry_calls _ _ x _ wx (sl_st _ _ _ _ (bsl_sl HB.out) (kw.tr kx)) ⟨_, _, rfl, flt_st _ _ _ _ hf kwx, lst_st he kwx⟩ (by omega) hfx).mono ?_
      rintro e w4 ⟨v4, rfl, hs4, k4⟩
      rw [← HS.out] at hs4
      have HB4 := Lib.hid hs4
      have k14 := kwx.tr k4
      clear q hs4 HB HS
      go_wp2
      go_roundw
      case rel => exact ⟨j + 1, by omega, by go_num, HB4, k14⟩
      case measure => simp [intOf]; omega
    · have hji : ¬ (j : Int) < (l.length : Int) := by omega
      have hs := HB.out
      rw [List.take_of_length_le (by omega), List.append_assoc] at hs
      have HS := Lib.hid (show bsl (b ++ layL encEb l) u0 wr from hs)
      clear hs HB
      go_wp2
      go_ret
      exact ⟨_, rfl, HS.out, kr⟩

set_option maxHeartbeats 2000000 in
theorem LayID_list (b : List UInt8) (l : List Idn) (v u : Value) (w : World) (hb : sl b v w) (h : lst idS l u w) (hbl : b.length ≤ 500000000) (hl16 : l.length ≤ 16) (hfit : ∀ s ∈ l, fitI s) :
    Calls Try.prog 37 #[v, u, .func (Fn.func 38) #[] #[]] w fun e w' => ∃ v', e = .returned v' ∧ bsl (b ++ layL encId l) v' w' ∧ K w w' := by
  obtain ⟨A, c, rfl, hl, hc⟩ := h
  have HF := Lib.hid hfit
  clear hfit
  have C0 := Lib.hid (Number_sl l.length hb (by omega) (by omega))
  obtain ⟨Ab, cb, rfl, -⟩ := hb
  have hpl := packN_len l.length (by omega)
  have hu : IntKind.u64.wrap (l.length : Int) = (l.length : Int) := by show (l.length : Int) % 2 ^ 64 = _; omega
  go_enter Try.func37, Try.ntmps37
  go_wp2_with fail
  refine C0.out.mono ?_
  rintro e w1 ⟨v1, rfl, ho, kk⟩
  have HB0 := Lib.hid (bsl_own ho)
  clear ho C0
  go_wp2_with fail
  go_loopw [0, 8, 16] (fun o _ i wr => ∃ j : Nat, j ≤ l.length ∧ i = .int .i64 (j : Int) ∧ Hid (bsl (b ++ packN l.length ++ (l.take j).flatMap encId) o wr) ∧ K w wr) (fun _ _ i _ => l.length - (intOf i).toNat)
  case atStart => exact ⟨0, by omega, rfl, by simpa using HB0, kk⟩
  case round =>
    clear kk
    obtain ⟨j, hj, rfl, HB, kr⟩ := hrel
    by_cases hlt : j < l.length
    · have hji : (j : Int) < (l.length : Int) := by omega
      obtain ⟨b1, off, cs, rfl, hcl, hrl, d0, d⟩ := lsr_cells hl j hlt (by decide)
      have HS : Hid (b ++ packN l.length ++ (l.take (j + 1)).flatMap encId = b ++ packN l.length ++ (l.take j).flatMap encId ++ encId l[j]) := Lib.hid (by rw [List.take_succ_eq_append_getElem hlt, List.flatMap_append]; simp only [List.flatMap_cons, List.flatMap_nil, List.append_nil, List.append_assoc])
      have hfx := HF.out _ (List.getElem_mem hlt)
      have hbj : (b ++ packN l.length ++ (l.take j).flatMap encId).length ≤ 600000000 := by
        have := flat_len encId 30000 (l.take j) (fun x hx => by have hfx := HF.out x (List.mem_of_mem_take hx); exact encId_len hfx)
        simp only [List.length_append, List.length_take] at this ⊢
        have : min j l.length ≤ 16 := by omega
        have h9 : 30000 * min j l.length ≤ 30000 * 16 := Nat.mul_le_mul_left _ this
        omega
      generalize l[j] = x at *
      obtain rfl := hrl w (K.rf w)
      have d0 : ∀ W, K wr W → W.cell? ⟨b1, off + j * 3, none⟩ = some (.int .i64 x.1) := fun W kW => d0 W (kr.tr kW)
      have d : ∀ W, K wr W → ∀ i, i < 3 → W.cell? ⟨b1, off + j * 3 + i, none⟩ = (idA x)[i]? := fun W kW i hi => (d W (kr.tr kW) i hi).trans Array.getElem?_toList
      have kk := K.rf wr
      have kw := K.rf wr
      have hx := Blk.new wr 53 (idA x)
      have kx : K wr (wr.alloc (.cells (idA x) 53)) := (K.rf wr).al _
      clear hcl hrl
      go_upto_region 5 with (fail)
      have kwx := kr.tr kx
      generalize wr.alloc _ = wx at *
      generalize wr.heap.size = gx at *
      have q := hx.cells
      have kk := K.rf wx
      clear d0 d hx
      go_wp2_with fail
      refine (LayID_calls _ _ x wx (sl_st _ _ _ _ (bsl_sl HB.out) (kw.tr kx)) (by omega) hfx).mono ?_
      rintro e w4 ⟨v4, rfl, hs4, k4⟩
      rw [← HS.out] at hs4
      have HB4 := Lib.hid hs4
      have k14 := kwx.tr k4
      clear q hs4 HB HS
      go_wp2
      go_roundw
      case rel => exact ⟨j + 1, by omega, by go_num, HB4, k14⟩
      case measure => simp [intOf]; omega
    · have hji : ¬ (j : Int) < (l.length : Int) := by omega
      have hs := HB.out
      rw [List.take_of_length_le (by omega), List.append_assoc] at hs
      have HS := Lib.hid (show bsl (b ++ layL encId l) u0 wr from hs)
      clear hs HB
      go_wp2
      go_ret
      exact ⟨_, rfl, HS.out, kr⟩
end Go.Proofs.Ythnhdeieimgfhaa
