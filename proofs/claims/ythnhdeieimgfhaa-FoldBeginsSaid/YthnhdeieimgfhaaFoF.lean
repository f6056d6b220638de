/-
  The walk of slices.DeleteFunc on entries of the call's own (layer 16). Conditions: lists of at most a million.
-/
import Derived.Test.YthnhdeieimgfhaaFoE
set_option maxRecDepth 100000
namespace Go.Proofs.Ythnhdeieimgfhaa
open Go Go.RowKit

theorem list8 {α : Type} (l : List α) (h : l.length = 8) : ∃ c0 c1 c2 c3 c4 c5 c6 c7, l = [c0, c1, c2, c3, c4, c5, c6, c7] := by
  match l, h with
  | [c0, c1, c2, c3, c4, c5, c6, c7], _ => exact ⟨_, _, _, _, _, _, _, _, rfl⟩
/-- What the loop of DeleteFunc has at a place: the row's cells, and how many are kept. -/
structure DelAt (l : List Ent) (css : List (List Value)) (a : Idn) (j i : Nat) (cur : List (List Value)) : Prop where
  len : cur.length = l.length
  lens : ∀ cs ∈ cur, cs.length = 8
  pre : cur.take i = (keepZ a ((l.zip css).take j)).map (·.2)
  post : cur.drop j = css.drop j
  lt : i < j
theorem DelAt.cut {l : List Ent} {css cur : List (List Value)} {a : Idn} {j i : Nat} (hcl : css.length = l.length) (h : DelAt l css a j i cur) (hj : j < l.length) (hx : isIdE a l[j] = true) : DelAt l css a (j + 1) i cur := by
  refine ⟨h.len, h.lens, ?_, ?_, by have := h.lt; omega⟩
  · rw [h.pre, List.take_succ_eq_append_getElem (by rw [List.length_zip]; omega)]
    simp [keepZ, hx]
  · have := congrArg (List.drop 1) h.post
    simpa [List.drop_drop] using this
theorem DelAt.at {l : List Ent} {css cur : List (List Value)} {a : Idn} {j i : Nat} (_ : css.length = l.length) (h : DelAt l css a j i cur) (_ : j < l.length) (h1 : j < cur.length) (h2 : j < css.length) : cur[j] = css[j] := by
  have := congrArg (fun x => x[0]?) h.post
  simp only [List.getElem?_drop, Nat.add_zero, List.getElem?_eq_getElem h1, List.getElem?_eq_getElem h2] at this
  injection this
theorem DelAt.keep {l : List Ent} {css cur : List (List Value)} {a : Idn} {j i : Nat} (hcl : css.length = l.length) (h : DelAt l css a j i cur) (hj : j < l.length) (hx : isIdE a l[j] = false) (c8 : (css[j]'(by omega)).length = 8) : DelAt l css a (j + 1) (i + 1) (cur.set i (css[j]'(by omega))) := by
  have hl := h.len
  have hij := h.lt
  refine ⟨by simp [hl], fun cs hcs => ?_, ?_, ?_, by omega⟩
  · rcases List.mem_or_eq_of_mem_set hcs with h1 | rfl
    · exact h.lens _ h1
    · exact c8
  · rw [List.take_succ_eq_append_getElem (by simp; omega), List.take_set_of_le (Nat.le_refl _), h.pre, List.take_succ_eq_append_getElem (by rw [List.length_zip]; omega)]
    simp [keepZ, hx]
  · rw [List.drop_set_of_lt (by omega)]
    have := congrArg (List.drop 1) h.post
    simpa [List.drop_drop] using this

set_option maxHeartbeats 4000000 in
theorem EDeleteFunc_calls (l : List Ent) (a : Idn) (g0 base : Nat) (v : Value) (css : List (List Value)) (w : World) (hown : w.ownsRow base 58 8 v l.length css.flatten) (hcl : css.length = l.length)
    (hE : ∀ W, UpN (fun k => v.ownBlock = some k) w W → Each enS l css W) (hg : Blk w g0 53 #[.int .i64 a.1, .int .u64 (a.2.1 : Int), .int .u64 (a.2.2 : Int)]) (hlen : l.length ≤ 1000000) :
    Calls Try.prog 131 #[v, .func (Fn.func 132) #[] #[.pointer (some ⟨g0, 0, none⟩)]] w fun e w' => ∃ v' css', e = .returned v' ∧ w'.ownsRow base 58 8 v' (dropE l a).length css'.flatten ∧ css'.length = (dropE l a).length ∧ v'.ownBlock = v.ownBlock ∧ w.grownBy w' v.ownBlock ∧ ∀ W, Each enS l css W → Each enS (dropE l a) css' W := by
  have hE0 := hE w (UpN.rf _ _)
  have hlst := lst_of_own (S := enS) hown hE0
  obtain ⟨A, c, rfl, hl, hc⟩ := hlst
  have C1 := Lib.hid (EIndexFunc_calls A c l a g0 w hl hlen hg)
  have HN : Hid ((∀ x ∈ l, isIdE a x = false) → dropE l a = l) := Lib.hid fun h => by
    unfold dropE
    rw [List.filter_eq_self]
    intro x hx
    have := h x hx
    simpa [isIdE] using this
  have HO := Lib.hid hown
  have HC := Lib.hid hE
  have c8 := Lib.hid hE0.lens
  clear hown hE hE0 hl
  go_enter Try.func131, Try.ntmps131
  go_wp2_with fail
  refine C1.out.mono ?_
  rintro e w2 ⟨i0, rfl, k2, hi⟩
  rcases hi with ⟨rfl, hall⟩ | ⟨k, hk, rfl, hall, hit⟩
  · have HD := Lib.hid (HN.out hall)
    clear hall
    go_wp2
    go_ret
    refine ⟨_, css, rfl, by rw [HD.out]; exact row_below HO.out k2, by rw [HD.out]; exact hcl, rfl, mut_of_below k2 _, fun W h => by rw [HD.out]; exact h⟩
  have HD0 : Hid (DelAt l css a (k + 1) k css) := Lib.hid (by
    refine ⟨hcl, c8.out, ?_, rfl, by omega⟩
    rw [List.take_succ_eq_append_getElem (by rw [List.length_zip]; omega)]
    have h1 : isIdE a l[k] = true := hit _ (List.getElem?_eq_getElem hk)
    have h2 : keepZ a ((l.zip css).take k) = (l.zip css).take k := by
      unfold keepZ
      rw [List.filter_eq_self]
      intro p hp
      have this : p.1 ∈ ((l.zip css).take k).map (·.1) := List.mem_map_of_mem hp
      rw [List.map_take, zip_fst l css hcl] at this
      simp [hall p.1 this]
    unfold keepZ at h2 ⊢
    rw [List.filter_append, h2]
    simp [h1]
    rw [zip_snd l css hcl])
  clear hall hit HN
  rcases HO.out.2 with ⟨h0, h00⟩ | ⟨g, cap, cur, e0, g1, g2, g3, g4, g5, g6⟩
  · omega
  obtain ⟨rfl, e3⟩ : A = some ⟨g, 0, none⟩ ∧ cap = c := by injection e0 with e1 _ e3; exact ⟨e1, e3.symm⟩
  subst e3
  have hg0 : w.grownBy w2 (some g) := mut_of_below k2 _
  have hr2 := Lib.hid (row_below HO.out k2)
  have hgg : g0 ≠ g := by
    rintro rfl
    exact absurd ((show Blk w g0 _ cur from g2).unlike hg) (by decide)
  have HG := Lib.hid hg
  have hcm : cap ≤ 9223372036854775807 := g4
  have hkl : (k : Int) + 1 ≤ (l.length : Int) := by omega
  clear HO k2 g5 g6 g2 hg g4 C1
  go_wp2_with fail
  go_loopw [5, 6, 7] (fun i j _ W => ∃ (j' i' : Nat) (cu : List (List Value)), j = .int .i64 (j' : Int) ∧ i = .int .i64 (i' : Int) ∧ j' ≤ l.length ∧ i' < j' ∧ Hid (DelAt l css a j' i' cu) ∧ Hid (W.ownsRow base 58 8 (.slice (some ⟨g, 0, none⟩) l.length cap) l.length cu.flatten) ∧ w.grownBy W (some g)) (fun _ j _ _ => l.length - (intOf j).toNat)
  case atStart => exact ⟨k + 1, k, css, by go_num, rfl, by omega, by omega, HD0, hr2, hg0⟩
  case round =>
    clear HD0 hr2 hg0
    obtain ⟨j, i, cu, rfl, rfl, hj, hij, HD, HR, kr⟩ := hrel
    by_cases hlt : j < l.length
    · have hji : (j : Int) < (l.length : Int) := by omega
      have hii : (i : Int) < (l.length : Int) := by omega
      have hrel := (HC.out wr (UpN.of_mut kr (fun _ h => h))).2 j hlt (by omega)
      have c8j := c8.out _ (List.getElem_mem (show j < css.length by omega))
      have hD := HD.out
      have HK := Lib.hid (hD.keep hcl hlt)
      have HX := Lib.hid (hD.cut hcl hlt)
      have hat := hD.at hcl hlt (by rw [hD.len]; exact hlt) (by omega)
      obtain ⟨hcell, hfz⟩ := own_cells HR.out
      have hfl : cu.flatten.length = l.length * 8 := HR.out.1
      have hclu := hD.len
      have hlensu := hD.lens
      generalize hx : l[j] = x at *
      obtain ⟨vf, ve, hcs, hf, he⟩ := hrel
      have d : ∀ i, i < 8 → wr.cell? ⟨g, j * 8 + i, none⟩ = (entA x vf ve)[i]? := fun i hi => by
        rw [hcell _ (by omega), flatten_at 8 cu hlensu j i (by omega) hi, List.getElem?_eq_getElem (show j < cu.length by omega), Option.getD_some, hat, hcs]
        exact Array.getElem?_toList
      have d0 : wr.cell? ⟨g, j * 8, none⟩ = some (.int .i64 x.kind) := d 0 (by omega)
      have hEv : Hid (∀ W, K wr W → ent x (.agg (entA x vf ve)) W) := Lib.hid fun W k => ⟨_, _, rfl, flt_st _ _ _ _ hf k, lst_st he k⟩
      have hgr := HG.out.grown kr (fun e => hgg (by injection e))
      obtain ⟨Af, cf, rfl⟩ := flt_slice hf
      obtain ⟨Ae, ce, rfl⟩ := lst_slice he
      have k5 : K wr (wr.alloc (.cells (entA x (.slice Af x.f.length cf) (.slice Ae x.es.length ce)) 58)) := (K.rf wr).al _
      have hx5 := Blk.new wr 58 (entA x (.slice Af x.f.length cf) (.slice Ae x.es.length ce))
      clear hcell hf he hat hD
      go_upto_region 8 with (fail)
      have HG5 := hgr.below k5 hgr.lt
      have kr5 := mut_trans kr (mut_of_below k5 (some g))
      have hr5 := row_below HR.out k5
      have hE5 := hEv.out _ k5
      have hgz : g < wr.heap.size := (HR.out.lt g rfl).2
      clear d d0
      generalize wr.alloc _ = w5 at *
      generalize wr.heap.size = g5 at *
      have q5 := hx5.cell
      go_wp2_with fail
      refine (ForgetC_calls x a _ g0 w5 hE5 HG5).mono ?_
      rintro e w6 ⟨rfl, k6⟩
      have hr6 := row_below hr5 k6
      have kr6 := mut_trans kr5 (mut_of_below k6 (some g))
      have q6 := (hx5.below k6 hx5.lt).cell
      clear q5 hr5
      cases hq : isIdE a x
      · have HK2 := HK.out hq c8j
        have hown9 := own_sets (entA x (.slice Af x.f.length cf) (.slice Ae x.es.length ce)).toList _ (i * 8) w6 hr6 (by rw [hfl]; show i * 8 + 8 ≤ _; omega)
        have e9 := flatten_sets 8 (entA x (.slice Af x.f.length cf) (.slice Ae x.es.length ce)).toList cu hlensu i 0 (by omega) (by exact Nat.le_refl 8)
        rw [Nat.add_zero] at e9
        rw [e9, setsL_eq _ _ _ (by rw [hlensu _ (List.getElem_mem _)]; exact Nat.le_refl 8)] at hown9
        have e10 : (cu[i]'(by omega)).take 0 ++ (entA x (.slice Af x.f.length cf) (.slice Ae x.es.length ce)).toList ++ (cu[i]'(by omega)).drop (0 + (entA x (.slice Af x.f.length cf) (.slice Ae x.es.length ce)).toList.length) = css[j]'(by omega) := by
          rw [hcs, List.take_zero, List.nil_append, List.drop_of_length_le (by rw [hlensu _ (List.getElem_mem _)]; exact Nat.le_refl 8), List.append_nil]
        rw [e10] at hown9
        have uG : UpN (fun k => k = g) w6 (setsW w6 g (i * 8) (entA x (.slice Af x.f.length cf) (.slice Ae x.es.length ce)).toList) := UpN.sets (X := fun k => k = g) (g := g) rfl _ _ _
        have kr9 : w.grownBy (setsW w6 g (i * 8) (entA x (.slice Af x.f.length cf) (.slice Ae x.es.length ce)).toList) (some g) := mut_trans kr6 ⟨uG.os, uG.tape, uG.output, uG.size, fun k hk hne => uG.block k hk (by rintro rfl; exact hne rfl)⟩
        obtain ⟨hcell, hfz⟩ := own_cells hr6
        obtain ⟨c0, c1, c2, c3, c4, c5, c6, c7, hci⟩ := list8 (cu[i]'(by omega)) (hlensu _ (List.getElem_mem _))
        have d6 : ∀ t, t < 8 → w6.cell? ⟨g, i * 8 + t, none⟩ = #[c0, c1, c2, c3, c4, c5, c6, c7][t]? := fun t ht => by
          rw [hcell _ (by omega), flatten_at 8 cu hlensu i t (by omega) ht, List.getElem?_eq_getElem (show i < cu.length by omega), Option.getD_some, hci]
          exact Array.getElem?_toList
        have d60 : w6.cell? ⟨g, i * 8, none⟩ = some c0 := d6 0 (by omega)
        have z6 := fun t => hfz (i * 8 + t)
        have z60 := hfz (i * 8)
        have HK3 := Lib.hid HK2
        have HR9 := Lib.hid hown9
        clear hown9 uG hcell hfz e9 e10 hci HK HX HK2 hcs hr6
        go_wp2
        go_roundw
        case rel =>
          (repeat apply Exists.intro)
          refine ⟨?_, rfl⟩
          exact ⟨j + 1, i + 1, _, by go_num, by go_num, by omega, by omega, HK3, HR9, kr9⟩
        case measure => simp [intOf]; omega
      · have HX3 := Lib.hid (HX.out hq)
        have HR9 := Lib.hid hr6
        clear HK HX hcs hr6
        go_wp2
        go_roundw
        case rel =>
          (repeat apply Exists.intro)
          refine ⟨?_, rfl⟩
          exact ⟨j + 1, i, _, by go_num, rfl, by omega, by omega, HX3, HR9, kr6⟩
        case measure => simp [intOf]; omega
    · have hji : ¬ (j : Int) < (l.length : Int) := by omega
      obtain rfl : j = l.length := by omega
      have hD := HD.out
      have hfl : cu.flatten.length = l.length * 8 := HR.out.1
      rcases HR.out.2 with ⟨h0, h00⟩ | ⟨g', cap', cur, e0, r1, r2, r3, r4, r5, r6⟩
      · cases h0
      injection e0 with e1 _ e3
      injection e1 with e1
      injection e1 with e1
      subst e1 e3
      have hcz : (Value.agg zEnt).cells.size = 8 := rfl
      obtain ⟨W2, cur2, hclr, hb2, hs2, ht2, hg2⟩ := run_clear_end (P := Try.prog) (w := wr) (t := 25) (e := 58) Try.underlying25 zeroEn g (i * 8) (l.length - i) r2 (by rw [hcz, show cur.size = cap * 8 from r5]; omega) (by omega) (by decide) (by decide)
      have kr9 := mut_trans kr hg2
      have hpre := hD.pre
      rw [List.take_of_length_le (l := l.zip css) (by rw [List.length_zip]; omega)] at hpre
      have hkl : (dropE l a).length = i := by
        rw [← keep_map hcl a, List.length_map, ← List.length_map (f := fun x : Ent × List Value => x.2), ← hpre, List.length_take, hD.len]; omega
      have HF : Hid (∃ css', W2.ownsRow base 58 8 (.slice (some ⟨g, 0, none⟩) i cap) i css'.flatten ∧ css'.length = i ∧ ∀ W, Each enS l css W → Each enS (dropE l a) css' W) := Lib.hid (by
        refine ⟨cu.take i, ?_, by rw [List.length_take, hD.len]; omega, fun W hW => ?_⟩
        · refine ⟨?_, .inr ⟨g, cap, cur2, rfl, r1, hb2, by omega, r4, by rw [hs2]; exact r5, ?_⟩⟩
          · rw [flatten_len 8 _ (fun cs h => hD.lens cs (List.mem_of_mem_take h)), List.length_take, hD.len]; rw [Nat.min_eq_left (by omega)]
          · rw [ht2]
            have e1 : cur.toList.take (l.length * 8) = cu.flatten := r6
            have e2 : (cu.take i).flatten = cu.flatten.take (i * 8) := flatten_take_n8 cu hD.lens i
            rw [e2, ← e1, List.take_take, Nat.min_eq_left (by omega)]
        · rw [hpre, ← keep_map hcl a]
          exact each_zip _ fun p hp => each_of_zip hW p (List.mem_filter.1 hp).1)
      have hil : i ≤ l.length := by omega
      have hii : (i : Int) ≤ (l.length : Int) := by omega
      have hic : i ≤ cap := by omega
      have hnc : ¬ cap = i := by omega
      have hicc : (i : Int) ≤ (cap : Int) := by omega
      clear hD hpre r5 r6 r2 HD HR hfl hb2 ht2 HC
      go_wp2
      go_ret
      obtain ⟨css', f1, f2, f3⟩ := HF.out
      exact ⟨_, rfl, css', f1, f2, rfl, kr9, f3⟩
end Go.Proofs.Ythnhdeieimgfhaa
