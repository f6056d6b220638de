/-
  The walks of the document's Same and SameRecord, and of the statements' Few, of entries (layer 11). Conditions: of Same: lists of at most a million.
-/
import Derived.Test.YtjcdgbnbaiebdaaEnOpen
import Derived.Test.YtjcdgbnbaiebdaaEnD
import Derived.Test.YtjcdgbnbaiebdaaEvSame
import Derived.Test.YtjcdgbnbaiebdaaFiSame
import Derived.Test.YtjcdgbnbaiebdaaEvFew
import Derived.Test.YtjcdgbnbaiebdaaFiFew
set_option maxRecDepth 100000
namespace Go.Proofs.Ytjcdgbnbaiebdaa
open Go Go.RowKit

/-- Lists of at most a million. -/
def smallEn (x : Ent) : Prop := x.f.length ≤ 1000000 ∧ x.es.length ≤ 1000000 ∧ ∀ e ∈ x.es, e.length ≤ 1000000
theorem sameEn_iff (x y : Ent) : decide (x = y) = (decide (x.f = y.f) && decide (x.es = y.es) && (decide (x.kind = y.kind) && (decide (x.br = y.br) && decide (x.life = y.life) && decide (x.ser = y.ser)) && decide (x.cl = y.cl) && decide (x.sub = y.sub))) := by
  obtain ⟨k, b, l, s, c, u, f, es⟩ := x
  obtain ⟨k', b', l', s', c', u', f', es'⟩ := y
  simp only [Ent.mk.injEq]
  rw [Bool.eq_iff_iff]
  simp only [decide_eq_true_eq, Bool.and_eq_true]
  constructor
  · rintro ⟨rfl, rfl, rfl, rfl, rfl, rfl, rfl, rfl⟩; simp
  · rintro ⟨⟨rfl, rfl⟩, ⟨⟨rfl, ⟨rfl, rfl⟩, rfl⟩, rfl⟩, rfl⟩; simp
set_option maxHeartbeats 4000000 in
theorem ESame_calls (x y : Ent) (v u : Value) (w : World) (h : ent x v w) (k : ent y u w) (hs : smallEn x) :
    Calls Try.prog 18 #[v, u] w fun e w' => e = .returned (.bool (decide (x = y))) ∧ K w w' := by
  obtain ⟨vf1, ve1, rfl, hf1, he1⟩ := h
  obtain ⟨vf2, ve2, rfl, hf2, he2⟩ := k
  obtain ⟨A1, c1, rfl⟩ := flt_slice hf1
  obtain ⟨A2, c2, rfl⟩ := flt_slice hf2
  obtain ⟨D1, d1, e1, he1, hd1⟩ := he1
  obtain rfl := e1
  obtain ⟨D2, d2, e2, he2, hd2⟩ := he2
  obtain rfl := e2
  obtain ⟨hs1, hs2, hs3⟩ := hs
  have HI := Lib.hid (sameEn_iff x y)
  have HS3 := Lib.hid hs3
  clear hs3
  have hx := (Blk.new w 34 (entA x (.slice A1 x.f.length c1) (.slice D1 x.es.length d1))).alloc (.cells (entA y (.slice A2 y.f.length c2) (.slice D2 y.es.length d2)) 34)
  have hy := Blk.new (w.alloc (.cells (entA x (.slice A1 x.f.length c1) (.slice D1 x.es.length d1)) 34)) 34 (entA y (.slice A2 y.f.length c2) (.slice D2 y.es.length d2))
  have k2 : K w ((w.alloc (.cells (entA x (.slice A1 x.f.length c1) (.slice D1 x.es.length d1)) 34)).alloc (.cells (entA y (.slice A2 y.f.length c2) (.slice D2 y.es.length d2)) 34)) := ((K.rf w).al _).al _
  have hz : (w.alloc (.cells (entA x (.slice A1 x.f.length c1) (.slice D1 x.es.length d1)) 34)).heap.size = w.heap.size + 1 := by simp
  rw [hz] at hy
  clear hz
  obtain ⟨kx, bx, lx, sx, cx, ux, fx, es1⟩ := x
  obtain ⟨ky, by_, ly, sy, cy, uy, fy, es2⟩ := y
  simp only at hf1 hf2 he1 he2 hs1 hs2 HI HS3 ⊢
  generalize decide (Ent.mk kx bx lx sx cx ux fx es1 = Ent.mk ky by_ ly sy cy uy fy es2) = R at *
  go_enter Try.func18, Try.ntmps18
  go_wp2_with fail
  generalize World.alloc (World.alloc w _) _ = w2 at *
  generalize hg2 : w.heap.size + 1 = g2 at hy ⊢
  generalize w.heap.size = g1 at hx hg2 ⊢
  clear hg2
  have qx := hx.cells
  have qy := hy.cells
  refine (FSame_flt (flt_st _ _ _ _ hf1 k2) (flt_st _ _ _ _ hf2 k2) hs1).mono ?_
  rintro e w3 ⟨rfl, k3⟩
  have k03 := k2.tr k3
  cases hfe : decide (fx = fy)
  · have HR : Hid (R = false) := Lib.hid (by rw [HI.out, hfe]; rfl)
    clear HI
    go_wp2
    go_ret
    exact ⟨by rw [HR.out]; rfl, k03⟩
  by_cases hle : es1.length = es2.length
  rotate_left
  · have HR : Hid (R = false) := Lib.hid (by rw [HI.out, show decide (es1 = es2) = false from by simp; exact fun e => hle (by rw [e])]; simp)
    have hle' : ((es1.length : Int) != (es2.length : Int)) = true := by simp; omega
    clear HI
    go_wp2
    go_ret
    exact ⟨by rw [HR.out]; rfl, k03⟩
  have hle' : ((es1.length : Int) != (es2.length : Int)) = false := by simp; omega
  have HLE := Lib.hid hle
  clear hle
  have he1 := lsr_st he1 k2
  have he2 := lsr_st he2 k2
  clear hf1 hf2
  go_wp2_with fail
  go_loopw [6, 7] (fun i _ wr => ∃ j : Nat, j ≤ es1.length ∧ i = .int .i64 (j : Int) ∧ Hid (es1.take j = es2.take j) ∧ K w2 wr) (fun i _ _ => es1.length - (intOf i).toNat)
  case atStart => exact ⟨0, by omega, rfl, Lib.hid (by simp), k3⟩
  case round =>
    obtain ⟨j, hj, rfl, HT, kr⟩ := hrel
    by_cases hlt : j < es1.length
    · have hji : (j : Int) < (es1.length : Int) := by omega
      have hlt2 : j < es2.length := by have := HLE.out; omega
      obtain ⟨b1, o1, cs1, rfl, hb1, hcl1, ⟨v1, rfl, hev1⟩, hc1⟩ := lsr_at he1 j hlt (by decide)
      obtain ⟨b2, o2, cs2, rfl, hb2, hcl2, ⟨v2, rfl, hev2⟩, hc2⟩ := lsr_at he2 j hlt2 (by decide)
      have p1 : ∀ W, K wr W → W.cell? ⟨b1, o1 + j, none⟩ = some v1 := by
        intro W kW
        have := hc1 0 (by decide)
        rw [(kr.tr kW).cell (by simpa using hb1)]
        simpa [evS] using this
      have p2 : ∀ W, K wr W → W.cell? ⟨b2, o2 + j, none⟩ = some v2 := by
        intro W kW
        have := hc2 0 (by decide)
        rw [(kr.tr kW).cell (by simpa using hb2)]
        simpa [evS] using this
      have rx := fun W (kW : K wr W) => qx W (kr.tr kW)
      have ry := fun W (kW : K wr W) => qy W (kr.tr kW)
      have kk := K.rf wr
      have hsz := HS3.out _ (List.getElem_mem hlt)
      have HB := Lib.hid (take_eq_succ' es1 es2 j hlt hlt2 HT.out)
      have hlt2i : (j : Int) < (es2.length : Int) := by omega
      clear hc1 hc2 hcl1 hcl2
      go_upto_region 7 with (fail)
      refine wp_region_K [isV (.pointer (some ⟨g1, 7, none⟩)),
          isV (.slice (some ⟨b1, o1, none⟩) es1.length d1),
          isV (.int .i64 ((j : Int))),
          isV (.pointer (some ⟨b1, o1 + j, none⟩)),
          isV (v1),
          isV (.pointer (some ⟨g2, 7, none⟩)),
          isV (.slice (some ⟨b2, o2, none⟩) es2.length d2),
          isV (.int .i64 ((j : Int))),
          isV (.pointer (some ⟨b2, o2 + j, none⟩)),
          isV (v2),
          isV (.bool (decide (es1[j] = es2[j]))),
          isV (.bool (decide (es1[j] = es2[j])))]
        [([], []), ([0], [(31, 0)]), ([], []), ([1, 2], [(32, 1), (33, 2)]), ([3], [(34, 3)]), ([], []), ([5], [(36, 5)]), ([], []), ([6, 7], [(37, 6), (38, 7)]), ([8], [(39, 8)]), ([4, 9], [(35, 4), (40, 9)]), ([10], [(41, 10)])] 70 rfl (by kernel_rfl) (by kernel_rfl) (by kernel_rfl) ?st7 ?ow7 ?_
      case st7 =>
        simp only [List.forall_mem_cons]
        and_intros
        all_goals first | exact isV_st _ | exact sl_st _ | exact anyV_st | simp
      case ow7 =>
        simp only [OwedQ]
        and_intros
        all_goals try trivial
        all_goals
          intro V W kW hp
          try simp only [List.forall_mem_cons, tab_zero, tab_succ, isV] at hp
          try simp [wantsG, rhoP, List.lookup, hp, tab_zero, tab_succ, ResG, execOp, bareOp, isV, Below.refl, kW, rx, ry, p1, p2, hji, hlt2i, go_sem]
        · refine (Same_evt (evt_st _ _ _ _ hev1 (kr.tr kW)) (evt_st _ _ _ _ hev2 (kr.tr kW)) hsz).mono ?_
          rintro e w'' ⟨rfl, hb⟩
          exact ⟨_, rfl, rfl, hb⟩
      intro V W kW hp
      have h11 := hp 11 (by simp)
      simp only [tab_zero, tab_succ, isV] at h11
      clear hp
      simp only [putAll, Act.put, List.setIfInBounds_toArray, List.set_cons_succ, List.set_cons_zero, h11]
      have krW := kr.tr kW
      clear rx ry p1 p2 hev1 hev2 kk
      generalize hq : decide (es1[j] = es2[j]) = q at *
      have HQ := Lib.hid hq
      clear hq
      cases q
      · have HR : Hid (R = false) := Lib.hid (by
          rw [HI.out, show decide (es1 = es2) = false from ?_]
          · simp
          · simp only [decide_eq_false_iff_not]
            rintro rfl
            have := HQ.out
            simp at this)
        go_wp2
        go_ret
        exact ⟨by rw [HR.out]; rfl, k2.tr krW⟩
      · have HT2 : Hid (es1.take (j + 1) = es2.take (j + 1)) := Lib.hid (HB.out.2 (of_decide_eq_true HQ.out))
        go_wp2
        go_roundw
        case rel => exact ⟨j + 1, by omega, by go_num, HT2, krW⟩
        case measure => simp [intOf]; omega
    · have hji : ¬ (j : Int) < (es1.length : Int) := by omega
      have HR : Hid (R = (decide (kx = ky) && (decide (bx = by_) && decide (lx = ly) && decide (sx = sy)) && decide (cx = cy) && decide (ux = uy))) := Lib.hid (by
        have h1 := HT.out
        have h2 := HLE.out
        rw [List.take_of_length_le (by omega), List.take_of_length_le (by omega)] at h1
        rw [HI.out, hfe, h1]; simp)
      have kW := k2.tr kr
      clear HI HT HLE HS3 he1 he2 hle'
      go_wp2
      all_goals
        go_ret
        refine ⟨?_, kW⟩
        rw [HR.out]
        show Ending.returned (.bool _) = Ending.returned (.bool _)
        clear qx qy
        first | (simp_all; done) | (simp_all; omega) | (congr 2; rw [Bool.eq_iff_iff]; simp_all; omega)
/-- Same, of entries of which one may have been written down. -/
theorem recDec_iff (x y : Rec) : decide (x = y) = (decide (x.e = y.e) && decide (x.kind = y.kind) && decide (x.n = y.n) && (decide (x.br = y.br) && decide (x.life = y.life) && decide (x.ser = y.ser))) := by
  obtain ⟨k, n, e, b, l, s⟩ := x
  obtain ⟨k', n', e', b', l', s'⟩ := y
  simp only [Rec.mk.injEq]
  rw [Bool.eq_iff_iff]
  simp only [decide_eq_true_eq, Bool.and_eq_true]
  constructor
  · rintro ⟨rfl, rfl, rfl, rfl, rfl, rfl⟩; simp
  · rintro ⟨⟨⟨rfl, rfl⟩, rfl⟩, ⟨rfl, rfl⟩, rfl⟩; simp
set_option maxHeartbeats 2000000 in
theorem RSame_calls (x y : Rec) (v u : Value) (w : World) (h : rcd x v w) (k : rcd y u w) (hs : smallEn x.e) :
    Calls Try.prog 31 #[v, u] w fun e w' => e = .returned (.bool (decide (x = y))) ∧ K w w' := by
  obtain ⟨vf1, ve1, rfl, hf1, he1⟩ := h
  obtain ⟨vf2, ve2, rfl, hf2, he2⟩ := k
  have HI := Lib.hid (recDec_iff x y)
  have e1 : ∀ W, K w W → ent x.e (.agg (entA x.e vf1 ve1)) W := fun W k => ⟨_, _, rfl, flt_st _ _ _ _ hf1 k, lst_st he1 k⟩
  have e2 : ∀ W, K w W → ent y.e (.agg (entA y.e vf2 ve2)) W := fun W k => ⟨_, _, rfl, flt_st _ _ _ _ hf2 k, lst_st he2 k⟩
  have hx := (Blk.new w 61 (recA x vf1 ve1)).alloc (.cells (recA y vf2 ve2) 61)
  have hy := Blk.new (w.alloc (.cells (recA x vf1 ve1) 61)) 61 (recA y vf2 ve2)
  have k2 : K w ((w.alloc (.cells (recA x vf1 ve1) 61)).alloc (.cells (recA y vf2 ve2) 61)) := ((K.rf w).al _).al _
  have hz : (w.alloc (.cells (recA x vf1 ve1) 61)).heap.size = w.heap.size + 1 := by simp
  rw [hz] at hy
  clear hz hf1 hf2 he1 he2
  obtain ⟨kx, nx, ex, bx, lx, sx⟩ := x
  obtain ⟨ky, ny, ey, by_, ly, sy⟩ := y
  simp only at e1 e2 hs HI ⊢
  generalize decide (Rec.mk kx nx ex bx lx sx = Rec.mk ky ny ey by_ ly sy) = R at *
  go_enter Try.func31, Try.ntmps31
  go_wp2_with fail
  generalize World.alloc (World.alloc w _) _ = w2 at *
  generalize hg2 : w.heap.size + 1 = g2 at hy ⊢
  generalize w.heap.size = g1 at hx hg2 ⊢
  clear hg2
  have qx := hx.cells
  have qy := hy.cells
  refine (ESame_calls ex ey _ _ w2 (e1 _ k2) (e2 _ k2) hs).mono ?_
  rintro e w3 ⟨rfl, k3⟩
  have k03 := k2.tr k3
  clear e1 e2
  generalize decide (ex = ey) = q at *
  go_wp2
  all_goals
    go_ret
    refine ⟨?_, k03⟩
    rw [HI.out]
    show Ending.returned (.bool _) = Ending.returned (.bool _)
    clear qx qy
    first | (simp_all; done) | (simp_all; omega) | (congr 2; rw [Bool.eq_iff_iff]; simp_all; omega)

/-- Few. -/
def fewEn (x : Ent) : Bool := decide (x.es.length ≤ 10) && x.es.all fewE && fewF x.f
theorem fewEn_small {x : Ent} (h : fewEn x = true) : smallEn x := by
  simp only [fewEn, Bool.and_eq_true, decide_eq_true_eq, List.all_eq_true] at h
  exact ⟨(fewF_fit h.2).1, by omega, fun e he => (few_fit (h.1.2 e he)).1⟩
set_option maxHeartbeats 2000000 in
theorem EFew_calls (x : Ent) (v : Value) (w : World) (h : ent x v w) :
    Calls Try.prog 27 #[v] w fun e w' => e = .returned (.bool (fewEn x)) ∧ K w w' := by
  obtain ⟨vf, ve, rfl, hf, he⟩ := h
  obtain ⟨A, c, rfl⟩ := flt_slice hf
  obtain ⟨D, d, e0, he, hd⟩ := he
  obtain rfl := e0
  obtain ⟨k, b, l, s, cl, u, f, es⟩ := x
  simp only at hf he hd ⊢
  have hx := Blk.new w 34 (entA ⟨k, b, l, s, cl, u, f, es⟩ (.slice A f.length c) (.slice D es.length d))
  have k1 : K w (w.alloc (.cells (entA ⟨k, b, l, s, cl, u, f, es⟩ (.slice A f.length c) (.slice D es.length d)) 34)) := (K.rf w).al _
  have HI : Hid (fewEn ⟨k, b, l, s, cl, u, f, es⟩ = (decide (es.length ≤ 10) && es.all fewE && fewF f)) := Lib.hid rfl
  generalize fewEn ⟨k, b, l, s, cl, u, f, es⟩ = R at *
  by_cases h10 : es.length ≤ 10
  rotate_left
  · have h10' : (10 : Int) < (es.length : Int) := by omega
    have HR : Hid (R = false) := Lib.hid (by rw [HI.out]; simp [h10])
    clear HI
    go_enter Try.func27, Try.ntmps27
    go_wp2
    go_ret
    exact ⟨by rw [HR.out]; rfl, k1⟩
  have h10' : ¬ (10 : Int) < (es.length : Int) := by omega
  go_enter Try.func27, Try.ntmps27
  go_upto_region 3 with (fail)
  generalize w.alloc _ = w1 at *
  generalize w.heap.size = g at hx ⊢
  have qx := hx.cells
  have kk := K.rf w1
  have hf1 := flt_st _ _ _ _ hf k1
  have he1 := lsr_st he k1
  clear hf he
  go_wp2_with fail
  go_loopw [3, 4] (fun i _ wr => ∃ j : Nat, j ≤ es.length ∧ i = .int .i64 (j : Int) ∧ Hid ((es.take j).all fewE = true) ∧ K w1 wr) (fun i _ _ => es.length - (intOf i).toNat)
  case atStart => exact ⟨0, by omega, rfl, Lib.hid (by simp), kk⟩
  case round =>
    clear kk
    obtain ⟨j, hj, rfl, HT, kr⟩ := hrel
    by_cases hlt : j < es.length
    · have hji : (j : Int) < (es.length : Int) := by omega
      obtain ⟨b1, off, cs, rfl, hb1, hcl, ⟨ve, rfl, hev⟩, hcell⟩ := lsr_at he1 j hlt (by decide)
      have d0 : wr.cell? ⟨b1, off + j, none⟩ = some ve := by
        have := hcell 0 (by decide)
        rw [kr.cell (by simpa using hb1)]
        simpa [evS] using this
      have HS := Lib.hid (all_take_succ fewE es j hlt)
      have hevr := evt_st _ _ _ _ hev kr
      generalize es[j] = ej at *
      clear hcell hev
      go_wp2_with fail
      refine (Few_evt hevr).mono ?_
      rintro e w' ⟨rfl, rfl⟩
      cases hq : fewE ej
      · have HR : Hid (R = false) := Lib.hid (by
          have : (es.take (j + 1)).all fewE = false := by rw [HS.out, hq]; simp
          have := all_take_bad fewE es (j + 1) this
          rw [HI.out, this]; simp)
        go_wp2
        go_ret
        exact ⟨by rw [HR.out]; rfl, k1.tr kr⟩
      · have HT2 : Hid ((es.take (j + 1)).all fewE = true) := Lib.hid (by rw [HS.out, hq, HT.out]; rfl)
        go_wp2
        go_roundw
        case rel => exact ⟨j + 1, by omega, by go_num, HT2, kr⟩
        case measure => simp [intOf]; omega
    · have hji : ¬ (j : Int) < (es.length : Int) := by omega
      have HR : Hid (R = fewF f) := Lib.hid (by
        have h1 := HT.out
        rw [List.take_of_length_le (by omega)] at h1
        rw [HI.out, h1]; simp [h10])
      go_wp2_with fail
      refine (FFew_flt (flt_st _ _ _ _ hf1 kr)).mono ?_
      rintro e w' ⟨rfl, rfl⟩
      go_wp2
      go_ret
      exact ⟨by rw [HR.out]; rfl, k1.tr kr⟩
end Go.Proofs.Ytjcdgbnbaiebdaa
