/-
  postilionlaw11.EntryApart: the walk. Conditions: none.
-/
import Derived.Test.YtjcdgbnbaiebdaaEntry2
import Derived.Test.YtjcdgbnbaiebdaaEnP
set_option maxRecDepth 100000
namespace Go.Proofs.Ytjcdgbnbaiebdaa
open Go Go.RowKit

/-- An entry of another ID and client. -/
def withId (x : Ent) (a : Idn) (c : Int) : Ent := { x with br := a.1, life := a.2.1, ser := a.2.2, cl := c }
theorem withId_fit {x : Ent} {a : Idn} {c : Int} (h : fitEn x) (ha : fitI a) (hc : i64ok c) : fitEn (withId x a c) := ⟨h.1, ha.1, hc, ha.2.1, ha.2.2, h.2.2.2.2.2⟩
theorem withId_eq (x : Ent) (a : Idn) (c : Int) : (withId x a c = x) ↔ (a.1 = x.br ∧ a.2.1 = x.life ∧ a.2.2 = x.ser) ∧ c = x.cl := by
  obtain ⟨k, b, l, s, cl, u, f, es⟩ := x
  simp only [withId, Ent.mk.injEq]
  constructor
  · rintro ⟨_, h1, h2, h3, h4, _⟩; exact ⟨⟨h1, h2, h3⟩, h4⟩
  · rintro ⟨⟨h1, h2, h3⟩, h4⟩; simp [h1, h2, h3, h4]
theorem encEnR_inj {x y : Ent} (hx : okEn x = true) (hy : okEn y = true) (fx : fitEn x) (fy : fitEn y) : decide ((⟨(encEnR x).toArray⟩ : ByteArray) = ⟨(encEnR y).toArray⟩) = decide (y = x) := by
  apply decide_eq_decide.2
  constructor
  · intro h
    have h2 : encEn x = encEn y := by simpa [encEnR, hx, hy] using h
    exact (encEn_inj hx hy fx fy h2).symm
  · rintro rfl; rfl
theorem okEn_take {x : Ent} (h : okEn x = true) (k : Nat) : okEn { x with es := x.es.take k } = true := by
  obtain ⟨hb, hc, hk⟩ := okEn_parts h
  obtain ⟨kd, b, l, s, cl, u, f, es⟩ := x
  simp only at hb hc hk
  rcases hk with ⟨rfl, rfl, rfl, h8, hall⟩ | ⟨rfl, rfl, rfl⟩ | ⟨rfl, rfl, hok⟩
  · have : (es.take k).all okE = true := by rw [List.all_eq_true]; exact fun e he => hall e (List.mem_of_mem_take he)
    simp [okEn, homeB, hb.1, hb.2, hc.1, hc.2, this]; omega
  · simp [okEn, homeB, hb.1, hb.2, hc.1, hc.2]
  · simp [okEn, homeB, hb.1, hb.2, hc.1, hc.2, hok]
theorem flatten_take {α : Type} (n : Nat) : ∀ (css : List (List α)), (∀ cs ∈ css, cs.length = n) → ∀ k, (css.take k).flatten = css.flatten.take (k * n)
  | [], _, k => by simp
  | c :: css, h, 0 => by simp
  | c :: css, h, k + 1 => by
    have hc := h c (by simp)
    rw [List.take_succ_cons, List.flatten_cons, List.flatten_cons, flatten_take n css (fun x hx => h x (by simp [hx])) k, Nat.succ_mul, List.take_append, List.take_of_length_le (show c.length ≤ k * n + n by omega), show k * n + n - c.length = k * n by omega]
theorem lst_take {α : Type} {S : Shp α} {l : List α} {A : Option Addr} {c : Nat} {w : World} (h : lst S l (.slice A l.length c) w) (k : Nat) (hk : k ≤ l.length) : lst S (l.take k) (.slice A k c) w := by
  obtain ⟨A', c', e, ⟨css, hE, hR⟩, hc⟩ := h
  injection e with e1 e2 e3
  subst e1 e3
  refine ⟨A, c, by rw [List.length_take_of_le hk], ⟨css.take k, hE.take k, ?_⟩, by simp; omega⟩
  rw [List.length_take_of_le hk, flatten_take S.size css hE.lens k]
  have hfl := hE.flen
  have hkm : k * S.size ≤ l.length * S.size := Nat.mul_le_mul_right _ hk
  refine ⟨by simp only [List.length_take]; omega, fun h0 => ?_⟩
  simp only [List.length_take] at h0
  obtain ⟨b, off, e, hb, hcell⟩ := hR.2 (by omega)
  refine ⟨b, off, e, hb, fun j u hu => hcell j u ?_⟩
  have hj : j < k * S.size := by
    have := (List.getElem?_eq_some_iff.1 hu).1
    simp only [List.length_take] at this; omega
  rwa [List.getElem?_take_of_lt hj] at hu

set_option maxHeartbeats 4000000 in
theorem EntryApart_walk (v0 v1 v2 v3 : Value) (w : World) (r0 : repEntry w v0) (r1 : repID w v1) (r2 : repI64 w v2) (r3 : repI64 w v3) :
    Calls Try.prog 12 #[v0, v1, v2, v3] w fun e w' => e = .returned (.bool true) ∧ Below w.heap.size w w' := by
  obtain ⟨x, hx0, fx⟩ := r0
  obtain ⟨a, rfl, fa⟩ := r1
  obtain ⟨cl', rfl, hc0, hc1⟩ := r2
  obtain ⟨n, rfl, hn0, hn1⟩ := r3
  obtain ⟨vf, ve, rfl, hf, he⟩ := hx0
  obtain ⟨A, c, rfl⟩ := flt_slice hf
  obtain ⟨D, d, rfl⟩ := lst_slice he
  have CX : Hid (∀ W, K w W → ent x (.agg (entA x (.slice A x.f.length c) (.slice D x.es.length d))) W) := Lib.hid fun W k => ⟨_, _, rfl, flt_st _ _ _ _ hf k, lst_st he k⟩
  have CY : Hid (∀ W, K w W → ent (withId x a cl') (.agg (entA (withId x a cl') (.slice A x.f.length c) (.slice D x.es.length d))) W) := Lib.hid fun W k => ⟨_, _, rfl, flt_st _ _ _ _ hf k, lst_st he k⟩
  have HT : Hid (∀ k, k ≤ x.es.length → ∀ W, K w W → lst evS (x.es.take k) (.slice D k d) W) := Lib.hid fun k hk W kW => lst_st (lst_take he k hk) kW
  have HFl : Hid (∀ W, K w W → flt x.f (.slice A x.f.length c) W) := Lib.hid fun W k => flt_st _ _ _ _ hf k
  have hld : x.es.length ≤ d := by obtain ⟨_, _, e, _, h⟩ := he; injection e with _ _ e; omega
  clear hf he
  have FX := Lib.hid fx
  have FY := Lib.hid (withId_fit fx fa (show i64ok cl' from ⟨hc0, hc1⟩))
  clear fx fa
  have hx := (Blk.new w 34 (entA x (.slice A x.f.length c) (.slice D x.es.length d))).alloc (.cells #[.int .i64 a.1, .int .u64 (a.2.1 : Int), .int .u64 (a.2.2 : Int)] 26)
  have hy := Blk.new (w.alloc (.cells (entA x (.slice A x.f.length c) (.slice D x.es.length d)) 34)) 26 #[.int .i64 a.1, .int .u64 (a.2.1 : Int), .int .u64 (a.2.2 : Int)]
  have k2 : K w ((w.alloc (.cells (entA x (.slice A x.f.length c) (.slice D x.es.length d)) 34)).alloc (.cells #[.int .i64 a.1, .int .u64 (a.2.1 : Int), .int .u64 (a.2.2 : Int)] 26)) := ((K.rf w).al _).al _
  have hz : (w.alloc (.cells (entA x (.slice A x.f.length c) (.slice D x.es.length d)) 34)).heap.size = w.heap.size + 1 := by simp
  rw [hz] at hy
  clear hz
  go_enter Try.func12, Try.ntmps12
  go_wp2_with fail
  generalize World.alloc (World.alloc w _) _ = w2 at *
  generalize hg2 : w.heap.size + 1 = g2 at hy ⊢
  generalize w.heap.size = g1 at hx hg2 ⊢
  clear hg2
  have qx := hx.cells
  have qy := hy.cells
  refine (awakeE_calls w2).mono ?_
  rintro e w3 ⟨rfl, k3⟩
  have k03 := k2.tr k3
  go_wp2_with fail
  refine (EFew_calls x _ w3 (CX.out _ k03)).mono ?_
  rintro e w4 ⟨rfl, k4⟩
  replace k3 := k3.tr k4
  replace k03 := k03.tr k4
  cases hfx : fewEn x
  · go_wp2
    go_ret
    exact ⟨rfl, k03⟩
  go_wp2_with fail
  refine (NCheck_calls x _ w4 (CX.out _ k03)).mono ?_
  rintro e w5 ⟨rfl, k5⟩
  replace k3 := k3.tr k5
  replace k03 := k03.tr k5
  cases hok : okEn x
  · rw [chkEn_bad hok]
    go_wp2
    go_ret
    exact ⟨rfl, k03⟩
  rw [chkEn_good hok]
  have k3a := fun o => k3.al o
  go_upto_region 7 with (fail)
  have hw := Blk.new w5 34 #[.int .i64 x.kind, .int .i64 a.1, .int .u64 (a.2.1 : Int), .int .u64 (a.2.2 : Int), .int .i64 cl', .int .u64 (x.sub : Int), .slice A x.f.length c, .slice D x.es.length d]
  have k56 : K w5 (w5.alloc (.cells #[.int .i64 x.kind, .int .i64 a.1, .int .u64 (a.2.1 : Int), .int .u64 (a.2.2 : Int), .int .i64 cl', .int .u64 (x.sub : Int), .slice A x.f.length c, .slice D x.es.length d] 34)) := (K.rf w5).al _
  generalize w5.alloc _ = w6 at *
  generalize w5.heap.size = gy at hw ⊢
  have qw := hw.cells
  replace k3 := k3.tr k56
  replace k03 := k03.tr k56
  clear k3a k5 k4 k56
  go_wp2_with fail
  refine (NEncode_calls x _ w6 (CX.out _ k03) FX.out).mono ?_
  rintro e w7 ⟨v7, rfl, ho7, k7⟩
  have s7 := sl_al (sl_own ho7)
  rw [chkEn_good hok]
  clear ho7
  replace k3 := k3.tr k7
  replace k03 := k03.tr k7
  go_wp2_with fail
  refine (NEncode_calls (withId x a cl') _ w7 (CY.out _ k03) FY.out).mono ?_
  rintro e w8 ⟨v8, rfl, ho8, k8⟩
  have s8 := sl_al (sl_own ho8)
  have k68 := k7.tr k8
  replace k3 := k3.tr k8
  replace k03 := k03.tr k8
  have s78 := fun W (kW : K w8 W) => s7 W (k8.tr kW)
  clear ho8 s7 k7
  have HQ := Lib.hid (withId_eq x a cl')
  obtain ⟨q, hq⟩ : ∃ q, q = decide (withId x a cl' = x) := ⟨_, rfl⟩
  have HQ2 : Hid (q = (decide (a.1 = x.br) && decide (a.2.1 = x.life) && decide (a.2.2 = x.ser) && decide (cl' = x.cl))) := Lib.hid (by
    rw [hq, Bool.eq_iff_iff]
    simp only [decide_eq_true_eq, Bool.and_eq_true]
    rw [HQ.out]
    constructor
    · rintro ⟨⟨h1, h2, h3⟩, h4⟩; exact ⟨⟨⟨h1, h2⟩, h3⟩, h4⟩
    · rintro ⟨⟨⟨h1, h2⟩, h3⟩, h4⟩; exact ⟨⟨h1, h2, h3⟩, h4⟩)
  replace hq := Lib.hid hq
  have kk := K.rf w8
  go_upto_region 9 with (fail)
  go_cut [0, 1, 2, 15, 18, 22, 27, 28, 30, 33, 38] from 42 to 53 (fun _ _ _ v _ _ _ _ _ _ _ W => v = .bool q ∧ w8 = W)
  case first =>
    go_wp2
    all_goals
      go_meet
      case rel =>
        refine ⟨?_, rfl⟩
        rw [HQ2.out]
        clear qx qy qw s8 s78
        first | (simp_all; done) | (simp_all; omega) | (congr 1; rw [Bool.eq_iff_iff]; simp_all; omega)
  case rest =>
  obtain ⟨rfl, rfl⟩ := hcut
  clear HQ2 qy qw hy hw HQ
  go_upto_region 10 with (fail)
  go_cut [64] from 54 to 63 (fun v W => v = .bool false ∧ w8 = W)
  case first =>
    cases hoy : okEn (withId x a cl')
    · have hne : (chkEn (withId x a cl') == 0) = false := by rw [chkEn_bad hoy]; rfl
      clear s78 s8
      go_wp2
      go_meet
      case rel => exact ⟨rfl, rfl⟩
    · have hne : (chkEn (withId x a cl') == 0) = true := by rw [chkEn_good hoy]; rfl
      have t7 := str (s78 _ kk)
      have t8 := str (s8 _ kk)
      have hb := beq_text (encEnR x) (encEnR (withId x a cl'))
      have hb2 := beq_list (encEnR x) (encEnR (withId x a cl'))
      rw [encEnR_inj hok hoy FX.out FY.out, ← hq.out] at hb hb2
      clear s78 s8
      go_wp2
      go_meet
      case rel => exact ⟨by simp [hb2], rfl⟩
  case rest =>
  obtain ⟨rfl, rfl⟩ := hcut
  clear s78 s8
  go_upto_if 66 with (fail)
  go_cut [3] from 67 to 69 (fun v W => (∃ m : Nat, v = .int .i64 (m : Int) ∧ m < 9223372036854775808) ∧ w8 = W)
  case first =>
    by_cases hn : n < 0
    · go_wp2
      go_meet
      case rel => exact ⟨⟨(-(n + 1)).toNat, by go_num, by omega⟩, rfl⟩
    · go_wp2
      go_meet
      case rel => exact ⟨⟨n.toNat, by congr 1; omega, by omega⟩, rfl⟩
  case rest =>
  obtain ⟨⟨m, rfl, hm⟩, rfl⟩ := hcut
  go_upto_region 15 with (fail)
  have hz0 := Blk.new w8 34 (entA x (.slice A x.f.length c) (.slice D x.es.length d))
  have k89 : K w8 (w8.alloc (.cells (entA x (.slice A x.f.length c) (.slice D x.es.length d)) 34)) := (K.rf w8).al _
  generalize w8.alloc _ = w9 at *
  have hgz := hx.lt
  have hgz2 := k3.size
  have hgz3 := k03.size
  generalize hgz4 : w8.heap.size = gz at hz0 ⊢
  replace k3 := k3.tr k89
  replace k03 := k03.tr k89
  have hx9 := hx.below k3 hx.lt
  have hne : g1 ≠ gz := by omega
  have hwz : w.heap.size ≤ gz := by omega
  have hgz5 : gz < w9.heap.size := hz0.lt
  clear hgz4 hgz3 hgz2 hgz kk qx hx k89 k8 k68
  have hmod : m % (x.es.length + 1) ≤ x.es.length := by have := Nat.mod_lt m (show 0 < x.es.length + 1 by omega); omega
  have hmodi : ((m : Int).tmod ((x.es.length : Int) + 1)) = ((m % (x.es.length + 1) : Nat) : Int) := by
    rw [Int.tmod_eq_emod_of_nonneg (Int.natCast_nonneg m)]; simp
  have hlx : x.es.length ≤ 10 := by
    simp only [fewEn, Bool.and_eq_true, decide_eq_true_eq] at hfx; exact hfx.1.1
  obtain ⟨C, hC⟩ : ∃ C : World → Prop, C = fun W => K w W ∧ Blk W g1 34 (entA x (.slice A x.f.length c) (.slice D x.es.length d)) ∧ ∃ cs : Value, Blk W gz 34 (entA x (.slice A x.f.length c) cs) := ⟨_, rfl⟩
  have hg : ∀ W W', C W → Below W.heap.size W W' → C W' := by
    subst hC
    rintro W W' ⟨h1, h2, cs, h3⟩ hb
    exact ⟨h1.tr hb, h2.below hb h2.lt, cs, h3.below hb h3.lt⟩
  have hc0 : C w9 := by rw [hC]; exact ⟨k03, hx9, _, hz0⟩
  refine wp_region_last 10 C [isV (.pointer (some ⟨g1, 7, none⟩)),
      isV (.slice D x.es.length d),
      isV (.int .i64 ((m : Int))),
      isV (.pointer (some ⟨g1, 7, none⟩)),
      isV (.slice D x.es.length d),
      isV (.int .i64 ((x.es.length : Int))),
      isV (.int .i64 ((x.es.length : Int) + 1)),
      isV (.int .i64 (((m % (x.es.length + 1) : Nat) : Int))),
      isV (.slice D (m % (x.es.length + 1)) d),
      isV (.pointer (some ⟨gz, 7, none⟩)),
      fun _ W => Blk W gz 34 (entA x (.slice A x.f.length c) (.slice D (m % (x.es.length + 1)) d))]
    [([], []), ([0], [(71, 0)]), ([], []), ([], []), ([3], [(74, 3)]), ([4], [(75, 4)]), ([5], [(76, 5)]), ([2, 6], [(73, 2), (77, 6)]), ([1, 7], [(72, 1), (78, 7)]), ([], []), ([9, 8], [(80, 9), (79, 8)])] 91 rfl (by kernel_rfl) (by kernel_rfl) (by kernel_rfl) (by kernel_rfl) hg (by exact hg _ _ hc0 (Below.drew (Below.refl _ _))) ?st ?ow ?_
  case st =>
    simp only [List.forall_mem_cons]
    and_intros
    all_goals first | exact isV_st _ | (intro _ w w' h hb; exact h.below hb h.lt) | simp
  case ow =>
    simp only [OwedL]
    and_intros
    all_goals try trivial
    all_goals
      simp only [Nat.reduceEqDiff, if_true, if_false, Nat.reduceAdd]
      intro V w' hc hp
      rw [hC] at hc
      obtain ⟨kw, hbx, cs, hbz⟩ := hc
      have q1 := hbx.cell
      have q2 := hbz.cell
      have q3 := hbz.frozen
      try simp only [List.forall_mem_cons, tab_zero, tab_succ, isV] at hp
      try simp [wantsG, rhoP, List.lookup, hp, tab_zero, tab_succ, ResG, execOp, bareOp, isV, undef, Below.refl, q1, q2, q3, go_sem]
    · rw [IntKind.wrap_i64]; omega
    · rw [if_neg (by omega)]
      exact ⟨by rw [hmodi]; simp, Below.refl _ _⟩
    · have e : ((m : Int) % ((x.es.length : Int) + 1)) = ((m % (x.es.length + 1) : Nat) : Int) := by simp
      rw [e, if_pos ⟨by omega, by omega⟩]
      exact ⟨by rw [Int.toNat_natCast], Below.refl _ _⟩
    · simp only [ResZ, tab_zero, tab_succ]
      refine ⟨hbz.set_ 7 _, ?_⟩
      rw [hC]
      exact ⟨kw.setCell (by simp; omega) _, hbx.far (by simp; omega) _, _, hbz.set_ 7 _⟩
  intro V W hc hp
  have h10 := hp 10 (by simp) (by simp)
  simp only [tab_zero, tab_succ] at h10
  rw [hC] at hc
  have kW := hc.1
  clear hp hc hg hc0 hC hz0 hx9 k03 k3
  simp only [putAll, Act.put, List.setIfInBounds_toArray, List.set_cons_succ, List.set_cons_zero]
  have qz := h10.cell
  have HOK := Lib.hid (okEn_take hok (m % (x.es.length + 1)))
  go_wp2_with fail
  refine (NCheck_calls { x with es := x.es.take (m % (x.es.length + 1)) } _ W ⟨_, _, rfl, HFl.out _ kW, HT.out _ hmod _ kW⟩).mono ?_
  rintro e wz ⟨rfl, kz⟩
  rw [chkEn_good HOK.out]
  replace kW := kW.tr kz
  go_wp2
  go_ret
  exact ⟨rfl, kW⟩
end Go.Proofs.Ytjcdgbnbaiebdaa
