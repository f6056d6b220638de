/-
  The walk of StageAlone (layer 17). Conditions: none.
-/
import Derived.Test.YtjcdgbnbaiebdaaStP
set_option maxRecDepth 100000
namespace Go.Proofs.Ytjcdgbnbaiebdaa
open Go Go.RowKit

theorem lst_new {x : Txn} {vf ve : Value} {W : World} (hf : flt x.e.f vf W) (he : lst evS x.e.es ve W) (T : TypeId) : lst txS [x] (.slice (some ⟨W.heap.size, 0, none⟩) 1 1) (W.alloc (.cells (txA x vf ve) T)) := by
  have k : K W (W.alloc (.cells (txA x vf ve) T)) := (K.rf W).al _
  refine ⟨_, _, rfl, ⟨[(txA x vf ve).toList], Each.one ⟨vf, ve, rfl, flt_st _ _ _ _ hf k, lst_st he k⟩, ?_⟩, Nat.le_refl _⟩
  have h := Reads.new W (txA x vf ve).toList T 9 1 rfl
  have h2 := h.more (B' := (W.alloc (.cells (txA x vf ve) T)).heap.size) (by simp)
  rw [show [(txA x vf ve).toList].flatten = (txA x vf ve).toList from by simp]
  exact h2
theorem tx_eq (x : Txn) : decide ([x] = [x]) = true := by simp

set_option maxHeartbeats 8000000 in
theorem StageAlone_walk (v0 v1 : Value) (w : World) (r0 : repScript w v0) (r1 : repCall w v1) :
    Calls Try.prog 6 #[v0, v1] w fun e w' => e = .returned (.bool true) ∧ Below w.heap.size w w' := by
  obtain ⟨cs, hcs, hfit⟩ := r0
  obtain ⟨z, hz, hfz⟩ := r1
  obtain ⟨A, cc, rfl, hl, hcc⟩ := hcs
  obtain ⟨vaz, vfz, vez, rfl, haz, hffz, hez⟩ := hz
  obtain ⟨Aaz, caz, rfl⟩ := evt_slice haz
  obtain ⟨Afz, cfz, rfl⟩ := flt_slice hffz
  obtain ⟨Aez, cez, rfl⟩ := lst_slice hez
  have HZ := Lib.hid fun W (kW : K w W) => (⟨_, _, _, rfl, evt_st _ _ _ _ haz kW, flt_st _ _ _ _ hffz kW, lst_st hez kW⟩ : callv z (.agg (callA z (.slice Aaz z.e.length caz) (.slice Afz z.x.f.length cfz) (.slice Aez z.x.es.length cez))) W)
  have HF := Lib.hid hfit
  have HFZ := Lib.hid hfz
  clear hfit haz hffz hez hfz
  have hx := Blk.new w 36 (callA z (.slice Aaz z.e.length caz) (.slice Afz z.x.f.length cfz) (.slice Aez z.x.es.length cez))
  have k1 : K w (w.alloc (.cells (callA z (.slice Aaz z.e.length caz) (.slice Afz z.x.f.length cfz) (.slice Aez z.x.es.length cez)) 36)) := (K.rf w).al _
  go_enter Try.func6, Try.ntmps6
  go_upto_region 1 with (fail)
  generalize w.alloc _ = w1 at *
  generalize w.heap.size = g at hx ⊢
  have qx := hx.cells
  have hl1 := lsr_st hl k1
  have kk := K.rf w1
  clear hl hx
  go_wp2_with fail
  refine (awakeT_calls w1).mono ?_
  rintro e w2 ⟨rfl, k2⟩
  go_wp2_with fail
  refine (SmallC_calls z _ w2 (HZ.out _ (k1.tr k2))).mono ?_
  rintro e w3 ⟨rfl, k3⟩
  replace k2 := k2.tr k3
  clear k3
  cases hsz : smallC z
  · go_wp2
    go_ret
    exact ⟨rfl, k1.tr k2⟩
  have HSZ := Lib.hid hsz
  clear hsz
  have kk := K.rf w3
  go_wp2_with fail
  go_loopw [6, 7] (fun v i W => ∃ j : Nat, j ≤ cs.length ∧ j ≤ 40 ∧ i = .int .i64 (j : Int) ∧ Hid (lst txS (runT (cs.take j)) v W) ∧ K w1 W) (fun v i _ => cs.length - (intOf i).toNat)
  case atStart => exact ⟨0, by omega, by omega, rfl, Lib.hid (by simpa [runT] using lst_nil _ _), k2⟩
  case round =>
    clear kk
    obtain ⟨j, hj, hj60, rfl, HL, kr⟩ := hrel
    have hok := run_ok HF.out j
    by_cases hlt : j < cs.length ∧ j < 40
    · obtain ⟨hlt, hlt60⟩ := hlt
      have hji : (j : Int) < (cs.length : Int) := by omega
      have hj6 : (j : Int) < 40 := by omega
      have HS := Lib.hid (run_succ hlt)
      have hfc := HF.out _ (List.getElem_mem hlt)
      obtain ⟨b1, off, cc1, rfl, hcl, hrl, d0, d⟩ := lsr_cells hl1 j hlt (by decide)
      generalize cs[j] = c at *
      generalize hLj : runT (cs.take j) = L at *
      obtain ⟨va, vf, ve, rfl, he, hf, hle⟩ := hrl w1 (K.rf w1)
      obtain ⟨Aa, ca, rfl⟩ := evt_slice he
      obtain ⟨Af, cf, rfl⟩ := flt_slice hf
      obtain ⟨Ae, ce, rfl⟩ := lst_slice hle
      have HC : Hid (∀ W, K w1 W → callv c (.agg (callA c (.slice Aa c.e.length ca) (.slice Af c.x.f.length cf) (.slice Ae c.x.es.length ce))) W) := Lib.hid fun W kW => ⟨_, _, _, rfl, evt_st _ _ _ _ he kW, flt_st _ _ _ _ hf kW, lst_st hle kW⟩
      have d0 : ∀ W, K wr W → W.cell? ⟨b1, off + j * 14, none⟩ = some (.int .i64 c.kind) := fun W kW => d0 W (kr.tr kW)
      have d : ∀ W, K wr W → ∀ i, i < 14 → W.cell? ⟨b1, off + j * 14 + i, none⟩ = (callA c (.slice Aa c.e.length ca) (.slice Af c.x.f.length cf) (.slice Ae c.x.es.length ce))[i]? := fun W kW i hi => (d W (kr.tr kW) i hi).trans Array.getElem?_toList
      have HL3 := Lib.hid fun W (kW : K wr W) => lst_st HL.out kW
      have kk := K.rf wr
      clear hcl hrl he hf hle HL
      go_wp2_with fail
      refine (SmallC_calls c _ wr (HC.out _ kr)).mono ?_
      rintro e w4 ⟨rfl, k4⟩
      have k14 := kr.tr k4
      cases hsm : smallC c
      · have HL5 : Hid (lst txS (runT (cs.take (j + 1))) u6 w4) := Lib.hid (by rw [HS.out, show stepT L c = L from by simp [stepT, hsm]]; exact HL3.out _ k4)
        clear HL3 HC hok kk
        go_wp2
        go_roundw
        case rel => exact ⟨j + 1, by omega, by omega, by go_num, HL5, k14⟩
        case measure => simp [intOf]; omega
      have HM : Hid (runT (cs.take (j + 1)) = (nextT L c).1) := Lib.hid (by rw [HS.out]; simp [stepT, hsm])
      have C2 := Lib.hid (Next_calls L c u6 _ w4 (HL3.out _ k4) (HC.out w4 k14) hok.1 hfc hsm)
      go_wp2_with fail
      refine C2.out.mono ?_
      rintro e w5 ⟨vm, rfl, hM, k5⟩
      have HL5 : Hid (lst txS (runT (cs.take (j + 1))) vm w5) := Lib.hid (by rw [HM.out]; exact hM)
      have k15 := k14.tr k5
      clear C2 HL3 HC hok kk hM d0 d
      go_wp2
      go_roundw
      case rel => exact ⟨j + 1, by omega, by omega, by go_num, HL5, k15⟩
      case measure => simp [intOf]; omega
    · have hend : (¬ (j : Int) < (cs.length : Int)) ∨ ((j : Int) < (cs.length : Int) ∧ ¬ (j : Int) < 40) := by omega
      have hokL := hok.1
      have HOK := Lib.hid hok
      generalize wr = wo at *
      generalize runT (cs.take j) = L at *
      have HLo := Lib.hid fun W (kW : K wo W) => lst_st HL.out kW
      obtain ⟨Al, cl, rfl, hll, -⟩ := HL.out
      have HO := Lib.hid hokL
      have hlm := hokL.mil
      have kk := K.rf wo
      clear HL hok hokL hlt hl1
      rcases hend with hji | ⟨hji, hj6⟩
      all_goals
        have qz := fun W (kW : K wo W) => qx W (kr.tr kW)
        go_wp2_with fail
        refine (Next_calls L z _ _ wo (HLo.out _ (K.rf _)) (HZ.out _ (k1.tr kr)) HO.out HFZ.out HSZ.out).mono ?_
        rintro e wn ⟨vm, rfl, hM, kn⟩
        have HM := Lib.hid fun W (kW : K wn W) => lst_st hM kW
        have qzn := fun W (kW : K wn W) => qz W (kn.tr kW)
        obtain ⟨Am, cm, rfl⟩ := lst_slice hM
        have HOM : Hid (OkT (nextT L z).1) := Lib.hid (nextT_ok HO.out z ⟨HFZ.out.2.1.1, HFZ.out.2.1.2.1, HFZ.out.2.1.2.2⟩ HFZ.out.2.2.1 HFZ.out.2.2.2.1 HFZ.out.2.2.2.2 HOK.out.2)
        have HSA := Lib.hid (@nextT_same L z)
        have HAL := Lib.hid fun t (ht : t ∈ L) hne => @alone L z HOM.out t ht hne
        have kk := K.rf wn
        have krn := kr.tr kn
        generalize (nextT L z).1 = M at *
        generalize (nextT L z).2 = E at *
        clear qx qz hM
        by_cases hE : E = 0
        rotate_left
        · have hE' : (E != 0) = true := by simpa using hE
          obtain rfl : M = L := HSA.out hE
          clear HAL HSA hE
          go_wp2_with fail
          refine (TSame_calls M M _ _ wn (HM.out _ (K.rf _)) (HLo.out _ kn) HOM.out.small HOM.out.mil).mono ?_
          rintro e wt ⟨rfl, kt⟩
          rw [show decide (M = M) = true from by simp]
          go_wp2
          go_ret
          exact ⟨rfl, k1.tr (krn.tr kt)⟩
        clear HSA
        by_cases h5 : z.kind = 5
        · obtain ⟨I, hIe⟩ : ∃ I, I = ofT z := ⟨_, rfl⟩
          rw [← hIe] at HAL
          obtain rfl : I = (z.x.br, z.x.life, z.x.ser) := by rw [hIe]; simp [ofT, h5, idOf]
          have hI := Blk.new wn 26 #[.int .i64 z.x.br, .int .u64 (z.x.life : Int), .int .u64 (z.x.ser : Int)]
          have kM : K wn (wn.alloc (.cells #[.int .i64 z.x.br, .int .u64 (z.x.life : Int), .int .u64 (z.x.ser : Int)] 26)) := (K.rf wn).al _
          clear hIe
          have ka := fun o => kk.al o
          go_upto_region 18 with (fail)
          clear ka
          have k9 := kn.tr kM
          generalize wn.alloc _ = wi at *
          generalize wn.heap.size = gi at *
          generalize hIg : ((z.x.br, z.x.life, z.x.ser) : Idn) = I at *
          have e1 : z.x.br = I.1 := by rw [← hIg]
          have e2 : z.x.life = I.2.1 := by rw [← hIg]
          have e3 : z.x.ser = I.2.2 := by rw [← hIg]
          rw [e1, e2, e3] at hI
          clear e1 e2 e3 hIg kn
          have qI := hI.cells
          have hl9 := lsr_st hll k9
          have k19 := kr.tr k9
          have HM9 := Lib.hid fun W (kW : K wi W) => HM.out W (kM.tr kW)
          have kk := K.rf wi
          have hlm' := hlm
          clear hI HM hll k9 kM
          go_wp2_with fail
          go_loopw [11] (fun i W => ∃ q : Nat, q ≤ L.length ∧ i = .int .i64 (q : Int) ∧ K wi W) (fun i _ => L.length - (intOf i).toNat)
          case atStart => exact ⟨0, by omega, rfl, kk⟩
          case round =>
            clear kk
            obtain ⟨q, hq, rfl, ks⟩ := hrel
            by_cases hql : q < L.length
            · have hqi : (q : Int) < (L.length : Int) := by omega
              obtain ⟨b1, off, cc1, rfl, hcl, hrl, d0, d⟩ := lsr_cells hl9 q hql (by decide)
              have HA := Lib.hid (HAL.out _ (List.getElem_mem hql))
              have hsx := HO.out.small _ (List.getElem_mem hql)
              generalize L[q] = x at *
              obtain ⟨vf, ve, rfl, hf, he⟩ := hrl wi (K.rf wi)
              obtain ⟨Af, cf, rfl⟩ := flt_slice hf
              obtain ⟨Ae, ce, rfl⟩ := lst_slice he
              have p10 : ∀ W, K wr W → W.cell? ⟨b1, off + q * 9, none⟩ = some (.int .i64 x.e.kind) := fun W kW => d0 W (ks.tr kW)
              have p1 : ∀ W, K wr W → ∀ i, i < 9 → W.cell? ⟨b1, off + q * 9 + i, none⟩ = (txA x (.slice Af x.e.f.length cf) (.slice Ae x.e.es.length ce))[i]? := fun W kW i hi => (d W (ks.tr kW) i hi).trans Array.getElem?_toList
              have p10b : ∀ W, K wr W → ∀ i, i < 8 → W.cell? ⟨b1, off + q * 9 + 1 + i, none⟩ = (txA x (.slice Af x.e.f.length cf) (.slice Ae x.e.es.length ce))[i + 1]? := fun W kW i hi => by rw [Nat.add_assoc, Nat.add_comm 1 i]; exact p1 W kW (i + 1) (by omega)
              have p1 := fun W kW i hi => p1 W kW i hi
              have qI' := fun W (kW : K wr W) => qI W (ks.tr kW)
              have kk := K.rf wr
              clear hcl hrl d0 d
              go_upto_region 21 with (fail)
              refine wp_region_K [isV (.slice (some ⟨b1, off, none⟩) L.length cl),
                  isV (.int .i64 ((q : Int))),
                  isV (.pointer (some ⟨b1, off + q * 9, none⟩)),
                  isV (.pointer (some ⟨b1, off + q * 9, none⟩)),
                  isV (.pointer (some ⟨b1, off + q * 9 + 1, none⟩)),
                  isV (.agg #[.int .i64 x.e.br, .int .u64 (x.e.life : Int), .int .u64 (x.e.ser : Int)]),
                  isV (.agg #[.int .i64 I.1, .int .u64 (I.2.1 : Int), .int .u64 (I.2.2 : Int)]),
                  isV (.bool (decide (idOf x.e = I)))]
                [([], []), ([], []), ([0, 1], [(70, 0), (71, 1)]), ([2], [(72, 2)]), ([3], [(73, 3)]), ([4], [(74, 4)]), ([], []), ([5, 6], [(75, 5), (76, 6)])] 103 rfl (by kernel_rfl) (by kernel_rfl) (by kernel_rfl) ?st21 ?ow21 ?_
              case st21 =>
                simp only [List.forall_mem_cons]
                and_intros
                all_goals first | exact isV_st _ | exact sl_st _ | exact anyV_st | simp
              case ow21 =>
                simp only [OwedQ]
                and_intros
                all_goals try trivial
                all_goals
                  intro V W kW hp
                  try simp only [List.forall_mem_cons, tab_zero, tab_succ, isV] at hp
                  try simp [wantsG, rhoP, List.lookup, hp, tab_zero, tab_succ, ResG, execOp, bareOp, isV, Below.refl, kW, p1, qI', hqi, p10b, go_sem]
                · by_cases h1 : x.e.br = I.1
                  · by_cases h2 : (x.e.life : Int) = (I.2.1 : Int)
                    · by_cases h3 : (x.e.ser : Int) = (I.2.2 : Int)
                      · rw [show decide (idOf x.e = I) = true from decide_eq_true (Prod.ext h1 (Prod.ext (Int.ofNat_inj.1 h2) (Int.ofNat_inj.1 h3)))]
                        simp only [h1, h2, h3, if_true]; exact ⟨trivial, Below.refl _ _⟩
                      · rw [show decide (idOf x.e = I) = false from decide_eq_false (fun e => h3 (by rw [← e]; rfl))]
                        simp only [h1, h2, h3, if_true, if_false]; exact ⟨trivial, Below.refl _ _⟩
                    · rw [show decide (idOf x.e = I) = false from decide_eq_false (fun e => h2 (by rw [← e]; rfl))]
                      simp only [h1, h2, if_true, if_false]; exact ⟨trivial, Below.refl _ _⟩
                  · rw [show decide (idOf x.e = I) = false from decide_eq_false (fun e => h1 (by rw [← e]; rfl))]
                    simp only [h1, if_false]; exact ⟨trivial, Below.refl _ _⟩
              intro V W kW hp
              have h7 := hp 7 (by simp)
              simp only [tab_zero, tab_succ, isV] at h7
              clear hp
              simp only [putAll, Act.put, List.setIfInBounds_toArray, List.set_cons_succ, List.set_cons_zero, h7]
              have ksW := ks.tr kW
              generalize hbb : decide (idOf x.e = I) = bb at *
              have HBB := Lib.hid hbb
              clear hbb h7
              cases bb
              rotate_left
              · clear p10 p1 p10b qI'
                go_wp2
                go_roundw
                case rel => exact ⟨q + 1, by omega, by go_num, ksW⟩
                case measure => simp [intOf]; omega
              have HA1 := Lib.hid (HA.out (of_decide_eq_false HBB.out))
              have r10 := p10 W kW
              have r1 := p1 W kW
              have r1b := p10b W kW
              have C3 := Lib.hid (Find_calls M (idOf x.e) _ W (HM9.out W ksW) HOM.out.small HOM.out.mil)
              rw [HA1.out] at C3
              simp only [idOf] at C3
              have kk := K.rf W
              go_wp2_with fail
              refine C3.out.mono ?_
              rintro e wf ⟨u2, rfl, hT, kf⟩
              obtain ⟨vf2, ve2, rfl, hf2, he2⟩ := hT
              obtain ⟨Af2, cf2, rfl⟩ := flt_slice hf2
              obtain ⟨Ae2, ce2, rfl⟩ := lst_slice he2
              have hx := Blk.new wf 39 (txA x (.slice Af2 x.e.f.length cf2) (.slice Ae2 x.e.es.length ce2))
              have kx : K wf (wf.alloc (.cells (txA x (.slice Af2 x.e.f.length cf2) (.slice Ae2 x.e.es.length ce2)) 39)) := (K.rf wf).al _
              clear C3 r10 r1 r1b qI'
              go_upto_region 23 with (fail)
              have hf3 := fun W (kW : K _ W) => flt_st _ _ _ _ hf2 (kx.tr kW)
              have he3 := fun W (kW : K _ W) => lst_st he2 (kx.tr kW)
              have krg := kW.tr (kf.tr kx)
              have ksg := ksW.tr (kf.tr kx)
              have hff := fun W (kW : K _ W) => flt_st _ _ _ _ hf (ksg.tr kW)
              have hee := fun W (kW : K _ W) => lst_st he (ksg.tr kW)
              generalize wf.alloc _ = wg at *
              generalize wf.heap.size = gf at *
              have qt := hx.cells
              have p20 := fun W (kW : K wg W) => p10 W (krg.tr kW)
              have p2 := fun W (kW : K wg W) => p1 W (krg.tr kW)
              have hxx := tx_eq x
              clear p10 p1 p10b kW ksW kx kf hf2 he2 hf he hx
              refine wp_region_K [isV (.agg (txA x (.slice Af2 x.e.f.length cf2) (.slice Ae2 x.e.es.length ce2))),
                  (lst txS [x]),
                  isV (.slice (some ⟨b1, off, none⟩) L.length cl),
                  isV (.int .i64 ((q : Int))),
                  isV (.pointer (some ⟨b1, off + q * 9, none⟩)),
                  isV (.agg (txA x (.slice Af x.e.f.length cf) (.slice Ae x.e.es.length ce))),
                  (lst txS [x]),
                  isV (.bool true),
                  isV (.bool true)]
                [([], []), ([0], [(89, 0)]), ([], []), ([], []), ([2, 3], [(91, 2), (92, 3)]), ([4], [(93, 4)]), ([5], [(94, 5)]), ([1, 6], [(90, 1), (95, 6)]), ([7], [(96, 7)])] 103 rfl (by kernel_rfl) (by kernel_rfl) (by kernel_rfl) ?st23 ?ow23 ?_
              case st23 =>
                simp only [List.forall_mem_cons]
                and_intros
                all_goals first | exact isV_st _ | exact sl_st _ | exact anyV_st | exact (fun _ _ _ h k => lst_st h k) | simp
              case ow23 =>
                simp only [OwedQ]
                and_intros
                all_goals try trivial
                all_goals
                  intro V W kW hp
                  try simp only [List.forall_mem_cons, tab_zero, tab_succ, isV] at hp
                  try simp [wantsG, rhoP, List.lookup, hp, tab_zero, tab_succ, ResG, execOp, bareOp, isV, Below.refl, kW, p20, p2, qt, hqi, go_sem]
                · exact ⟨lst_new (hf3 _ kW) (he3 _ kW) _, (K.rf _).al _⟩
                · exact ⟨lst_new (hff _ kW) (hee _ kW) _, (K.rf _).al _⟩
                · refine (TSame_calls [x] [x] _ _ W hp.1 hp.2.1 (by simpa using hsx) (by simp)).mono ?_
                  rintro e w'' ⟨rfl, hb⟩
                  exact ⟨_, rfl, by rw [hxx], hb⟩
              intro V W kW hp
              have h8 := hp 8 (by simp)
              simp only [tab_zero, tab_succ, isV] at h8
              clear hp
              simp only [putAll, Act.put, List.setIfInBounds_toArray, List.set_cons_succ, List.set_cons_zero, h8]
              have ksW := ksg.tr kW
              clear p20 p2 qt hf3 he3 hff hee
              go_wp2
              refine ⟨⟨q + 1, by omega, by go_num⟩, ?_⟩
              simp [intOf]; omega
            · have hqi : ¬ (q : Int) < (L.length : Int) := by omega
              go_wp2
              go_ret
              exact ⟨rfl, k1.tr (k19.tr ks)⟩
        · obtain ⟨I, hIe⟩ : ∃ I, I = ofT z := ⟨_, rfl⟩
          rw [← hIe] at HAL
          obtain rfl : I = z.id := by rw [hIe]; simp [ofT, h5]
          have hI := Blk.new wn 26 #[.int .i64 z.id.1, .int .u64 (z.id.2.1 : Int), .int .u64 (z.id.2.2 : Int)]
          have kM : K wn (wn.alloc (.cells #[.int .i64 z.id.1, .int .u64 (z.id.2.1 : Int), .int .u64 (z.id.2.2 : Int)] 26)) := (K.rf wn).al _
          clear hIe
          have ka := fun o => kk.al o
          go_upto_region 18 with (fail)
          clear ka
          have k9 := kn.tr kM
          generalize wn.alloc _ = wi at *
          generalize wn.heap.size = gi at *
          generalize z.id = I at *
          clear kn
          have qI := hI.cells
          have hl9 := lsr_st hll k9
          have k19 := kr.tr k9
          have HM9 := Lib.hid fun W (kW : K wi W) => HM.out W (kM.tr kW)
          have kk := K.rf wi
          have hlm' := hlm
          clear hI HM hll k9 kM
          go_wp2_with fail
          go_loopw [11] (fun i W => ∃ q : Nat, q ≤ L.length ∧ i = .int .i64 (q : Int) ∧ K wi W) (fun i _ => L.length - (intOf i).toNat)
          case atStart => exact ⟨0, by omega, rfl, kk⟩
          case round =>
            clear kk
            obtain ⟨q, hq, rfl, ks⟩ := hrel
            by_cases hql : q < L.length
            · have hqi : (q : Int) < (L.length : Int) := by omega
              obtain ⟨b1, off, cc1, rfl, hcl, hrl, d0, d⟩ := lsr_cells hl9 q hql (by decide)
              have HA := Lib.hid (HAL.out _ (List.getElem_mem hql))
              have hsx := HO.out.small _ (List.getElem_mem hql)
              generalize L[q] = x at *
              obtain ⟨vf, ve, rfl, hf, he⟩ := hrl wi (K.rf wi)
              obtain ⟨Af, cf, rfl⟩ := flt_slice hf
              obtain ⟨Ae, ce, rfl⟩ := lst_slice he
              have p10 : ∀ W, K wr W → W.cell? ⟨b1, off + q * 9, none⟩ = some (.int .i64 x.e.kind) := fun W kW => d0 W (ks.tr kW)
              have p1 : ∀ W, K wr W → ∀ i, i < 9 → W.cell? ⟨b1, off + q * 9 + i, none⟩ = (txA x (.slice Af x.e.f.length cf) (.slice Ae x.e.es.length ce))[i]? := fun W kW i hi => (d W (ks.tr kW) i hi).trans Array.getElem?_toList
              have p10b : ∀ W, K wr W → ∀ i, i < 8 → W.cell? ⟨b1, off + q * 9 + 1 + i, none⟩ = (txA x (.slice Af x.e.f.length cf) (.slice Ae x.e.es.length ce))[i + 1]? := fun W kW i hi => by rw [Nat.add_assoc, Nat.add_comm 1 i]; exact p1 W kW (i + 1) (by omega)
              have p1 := fun W kW i hi => p1 W kW i hi
              have qI' := fun W (kW : K wr W) => qI W (ks.tr kW)
              have kk := K.rf wr
              clear hcl hrl d0 d
              go_upto_region 21 with (fail)
              refine wp_region_K [isV (.slice (some ⟨b1, off, none⟩) L.length cl),
                  isV (.int .i64 ((q : Int))),
                  isV (.pointer (some ⟨b1, off + q * 9, none⟩)),
                  isV (.pointer (some ⟨b1, off + q * 9, none⟩)),
                  isV (.pointer (some ⟨b1, off + q * 9 + 1, none⟩)),
                  isV (.agg #[.int .i64 x.e.br, .int .u64 (x.e.life : Int), .int .u64 (x.e.ser : Int)]),
                  isV (.agg #[.int .i64 I.1, .int .u64 (I.2.1 : Int), .int .u64 (I.2.2 : Int)]),
                  isV (.bool (decide (idOf x.e = I)))]
                [([], []), ([], []), ([0, 1], [(70, 0), (71, 1)]), ([2], [(72, 2)]), ([3], [(73, 3)]), ([4], [(74, 4)]), ([], []), ([5, 6], [(75, 5), (76, 6)])] 103 rfl (by kernel_rfl) (by kernel_rfl) (by kernel_rfl) ?st21 ?ow21 ?_
              case st21 =>
                simp only [List.forall_mem_cons]
                and_intros
                all_goals first | exact isV_st _ | exact sl_st _ | exact anyV_st | simp
              case ow21 =>
                simp only [OwedQ]
                and_intros
                all_goals try trivial
                all_goals
                  intro V W kW hp
                  try simp only [List.forall_mem_cons, tab_zero, tab_succ, isV] at hp
                  try simp [wantsG, rhoP, List.lookup, hp, tab_zero, tab_succ, ResG, execOp, bareOp, isV, Below.refl, kW, p1, qI', hqi, p10b, go_sem]
                · by_cases h1 : x.e.br = I.1
                  · by_cases h2 : (x.e.life : Int) = (I.2.1 : Int)
                    · by_cases h3 : (x.e.ser : Int) = (I.2.2 : Int)
                      · rw [show decide (idOf x.e = I) = true from decide_eq_true (Prod.ext h1 (Prod.ext (Int.ofNat_inj.1 h2) (Int.ofNat_inj.1 h3)))]
                        simp only [h1, h2, h3, if_true]; exact ⟨trivial, Below.refl _ _⟩
                      · rw [show decide (idOf x.e = I) = false from decide_eq_false (fun e => h3 (by rw [← e]; rfl))]
                        simp only [h1, h2, h3, if_true, if_false]; exact ⟨trivial, Below.refl _ _⟩
                    · rw [show decide (idOf x.e = I) = false from decide_eq_false (fun e => h2 (by rw [← e]; rfl))]
                      simp only [h1, h2, if_true, if_false]; exact ⟨trivial, Below.refl _ _⟩
                  · rw [show decide (idOf x.e = I) = false from decide_eq_false (fun e => h1 (by rw [← e]; rfl))]
                    simp only [h1, if_false]; exact ⟨trivial, Below.refl _ _⟩
              intro V W kW hp
              have h7 := hp 7 (by simp)
              simp only [tab_zero, tab_succ, isV] at h7
              clear hp
              simp only [putAll, Act.put, List.setIfInBounds_toArray, List.set_cons_succ, List.set_cons_zero, h7]
              have ksW := ks.tr kW
              generalize hbb : decide (idOf x.e = I) = bb at *
              have HBB := Lib.hid hbb
              clear hbb h7
              cases bb
              rotate_left
              · clear p10 p1 p10b qI'
                go_wp2
                go_roundw
                case rel => exact ⟨q + 1, by omega, by go_num, ksW⟩
                case measure => simp [intOf]; omega
              have HA1 := Lib.hid (HA.out (of_decide_eq_false HBB.out))
              have r10 := p10 W kW
              have r1 := p1 W kW
              have r1b := p10b W kW
              have C3 := Lib.hid (Find_calls M (idOf x.e) _ W (HM9.out W ksW) HOM.out.small HOM.out.mil)
              rw [HA1.out] at C3
              simp only [idOf] at C3
              have kk := K.rf W
              go_wp2_with fail
              refine C3.out.mono ?_
              rintro e wf ⟨u2, rfl, hT, kf⟩
              obtain ⟨vf2, ve2, rfl, hf2, he2⟩ := hT
              obtain ⟨Af2, cf2, rfl⟩ := flt_slice hf2
              obtain ⟨Ae2, ce2, rfl⟩ := lst_slice he2
              have hx := Blk.new wf 39 (txA x (.slice Af2 x.e.f.length cf2) (.slice Ae2 x.e.es.length ce2))
              have kx : K wf (wf.alloc (.cells (txA x (.slice Af2 x.e.f.length cf2) (.slice Ae2 x.e.es.length ce2)) 39)) := (K.rf wf).al _
              clear C3 r10 r1 r1b qI'
              go_upto_region 23 with (fail)
              have hf3 := fun W (kW : K _ W) => flt_st _ _ _ _ hf2 (kx.tr kW)
              have he3 := fun W (kW : K _ W) => lst_st he2 (kx.tr kW)
              have krg := kW.tr (kf.tr kx)
              have ksg := ksW.tr (kf.tr kx)
              have hff := fun W (kW : K _ W) => flt_st _ _ _ _ hf (ksg.tr kW)
              have hee := fun W (kW : K _ W) => lst_st he (ksg.tr kW)
              generalize wf.alloc _ = wg at *
              generalize wf.heap.size = gf at *
              have qt := hx.cells
              have p20 := fun W (kW : K wg W) => p10 W (krg.tr kW)
              have p2 := fun W (kW : K wg W) => p1 W (krg.tr kW)
              have hxx := tx_eq x
              clear p10 p1 p10b kW ksW kx kf hf2 he2 hf he hx
              refine wp_region_K [isV (.agg (txA x (.slice Af2 x.e.f.length cf2) (.slice Ae2 x.e.es.length ce2))),
                  (lst txS [x]),
                  isV (.slice (some ⟨b1, off, none⟩) L.length cl),
                  isV (.int .i64 ((q : Int))),
                  isV (.pointer (some ⟨b1, off + q * 9, none⟩)),
                  isV (.agg (txA x (.slice Af x.e.f.length cf) (.slice Ae x.e.es.length ce))),
                  (lst txS [x]),
                  isV (.bool true),
                  isV (.bool true)]
                [([], []), ([0], [(89, 0)]), ([], []), ([], []), ([2, 3], [(91, 2), (92, 3)]), ([4], [(93, 4)]), ([5], [(94, 5)]), ([1, 6], [(90, 1), (95, 6)]), ([7], [(96, 7)])] 103 rfl (by kernel_rfl) (by kernel_rfl) (by kernel_rfl) ?st23 ?ow23 ?_
              case st23 =>
                simp only [List.forall_mem_cons]
                and_intros
                all_goals first | exact isV_st _ | exact sl_st _ | exact anyV_st | exact (fun _ _ _ h k => lst_st h k) | simp
              case ow23 =>
                simp only [OwedQ]
                and_intros
                all_goals try trivial
                all_goals
                  intro V W kW hp
                  try simp only [List.forall_mem_cons, tab_zero, tab_succ, isV] at hp
                  try simp [wantsG, rhoP, List.lookup, hp, tab_zero, tab_succ, ResG, execOp, bareOp, isV, Below.refl, kW, p20, p2, qt, hqi, go_sem]
                · exact ⟨lst_new (hf3 _ kW) (he3 _ kW) _, (K.rf _).al _⟩
                · exact ⟨lst_new (hff _ kW) (hee _ kW) _, (K.rf _).al _⟩
                · refine (TSame_calls [x] [x] _ _ W hp.1 hp.2.1 (by simpa using hsx) (by simp)).mono ?_
                  rintro e w'' ⟨rfl, hb⟩
                  exact ⟨_, rfl, by rw [hxx], hb⟩
              intro V W kW hp
              have h8 := hp 8 (by simp)
              simp only [tab_zero, tab_succ, isV] at h8
              clear hp
              simp only [putAll, Act.put, List.setIfInBounds_toArray, List.set_cons_succ, List.set_cons_zero, h8]
              have ksW := ksg.tr kW
              clear p20 p2 qt hf3 he3 hff hee
              go_wp2
              refine ⟨⟨q + 1, by omega, by go_num⟩, ?_⟩
              simp [intOf]; omega
            · have hqi : ¬ (q : Int) < (L.length : Int) := by omega
              go_wp2
              go_ret
              exact ⟨rfl, k1.tr (k19.tr ks)⟩
end Go.Proofs.Ytjcdgbnbaiebdaa
