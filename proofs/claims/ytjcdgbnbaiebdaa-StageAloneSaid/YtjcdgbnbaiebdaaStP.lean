/-
  Scripts of calls in plain Lean, and the walk of StageStays (layer 17). Conditions: none.
-/
import Derived.Test.YtjcdgbnbaiebdaaStO
set_option maxRecDepth 100000
namespace Go.Proofs.Ytjcdgbnbaiebdaa
open Go Go.RowKit

def stepT (l : List Txn) (c : CallT) : List Txn := if smallC c = true then (nextT l c).1 else l
def runT (cs : List CallT) : List Txn := cs.foldl stepT []
theorem stepT_ok {l : List Txn} (h : OkT l ∧ OpenK l) (c : CallT) (hc : fitC c) : OkT (stepT l c) ∧ OpenK (stepT l c) := by
  unfold stepT
  split
  · exact ⟨nextT_ok h.1 c ⟨hc.2.1.1, hc.2.1.2.1, hc.2.1.2.2⟩ hc.2.2.1 hc.2.2.2.1 hc.2.2.2.2 h.2, nextT_open h.2 c⟩
  · exact h
theorem runT_ok : ∀ (cs : List CallT) (l : List Txn), (∀ c ∈ cs, fitC c) → OkT l ∧ OpenK l → OkT (cs.foldl stepT l) ∧ OpenK (cs.foldl stepT l)
  | [], _, _, h => h
  | c :: cs, l, hf, h => runT_ok cs (stepT l c) (fun x hx => hf x (by simp [hx])) (stepT_ok h c (hf c (by simp)))
theorem run_ok {cs : List CallT} (h : ∀ c ∈ cs, fitC c) (j : Nat) : OkT (runT (cs.take j)) ∧ OpenK (runT (cs.take j)) :=
  runT_ok _ _ (fun c hc => h c (List.mem_of_mem_take hc)) ⟨OkT.nil, by simp [OpenK]⟩
theorem run_succ {cs : List CallT} {j : Nat} (h : j < cs.length) : runT (cs.take (j + 1)) = stepT (runT (cs.take j)) cs[j] := by
  unfold runT
  rw [List.take_succ_eq_append_getElem h, List.foldl_append]
  rfl
theorem enc_of {x : Ent} (h : okEn x = true) : encEnR x = encOf x := by unfold encEnR encOf; rw [h]
theorem idDec (a b : Idn) : decide (a = b) = (decide (a.1 = b.1) && decide (a.2.1 = b.2.1) && decide (a.2.2 = b.2.2)) := by
  obtain ⟨a0, a1, a2⟩ := a
  obtain ⟨b0, b1, b2⟩ := b
  rw [Bool.eq_iff_iff]
  simp [and_assoc]

set_option maxHeartbeats 8000000 in
theorem StageStays_walk (v0 v1 : Value) (w : World) (r0 : repScript w v0) (r1 : repID w v1) :
    Calls Try.prog 4 #[v0, v1] w fun e w' => e = .returned (.bool true) ∧ Below w.heap.size w w' := by
  obtain ⟨cs, hcs, hfit⟩ := r0
  obtain ⟨a, rfl, hfa⟩ := r1
  obtain ⟨A, cc, rfl, hl, hcc⟩ := hcs
  have HF := Lib.hid hfit
  have HFA := Lib.hid hfa
  clear hfit hfa
  have hx := Blk.new w 26 #[.int .i64 a.1, .int .u64 (a.2.1 : Int), .int .u64 (a.2.2 : Int)]
  have k1 : K w (w.alloc (.cells #[.int .i64 a.1, .int .u64 (a.2.1 : Int), .int .u64 (a.2.2 : Int)] 26)) := (K.rf w).al _
  go_enter Try.func4, Try.ntmps4
  go_upto_region 1 with (fail)
  generalize w.alloc _ = w1 at *
  generalize w.heap.size = g at hx ⊢
  have qx := hx.cells
  have hl1 := lsr_st hl k1
  have kk := K.rf w1
  clear hl
  go_wp2_with fail
  refine (awakeT_calls w1).mono ?_
  rintro e w2 ⟨rfl, k2⟩
  have kk := K.rf w1
  go_wp2_with fail
  go_loopw [6, 7] (fun v i W => ∃ j : Nat, j ≤ cs.length ∧ j ≤ 60 ∧ i = .int .i64 (j : Int) ∧ Hid (lst txS (runT (cs.take j)) v W) ∧ K w1 W) (fun v i _ => cs.length - (intOf i).toNat)
  case atStart => exact ⟨0, by omega, by omega, rfl, Lib.hid (by simpa [runT] using lst_nil _ _), k2⟩
  case round =>
    clear kk
    obtain ⟨j, hj, hj60, rfl, HL, kr⟩ := hrel
    have hok := run_ok HF.out j
    by_cases hlt : j < cs.length ∧ j < 60
    · obtain ⟨hlt, hlt60⟩ := hlt
      have hji : (j : Int) < (cs.length : Int) := by omega
      have hj6 : (j : Int) < 60 := by omega
      have HS := Lib.hid (run_succ hlt)
      have hfc := HF.out _ (List.getElem_mem hlt)
      obtain ⟨b1, off, cc1, rfl, hcl, hrl, d0, d⟩ := lsr_cells hl1 j hlt (by decide)
      generalize cs[j] = c at *
      generalize hLj : runT (cs.take j) = L at *
      have hok' := hok
      obtain ⟨va, vf, ve, rfl, he, hf, hle⟩ := hrl w1 (K.rf w1)
      obtain ⟨Aa, ca, rfl⟩ := evt_slice he
      obtain ⟨Af, cf, rfl⟩ := flt_slice hf
      obtain ⟨Ae, ce, rfl⟩ := lst_slice hle
      have HC : Hid (∀ W, K w1 W → callv c (.agg (callA c (.slice Aa c.e.length ca) (.slice Af c.x.f.length cf) (.slice Ae c.x.es.length ce))) W) := Lib.hid fun W kW => ⟨_, _, _, rfl, evt_st _ _ _ _ he kW, flt_st _ _ _ _ hf kW, lst_st hle kW⟩
      have d0 : ∀ W, K wr W → W.cell? ⟨b1, off + j * 14, none⟩ = some (.int .i64 c.kind) := fun W kW => d0 W (kr.tr kW)
      have d : ∀ W, K wr W → ∀ i, i < 14 → W.cell? ⟨b1, off + j * 14 + i, none⟩ = (callA c (.slice Aa c.e.length ca) (.slice Af c.x.f.length cf) (.slice Ae c.x.es.length ce))[i]? := fun W kW i hi => (d W (kr.tr kW) i hi).trans Array.getElem?_toList
      have kk := K.rf wr
      clear hcl hrl he hf hle
      have hx := Blk.new wr 36 (callA c (.slice Aa c.e.length ca) (.slice Af c.x.f.length cf) (.slice Ae c.x.es.length ce))
      have kx : K wr (wr.alloc (.cells (callA c (.slice Aa c.e.length ca) (.slice Af c.x.f.length cf) (.slice Ae c.x.es.length ce)) 36)) := (K.rf wr).al _
      go_upto_region 9 with (fail)
      have k3 := kr.tr kx
      generalize wr.alloc _ = w3 at *
      generalize wr.heap.size = gc at *
      have rx := hx.cells
      have qy := fun W (kW : K w3 W) => qx W (k3.tr kW)
      have HL3 := Lib.hid fun W (kW : K w3 W) => lst_st HL.out (kx.tr kW)
      have kk := K.rf w3
      clear d0 d hx HL kr kx
      go_wp2_with fail
      refine (SmallC_calls c _ w3 (HC.out _ k3)).mono ?_
      rintro e w4 ⟨rfl, k4⟩
      have k14 := k3.tr k4
      cases hsm : smallC c
      · have HL5 : Hid (lst txS (runT (cs.take (j + 1))) u6 w4) := Lib.hid (by rw [HS.out, show stepT L c = L from by simp [stepT, hsm]]; exact HL3.out _ k4)
        clear HL3 HC hok hok' qy rx kk
        go_wp2
        go_roundw
        case rel => exact ⟨j + 1, by omega, by omega, by go_num, HL5, k14⟩
        case measure => simp [intOf]; omega
      have HM : Hid (runT (cs.take (j + 1)) = (nextT L c).1) := Lib.hid (by rw [HS.out]; simp [stepT, hsm])
      have hokM : OkT (nextT L c).1 := by
        have := (stepT_ok hok c hfc).1
        rwa [show stepT L c = (nextT L c).1 from by simp [stepT, hsm]] at this
      have HSt : Hid ((findT L a).2 = true → (findT L a).1.asked = true → ¬ (c.kind = 6 ∧ c.id = a) → findT (nextT L c).1 a = findT L a) := Lib.hid (by
        intro h1 h2 h3
        have h4 : findT L a = ((findT L a).1, true) := by rw [← h1]
        rw [stays c hokM h4 h2 h3, ← h4])
      have HGo : Hid (c.kind = 6 ∧ c.id = a → (findT (nextT L c).1 a).2 = false) := Lib.hid (by
        rintro ⟨h6, h7⟩
        have : (nextT L c).1 = settleT L a := by unfold nextT; rw [if_neg (by omega), if_neg (by omega), if_neg (by omega), if_neg (by omega), if_neg (by omega), if_pos h6, h7]
        rw [this, settleT_gone hok.1 a])
      have C1 := Lib.hid fun W (kW : K w4 W) => Find_calls L a u6 W (HL3.out _ (k4.tr kW)) hok.1.small hok.1.mil
      have C2 := Lib.hid fun W (kW : K w4 W) => Next_calls L c u6 _ W (HL3.out _ (k4.tr kW)) (HC.out W (k14.tr kW)) hok.1 hfc hsm
      have C3 := Lib.hid fun v W (h : lst txS (nextT L c).1 v W) => Find_calls (nextT L c).1 a v W h hokM.small hokM.mil
      have hm8 : ¬ (8 : Int) < ((nextT L c).1.length : Int) := by have := hokM.len; omega
      have hsmT : smallEn (findT L a).1.e := by
        unfold findT
        split
        · rename_i t ht; exact hok.1.small t (List.mem_of_find?_eq_some ht)
        · simp [smallEn, txn0, ent0]
      have HSM := Lib.hid hsmT
      generalize (nextT L c).1 = M at *
      generalize findT L a = F1 at *
      generalize findT M a = F2 at *
      obtain ⟨t1, i1⟩ := F1
      obtain ⟨t2, i2⟩ := F2
      simp only at HSt HGo HSM C1 C3
      have rx4 := fun W (kW : K w4 W) => rx W (k4.tr kW)
      have qy4 := fun W (kW : K w4 W) => qy W (k4.tr kW)
      have kk := K.rf w4
      clear rx qy HL3 HC hok hok' hokM hsmT HS
      go_wp2_with fail
      refine (C1.out w4 (K.rf _)).mono ?_
      rintro e w5 ⟨u1, rfl, hT, k5⟩
      obtain ⟨vf1, ve1, rfl, hf1, he1⟩ := hT
      obtain ⟨Af1, cf1, rfl⟩ := flt_slice hf1
      obtain ⟨Ae1, ce1, rfl⟩ := lst_slice he1
      have HE1 := Lib.hid fun W (kW : K w5 W) => (⟨_, _, rfl, flt_st _ _ _ _ hf1 kW, lst_st he1 kW⟩ : ent t1.e (.agg (entA t1.e (.slice Af1 t1.e.f.length cf1) (.slice Ae1 t1.e.es.length ce1))) W)
      clear C1 hf1 he1
      have hx := Blk.new w5 39 (txA t1 (.slice Af1 t1.e.f.length cf1) (.slice Ae1 t1.e.es.length ce1))
      have kx : K w5 (w5.alloc (.cells (txA t1 (.slice Af1 t1.e.f.length cf1) (.slice Ae1 t1.e.es.length ce1)) 39)) := (K.rf w5).al _
      go_upto_region 11 with (fail)
      have k46 := k5.tr kx
      have HE6 := Lib.hid fun W (kW : K (w5.alloc _) W) => HE1.out W (kx.tr kW)
      generalize w5.alloc _ = w6 at *
      generalize w5.heap.size = g5 at *
      have q1 := hx.cells
      have rx6 := fun W (kW : K w6 W) => rx4 W (k46.tr kW)
      have qy6 := fun W (kW : K w6 W) => qy4 W (k46.tr kW)
      have kk := K.rf w6
      clear hx kx k5 HE1 rx4 qy4
      go_wp2_with fail
      refine (C2.out w6 k46).mono ?_
      rintro e w7 ⟨vm, rfl, hM, k7⟩
      have HMs := Lib.hid fun W (kW : K w7 W) => lst_st hM kW
      obtain ⟨Am, cm, rfl⟩ := lst_slice hM
      clear C2 hM
      go_wp2_with fail
      refine (C3.out _ w7 (HMs.out _ (K.rf _))).mono ?_
      rintro e w8 ⟨u2, rfl, hT, k8⟩
      obtain ⟨vf2, ve2, rfl, hf2, he2⟩ := hT
      obtain ⟨Af2, cf2, rfl⟩ := flt_slice hf2
      obtain ⟨Ae2, ce2, rfl⟩ := lst_slice he2
      have HE2 := Lib.hid fun W (kW : K w8 W) => (⟨_, _, rfl, flt_st _ _ _ _ hf2 kW, lst_st he2 kW⟩ : ent t2.e (.agg (entA t2.e (.slice Af2 t2.e.f.length cf2) (.slice Ae2 t2.e.es.length ce2))) W)
      clear C3 hf2 he2
      have hx := Blk.new w8 39 (txA t2 (.slice Af2 t2.e.f.length cf2) (.slice Ae2 t2.e.es.length ce2))
      have kx : K w8 (w8.alloc (.cells (txA t2 (.slice Af2 t2.e.f.length cf2) (.slice Ae2 t2.e.es.length ce2)) 39)) := (K.rf w8).al _
      go_upto_region 13 with (fail)
      have k79 := k8.tr kx
      have k69 := k7.tr k79
      have HE9 := Lib.hid fun W (kW : K (w8.alloc _) W) => HE2.out W (kx.tr kW)
      generalize w8.alloc _ = w9 at *
      generalize w8.heap.size = g8 at *
      have q2 := hx.cells
      have q19 := fun W (kW : K w9 W) => q1 W (k69.tr kW)
      have rx9 := fun W (kW : K w9 W) => rx6 W (k69.tr kW)
      have qy9 := fun W (kW : K w9 W) => qy6 W (k69.tr kW)
      have kk := K.rf w9
      clear hx kx k8 HE2 rx6 qy6 q1
      go_wp2_with fail
      refine (ESame_calls t1.e t2.e _ _ w9 (HE6.out _ k69) (HE9.out _ (K.rf _)) HSM.out).mono ?_
      rintro e wa ⟨rfl, ka⟩
      have q1a := q19 wa ka
      have q2a := q2 wa ka
      have rxa := rx9 wa ka
      have qya := qy9 wa ka
      have HMa := Lib.hid (HMs.out wa (k79.tr ka))
      have k1a := k14.tr (k46.tr (k69.tr ka))
      clear HE6 HE9 q19 q2 rx9 qy9 HMs kk ka k69 k79 k46 k14
      have HN : Hid (lst txS (runT (cs.take (j + 1))) (.slice Am M.length cm) wa) := Lib.hid (by rw [HM.out]; exact HMa.out)
      clear HMa HM HSM HFA
      have hid : (c.kind = 6 ∧ c.id.1 = a.1 ∧ (c.id.2.1 : Int) = (a.2.1 : Int) ∧ (c.id.2.2 : Int) = (a.2.2 : Int)) ∨ ¬ c.kind = 6 ∨ (c.kind = 6 ∧ ¬ c.id.1 = a.1) ∨ (c.kind = 6 ∧ c.id.1 = a.1 ∧ ¬ (c.id.2.1 : Int) = (a.2.1 : Int)) ∨ (c.kind = 6 ∧ c.id.1 = a.1 ∧ (c.id.2.1 : Int) = (a.2.1 : Int) ∧ ¬ (c.id.2.2 : Int) = (a.2.2 : Int)) := by
        by_cases h1 : c.kind = 6
        · by_cases h2 : c.id.1 = a.1
          · by_cases h3 : (c.id.2.1 : Int) = (a.2.1 : Int)
            · by_cases h4 : (c.id.2.2 : Int) = (a.2.2 : Int)
              · exact .inl ⟨h1, h2, h3, h4⟩
              · exact .inr (.inr (.inr (.inr ⟨h1, h2, h3, h4⟩)))
            · exact .inr (.inr (.inr (.inl ⟨h1, h2, h3⟩)))
          · exact .inr (.inr (.inl ⟨h1, h2⟩))
        · exact .inr (.inl h1)
      rcases hid with ⟨h6, e1, e2, e3⟩ | h6 | ⟨h6, e1⟩ | ⟨h6, e1, e2⟩ | ⟨h6, e1, e2, e3⟩
      · obtain rfl : i2 = false := by exact HGo.out ⟨h6, Prod.ext e1 (Prod.ext (Int.ofNat_inj.1 e2) (Int.ofNat_inj.1 e3))⟩
        clear HGo HSt
        cases i1
        · go_wp2
          go_roundw
          case rel => exact ⟨j + 1, by omega, by omega, by go_num, HN, k1a⟩
          case measure => simp [intOf]; omega
        · cases hta : t1.asked
          · go_wp2
            go_roundw
            case rel => exact ⟨j + 1, by omega, by omega, by go_num, HN, k1a⟩
            case measure => simp [intOf]; omega
          · go_wp2
            go_roundw
            case rel => exact ⟨j + 1, by omega, by omega, by go_num, HN, k1a⟩
            case measure => simp [intOf]; omega
      · have HSt2 : Hid (i1 = true → t1.asked = true → (t2, i2) = (t1, i1)) := Lib.hid fun h1 h2 => HSt.out h1 h2 (fun h => h6 h.1)
        clear HGo HSt
        cases i1
        · go_wp2
          go_roundw
          case rel => exact ⟨j + 1, by omega, by omega, by go_num, HN, k1a⟩
          case measure => simp [intOf]; omega
        · cases hta : t1.asked
          · go_wp2
            go_roundw
            case rel => exact ⟨j + 1, by omega, by omega, by go_num, HN, k1a⟩
            case measure => simp [intOf]; omega
          · have h9 := HSt2.out rfl hta
            simp only [Prod.mk.injEq] at h9
            obtain ⟨rfl, rfl⟩ := h9
            have hee : decide (t2.e = t2.e) = true := by simp
            go_wp2
            go_roundw
            case rel => exact ⟨j + 1, by omega, by omega, by go_num, HN, k1a⟩
            case measure => simp [intOf]; omega
      · have HSt2 : Hid (i1 = true → t1.asked = true → (t2, i2) = (t1, i1)) := Lib.hid fun h1 h2 => HSt.out h1 h2 (fun h => e1 (by rw [h.2]))
        clear HGo HSt
        cases i1
        · go_wp2
          go_roundw
          case rel => exact ⟨j + 1, by omega, by omega, by go_num, HN, k1a⟩
          case measure => simp [intOf]; omega
        · cases hta : t1.asked
          · go_wp2
            go_roundw
            case rel => exact ⟨j + 1, by omega, by omega, by go_num, HN, k1a⟩
            case measure => simp [intOf]; omega
          · have h9 := HSt2.out rfl hta
            simp only [Prod.mk.injEq] at h9
            obtain ⟨rfl, rfl⟩ := h9
            have hee : decide (t2.e = t2.e) = true := by simp
            go_wp2
            go_roundw
            case rel => exact ⟨j + 1, by omega, by omega, by go_num, HN, k1a⟩
            case measure => simp [intOf]; omega
      · have HSt2 : Hid (i1 = true → t1.asked = true → (t2, i2) = (t1, i1)) := Lib.hid fun h1 h2 => HSt.out h1 h2 (fun h => e2 (by rw [h.2]))
        clear HGo HSt
        cases i1
        · go_wp2
          go_roundw
          case rel => exact ⟨j + 1, by omega, by omega, by go_num, HN, k1a⟩
          case measure => simp [intOf]; omega
        · cases hta : t1.asked
          · go_wp2
            go_roundw
            case rel => exact ⟨j + 1, by omega, by omega, by go_num, HN, k1a⟩
            case measure => simp [intOf]; omega
          · have h9 := HSt2.out rfl hta
            simp only [Prod.mk.injEq] at h9
            obtain ⟨rfl, rfl⟩ := h9
            have hee : decide (t2.e = t2.e) = true := by simp
            go_wp2
            go_roundw
            case rel => exact ⟨j + 1, by omega, by omega, by go_num, HN, k1a⟩
            case measure => simp [intOf]; omega
      · have HSt2 : Hid (i1 = true → t1.asked = true → (t2, i2) = (t1, i1)) := Lib.hid fun h1 h2 => HSt.out h1 h2 (fun h => e3 (by rw [h.2]))
        clear HGo HSt
        cases i1
        · go_wp2
          go_roundw
          case rel => exact ⟨j + 1, by omega, by omega, by go_num, HN, k1a⟩
          case measure => simp [intOf]; omega
        · cases hta : t1.asked
          · go_wp2
            go_roundw
            case rel => exact ⟨j + 1, by omega, by omega, by go_num, HN, k1a⟩
            case measure => simp [intOf]; omega
          · have h9 := HSt2.out rfl hta
            simp only [Prod.mk.injEq] at h9
            obtain ⟨rfl, rfl⟩ := h9
            have hee : decide (t2.e = t2.e) = true := by simp
            go_wp2
            go_roundw
            case rel => exact ⟨j + 1, by omega, by omega, by go_num, HN, k1a⟩
            case measure => simp [intOf]; omega
    · have hend : (¬ (j : Int) < (cs.length : Int)) ∨ ((j : Int) < (cs.length : Int) ∧ ¬ (j : Int) < 60) := by omega
      have hokL := hok.1
      generalize wr = wo at *
      generalize runT (cs.take j) = L at *
      obtain ⟨Al, cl, rfl, hll, -⟩ := HL.out
      have HO := Lib.hid hokL
      have hlm := hokL.mil
      have kk := K.rf wo
      clear HL hok hokL hlt HF HFA hl1
      rcases hend with hji | ⟨hji, hj6⟩
      all_goals
        go_wp2_with fail
        go_loopw [17] (fun i W => ∃ q : Nat, q ≤ L.length ∧ i = .int .i64 (q : Int) ∧ K wo W) (fun i _ => L.length - (intOf i).toNat)
        case atStart => exact ⟨0, by omega, rfl, kk⟩
        case round =>
          clear kk
          obtain ⟨q, hq, rfl, ks⟩ := hrel
          by_cases hql : q < L.length
          · have hqi : (q : Int) < (L.length : Int) := by omega
            obtain ⟨b1, off, cc1, rfl, hcl, hrl, d0, d⟩ := lsr_cells hll q hql (by decide)
            obtain ⟨g1, g2, g3, g4⟩ := HO.out.bytes (List.getElem_mem hql)
            generalize L[q] = x at *
            obtain ⟨vf, ve, rfl, hf, he⟩ := hrl wo (K.rf wo)
            have d0 : ∀ W, K wo W → W.cell? ⟨b1, off + q * 9, none⟩ = some (.int .i64 x.e.kind) := fun W kW => d0 W kW
            have d : ∀ W, K wo W → ∀ i, i < 9 → W.cell? ⟨b1, off + q * 9 + i, none⟩ = (txA x vf ve)[i]? := fun W kW i hi => (d W kW i hi).trans Array.getElem?_toList
            clear hcl hrl
            rw [← enc_of g1] at g3 g4
            go_wp2_with fail
            refine (NEncode_calls x.e _ wr ⟨_, _, rfl, flt_st _ _ _ _ hf ks, lst_st he ks⟩ g2).mono ?_
            rintro e w2 ⟨v2, rfl, ho2, k2⟩
            obtain ⟨A2, c2, rfl, -⟩ := sl_own ho2
            rw [chkEn_good g1]
            have ks2 := ks.tr k2
            have h0 : (((encEnR x.e).length : Int) == 0) = false := by simp; intro e; rw [e] at g4; simp at g4
            have h3 : ((encEnR x.e).length : Int) ≤ 3000 := by omega
            clear d0 d hf he ho2 g1 g2
            go_wp2
            go_roundw
            case rel => exact ⟨q + 1, by omega, by go_num, ks2⟩
            case measure => simp [intOf]; omega
          · have hqi : ¬ (q : Int) < (L.length : Int) := by omega
            go_wp2
            go_ret
            exact ⟨rfl, k1.tr (kr.tr ks)⟩
end Go.Proofs.Ytjcdgbnbaiebdaa
