/-
  The walk of Decode of the document's answer of layer 11. Conditions: at most four thousand bytes.
-/
import Derived.Test.YthnhdeieimgfhaaDcC
import Derived.Test.YthnhdeieimgfhaaRnB
import Derived.Test.YthnhdeieimgfhaaRfI
import Derived.Test.YthnhdeieimgfhaaWiF
import Derived.Deep.CutBlock
set_option maxRecDepth 100000
namespace Go.Proofs.Ythnhdeieimgfhaa
open Go Go.RowKit

set_option maxHeartbeats 8000000 in
theorem RDecode_calls (A : Option Addr) (n c : Nat) (b : List UInt8) (w : World) (hR : Reads w w.heap.size 1 A n (bys b)) (hnc : n ≤ c) (hn : n ≤ 4000) :
    Calls Try.prog 94 #[.slice A n c] w fun e w' =>
      ∃ v', e = .returned (.tuple #[v', .int .i64 (decEnC b)]) ∧ (∀ W, UpB w.heap.size none w' W → ent (decEnX b) v' W) ∧ K w w' := by
  have hbl : b.length = n := by simpa using hR.len
  subst hbl
  obtain ⟨k, br, li, se, cl, su, l, wr, h6, hL6, hlb, hk64, hb64, hl64, hs64, hc64, hu64⟩ := rd6_list b
  obtain ⟨p0, p1, p2, p3⟩ := decEn_ref hn h6 hlb
  have HP0 := Lib.hid p0
  have HP1 := Lib.hid p1
  have HP2 := Lib.hid p2
  have HP3 := Lib.hid p3
  have hr0 := Blk.new w 58 zEnt
  have k0 : K w (w.alloc (.cells zEnt 58)) := (K.rf w).al _
  have hR0 := (hR.below k0 (Nat.le_refl _)).more k0.size
  obtain ⟨gr, hgr⟩ : ∃ g, g = w.heap.size := ⟨_, rfl⟩
  have HGR := Lib.hid hgr
  have CT := Lib.hid (RTake_calls A c 6 b (w.alloc (.cells zEnt 58)) hR0 hnc (by omega) (by omega))
  rw [hL6, show ((6 : Nat) : Int) = 6 from rfl] at CT
  simp only at CT
  have CS := Lib.hid RSmall_calls
  have HX : Hid (hdR (k, br, li, se, cl, su) = ⟨((min k 1000 : Nat) : Int), ((min br 1000 : Nat) : Int), li, se, ((min cl 1000 : Nat) : Int), su, [], []⟩) := Lib.hid rfl
  clear h6 hL6 hR p0 p1 p2 p3
  go_enter Try.func94, Try.ntmps94
  go_wp2_with fail
  rw [← hgr] at hr0 ⊢
  clear hgr
  generalize w.alloc _ = w1 at *
  refine CT.out.mono ?_
  rintro e w2 ⟨v, at', rfl, k12, hcase⟩
  have k2 := k0.tr k12
  have hr2 := hr0.below k12 hr0.lt
  have hR2 := (hR0.below k12 (Nat.le_refl _)).more k12.size
  clear CT hr0 hR0 k0 k12
  rcases hcase with ⟨hwr, rfl, rfl⟩ | ⟨hwr, hlst, hdrop, hle, hat6⟩
  · have hd := decEn_none (HP0.out hwr)
    have HD := Lib.hid hd
    clear hd HP0 HP1 HP2 HP3 HX CS hwr
    have q := hr2.cell
    have z := hr2.frozen
    go_wp2
    have hr9 := (((((((hr2.set_ 0 (.int .i64 0)).set_ 1 (.int .i64 0)).set_ 2 (.int .u64 0)).set_ 3 (.int .u64 0)).set_ 4 (.int .i64 0)).set_ 5 (.int .u64 0)).set_ 6 (.slice none 0 0)).set_ 7 (.slice none 0 0)
    have e9 := hr9.cell
    refine bodyPost_ret (v := .tuple #[.agg zEnt, .int .i64 110]) (by simp [results, Try.results94, go_sem, e9]) rfl ?_
    refine ⟨.agg zEnt, by rw [HD.out.1], by rw [HD.out.2]; exact fun _ _ => ent_zero _, ?_⟩
    have hg := HGR.out
    exact (((((((k2.setCell (by simp [hg]) _).setCell (by simp [hg]) _).setCell (by simp [hg]) _).setCell (by simp [hg]) _).setCell (by simp [hg]) _).setCell (by simp [hg]) _).setCell (by simp [hg]) _).setCell (by simp [hg]) _
  subst hwr
  replace HP1 := Lib.hid (HP1.out rfl)
  replace HP2 := Lib.hid (HP2.out rfl)
  replace HP3 := Lib.hid (HP3.out rfl)
  obtain ⟨Aq, cq, rfl, hlsr, hcq⟩ := hlst
  obtain ⟨bq, oq, rfl, hcells⟩ := u64L_cells hlsr (by simp)
  have d0 : ∀ W, K w2 W → W.cell? ⟨bq, oq, none⟩ = some (.int .u64 (k : Int)) := fun W kW => by simpa using hcells 0 (by simp) W kW
  have d1 : ∀ W, K w2 W → W.cell? ⟨bq, oq + 1, none⟩ = some (.int .u64 (br : Int)) := fun W kW => by simpa using hcells 1 (by simp) W kW
  have d2 : ∀ W, K w2 W → W.cell? ⟨bq, oq + 2, none⟩ = some (.int .u64 (li : Int)) := fun W kW => by simpa using hcells 2 (by simp) W kW
  have d3 : ∀ W, K w2 W → W.cell? ⟨bq, oq + 3, none⟩ = some (.int .u64 (se : Int)) := fun W kW => by simpa using hcells 3 (by simp) W kW
  have d4 : ∀ W, K w2 W → W.cell? ⟨bq, oq + 4, none⟩ = some (.int .u64 (cl : Int)) := fun W kW => by simpa using hcells 4 (by simp) W kW
  have d5 : ∀ W, K w2 W → W.cell? ⟨bq, oq + 5, none⟩ = some (.int .u64 (su : Int)) := fun W kW => by simpa using hcells 5 (by simp) W kW
  have hq6 : ([k, br, li, se, cl, su] : List Nat).length = 6 := rfl
  rw [hq6] at hcq ⊢
  clear hcells hlsr hq6 HP0
  generalize hdR (k, br, li, se, cl, su) = X0 at *
  have CS0 := Lib.hid (fun W => CS.out k W hk64)
  have CS1 := Lib.hid (fun W => CS.out br W hb64)
  have CS2 := Lib.hid (fun W => CS.out cl W hc64)
  clear CS hk64 hb64 hl64 hs64 hc64 hu64
  have HK1 : Hid (min k 1000 = 1 ↔ k = 1) := Lib.hid (by omega)
  have HK2 : Hid (min k 1000 = 2 ↔ k = 2) := Lib.hid (by omega)
  generalize min k 1000 = kk at *
  generalize min br 1000 = bb at *
  generalize min cl 1000 = cc at *
  have hati : ((at' : Int) == 0) = false := by simp; omega
  go_upto_region 4 with (fail)
  obtain ⟨base, hbase⟩ : ∃ g, g = w2.heap.size := ⟨_, rfl⟩
  obtain ⟨C, hC⟩ : ∃ C : World → Prop, C = fun W => K w2 W := ⟨_, rfl⟩
  have hg : ∀ W W', C W → Below W.heap.size W W' → C W' := by
    subst hC
    intro W W' h hb
    exact h.tr hb
  have hc0 : C w2 := by rw [hC]; exact K.rf _
  obtain ⟨F, hF⟩ : ∃ F : (Nat → Bool) → (Nat → Value) → World → Prop, F = fun _ V W => K w2 W ∧ ∃ g, V 23 = .pointer (some ⟨g, 0, none⟩) ∧ base ≤ g ∧ Blk W g 58 #[.int .i64 (kk : Int), .int .i64 (bb : Int), .int .u64 (li : Int), .int .u64 (se : Int), .int .i64 (cc : Int), .int .u64 (su : Int), .slice none 0 0, .slice none 0 0] := ⟨_, rfl⟩
  refine wp_region_turn4 23 24 [0, 1, 2, 3, 4, 5, 6, 7, 8, 9, 10, 11, 12, 13, 14, 15, 16, 17, 18, 19, 20, 21, 22, 23] [] C (fun _ => True) (fun _ => True) (fun W W' => K W W') F [isV (.slice (some ⟨bq, oq, none⟩) 6 cq),
      isV (.pointer (some ⟨bq, oq, none⟩)),
      isV (.int .u64 (k : Int)),
      isV (.int .i64 (kk : Int)),
      isV (.slice (some ⟨bq, oq, none⟩) 6 cq),
      isV (.pointer (some ⟨bq, oq + 1, none⟩)),
      isV (.int .u64 (br : Int)),
      isV (.int .i64 (bb : Int)),
      isV (.slice (some ⟨bq, oq, none⟩) 6 cq),
      isV (.pointer (some ⟨bq, oq + 2, none⟩)),
      isV (.int .u64 (li : Int)),
      isV (.slice (some ⟨bq, oq, none⟩) 6 cq),
      isV (.pointer (some ⟨bq, oq + 3, none⟩)),
      isV (.int .u64 (se : Int)),
      isV (.agg #[.int .i64 (bb : Int), .int .u64 (li : Int), .int .u64 (se : Int)]),
      isV (.slice (some ⟨bq, oq, none⟩) 6 cq),
      isV (.pointer (some ⟨bq, oq + 4, none⟩)),
      isV (.int .u64 (cl : Int)),
      isV (.int .i64 (cc : Int)),
      isV (.slice (some ⟨bq, oq, none⟩) 6 cq),
      isV (.pointer (some ⟨bq, oq + 5, none⟩)),
      isV (.int .u64 (su : Int)),
      isV (.agg #[.int .i64 (kk : Int), .int .i64 (bb : Int), .int .u64 (li : Int), .int .u64 (se : Int), .int .i64 (cc : Int), .int .u64 (su : Int), .slice none 0 0, .slice none 0 0]),
      newW base 58,
      anyV]
    [([], []), ([0], [(23, 0)]), ([1], [(24, 1)]), ([2], [(25, 2)]), ([], []), ([4], [(27, 4)]), ([5], [(28, 5)]), ([6], [(29, 6)]), ([], []), ([8], [(31, 8)]), ([9], [(32, 9)]), ([], []), ([11], [(34, 11)]), ([12], [(35, 12)]), ([7, 10, 13], [(30, 7), (33, 10), (36, 13)]), ([], []), ([15], [(38, 15)]), ([16], [(39, 16)]), ([17], [(40, 17)]), ([], []), ([19], [(42, 19)]), ([20], [(43, 20)]), ([3, 14, 18, 21], [(26, 3), (37, 14), (41, 18), (44, 21)]), ([], []), ([23, 22], [(6, 23), (45, 22)])] 99 rfl (by kernel_rfl) (by kernel_rfl) (by kernel_rfl) (by decide) (by decide) (by decide) (by kernel_rfl) (by kernel_rfl) hg (fun _ _ h _ => h) (fun _ _ h _ => h) (by exact hg _ _ hc0 (Below.drew (Below.refl _ _))) trivial ?st1 ?stt1 ?ow1 ?_
  case st1 =>
    simp only [List.forall_mem_cons]
    and_intros
    all_goals first | exact isV_st _ | exact anyV_st | exact newW_st _ _ | simp
  case stt1 =>
    simp only [List.zipIdx_cons, List.zipIdx_nil, List.forall_mem_cons, Nat.zero_add, Nat.reduceAdd]
    and_intros
    all_goals first | exact .inl rfl | exact .inr (fun _ _ _ h _ => h) | exact .inr (newW_st _ _) | simp
  case ow1 =>
    simp only [OwedU, OwedT, List.contains_cons, List.contains_nil, Nat.reduceBEq, Bool.or_false, Bool.or_true, Bool.false_eq_true, if_true, if_false, Nat.reduceEqDiff, Nat.reduceAdd, and_true, true_and]
    and_intros
    all_goals try trivial
    all_goals
      first
      | (intro V w' hc hp
         rw [hC] at hc
         have q0 := d0 w' hc
         have q1 := d1 w' hc
         have q2 := d2 w' hc
         have q3 := d3 w' hc
         have q4 := d4 w' hc
         have q5 := d5 w' hc
         try simp only [List.forall_mem_cons, tab_zero, tab_succ, isV] at hp
         try (simp [wantsG, rhoP, List.lookup, hp, tab_zero, tab_succ, ResG, execOp, bareOp, isV, undef, Below.refl, q0, q1, q2, q3, q4, q5, go_sem]; done))
      | skip
    · simp [wantsG, rhoP, List.lookup, hp, tab_zero, tab_succ, ResG, execOp, bareOp, isV, go_sem]
      refine (CS0.out w').mono ?_
      rintro e w3 ⟨rfl, k3⟩
      exact ⟨_, rfl, rfl, k3⟩
    · simp [wantsG, rhoP, List.lookup, hp, tab_zero, tab_succ, ResG, execOp, bareOp, isV, go_sem]
      refine (CS1.out w').mono ?_
      rintro e w3 ⟨rfl, k3⟩
      exact ⟨_, rfl, rfl, k3⟩
    · simp [wantsG, rhoP, List.lookup, hp, tab_zero, tab_succ, ResG, execOp, bareOp, isV, go_sem]
      refine (CS2.out w').mono ?_
      rintro e w3 ⟨rfl, k3⟩
      exact ⟨_, rfl, rfl, k3⟩
    · intro hp2
      simp [tab_zero, tab_succ, ResT, execOp, bareOp, go_sem]
      exact ⟨⟨w'.heap.size, rfl, by rw [hbase]; exact hc.size, Blk.new _ _ _⟩, by rw [hC]; exact hc.al _, (K.rf w').al _⟩
    · intro L V w' hal hc _ hp
      have f22 := hp 22 (hal 22 (by simp))
      have f23 := hp 23 (hal 23 (by simp))
      simp only [tab_zero, tab_succ, isV] at f22 f23
      obtain ⟨b9, e23, hbb, hblk⟩ := f23
      rw [hC] at hc
      generalize hA : rhoP [(6, 23), (45, 22)] _ V = ρ9
      have es : ρ9 (.tmp 6) = .pointer (some ⟨b9, 0, none⟩) := by rw [← hA]; exact e23
      have ex : ρ9 (.tmp 45) = .agg #[.int .i64 (kk : Int), .int .i64 (bb : Int), .int .u64 (li : Int), .int .u64 (se : Int), .int .i64 (cc : Int), .int .u64 (su : Int), .slice none 0 0, .slice none 0 0] := by rw [← hA]; exact f22
      obtain ⟨w'', hrun, hb2, hg2⟩ := exec_storeW (P := Try.prog) (ρ := ρ9) (.tmp 6) (.tmp 45) 58 0 58 b9 0 zEnt _ es ex hblk (by kernel_rfl) (by simp) (by simp [Value.oneCell'])
      rw [hrun]
      rw [hbase] at hbb
      show F _ _ w''
      rw [hF]
      exact ⟨⟨hg2.os.trans hc.os, hg2.tape.trans hc.tape, hg2.output.trans hc.output, Nat.le_trans hc.size hg2.size, fun i hi => (hg2.block i (Nat.lt_of_lt_of_le hi hc.size) (by intro e; injection e with e; omega)).trans (hc.block i hi)⟩, b9, by simp [updV, e23], by rw [hbase]; exact hbb, hb2⟩
  intro V W hFW
  rw [hF] at hFW
  obtain ⟨kk2, g, e23, hbg, hx⟩ := hFW
  simp only [putAll, Act.put, List.setIfInBounds_toArray, List.set_cons_succ, List.set_cons_zero, e23]
  have kW := k2.tr kk2
  have hrW := hr2.below kk2 hr2.lt
  have hgz := hx.lt
  have hrg : gr < g := Nat.lt_of_lt_of_le hr2.lt (by rw [hbase] at hbg; exact hbg)
  have hRp := ((hR2.below kk2 (Nat.le_refl _)).more kk2.size).post (A' := if c = at' then A else A.map (·.add at')) at' (by intro h; rw [if_neg (by omega)])
  have hdl : (b.drop at').length = b.length - at' := by simp
  rw [← hdrop] at hRp hdl
  have HDL := Lib.hid hdl
  clear hF hC hg hc0 e23 d0 d1 d2 d3 d4 d5 CS0 CS1 CS2 hdrop hdl hR2 hr2 k2 kk2 hbg hcq hbase
  go_upto_region 5 with (fail)
  go_cut [0, 7] from 46 to 48 (fun u s wc => u = .slice A b.length c ∧ slc wc.heap.size l s wc ∧ wc = W)
  case first =>
    by_cases hcK : c = at'
    all_goals
      first | rw [if_pos hcK] at hRp | rw [if_neg hcK] at hRp
      have hll := HDL.out
      clear HDL
      go_wp2
      go_meet
      case rel => exact ⟨by first | rfl | rw [hcK], ⟨_, _, by rw [hll], by rw [hll]; exact hRp, by omega⟩, rfl⟩
  case rest =>
  obtain ⟨rfl, hs, rfl⟩ := hcut
  clear hRp HDL
  have hll9 : l.length ≤ 4000 := by omega
  have HLEN := Lib.hid (@lsP_lit l)
  have q := hx.cell
  go_upto_block 0 with (fail)
  clear q
  go_cut [8, 9, 10, 11, 12, 13, 14] from 51 to 89 (fun ov _ _ _ _ _ _ W => ∃ (o : Bool) (f : List Tst) (es : List (List Att)) (Af Ae : Option Addr) (nf ne cf ce : Nat), ov = .bool o ∧ K w W ∧ Blk W gr 58 zEnt ∧
    Blk W g 58 #[.int .i64 (kk : Int), .int .i64 (bb : Int), .int .u64 (li : Int), .int .u64 (se : Int), .int .i64 (cc : Int), .int .u64 (su : Int), .slice Af nf cf, .slice Ae ne ce] ∧
    Hid (decEn b = finD o ⟨kk, bb, li, se, cc, su, f, es⟩) ∧ Hid (o = true → litEn ⟨kk, bb, li, se, cc, su, f, es⟩ ∧ (∀ W', UpB (g + 1) none W W' → flt f (.slice Af nf cf) W') ∧ (∀ W', UpB (g + 1) none W W' → lst evS es (.slice Ae ne ce) W')))
  case first =>
    obtain ⟨Al, cl', rfl, hRl, hcl'⟩ := hs
    by_cases hk1 : kk = 1
    · subst hk1
      replace hx : Blk wc g 58 #[.int .i64 1, .int .i64 (bb : Int), .int .u64 (li : Int), .int .u64 (se : Int), .int .i64 (cc : Int), .int .u64 (su : Int), .slice none 0 0, .slice none 0 0] := hx
      have HD := Lib.hid (HP1.out (HK1.out.1 rfl))
      rw [HX.out] at HD
      have CL := Lib.hid (RListed_calls Al l.length cl' l wc hRl hcl' (by omega))
      generalize lsP l = P at *
      clear HP1 HP2 HP3 HK1 HK2 HX hRl
      have q := hx.cell
      go_wp2_with fail
      clear q
      refine CL.out.mono ?_
      rintro e wd ⟨A', n', c', ok, rfl, kd, hok, hes⟩
      have HOK := Lib.hid hok
      have HES := Lib.hid hes
      have hxd := hx.below kd hgz
      have hrd := hrW.below kd hrW.lt
      have kWd := kW.tr kd
      have hgzd := hxd.lt
      have hzz := kd.size
      clear hok hes CL hx hrW kW kd
      have q := hxd.cell
      have z := hxd.frozen
      go_wp2
      go_meet
      case rel =>
        refine ⟨ok, [], P.getD [], none, A', 0, n', 0, c', rfl, kWd.setCell (by have := HGR.out; simp; omega) _, hrd.far (by simp; omega) _, hxd.set_ 7 _, Lib.hid (by rw [HD.out, HOK.out]), Lib.hid fun ho => ⟨⟨by simp, by simp, by have := HLEN.out.1; simp only; omega, HLEN.out.2⟩, fun _ _ => ⟨none, 0, rfl, Reads.nil _ _ _ _⟩, fun W' u => ?_⟩⟩
        cases hP : P with
        | none => rw [HOK.out, hP] at ho; cases ho
        | some es => exact HES.out es hP W' ((UpB.set (lo := g + 1) (by omega) 7 _).tr u |>.more (by omega) (fun k hk _ => by simp))
    · by_cases hk2 : kk = 2
      · subst hk2
        replace hx : Blk wc g 58 #[.int .i64 2, .int .i64 (bb : Int), .int .u64 (li : Int), .int .u64 (se : Int), .int .i64 (cc : Int), .int .u64 (su : Int), .slice none 0 0, .slice none 0 0] := hx
        have HD := Lib.hid (HP2.out (HK2.out.1 rfl))
        rw [HX.out] at HD
        have hzw := Nat.le_refl wc.heap.size
        have CL := Lib.hid (GetBytes_calls Al l.length cl' l 4000 wc _ hRl hzw (by omega) hcl' (by omega) (by omega))
        have hKk := getBK_le 4000 l
        have hNM := rdB_most 4000 l false
        clear HP1 HP2 HP3 HK1 HK2 HX hRl hzw hk1
        go_wp2_with fail
        refine CL.out.mono ?_
        rintro e wd ⟨A3, c3, rfl, hr3, hc3, kd⟩
        have hzd := kd.size
        clear CL
        generalize (rdB 4000 l false).1 = bs at *
        generalize getBK 4000 l = K2 at *
        go_wp2_with fail
        refine (RefFDecode_calls A3 c3 bs wd _ hr3 (by omega) (by omega) hc3).mono ?_
        rintro e we ⟨v9, rfl, ho9, ke⟩
        have HF := Lib.hid ho9.rel
        have hfl := flt_own ho9
        obtain ⟨A9, c9, rfl⟩ := flt_slice hfl
        have kd2 := kd.tr ke
        have hze := ke.size
        have hxd := hx.below kd2 hgz
        have hrd := hrW.below kd2 hrW.lt
        have kWd := kW.tr kd2
        have hgzd := hxd.lt
        have HLF := Lib.hid (decFL_len bs)
        have HFT := Lib.hid (decFL_fit bs)
        clear ho9 hfl hx hrW kW kd kd2 ke hr3
        have q := hxd.cell
        have z := hxd.frozen
        obtain ⟨o, ho⟩ : ∃ o, o = ((decide (0 < K2) && decide (K2 = l.length)) && (decF8 bs).isSome) := ⟨_, rfl⟩
        have HO := Lib.hid ho
        rw [← ho] at HD
        clear ho
        have HR : Hid (∀ W' : World, W' = we.setCell ⟨g, 6, none⟩ (.slice A9 (decFL bs).length c9) → K w W' ∧ Blk W' gr 58 zEnt ∧
            Blk W' g 58 #[.int .i64 2, .int .i64 (bb : Int), .int .u64 (li : Int), .int .u64 (se : Int), .int .i64 (cc : Int), .int .u64 (su : Int), .slice A9 (decFL bs).length c9, .slice none 0 0] ∧
            (∀ W'', UpB (g + 1) none W' W'' → flt (decFL bs) (.slice A9 (decFL bs).length c9) W'')) := Lib.hid fun W' hW' => by
          subst hW'
          refine ⟨kWd.setCell (by have := HGR.out; simp; omega) _, hrd.far (by simp; omega) _, hxd.set_ 6 _, fun W'' u => HF.out W'' ((UpB.set (lo := g + 1) (by omega) 6 _).tr u |>.more (by omega) (fun k hk _ => by simp))⟩
        cases hd8 : decF8 bs with
        | none =>
          have hc8 := (decF_none' hd8).1
          replace HO : Hid (o = false) := Lib.hid (by rw [HO.out, hd8]; simp)
          rw [hc8]
          clear hd8 hc8
          by_cases hK0 : K2 = 0
          · subst hK0
            go_wp2
            go_meet
            case rel =>
              obtain ⟨r1, r2, r3, r4⟩ := HR.out _ rfl
              exact ⟨o, decFL bs, [], A9, none, _, 0, c9, 0, by rw [HO.out], r1, r2, r3, HD, Lib.hid fun h => by rw [HO.out] at h; cases h⟩
          · have hK1 : (0 : Int) < (K2 : Int) := by omega
            go_wp2
            all_goals
              go_meet
              case rel =>
                obtain ⟨r1, r2, r3, r4⟩ := HR.out _ rfl
                exact ⟨o, decFL bs, [], A9, none, _, 0, c9, 0, by first | (rw [HO.out]; done) | (rw [HO.out]; simp), r1, r2, r3, HD, Lib.hid fun h => by rw [HO.out] at h; cases h⟩
        | some f8 =>
          have hc8 := (decF_some' hd8).1
          replace HO : Hid (o = (decide (0 < K2) && decide (K2 = l.length))) := Lib.hid (by rw [HO.out, hd8]; simp)
          rw [hc8]
          clear hd8 hc8
          by_cases hK0 : K2 = 0
          · subst hK0
            go_wp2
            go_meet
            case rel =>
              obtain ⟨r1, r2, r3, r4⟩ := HR.out _ rfl
              exact ⟨o, decFL bs, [], A9, none, _, 0, c9, 0, by first | (rw [HO.out]; done) | (rw [HO.out]; simp), r1, r2, r3, HD, Lib.hid fun h => by rw [HO.out] at h; simp at h⟩
          · have hK1 : (0 : Int) < (K2 : Int) := by omega
            by_cases hKl : K2 = l.length
            · have hKl2 : ((K2 : Int) == (l.length : Int)) = true := by simp [hKl]
              replace HO : Hid (o = true) := Lib.hid (by rw [HO.out]; simp; omega)
              have HLITF := Lib.hid (show litEn ⟨2, bb, li, se, cc, su, decFL bs, []⟩ from ⟨by have := HLF.out; simp only; omega, fun t ht => by have := (HFT.out t ht).2; omega, by simp, by simp⟩)
              clear hKl
              go_wp2
              all_goals
                go_meet
                case rel =>
                  obtain ⟨r1, r2, r3, r4⟩ := HR.out _ rfl
                  exact ⟨o, decFL bs, [], A9, none, _, 0, c9, 0, by rw [HO.out], r1, r2, r3, HD, Lib.hid fun _ => ⟨HLITF.out, r4, fun W' _ => lst_nil _ _⟩⟩
            · have hKl2 : ((K2 : Int) == (l.length : Int)) = false := by simp; omega
              replace HO : Hid (o = false) := Lib.hid (by rw [HO.out]; simp; omega)
              clear hKl
              go_wp2
              all_goals
                go_meet
                case rel =>
                  obtain ⟨r1, r2, r3, r4⟩ := HR.out _ rfl
                  exact ⟨o, decFL bs, [], A9, none, _, 0, c9, 0, by rw [HO.out], r1, r2, r3, HD, Lib.hid fun h => by rw [HO.out] at h; cases h⟩
      · have h1 : ((kk : Int) == 1) = false := by simp; omega
        have h2 : ((kk : Int) == 2) = false := by simp; omega
        have HD := Lib.hid (HP3.out (fun e => hk1 (HK1.out.2 e)) (fun e => hk2 (HK2.out.2 e)))
        rw [HX.out] at HD
        have hel := len0' l
        generalize l.isEmpty = Be at *
        clear HP1 HP2 HP3 HK1 HK2 HX hRl hk1 hk2 HLEN
        have q := hx.cell
        go_wp2
        go_meet
        case rel =>
          exact ⟨Be, [], [], none, none, 0, 0, 0, 0, rfl, kW, hrW, hx, HD, Lib.hid fun _ => ⟨⟨by simp, by simp, by simp, by simp⟩, fun _ _ => ⟨none, 0, rfl, Reads.nil _ _ _ _⟩, fun _ _ => lst_nil _ _⟩⟩
  case rest =>
  clear hx kW hrW hs HP1 HP2 HP3 HK1 HK2 HX HLEN
  obtain ⟨o, f, es, Af, Ae, nf, ne, cf, ce, rfl, kW, hrW, hx, HD, HL⟩ := hcut
  have hgz := hx.lt
  cases o
  · have hd := decEn_none (b := b) (by rw [HD.out]; rfl)
    have HE := Lib.hid hd
    clear hd HD HL
    have q := hrW.cell
    have z := hrW.frozen
    go_wp2
    have hr9 := (((((((hrW.set_ 0 (.int .i64 0)).set_ 1 (.int .i64 0)).set_ 2 (.int .u64 0)).set_ 3 (.int .u64 0)).set_ 4 (.int .i64 0)).set_ 5 (.int .u64 0)).set_ 6 (.slice none 0 0)).set_ 7 (.slice none 0 0)
    have e9 := hr9.cell
    refine bodyPost_ret (v := .tuple #[.agg zEnt, .int .i64 110]) (by simp [results, Try.results94, go_sem, e9]) rfl ?_
    have hg := HGR.out
    exact ⟨.agg zEnt, by rw [HE.out.1], by rw [HE.out.2]; exact fun _ _ => ent_zero _, (((((((kW.setCell (by simp [hg]) _).setCell (by simp [hg]) _).setCell (by simp [hg]) _).setCell (by simp [hg]) _).setCell (by simp [hg]) _).setCell (by simp [hg]) _).setCell (by simp [hg]) _).setCell (by simp [hg]) _⟩
  · obtain ⟨hlit, hF, hE⟩ := HL.out rfl
    have hf := hF wc (UpB.rf _ _ _)
    have he := hE wc (UpB.rf _ _ _)
    obtain ⟨A8, c8, e8⟩ := flt_slice hf
    obtain ⟨A7, c7, e7⟩ := lst_slice he
    injection e8 with e81 e82 e83
    injection e7 with e71 e72 e73
    subst e81 e82 e83 e71 e72 e73
    have CC := Lib.hid (REChk_calls ⟨kk, bb, li, se, cc, su, f, es⟩ (.agg (entA ⟨kk, bb, li, se, cc, su, f, es⟩ (.slice Af f.length cf) (.slice Ae es.length ce))) wc ⟨_, _, rfl, hf, he⟩ hlit)
    have HFF := Lib.hid hF
    have HEE := Lib.hid hE
    clear hF hE HL hlit hf he
    have q := hx.cell
    go_wp2_with fail
    clear q
    refine CC.out.mono ?_
    rintro e w9 ⟨rfl, k9⟩
    have hx9 := hx.below k9 hgz
    have hr9 := hrW.below k9 hrW.lt
    have kW9 := kW.tr k9
    have UQ := UpB.of_k k9 (g + 1) none
    clear CC k9 hx hrW kW
    have q := hx9.cell
    have qr := hr9.cell
    have z := hr9.frozen
    cases hok : okEn ⟨kk, bb, li, se, cc, su, f, es⟩
    · have hc : chkEn ⟨kk, bb, li, se, cc, su, f, es⟩ = 110 := by simp [chkEn, hok]
      have hd := decEn_none (b := b) (by rw [HD.out, finD, hok]; rfl)
      have HE := Lib.hid hd
      rw [hc]
      clear hd HD hc hok UQ
      go_wp2
      have hr10 := (((((((hr9.set_ 0 (.int .i64 0)).set_ 1 (.int .i64 0)).set_ 2 (.int .u64 0)).set_ 3 (.int .u64 0)).set_ 4 (.int .i64 0)).set_ 5 (.int .u64 0)).set_ 6 (.slice none 0 0)).set_ 7 (.slice none 0 0)
      have e9 := hr10.cell
      refine bodyPost_ret (v := .tuple #[.agg zEnt, .int .i64 110]) (by simp [results, Try.results94, go_sem, e9]) rfl ?_
      have hg := HGR.out
      exact ⟨.agg zEnt, by rw [HE.out.1], by rw [HE.out.2]; exact fun _ _ => ent_zero _, (((((((kW9.setCell (by simp [hg]) _).setCell (by simp [hg]) _).setCell (by simp [hg]) _).setCell (by simp [hg]) _).setCell (by simp [hg]) _).setCell (by simp [hg]) _).setCell (by simp [hg]) _).setCell (by simp [hg]) _⟩
    · have hc : chkEn ⟨kk, bb, li, se, cc, su, f, es⟩ = 0 := by simp [chkEn, hok]
      have hd := decEn_some (b := b) (x := ⟨kk, bb, li, se, cc, su, f, es⟩) (by rw [HD.out, finD, hok]; rfl)
      have HE := Lib.hid hd
      rw [hc]
      have HU := Lib.hid UQ
      clear hd HD hc hok UQ
      go_wp2
      have hr10 := (((((((hr9.set_ 0 (.int .i64 (kk : Int))).set_ 1 (.int .i64 (bb : Int))).set_ 2 (.int .u64 (li : Int))).set_ 3 (.int .u64 (se : Int))).set_ 4 (.int .i64 (cc : Int))).set_ 5 (.int .u64 (su : Int))).set_ 6 (.slice Af f.length cf)).set_ 7 (.slice Ae es.length ce)
      have e9 := hr10.cell
      refine bodyPost_ret (v := .tuple #[.agg #[.int .i64 (kk : Int), .int .i64 (bb : Int), .int .u64 (li : Int), .int .u64 (se : Int), .int .i64 (cc : Int), .int .u64 (su : Int), .slice Af f.length cf, .slice Ae es.length ce], .int .i64 0]) (by simp [results, Try.results94, go_sem, e9]) rfl ?_
      have UQ := HU.out
      have hg := HGR.out
      refine ⟨.agg #[.int .i64 (kk : Int), .int .i64 (bb : Int), .int .u64 (li : Int), .int .u64 (se : Int), .int .i64 (cc : Int), .int .u64 (su : Int), .slice Af f.length cf, .slice Ae es.length ce], by rw [HE.out.1], fun W' u => ?_, (((((((kW9.setCell (by simp [hg]) _).setCell (by simp [hg]) _).setCell (by simp [hg]) _).setCell (by simp [hg]) _).setCell (by simp [hg]) _).setCell (by simp [hg]) _).setCell (by simp [hg]) _).setCell (by simp [hg]) _⟩
      rw [HE.out.2]
      have UA := ((((((((UQ.tr (UpB.set (lo := g + 1) (by omega) _ _)).tr (UpB.set (lo := g + 1) (by omega) _ _)).tr (UpB.set (lo := g + 1) (by omega) _ _)).tr (UpB.set (lo := g + 1) (by omega) _ _)).tr (UpB.set (lo := g + 1) (by omega) _ _)).tr (UpB.set (lo := g + 1) (by omega) _ _)).tr (UpB.set (lo := g + 1) (by omega) _ _)).tr (UpB.set (lo := g + 1) (by omega) _ _)).tr (u.more (by omega) (fun k hk _ => by simp))
      exact ⟨_, _, rfl, HFF.out W' UA, HEE.out W' UA⟩
end Go.Proofs.Ythnhdeieimgfhaa
