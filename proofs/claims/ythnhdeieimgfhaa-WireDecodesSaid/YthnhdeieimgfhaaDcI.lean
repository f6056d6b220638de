/-
  The walk of entries of the document's answer of layer 13's source. Conditions: at most four thousand bytes.
-/
import Derived.Test.YthnhdeieimgfhaaDcH
set_option maxRecDepth 100000
namespace Go.Proofs.Ythnhdeieimgfhaa
open Go Go.RowKit

theorem rdB_short (n : Int) (l : List UInt8) (wr : Bool) : (rdB n l wr).1.length ≤ l.length := by
  have := rdN_len l wr
  unfold rdB
  split
  · simp
  · simp only [List.length_take]; omega
set_option maxHeartbeats 4000000 in
theorem SEnts_calls (g : Nat) (l : List UInt8) (ok : Bool) (w : World) (h : Sr g l ok w) :
    Calls Try.prog 65 #[.pointer (some ⟨g, 0, none⟩)] w fun e w' => SL enS (rdLi (rdEb 65536)) g l ok w e w' := by
  have hgw := h.lt
  have S : Hid (Stk (rdEb 65536)) := Lib.hid (Stk.of (rdEb_codec 65536))
  go_enter Try.func65, Try.ntmps65
  go_wp2_with fail
  refine (SCount_calls g l ok w h).mono ?_
  rintro e w1 ⟨n, l1, ok1, rfl, h1, m1, hn16, hf⟩
  have HF := Lib.hid hf
  clear hf h
  go_wp2_with fail
  go_loopw [3, 5] (fun o i W => ∃ j : Nat, j ≤ n ∧ i = .int .i64 (j : Int) ∧ ∃ xs lj okj, Hid (Sr g lj okj W) ∧ Hid (xs.length = j) ∧ Hid (OwnL w.heap.size w.heap.size 58 enS xs o W) ∧ w.grownBy W (some g) ∧ Hid (Fit (rdL3 (rdEb 65536) j) l1 ok1 xs lj okj)) (fun _ i _ => n - (intOf i).toNat)
  case atStart =>
    refine ⟨0, by omega, rfl, [], l1, ok1, Lib.hid h1, Lib.hid rfl, Lib.hid (OwnL.nil _ _ _ _ _), m1, Lib.hid ?_⟩
    cases ok1
    · exact .inr ⟨rfl, .inl rfl⟩
    · exact .inl ⟨rfl, rfl, rfl⟩
  case round =>
    clear h1 m1
    obtain ⟨j, hj, rfl, xs, lj, okj, HS, hxl, HO, mj, HFj⟩ := hrel
    have hzj := mj.size
    have hx16 : xs.length ≤ 16 := by have := hxl.out; omega
    obtain ⟨A, c, hx, -, -, -⟩ := HS.out
    have q := hx.cell
    have z := hx.frozen
    clear hx
    by_cases hlt : j < n
    · have hji : (j : Int) < (n : Int) := by omega
      cases okj
      · have HFE := Lib.hid (Fit.li S.out HF.out (Fit.l3up S.out HFj.out hj))
        have HL : Hid (∀ W', W' = wr → lstW enS w.heap.size xs u3 W') := Lib.hid fun W' e W'' u => by
          subst e
          exact (HO.out.up (Nat.le_refl _) (u.upB (lo := w.heap.size) (row := none) (fun k h1 _ _ hx => by omega))).lst
        go_wp2
        go_ret
        unfold SL; exact ⟨_, xs, lj, false, rfl, HL.out _ rfl, HS.out, mj, HFE.out⟩
      · obtain ⟨Aj, cj, hxj, hRj, hcj, hlj⟩ := HS.out
        have HBk := Lib.hid (@getBK_bad 65536 lj)
        have HGk := Lib.hid (@getBK_good 65536 lj)
        have hKk := getBK_le 65536 lj
        have hNM := rdB_short 65536 lj false
        have hjz := hxj.lt
        have CG := Lib.hid (GetBytes_calls Aj lj.length cj lj 65536 wr g hRj (by omega) (by omega) hcj (by omega) (by omega))
        clear q z
        have q := hxj.cell
        go_wp2_with fail
        clear q
        refine CG.out.mono ?_
        rintro e w3 ⟨A3, c3, rfl, hr3, hc3, k3⟩
        have hx3 := hxj.below k3 hjz
        have hR3 := hRj.below k3 (by omega)
        have m3 := mut_trans mj (mut_of_below k3 (some g))
        have hO3 := HO.out.st k3
        have hz3 := k3.size
        have HS3 := Lib.hid (HS.out.st k3)
        clear CG HO HS hxj hRj mj k3
        have q := hx3.cell
        have z := hx3.frozen
        by_cases hk : getBK 65536 lj = 0
        · have hki : ((getBK 65536 lj : Int) == 0) = true := by simp [hk]
          have HFE := Lib.hid (Fit.li S.out HF.out (Fit.l3up S.out (Fit.worse (Fit.l3s S.out HFj.out (x := ent0) (lk := lj) (okk := false) (.inr ⟨rfl, .inr (by
            have h1 := HBk.out hk
            simp only [rdEb, h1, Bool.true_or])⟩)) rfl [] lj) (by omega : j + 1 ≤ n)))
          have HS4 := Lib.hid (Sr.setok HS3.out false)
          clear hk HBk HGk HFj hO3
          generalize (rdB 65536 lj false).1 = bs at *
          generalize getBK 65536 lj = K1 at *
          go_wp2
          go_ret
          unfold SL; exact ⟨_, [], lj, false, rfl, fun _ _ => lst_nil _ _, HS4.out, mut_set m3 rfl _, HFE.out⟩
        have hki : ((getBK 65536 lj : Int) == 0) = false := by simp [hk]
        have hg1 := HGk.out hk
        have HRE : Hid (rdEb 65536 lj false false = (decEnX (rdB 65536 lj false).1, lj.drop (getBK 65536 lj), false, (decEn (rdB 65536 lj false).1).isNone)) := Lib.hid (by
          have h21 : (rdB 65536 lj false).2 = (lj.drop (getBK 65536 lj), false) := by rw [hg1]
          simp only [rdEb, h21, Bool.false_or])
        have hRp := hR3.post (A' := if cj = getBK 65536 lj then Aj else Aj.map (·.add (getBK 65536 lj))) (getBK 65536 lj) (by intro h; rw [if_neg (by omega)])
        have hdl : (lj.drop (getBK 65536 lj)).length = lj.length - getBK 65536 lj := by simp
        have HDL := Lib.hid hdl
        clear hdl hg1 hk HBk HGk HS3 hR3
        generalize (rdB 65536 lj false).1 = bs at *
        generalize getBK 65536 lj = K1 at *
        generalize lj.drop K1 = lk at *
        go_wp2_with fail
        clear q z
        have hr33 := hr3.more (B' := w3.heap.size) (by omega)
        refine (RDecode_calls A3 bs.length c3 bs w3 hr33 hc3 (by omega)).mono ?_
        rintro e w4 ⟨v4, rfl, hv4, k4⟩
        have hv4w := hv4 w4 (UpB.rf _ _ _)
        have HV4 := Lib.hid hv4
        have HRE2 : Hid (decEnC bs = if (decEn bs).isNone then 110 else 0) := Lib.hid (by cases h : decEn bs <;> simp [decEnC, h])
        generalize decEnX bs = X at *
        obtain ⟨vf, ve, rfl, hf, he⟩ := hv4w
        obtain ⟨Af, cf, rfl⟩ := flt_slice hf
        obtain ⟨Ae, ce, rfl⟩ := lst_slice he
        have kB : K w4 (w4.alloc (.cells #[.int .i64 X.kind, .int .i64 X.br, .int .u64 (X.life : Int), .int .u64 (X.ser : Int), .int .i64 X.cl, .int .u64 (X.sub : Int), .slice Af X.f.length cf, .slice Ae X.es.length ce] 58)) := (K.rf w4).al _
        have hz4 := k4.size
        have hxe := Blk.new w4 58 #[.int .i64 X.kind, .int .i64 X.br, .int .u64 (X.life : Int), .int .u64 (X.ser : Int), .int .i64 X.cl, .int .u64 (X.sub : Int), .slice Af X.f.length cf, .slice Ae X.es.length ce]
        have k5 := k4.tr kB
        have hx5 := hx3.below k5 (by have := hx3.lt; omega)
        have hR5 := hRp.below k5 (by have := hx3.lt; omega)
        have m5 := mut_trans m3 (mut_of_below k5 (some g))
        have hO5 := hO3.st k5
        have hvc3 := hO3.blk
        have hg4 : g < w4.heap.size := by have := hx3.lt; omega
        clear hf he hv4 hr3 hr33 hx3 m3 hO3 k4 hRp
        obtain ⟨nb, hnb⟩ : ∃ nb, nb = (decEn bs).isNone := ⟨_, rfl⟩
        rw [← hnb] at HRE HRE2
        clear hnb
        go_upto_region 11 with (fail)
        have HUB := Lib.hid (UpB.of_k kB w3.heap.size none)
        clear kB
        generalize w4.alloc _ = w5 at *
        generalize w4.heap.size = gi at *
        have hs5 : ∀ b, Sr g lj b (w5.setCell ⟨g, 1, none⟩ (.bool b)) → True := fun _ _ => trivial
        clear hs5
        have q := hx5.cell
        have z := hx5.frozen
        have m6 : w.grownBy (w5.setCell ⟨g, 1, none⟩ (.bool !nb)) (some g) := mut_set m5 rfl _
        have hO6 := hO5.up (Nat.le_refl _) (UpB.set (lo := w.heap.size) (W := w5) hgw 1 (.bool !nb))
        have hx6 := hx5.set_ 1 (.bool !nb)
        have hR6 := hR5.below (w' := w5.setCell ⟨g, 1, none⟩ (.bool !nb)) (Below.setCell (Below.refl _ _) (by simp) _) (Nat.le_refl _)
        have hxe6 : Blk (w5.setCell ⟨g, 1, none⟩ (.bool !nb)) gi 58 _ := hxe.far (by simp; omega) _
        have HU6 := Lib.hid (HUB.out.tr (UpB.set (lo := w3.heap.size) (W := w5) (b := g) (by omega) 1 (.bool !nb)))
        clear m5 hO5 hx5 hR5 hxe k5 HUB
        go_cut [0, 9] from 36 to 51 (fun v ev W => v = .pointer (some ⟨g, 0, none⟩) ∧ ev = .int .i64 (decEnC bs) ∧ w5.setCell ⟨g, 1, none⟩ (.bool !nb) = W)
        case first =>
          clear m6 hO6 hx6 hR6 hxe6 HU6
          rw [HRE2.out]
          cases nb
          · go_wp2
            go_meet
            case rel => exact ⟨rfl, by rw [HRE2.out]; rfl, rfl⟩
          · go_wp2
            go_meet
            case rel => exact ⟨rfl, by rw [HRE2.out]; rfl, rfl⟩
        case rest =>
        obtain ⟨rfl, rfl, rfl⟩ := hcut
        clear q z
        generalize w5.setCell _ _ = w6 at *
        have HF6 : Hid (Fit (rdL3 (rdEb 65536) (j + 1)) l1 ok1 (xs ++ [X]) lk !nb) := Lib.hid (Fit.l3s S.out HFj.out (by
          cases nb
          · exact .inl ⟨rfl, rfl, HRE.out⟩
          · exact .inr ⟨rfl, .inr (by rw [HRE.out]; rfl)⟩))
        clear HFj HRE HRE2
        go_upto_region 12 with (fail)
        have hg6 := hx6.lt
        have hvc := hO6.blk
        have HFIN : Hid (∀ A' c', A' = (if cj = K1 then Aj else Aj.map (·.add K1)) → c' = cj - K1 → Sr g lk (!nb) (w6.setCell ⟨g, 0, none⟩ (.slice A' (lj.length - K1) c'))) := Lib.hid fun A' c' h1 h2 => by
          refine ⟨A', c', ?_, ?_, by rw [HDL.out]; omega, by rw [HDL.out]; omega⟩
          · rw [HDL.out]; exact hx6.set_ 0 _
          · rw [HDL.out, h1]; exact hR6.below (Below.setCell (Below.refl _ _) (by simp) _) (Nat.le_refl _)
        have HXE : Hid (∀ u, Blk (w6.setCell ⟨g, 0, none⟩ u) gi 58 #[.int .i64 X.kind, .int .i64 X.br, .int .u64 (X.life : Int), .int .u64 (X.ser : Int), .int .i64 X.cl, .int .u64 (X.sub : Int), .slice Af X.f.length cf, .slice Ae X.es.length ce]) := Lib.hid fun u => hxe6.far (by simp; omega) _
        have HM7 : Hid (∀ u, w.grownBy (w6.setCell ⟨g, 0, none⟩ u) (some g)) := Lib.hid fun u => mut_set m6 rfl _
        have HO7 : Hid (∀ u, OwnL w.heap.size w.heap.size 58 enS xs u3 (w6.setCell ⟨g, 0, none⟩ u)) := Lib.hid fun u => hO6.up (Nat.le_refl _) (UpB.set (lo := w.heap.size) (W := w6) hgw 0 u)
        have HU7 : Hid (∀ u, UpB w3.heap.size none w4 (w6.setCell ⟨g, 0, none⟩ u)) := Lib.hid fun u => HU6.out.tr (UpB.set (lo := w3.heap.size) (W := w6) (b := g) (by omega) 0 u)
        have q := hx6.cell
        have z := hx6.frozen
        clear hx6 hR6 hxe6 m6 hO6 HU6
        go_cut [0] from 52 to 60 (fun v W => v = .pointer (some ⟨g, 0, none⟩) ∧ Sr g lk (!nb) W ∧ ∃ u, w6.setCell ⟨g, 0, none⟩ u = W)
        case first =>
          by_cases hcK : cj = K1
          all_goals
            go_wp2
            go_meet
            case rel => exact ⟨rfl, HFIN.out _ _ (by first | rw [if_pos hcK] | rw [if_neg hcK]) (by omega), _, rfl⟩
        case rest =>
        obtain ⟨rfl, hs7, u7, hu7⟩ := hcut
        clear q z HFIN
        have hxe7 := HXE.out u7
        have m7 := HM7.out u7
        have hO7 := HO7.out u7
        have HU := HU7.out u7
        rw [hu7] at hxe7 m7 hO7 HU
        have HU := Lib.hid HU
        clear hu7 HXE HM7 HO7 HU7
        have hz7 := m7.size
        have hvc7 := hO7.blk
        obtain ⟨css, hown, hcl, hEa⟩ := hO7
        have kA : K wc (wc.alloc (.cells #[.int .i64 X.kind, .int .i64 X.br, .int .u64 (X.life : Int), .int .u64 (X.ser : Int), .int .i64 X.cl, .int .u64 (X.sub : Int), .slice Af X.f.length cf, .slice Ae X.es.length ce] 58)) := (K.rf wc).al _
        have hbase : w.heap.size ≤ (wc.alloc (.cells #[.int .i64 X.kind, .int .i64 X.br, .int .u64 (X.life : Int), .int .u64 (X.ser : Int), .int .i64 X.cl, .int .u64 (X.sub : Int), .slice Af X.f.length cf, .slice Ae X.es.length ce] 58)).heap.size := by have := kA.size; omega
        have q := hxe7.cell
        go_wp2_with (at_builtin; refine wpList_app rfl _ _ 25 rfl w.heap.size 58 _ 8 96 TEntry _ _ _ rfl (World.ownsRow.alloc hown _) (wc.heap.size + 1) _ 1 1 (entc X (.slice Af X.f.length cf) (.slice Ae X.es.length ce)) rfl ?c1 ?c2 ?c3 hbase ?_)
        case c1 => exact Reads.new wc (entc X (.slice Af X.f.length cf) (.slice Ae X.es.length ce)) 58 8 1 rfl
        case c2 =>
          intro u hu
          simp only [entc, List.mem_cons, List.not_mem_nil, or_false] at hu
          rcases hu with rfl | rfl | rfl | rfl | rfl | rfl | rfl | rfl <;> rfl
        case c3 => omega
        intro v9 w9 hown9 hg9 hat9 hb9
        have hbel : Below w.heap.size (wc.alloc (.cells #[.int .i64 X.kind, .int .i64 X.br, .int .u64 (X.life : Int), .int .u64 (X.ser : Int), .int .i64 X.cl, .int .u64 (X.sub : Int), .slice Af X.f.length cf, .slice Ae X.es.length ce] 58)) w9 := hb9
        have HS9 : Hid (Sr g lk (!nb) w9) := Lib.hid ((hs7.st kA).far (hbel.mono (by omega)))
        have m10 : w.grownBy w9 (some g) := by
          have m6 : w.grownBy (wc.alloc (.cells #[.int .i64 X.kind, .int .i64 X.br, .int .u64 (X.life : Int), .int .u64 (X.ser : Int), .int .i64 X.cl, .int .u64 (X.sub : Int), .slice Af X.f.length cf, .slice Ae X.es.length ce] 58)) (some g) := mut_alloc m7 _
          exact ⟨hbel.os.trans m6.os, hbel.tape.trans m6.tape, hbel.output.trans m6.output, Nat.le_trans m6.size hbel.size, fun k hk hx => (hbel.block k hk).trans (m6.block k hk hx)⟩
        have HO9 : Hid (OwnL w.heap.size w.heap.size 58 enS (xs ++ [X]) v9 w9) := Lib.hid (OwnL.snoc (cs := entc X (.slice Af X.f.length cf) (.slice Ae X.es.length ce)) hcl (fun w' u => hEa w' (UpB.tr (UpB.of_k kA _ _) u)) hown9 hg9 (by rw [World.size_alloc]; exact hat9) (fun w' u => by
          obtain ⟨vf', ve', e, f1, f2⟩ := HV4.out w' (HU.out.tr ((UpB.tr (UpB.of_k kA _ _) u).more (by omega) (fun k hk _ e => by have := (hvc3 k e.symm).2; omega)))
          simp only [Value.agg.injEq, entA, Array.mk.injEq, List.cons.injEq, true_and, and_true] at e
          exact ⟨_, _, rfl, by rw [e.1]; exact f1, by rw [e.2]; exact f2⟩))
        clear hown9 hg9 hat9 hb9 hown hEa m7 kA hbel hs7 hxe7 q
        go_wp2
        go_roundw
        case rel => exact ⟨j + 1, by omega, by go_num, xs ++ [X], lk, !nb, HS9, Lib.hid (by have := hxl.out; simp [this]), HO9, m10, HF6⟩
        case measure => simp [intOf]; omega
    · have hji : ¬ (j : Int) < (n : Int) := by omega
      obtain rfl : j = n := by omega
      have HFE := Lib.hid (Fit.li S.out HF.out HFj.out)
      have HL : Hid (∀ W', W' = wr → lstW enS w.heap.size xs u3 W') := Lib.hid fun W' e W'' u => by
        subst e
        exact (HO.out.up (Nat.le_refl _) (u.upB (lo := w.heap.size) (row := none) (fun k h1 _ _ hx => by omega))).lst
      go_wp2
      go_ret
      unfold SL; exact ⟨_, xs, lj, okj, rfl, HL.out _ rfl, HS.out, mj, HFE.out⟩
end Go.Proofs.Ythnhdeieimgfhaa
