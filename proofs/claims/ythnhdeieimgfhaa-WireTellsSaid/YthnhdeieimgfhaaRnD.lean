/-
  The walk of Encode of the document's answer of layer 11. Conditions: the loads are of a bounded size.
-/
import Derived.Test.YthnhdeieimgfhaaRnC
import Derived.Test.YthnhdeieimgfhaaRevF
import Derived.Test.YthnhdeieimgfhaaRfF
import Derived.Test.YthnhdeieimgfhaaNG
set_option maxRecDepth 100000
namespace Go.Proofs.Ythnhdeieimgfhaa
open Go Go.RowKit

theorem encHd_nums (x : Ent) : [kindN x.kind, kindN x.br, x.life, x.ser, kindN x.cl, x.sub].flatMap packN = encHd x := by
  simp [encHd, List.flatMap_cons]
theorem pre_len (x : Ent) (hok : okEn x = true) (hf : fitEn x) (hk : x.kind = 1) (j : Nat) : (encHd x ++ packN x.es.length ++ (x.es.take j).flatMap fun e => packB (encE e)).length ≤ 20000 := by
  have h1 := encEn_len hok hf
  unfold encEn at h1
  rw [if_pos hk] at h1
  have h2 : (x.es.flatMap fun e => packB (encE e)).length = ((x.es.take j).flatMap fun e => packB (encE e)).length + ((x.es.drop j).flatMap fun e => packB (encE e)).length := by
    rw [← List.length_append, ← List.flatMap_append, List.take_append_drop]
  simp only [List.length_append] at h1 ⊢
  omega

set_option maxHeartbeats 4000000 in
theorem REncode_calls (x : Ent) (v : Value) (w : World) (h : ent x v w) (hs : litEn x) (hfit : fitEn x) :
    Calls Try.prog 82 #[v] w fun e w' => ∃ v', e = .returned (.tuple #[v', .int .i64 (chkEn x)]) ∧ owA (encEnR x) v' w' ∧ K w w' := by
  have CH := Lib.hid fun W (k : K w W) => REChk_calls x v W (ent_st h k) hs
  obtain ⟨vf, ve, rfl, hf, he⟩ := h
  obtain ⟨Af, cf, rfl, hRf⟩ := hf
  obtain ⟨hs1, hs2, hs3, hs4⟩ := hs
  obtain ⟨Ae, ce, rfl, hle, -⟩ := he
  have HLE := Lib.hid hle
  have HS4 := Lib.hid hs4
  have HFT := Lib.hid hfit
  have C2 := Lib.hid fun W (k : K w W) => RefFEncode_calls Af cf x.f W _ (hRf.below k (Nat.le_refl _)) k.size hs1 hs2 hfit.2.2.2.2.2.2.1
  have hx := Blk.new w 58 (entA x (.slice Af x.f.length cf) (.slice Ae x.es.length ce))
  have k1 : K w (w.alloc (.cells (entA x (.slice Af x.f.length cf) (.slice Ae x.es.length ce)) 58)) := (K.rf w).al _
  clear hRf hle hs1 hs2 hs4
  cases hok : okEn x
  · have HC : Hid (chkEn x = 110) := Lib.hid (by simp [chkEn, hok])
    have HR : Hid (encEnR x = []) := Lib.hid (by simp [encEnR, hok])
    have hne : (chkEn x != 0) = true := by rw [HC.out]; rfl
    clear hok
    go_enter Try.func82, Try.ntmps82
    go_wp2_with fail
    generalize w.alloc _ = w1 at *
    refine (CH.out w1 k1).mono ?_
    rintro e w2 ⟨rfl, k2⟩
    have kF := k1.tr k2
    clear C2 CH
    go_wp2
    go_ret2
    exact ⟨_, by rw [HC.out]; rfl, by rw [HR.out]; exact owA_nil _, kF⟩
  have HC : Hid (chkEn x = 0) := Lib.hid (by simp [chkEn, hok])
  have HR : Hid (encEnR x = encEn x) := Lib.hid (by simp [encEnR, hok])
  have hne : (chkEn x != 0) = false := by rw [HC.out]; rfl
  have HOK := Lib.hid hok
  have HRL := Lib.hid (encEn_len hok hfit)
  have HPL := Lib.hid (pre_len x hok hfit)
  have HNU := Lib.hid (encHd_nums x)
  have HHL := Lib.hid (encHd_len x hfit)
  have HE : Hid (encEn x = encHd x ++ (if x.kind = 1 then packN x.es.length ++ x.es.flatMap (fun e => packB (encE e)) else if x.kind = 2 then packB (encF x.f) else [])) := Lib.hid rfl
  have u1 := u64_wrap x.kind
  have u2 := u64_wrap x.br
  have u3 := u64_wrap x.cl
  have hn6 : Hid (∀ n ∈ [kindN x.kind, kindN x.br, x.life, x.ser, kindN x.cl, x.sub], n < 18446744073709551616) := Lib.hid (by
    obtain ⟨-, -, -, h4, h5, h6, -⟩ := hfit
    intro n hn
    simp at hn
    rcases hn with rfl | rfl | rfl | rfl | rfl | rfl
    · exact kindN_lt _
    · exact kindN_lt _
    · exact h4
    · exact h5
    · exact kindN_lt _
    · exact h6)
  clear hok hfit
  go_enter Try.func82, Try.ntmps82
  go_wp2_with fail
  generalize w.alloc _ = w1 at *
  generalize w.heap.size = g at hx ⊢
  obtain ⟨bs, hbs⟩ : ∃ b, Hid (b = w1.heap.size) := ⟨_, Lib.hid rfl⟩
  have k01 := Lib.hid k1
  have qx := hx.cells
  have kk := K.rf w1
  clear hx
  refine (CH.out w1 k01.out).mono ?_
  rintro e w2 ⟨rfl, k2⟩
  replace kk := kk.tr k2
  clear CH
  have hR6 : Reads (w2.alloc (.cells #[.int .u64 (kindN x.kind : Int), .int .u64 (kindN x.br : Int), .int .u64 (x.life : Int), .int .u64 (x.ser : Int), .int .u64 (kindN x.cl : Int), .int .u64 (x.sub : Int)] 23)) (w2.heap.size + 1) 1 (some ⟨w2.heap.size, 0, none⟩) 6 ([kindN x.kind, kindN x.br, x.life, x.ser, kindN x.cl, x.sub].map fun n : Nat => Value.int .u64 (n : Int)) := Reads.new w2 ([kindN x.kind, kindN x.br, x.life, x.ser, kindN x.cl, x.sub].map fun n : Nat => Value.int .u64 (n : Int)) 23 1 6 rfl
  have k3 : K w2 (w2.alloc (.cells #[.int .u64 (kindN x.kind : Int), .int .u64 (kindN x.br : Int), .int .u64 (x.life : Int), .int .u64 (x.ser : Int), .int .u64 (kindN x.cl : Int), .int .u64 (x.sub : Int)] 23)) := (K.rf w2).al _
  have hz3 : w2.heap.size + 1 ≤ (w2.alloc (.cells #[.int .u64 (kindN x.kind : Int), .int .u64 (kindN x.br : Int), .int .u64 (x.life : Int), .int .u64 (x.ser : Int), .int .u64 (kindN x.cl : Int), .int .u64 (x.sub : Int)] 23)).heap.size := by simp
  go_wp2_with fail
  generalize w2.alloc _ = w3 at *
  generalize w2.heap.size = g2 at hR6 hz3 ⊢
  refine (RNumbers_calls _ 6 [kindN x.kind, kindN x.br, x.life, x.ser, kindN x.cl, x.sub] w3 _ hR6 hz3 hn6.out (by simp)).mono ?_
  rintro e w4 ⟨v4, rfl, ho4, k4⟩
  rw [HNU.out] at ho4
  have hb3 := (kk.tr k3).size
  replace kk := kk.tr (k3.tr k4)
  have HO4 := Lib.hid (own_base (base := bs) (by rw [hbs.out]; exact hb3) ho4 rfl)
  clear hR6 hz3 ho4 k3 k4 u1 u2 u3 hn6 HNU k2
  by_cases hk1 : x.kind = 1
  · have HE1 : Hid (encEn x = encHd x ++ (packN x.es.length ++ x.es.flatMap (fun e => packB (encE e)))) := Lib.hid (by rw [HE.out, if_pos hk1])
    have HP1 := Lib.hid (HPL.out hk1)
    have hle8 : x.es.length ≤ 8 := by
      have h := HOK.out
      unfold okEn at h
      rw [if_pos hk1] at h
      simp only [Bool.and_eq_true, decide_eq_true_eq] at h
      exact h.2.1.2
    have HOE : Hid (∀ e ∈ x.es, okE e = true) := Lib.hid (by
      have h := HOK.out
      unfold okEn at h
      rw [if_pos hk1] at h
      simp only [Bool.and_eq_true] at h
      exact List.all_eq_true.1 h.2.2)
    have hwr : IntKind.u64.wrap (x.es.length : Int) = (x.es.length : Int) := by simp only [IntKind.wrap, show (2 : Int) ^ IntKind.u64.bits = 18446744073709551616 from rfl]; rw [Int.emod_eq_of_lt (by omega) (by omega)]; simp [show IntKind.u64.signed = false from rfl]
    have hpl := packN_len x.es.length (by omega)
    have hhl := HHL.out
    clear HPL HE C2 hs3
    go_wp2_with fail
    refine (RefNumber_calls x.es.length (by omega) w4).mono ?_
    rintro e w5 ⟨v5, rfl, ho5, k5⟩
    have hor : Own w5 bs 5 v4 (encHd x) := row_below HO4.out k5
    replace kk := kk.tr k5
    have hsl := sl_own ho5
    clear ho5 k5 HO4
    go_wp2_with (at_builtin; refine wpList_appB rfl _ _ rfl bs _ _ (encHd x) (packN x.es.length) rfl hor rfl hsl (by omega) (by rw [hbs.out]; exact kk.size) ?_)
    intro v6 w6 ho6 hb6
    have HO6 : Hid (Own w6 bs 5 v6 (encHd x ++ packN x.es.length ++ (x.es.take 0).flatMap fun e => packB (encE e))) := Lib.hid (by simpa using ho6)
    have kk6 := kk.trans (hb6.mono (by rw [hbs.out]; exact Nat.le_refl _))
    clear hor hsl ho6 hb6 kk
    go_wp2_with fail
    go_loopw [4, 5, 6, 7] (fun o i _ _ wr => ∃ j : Nat, j ≤ x.es.length ∧ i = .int .i64 (j : Int) ∧ Hid (Own wr bs 5 o (encHd x ++ packN x.es.length ++ (x.es.take j).flatMap fun e => packB (encE e))) ∧ K w1 wr) (fun _ i _ _ _ => x.es.length - (intOf i).toNat)
    case atStart => exact ⟨0, by omega, rfl, HO6, kk6⟩
    case round =>
      clear kk6 HO6
      obtain ⟨j, hj, rfl, HO, kk⟩ := hrel
      have kr := k01.out.tr kk
      by_cases hlt : j < x.es.length
      · have hji : (j : Int) < (x.es.length : Int) := by omega
        obtain ⟨b1, off, cs, rfl, hcl, hrl, d0, -⟩ := lsr_cells HLE.out j hlt (by decide)
        have HT : Hid ((encHd x ++ packN x.es.length ++ (x.es.take (j + 1)).flatMap fun e => packB (encE e)) = (encHd x ++ packN x.es.length ++ (x.es.take j).flatMap fun e => packB (encE e)) ++ packB (encE x.es[j])) := Lib.hid (by rw [List.take_succ_eq_append_getElem hlt, List.flatMap_append]; simp)
        have hlj := HP1.out j
        have hoe := HOE.out _ (List.getElem_mem hlt)
        obtain ⟨hs5, hs6⟩ := HS4.out _ (List.getElem_mem hlt)
        have hfe := HFT.out.2.2.2.2.2.2.2 _ (List.getElem_mem hlt)
        generalize x.es[j] = ej at *
        generalize (encHd x ++ packN x.es.length ++ (x.es.take j).flatMap fun e => packB (encE e)) = T at *
        obtain ⟨ve, rfl, hev⟩ := hrl wr kr
        have d0 : wr.cell? ⟨b1, off + j, none⟩ = some ve := by
          have := d0 wr kr
          simpa [evS] using this
        obtain ⟨Aj, cj, rfl, hRj⟩ := hev
        have hii : ∀ y ∈ ej, i64ok y.2.1 ∧ i64ok y.2.2.1 := hfe
        have hEl := encE_len hoe hii
        have C3 := Lib.hid (RefEncode_calls Aj cj ej wr _ hRj (Nat.le_refl _) hs5 hs6 hii)
        have hc3 : chkE ej = 0 := by simp [chkE, hoe]
        have he3 : encR ej = encE ej := by simp [encR, hoe]
        rw [hc3, he3] at C3
        clear hrl hcl hRj hs5 hs6 hfe hii hc3 he3 hoe
        go_wp2_with fail
        refine C3.out.mono ?_
        rintro e w7 ⟨v7, rfl, ho7, k7⟩
        obtain ⟨A7, c7, rfl, hR7⟩ := ho7.slice
        have hor : Own w7 bs 5 _ T := row_below HO.out k7
        replace kk := kk.tr k7
        clear ho7 k7 d0 C3 HO
        generalize encE ej = E at *
        have hpe := packN_len E.length (by omega)
        go_wp2_with fail
        refine (RefBytes_calls A7 E.length c7 E w7 _ hR7 (Nat.le_refl _) (by omega)).mono ?_
        rintro e w8 ⟨v8, rfl, ho8, k8⟩
        have hor2 : Own w8 bs 5 _ T := row_below hor k8
        replace kk := kk.tr k8
        have hsl := sl_own ho8
        have hlp : T.length + (packN E.length ++ E).length ≤ 1000000000 := by simp only [List.length_append]; omega
        clear ho8 k8 hor hR7
        go_wp2_with (at_builtin; refine wpList_appB rfl _ _ rfl bs _ _ T (packN E.length ++ E) rfl hor2 rfl hsl hlp (by rw [hbs.out]; exact kk.size) ?_)
        intro v9 w9 ho9 hb9
        have HO9 : Hid (Own w9 bs 5 v9 (encHd x ++ packN x.es.length ++ (x.es.take (j + 1)).flatMap fun e => packB (encE e))) := Lib.hid (by rw [HT.out]; exact ho9)
        have kk9 := kk.trans (hb9.mono (by rw [hbs.out]; exact Nat.le_refl _))
        clear ho9 hb9 hor2 hsl kr kk
        go_wp2
        go_roundw
        case rel => exact ⟨j + 1, by omega, by go_num, HO9, kk9⟩
        case measure => simp [intOf]; omega
      · have hji : ¬ (j : Int) < (x.es.length : Int) := by omega
        have hO := HO.out
        rw [List.take_of_length_le (by omega)] at hO
        have HF2 : Hid (owA (encEnR x) u4 wr) := Lib.hid (by rw [HR.out, HE1.out, ← List.append_assoc]; exact ⟨_, hO⟩)
        clear hO HO
        go_wp2
        go_ret2
        exact ⟨_, by rw [HC.out]; rfl, HF2.out, kr⟩
  · by_cases hk2 : x.kind = 2
    · have HE2 : Hid (encEn x = encHd x ++ packB (encF x.f)) := Lib.hid (by rw [HE.out, if_neg hk1, if_pos hk2])
      have hof : okF x.f = true := by
        have h := HOK.out
        unfold okEn at h
        rw [if_neg hk1, if_neg (by omega), if_pos hk2] at h
        simp only [Bool.and_eq_true] at h
        exact h.2.2
      have hcf : chkF x.f = 0 := by simp [chkF, hof]
      have hef : encFR x.f = encF x.f := by simp [encFR, hof]
      have hfl : (packB (encF x.f)).length ≤ 20000 := by have := HRL.out; rw [HE2.out] at this; simp only [List.length_append] at this; omega
      have hfl2 : (encF x.f).length ≤ 20000 := by unfold packB at hfl; simp only [List.length_append] at hfl; omega
      have hhl := HHL.out
      rw [hcf, hef] at C2
      clear HPL HE hs3 hcf hef hof hk1
      go_wp2_with fail
      refine (C2.out w4 (k01.out.tr kk)).mono ?_
      rintro e w5 ⟨v5, rfl, ho5, k5⟩
      obtain ⟨A7, c7, rfl, hR7⟩ := ho5.slice
      have hor : Own w5 bs 5 v4 (encHd x) := row_below HO4.out k5
      replace kk := kk.tr k5
      clear ho5 k5 HO4 C2
      have HPB : Hid (packB (encF x.f) = packN (encF x.f).length ++ encF x.f) := Lib.hid rfl
      rw [HPB.out] at hfl
      generalize encF x.f = E at *
      go_wp2_with fail
      refine (RefBytes_calls A7 E.length c7 E w5 _ hR7 (Nat.le_refl _) (by omega)).mono ?_
      rintro e w8 ⟨v8, rfl, ho8, k8⟩
      have hor2 : Own w8 bs 5 v4 (encHd x) := row_below hor k8
      replace kk := kk.tr k8
      have hsl := sl_own ho8
      clear ho8 k8 hor hR7
      go_wp2_with (at_builtin; refine wpList_appB rfl _ _ rfl bs _ _ (encHd x) (packN E.length ++ E) rfl hor2 rfl hsl (by omega) (by rw [hbs.out]; exact kk.size) ?_)
      intro v9 w9 ho9 hb9
      have HF2 : Hid (owA (encEnR x) v9 w9) := Lib.hid (by rw [HR.out, HE2.out, HPB.out]; exact ⟨_, ho9⟩)
      have kk9 := k01.out.tr (kk.trans (hb9.mono (by rw [hbs.out]; exact Nat.le_refl _)))
      clear ho9 hb9 hor2 hsl kk
      go_wp2
      go_ret2
      exact ⟨_, by rw [HC.out]; rfl, HF2.out, kk9⟩
    · have HF2 : Hid (owA (encEnR x) v4 w4) := Lib.hid (by rw [HR.out, HE.out, if_neg hk1, if_neg hk2, List.append_nil]; exact ⟨_, HO4.out⟩)
      have kk9 := k01.out.tr kk
      clear HPL HE C2 hs3 HO4
      go_wp2
      go_ret2
      exact ⟨_, by rw [HC.out]; rfl, HF2.out, kk9⟩
end Go.Proofs.Ythnhdeieimgfhaa
