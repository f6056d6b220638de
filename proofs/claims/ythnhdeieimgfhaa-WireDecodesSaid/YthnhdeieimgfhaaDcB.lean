/-
  The walk of listed of the document's answer of layer 11. Conditions: at most a milliard bytes.
-/
import Derived.Test.YthnhdeieimgfhaaDcA
import Derived.Test.YthnhdeieimgfhaaRevI
import Derived.Test.YthnhdeieimgfhaaNG
set_option maxRecDepth 100000
namespace Go.Proofs.Ythnhdeieimgfhaa
open Go Go.RowKit

/-- The events that bytes are. -/
def lsP (b : List UInt8) : Option (List (List Att)) :=
  if (rdN b false).2.2 || decide (8 < (rdN b false).1) then none
  else if (rdL (rdEv 4000) (rdN b false).1 (rdN b false).2.1 false).2.2 || !(rdL (rdEv 4000) (rdN b false).1 (rdN b false).2.1 false).2.1.isEmpty then none
  else some (rdL (rdEv 4000) (rdN b false).1 (rdN b false).2.1 false).1

/-- What listed tells. -/
def LsPost (P : Option (List (List Att))) (w : World) (e : Ending) (w' : World) : Prop :=
  ∃ A' n' c' ok, e = .returned (.tuple #[.slice A' n' c', .bool ok]) ∧ K w w' ∧ ok = P.isSome ∧ ∀ es, P = some es → ∀ W, UpB w.heap.size none w' W → lst evS es (.slice A' n' c') W

set_option maxHeartbeats 4000000 in
theorem RListed_calls (A : Option Addr) (n c : Nat) (b : List UInt8) (w : World) (hR : Reads w w.heap.size 1 A n (bys b)) (hnc : n ≤ c) (hn : n ≤ 1000000000) :
    Calls Try.prog 127 #[.slice A n c] w fun e w' => LsPost (lsP b) w e w' := by
  have hbl : b.length = n := by simpa using hR.len
  subst hbl
  have HP : Hid (lsP b = lsP b) := Lib.hid rfl
  have HPB : Hid (getK b = 0 → lsP b = none) := Lib.hid fun h => by unfold lsP; rw [getK_bad h]; rfl
  have HPG : Hid (getK b ≠ 0 → lsP b = if decide (8 < (rdN b false).1) then none
      else if (rdL (rdEv 4000) (rdN b false).1 (b.drop (getK b)) false).2.2 || !(rdL (rdEv 4000) (rdN b false).1 (b.drop (getK b)) false).2.1.isEmpty then none
      else some (rdL (rdEv 4000) (rdN b false).1 (b.drop (getK b)) false).1) := Lib.hid fun h => by
    have hg := getK_good h
    have h1 : (rdN b false).2.1 = b.drop (getK b) := congrArg (fun z => z.2.1) hg
    have h2 : (rdN b false).2.2 = false := congrArg (fun z => z.2.2) hg
    unfold lsP
    rw [h1, h2, Bool.false_or]
  clear HP
  have CG := Lib.hid (Get_calls A b.length c b w _ hR (Nat.le_refl _) hn hnc)
  have hK := getK_le b
  have hlt64 := rdN_lt b false
  generalize lsP b = P at *
  have HR0 := Lib.hid hR
  clear hR
  go_enter Try.func127, Try.ntmps127
  go_wp2_with fail
  refine CG.out.mono ?_
  rintro e w1 ⟨rfl, k1⟩
  clear CG
  by_cases hk : getK b = 0
  · have hk' : ((getK b : Int) == 0) = true := by simp [hk]
    have hP := HPB.out hk
    subst hP
    clear hk HPB HPG
    generalize (rdN b false).1 = m at *
    generalize getK b = K1 at *
    go_wp2
    go_ret2
    unfold LsPost; exact ⟨_, _, _, _, rfl, k1, rfl, fun es h => by simp at h⟩
  have hk' : ((getK b : Int) == 0) = false := by simp [hk]
  have HPG := Lib.hid (HPG.out hk)
  clear HPB
  have hRp := (HR0.out.below k1 (Nat.le_refl _)).post (A' := if c = getK b then A else A.map (·.add (getK b))) (getK b) (by intro h; rw [if_neg (by omega)])
  have hdl : (b.drop (getK b)).length = b.length - getK b := by simp
  have HDL := Lib.hid hdl
  clear hdl hk
  generalize (rdN b false).1 = m at *
  generalize getK b = K1 at *
  generalize b.drop K1 = l at *
  have hll : l.length = b.length - K1 := HDL.out
  by_cases h8 : m ≤ 8
  rotate_left
  · have h8' : (8 : Int) < (m : Int) := by omega
    have hP := HPG.out
    rw [if_pos (by simp; omega)] at hP
    subst hP
    clear HPG hRp hll HDL
    go_wp2
    go_ret2
    unfold LsPost; exact ⟨_, _, _, _, rfl, k1, rfl, fun es h => by simp at h⟩
  have h8' : ¬ (8 : Int) < (m : Int) := by omega
  have hl9 : l.length ≤ 1000000000 := by omega
  have hz1 := k1.size
  have HLL := Lib.hid hll
  have HPG : Hid (P = if (rdL (rdEv 4000) m l false).2.2 || !(rdL (rdEv 4000) m l false).2.1.isEmpty then none else some (rdL (rdEv 4000) m l false).1) := Lib.hid (by
    have hP := HPG.out
    rwa [if_neg (by simp; omega)] at hP)
  have HBad := Lib.hid (fun k (hk : k ≤ m) (hb : (rdL (rdEv 4000) k l false).2.2 = true) => show P = none from by
    have := rdL_bad (rdEv_codec 4000) hb (m - k)
    rw [show k + (m - k) = m by omega] at this
    rw [HPG.out, this]; rfl)
  have HL := Lib.hid (fun k => rdL_len (rdEv_codec 4000) k l false)
  clear hll HR0
  go_upto_region 4 with (fail)
  go_cut [0] from 23 to 25 (fun s wc => slc w.heap.size l s wc ∧ K w wc)
  case first =>
    by_cases hcK : c = K1
    all_goals
      first | rw [if_pos hcK] at hRp | rw [if_neg hcK] at hRp
      go_wp2
      go_meet
      case rel => exact ⟨⟨_, _, by rw [HLL.out], by rw [HLL.out]; exact hRp, by have := HLL.out; omega⟩, k1⟩
  case rest =>
  obtain ⟨hs, kw⟩ := hcut
  clear hRp k1 hz1 HLL HDL hK
  go_wp2_with fail
  go_loopw [0, 6, 7] (fun s o i W => ∃ j : Nat, j ≤ m ∧ i = .int .u64 (j : Int) ∧ ∃ es lj, Hid (rdL (rdEv 4000) j l false = (es, lj, false)) ∧ slc w.heap.size lj s W ∧
      Hid (OwnL w.heap.size w.heap.size 124 evS es o W) ∧ K w W) (fun _ _ i _ => m - (intOf i).toNat)
  case atStart => exact ⟨0, by omega, rfl, [], l, Lib.hid (by simp [rdL]), hs, Lib.hid (OwnL.nil _ _ _ _ _), kw⟩
  case round =>
    clear hs kw
    obtain ⟨j, hj, rfl, es, lj, HJ, hs, HO, kr⟩ := hrel
    have hq := HL.out j
    rw [HJ.out] at hq
    simp only at hq
    obtain ⟨hq1, hq2⟩ := hq
    have HQ2 := Lib.hid hq2
    have hes8 : es.length ≤ 8 := by omega
    clear hq2
    have hz := kr.size
    obtain ⟨Ak, ck, rfl, hRk, hck⟩ := hs
    have hlk9 : lj.length ≤ 1000000000 := by omega
    by_cases hlt : j < m
    · have hji : (j : Int) < (m : Int) := by omega
      have HBk := Lib.hid (@getBK_bad 4000 lj)
      have HGk := Lib.hid (@getBK_good 4000 lj)
      have hKk := getBK_le 4000 lj
      have hNM := rdB_most 4000 lj false
      have HJ1 : Hid (rdL (rdEv 4000) (j + 1) l false = (es ++ [(rdEv 4000 lj false).1], (rdEv 4000 lj false).2)) := Lib.hid (by simp only [rdL]; rw [HJ.out])
      have HE1 := Lib.hid (@rdEv_none 4000 lj false)
      have HE2 := Lib.hid (fun e h => @rdEv_some 4000 lj false e h)
      clear HJ
      go_wp2_with fail
      refine (GetBytes_calls Ak lj.length ck lj 4000 wr _ hRk hz hlk9 hck (by omega) (by omega)).mono ?_
      rintro e w3 ⟨A3, c3, rfl, hr3, hc3, k3⟩
      have kr3 := kr.tr k3
      have hO3 := HO.out.st k3
      clear HO
      by_cases hk1 : getBK 4000 lj = 0
      · have hk1' : ((getBK 4000 lj : Int) == 0) = true := by simp [hk1]
        have hP := HBad.out (j + 1) (by omega) (by
          rw [HJ1.out]
          have h1 := HBk.out hk1
          have h2 : (rdB 4000 lj false).1 = [] := by
            unfold rdB at h1 ⊢
            split
            · rfl
            · rename_i hq; rw [if_neg hq] at h1; simp at h1
          exact HE1.out (by rw [h2]; rfl))
        subst hP
        clear hk1 HGk HBk HJ1 HE1 HE2 hO3 HPG HBad
        generalize getBK 4000 lj = K2 at *
        go_wp2
        go_ret2
        unfold LsPost; exact ⟨_, _, _, _, rfl, kr3, rfl, fun es h => by simp at h⟩
      have hk1' : ((getBK 4000 lj : Int) == 0) = false := by simp [hk1]
      have hg1 := HGk.out hk1
      have h21 : (rdB 4000 lj false).2 = (lj.drop (getBK 4000 lj), false) := by rw [hg1]
      have HE2 := Lib.hid (fun e h => by have := HE2.out e h; rwa [h21] at this)
      have hRk3 := hRk.below k3 hz
      have hRp := hRk3.post (A' := if ck = getBK 4000 lj then Ak else Ak.map (·.add (getBK 4000 lj))) (getBK 4000 lj) (by intro h; rw [if_neg (by omega)])
      have hdl : (lj.drop (getBK 4000 lj)).length = lj.length - getBK 4000 lj := by simp
      have HDL := Lib.hid hdl
      have hz3 := k3.size
      clear hg1 h21 hdl HGk HBk hk1 hRk hRk3
      generalize (rdB 4000 lj false).1 = bs at *
      generalize getBK 4000 lj = K2 at *
      generalize lj.drop K2 = lk at *
      go_wp2_with fail
      refine (RefDecode_calls A3 bs.length c3 bs w3 _ hr3 (by omega) (by omega) hc3).mono ?_
      rintro e w4 ⟨v9, rfl, ho9, k4⟩
      have kr4 := kr3.tr k4
      have hvc := hO3.blk
      have hO4 := hO3.st k4
      have hRp4 := hRp.below k4 (by omega)
      clear hO3 hRp hr3
      cases hde : decE bs with
      | none =>
        have hd2 := decE_none hde
        have hP := HBad.out (j + 1) (by omega) (by rw [HJ1.out]; exact HE1.out hde)
        subst hP
        rw [hd2.1]
        clear hde hd2 ho9 HJ1 HE1 HE2 HPG HBad hO4 hRp4
        go_wp2
        go_ret2
        unfold LsPost; exact ⟨_, _, _, _, rfl, kr4, rfl, fun es h => by simp at h⟩
      | some ev =>
        have hd2 := decE_some hde
        rw [hd2.1]
        rw [hd2.2] at ho9
        have HJ2 : Hid (rdL (rdEv 4000) (j + 1) l false = (es ++ [ev], lk, false)) := Lib.hid (by rw [HJ1.out, HE2.out _ hde])
        clear hde hd2 HJ1 HE1 HE2
        have HEv := Lib.hid ho9.rel
        obtain ⟨A9, c9, rfl⟩ := evt_slice (evt_own ho9)
        clear ho9
        obtain ⟨css, hown, hcl, hEa⟩ := hO4
        have kA : K w4 (w4.alloc (.cells #[.slice A9 ev.length c9] 124)) := (K.rf w4).al _
        have hz4 := k4.size
        have hbase : w.heap.size ≤ (w4.alloc (.cells #[.slice A9 ev.length c9] 124)).heap.size := by have := kA.size; omega
        go_wp2_with (at_builtin; refine wpList_app rfl _ _ 56 rfl w.heap.size 124 _ 1 24 TEv _ _ _ rfl (World.ownsRow.alloc hown _) (w4.heap.size + 1) _ 1 1 [.slice A9 ev.length c9] rfl ?c1 ?c2 ?c3 hbase ?_)
        case c1 => exact Reads.new w4 [.slice A9 ev.length c9] 124 1 1 rfl
        case c2 => intro u hu; simp at hu; subst hu; rfl
        case c3 => omega
        intro v9 w9 hown9 hg9 hat9 hb9
        have hbel : Below w.heap.size (w4.alloc (.cells #[.slice A9 ev.length c9] 124)) w9 := hb9
        have HO9 : Hid (OwnL w.heap.size w.heap.size 124 evS (es ++ [ev]) v9 w9) := Lib.hid (OwnL.snoc hcl (fun w' u => hEa w' (UpB.tr (UpB.of_k kA _ _) u)) hown9 hg9 (by rw [World.size_alloc]; exact hat9)
          (fun w' u => HEv.out w' ((UpB.tr (UpB.of_k kA _ _) u).more (by omega) (fun k hk _ e => by have := (hvc k e.symm).2; omega))))
        have k9 : K w w9 := (kr4.tr kA).trans hbel
        have hR9 := (hRp4.below kA (by omega)).below hbel (Nat.le_refl _)
        clear hown9 hg9 hat9 hb9 hown hEa hRp4 kA hbel
        by_cases hcK : ck = K2
        all_goals
          first | rw [if_pos hcK] at hR9 | rw [if_neg hcK] at hR9
          have hsl : Hid (∀ A' c', A' = (if ck = K2 then Ak else Ak.map (·.add K2)) → c' = ck - K2 → slc w.heap.size lk (.slice A' (lj.length - K2) c') w9) := by
            refine Lib.hid fun A' c' h1 h2 => ⟨A', c', by rw [HDL.out], ?_, by rw [HDL.out]; omega⟩
            rw [HDL.out, h1]
            first | rw [if_pos hcK] | rw [if_neg hcK]
            exact hR9
          clear hR9
          go_wp2
          go_roundw
          case rel => exact ⟨j + 1, by omega, by go_num, es ++ [ev], lk, HJ2, hsl.out _ _ (by first | rw [if_pos hcK] | rw [if_neg hcK]) (by omega), HO9, k9⟩
          case measure => simp [intOf]; omega
    · have hji : ¬ (j : Int) < (m : Int) := by omega
      obtain rfl : j = m := by omega
      have HLs := Lib.hid HO.out.lst
      have HLu : Hid (∀ W, UpB w.heap.size none wr W → lst evS es u6 W) := Lib.hid (fun W u => (HO.out.up (Nat.le_refl _) u).lst)
      have hel := len0' lj
      have hP := HPG.out
      rw [HJ.out] at hP
      simp only [Bool.false_or] at hP
      generalize lj.isEmpty = Be at *
      have HPQ := Lib.hid hP
      clear HO HJ HPG HBad hP
      obtain ⟨A8, c8, rfl⟩ := lst_slice HLs.out
      go_wp2
      go_ret2
      unfold LsPost
      refine ⟨_, _, _, _, rfl, kr, ?_, ?_⟩
      · rw [HPQ.out]; cases Be <;> rfl
      · rw [HPQ.out]
        cases Be
        · intro es' h; simp at h
        · intro es' h; simp at h; subst h; exact HLu.out
end Go.Proofs.Ythnhdeieimgfhaa
