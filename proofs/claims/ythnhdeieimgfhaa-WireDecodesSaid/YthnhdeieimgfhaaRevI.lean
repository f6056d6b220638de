/-
  The walk of the document's Decode of events (layer 4). Conditions: at most 10^9 bytes.
-/
import Derived.Test.YthnhdeieimgfhaaVA
import Derived.Test.YthnhdeieimgfhaaRevC
import Derived.Test.YthnhdeieimgfhaaRefC
import Derived.Deep.CutRange
import Derived.Deep.LoopGhost
set_option maxRecDepth 100000
namespace Go.Proofs.Ythnhdeieimgfhaa
open Go Go.RowKit

theorem rdB_true (most : Int) (l : List UInt8) : (rdB most l true).2.2 = true := by
  unfold rdB; rw [rdN_true]; simp
theorem rdV_true (l : List UInt8) : (rdV l true).2.2 = true := by
  simp only [rdV, rdN_true]
  rw [if_pos (by simp [rdB_true])]
theorem rdA_true (l : List UInt8) : (rdA l true).2.2 = true := by
  unfold rdA; rw [rdB_true]; exact rdV_true _
theorem rdAs_bad {k : Nat} {l : List UInt8} {wr : Bool} (h : (rdAs k l wr).2.2 = true) : ∀ d, (rdAs (k + d) l wr).2.2 = true
  | 0 => h
  | d + 1 => by
    have := rdAs_bad h d
    show (rdA (rdAs (k + d) l wr).2.1 (rdAs (k + d) l wr).2.2).2.2 = true
    rw [this]
    exact rdA_true _
theorem decE_bad (b : List UInt8) (k : Nat) (hk : k ≤ (rdN b false).1) (h : (rdAs k (rdN b false).2.1 (rdN b false).2.2).2.2 = true) : decC b = 40 ∧ decL b = [] := by
  have : (decS b).2.2 = true := by
    have := rdAs_bad h ((rdN b false).1 - k)
    rwa [show k + ((rdN b false).1 - k) = (rdN b false).1 by omega] at this
  have h2 : decE b = none := by simp [decE, this]
  simp [decC, decL, h2]

def decF (a : Nat × List UInt8 × Bool) : Option (List Att) :=
  if decide (a.1 ≤ 16) && !(rdAs a.1 a.2.1 a.2.2).2.2 && (rdAs a.1 a.2.1 a.2.2).2.1.isEmpty && okE (rdAs a.1 a.2.1 a.2.2).1 then some (rdAs a.1 a.2.1 a.2.2).1 else none

set_option maxHeartbeats 1000000 in
theorem RefDecode_calls (A : Option Addr) (n c : Nat) (b : List UInt8) (w : World) (B : Nat) (hR : Reads w B 1 A n (bys b)) (hB : B ≤ w.heap.size) (hn : n ≤ 1000000000) (hnc : n ≤ c) :
    Calls Try.prog 138 #[.slice A n c] w fun e w' =>
      ∃ v', e = .returned (.tuple #[v', .int .i64 (decC b)]) ∧ OwnE w' w.heap.size v' (decL b) ∧ Below w.heap.size w w' := by
  have hbl : b.length = n := by simpa using hR.len
  have hle : b.length ≤ 1000000000 := by omega
  subst hbl
  have HBAD := Lib.hid (decE_bad b)
  have hlt := rdN_lt b false
  have hK := getK_le b
  go_enter Try.func138, Try.ntmps138
  go_wp2_with fail
  refine (Get_calls A b.length c b w B hR hB hn hnc).mono ?_
  rintro e w1 ⟨rfl, hb1⟩
  by_cases hk : getK b = 0
  · have hk' : ((getK b : Int) == 0) = true := by simp [hk]
    have hbad := getK_bad hk
    obtain ⟨hC, hL⟩ := HBAD.out 0 (by omega) hbad
    have HC := Lib.hid hC
    have HL := Lib.hid hL
    clear hC hL hbad hk
    generalize (rdN b false).1 = m at *
    generalize getK b = K at *
    go_wp2
    go_ret2
    exact ⟨_, by rw [HC.out]; rfl, by rw [HL.out]; exact World.ownsRow_nil _ _ _ _, hb1⟩
  have hk' : ((getK b : Int) == 0) = false := by simp [hk]
  have hgood := getK_good hk
  have HD : Hid (decE b = if decide ((rdN b false).1 ≤ 16) && !(rdAs (rdN b false).1 (b.drop (getK b)) false).2.2 && (rdAs (rdN b false).1 (b.drop (getK b)) false).2.1.isEmpty && okE (rdAs (rdN b false).1 (b.drop (getK b)) false).1 then some (rdAs (rdN b false).1 (b.drop (getK b)) false).1 else none) := by
    refine Lib.hid ?_
    exact congrArg decF hgood
  have HB2 : Hid (∀ k, k ≤ (rdN b false).1 → (rdAs k (b.drop (getK b)) false).2.2 = true → decC b = 40 ∧ decL b = []) := by
    refine Lib.hid fun k h1 h2 => HBAD.out k h1 ?_
    rw [hgood]; exact h2
  have hRd := (hR.below hb1 hB).post (A' := if c = getK b then A else A.map (·.add (getK b))) (getK b) (by intro h; rw [if_neg (by omega)])
  have hdl : (b.drop (getK b)).length = b.length - getK b := by simp
  have HDL := Lib.hid hdl
  clear hgood hdl hk
  generalize (rdN b false).1 = m at *
  generalize getK b = K at *
  generalize hl : b.drop K = l at *
  have HLL := Lib.hid hl
  have hll : l.length = b.length - K := HDL.out
  clear hl
  by_cases h16 : m ≤ 16
  rotate_left
  · have h16' : (16 : Int) < (m : Int) := by omega
    have HE : Hid (decC b = 40) := Lib.hid (by have := HD.out; simp [h16] at this; simp [decC, this])
    have HL : Hid (decL b = []) := Lib.hid (by have := HD.out; simp [h16] at this; simp [decL, this])
    clear hll
    go_wp2
    go_ret2
    exact ⟨_, by rw [HE.out]; rfl, by rw [HL.out]; exact World.ownsRow_nil _ _ _ _, hb1⟩
  have h16' : ¬ (16 : Int) < (m : Int) := by omega
  have hKl : K ≤ b.length := hK
  have hz1 := hb1.size
  have HLLL := Lib.hid hll
  have hl9 : l.length ≤ 1000000000 := by omega
  clear hll
  go_upto_region 4 with (fail)
  go_cut [0] from 23 to 25 (fun s wc => slc B l s wc ∧ Below w.heap.size w wc)
  case first =>
    by_cases hcK : c = K
    all_goals
      first | rw [if_pos hcK] at hRd | rw [if_neg hcK] at hRd
      go_wp2
      go_meet
      case rel => exact ⟨⟨_, _, by rw [HLLL.out], by rw [HLLL.out]; exact hRd, by have := HLLL.out; omega⟩, hb1⟩
  case rest =>
  obtain ⟨hs, hbw⟩ := hcut
  clear hRd hb1 hz1 HBAD HLL HLLL HDL hKl hK hR
  go_wp2_with fail
  go_loopw [0, 6, 7] (fun s v i wr => ∃ k : Nat, k ≤ m ∧ i = .int .u64 (k : Int) ∧ Hid ((rdAs k l false).2.2 = false) ∧ slc B (rdAs k l false).2.1 s wr ∧ OwnE wr w.heap.size v (rdAs k l false).1 ∧ Below w.heap.size w wr) (fun _ _ i _ => m - (intOf i).toNat)
  case atStart => exact ⟨0, by omega, rfl, Lib.hid rfl, hs, World.ownsRow_nil _ _ _ _, hbw⟩
  case round =>
    obtain ⟨k, hk, rfl, hgo, hs, hown, hb⟩ := hrel
    by_cases hlt : k < m
    · have hki : (k : Int) < (m : Int) := by omega
      have hlk := rdAs_len k l false
      have hfit : ∀ s, rdAs k l false = s → rdAs (k + 1) l false = (s.1 ++ [(rdA s.2.1 s.2.2).1], (rdA s.2.1 s.2.2).2) := fun s e => by subst e; rfl
      generalize hsx : rdAs k l false = s at *
      have hfit := hfit s rfl
      obtain ⟨ats, lk, wk⟩ := s
      obtain rfl : wk = false := hgo.out
      simp only at hs hown hlk
      obtain ⟨hlk1, hlk2⟩ := hlk
      have HLK := Lib.hid hlk2
      have hasl : ats.length ≤ 16 := by omega
      have HF := Lib.hid hfit
      clear hlk2 hfit hsx hgo
      have hz := hb.size
      obtain ⟨Ak, ck, rfl, hRk, hck⟩ := hs
      have hlk9 : lk.length ≤ 1000000000 := by omega
      have HBk := Lib.hid (@getBK_bad 16 lk)
      have HGk := Lib.hid (@getBK_good 16 lk)
      have hKk := getBK_le 16 lk
      have HNM := rdB_most 16 lk false
      go_wp2_with fail
      refine (GetBytes_calls Ak lk.length ck lk 16 wr B hRk (by omega) hlk9 hck (by omega) (by omega)).mono ?_
      rintro e w3 ⟨A3, c3, rfl, hr3, hc3, hb3⟩
      have hbw3 := hb.trans (hb3.mono hz)
      by_cases hk1 : getBK 16 lk = 0
      · have hk1' : ((getBK 16 lk : Int) == 0) = true := by simp [hk1]
        have hh : decC b = 40 ∧ decL b = [] := HB2.out (k + 1) (by omega) (by
          rw [HF.out]
          have h1 := HBk.out hk1
          unfold rdA
          simp only
          rw [h1]
          exact rdV_true _)
        obtain ⟨hC, hL⟩ := hh
        have HC := Lib.hid hC
        have HL := Lib.hid hL
        clear hC hL hk1
        generalize getBK 16 lk = K1 at *
        go_wp2
        go_ret2
        exact ⟨_, by rw [HC.out]; rfl, by rw [HL.out]; exact World.ownsRow_nil _ _ _ _, hbw3⟩
      have hk1' : ((getBK 16 lk : Int) == 0) = false := by simp [hk1]
      have hg1 := HGk.out hk1
      have hs3 : sl (rdB 16 lk false).1 (.slice A3 (rdB 16 lk false).1.length c3) w3 := ⟨A3, c3, rfl, hr3.more (by have := hb3.size; omega)⟩
      have hown3 := row_below hown hb3
      have hRk3 := hRk.below hb3 (by omega)
      have HAA : Hid (rdAs (k + 1) l false = (ats ++ [((⟨(rdB 16 lk false).1.toArray⟩, (rdV (lk.drop (getBK 16 lk)) false).1.1, (rdV (lk.drop (getBK 16 lk)) false).1.2.1, ⟨(rdV (lk.drop (getBK 16 lk)) false).1.2.2.toArray⟩) : Att)], (rdV (lk.drop (getBK 16 lk)) false).2)) := by
        refine Lib.hid ?_
        rw [HF.out]
        unfold rdA
        simp only
        generalize rdB 16 lk false = a at hg1 ⊢
        obtain ⟨a1, a2, a3⟩ := a
        simp only [Prod.mk.injEq] at hg1
        obtain ⟨-, rfl, rfl⟩ := hg1
        rfl
      have hRp := hRk3.post (A' := if ck = getBK 16 lk then Ak else Ak.map (·.add (getBK 16 lk))) (getBK 16 lk) (by intro h; rw [if_neg (by omega)])
      have hdl : (lk.drop (getBK 16 lk)).length = lk.length - getBK 16 lk := by simp
      have HDL := Lib.hid hdl
      have HDD := Lib.hid (fun j => @List.drop_drop UInt8 j (getBK 16 lk) lk)
      have hz33 := hb3.size
      clear hg1 hdl HF HBk HGk hk1 hr3 hRk hb3 hown
      have hz3 := hbw3.size
      generalize (rdB 16 lk false).1 = nm at *
      generalize getBK 16 lk = K1 at *
      generalize lk.drop K1 = l1 at *
      have hl1 : l1.length = lk.length - K1 := HDL.out
      have HL1 := Lib.hid hl1
      have HVb := Lib.hid (@getVK_bad l1)
      have HVg := Lib.hid (@getVK_good l1)
      clear hl1
      go_upto_region 12 with (fail)
      go_cut [0, 6, 8, 9, 10, 11] from 31 to 44 (fun s v nv kv bx mv wc => s = .slice Ak lk.length ck ∧ OwnE wc w.heap.size v ats ∧ sl nm nv wc ∧ kv = .int .i64 (K1 : Int) ∧ (∃ g, bx = .pointer (some ⟨g, 0, none⟩) ∧ Blk wc g 156 #[.int .i64 (rdV l1 false).1.1, .int .i64 (rdV l1 false).1.2.1, .string ⟨(rdV l1 false).1.2.2.toArray⟩]) ∧ mv = .int .i64 (getVK l1 : Nat) ∧ Reads wc B 1 Ak lk.length (bys lk) ∧ Below w.heap.size w wc ∧ w3.heap.size ≤ wc.heap.size)
      case first =>
        by_cases hcK : ck = K1
        all_goals
          first | rw [if_pos hcK] at hRp | rw [if_neg hcK] at hRp
          go_wp2_with fail
          refine (GetValue_calls _ _ _ _ _ B hRp (by omega) (by omega) (by omega)).mono ?_
          rintro e w4 ⟨rfl, hb4⟩
          have hx5 := Blk.new w4 156 #[.int .i64 (rdV l1 false).1.1, .int .i64 (rdV l1 false).1.2.1, .string ⟨(rdV l1 false).1.2.2.toArray⟩]
          have hb5 : Below w3.heap.size w3 (w4.alloc (.cells #[.int .i64 (rdV l1 false).1.1, .int .i64 (rdV l1 false).1.2.1, .string ⟨(rdV l1 false).1.2.2.toArray⟩] 156)) := hb4.alloc hb4.size _
          have hfin : ∀ W, W = w4.alloc (.cells #[.int .i64 (rdV l1 false).1.1, .int .i64 (rdV l1 false).1.2.1, .string ⟨(rdV l1 false).1.2.2.toArray⟩] 156) → OwnE W w.heap.size u6 ats ∧ sl nm (.slice A3 nm.length c3) W ∧ Blk W w4.heap.size 156 #[.int .i64 (rdV l1 false).1.1, .int .i64 (rdV l1 false).1.2.1, .string ⟨(rdV l1 false).1.2.2.toArray⟩] ∧ Reads W B 1 Ak lk.length (bys lk) ∧ Below w.heap.size w W ∧ w3.heap.size ≤ W.heap.size := by
            rintro W rfl
            exact ⟨row_below hown3 hb5, sl_st _ _ _ _ hs3 hb5, hx5, hRk3.below hb5 (by omega), hbw3.trans (hb5.mono hz3), hb5.size⟩
          have HFIN := Lib.hid hfin
          clear hfin hx5 hb5 hs3 hown3 hRk3 hRp
          go_wp2
          go_meet
          case rel =>
            obtain ⟨f1, f2, f3, f4, f5, f6⟩ := HFIN.out _ rfl
            exact ⟨by first | rfl | rw [hcK], f1, f2, rfl, ⟨_, rfl, f3⟩, rfl, f4, f5, f6⟩
      case rest =>
      obtain ⟨rfl, hownc, hsc, rfl, ⟨gx, rfl, hbx⟩, rfl, hRc, hbc, hzc⟩ := hcut
      clear hs3 hown3 hRk3 hRp hbw3 hz hb
      by_cases hk2 : getVK l1 = 0
      · have hk2' : ((getVK l1 : Int) == 0) = true := by simp [hk2]
        have hh : decC b = 40 ∧ decL b = [] := HB2.out (k + 1) (by omega) (by
          rw [HAA.out]
          exact HVb.out hk2)
        obtain ⟨hC, hL⟩ := hh
        have HC := Lib.hid hC
        have HL := Lib.hid hL
        clear hC hL hk2
        generalize getVK l1 = K2 at *
        go_wp2
        go_ret2
        exact ⟨_, by rw [HC.out]; rfl, by rw [HL.out]; exact World.ownsRow_nil _ _ _ _, hbc⟩
      have hk2' : ((getVK l1 : Int) == 0) = false := by simp [hk2]
      obtain ⟨hg2, hk2l⟩ := HVg.out hk2
      have hL1 := HL1.out
      have hst := str hsc
      have HAB : Hid (rdAs (k + 1) l false = (ats ++ [((⟨nm.toArray⟩, (rdV l1 false).1.1, (rdV l1 false).1.2.1, ⟨(rdV l1 false).1.2.2.toArray⟩) : Att)], l1.drop (getVK l1), false)) := by
        refine Lib.hid ?_
        rw [HAA.out]
        exact congrArg (fun z => (_, z)) (Prod.ext (congrArg (fun z => z.2.1) hg2) (congrArg (fun z => z.2.2) hg2))
      have hR2 := hRc.post (A' := if ck = K1 + getVK l1 then Ak else Ak.map (·.add (K1 + getVK l1))) (K1 + getVK l1) (by intro h; rw [if_neg (by omega)])
      have hl2 : (l1.drop (getVK l1)).length = lk.length - (K1 + getVK l1) := by rw [List.length_drop]; omega
      rw [← HDD.out] at hR2
      have HL2 := Lib.hid hl2
      have hk2b : K1 + getVK l1 ≤ lk.length := by omega
      have hq0 := hbx.cell 0
      have hq1 := hbx.cell 1
      have hq2 := hbx.cell 2
      simp at hq0 hq1 hq2
      clear hg2 hk2 hl2 hL1 HAA hk2l HVb HVg
      have hbz := hbc.size
      generalize hva : (rdV l1 false).1 = va at *
      have HVA := Lib.hid hva
      clear hva
      obtain ⟨vk, vn, vt⟩ := va
      simp only at hq0 hq1 hq2 HAB
      generalize getVK l1 = K2 at *
      go_wp2_with (at_builtin; refine wpList_app rfl _ _ 124 rfl w.heap.size 158 _ 4 48 TE _ _ _ rfl (World.ownsRow.alloc hownc _) (wc.heap.size + 1) _ 1 1 (attc (⟨nm.toArray⟩, vk, vn, ⟨vt.toArray⟩)) rfl ?c1 ?c2 ?c3 ?c5 ?_)
      case c1 => exact Reads.new wc (attc (⟨nm.toArray⟩, vk, vn, ⟨vt.toArray⟩)) 158 4 1 rfl
      case c2 => exact ⟨rfl, rfl, rfl, rfl⟩
      case c3 => omega
      case c5 => omega
      intro v5 w5 hown5 hg5 hat5 hb5
      have hown6 : OwnE w5 w.heap.size v5 (rdAs (k + 1) l false).1 := by
        rw [HAB.out]
        unfold OwnE
        simpa [List.flatMap_append] using hown5
      have hbw5 : Below w.heap.size w w5 := (hbc.alloc hbc.size _).trans hb5
      have hR5 := (hR2.below (Below.alloc (Below.refl _ wc) (Nat.le_refl _) _) (by omega)).below hb5 hB
      rw [show List.drop K2 l1 = (rdAs (k + 1) l false).2.1 by rw [HAB.out]] at hR5
      have hw5 : Hid ((rdAs (k + 1) l false).2.2 = false) := Lib.hid (by rw [HAB.out])
      have hlx : (rdAs (k + 1) l false).2.1.length = lk.length - (K1 + K2) := by
        have := HL2.out
        rw [HAB.out]; exact this
      have HLX := Lib.hid hlx
      clear hlx hown5 hg5 hat5 hb5 hR2 hRc hsc hst hbx hownc
      by_cases hcK : ck = K1 + K2
      all_goals
        first | rw [if_pos hcK] at hR5 | rw [if_neg hcK] at hR5
        have hsl : Hid (∀ A' c', A' = (if ck = K1 + K2 then Ak else Ak.map (·.add (K1 + K2))) → c' = ck - (K1 + K2) → slc B (rdAs (k + 1) l false).2.1 (.slice A' (lk.length - (K1 + K2)) c') w5) := by
          refine Lib.hid fun A' c' h1 h2 => ⟨A', c', by rw [HLX.out], ?_, by rw [HLX.out]; omega⟩
          rw [HLX.out, h1]
          first | rw [if_pos hcK] | rw [if_neg hcK]
          exact hR5
        clear hR5
        go_wp2
        go_roundw
        case rel => exact ⟨k + 1, by omega, by go_num, hw5, hsl.out _ _ (by first | rw [if_pos hcK] | rw [if_neg hcK]) (by omega), hown6, hbw5⟩
        case measure => simp [intOf]; omega
    · have hki : ¬ (k : Int) < (m : Int) := by omega
      obtain rfl : k = m := by omega
      have hlk := (rdAs_len k l false).2
      generalize hsx : rdAs k l false = s at *
      obtain ⟨ats, lk, wk⟩ := s
      obtain rfl : wk = false := hgo.out
      simp only at hs hown hlk HD
      have hcomp : ∀ x : Bool, x = (lk.isEmpty && okE ats) → Hid (decC b = (if x then 0 else 40)) ∧ Hid (decL b = if x then ats else []) := by
        intro x hx
        have h := HD.out
        rw [show (decide (k ≤ 16)) = true by simp; omega] at h
        simp only [Bool.not_false, Bool.true_and] at h
        cases x with
        | true => rw [← hx] at h; exact ⟨Lib.hid (by simp [decC, h]), Lib.hid (by simp [decL, h])⟩
        | false => rw [← hx] at h; exact ⟨Lib.hid (by simp [decC, h]), Lib.hid (by simp [decL, h])⟩
      have HCO := Lib.hid hcomp
      have hfit : ∀ x ∈ ats, x.1.size ≤ 1000000000 := by
        have := rdAs_fit k l false
        rw [hsx] at this
        intro x hx
        have := (this x hx).2
        omega
      obtain ⟨A', c', rfl, hR', _, _⟩ := hown.slice
      obtain ⟨Ak, ck, rfl, hRk, hck⟩ := hs
      have HCH := Lib.hid (RefECheck_calls A' c' ats wr wr.heap.size hR' (Nat.le_refl _) (by omega) hfit)
      have HLK := Lib.hid hlk
      clear hcomp hsx hfit hlk hgo HD hlt
      go_wp2_with fail
      refine HCH.out.mono ?_
      rintro e w6 ⟨rfl, hb6⟩
      have hbw6 := hb.trans (hb6.mono hb.size)
      have hrow6 := row_below hown hb6
      cases hok : okE ats
      · have hne : (chkE ats != 0) = true := by simp [chkE, hok]
        obtain ⟨HE, HL⟩ := HCO.out false (by rw [hok]; simp)
        go_wp2
        go_ret2
        exact ⟨_, by rw [HE.out]; rfl, by rw [HL.out]; exact World.ownsRow_nil _ _ _ _, hbw6⟩
      · have hne : (chkE ats != 0) = false := by simp [chkE, hok]
        cases hlk : lk.isEmpty
        · have hp : (0 : Int) < (lk.length : Int) := by cases lk with
            | nil => simp at hlk
            | cons _ _ => simp
          obtain ⟨HE, HL⟩ := HCO.out false (by rw [hlk]; rfl)
          clear hlk
          go_wp2
          go_ret2
          exact ⟨_, by rw [HE.out]; rfl, by rw [HL.out]; exact World.ownsRow_nil _ _ _ _, hbw6⟩
        · have hp : ¬ (0 : Int) < (lk.length : Int) := by cases lk with
            | nil => simp
            | cons _ _ => simp at hlk
          obtain ⟨HE, HL⟩ := HCO.out true (by rw [hlk, hok]; rfl)
          clear hlk
          go_wp2
          go_ret2
          exact ⟨_, by rw [HE.out]; rfl, by rw [HL.out]; exact hrow6, hbw6⟩
theorem RefDecode_bsl {b : List UInt8} {v : Value} {w : World} (h : bsl b v w) (hn : b.length ≤ 1000000000) : Calls Try.prog 138 #[v] w fun e w' =>
    ∃ v', e = .returned (.tuple #[v', .int .i64 (decC b)]) ∧ OwnE w' w.heap.size v' (decL b) ∧ Below w.heap.size w w' := by
  obtain ⟨A, c, rfl, hR, hc⟩ := h
  exact RefDecode_calls A _ c b w _ hR (Nat.le_refl _) hn hc
end Go.Proofs.Ythnhdeieimgfhaa
