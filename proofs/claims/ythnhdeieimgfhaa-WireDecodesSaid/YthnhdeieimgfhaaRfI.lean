/-
  The walk of the document's Get and Decode of filters (layer 5). Conditions: at most 10^9 bytes.
-/
import Derived.Test.YthnhdeieimgfhaaRfH
namespace Go.Proofs.Ythnhdeieimgfhaa
open Go Go.RowKit

theorem tst_good {l : List UInt8} (h : ¬ tstK l = 0) : rdT l false = (tstX l, l.drop (tstK l), false) ∧ tstK l ≤ l.length := by
  cases hd : (rdT l false).2.2 with
  | true => exact absurd (tst_bad hd).2 h
  | false =>
    have hb := (rdT_back l false hd).1
    have hl := congrArg List.length hb
    rw [List.length_append] at hl
    generalize hp : encT (rdT l false).1 = p at *
    have hk : tstK l = p.length := by simp [tstK, hd]; omega
    have hdrop : l.drop (tstK l) = (rdT l false).2.1 := by
      rw [hk]
      calc l.drop p.length = (p ++ (rdT l false).2.1).drop p.length := by rw [← hb]
        _ = _ := by simp
    have hx : tstX l = (rdT l false).1 := by simp [tstX, hd]
    exact ⟨Prod.ext hx.symm (Prod.ext hdrop.symm hd), by omega⟩
theorem tst_none {l : List UInt8} (h : tstK l = 0) : (rdT l false).2.2 = true := by
  cases hd : (rdT l false).2.2 with
  | true => rfl
  | false =>
    exfalso
    have hb := (rdT_back l false hd).1
    have hl := congrArg List.length hb
    rw [List.length_append] at hl
    have : 0 < (encT (rdT l false).1).length := by simp [encT, packN]
    simp [tstK, hd] at h
    omega
theorem RefTest_n (A : Option Addr) (n c : Nat) (l : List UInt8) (w : World) (B : Nat) (hR : Reads w B 1 A n (bys l)) (hB : B ≤ w.heap.size) (hn : n ≤ 1000000000) (hnc : n ≤ c) :
    Calls Try.prog 147 #[.slice A n c] w fun e w' => e = .returned (.tuple #[tstv (tstX l), .int .i64 (tstK l : Nat)]) ∧ Below w.heap.size w w' := by
  obtain rfl : l.length = n := by simpa using hR.len
  exact RefTest_calls A c l w B hR hB hn hnc
/-- Whether bytes begin with a filter, which one, and how many bytes it has. -/
def getFok (b : List UInt8) : Bool := decide ((rdN b false).1 ≤ 8) && !(decFS b).2.2 && okF (decFS b).1
def getFL (b : List UInt8) : List Tst := if getFok b then (decFS b).1 else []
def getFK (b : List UInt8) : Nat := if getFok b then b.length - (decFS b).2.1.length else 0
theorem getF_no {b : List UInt8} (h : getFok b = false) : getFK b = 0 ∧ getFL b = [] := by simp [getFK, getFL, h]
theorem getF_bad (b : List UInt8) (k : Nat) (hk : k ≤ (rdN b false).1) (h : (rdL rdT k (rdN b false).2.1 (rdN b false).2.2).2.2 = true) : getFK b = 0 ∧ getFL b = [] := by
  refine getF_no ?_
  have : (decFS b).2.2 = true := by
    have := rdL_bad rdT_codec h ((rdN b false).1 - k)
    rwa [show k + ((rdN b false).1 - k) = (rdN b false).1 by omega] at this
  simp [getFok, this]

set_option maxHeartbeats 1000000 in
set_option maxRecDepth 100000 in
theorem RefFGet_calls (A : Option Addr) (c : Nat) (b : List UInt8) (w : World) (B : Nat) (hR : Reads w B 1 A b.length (bys b)) (hB : B ≤ w.heap.size) (hn : b.length ≤ 1000000000) (hnc : b.length ≤ c) :
    Calls Try.prog 139 #[.slice A b.length c] w fun e w' =>
      ∃ v', e = .returned (.tuple #[v', .int .i64 (getFK b : Nat)]) ∧ OwnF w' w.heap.size v' (getFL b) ∧ Below w.heap.size w w' := by
  have HBAD := Lib.hid (getF_bad b)
  have hlt := rdN_lt b false
  have hK := getK_le b
  have HNO := Lib.hid (@getF_no b)
  have HOK : Hid (getFok b = (decide ((rdN b false).1 ≤ 8) && !(rdL rdT (rdN b false).1 (rdN b false).2.1 (rdN b false).2.2).2.2 && okF (rdL rdT (rdN b false).1 (rdN b false).2.1 (rdN b false).2.2).1)) := Lib.hid rfl
  have HGL : Hid (getFok b = true → getFL b = (rdL rdT (rdN b false).1 (rdN b false).2.1 (rdN b false).2.2).1 ∧ getFK b = b.length - (rdL rdT (rdN b false).1 (rdN b false).2.1 (rdN b false).2.2).2.1.length) := Lib.hid fun h => ⟨by simp [getFL, h, decFS], by simp [getFK, h, decFS]⟩
  go_enter Try.func139, Try.ntmps139
  go_wp2_with fail
  refine (Get_calls A b.length c b w B hR hB hn hnc).mono ?_
  rintro e w1 ⟨rfl, hb1⟩
  by_cases hk : getK b = 0
  · have hk' : ((getK b : Int) == 0) = true := by simp [hk]
    have hbad := getK_bad hk
    obtain ⟨hC, hL⟩ := HBAD.out 0 (by omega) hbad
    have HC := Lib.hid hC
    have HL := Lib.hid hL
    clear hC hL hbad hk
    generalize (rdN b false).1 = m at *
    generalize getK b = K at *
    go_wp2
    go_ret2
    exact ⟨_, by rw [HC.out]; rfl, by rw [HL.out]; exact World.ownsRow_nil _ _ _ _, hb1⟩
  have hk' : ((getK b : Int) == 0) = false := by simp [hk]
  have hgood := getK_good hk
  have e1 : (rdN b false).2.1 = b.drop (getK b) := by rw [hgood]
  have e2 : (rdN b false).2.2 = false := by rw [hgood]
  rw [e1, e2] at HBAD HOK HGL
  have HRW := Lib.hid hR
  clear hgood hk e1 e2 hR
  generalize (rdN b false).1 = m at *
  generalize getK b = K at *
  generalize hl : b.drop K = l at *
  have HLL := Lib.hid hl
  clear hl
  by_cases h16 : m ≤ 8
  rotate_left
  · have h16' : (8 : Int) < (m : Int) := by omega
    obtain ⟨hC, hL⟩ := HNO.out (by rw [HOK.out]; simp [h16])
    have HC := Lib.hid hC
    have HL := Lib.hid hL
    clear hC hL
    go_wp2
    go_ret2
    exact ⟨_, by rw [HC.out]; rfl, by rw [HL.out]; exact World.ownsRow_nil _ _ _ _, hb1⟩
  have h16' : ¬ (8 : Int) < (m : Int) := by omega
  have hz1 := hb1.size
  go_wp2_with fail
  go_loopw [6, 7, 8] (fun v p i wr => ∃ k : Nat, k ≤ m ∧ i = .int .u64 (k : Int) ∧ Hid ((rdL rdT k l false).2.2 = false) ∧ (∃ q : Nat, p = .int .i64 (q : Int) ∧ q ≤ b.length ∧ Hid ((rdL rdT k l false).2.1 = b.drop q)) ∧ OwnF wr w.heap.size v (rdL rdT k l false).1 ∧ Below w.heap.size w wr) (fun _ _ i _ => m - (intOf i).toNat)
  case atStart => exact ⟨0, by omega, rfl, Lib.hid rfl, ⟨K, rfl, hK, Lib.hid HLL.out.symm⟩, World.ownsRow_nil _ _ _ _, hb1⟩
  case round =>
    obtain ⟨k, hk, rfl, hgo, ⟨q, rfl, hq, hrest⟩, hown, hb⟩ := hrel
    by_cases hlt : k < m
    · have hki : (k : Int) < (m : Int) := by omega
      have hlk := rdL_len rdT_codec k l false
      have hfit := rdL_succ k l false
      generalize hsx : rdL rdT k l false = s at *
      replace hfit := hfit s rfl
      obtain ⟨ats, lk, wk⟩ := s
      obtain rfl : wk = false := hgo.out
      obtain rfl : lk = b.drop q := hrest.out
      simp only at hown hlk hfit
      obtain ⟨-, hlk2⟩ := hlk
      have HLK := Lib.hid hlk2
      have hasl : ats.length ≤ 8 := by omega
      have HF := Lib.hid hfit
      clear hlk2 hfit hsx hgo hrest
      have hz := hb.size
      have hRk := HRW.out.below hb hB
      have hRp := hRk.post (A' := if c = q then A else A.map (·.add q)) q (by intro h; rw [if_neg (by omega)])
      have hdl : (b.drop q).length = b.length - q := by simp
      have hl9 : (b.drop q).length ≤ 1000000000 := by omega
      have TG := Lib.hid (@tst_good (b.drop q))
      have TN := Lib.hid (@tst_none (b.drop q))
      have HDD := Lib.hid (fun j => @List.drop_drop UInt8 j q b)
      generalize hr : b.drop q = rest at *
      have HRR := Lib.hid hr
      have hBr : B ≤ wr.heap.size := by omega
      have HDL := Lib.hid hdl
      clear hr hRk
      by_cases hcK : c = q
      all_goals
        first | rw [if_pos hcK] at hRp | rw [if_neg hcK] at hRp
        clear hdl
        go_wp2_with fail
        refine (RefTest_n _ _ _ rest wr B hRp hBr (by omega) (by omega)).mono ?_
        rintro e w3 ⟨rfl, hb3⟩
        have hbw3 := hb.trans (hb3.mono hz)
        have hown3 := row_below hown hb3
        have hz3 := hb3.size
        clear hRp hb3 hown hb
        generalize tstX rest = tx at *
        generalize tstK rest = tk at *
        obtain ⟨tn, tp, tk1, tn1, ts⟩ := tx
        go_upto_region 10 with (fail)
        have hx3 := Blk.new w3 162 #[.string tn, .int .i64 tp, .int .i64 tk1, .int .i64 tn1, .string ts]
        have hb3 : Below w3.heap.size w3 (w3.alloc (.cells #[.string tn, .int .i64 tp, .int .i64 tk1, .int .i64 tn1, .string ts] 162)) := (Below.refl _ _).alloc (Nat.le_refl _) _
        have hbw4 := hbw3.trans (hb3.mono hbw3.size)
        have hown4 := row_below hown3 hb3
        clear hbw3 hown3 hb3
        generalize w3.alloc (.cells #[.string tn, .int .i64 tp, .int .i64 tk1, .int .i64 tn1, .string ts] 162) = w4 at *
        generalize w3.heap.size = y at *
        have p0 := hx3.cell 0
        have p1 := hx3.cell 1
        have p2 := hx3.cell 2
        have p3 := hx3.cell 3
        have p4 := hx3.cell 4
        simp at p0 p1 p2 p3 p4
        by_cases hk0 : tk = 0
        · have hk0' : ((tk : Int) == 0) = true := by simp [hk0]
          obtain ⟨hC, hL⟩ := HBAD.out (k + 1) (by omega) (by rw [HF.out]; exact TN.out hk0)
          have HC := Lib.hid hC
          have HL := Lib.hid hL
          clear hC hL
          go_wp2
          go_ret2
          exact ⟨_, by rw [HC.out]; rfl, by rw [HL.out]; exact World.ownsRow_nil _ _ _ _, hbw4⟩
        try (exfalso; have h1 := (TG.out hk0).2; have h2 := HDL.out; omega)
      have hk0' : ((tk : Int) == 0) = false := by simp [hk0]
      obtain ⟨hg1, hg2⟩ := TG.out hk0
      have hqt : q + tk ≤ b.length := by have := HDL.out; omega
      have HFF : Hid (rdL rdT (k + 1) l false = (ats ++ [((tn, tp, tk1, tn1, ts) : Tst)], b.drop (q + tk), false)) := Lib.hid (by rw [HF.out, hg1, HDD.out])
      have hzw := hbw4.size
      clear hk0 TG TN hg1 hg2 HF HDD HDL HRR
      go_wp2_with (at_builtin; refine wpList_app rfl _ _ 55 rfl w.heap.size 162 _ 5 56 TF _ _ _ rfl (World.ownsRow.alloc hown4 _) (w4.heap.size + 1) _ 1 1 (tstc (tn, tp, tk1, tn1, ts)) rfl ?c1 ?c2 ?c3 ?c5 ?_)
      case c1 => exact Reads.new w4 (tstc (tn, tp, tk1, tn1, ts)) 162 5 1 rfl
      case c2 => exact tstc_one _
      case c3 => omega
      case c5 => first | omega | (simp; omega)
      intro v9 w9 hown9 hg9 hat9 hb9
      have hown10 : OwnF w9 w.heap.size v9 (rdL rdT (k + 1) l false).1 := by
        rw [HFF.out]
        unfold OwnF
        simpa [List.flatMap_append] using hown9
      have hw9 : Hid ((rdL rdT (k + 1) l false).2.2 = false) := Lib.hid (by rw [HFF.out])
      have hr9 : Hid ((rdL rdT (k + 1) l false).2.1 = b.drop (q + tk)) := Lib.hid (by rw [HFF.out])
      have hbw9 : Below w.heap.size w w9 := (hbw4.alloc hbw4.size _).trans hb9
      clear hown9 hg9 hat9 hb9 hown4 hbw4 HFF p0 p1 p2 p3 p4
      go_wp2
      go_roundw
      case rel => exact ⟨k + 1, by omega, by go_num, hw9, ⟨q + tk, by go_num, hqt, hr9⟩, hown10, hbw9⟩
      case measure => simp [intOf]; omega
    · have hki : ¬ (k : Int) < (m : Int) := by omega
      obtain rfl : k = m := by omega
      have hlk := rdL_len rdT_codec k l false
      have hfits : ∀ x ∈ (rdL rdT k l false).1, x.1.size ≤ 1000000000 := by
        intro x hx
        have := (rdL_all (fun x : Tst => fitT x ∧ x.1.size ≤ 16) rdT_fit k l false x hx).2
        omega
      generalize hsx : rdL rdT k l false = s at *
      obtain ⟨ats, lk, wk⟩ := s
      obtain rfl : wk = false := hgo.out
      obtain rfl : lk = b.drop q := hrest.out
      simp only at hown hlk HOK HGL hfits
      obtain ⟨A', c', rfl, hR', _, _⟩ := hown.slice
      have hd8 : decide (k ≤ 8) = true := by simp; omega
      rw [hd8] at HOK
      simp only [Bool.not_false, Bool.true_and] at HOK
      have HCH := Lib.hid (RefFCheck_calls A' c' ats wr wr.heap.size hR' (Nat.le_refl _) (by omega) hfits)
      clear hsx hlk hgo hlt hrest hfits
      go_wp2_with fail
      refine HCH.out.mono ?_
      rintro e w6 ⟨rfl, hb6⟩
      have hbw6 := hb.trans (hb6.mono hb.size)
      have hrow6 := row_below hown hb6
      cases hok : okF ats
      · have hne : (chkF ats != 0) = true := by simp [chkF, hok]
        obtain ⟨hC, hL⟩ := HNO.out (by rw [HOK.out, hok])
        have HC := Lib.hid hC
        have HL := Lib.hid hL
        clear hC hL
        go_wp2
        go_ret2
        exact ⟨_, by rw [HC.out]; rfl, by rw [HL.out]; exact World.ownsRow_nil _ _ _ _, hbw6⟩
      · have hne : (chkF ats != 0) = false := by simp [chkF, hok]
        obtain ⟨hL, hC⟩ := HGL.out (by rw [HOK.out, hok])
        have HC := Lib.hid hC
        have HL := Lib.hid hL
        clear hC hL
        go_wp2
        go_ret2
        exact ⟨_, by rw [HC.out, List.length_drop, show b.length - (b.length - q) = q by omega]; rfl, by rw [HL.out]; exact hrow6, hbw6⟩

theorem decF_get (b : List UInt8) : decF8 b = if getFok b && (decFS b).2.1.isEmpty then some (decFS b).1 else none := by
  unfold decF8 getFok
  cases decide ((rdN b false).1 ≤ 8) <;> cases (decFS b).2.2 <;> cases (decFS b).2.1.isEmpty <;> cases okF (decFS b).1 <;> rfl
theorem getF_lt {b : List UInt8} (h : getFok b = true) : (decFS b).2.1.length < b.length := by
  simp only [getFok, Bool.and_eq_true, Bool.not_eq_true'] at h
  have hw := h.1.2
  unfold decFS at hw ⊢
  have h1 := (rdL_len rdT_codec (rdN b false).1 (rdN b false).2.1 (rdN b false).2.2).1
  have h2 := congrArg List.length (rdN_back (rdL_back rdT_codec hw).2).1
  rw [List.length_append] at h2
  have : 0 < (packN (rdN b false).1).length := by simp [packN]
  omega
theorem decF_yes {b : List UInt8} (h0 : ¬ getFK b = 0) (h : getFK b = b.length) : decFC b = 0 ∧ decFL b = getFL b := by
  cases hok : getFok b with
  | false => exact absurd (getF_no hok).1 h0
  | true =>
    have hlt := getF_lt hok
    have hk : getFK b = b.length - (decFS b).2.1.length := by simp [getFK, hok]
    have he : (decFS b).2.1 = [] := List.eq_nil_of_length_eq_zero (by omega)
    have h8 := decF_get b
    rw [hok, he] at h8
    simp at h8
    simp [decFC, decFL, getFL, h8, hok]
theorem decF_no {b : List UInt8} (h : getFK b = 0 ∨ ¬ getFK b = b.length) : decFC b = 50 ∧ decFL b = [] := by
  cases hok : getFok b with
  | false =>
    have h8 := decF_get b
    rw [hok] at h8
    simp at h8
    simp [decFC, decFL, h8]
  | true =>
    have hlt := getF_lt hok
    have hk : getFK b = b.length - (decFS b).2.1.length := by simp [getFK, hok]
    have he : (decFS b).2.1.isEmpty = false := by
      cases hx : (decFS b).2.1 with
      | nil => rw [hx] at hk; simp at hk; rw [hx] at hlt; simp at hlt; omega
      | cons x y => rfl
    have h8 := decF_get b
    rw [hok, he] at h8
    simp at h8
    simp [decFC, decFL, h8]

set_option maxHeartbeats 1000000 in
theorem RefFDecode_calls (A : Option Addr) (c : Nat) (b : List UInt8) (w : World) (B : Nat) (hR : Reads w B 1 A b.length (bys b)) (hB : B ≤ w.heap.size) (hn : b.length ≤ 1000000000) (hnc : b.length ≤ c) :
    Calls Try.prog 128 #[.slice A b.length c] w fun e w' =>
      ∃ v', e = .returned (.tuple #[v', .int .i64 (decFC b)]) ∧ OwnF w' w.heap.size v' (decFL b) ∧ Below w.heap.size w w' := by
  have HG := Lib.hid (RefFGet_calls A c b w B hR hB hn hnc)
  have HY := Lib.hid (@decF_yes b)
  have HN := Lib.hid (@decF_no b)
  go_enter Try.func128, Try.ntmps128
  go_wp2_with fail
  refine HG.out.mono ?_
  rintro e w1 ⟨v1, rfl, hown, hb1⟩
  generalize getFK b = K at *
  by_cases hk : K = 0
  · have hk' : ((K : Int) == 0) = true := by simp [hk]
    obtain ⟨hC, hL⟩ := HN.out (.inl hk)
    have HC := Lib.hid hC
    have HL := Lib.hid hL
    clear hC hL hk HG
    go_wp2
    go_ret2
    exact ⟨_, by rw [HC.out]; rfl, by rw [HL.out]; exact World.ownsRow_nil _ _ _ _, hb1⟩
  have hk' : ((K : Int) == 0) = false := by simp [hk]
  by_cases he : K = b.length
  · have he' : ((K : Int) != (b.length : Int)) = false := by simp [he]
    obtain ⟨hC, hL⟩ := HY.out hk he
    have HC := Lib.hid hC
    have HL := Lib.hid hL
    clear hC hL hk HG he HY HN
    go_wp2
    go_ret2
    exact ⟨_, by rw [HC.out]; rfl, by rw [HL.out]; exact hown, hb1⟩
  · have he' : ((K : Int) != (b.length : Int)) = true := by simp; omega
    obtain ⟨hC, hL⟩ := HN.out (.inr he)
    have HC := Lib.hid hC
    have HL := Lib.hid hL
    clear hC hL hk HG he HY HN
    go_wp2
    go_ret2
    exact ⟨_, by rw [HC.out]; rfl, by rw [HL.out]; exact World.ownsRow_nil _ _ _ _, hb1⟩
theorem RefFDecode_bsl {b : List UInt8} {v : Value} {w : World} (h : bsl b v w) (hn : b.length ≤ 1000000000) : Calls Try.prog 128 #[v] w fun e w' =>
    ∃ v', e = .returned (.tuple #[v', .int .i64 (decFC b)]) ∧ OwnF w' w.heap.size v' (decFL b) ∧ Below w.heap.size w w' := by
  obtain ⟨A, c, rfl, hR, hc⟩ := h
  exact RefFDecode_calls A c b w _ hR (Nat.le_refl _) hn hc
end Go.Proofs.Ythnhdeieimgfhaa
