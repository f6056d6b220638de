/-
  The walks of the document's answer of layer 2 that unpack (Get, GetBytes, GetValue): what each returns, and that nothing that was there is changed.
-/
import Derived.Test.YthnhdeieimgfhaaRefA
import Derived.Test.YthnhdeieimgfhaaPA
namespace Go.Proofs.Ythnhdeieimgfhaa
open Go Go.RowKit

/-- How many bytes the number has that bytes begin with; 0: there is none. -/
def getK (l : List UInt8) : Nat := if (rdN l false).2.2 then 0 else l.length - (rdN l false).2.1.length

/-- Whether the bytes that a number's first byte tells are that number's. -/
theorem get_test (b : UInt8) (r : List UInt8) (h8 : b.toNat ≤ 8) (hl : b.toNat ≤ r.length) :
    (if decide (packN (ofBe (r.take b.toNat)) = b :: r.take b.toNat) then (ofBe (r.take b.toNat), 1 + b.toNat) else (0, 0)) = ((rdN (b :: r) false).1, getK (b :: r)) := by
  have hlt : ofBe (r.take b.toNat) < 18446744073709551616 := by
    have h1 := ofBe_lt (r.take b.toNat)
    have h2 : (r.take b.toNat).length ≤ 8 := by simp; omega
    have h3 : 256 ^ (r.take b.toNat).length ≤ 256 ^ 8 := Nat.pow_le_pow_right (by decide) h2
    omega
  cases hd : (rdN (b :: r) false).2.2 with
  | false =>
    have hb := (rdN_back hd).1
    have he : rdN (b :: r) false = (ofBe (r.take b.toNat), r.drop b.toNat, false) := by
      simp only [rdN] at hd ⊢
      split at hd
      · simp at hd
      · rename_i hq; rw [if_neg hq]
    have hk : getK (b :: r) = 1 + b.toNat := by simp [getK, he]; omega
    rw [hk]
    rw [he] at hb ⊢
    simp only at hb ⊢
    have : packN (ofBe (r.take b.toNat)) = b :: r.take b.toNat := by
      have h4 : b :: r = (b :: r.take b.toNat) ++ r.drop b.toNat := by simp
      rw [h4] at hb
      exact (List.append_cancel_right hb).symm
    simp [this]
  | true =>
    have hne : ¬ packN (ofBe (r.take b.toNat)) = b :: r.take b.toNat := by
      intro h
      have h4 : b :: r = packN (ofBe (r.take b.toNat)) ++ r.drop b.toNat := by rw [h]; simp
      rw [h4, rdN_pack _ hlt] at hd
      cases hd
    have h0 : (rdN (b :: r) false).1 = 0 := by
      simp only [rdN] at hd ⊢
      split at hd
      · rename_i hq; rw [if_pos hq]
      · simp at hd
    simp [hne, h0, getK, hd]

set_option maxHeartbeats 2000000 in
set_option maxRecDepth 100000 in
theorem Get_calls (A : Option Addr) (m c : Nat) (l : List UInt8) (w : World) (B : Nat) (hR : Reads w B 1 A m (bys l)) (hB : B ≤ w.heap.size) (hm : m ≤ 1000000000) (hmc : m ≤ c) :
    Calls Try.prog 90 #[.slice A m c] w fun e w' => e = .returned (.tuple #[.int .u64 ((rdN l false).1 : Nat), .int .i64 (getK l : Nat)]) ∧ Below w.heap.size w w' := by
  have hl : l.length = m := by simpa using hR.len
  match l, hl with
  | [], hl =>
    obtain rfl : m = 0 := by simpa using hl.symm
    go_enter Try.func90, Try.ntmps90
    go_wp2
    go_ret2
    exact ⟨rfl, Below.refl _ _⟩
  | b :: r, hl =>
    subst hl
    obtain ⟨bb, off, rfl, hbb, hcell⟩ := hR.at_ (by simp)
    have hc1 := hcell 0 (by simp)
    simp at hc1
    have H1 := Lib.hid hcell
    have hb256 : b.toNat < 256 := b.toNat_lt
    have hg := fun h8 hl => get_test b r h8 hl
    have hE : 8 < b.toNat ∨ r.length < b.toNat → Hid ((rdN (b :: r) false).1 = 0 ∧ getK (b :: r) = 0) := by
      intro h
      have : rdN (b :: r) false = (0, b :: r, true) := by
        simp only [rdN]
        rw [if_pos]
        rcases h with h | h <;> simp [h]
      exact Lib.hid (by simp [getK, this])
    have HE := Lib.hid hE
    have HG := Lib.hid hg
    clear hcell hg hE
    simp only [List.length_cons] at *
    generalize hN : b.toNat = N at *
    have HN := Lib.hid hN
    clear hN
    by_cases h8 : 8 < N
    · have h8' : (8 : Int) < (N : Int) := by omega
      have HX := HE.out (.inl h8)
      clear HE HG
      go_enter Try.func90, Try.ntmps90
      go_wp2
      go_ret2
      exact ⟨by rw [HX.out.1, HX.out.2]; rfl, Below.refl _ _⟩
    have h8' : ¬ (8 : Int) < (N : Int) := by omega
    by_cases hlN : r.length < N
    · have hl' : (r.length : Int) + 1 < 1 + (N : Int) := by omega
      have HX := HE.out (.inr hlN)
      clear HE HG
      go_enter Try.func90, Try.ntmps90
      go_wp2
      go_ret2
      exact ⟨by rw [HX.out.1, HX.out.2]; rfl, Below.refl _ _⟩
    have hl' : ¬ (r.length : Int) + 1 < 1 + (N : Int) := by omega
    have hlt : N ≤ r.length := by omega
    have HX := Lib.hid (HG.out (by omega) hlt)
    clear HE HG
    go_enter Try.func90, Try.ntmps90
    go_wp2_with fail
    go_loop [4, 5] (fun n i => ∃ k : Nat, k ≤ N ∧ i = .int .i64 ((k : Int) + 1) ∧ n = .int .u64 (ofBe (r.take k) : Nat)) (fun _ i => (N + 1) - (intOf i).toNat)
    case atStart => exact ⟨0, by omega, rfl, rfl⟩
    case round =>
      obtain ⟨k, hk, rfl, rfl⟩ := hrel
      by_cases hlt2 : k < N
      · have hki : (k : Int) + 1 ≤ (N : Int) := by omega
        have hck : w.cell? ⟨bb, off + (k + 1), none⟩ = some (.int .u8 (r[k].toNat : Int)) := by
          have := H1.out (k + 1) (by omega)
          simpa using this
        have hb7 : ofBe (r.take k) < 72057594037927936 := by
          have := ofBe_lt (r.take k)
          have h2 : (r.take k).length ≤ 7 := by simp; omega
          have h3 : 256 ^ (r.take k).length ≤ 256 ^ 7 := Nat.pow_le_pow_right (by decide) h2
          omega
        generalize hv : ofBe (r.take k) = v at *
        have htk : ofBe (r.take (k + 1)) = v * 256 + r[k].toNat := by
          rw [List.take_succ_eq_append_getElem (by omega), ofBe_snoc, hv]
        have hx256 : r[k].toNat < 256 := r[k].toNat_lt
        have HV := Lib.hid hv
        have HT := Lib.hid htk
        clear hv htk
        generalize r[k].toNat = x at *
        go_wp2
        go_round
        case rel => exact ⟨k + 1, by omega, by go_num, by rw [HT.out]; go_num⟩
        case measure => simp [intOf]; omega
      · have hki : ¬ (k : Int) + 1 ≤ (N : Int) := by omega
        have hkN : k = N := by omega
        subst hkN
        have hlt3 : ofBe (r.take k) < 18446744073709551616 := by
          have h1 := ofBe_lt (r.take k)
          have h2 : (r.take k).length ≤ 8 := by simp; omega
          have h3 : 256 ^ (r.take k).length ≤ 256 ^ 8 := Nat.pow_le_pow_right (by decide) h2
          omega
        have hRd := Lib.hid (hR.pre (1 + k) (by omega))
        have htk : (b :: r).take (1 + k) = b :: r.take k := by rw [Nat.add_comm]; rfl
        rw [htk] at hRd
        have hlt4 : (b :: r.take k).length = 1 + k := by simp; omega
        have HL4 := Lib.hid hlt4
        generalize b :: r.take k = t at *
        generalize ofBe (r.take k) = v at *
        clear htk hlt4
        have hD : ∃ D : Bool, D = decide (packN v = t) := ⟨_, rfl⟩
        obtain ⟨D, hD⟩ := hD
        rw [← hD] at HX
        have HD := Lib.hid hD
        clear hD hki
        obtain ⟨C, hC⟩ : ∃ C : World → Prop, C = fun W => Below w.heap.size w W := ⟨_, rfl⟩
        have hg : ∀ W W', C W → Below W.heap.size W W' → C W' := by
          subst hC
          rintro W W' h1 hb
          exact h1.trans (hb.mono h1.size)
        have hc0 : C w := by rw [hC]; exact Below.refl _ _
        go_wp2_with fail
        refine wp_region_grow C [isV (.int .u64 (v : Int)), sl (packN v), isV (.string ⟨(packN v).toArray⟩), isV (.slice (some ⟨bb, off, none⟩) (r.length + 1) c), isV (.int .i64 (1 + (k : Int))), isV (.slice (some ⟨bb, off, none⟩) (1 + k) c), isV (.string ⟨t.toArray⟩), isV (.bool (!D))]
          [([], []), ([0], [(47, 0)]), ([1], [(48, 1)]), ([], []), ([], []), ([3, 4], [(50, 3), (51, 4)]), ([5], [(52, 5)]), ([2, 6], [(49, 2), (53, 6)])] 57 rfl (by kernel_rfl) (by kernel_rfl) (by kernel_rfl) hg (by exact hg _ _ hc0 (Below.drew (Below.refl _ _))) ?st ?ow ?_
        case st =>
          simp only [List.forall_mem_cons]
          and_intros
          all_goals first | exact isV_st _ | exact sl_st _ | simp
        case ow =>
          simp only [OwedQ]
          and_intros
          all_goals try trivial
          all_goals
            intro V w' hc hp
            try simp only [List.forall_mem_cons, tab_zero, tab_succ, isV] at hp
            try simp [wantsG, rhoP, List.lookup, hp, tab_zero, tab_succ, ResG, execOp, bareOp, isV, undef, Below.refl, go_sem]
          · refine (RefNumber_calls v hlt3 w').mono ?_
            rintro e w'' ⟨v', rfl, ho, hb⟩
            exact ⟨v', rfl, sl_own ho, hb⟩
          · rw [str hp.1]; simp [Result.andThen, Below.refl]
          · rw [if_pos (by omega)]
            exact ⟨by rw [show (1 + (k : Int)).toNat = 1 + k by omega], Below.refl _ _⟩
          · rw [hC] at hc
            have hsl : sl t (.slice (some ⟨bb, off, none⟩) (1 + k) c) w' := ⟨_, c, by rw [HL4.out], by rw [HL4.out]; exact (hRd.out.below hc hB).more (Nat.le_trans hB hc.size)⟩
            rw [str hsl]; simp [Result.andThen, Below.refl]
          · rw [HD.out]
            exact Bool.eq_iff_iff.2 (by simp)
        intro V9 W9 hc9 hp9
        have hr9 : V9 7 = .bool (!D) := hp9 7 (by simp)
        clear hp9
        simp only [putAll, Act.put, List.setIfInBounds_toArray, List.set_cons_succ, List.set_cons_zero, hr9]
        rw [hC] at hc9
        cases D
        · go_wp2
          go_ret2
          refine ⟨?_, hc9⟩
          have := HX.out
          simp at this
          rw [← this.1, ← this.2]; rfl
        · go_wp2
          go_ret2
          refine ⟨?_, hc9⟩
          have := HX.out
          simp at this
          rw [← this.1, ← this.2]
          simp

/-- How many bytes the bytes have, in all, that bytes begin with; 0: there are none. -/
def getBK (most : Int) (l : List UInt8) : Nat := if (rdB most l false).2.2 then 0 else l.length - (rdB most l false).2.1.length

theorem rdN_zero {l : List UInt8} {wr : Bool} (h : (rdN l wr).2.2 = true) : (rdN l wr).1 = 0 := by
  cases l with
  | nil => rfl
  | cons b r =>
    simp only [rdN] at h ⊢
    split at h
    · rename_i hq; rw [if_pos hq]
    · simp at h
theorem getK_le (l : List UInt8) : getK l ≤ l.length := by unfold getK; split <;> omega

/-- What GetBytes tells, by what Get tells. -/
theorem getB_cases (most : Int) (l : List UInt8) :
    ((getK l = 0 ∨ most < 0 ∨ most < ((rdN l false).1 : Int) ∨ l.length < getK l + (rdN l false).1) ∧ (rdB most l false).1 = [] ∧ getBK most l = 0) ∨
    (¬ getK l = 0 ∧ ¬ most < 0 ∧ ¬ most < ((rdN l false).1 : Int) ∧ getK l + (rdN l false).1 ≤ l.length ∧ (rdB most l false).1 = (l.drop (getK l)).take (rdN l false).1 ∧ getBK most l = getK l + (rdN l false).1) := by
  cases hd : (rdN l false).2.2 with
  | true =>
    left
    have : rdB most l false = ([], (rdN l false).2.1, true) := by unfold rdB; rw [hd]; simp
    exact ⟨.inl (by simp [getK, hd]), by rw [this], by simp [getBK, this]⟩
  | false =>
    have hb := (rdN_back hd).1
    have hk : getK l = l.length - (rdN l false).2.1.length := by simp [getK, hd]
    have hle := rdN_len l false
    have hpos : 0 < (packN (rdN l false).1).length := by simp [packN]
    have hl := congrArg List.length hb
    rw [List.length_append] at hl
    have hkp : getK l = (packN (rdN l false).1).length := by omega
    have hdrop : l.drop (getK l) = (rdN l false).2.1 := by
      rw [hkp]
      calc l.drop (packN (rdN l false).1).length = (packN (rdN l false).1 ++ (rdN l false).2.1).drop (packN (rdN l false).1).length := by rw [← hb]
        _ = _ := by simp
    by_cases hq : most < 0 ∨ most < ((rdN l false).1 : Int) ∨ (rdN l false).2.1.length < (rdN l false).1
    · left
      have : rdB most l false = ([], (rdN l false).2.1, true) := by
        unfold rdB
        rw [if_pos]
        simp only [hd, Bool.false_or, Bool.or_eq_true, decide_eq_true_eq]
        omega
      refine ⟨?_, by rw [this], by simp [getBK, this]⟩
      rcases hq with h | h | h
      · exact .inr (.inl h)
      · exact .inr (.inr (.inl h))
      · exact .inr (.inr (.inr (by omega)))
    · right
      have : rdB most l false = ((rdN l false).2.1.take (rdN l false).1, (rdN l false).2.1.drop (rdN l false).1, false) := by
        unfold rdB
        rw [if_neg]
        simp only [hd, Bool.false_or, Bool.or_eq_true, decide_eq_true_eq]
        omega
      refine ⟨by omega, by omega, by omega, by omega, by rw [this, hdrop], ?_⟩
      rw [getBK, this]
      simp only [Bool.false_eq_true, if_false, List.length_drop]
      omega

set_option maxHeartbeats 2000000 in
set_option maxRecDepth 100000 in
theorem GetBytes_calls (A : Option Addr) (m c : Nat) (l : List UInt8) (most : Int) (w : World) (B : Nat) (hR : Reads w B 1 A m (bys l)) (hB : B ≤ w.heap.size) (hm : m ≤ 1000000000) (hmc : m ≤ c)
    (h0 : -9223372036854775808 ≤ most) (h1 : most ≤ 9223372036854775807) :
    Calls Try.prog 93 #[.slice A m c, .int .i64 most] w fun e w' =>
      ∃ A' c', e = .returned (.tuple #[.slice A' (rdB most l false).1.length c', .int .i64 (getBK most l : Nat)]) ∧ Reads w' B 1 A' (rdB most l false).1.length (bys (rdB most l false).1) ∧ (rdB most l false).1.length ≤ c' ∧ Below w.heap.size w w' := by
  have hG := Get_calls A m c l w B hR hB hm hmc
  have hl : l.length = m := by simpa using hR.len
  have hc := getB_cases most l
  have hNl := rdN_lt l false
  have hKl := getK_le l
  rw [hl] at hKl
  have hRk := hR.post (A' := if c = getK l then A else A.map (·.add (getK l))) (getK l) (by intro h; rw [if_neg (by omega)])
  rw [hl] at hc
  generalize (rdB most l false).1 = bs at *
  generalize getBK most l = BK at *
  generalize getK l = K at *
  generalize (rdN l false).1 = N at *
  have HRk := Lib.hid hRk
  have HG := Lib.hid hG
  clear hRk hR hG
  rcases hc with ⟨hc, rfl, rfl⟩ | ⟨hk, hm1, hm2, hkn, rfl, rfl⟩
  · have hnil : ∀ (w1 : World), Below w.heap.size w w1 → ∃ A' c', Ending.returned (.tuple #[.slice none 0 0, .int .i64 0]) = Ending.returned (.tuple #[.slice A' ([] : List UInt8).length c', .int .i64 ((0 : Nat) : Int)]) ∧ Reads w1 B 1 A' ([] : List UInt8).length (bys []) ∧ ([] : List UInt8).length ≤ c' ∧ Below w.heap.size w w1 := fun w1 hb1 => ⟨none, 0, rfl, Reads.nil _ _ _ _, by simp, hb1⟩
    by_cases hk : K = 0
    · subst hk
      have hkb : (((0 : Nat) : Int) == 0) = true := rfl
      clear hc
      go_enter Try.func93, Try.ntmps93
      go_wp2_with fail
      refine HG.out.mono ?_
      rintro e w1 ⟨rfl, hb1⟩
      go_wp2
      go_ret2
      exact hnil _ hb1
    have hk' : ((K : Int) == 0) = false := by simp; omega
    by_cases hm1 : most < 0
    · clear hc
      go_enter Try.func93, Try.ntmps93
      go_wp2_with fail
      refine HG.out.mono ?_
      rintro e w1 ⟨rfl, hb1⟩
      go_wp2
      go_ret2
      exact hnil _ hb1
    by_cases hm2 : most < (N : Int)
    · clear hc
      go_enter Try.func93, Try.ntmps93
      go_wp2_with fail
      refine HG.out.mono ?_
      rintro e w1 ⟨rfl, hb1⟩
      go_wp2
      go_ret2
      exact hnil _ hb1
    have hmK : m < K + N := by omega
    have hx : (m : Int) - (K : Int) < (N : Int) := by omega
    clear hc
    go_enter Try.func93, Try.ntmps93
    go_wp2_with fail
    refine HG.out.mono ?_
    rintro e w1 ⟨rfl, hb1⟩
    go_wp2
    go_ret2
    exact hnil _ hb1
  · have hk' : ((K : Int) == 0) = false := by simp; omega
    have hx : ¬ (m : Int) - (K : Int) < (N : Int) := by omega
    have hlen : ((l.drop K).take N).length = N := by simp; omega
    have hpre := HRk.out.pre N (by omega)
    have HP := Lib.hid hpre
    rw [hlen]
    clear hpre
    generalize (l.drop K).take N = bs at *
    go_enter Try.func93, Try.ntmps93
    go_wp2_with fail
    refine HG.out.mono ?_
    rintro e w1 ⟨rfl, hb1⟩
    go_wp2
    · rename_i h
      go_ret2
      refine ⟨A, 0, rfl, ?_, by omega, hb1⟩
      have := HP.out
      rw [if_pos h] at this
      exact this.below hb1 hB
    · rename_i h
      go_ret2
      refine ⟨_, c - K, rfl, ?_, by omega, hb1⟩
      have := HP.out
      rw [if_neg h] at this
      exact this.below hb1 hB

set_option maxHeartbeats 400000 in
set_option maxRecDepth 100000 in
theorem RefCheck_calls (k n : Int) (s : ByteArray) (w : World) :
    Calls Try.prog 143 #[.agg #[.int .i64 k, .int .i64 n, .string s]] w fun e w' => e = .returned (.int .i64 (chk k n s)) ∧ Below w.heap.size w w' := by
  go_enter Try.func143, Try.ntmps143
  go_wp2
  all_goals
    go_ret
    refine ⟨?_, (Below.refl _ _).alloc (Nat.le_refl _) _⟩
    show Ending.returned (.int _ _) = Ending.returned (.int _ _)
    simp_all [chk, okV]

/-- How many bytes the value has that bytes begin with; 0: there is none. -/
def getVK (l : List UInt8) : Nat := if (rdV l false).2.2 then 0 else l.length - (rdV l false).2.1.length
end Go.Proofs.Ythnhdeieimgfhaa
