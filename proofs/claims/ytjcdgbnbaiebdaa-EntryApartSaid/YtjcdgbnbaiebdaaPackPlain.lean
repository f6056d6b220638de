/-
  Plain laws of packing: what is packed is unpacked, and what is unpacked was packed so. Conditions: none beyond those stated.
-/
import Derived.Test.YtjcdgbnbaiebdaaPackD
namespace Go.Proofs.Ytjcdgbnbaiebdaa
open Go Go.RowKit

theorem lt_longN' (n : Nat) : n < 256 ^ longN n := by
  induction n using Nat.strongRecOn with
  | _ n ih =>
    rcases Nat.eq_zero_or_pos n with h | h
    · subst h; simp [longN_zero]
    · rw [longN_pos n h, Nat.pow_succ]
      have := ih (n / 256) (by omega)
      omega
theorem longN_ge (n : Nat) (h : 0 < n) : 256 ^ (longN n - 1) ≤ n := by
  induction n using Nat.strongRecOn with
  | _ n ih =>
    rw [longN_pos n h]
    simp only [Nat.add_sub_cancel]
    rcases Nat.eq_zero_or_pos (n / 256) with h1 | h1
    · rw [h1, longN_zero]; simp; omega
    · have h2 := ih (n / 256) (by omega) h1
      have h3 : longN (n / 256) = (longN (n / 256) - 1) + 1 := by
        have := longN_pos (n / 256) h1; omega
      rw [h3, Nat.pow_succ]
      omega
theorem longN_eq (n k : Nat) (h1 : n < 256 ^ (k + 1)) (h2 : 256 ^ k ≤ n) : longN n = k + 1 := by
  have h3 := longN_lt (k + 1) n h1
  rcases Nat.lt_or_ge (longN n) (k + 1) with h | h
  · exfalso
    have h4 := lt_longN' n
    have h5 : 256 ^ longN n ≤ 256 ^ k := Nat.pow_le_pow_right (by decide) (by omega)
    omega
  · omega

theorem ofBe_cons (b : UInt8) (l : List UInt8) : ofBe (b :: l) = b.toNat * 256 ^ l.length + ofBe l := by
  have key : ∀ (l : List UInt8) (a : Nat), l.foldl (fun n (b : UInt8) => n * 256 + b.toNat) a = a * 256 ^ l.length + ofBe l := by
    intro l
    induction l with
    | nil => intro a; simp [ofBe]
    | cons x l ih =>
      intro a
      simp only [List.foldl_cons, List.length_cons, ofBe]
      rw [ih, ih (0 * 256 + x.toNat), Nat.pow_succ]
      have : (a * 256 + x.toNat) * 256 ^ l.length = a * (256 ^ l.length * 256) + x.toNat * 256 ^ l.length := by
        rw [Nat.add_mul, Nat.mul_assoc, Nat.mul_comm 256]
      rw [Nat.zero_mul, Nat.zero_add, this]
      omega
  have := key l b.toNat
  simpa [ofBe] using this

theorem ofBe_be (k : Nat) : ∀ n, ofBe (be k n) = n % 256 ^ k := by
  induction k with
  | zero => intro n; simp [be, ofBe, Nat.mod_one]
  | succ k ih =>
    intro n
    rw [be, ofBe_cons, ih, be_length, Nat.pow_succ, Nat.mod_mul]
    simp
    rw [Nat.mul_comm, Nat.add_comm]

theorem be_mod (k : Nat) : ∀ n m, n % 256 ^ k = m % 256 ^ k → be k n = be k m := by
  induction k with
  | zero => intro n m _; rfl
  | succ k ih =>
    intro n m h
    have hp : 0 < 256 ^ k := Nat.pow_pos (by decide)
    have e : ∀ x : Nat, x % 256 ^ (k + 1) = 256 ^ k * (x / 256 ^ k % 256) + x % 256 ^ k := by
      intro x; rw [Nat.pow_succ, Nat.mod_mul, Nat.add_comm]
    rw [e n, e m] at h
    have l1 := Nat.mod_lt n hp
    have l2 := Nat.mod_lt m hp
    have h1 : n / 256 ^ k % 256 = m / 256 ^ k % 256 := by
      have a1 : (256 ^ k * (n / 256 ^ k % 256) + n % 256 ^ k) / 256 ^ k = n / 256 ^ k % 256 := by
        rw [Nat.mul_add_div hp, Nat.div_eq_of_lt l1, Nat.add_zero]
      have a2 : (256 ^ k * (m / 256 ^ k % 256) + m % 256 ^ k) / 256 ^ k = m / 256 ^ k % 256 := by
        rw [Nat.mul_add_div hp, Nat.div_eq_of_lt l2, Nat.add_zero]
      rw [← a1, ← a2, h]
    have h2 : n % 256 ^ k = m % 256 ^ k := by rw [h1] at h; omega
    rw [be, be, ih n m h2]
    congr 1
    apply UInt8.toNat_inj.1
    simpa using h1

theorem be_ofBe : ∀ l : List UInt8, be l.length (ofBe l) = l
  | [] => rfl
  | b :: l => by
    have h1 := ofBe_lt l
    have hp : 0 < 256 ^ l.length := Nat.pow_pos (by decide)
    rw [List.length_cons, be, ofBe_cons]
    have e1 : (b.toNat * 256 ^ l.length + ofBe l) / 256 ^ l.length = b.toNat := by
      rw [Nat.mul_comm, Nat.mul_add_div hp, Nat.div_eq_of_lt h1, Nat.add_zero]
    rw [e1]
    have e2 : be l.length (b.toNat * 256 ^ l.length + ofBe l) = be l.length (ofBe l) := be_mod _ _ _ (by simp)
    rw [e2, be_ofBe l]
    simp

theorem rdN_true (l : List UInt8) : rdN l true = (0, l, true) := by
  unfold rdN; split <;> simp

/-- What is packed is unpacked. -/
theorem rdN_pack (n : Nat) (h : n < 18446744073709551616) (rest : List UInt8) : rdN (packN n ++ rest) false = (n, rest, false) := by
  have h8 := longN_lt 8 n (by omega)
  have hb : (UInt8.ofNat (longN n)).toNat = longN n := by simp; omega
  have hlen := be_length (longN n) n
  have e1 : (be (longN n) n ++ rest).take (longN n) = be (longN n) n := by rw [← hlen]; simp [hlen]
  have e2 : (be (longN n) n ++ rest).drop (longN n) = rest := by rw [← hlen]; simp [hlen]
  have hhead : 0 < longN n → ¬ (be (longN n) n ++ rest).head? = some 0 := by
    intro h0 hh
    have hn0 : 0 < n := by
      rcases Nat.eq_zero_or_pos n with h1 | h1
      · subst h1; rw [longN_zero] at h0; omega
      · exact h1
    have hg := longN_ge n hn0
    have hl := lt_longN' n
    obtain ⟨k, hk⟩ : ∃ k, longN n = k + 1 := ⟨longN n - 1, by omega⟩
    rw [hk] at hh hg hl
    simp only [be, List.cons_append, List.head?_cons, Option.some.injEq, Nat.add_sub_cancel] at hh hg
    have hz : n / 256 ^ k % 256 = 0 := by
      have := congrArg UInt8.toNat hh
      simpa using this
    have hp : 0 < 256 ^ k := Nat.pow_pos (by decide)
    have hq1 : n / 256 ^ k < 256 := by
      rw [Nat.pow_succ] at hl
      exact Nat.div_lt_of_lt_mul hl
    have hq0 : 0 < n / 256 ^ k := Nat.div_pos hg hp
    omega
  have hq : (false || decide (8 < (UInt8.ofNat (longN n)).toNat) || decide ((be (longN n) n ++ rest).length < (UInt8.ofNat (longN n)).toNat) || (decide (0 < (UInt8.ofNat (longN n)).toNat) && (be (longN n) n ++ rest).head? == some 0)) = false := by
    rw [hb]
    simp only [Bool.false_or, Bool.or_eq_false_iff, decide_eq_false_iff_not, Bool.and_eq_false_iff]
    refine ⟨⟨by omega, by simp [hlen]⟩, ?_⟩
    by_cases h0 : 0 < longN n
    · right
      exact beq_eq_false_iff_ne.2 (hhead h0)
    · left; exact h0
  unfold packN
  simp only [List.cons_append, rdN]
  rw [hq, hb, e1, e2, ofBe_be, Nat.mod_eq_of_lt (lt_longN' n)]
  rfl

/-- What is unpacked was packed so. -/
theorem rdN_back {l : List UInt8} {wr : Bool} (h : (rdN l wr).2.2 = false) : l = packN (rdN l wr).1 ++ (rdN l wr).2.1 ∧ wr = false := by
  match l with
  | [] => simp [rdN] at h
  | b :: r =>
    simp only [rdN] at h ⊢
    split at h
    · simp at h
    · rename_i hq
      rw [if_neg hq]
      simp only [Bool.or_eq_true, not_or, Bool.not_eq_true, Bool.and_eq_false_iff, decide_eq_false_iff_not] at hq
      obtain ⟨⟨⟨h0, h8⟩, hl⟩, hx⟩ := hq
      refine ⟨?_, h0⟩
      have hlen : (r.take b.toNat).length = b.toNat := by simp; omega
      have hk : longN (ofBe (r.take b.toNat)) = b.toNat := by
        rcases Nat.eq_zero_or_pos b.toNat with hb | hb
        · rw [hb]; simp [ofBe, longN_zero]
        · obtain ⟨k, hk⟩ : ∃ k, b.toNat = k + 1 := ⟨b.toNat - 1, by omega⟩
          rw [hk] at hlen hx ⊢
          match r, hlen, hx with
          | [], hlen, _ => simp at hlen
          | x :: r', hlen, hx =>
            have hx0 : x ≠ 0 := by
              rintro rfl
              simp at hx
            have hx1 : 0 < x.toNat := by
              rcases Nat.eq_zero_or_pos x.toNat with h | h
              · exact absurd (UInt8.toNat_inj.1 (show x.toNat = (0 : UInt8).toNat from h)) hx0
              · exact h
            simp only [List.take_succ_cons, List.length_cons, Nat.add_right_cancel_iff] at hlen ⊢
            have hlt := ofBe_lt (x :: r'.take k)
            simp only [List.length_cons, hlen] at hlt
            refine longN_eq _ k hlt ?_
            rw [ofBe_cons, hlen]
            have : 1 * 256 ^ k ≤ x.toNat * 256 ^ k := Nat.mul_le_mul_right _ hx1
            omega
      have e1 := be_ofBe (r.take b.toNat)
      rw [hlen] at e1
      unfold packN
      rw [hk, e1, List.cons_append, List.take_append_drop]
      simp

theorem rdB_pack (most : Int) (b : List UInt8) (hb : b.length < 18446744073709551616) (hm : (b.length : Int) ≤ most) (rest : List UInt8) : rdB most (packN b.length ++ b ++ rest) false = (b, rest, false) := by
  rw [List.append_assoc]
  unfold rdB
  rw [rdN_pack b.length hb]
  have hq : (false || decide (most < 0) || decide (most.toNat < b.length) || decide ((b ++ rest).length < b.length)) = false := by
    simp; omega
  simp only
  rw [hq]
  simp

theorem rdB_back {most : Int} {l : List UInt8} {wr : Bool} (h : (rdB most l wr).2.2 = false) :
    l = packN (rdB most l wr).1.length ++ (rdB most l wr).1 ++ (rdB most l wr).2.1 ∧ ((rdB most l wr).1.length : Int) ≤ most ∧ wr = false := by
  unfold rdB at h ⊢
  split at h
  · simp at h
  · rename_i hq
    rw [if_neg hq]
    simp at hq
    obtain ⟨⟨⟨h0, h1⟩, h2⟩, h3⟩ := hq
    obtain ⟨e1, e2⟩ := rdN_back h0
    have hlen : ((rdN l wr).2.1.take (rdN l wr).1).length = (rdN l wr).1 := by simp; omega
    refine ⟨?_, ?_, e2⟩
    · simp only
      rw [hlen, List.append_assoc, List.take_append_drop]
      exact e1
    · simp only
      rw [hlen]
      omega

theorem unfold_fold (n : Int) (h0 : -9223372036854775808 ≤ n) (h1 : n ≤ 9223372036854775807) : unfoldI (foldI n) = n := by
  unfold foldI unfoldI
  split <;> split <;> omega
theorem fold_unfold (n : Nat) (h : n < 18446744073709551616) : foldI (unfoldI n) = n ∧ -9223372036854775808 ≤ unfoldI n ∧ unfoldI n ≤ 9223372036854775807 := by
  unfold foldI unfoldI
  split <;> split <;> omega
theorem toI64_mod (n : Int) (h0 : -9223372036854775808 ≤ n) (h1 : n ≤ 9223372036854775807) : toI64 (n % 18446744073709551616).toNat = n := by
  unfold toI64; omega
theorem mod_toI64 (n : Nat) (h : n < 18446744073709551616) : (toI64 n % 18446744073709551616).toNat = n ∧ -9223372036854775808 ≤ toI64 n ∧ toI64 n ≤ 9223372036854775807 := by
  unfold toI64; omega

theorem okV_kind {k n : Int} {s : ByteArray} (h : okV k n s = true) : (k = 1 ∨ k = 2 ∨ k = 3) ∧ s.size ≤ 40 := by
  unfold okV at h
  split at h
  · rename_i hk
    rw [ByteArray.toList_eq] at h
    simp at hk h
    refine ⟨.inl hk, ?_⟩
    show s.data.size ≤ 40
    simp [h]
  · split at h
    · rename_i hk
      simp at hk h
      exact ⟨.inr (.inl hk), by omega⟩
    · split at h
      · rename_i hk
        rw [ByteArray.toList_eq] at h
        simp at hk h
        refine ⟨.inr (.inr hk), ?_⟩
        show s.data.size ≤ 40
        simp [h.2]
      · simp at h

theorem rdVn_num (k n : Int) (hk : k = 1 ∨ k = 2 ∨ k = 3) (h0 : -9223372036854775808 ≤ n) (h1 : n ≤ 9223372036854775807) : rdVn (kindN k) (numV k n) = n := by
  unfold rdVn numV kindN
  rcases hk with rfl | rfl | rfl
  · simp; exact unfold_fold n h0 h1
  · simp; exact toI64_mod n h0 h1
  · simp; exact toI64_mod n h0 h1

theorem rdV_pack (k n : Int) (s : ByteArray) (hok : okV k n s = true) (h0 : -9223372036854775808 ≤ n) (h1 : n ≤ 9223372036854775807) (rest : List UInt8) :
    rdV (packV k n s ++ rest) false = ((k, n, byt s), rest, false) := by
  obtain ⟨hk, hs⟩ := okV_kind hok
  have hkn := kindN_lt k
  have hnn := numV_lt k n h0 h1
  have hsl : (byt s).length = s.size := by simp
  unfold rdV packV
  rw [List.append_assoc, List.append_assoc, rdN_pack _ hkn]
  simp only
  rw [rdN_pack _ hnn]
  simp only
  rw [← hsl, rdB_pack 40 (byt s) (by omega) (by omega)]
  simp only
  rw [rdVn_num k n hk h0 h1]
  have hkk : (kindN k : Int) = k := by unfold kindN; omega
  have hk3 : ¬ 3 < kindN k := by omega
  rw [hkk]
  have hsb : (⟨(byt s).toArray⟩ : ByteArray) = s := by cases s; simp
  rw [hsb, hok]
  simp [hk3]

theorem rdV_back {l : List UInt8} {wr : Bool} (h : (rdV l wr).2.2 = false) :
    l = packV (rdV l wr).1.1 (rdV l wr).1.2.1 ⟨(rdV l wr).1.2.2.toArray⟩ ++ (rdV l wr).2.1 ∧ okV (rdV l wr).1.1 (rdV l wr).1.2.1 ⟨(rdV l wr).1.2.2.toArray⟩ = true ∧ wr = false ∧
      -9223372036854775808 ≤ (rdV l wr).1.2.1 ∧ (rdV l wr).1.2.1 ≤ 9223372036854775807 := by
  simp only [rdV] at h ⊢
  split at h
  · simp at h
  · rename_i hq
    rw [if_neg hq]
    simp only [Bool.or_eq_true, not_or, decide_eq_true_eq, Bool.not_eq_true, Bool.not_eq_eq_eq_not] at hq
    obtain ⟨⟨hk, hw⟩, hok⟩ := hq
    have l1 := rdN_lt l wr
    have l2 := rdN_lt (rdN l wr).2.1 (rdN l wr).2.2
    obtain ⟨e3, e3m, w2⟩ := rdB_back hw
    obtain ⟨e2, w1⟩ := rdN_back w2
    obtain ⟨e1, w0⟩ := rdN_back w1
    have hok' : okV ((rdN l wr).1 : Int) (rdVn (rdN l wr).1 (rdN (rdN l wr).2.1 (rdN l wr).2.2).1) ⟨(rdB 40 (rdN (rdN l wr).2.1 (rdN l wr).2.2).2.1 (rdN (rdN l wr).2.1 (rdN l wr).2.2).2.2).1.toArray⟩ = true := by simpa using hok
    have hkd := (okV_kind hok').1
    simp only
    generalize (rdB 40 (rdN (rdN l wr).2.1 (rdN l wr).2.2).2.1 (rdN (rdN l wr).2.1 (rdN l wr).2.2).2.2) = c at *
    generalize rdN (rdN l wr).2.1 (rdN l wr).2.2 = b at *
    generalize rdN l wr = a at *
    obtain ⟨k, l1', w1'⟩ := a
    obtain ⟨n, l2', w2'⟩ := b
    obtain ⟨s, l3', w3'⟩ := c
    simp only at *
    have hkk : kindN (k : Int) = k := by unfold kindN; omega
    have hnn : numV (k : Int) (rdVn k n) = n ∧ -9223372036854775808 ≤ rdVn k n ∧ rdVn k n ≤ 9223372036854775807 := by
      unfold numV rdVn
      by_cases h1 : k = 1
      · subst h1; simp; exact fold_unfold n l2
      · rw [if_neg (by omega), if_neg h1]; exact mod_toI64 n l2
    refine ⟨?_, hok', w0, hnn.2⟩
    unfold packV
    rw [hkk, hnn.1, e1, e2, e3]
    simp [ByteArray.size, byt]
end Go.Proofs.Ytjcdgbnbaiebdaa
