/-
  postilionlaw02.PackRises: the walk and its plain law: numbers' bytes stand in the numbers' order. Conditions: none.
-/
import Derived.Test.YtipkjgfhadlblaaPackE
import Derived.Test.YtipkjgfhadlblaaOpen
namespace Go.Proofs.Ytipkjgfhadlblaa
open Go Go.RowKit

theorem lexi (P a b r s : Nat) (hr : r < P) (hs : s < P) : a * P + r < b * P + s ↔ a < b ∨ (a = b ∧ r < s) := by
  constructor
  · intro h
    rcases Nat.lt_trichotomy a b with h1 | h1 | h1
    · exact .inl h1
    · subst h1; exact .inr ⟨rfl, by omega⟩
    · exfalso
      have : (b + 1) * P ≤ a * P := Nat.mul_le_mul_right _ h1
      rw [Nat.add_mul, Nat.one_mul] at this
      omega
  · rintro (h1 | ⟨rfl, h1⟩)
    · have : (a + 1) * P ≤ b * P := Nat.mul_le_mul_right _ h1
      rw [Nat.add_mul, Nat.one_mul] at this
      omega
    · omega

theorem mod_split (n k : Nat) : n % 256 ^ (k + 1) = (n / 256 ^ k % 256) * 256 ^ k + n % 256 ^ k := by
  rw [Nat.pow_succ, Nat.mod_mul, Nat.mul_comm, Nat.add_comm]

theorem less_be (k : Nat) : ∀ n m, Op.bytesLess (be k n) (be k m) = decide (n % 256 ^ k < m % 256 ^ k) := by
  induction k with
  | zero => intro n m; simp [be, Op.bytesLess, Nat.mod_one]
  | succ k ih =>
    intro n m
    have hp : 0 < 256 ^ k := Nat.pow_pos (by decide)
    rw [mod_split n k, mod_split m k]
    have hl := lexi (256 ^ k) (n / 256 ^ k % 256) (m / 256 ^ k % 256) (n % 256 ^ k) (m % 256 ^ k) (Nat.mod_lt _ hp) (Nat.mod_lt _ hp)
    simp only [be, Op.bytesLess, ih n m]
    rw [Bool.eq_iff_iff]
    simp only [Bool.or_eq_true, Bool.and_eq_true, decide_eq_true_eq, beq_iff_eq]
    rw [hl, UInt8.lt_iff_toNat_lt, ← UInt8.toNat_inj]
    simp

theorem lt_longN (n : Nat) : n < 256 ^ longN n := by
  induction n using Nat.strongRecOn with
  | _ n ih =>
    rcases Nat.eq_zero_or_pos n with h | h
    · subst h; simp [longN_zero]
    · rw [longN_pos n h, Nat.pow_succ]
      have := ih (n / 256) (by omega)
      omega
theorem longN_mono {n m : Nat} (h : n ≤ m) : longN n ≤ longN m := longN_lt _ _ (Nat.lt_of_le_of_lt h (lt_longN m))

theorem less_packN (n m : Nat) (hn : n < 18446744073709551616) (hm : m < 18446744073709551616) : Op.bytesLess (packN n) (packN m) = decide (n < m) := by
  have h1 := longN_lt 8 n (by omega)
  have h2 := longN_lt 8 m (by omega)
  simp only [packN, Op.bytesLess]
  rw [Bool.eq_iff_iff]
  simp only [Bool.or_eq_true, Bool.and_eq_true, decide_eq_true_eq, beq_iff_eq]
  rw [UInt8.lt_iff_toNat_lt, ← UInt8.toNat_inj]
  have e1 : (UInt8.ofNat (longN n)).toNat = longN n := by simp; omega
  have e2 : (UInt8.ofNat (longN m)).toNat = longN m := by simp; omega
  rw [e1, e2]
  rcases Nat.lt_trichotomy (longN n) (longN m) with h | h | h
  · refine ⟨fun _ => ?_, fun _ => .inl h⟩
    rcases Nat.lt_or_ge n m with h3 | h3
    · exact h3
    · have := longN_mono h3; omega
  · rw [← h, less_be]
    have l1 := lt_longN n
    have l2 := lt_longN m
    rw [← h] at l2
    rw [Nat.mod_eq_of_lt l1, Nat.mod_eq_of_lt l2]
    simp
  · refine ⟨fun h3 => by omega, fun h3 => ?_⟩
    have := longN_mono (Nat.le_of_lt h3)
    omega

theorem less_irrefl : ∀ l, Op.bytesLess l l = false
  | [] => rfl
  | a :: l => by simp [Op.bytesLess, less_irrefl l]

theorem packN_inj {n m : Nat} (hn : n < 18446744073709551616) (hm : m < 18446744073709551616) (h : packN n = packN m) : n = m := by
  have h1 := less_packN n m hn hm
  have h2 := less_packN m n hm hn
  rw [h, less_irrefl] at h1
  rw [h, less_irrefl] at h2
  simp at h1 h2
  omega

theorem packN_length (n : Nat) : (packN n).length = 1 + longN n := by simp [packN, be_length]; omega

/-- A number's bytes that another's begin with are these. -/
theorem packN_begins {n m : Nat} (hn : n < 18446744073709551616) (hm : m < 18446744073709551616) (h : (packN m).take (packN n).length = packN n) : n = m := by
  have h1 := longN_lt 8 n (by omega)
  have h2 := longN_lt 8 m (by omega)
  have hh : UInt8.ofNat (longN m) = UInt8.ofNat (longN n) := by
    have := congrArg List.head? h
    rw [packN_length, Nat.add_comm] at this
    simpa [packN] using this
  have hl : longN m = longN n := by
    have := UInt8.toNat_inj.2 hh
    simp at this
    omega
  refine packN_inj hn hm ?_
  rw [← h, List.take_of_length_le]
  rw [packN_length, packN_length]
  omega

set_option maxHeartbeats 1000000 in
theorem PackRises_walk (v0 v1 : Value) (w : World) (r0 : repU64 w v0) (r1 : repU64 w v1) :
    Calls Try.prog 4 #[v0, v1] w fun e w' => e = .returned (.bool true) ∧ Below w.heap.size w w' := by
  obtain ⟨n, rfl, hn⟩ := r0
  obtain ⟨m, rfl, hm⟩ := r1
  go_enter Try.func4, Try.ntmps4
  go_wp2_with fail
  refine (awake_calls w).mono ?_
  rintro e w1 ⟨rfl, hb1⟩
  go_wp2_with fail
  refine (Number_calls none 0 0 [] n hn w1 0 (Reads.nil _ _ _ _) (by omega) (by omega)).mono ?_
  rintro e w2 ⟨v2, rfl, ho2, hb2⟩
  have hs2 := str (sl_own ho2)
  go_wp2_with fail
  refine (Number_calls none 0 0 [] m hm w2 0 (Reads.nil _ _ _ _) (by omega) (by omega)).mono ?_
  rintro e w3 ⟨v3, rfl, ho3, hb3⟩
  have hs3 := str (sl_own ho3)
  rw [List.nil_append] at hs2 hs3
  generalize hA : (⟨(packN n).toArray⟩ : ByteArray) = A at *
  generalize hB : (⟨(packN m).toArray⟩ : ByteArray) = B at *
  have HA := Lib.hid hA
  have HB := Lib.hid hB
  have hAl : A.toList = packN n := by rw [← hA]; exact ByteArray.toList_mk _
  have hBl : B.toList = packN m := by rw [← hB]; exact ByteArray.toList_mk _
  have HAl := Lib.hid hAl
  have HBl := Lib.hid hBl
  have hAs : A.size = 1 + longN n := by rw [← packN_length, ← hAl, ByteArray.toList_eq]; simp
  have hBs : B.size = 1 + longN m := by rw [← packN_length, ← hBl, ByteArray.toList_eq]; simp
  have hl1 := longN_lt 8 n (by omega)
  have hl2 := longN_lt 8 m (by omega)
  have hA0 : 0 < A.size := by omega
  have hA9 : A.size ≤ 9 := by omega
  have hB9 : B.size ≤ 9 := by omega
  have hBz : ((B.size : Int) == 0) = false := beq_eq_false_iff_ne.2 (by omega)
  have hAz : ((A.size : Int) == 0) = false := beq_eq_false_iff_ne.2 (by omega)
  have hAe : ¬ A = ByteArray.empty := by rintro rfl; simp at hA0
  have hA0i : (0 : Int) < (A.size : Int) := by omega
  have h1 : Op.bytesLess A.toList B.toList = decide (n < m) := by rw [hAl, hBl, less_packN n m hn hm]
  have h2 : (A.toList == B.toList) = ((n : Int) == (m : Int)) := by
    rw [hAl, hBl, Bool.eq_iff_iff]
    simp only [beq_iff_eq]
    exact ⟨fun h => by rw [packN_inj hn hm h], fun h => by rw [show n = m by omega]⟩
  have h3 : A.size ≤ B.size → ((B.extract 0 A.size).toList == A.toList) = ((n : Int) == (m : Int)) := by
    intro hle
    rw [Bool.eq_iff_iff]
    simp only [beq_iff_eq]
    have hx : (B.extract 0 A.size).toList = (packN m).take (packN n).length := by
      rw [ByteArray.toList_eq, Lib.extract_data, ← hBl, ByteArray.toList_eq, packN_length, ← hAs]
      simp
    rw [hx, hAl]
    exact ⟨fun h => by rw [packN_begins hn hm h], fun h => by rw [show n = m by omega, List.take_length]⟩
  have h4 : A[0].toNat = longN n := by
    have h5 : A[0] = UInt8.ofNat (longN n) := by subst hA; rfl
    rw [h5]; simp; omega
  have h4b : A[0].toNat ≤ 8 := by omega
  have h6 : ((A.size : Int) == (1 : Int) + (A[0].toNat : Int)) = true := beq_iff_eq.2 (by omega)
  have h7 : ¬ A.size ≤ B.size → ((n : Int) == (m : Int)) = false := by
    intro hle
    refine beq_eq_false_iff_ne.2 fun h => hle ?_
    rw [hAs, hBs, show n = m by omega]
    exact Nat.le_refl _
  have hb := (hb1.trans (hb2.mono hb1.size)).trans (hb3.mono (Nat.le_trans hb1.size hb2.size))
  clear hA hB hAl hBl ho2 ho3 hAs hBs hl1 hl2 h4
  by_cases hle : A.size ≤ B.size
  · have h3 := h3 hle
    clear h7
    go_wp2
    go_ret
    exact ⟨rfl, hb⟩
  · have hnm := h7 hle
    clear h3 h7
    go_wp2
    go_ret
    exact ⟨rfl, hb⟩
end Go.Proofs.Ytipkjgfhadlblaa
