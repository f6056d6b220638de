/-
  The walks of value.Check, value.Int, pack.fold, pack.unfold and pack.Value: what each returns, and that nothing that was there is changed. Conditions: lengths of at most 10^9.
-/
import Derived.Test.YtjcdgbnbaiebdaaPackA
import Derived.BigQuiet
import Derived.Deep.QuietTactic
namespace Go.Proofs.Ytjcdgbnbaiebdaa
open Go Go.RowKit

/-- The bytes of a text. -/
abbrev byt (s : ByteArray) : List UInt8 := s.data.toList

/-- Whether a value may be. -/
def okV (k n : Int) (s : ByteArray) : Bool :=
  if k == 1 then s.toList.isEmpty else if k == 2 then n == 0 && decide ((s.size : Int) ≤ 40) else if k == 3 then (n == 0 || n == 1) && s.toList.isEmpty else false
/-- What value.Check tells. -/
def chk (k n : Int) (s : ByteArray) : Int := if okV k n s then 0 else 10

def foldI (n : Int) : Nat := if n < 0 then (-2 * n - 1).toNat else (2 * n).toNat
def unfoldI (n : Nat) : Int := if n % 2 = 1 then -((n / 2 : Nat) : Int) - 1 else ((n / 2 : Nat) : Int)

theorem fold_calls (n : Int) (w : World) (h0 : -9223372036854775808 ≤ n) (h1 : n ≤ 9223372036854775807) :
    Calls Try.prog 77 #[.int .i64 n] w fun e w' => e = .returned (.int .u64 (foldI n : Nat)) ∧ w = w' := by
  by_cases hn : n < 0
  · have e : (foldI n : Int) = -2 * n - 1 := by simp [foldI, hn]; omega
    have HE := Lib.hid e
    clear e
    go_enter Try.func77, Try.ntmps77
    go_wp2
    go_ret
    refine ⟨?_, rfl⟩
    rw [HE.out]
    show Ending.returned (.int _ _) = Ending.returned (.int _ _)
    congr 2
    all_goals omega
  · have e : (foldI n : Int) = 2 * n := by simp [foldI, hn]; omega
    have HE := Lib.hid e
    clear e
    go_enter Try.func77, Try.ntmps77
    go_wp2
    go_ret
    refine ⟨?_, rfl⟩
    rw [HE.out]
    show Ending.returned (.int _ _) = Ending.returned (.int _ _)
    congr 2
    all_goals omega

theorem unfold_calls (n : Nat) (w : World) (hn : n < 18446744073709551616) :
    Calls Try.prog 78 #[.int .u64 (n : Int)] w fun e w' => e = .returned (.int .i64 (unfoldI n)) ∧ w = w' := by
  by_cases hm : n % 2 = 1
  · have e : unfoldI n = -((n / 2 : Nat) : Int) - 1 := by simp [unfoldI, hm]
    have HE := Lib.hid e
    have hb : (((n : Int) % 2) == 1) = true := by simp; omega
    clear e hm
    go_enter Try.func78, Try.ntmps78
    go_wp2
    go_ret
    refine ⟨?_, rfl⟩
    rw [HE.out]
    show Ending.returned (.int _ _) = Ending.returned (.int _ _)
    congr 2
    all_goals omega
  · have e : unfoldI n = ((n / 2 : Nat) : Int) := by simp [unfoldI, hm]
    have HE := Lib.hid e
    have hb : (((n : Int) % 2) == 1) = false := by simp; omega
    clear e hm
    go_enter Try.func78, Try.ntmps78
    go_wp2
    go_ret
    refine ⟨?_, rfl⟩
    rw [HE.out]
    show Ending.returned (.int _ _) = Ending.returned (.int _ _)
    congr 2
    all_goals omega

set_option maxHeartbeats 400000 in
set_option maxRecDepth 100000 in
theorem Check_calls (k n : Int) (s : ByteArray) (w : World) :
    Calls Try.prog 53 #[.agg #[.int .i64 k, .int .i64 n, .string s]] w fun e w' => e = .returned (.int .i64 (chk k n s)) ∧ Below w.heap.size w w' := by
  go_enter Try.func53, Try.ntmps53
  go_wp2
  all_goals
    go_ret
    refine ⟨?_, (Below.refl _ _).alloc (Nat.le_refl _) _⟩
    show Ending.returned (.int _ _) = Ending.returned (.int _ _)
    simp_all [chk, okV]

/-- The Go value of a value. -/
abbrev vv (k n : Int) (s : ByteArray) : Value := .agg #[.int .i64 k, .int .i64 n, .string s]
/-- The number of a value as it is packed. -/
def numV (k n : Int) : Nat := if k = 1 then foldI n else (n % 18446744073709551616).toNat
def kindN (k : Int) : Nat := (k % 18446744073709551616).toNat
def packV (k n : Int) (s : ByteArray) : List UInt8 := packN (kindN k) ++ packN (numV k n) ++ (packN s.size ++ byt s)

theorem u64_wrap (k : Int) : IntKind.u64.wrap k = (kindN k : Int) := by
  unfold kindN
  show k % 2 ^ 64 = _
  omega
theorem kindN_lt (k : Int) : kindN k < 18446744073709551616 := by unfold kindN; omega
theorem foldI_lt (n : Int) (h0 : -9223372036854775808 ≤ n) (h1 : n ≤ 9223372036854775807) : foldI n < 18446744073709551616 := by
  unfold foldI; split <;> omega
theorem numV_lt (k n : Int) (h0 : -9223372036854775808 ≤ n) (h1 : n ≤ 9223372036854775807) : numV k n < 18446744073709551616 := by
  unfold numV; split
  · exact foldI_lt n h0 h1
  · exact kindN_lt n

/-- A text made into bytes: they lie in a new block. -/
theorem Reads.conv (w : World) (s : ByteArray) (c : Nat) (x : Nat × Nat) (e : TypeId) : Reads (w.alloc (.cells (bytesRow s c) e x)) (w.heap.size + 1) 1 (some ⟨w.heap.size, 0, none⟩) s.size (bys (byt s)) :=
  ⟨by simp, fun _ => ⟨w.heap.size, 0, rfl, by omega, fun j u hu => by
    have h1 := heap_alloc_new w (.cells (bytesRow s c) e x)
    simp only [World.cell?, h1]
    have hj : j < s.data.size := by
      have := (List.getElem?_eq_some_iff.1 hu).1
      simpa using this
    have hj' : j < s.size := hj
    simp [bytesRow, Array.getElem?_append, hj']
    simp [bys] at hu
    obtain ⟨a, ha, rfl⟩ := hu
    rw [Array.getElem?_eq_getElem hj] at ha
    injection ha with ha
    rw [ha]⟩⟩

set_option maxHeartbeats 1000000 in
set_option maxRecDepth 100000 in
theorem Value_calls (A : Option Addr) (m c : Nat) (l : List UInt8) (k n : Int) (s : ByteArray) (w : World) (B : Nat) (hR : Reads w B 1 A m (bys l)) (hB : B ≤ w.heap.size) (hm : m ≤ 900000000) (hs : s.size ≤ 900000000)
    (h0 : -9223372036854775808 ≤ n) (h1 : n ≤ 9223372036854775807) :
    Calls Try.prog 72 #[.slice A m c, vv k n s] w fun e w' =>
      ∃ v', e = .returned v' ∧ Own w' w.heap.size 5 v' (l ++ packV k n s) ∧ Below w.heap.size w w' := by
  have hnl := numV_lt k n h0 h1
  have hkl := kindN_lt k
  have hfl := packN_len _ hkl
  have hgl := packN_len _ hnl
  have hpl := packN_len s.size (by omega)
  have hml : l.length = m := by simpa using hR.len
  have Hml := Lib.hid hml
  clear hml
  generalize hNV : numV k n = NV at *
  generalize hKN : kindN k = KN at *
  have HNV := Lib.hid hNV
  have HKN := Lib.hid hKN
  clear hNV hKN
  have hcv := fun W => run_bytes_of_string (P := Try.prog) W 9 46 5 s Try.underlying9 Try.underlying46 Try.underlying5
  have hbox : Below w.heap.size w (w.alloc (.cells #[.int .i64 k, .int .i64 n, .string s] 76)) := (Below.refl _ _).alloc (Nat.le_refl _) _
  by_cases hk : k = 1
  rotate_left
  · have hkb : (k == 1) = false := by simpa using hk
    have HF : Hid (kindN n = NV) := by rw [← HNV.out]; exact Lib.hid (by simp [numV, hk]; rfl)
    clear hk
    go_enter Try.func72, Try.ntmps72
    go_wp2_with fail
    rw [u64_wrap n, HF.out]
    rw [u64_wrap k, HKN.out]
    refine (Number_calls A m c l KN hkl _ B (hR.below hbox hB) (by simp; omega) (by omega)).mono ?_
    rintro e w1 ⟨v1, rfl, ho1, hb1⟩
    have hx1 := (Blk.new w 76 #[.int .i64 k, .int .i64 n, .string s]).below hb1 (by simp)
    have hc2 := hx1.cell 2
    simp at hc2
    obtain ⟨A1, c1, rfl, hR1⟩ := ho1.slice
    have hl1 : (l ++ packN KN).length ≤ m + 9 := by have := Hml.out; simp; omega
    generalize hm1 : (l ++ packN KN).length = m1 at *
    clear hm1 ho1
    have hz1 := hb1.size
    simp only [World.size_alloc] at hz1
    go_wp2_with fail
    refine (Number_calls A1 m1 c1 _ NV hnl w1 w1.heap.size hR1 (Nat.le_refl _) (by omega)).mono ?_
    rintro e w2 ⟨v2, rfl, ho2, hb2⟩
    have hx2 := hx1.below hb2 (by omega)
    have hc3 := hx2.cell 2
    simp at hc3
    clear hc2 hx1 hR1
    obtain ⟨A2, c2, rfl, hR2⟩ := ho2.slice
    have hl2 : (l ++ packN KN ++ packN NV).length ≤ m + 18 := by have := Hml.out; simp; omega
    generalize hm2 : (l ++ packN KN ++ packN NV).length = m2 at *
    clear hm2 ho2
    have hz2 := hb2.size
    go_wp2_with fail
    have hcb : Below w2.heap.size w2 (w2.drew.alloc (.cells (bytesRow s (grownCap w2 s.size 0 5)) 5 ((bytesRow s (grownCap w2 s.size 0 5)).size, (bytesRow s (grownCap w2 s.size 0 5)).size + 1))) := ((Below.refl _ w2).drew).alloc (Nat.le_refl _) _
    refine (Bytes_calls A2 _ m2 c2 s.size _ _ (byt s) _ (w2.heap.size + 1) ((hR2.below hcb (Nat.le_refl _)).more (by omega)) (Reads.conv w2.drew s _ _ _) (by simp) (by omega) (by omega)).mono ?_
    rintro e w3 ⟨v3, rfl, ho3, hb3⟩
    go_wp2
    go_ret
    refine ⟨_, rfl, ?_, ?_⟩
    · unfold packV
      rw [HKN.out, HNV.out]
      refine own_base ?_ ho3
      simp; omega
    · exact ((hbox.trans (hb1.mono (by simp))).trans (hb2.mono (by omega))).trans ((hcb.mono (by omega)).trans (hb3.mono (by simp; omega)))
  · have hkb : (k == 1) = true := by simpa using hk
    have HF : Hid (foldI n = NV) := by rw [← HNV.out]; exact Lib.hid (by simp [numV, hk])
    clear hk
    go_enter Try.func72, Try.ntmps72
    go_wp2_with fail
    refine (fold_calls n _ h0 h1).mono ?_
    rintro e w' ⟨rfl, rfl⟩
    rw [HF.out]
    go_wp2_with fail
    rw [u64_wrap k, HKN.out]
    refine (Number_calls A m c l KN hkl _ B (hR.below hbox hB) (by simp; omega) (by omega)).mono ?_
    rintro e w1 ⟨v1, rfl, ho1, hb1⟩
    have hx1 := (Blk.new w 76 #[.int .i64 k, .int .i64 n, .string s]).below hb1 (by simp)
    have hc2 := hx1.cell 2
    simp at hc2
    obtain ⟨A1, c1, rfl, hR1⟩ := ho1.slice
    have hl1 : (l ++ packN KN).length ≤ m + 9 := by have := Hml.out; simp; omega
    generalize hm1 : (l ++ packN KN).length = m1 at *
    clear hm1 ho1
    have hz1 := hb1.size
    simp only [World.size_alloc] at hz1
    go_wp2_with fail
    refine (Number_calls A1 m1 c1 _ NV hnl w1 w1.heap.size hR1 (Nat.le_refl _) (by omega)).mono ?_
    rintro e w2 ⟨v2, rfl, ho2, hb2⟩
    have hx2 := hx1.below hb2 (by omega)
    have hc3 := hx2.cell 2
    simp at hc3
    clear hc2 hx1 hR1
    obtain ⟨A2, c2, rfl, hR2⟩ := ho2.slice
    have hl2 : (l ++ packN KN ++ packN NV).length ≤ m + 18 := by have := Hml.out; simp; omega
    generalize hm2 : (l ++ packN KN ++ packN NV).length = m2 at *
    clear hm2 ho2
    have hz2 := hb2.size
    go_wp2_with fail
    have hcb : Below w2.heap.size w2 (w2.drew.alloc (.cells (bytesRow s (grownCap w2 s.size 0 5)) 5 ((bytesRow s (grownCap w2 s.size 0 5)).size, (bytesRow s (grownCap w2 s.size 0 5)).size + 1))) := ((Below.refl _ w2).drew).alloc (Nat.le_refl _) _
    refine (Bytes_calls A2 _ m2 c2 s.size _ _ (byt s) _ (w2.heap.size + 1) ((hR2.below hcb (Nat.le_refl _)).more (by omega)) (Reads.conv w2.drew s _ _ _) (by simp) (by omega) (by omega)).mono ?_
    rintro e w3 ⟨v3, rfl, ho3, hb3⟩
    go_wp2
    go_ret
    refine ⟨_, rfl, ?_, ?_⟩
    · unfold packV
      rw [HKN.out, HNV.out]
      refine own_base ?_ ho3
      simp; omega
    · exact ((hbox.trans (hb1.mono (by simp))).trans (hb2.mono (by omega))).trans ((hcb.mono (by omega)).trans (hb3.mono (by simp; omega)))
end Go.Proofs.Ytjcdgbnbaiebdaa
