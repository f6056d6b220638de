/-
  The walks of package pack that make memory (own, long, number): what each returns, and that nothing that was there is changed. Conditions: the lengths are at most 2^40.
-/
import Derived.Test.YtjcdgbnbaiebdaaProg
import Derived.Test.YtjcdgbnbaiebdaaMem
namespace Go.Proofs.Ytjcdgbnbaiebdaa
open Go Go.RowKit

theorem infoU8 : (Try.prog.info? 5).map (fun i => (i.zero, i.size, i.bytes)) = some (some (.int .u8 0), 1, 1) := by kernel_rfl

set_option maxHeartbeats 400000 in
theorem own_calls (A : Option Addr) (n c : Nat) (l : List UInt8) (more : Int) (w : World) (B : Nat) (hR : Reads w B 1 A n (bys l)) (hB : B ≤ w.heap.size) (hn : n ≤ 1099511627776) (hm0 : 0 ≤ more) (hm1 : more ≤ 1099511627776) :
    Calls Try.prog 71 #[.slice A n c, .int .i64 more] w fun e w' =>
      ∃ g cap, e = .returned (.slice (some ⟨g, 0, none⟩) n cap) ∧ w'.ownsRow w.heap.size 5 1 (.slice (some ⟨g, 0, none⟩) n cap) n (bys l) ∧ Below w.heap.size w w' ∧ n ≤ cap ∧ cap ≤ 2199023255552 := by
  obtain ⟨m, rfl⟩ := Int.eq_ofNat_of_zero_le hm0
  obtain ⟨i, hi, hz0, hz1, hz2⟩ := info_parts infoU8
  have hmk : ∀ W : World, (Instr.makeSlice 46 (.int .i64 (n : Int)) (.int .i64 ((n : Int) + (m : Int)))).run Try.prog W = .ok (.slice (some ⟨W.heap.size, 0, none⟩) n (n + m)) (W.alloc (.cells (madeCells #[.int .u8 0] (n + m)) 5)) := by
    intro W
    have h := run_make (P := Try.prog) W 46 5 i (.int .u8 0) Try.underlying46 hi hz0 .i64 .i64 (n : Int) ((n : Int) + (m : Int)) (by omega) (by omega) (by rw [hz2]; omega) (by omega)
    rw [hz1] at h
    simpa [Value.cells, show ((n : Int) + (m : Int)).toNat = n + m from by omega] using h
  go_enter Try.func71, Try.ntmps71
  go_wp2_with (with_reducible refine wpList_copy_splice rfl (.tmp 13) (.tmp 14) 46 46 rfl 5 Try.underlying46 (by rw [hi]; simp [hz1]) _ A _ _ _ _ rfl rfl w.heap.size 0 (List.replicate (n + m) (.int .u8 0)) 5 ?hg (bys l) ?hn ?hpos ?hfit (bys_one l) w.heap.size w ?hb (Nat.le_refl _) ?_)
  case hg => rw [heap_alloc_new, ← toList_madeCells_one]
  case hn => rw [hR.len]; simp
  case hpos =>
    intro h0
    obtain ⟨b, off, rfl, hb, hc⟩ := hR.2 (by simpa using h0)
    refine ⟨_, rfl, fun j v hj => ?_⟩
    rw [Addr.add_lit, World.cell?_alloc_lt _ _ _ (by simp; omega)]
    exact hc j v hj
  case hfit => rw [hR.len]; simp
  case hb => exact (Below.refl _ _).alloc (Nat.le_refl _) _
  intro w2 HG hb2
  go_wp2
  go_ret
  refine ⟨_, _, rfl, ?_, hb2, by omega, by omega⟩
  have h2 := HG.out
  have hl := hR.len
  rw [show splice (List.replicate (n + m) (Value.int .u8 0)) 0 (bys l) = bys l ++ List.replicate m (Value.int .u8 0) from by simp only [splice]; simp [show l.length = n from by simpa using hl]] at h2
  exact own_of_block (Nat.le_refl _) h2 hl (by simp) (by unfold maxLen; omega)

/-- How many bytes a number needs. -/
def longN (n : Nat) : Nat := if n = 0 then 0 else longN (n / 256) + 1
decreasing_by omega

theorem longN_zero : longN 0 = 0 := by unfold longN; simp
theorem longN_pos (n : Nat) (h : 0 < n) : longN n = longN (n / 256) + 1 := by rw [longN]; simp; omega
theorem longN_lt (k : Nat) : ∀ n, n < 256 ^ k → longN n ≤ k := by
  induction k with
  | zero => intro n h; have : n = 0 := by simpa using h
            subst this; simp [longN_zero]
  | succ k ih =>
    intro n h
    rcases Nat.eq_zero_or_pos n with h0 | h0
    · subst h0; simp [longN_zero]
    · rw [longN_pos n h0]
      have := ih (n / 256) (by rw [Nat.pow_succ] at h; omega)
      omega

set_option maxHeartbeats 400000 in
theorem long_calls (n : Nat) (hn : n < 18446744073709551616) (w : World) :
    Calls Try.prog 76 #[.int .u64 (n : Int)] w fun e w' => e = .returned (.int .i64 (longN n : Nat)) ∧ w = w' := by
  have hlong := longN_lt 8 n (by omega)
  go_enter Try.func76, Try.ntmps76
  go_wp2_with fail
  go_loop [0, 3] (fun x c => ∃ m k : Nat, m ≤ n ∧ k + longN m = longN n ∧ x = .int .u64 (m : Int) ∧ c = .int .i64 (k : Int)) (fun x _ => (intOf x).toNat)
  case atStart => exact ⟨n, 0, Nat.le_refl _, by omega, rfl, rfl⟩
  case round =>
    obtain ⟨m, k, hm, hk, rfl, rfl⟩ := hrel
    have Hk := Lib.hid hk
    have hk8 : k ≤ 8 := by omega
    clear hk
    rcases Nat.eq_zero_or_pos m with h0 | h0
    · subst h0
      go_wp2
      go_ret
      have e : k = longN n := by have := Hk.out; rw [longN_zero] at this; omega
      exact ⟨by rw [← e]; rfl, rfl⟩
    · have hb : (0 : Int) < (m : Int) := by omega
      go_wp2
      have hl := longN_pos m h0
      go_round
      case rel => exact ⟨m / 256, k + 1, by omega, by have := Hk.out; omega, by simp, by go_num⟩
      case measure => simp [intOf]; omega

/-- The bytes of a number, k of them, the highest first. -/
def be : Nat → Nat → List UInt8
  | 0, _ => []
  | k + 1, n => UInt8.ofNat (n / 256 ^ k) :: be k n
/-- A number as it is packed. -/
def packN (n : Nat) : List UInt8 := UInt8.ofNat (longN n) :: be (longN n) n

theorem be_length (k n : Nat) : (be k n).length = k := by
  induction k generalizing n with
  | zero => rfl
  | succ k ih => simp [be, ih]
theorem be_get (N n k : Nat) (h : k < N) : (be N n)[k]? = some (UInt8.ofNat (n / 256 ^ (N - 1 - k))) := by
  induction N generalizing k with
  | zero => omega
  | succ N ih =>
    cases k with
    | zero => simp [be]
    | succ k =>
      rw [be, List.getElem?_cons_succ, ih k (by omega)]
      congr 4
      omega
theorem be_take (N n k : Nat) (h : k < N) : (be N n).take (k + 1) = (be N n).take k ++ [UInt8.ofNat (n / 256 ^ (N - 1 - k))] := by
  rw [List.take_add_one, be_get N n k h]; rfl
theorem byte_cell (n j : Nat) : ((n : Int) / 2 ^ (8 * j) % 256) = ((UInt8.ofNat (n / 256 ^ j)).toNat : Int) := by
  rw [show (256 : Nat) ^ j = 2 ^ (8 * j) by rw [Nat.pow_mul]]
  simp

theorem packN_len (n : Nat) (h : n < 18446744073709551616) : (packN n).length ≤ 9 := by
  have := longN_lt 8 n (by omega)
  simp [packN, be_length]; omega

theorem TB : SliceT Try.prog 46 5 (.int .u8 0) 1 1 := ⟨Try.underlying46, infoU8, rfl, by decide⟩

set_option maxHeartbeats 1000000 in
theorem number_calls (v : Value) (l : List UInt8) (n : Nat) (hn : n < 18446744073709551616) (w : World) (base : Nat) (hown : Own w base 5 v l) (hbase : base ≤ w.heap.size) (hl : l.length ≤ 1099511627776) :
    Calls Try.prog 70 #[v, .int .u64 (n : Int)] w fun e w' =>
      ∃ v', e = .returned v' ∧ Own w' base 5 v' (l ++ packN n) ∧ Below base w w' := by
  have hlong := longN_lt 8 n (by omega)
  go_enter Try.func70, Try.ntmps70
  go_wp2_with fail
  refine (long_calls n hn _).mono ?_
  rintro e w' ⟨rfl, rfl⟩
  generalize hN : longN n = N at *
  have HN := Lib.hid hN
  clear hN
  have hNu : (UInt8.ofNat N).toNat = N := by simp; omega
  have HNu := Lib.hid hNu
  clear hNu
  go_wp2_with (at_builtin; refine wpList_app rfl _ _ 46 rfl base 5 _ 1 1 TB _ _ _ rfl (hown.alloc _) (w.heap.size + 1) _ 1 1 (bys [UInt8.ofNat N]) rfl ?c1 ?c2 ?c3 ?c5 ?_)
  case c1 =>
    have := Reads.new w (bys [UInt8.ofNat N]) 5 1 1 rfl
    simpa [bys, HNu.out] using this
  case c2 => exact bys_one _
  case c3 => omega
  case c5 => simp; omega
  intro v1 w1 hown1 hg1 hat1 hb1
  have hbw : Below base w w1 := ((Below.refl _ _).alloc hbase _).trans hb1
  have hown2 : Own w1 base 5 v1 (l ++ [UInt8.ofNat N]) := by
    unfold Own
    rw [bys_append]
    simpa using hown1
  have hz1 : base ≤ w1.heap.size := Nat.le_trans hbase hbw.size
  clear hown1 hg1 hat1 hb1 hown
  go_wp2_with fail
  go_loopw [0, 15] (fun u i wr => ∃ k : Nat, k ≤ N ∧ i = .int .i64 (k : Int) ∧ Own wr base 5 u (l ++ [UInt8.ofNat N] ++ (be N n).take k) ∧ Below base w wr) (fun _ i _ => N - (intOf i).toNat)
  case atStart => exact ⟨0, by omega, rfl, by simpa using hown2, hbw⟩
  case round =>
    obtain ⟨k, hk, rfl, hownk, hbk⟩ := hrel
    have hzk : base ≤ wr.heap.size := Nat.le_trans hbase hbk.size
    by_cases hlt : k < N
    · have hi : (k : Int) < (N : Int) := by omega
      have hcell := Lib.hid (byte_cell n (N - 1 - k))
      have htk := Lib.hid (be_take N n k hlt)
      have hlen : (l ++ [UInt8.ofNat N] ++ (be N n).take k).length ≤ l.length + 9 := by
        simp [be_length]; omega
      go_wp2_with (at_builtin; refine wpList_app rfl _ _ 46 rfl base 5 _ 1 1 TB _ _ _ rfl (World.ownsRow.alloc hownk _) (wr.heap.size + 1) _ 1 1 (bys [UInt8.ofNat (n / 256 ^ (N - 1 - k))]) rfl ?d1 ?d2 ?d3 ?d5 ?_)
      case d1 =>
        have := Reads.new wr (bys [UInt8.ofNat (n / 256 ^ (N - 1 - k))]) 5 1 1 rfl
        rw [hcell.out]
        exact this
      case d2 => exact bys_one _
      case d3 => omega
      case d5 => simp; omega
      intro v2 w2 hown3 hg3 hat3 hb3
      have hbw2 : Below base w w2 := (hbk.alloc hzk _).trans hb3
      have hown4 : Own w2 base 5 v2 (l ++ [UInt8.ofNat N] ++ (be N n).take (k + 1)) := by
        unfold Own
        rw [htk.out, ← List.append_assoc, bys_append]
        simpa [Nat.add_assoc] using hown3
      clear hown3 hg3 hat3 hb3
      go_wp2
      go_roundw
      case rel => exact ⟨k + 1, by omega, by go_num, hown4, hbw2⟩
      case measure => simp [intOf]; omega
    · have hge : ¬ (k : Int) < (N : Int) := by omega
      have Ho : Hid (Own wr base 5 u0 (l ++ packN n)) := by
        unfold packN
        rw [HN.out]
        have : (be N n).take k = be N n := List.take_of_length_le (by rw [be_length]; omega)
        rw [this] at hownk
        exact Lib.hid (by simpa using hownk)
      clear hownk
      go_wp2
      go_ret
      exact ⟨_, rfl, Ho.out, hbk⟩

set_option maxHeartbeats 400000 in
theorem Number_calls (A : Option Addr) (m c : Nat) (l : List UInt8) (n : Nat) (hn : n < 18446744073709551616) (w : World) (B : Nat) (hR : Reads w B 1 A m (bys l)) (hB : B ≤ w.heap.size) (hm : m ≤ 1000000000) :
    Calls Try.prog 44 #[.slice A m c, .int .u64 (n : Int)] w fun e w' =>
      ∃ v', e = .returned v' ∧ Own w' w.heap.size 5 v' (l ++ packN n) ∧ Below w.heap.size w w' := by
  have hl : l.length = m := by simpa using hR.len
  go_enter Try.func44, Try.ntmps44
  go_wp2_with fail
  refine (own_calls A m c l 9 w B hR hB (by omega) (by omega) (by omega)).mono ?_
  rintro e w1 ⟨g, cap, rfl, ho, hb, _, _⟩
  go_wp2_with fail
  refine (number_calls _ l n hn w1 w.heap.size (by unfold Own; rw [hl]; exact ho) hb.size (by omega)).mono ?_
  rintro e w2 ⟨v', rfl, ho2, hb2⟩
  go_wp2
  go_ret
  exact ⟨_, rfl, ho2, hb.trans hb2⟩

set_option maxHeartbeats 400000 in
theorem Bytes_calls (A D : Option Addr) (m c k d : Nat) (l b : List UInt8) (w : World) (B : Nat) (hR : Reads w B 1 A m (bys l)) (hS : Reads w B 1 D k (bys b)) (hB : B ≤ w.heap.size) (hm : m ≤ 1000000000) (hk : k ≤ 1000000000) :
    Calls Try.prog 46 #[.slice A m c, .slice D k d] w fun e w' =>
      ∃ v', e = .returned v' ∧ Own w' w.heap.size 5 v' (l ++ packN b.length ++ b) ∧ Below w.heap.size w w' := by
  have hl : l.length = m := by simpa using hR.len
  have hb : b.length = k := by simpa using hS.len
  have hp := packN_len k (by omega)
  have Hl := Lib.hid hl
  have Hb := Lib.hid hb
  clear hl hb
  go_enter Try.func46, Try.ntmps46
  go_wp2_with fail
  refine (own_calls A m c l (9 + k) w B hR hB (by omega) (by omega) (by omega)).mono ?_
  rintro e w1 ⟨g, cap, rfl, ho, hb1, _, _⟩
  go_wp2_with fail
  refine (number_calls _ l k (by omega) w1 w.heap.size (by unfold Own; rw [Hl.out]; exact ho) hb1.size (by have := Hl.out; omega)).mono ?_
  rintro e w2 ⟨v', rfl, ho2, hb2⟩
  have hb12 := hb1.trans hb2
  have hS2 := hS.below hb12 hB
  go_wp2_with (at_builtin; refine wpList_app rfl _ _ 46 rfl w.heap.size 5 _ 1 1 TB _ _ _ rfl ho2 B _ k d (bys b) rfl hS2 (bys_one _) ?d3 hb12.size ?_)
  case d3 => have := Hl.out; simp; omega
  intro v3 w3 ho3 hg3 hat3 hb3
  go_wp2
  go_ret
  refine ⟨_, rfl, ?_, hb12.trans hb3⟩
  unfold Own
  rw [bys_append, Hb.out]
  simpa [Hb.out, Nat.add_assoc] using ho3
end Go.Proofs.Ytjcdgbnbaiebdaa
