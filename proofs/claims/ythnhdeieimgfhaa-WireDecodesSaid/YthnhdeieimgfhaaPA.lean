/-
  The walks of package pack that make memory (own, long, number): what each returns, and that nothing that was there is changed. Conditions: the lengths are at most 2^40.
-/
import Derived.Test.YthnhdeieimgfhaaProg
import Derived.Test.YthnhdeieimgfhaaMA
import Derived.BigQuiet
import Derived.Deep.QuietTactic
namespace Go.Proofs.Ythnhdeieimgfhaa
open Go Go.RowKit

theorem infoU8 : (Try.prog.info? 5).map (fun i => (i.zero, i.size, i.bytes)) = some (some (.int .u8 0), 1, 1) := by kernel_rfl

set_option maxHeartbeats 400000 in
theorem own_calls (A : Option Addr) (n c : Nat) (l : List UInt8) (more : Int) (w : World) (B : Nat) (hR : Reads w B 1 A n (bys l)) (hB : B ≤ w.heap.size) (hn : n ≤ 1099511627776) (hm0 : 0 ≤ more) (hm1 : more ≤ 1099511627776) :
    Calls Try.prog 78 #[.slice A n c, .int .i64 more] w fun e w' =>
      ∃ g cap, e = .returned (.slice (some ⟨g, 0, none⟩) n cap) ∧ w'.ownsRow w.heap.size 5 1 (.slice (some ⟨g, 0, none⟩) n cap) n (bys l) ∧ Below w.heap.size w w' ∧ n ≤ cap ∧ cap ≤ 2199023255552 := by
  obtain ⟨m, rfl⟩ := Int.eq_ofNat_of_zero_le hm0
  obtain ⟨i, hi, hz0, hz1, hz2⟩ := info_parts infoU8
  have hmk : ∀ W : World, (Instr.makeSlice 30 (.int .i64 (n : Int)) (.int .i64 ((n : Int) + (m : Int)))).run Try.prog W = .ok (.slice (some ⟨W.heap.size, 0, none⟩) n (n + m)) (W.alloc (.cells (madeCells #[.int .u8 0] (n + m)) 5)) := by
    intro W
    have h := run_make (P := Try.prog) W 30 5 i (.int .u8 0) Try.underlying30 hi hz0 .i64 .i64 (n : Int) ((n : Int) + (m : Int)) (by omega) (by omega) (by rw [hz2]; omega) (by omega)
    rw [hz1] at h
    simpa [Value.cells, show ((n : Int) + (m : Int)).toNat = n + m from by omega] using h
  go_enter Try.func78, Try.ntmps78
  go_wp2_with (with_reducible refine wpList_copy_splice rfl (.tmp 13) (.tmp 14) 30 30 rfl 5 Try.underlying30 (by rw [hi]; simp [hz1]) _ A _ _ _ _ rfl rfl w.heap.size 0 (List.replicate (n + m) (.int .u8 0)) 5 ?hg (bys l) ?hn ?hpos ?hfit (bys_one l) w.heap.size w ?hb (Nat.le_refl _) ?_)
  case hg => rw [heap_alloc_new, ← toList_madeCells_one]
  case hn => rw [hR.len]; simp
  case hpos =>
    intro h0
    obtain ⟨b, off, rfl, hb, hc⟩ := hR.2 (by simpa using h0)
    refine ⟨_, rfl, fun j v hj => ?_⟩
    rw [Addr.add_lit, World.cell?_alloc_lt _ _ _ (by simp; omega)]
    exact hc j v hj
  case hfit => rw [hR.len]; simp
  case hb => exact (Below.refl _ _).alloc (Nat.le_refl _) _
  intro w2 HG hb2
  go_wp2
  go_ret
  refine ⟨_, _, rfl, ?_, hb2, by omega, by omega⟩
  have h2 := HG.out
  have hl := hR.len
  rw [show splice (List.replicate (n + m) (Value.int .u8 0)) 0 (bys l) = bys l ++ List.replicate m (Value.int .u8 0) from by simp only [splice]; simp [show l.length = n from by simpa using hl]] at h2
  exact own_of_block (Nat.le_refl _) h2 hl (by simp) (by unfold maxLen; omega)

/-- How many bytes a number needs. -/
def longN (n : Nat) : Nat := if n = 0 then 0 else longN (n / 256) + 1
decreasing_by omega

theorem longN_zero : longN 0 = 0 := by unfold longN; simp
theorem longN_pos (n : Nat) (h : 0 < n) : longN n = longN (n / 256) + 1 := by rw [longN]; simp; omega
theorem longN_lt (k : Nat) : ∀ n, n < 256 ^ k → longN n ≤ k := by
  induction k with
  | zero => intro n h; have : n = 0 := by simpa using h
            subst this; simp [longN_zero]
  | succ k ih =>
    intro n h
    rcases Nat.eq_zero_or_pos n with h0 | h0
    · subst h0; simp [longN_zero]
    · rw [longN_pos n h0]
      have := ih (n / 256) (by rw [Nat.pow_succ] at h; omega)
      omega

set_option maxHeartbeats 400000 in
theorem long_calls (n : Nat) (hn : n < 18446744073709551616) (w : World) :
    Calls Try.prog 112 #[.int .u64 (n : Int)] w fun e w' => e = .returned (.int .i64 (longN n : Nat)) ∧ w = w' := by
  have hlong := longN_lt 8 n (by omega)
  go_enter Try.func112, Try.ntmps112
  go_wp2_with fail
  go_loop [0, 3] (fun x c => ∃ m k : Nat, m ≤ n ∧ k + longN m = longN n ∧ x = .int .u64 (m : Int) ∧ c = .int .i64 (k : Int)) (fun x _ => (intOf x).toNat)
  case atStart => exact ⟨n, 0, Nat.le_refl _, by omega, rfl, rfl⟩
  case round =>
    obtain ⟨m, k, hm, hk, rfl, rfl⟩ := hrel
    have Hk := Lib.hid hk
    have hk8 : k ≤ 8 := by omega
    clear hk
    rcases Nat.eq_zero_or_pos m with h0 | h0
    · subst h0
      go_wp2
      go_ret
      have e : k = longN n := by have := Hk.out; rw [longN_zero] at this; omega
      exact ⟨by rw [← e]; rfl, rfl⟩
    · have hb : (0 : Int) < (m : Int) := by omega
      go_wp2
      have hl := longN_pos m h0
      go_round
      case rel => exact ⟨m / 256, k + 1, by omega, by have := Hk.out; omega, by simp, by go_num⟩
      case measure => simp [intOf]; omega

/-- The bytes of a number, k of them, the highest first. -/
def be : Nat → Nat → List UInt8
  | 0, _ => []
  | k + 1, n => UInt8.ofNat (n / 256 ^ k) :: be k n
/-- A number as it is packed. -/
def packN (n : Nat) : List UInt8 := UInt8.ofNat (longN n) :: be (longN n) n

theorem be_length (k n : Nat) : (be k n).length = k := by
  induction k generalizing n with
  | zero => rfl
  | succ k ih => simp [be, ih]
theorem be_get (N n k : Nat) (h : k < N) : (be N n)[k]? = some (UInt8.ofNat (n / 256 ^ (N - 1 - k))) := by
  induction N generalizing k with
  | zero => omega
  | succ N ih =>
    cases k with
    | zero => simp [be]
    | succ k =>
      rw [be, List.getElem?_cons_succ, ih k (by omega)]
      congr 4
      omega
theorem be_take (N n k : Nat) (h : k < N) : (be N n).take (k + 1) = (be N n).take k ++ [UInt8.ofNat (n / 256 ^ (N - 1 - k))] := by
  rw [List.take_add_one, be_get N n k h]; rfl
theorem byte_cell (n j : Nat) : ((n : Int) / 2 ^ (8 * j) % 256) = ((UInt8.ofNat (n / 256 ^ j)).toNat : Int) := by
  rw [show (256 : Nat) ^ j = 2 ^ (8 * j) by rw [Nat.pow_mul]]
  simp

theorem packN_len (n : Nat) (h : n < 18446744073709551616) : (packN n).length ≤ 9 := by
  have := longN_lt 8 n (by omega)
  simp [packN, be_length]; omega

theorem TB : SliceT Try.prog 30 5 (.int .u8 0) 1 1 := ⟨Try.underlying30, infoU8, rfl, by decide⟩

set_option maxHeartbeats 1000000 in
theorem number_calls (v : Value) (l : List UInt8) (n : Nat) (hn : n < 18446744073709551616) (w : World) (base : Nat) (hown : Own w base 5 v l) (hbase : base ≤ w.heap.size) (hl : l.length ≤ 1099511627776) :
    Calls Try.prog 77 #[v, .int .u64 (n : Int)] w fun e w' =>
      ∃ v', e = .returned v' ∧ Own w' base 5 v' (l ++ packN n) ∧ Below base w w' := by
  have hlong := longN_lt 8 n (by omega)
  go_enter Try.func77, Try.ntmps77
  go_wp2_with fail
  refine (long_calls n hn _).mono ?_
  rintro e w' ⟨rfl, rfl⟩
  generalize hN : longN n = N at *
  have HN := Lib.hid hN
  clear hN
  have hNu : (UInt8.ofNat N).toNat = N := by simp; omega
  have HNu := Lib.hid hNu
  clear hNu
  go_wp2_with (at_builtin; refine wpList_app rfl _ _ 30 rfl base 5 _ 1 1 TB _ _ _ rfl (hown.alloc _) (w.heap.size + 1) _ 1 1 (bys [UInt8.ofNat N]) rfl ?c1 ?c2 ?c3 ?c5 ?_)
  case c1 =>
    have := Reads.new w (bys [UInt8.ofNat N]) 5 1 1 rfl
    simpa [bys, HNu.out] using this
  case c2 => exact bys_one _
  case c3 => omega
  case c5 => simp; omega
  intro v1 w1 hown1 hg1 hat1 hb1
  have hbw : Below base w w1 := ((Below.refl _ _).alloc hbase _).trans hb1
  have hown2 : Own w1 base 5 v1 (l ++ [UInt8.ofNat N]) := by
    unfold Own
    rw [bys_append]
    simpa using hown1
  have hz1 : base ≤ w1.heap.size := Nat.le_trans hbase hbw.size
  clear hown1 hg1 hat1 hb1 hown
  go_wp2_with fail
  go_loopw [0, 15] (fun u i wr => ∃ k : Nat, k ≤ N ∧ i = .int .i64 (k : Int) ∧ Own wr base 5 u (l ++ [UInt8.ofNat N] ++ (be N n).take k) ∧ Below base w wr) (fun _ i _ => N - (intOf i).toNat)
  case atStart => exact ⟨0, by omega, rfl, by simpa using hown2, hbw⟩
  case round =>
    obtain ⟨k, hk, rfl, hownk, hbk⟩ := hrel
    have hzk : base ≤ wr.heap.size := Nat.le_trans hbase hbk.size
    by_cases hlt : k < N
    · have hi : (k : Int) < (N : Int) := by omega
      have hcell := Lib.hid (byte_cell n (N - 1 - k))
      have htk := Lib.hid (be_take N n k hlt)
      have hlen : (l ++ [UInt8.ofNat N] ++ (be N n).take k).length ≤ l.length + 9 := by
        simp [be_length]; omega
      go_wp2_with (at_builtin; refine wpList_app rfl _ _ 30 rfl base 5 _ 1 1 TB _ _ _ rfl (World.ownsRow.alloc hownk _) (wr.heap.size + 1) _ 1 1 (bys [UInt8.ofNat (n / 256 ^ (N - 1 - k))]) rfl ?d1 ?d2 ?d3 ?d5 ?_)
      case d1 =>
        have := Reads.new wr (bys [UInt8.ofNat (n / 256 ^ (N - 1 - k))]) 5 1 1 rfl
        rw [hcell.out]
        exact this
      case d2 => exact bys_one _
      case d3 => omega
      case d5 => simp; omega
      intro v2 w2 hown3 hg3 hat3 hb3
      have hbw2 : Below base w w2 := (hbk.alloc hzk _).trans hb3
      have hown4 : Own w2 base 5 v2 (l ++ [UInt8.ofNat N] ++ (be N n).take (k + 1)) := by
        unfold Own
        rw [htk.out, ← List.append_assoc, bys_append]
        simpa [Nat.add_assoc] using hown3
      clear hown3 hg3 hat3 hb3
      go_wp2
      go_roundw
      case rel => exact ⟨k + 1, by omega, by go_num, hown4, hbw2⟩
      case measure => simp [intOf]; omega
    · have hge : ¬ (k : Int) < (N : Int) := by omega
      have Ho : Hid (Own wr base 5 u0 (l ++ packN n)) := by
        unfold packN
        rw [HN.out]
        have : (be N n).take k = be N n := List.take_of_length_le (by rw [be_length]; omega)
        rw [this] at hownk
        exact Lib.hid (by simpa using hownk)
      clear hownk
      go_wp2
      go_ret
      exact ⟨_, rfl, Ho.out, hbk⟩

set_option maxHeartbeats 400000 in
theorem Number_calls (A : Option Addr) (m c : Nat) (l : List UInt8) (n : Nat) (hn : n < 18446744073709551616) (w : World) (B : Nat) (hR : Reads w B 1 A m (bys l)) (hB : B ≤ w.heap.size) (hm : m ≤ 1000000000) :
    Calls Try.prog 32 #[.slice A m c, .int .u64 (n : Int)] w fun e w' =>
      ∃ v', e = .returned v' ∧ Own w' w.heap.size 5 v' (l ++ packN n) ∧ Below w.heap.size w w' := by
  have hl : l.length = m := by simpa using hR.len
  go_enter Try.func32, Try.ntmps32
  go_wp2_with fail
  refine (own_calls A m c l 9 w B hR hB (by omega) (by omega) (by omega)).mono ?_
  rintro e w1 ⟨g, cap, rfl, ho, hb, _, _⟩
  go_wp2_with fail
  refine (number_calls _ l n hn w1 w.heap.size (by unfold Own; rw [hl]; exact ho) hb.size (by omega)).mono ?_
  rintro e w2 ⟨v', rfl, ho2, hb2⟩
  go_wp2
  go_ret
  exact ⟨_, rfl, ho2, hb.trans hb2⟩

set_option maxHeartbeats 400000 in
theorem Bytes_calls (A D : Option Addr) (m c k d : Nat) (l b : List UInt8) (w : World) (B : Nat) (hR : Reads w B 1 A m (bys l)) (hS : Reads w B 1 D k (bys b)) (hB : B ≤ w.heap.size) (hm : m ≤ 1000000000) (hk : k ≤ 1000000000) :
    Calls Try.prog 80 #[.slice A m c, .slice D k d] w fun e w' =>
      ∃ v', e = .returned v' ∧ Own w' w.heap.size 5 v' (l ++ packN b.length ++ b) ∧ Below w.heap.size w w' := by
  have hl : l.length = m := by simpa using hR.len
  have hb : b.length = k := by simpa using hS.len
  have hp := packN_len k (by omega)
  have Hl := Lib.hid hl
  have Hb := Lib.hid hb
  clear hl hb
  go_enter Try.func80, Try.ntmps80
  go_wp2_with fail
  refine (own_calls A m c l (9 + k) w B hR hB (by omega) (by omega) (by omega)).mono ?_
  rintro e w1 ⟨g, cap, rfl, ho, hb1, _, _⟩
  go_wp2_with fail
  refine (number_calls _ l k (by omega) w1 w.heap.size (by unfold Own; rw [Hl.out]; exact ho) hb1.size (by have := Hl.out; omega)).mono ?_
  rintro e w2 ⟨v', rfl, ho2, hb2⟩
  have hb12 := hb1.trans hb2
  have hS2 := hS.below hb12 hB
  go_wp2_with (at_builtin; refine wpList_app rfl _ _ 30 rfl w.heap.size 5 _ 1 1 TB _ _ _ rfl ho2 B _ k d (bys b) rfl hS2 (bys_one _) ?d3 hb12.size ?_)
  case d3 => have := Hl.out; simp; omega
  intro v3 w3 ho3 hg3 hat3 hb3
  go_wp2
  go_ret
  refine ⟨_, rfl, ?_, hb12.trans hb3⟩
  unfold Own
  rw [bys_append, Hb.out]
  simpa [Hb.out, Nat.add_assoc] using ho3
end Go.Proofs.Ythnhdeieimgfhaa

/-
  The walks of value.Check, value.Int, pack.fold, pack.unfold and pack.Value: what each returns, and that nothing that was there is changed. Conditions: lengths of at most 10^9.
-/
namespace Go.Proofs.Ythnhdeieimgfhaa
open Go Go.RowKit

/-- The bytes of a text. -/
abbrev byt (s : ByteArray) : List UInt8 := s.data.toList

/-- Whether a value may be. -/
def okV (k n : Int) (s : ByteArray) : Bool :=
  if k == 1 then s.toList.isEmpty else if k == 2 then n == 0 && decide ((s.size : Int) ≤ 40) else if k == 3 then (n == 0 || n == 1) && s.toList.isEmpty else false
/-- What value.Check tells. -/
def chk (k n : Int) (s : ByteArray) : Int := if okV k n s then 0 else 10

def foldI (n : Int) : Nat := if n < 0 then (-2 * n - 1).toNat else (2 * n).toNat
def unfoldI (n : Nat) : Int := if n % 2 = 1 then -((n / 2 : Nat) : Int) - 1 else ((n / 2 : Nat) : Int)

theorem fold_calls (n : Int) (w : World) (h0 : -9223372036854775808 ≤ n) (h1 : n ≤ 9223372036854775807) :
    Calls Try.prog 141 #[.int .i64 n] w fun e w' => e = .returned (.int .u64 (foldI n : Nat)) ∧ w = w' := by
  by_cases hn : n < 0
  · have e : (foldI n : Int) = -2 * n - 1 := by simp [foldI, hn]; omega
    have HE := Lib.hid e
    clear e
    go_enter Try.func141, Try.ntmps141
    go_wp2
    go_ret
    refine ⟨?_, rfl⟩
    rw [HE.out]
    show Ending.returned (.int _ _) = Ending.returned (.int _ _)
    congr 2
    all_goals omega
  · have e : (foldI n : Int) = 2 * n := by simp [foldI, hn]; omega
    have HE := Lib.hid e
    clear e
    go_enter Try.func141, Try.ntmps141
    go_wp2
    go_ret
    refine ⟨?_, rfl⟩
    rw [HE.out]
    show Ending.returned (.int _ _) = Ending.returned (.int _ _)
    congr 2
    all_goals omega

theorem unfold_calls (n : Nat) (w : World) (hn : n < 18446744073709551616) :
    Calls Try.prog 145 #[.int .u64 (n : Int)] w fun e w' => e = .returned (.int .i64 (unfoldI n)) ∧ w = w' := by
  by_cases hm : n % 2 = 1
  · have e : unfoldI n = -((n / 2 : Nat) : Int) - 1 := by simp [unfoldI, hm]
    have HE := Lib.hid e
    have hb : (((n : Int) % 2) == 1) = true := by simp; omega
    clear e hm
    go_enter Try.func145, Try.ntmps145
    go_wp2
    go_ret
    refine ⟨?_, rfl⟩
    rw [HE.out]
    show Ending.returned (.int _ _) = Ending.returned (.int _ _)
    congr 2
    all_goals omega
  · have e : unfoldI n = ((n / 2 : Nat) : Int) := by simp [unfoldI, hm]
    have HE := Lib.hid e
    have hb : (((n : Int) % 2) == 1) = false := by simp; omega
    clear e hm
    go_enter Try.func145, Try.ntmps145
    go_wp2
    go_ret
    refine ⟨?_, rfl⟩
    rw [HE.out]
    show Ending.returned (.int _ _) = Ending.returned (.int _ _)
    congr 2
    all_goals omega

set_option maxHeartbeats 400000 in
set_option maxRecDepth 100000 in
theorem Check_calls (k n : Int) (s : ByteArray) (w : World) :
    Calls Try.prog 119 #[.agg #[.int .i64 k, .int .i64 n, .string s]] w fun e w' => e = .returned (.int .i64 (chk k n s)) ∧ Below w.heap.size w w' := by
  go_enter Try.func119, Try.ntmps119
  go_wp2
  all_goals
    go_ret
    refine ⟨?_, (Below.refl _ _).alloc (Nat.le_refl _) _⟩
    show Ending.returned (.int _ _) = Ending.returned (.int _ _)
    simp_all [chk, okV]

/-- The Go value of a value. -/
abbrev vv (k n : Int) (s : ByteArray) : Value := .agg #[.int .i64 k, .int .i64 n, .string s]
/-- The number of a value as it is packed. -/
def numV (k n : Int) : Nat := if k = 1 then foldI n else (n % 18446744073709551616).toNat
def kindN (k : Int) : Nat := (k % 18446744073709551616).toNat
def packV (k n : Int) (s : ByteArray) : List UInt8 := packN (kindN k) ++ packN (numV k n) ++ (packN s.size ++ byt s)

theorem u64_wrap (k : Int) : IntKind.u64.wrap k = (kindN k : Int) := by
  unfold kindN
  show k % 2 ^ 64 = _
  omega
theorem kindN_lt (k : Int) : kindN k < 18446744073709551616 := by unfold kindN; omega
theorem foldI_lt (n : Int) (h0 : -9223372036854775808 ≤ n) (h1 : n ≤ 9223372036854775807) : foldI n < 18446744073709551616 := by
  unfold foldI; split <;> omega
theorem numV_lt (k n : Int) (h0 : -9223372036854775808 ≤ n) (h1 : n ≤ 9223372036854775807) : numV k n < 18446744073709551616 := by
  unfold numV; split
  · exact foldI_lt n h0 h1
  · exact kindN_lt n

/-- A text made into bytes: they lie in a new block. -/
theorem Reads.conv (w : World) (s : ByteArray) (c : Nat) (x : Nat × Nat) (e : TypeId) : Reads (w.alloc (.cells (bytesRow s c) e x)) (w.heap.size + 1) 1 (some ⟨w.heap.size, 0, none⟩) s.size (bys (byt s)) :=
  ⟨by simp, fun _ => ⟨w.heap.size, 0, rfl, by omega, fun j u hu => by
    have h1 := heap_alloc_new w (.cells (bytesRow s c) e x)
    simp only [World.cell?, h1]
    have hj : j < s.data.size := by
      have := (List.getElem?_eq_some_iff.1 hu).1
      simpa using this
    have hj' : j < s.size := hj
    simp [bytesRow, Array.getElem?_append, hj']
    simp [bys] at hu
    obtain ⟨a, ha, rfl⟩ := hu
    rw [Array.getElem?_eq_getElem hj] at ha
    injection ha with ha
    rw [ha]⟩⟩

set_option maxHeartbeats 1000000 in
set_option maxRecDepth 100000 in
theorem Value_calls (A : Option Addr) (m c : Nat) (l : List UInt8) (k n : Int) (s : ByteArray) (w : World) (B : Nat) (hR : Reads w B 1 A m (bys l)) (hB : B ≤ w.heap.size) (hm : m ≤ 900000000) (hs : s.size ≤ 900000000)
    (h0 : -9223372036854775808 ≤ n) (h1 : n ≤ 9223372036854775807) :
    Calls Try.prog 133 #[.slice A m c, vv k n s] w fun e w' =>
      ∃ v', e = .returned v' ∧ Own w' w.heap.size 5 v' (l ++ packV k n s) ∧ Below w.heap.size w w' := by
  have hnl := numV_lt k n h0 h1
  have hkl := kindN_lt k
  have hfl := packN_len _ hkl
  have hgl := packN_len _ hnl
  have hpl := packN_len s.size (by omega)
  have hml : l.length = m := by simpa using hR.len
  have Hml := Lib.hid hml
  clear hml
  generalize hNV : numV k n = NV at *
  generalize hKN : kindN k = KN at *
  have HNV := Lib.hid hNV
  have HKN := Lib.hid hKN
  clear hNV hKN
  have hcv := fun W => run_bytes_of_string (P := Try.prog) W 9 30 5 s Try.underlying9 Try.underlying30 Try.underlying5
  have hbox : Below w.heap.size w (w.alloc (.cells #[.int .i64 k, .int .i64 n, .string s] 156)) := (Below.refl _ _).alloc (Nat.le_refl _) _
  by_cases hk : k = 1
  rotate_left
  · have hkb : (k == 1) = false := by simpa using hk
    have HF : Hid (kindN n = NV) := by rw [← HNV.out]; exact Lib.hid (by simp [numV, hk]; rfl)
    clear hk
    go_enter Try.func133, Try.ntmps133
    go_wp2_with fail
    rw [u64_wrap n, HF.out]
    rw [u64_wrap k, HKN.out]
    refine (Number_calls A m c l KN hkl _ B (hR.below hbox hB) (by simp; omega) (by omega)).mono ?_
    rintro e w1 ⟨v1, rfl, ho1, hb1⟩
    have hx1 := (Blk.new w 156 #[.int .i64 k, .int .i64 n, .string s]).below hb1 (by simp)
    have hc2 := hx1.cell 2
    simp at hc2
    obtain ⟨A1, c1, rfl, hR1⟩ := ho1.slice
    have hl1 : (l ++ packN KN).length ≤ m + 9 := by have := Hml.out; simp; omega
    generalize hm1 : (l ++ packN KN).length = m1 at *
    clear hm1 ho1
    have hz1 := hb1.size
    simp only [World.size_alloc] at hz1
    go_wp2_with fail
    refine (Number_calls A1 m1 c1 _ NV hnl w1 w1.heap.size hR1 (Nat.le_refl _) (by omega)).mono ?_
    rintro e w2 ⟨v2, rfl, ho2, hb2⟩
    have hx2 := hx1.below hb2 (by omega)
    have hc3 := hx2.cell 2
    simp at hc3
    clear hc2 hx1 hR1
    obtain ⟨A2, c2, rfl, hR2⟩ := ho2.slice
    have hl2 : (l ++ packN KN ++ packN NV).length ≤ m + 18 := by have := Hml.out; simp; omega
    generalize hm2 : (l ++ packN KN ++ packN NV).length = m2 at *
    clear hm2 ho2
    have hz2 := hb2.size
    go_wp2_with fail
    have hcb : Below w2.heap.size w2 (w2.drew.alloc (.cells (bytesRow s (grownCap w2 s.size 0 5)) 5 ((bytesRow s (grownCap w2 s.size 0 5)).size, (bytesRow s (grownCap w2 s.size 0 5)).size + 1))) := ((Below.refl _ w2).drew).alloc (Nat.le_refl _) _
    refine (Bytes_calls A2 _ m2 c2 s.size _ _ (byt s) _ (w2.heap.size + 1) ((hR2.below hcb (Nat.le_refl _)).more (by omega)) (Reads.conv w2.drew s _ _ _) (by simp) (by omega) (by omega)).mono ?_
    rintro e w3 ⟨v3, rfl, ho3, hb3⟩
    go_wp2
    go_ret
    refine ⟨_, rfl, ?_, ?_⟩
    · unfold packV
      rw [HKN.out, HNV.out]
      refine own_base ?_ ho3
      simp; omega
    · exact ((hbox.trans (hb1.mono (by simp))).trans (hb2.mono (by omega))).trans ((hcb.mono (by omega)).trans (hb3.mono (by simp; omega)))
  · have hkb : (k == 1) = true := by simpa using hk
    have HF : Hid (foldI n = NV) := by rw [← HNV.out]; exact Lib.hid (by simp [numV, hk])
    clear hk
    go_enter Try.func133, Try.ntmps133
    go_wp2_with fail
    refine (fold_calls n _ h0 h1).mono ?_
    rintro e w' ⟨rfl, rfl⟩
    rw [HF.out]
    go_wp2_with fail
    rw [u64_wrap k, HKN.out]
    refine (Number_calls A m c l KN hkl _ B (hR.below hbox hB) (by simp; omega) (by omega)).mono ?_
    rintro e w1 ⟨v1, rfl, ho1, hb1⟩
    have hx1 := (Blk.new w 156 #[.int .i64 k, .int .i64 n, .string s]).below hb1 (by simp)
    have hc2 := hx1.cell 2
    simp at hc2
    obtain ⟨A1, c1, rfl, hR1⟩ := ho1.slice
    have hl1 : (l ++ packN KN).length ≤ m + 9 := by have := Hml.out; simp; omega
    generalize hm1 : (l ++ packN KN).length = m1 at *
    clear hm1 ho1
    have hz1 := hb1.size
    simp only [World.size_alloc] at hz1
    go_wp2_with fail
    refine (Number_calls A1 m1 c1 _ NV hnl w1 w1.heap.size hR1 (Nat.le_refl _) (by omega)).mono ?_
    rintro e w2 ⟨v2, rfl, ho2, hb2⟩
    have hx2 := hx1.below hb2 (by omega)
    have hc3 := hx2.cell 2
    simp at hc3
    clear hc2 hx1 hR1
    obtain ⟨A2, c2, rfl, hR2⟩ := ho2.slice
    have hl2 : (l ++ packN KN ++ packN NV).length ≤ m + 18 := by have := Hml.out; simp; omega
    generalize hm2 : (l ++ packN KN ++ packN NV).length = m2 at *
    clear hm2 ho2
    have hz2 := hb2.size
    go_wp2_with fail
    have hcb : Below w2.heap.size w2 (w2.drew.alloc (.cells (bytesRow s (grownCap w2 s.size 0 5)) 5 ((bytesRow s (grownCap w2 s.size 0 5)).size, (bytesRow s (grownCap w2 s.size 0 5)).size + 1))) := ((Below.refl _ w2).drew).alloc (Nat.le_refl _) _
    refine (Bytes_calls A2 _ m2 c2 s.size _ _ (byt s) _ (w2.heap.size + 1) ((hR2.below hcb (Nat.le_refl _)).more (by omega)) (Reads.conv w2.drew s _ _ _) (by simp) (by omega) (by omega)).mono ?_
    rintro e w3 ⟨v3, rfl, ho3, hb3⟩
    go_wp2
    go_ret
    refine ⟨_, rfl, ?_, ?_⟩
    · unfold packV
      rw [HKN.out, HNV.out]
      refine own_base ?_ ho3
      simp; omega
    · exact ((hbox.trans (hb1.mono (by simp))).trans (hb2.mono (by omega))).trans ((hcb.mono (by omega)).trans (hb3.mono (by simp; omega)))
end Go.Proofs.Ythnhdeieimgfhaa

/-
  The walks of pack.New and of the reader's methods Wrong, Done, Number, Bytes and Value: what each returns, how the reader stands behind it, and that nothing else that was there is changed.
-/
namespace Go.Proofs.Ythnhdeieimgfhaa
open Go Go.RowKit

/-- A reader: its block, what is left, whether something was wrong. -/
def Rd (w : World) (g : Nat) (l : List UInt8) (wr : Bool) : Prop :=
  ∃ A c, Blk w g 127 #[.slice A l.length c, .bool wr] ∧ Reads w g 1 A l.length (bys l) ∧ l.length ≤ c ∧ c ≤ 2199023255552

/-- The number of bytes, the highest first. -/
def ofBe (l : List UInt8) : Nat := l.foldl (fun n b => n * 256 + b.toNat) 0

/-- What a reader's Number tells, what is left, and whether something is wrong. -/
def rdN (l : List UInt8) (wr : Bool) : Nat × List UInt8 × Bool :=
  match l with
  | [] => (0, l, true)
  | b :: r =>
    if wr || decide (8 < b.toNat) || decide (r.length < b.toNat) || (decide (0 < b.toNat) && r.head? == some 0) then (0, l, true)
    else (ofBe (r.take b.toNat), r.drop b.toNat, false)

set_option maxHeartbeats 400000 in
theorem New_calls (A : Option Addr) (n c : Nat) (l : List UInt8) (w : World) (B : Nat) (hR : Reads w B 1 A n (bys l)) (hB : B ≤ w.heap.size) (hn : n ≤ 1000000000) :
    Calls Try.prog 53 #[.slice A n c] w fun e w' =>
      ∃ g, e = .returned (.pointer (some ⟨g, 0, none⟩)) ∧ w.heap.size ≤ g ∧ Rd w' g l false ∧ Below w.heap.size w w' := by
  have hl : l.length = n := by simpa using hR.len
  subst hl
  go_enter Try.func53, Try.ntmps53
  go_wp2_with fail
  refine (own_calls A _ c l 0 w B hR hB (by omega) (by omega) (by omega)).mono ?_
  rintro e w1 ⟨g, cap, rfl, ho, hb, hc1, hc2⟩
  go_wp2
  go_ret
  refine ⟨w1.heap.size, rfl, hb.size, ⟨_, _, Blk.new _ _ _, ?_, ?_, ?_⟩, hb.alloc hb.size _⟩
  · exact (Reads.of_own ho).below (Below.alloc (Below.refl _ _) (Nat.le_refl _) _) (Nat.le_refl _)
  · exact hc1
  · exact hc2

theorem len0 (l : List UInt8) : ((l.length : Int) == 0) = l.isEmpty := by cases l <;> simp; omega

theorem Done_calls (g : Nat) (l : List UInt8) (wr : Bool) (w : World) (h : Rd w g l wr) :
    Calls Try.prog 62 #[.pointer (some ⟨g, 0, none⟩)] w fun e w' => e = .returned (.bool (!wr && l.isEmpty)) ∧ w = w' := by
  obtain ⟨A, c, hb, hr, h1, h2⟩ := h
  have hc := hb.cell 1
  have hc0 := hb.cell 0
  simp at hc hc0
  cases wr
  · go_enter Try.func62, Try.ntmps62
    go_wp2
    go_ret
    exact ⟨by show Ending.returned (.bool _) = _; rw [len0]; rfl, rfl⟩
  · go_enter Try.func62, Try.ntmps62
    go_wp2
    go_ret
    exact ⟨rfl, rfl⟩

/-- How the reader stands behind a call: only its block, and what is new, has changed. -/
def Went (g : Nat) (l : List UInt8) (wr : Bool) (w w' : World) : Prop := Rd w' g l wr ∧ w.grownBy w' (some g)

set_option maxHeartbeats 400000 in
theorem RNumber_wrong (g : Nat) (l : List UInt8) (wr : Bool) (w : World) (h : Rd w g l wr) (hw : (rdN l wr).2.2 = true) :
    Calls Try.prog 55 #[.pointer (some ⟨g, 0, none⟩)] w fun e w' => e = .returned (.int .u64 0) ∧ Went g l true w w' := by
  obtain ⟨A, c, hb, hr, h1, h2⟩ := h
  have hc := hb.cell 1
  have hc0 := hb.cell 0
  have hf1 := hb.frozen 1
  simp at hc hc0
  have hend : ∀ W : World, W = w.setCell ⟨g, 1, none⟩ (.bool true) → Went g l true w W := by
    rintro W rfl
    refine ⟨⟨A, c, hb.set_ 1 _, ?_, h1, h2⟩, mut_set (mut_refl _ _) rfl _⟩
    exact hr.keep fun k hk => Below.heap_setCell w _ _ k (by simp; omega)
  cases wr
  · cases l with
    | nil =>
      go_enter Try.func55, Try.ntmps55
      go_wp2
      refine wp_scope_fwd 0 rfl ?_
      go_wp2
      go_step3
      refine ⟨rfl, ?_⟩
      go_wp2
      rw [Exit.noGoto_ret]
      go_ret
      exact ⟨rfl, hend _ rfl⟩
    | cons b r =>
      obtain ⟨bb, off, rfl, hbb, hcell⟩ := hr.2 (by simp)
      have hc1 : w.cell? ⟨bb, off, none⟩ = some (.int .u8 (b.toNat : Int)) := hcell 0 _ (by simp [bys])
      simp only [List.length_cons] at hc0 h1 hb
      have h256 : b.toNat < 256 := b.toNat_lt
      by_cases h8 : 8 < b.toNat
      · have h8' : (8 : Int) < (b.toNat : Int) := by omega
        go_enter Try.func55, Try.ntmps55
        go_wp2
        refine wp_scope_fwd 0 rfl ?_
        go_wp2
        go_step3
        refine ⟨rfl, ?_⟩
        go_wp2
        rw [Exit.noGoto_ret]
        go_ret
        exact ⟨rfl, hend _ rfl⟩
      · have h8' : ¬ (8 : Int) < (b.toNat : Int) := by omega
        have hbl : b.toNat ≤ 8 := by omega
        by_cases h9 : r.length < b.toNat
        · have h9' : (r.length : Int) + 1 < 1 + (b.toNat : Int) := by omega
          go_enter Try.func55, Try.ntmps55
          go_wp2
          refine wp_scope_fwd 0 rfl ?_
          go_wp2
          go_step3
          refine ⟨rfl, ?_⟩
          go_wp2
          rw [Exit.noGoto_ret]
          go_ret
          exact ⟨rfl, hend _ rfl⟩
        · have h9' : ¬ (r.length : Int) + 1 < 1 + (b.toNat : Int) := by omega
          cases r with
          | nil =>
            have h0 : b.toNat = 0 := by simp at h9; omega
            simp [rdN, h0] at hw
          | cons x r =>
            have hx : (x == 0) = true ∧ 0 < b.toNat := by
              simp only [rdN] at hw
              split at hw
              · rename_i hq
                simp [h8] at hq
                rcases hq with hq | hq
                · simp at h9; omega
                · simp [hq.2]; omega
              · simp at hw
            obtain ⟨hx, hb0⟩ := hx
            have hx : x = 0 := by simpa using hx
            subst hx
            have hc2 : w.cell? ⟨bb, off + 1, none⟩ = some (.int .u8 0) := hcell 1 _ (by simp [bys])
            clear hcell
            have hb0' : (0 : Int) < (b.toNat : Int) := by omega
            simp only [List.length_cons] at hc0 h1 hb h9' h9
            go_enter Try.func55, Try.ntmps55
            go_wp2
            refine wp_scope_fwd 0 rfl ?_
            go_wp2
            go_step3
            refine ⟨rfl, ?_⟩
            go_wp2
            rw [Exit.noGoto_ret]
            go_ret
            exact ⟨rfl, hend _ rfl⟩
  · go_enter Try.func55, Try.ntmps55
    go_wp2
    refine wp_scope_fwd 0 rfl ?_
    go_wp2
    go_step3
    refine ⟨rfl, ?_⟩
    go_wp2
    rw [Exit.noGoto_ret]
    go_ret
    exact ⟨rfl, hend _ rfl⟩

theorem Reads.at_ {w : World} {B : Nat} {A : Option Addr} {l : List UInt8} {n : Nat} (h : Reads w B 1 A n (bys l)) (h0 : 0 < l.length) :
    ∃ b off, A = some ⟨b, off, none⟩ ∧ b < B ∧ ∀ j (hj : j < l.length), w.cell? ⟨b, off + j, none⟩ = some (.int .u8 (l[j].toNat : Int)) := by
  obtain ⟨b, off, e, hb, hc⟩ := h.2 (by simpa using h0)
  exact ⟨b, off, e, hb, fun j hj => hc j _ (bys_get l j hj)⟩

theorem ofBe_snoc (l : List UInt8) (b : UInt8) : ofBe (l ++ [b]) = ofBe l * 256 + b.toNat := by simp [ofBe]
theorem ofBe_lt (l : List UInt8) : ofBe l < 256 ^ l.length := by
  induction h : l.length generalizing l with
  | zero => simp [List.eq_nil_of_length_eq_zero h, ofBe]
  | succ n ih =>
    have hne : l ≠ [] := by rintro rfl; simp at h
    rw [← List.dropLast_concat_getLast hne, ofBe_snoc]
    have := ih l.dropLast (by simp [h])
    have hb := (l.getLast hne).toNat_lt
    rw [Nat.pow_succ]
    omega

set_option maxHeartbeats 1000000 in
theorem RNumber_right (g : Nat) (b : UInt8) (r : List UInt8) (w : World) (h : Rd w g (b :: r) false) (h8 : b.toNat ≤ 8) (hl : b.toNat ≤ r.length) (hx : 0 < b.toNat → ∃ x r', r = x :: r' ∧ 0 < x.toNat) :
    Calls Try.prog 55 #[.pointer (some ⟨g, 0, none⟩)] w fun e w' => e = .returned (.int .u64 (ofBe (r.take b.toNat) : Nat)) ∧ Went g (r.drop b.toNat) false w w' := by
  obtain ⟨A, c, hb, hr, h1, h2⟩ := h
  have hc := hb.cell 1
  have hc0 := hb.cell 0
  have hf0 := hb.frozen 0
  simp at hc hc0
  obtain ⟨bb, off, rfl, hbb, hcell⟩ := hr.at_ (by simp)
  have hc1 := hcell 0 (by simp)
  simp at hc1
  have H1 := Lib.hid hcell
  clear hcell
  simp only [List.length_cons] at hc0 h1 hb
  generalize hN : b.toNat = N at *
  have HN := Lib.hid hN
  clear hN
  have h8' : ¬ (8 : Int) < (N : Int) := by omega
  have h9' : ¬ (r.length : Int) + 1 < 1 + (N : Int) := by omega
  have hend : ∀ (A' : Option Addr) (m c' : Nat), m = r.length - N → (0 < m → A' = some ⟨bb, off + (1 + N), none⟩) → m ≤ c' → c' ≤ c → Went g (r.drop N) false w (w.setCell ⟨g, 0, none⟩ (.slice A' m c')) := by
    rintro A' m c' rfl hA hm hc'
    have hb' := hb.set_ 0 (.slice A' (r.length - N) c')
    refine ⟨⟨A', c', by simpa using hb', ⟨by simp, fun h0 => ?_⟩, by simpa using hm, by omega⟩, mut_set (mut_refl _ _) rfl _⟩
    simp at h0
    refine ⟨bb, off + (1 + N), hA (by omega), hbb, fun j u hu => ?_⟩
    rw [World.cell?_setCell_other _ _ _ _ (by intro e; injection e; omega)]
    have hj : j < (r.drop N).length := by
      have := (List.getElem?_eq_some_iff.1 hu).1
      simpa using this
    rw [bys_get _ _ hj] at hu
    injection hu with hu
    rw [← hu, List.getElem_drop]
    simp at hj
    have := H1.out (1 + N + j) (by simp; omega)
    rw [show off + (1 + N) + j = off + (1 + N + j) by omega, this]
    simp [show 1 + N + j = (N + j) + 1 by omega]
  by_cases hN0 : 0 < N
  · obtain ⟨x, r', rfl, hx0⟩ := hx hN0
    have hc2 := H1.out 1 (by simp)
    simp at hc2
    have hxb : ((x.toNat : Int) == 0) = false := by simp; omega
    have hNi : (0 : Int) < (N : Int) := by omega
    generalize hR : x :: r' = r at *
    have HR := Lib.hid hR
    clear hR
    go_enter Try.func55, Try.ntmps55
    go_wp2
    go_step3
    go_wp2_with fail
    go_loop [3, 51] (fun n i => ∃ k : Nat, k ≤ N ∧ i = .int .i64 (k : Int) ∧ n = .int .u64 (ofBe (r.take k) : Nat)) (fun _ i => N - (intOf i).toNat)
    case atStart => exact ⟨0, by omega, rfl, rfl⟩
    case round =>
      obtain ⟨k, hk, rfl, rfl⟩ := hrel
      by_cases hlt : k < N
      · have hki : (k : Int) < (N : Int) := by omega
        have hck : w.cell? ⟨bb, off + (1 + k), none⟩ = some (.int .u8 (r[k].toNat : Int)) := by
          have := H1.out (1 + k) (by simp; omega)
          simpa [Nat.add_comm 1 k] using this
        have hb7 : ofBe (r.take k) < 72057594037927936 := by
          have := ofBe_lt (r.take k)
          have h2 : (r.take k).length ≤ 7 := by simp; omega
          have h3 : 256 ^ (r.take k).length ≤ 256 ^ 7 := Nat.pow_le_pow_right (by decide) h2
          omega
        generalize hv : ofBe (r.take k) = v at *
        have htk : ofBe (r.take (k + 1)) = v * 256 + r[k].toNat := by
          rw [List.take_succ_eq_append_getElem (by omega), ofBe_snoc, hv]
        have hx256 : r[k].toNat < 256 := r[k].toNat_lt
        have hor : bits BinOp.or IntKind.u64 ((v : Int) * 256) (r[k].toNat : Int) = ((v * 256 + r[k].toNat : Nat) : Int) := by
          rw [show (v : Int) * 256 = ((v * 256 : Nat) : Int) by simp, u64_or_nat _ _ (by omega) (by omega), nat_join 8 _ _ (by omega) (by omega)]
        have HV := Lib.hid hv
        have HT := Lib.hid htk
        have HO := Lib.hid hor
        clear hv htk hor
        go_wp2
        go_round
        case rel => exact ⟨k + 1, by omega, by go_num, by rw [HO.out, HT.out]⟩
        case measure => simp [intOf]; omega
      · have hki : ¬ (k : Int) < (N : Int) := by omega
        have hkN : k = N := by omega
        subst hkN
        go_wp2
        all_goals
          go_ret
          refine ⟨rfl, hend _ _ _ (by omega) (fun hpos => ?_) (by omega) (by omega)⟩
          first | rfl | omega
  · obtain rfl : N = 0 := by omega
    have hNi : ¬ (0 : Int) < ((0 : Nat) : Int) := by omega
    go_enter Try.func55, Try.ntmps55
    go_wp2
    go_step3
    go_wp2_with fail
    refine wp_loop_rounds 1 ?_
    rw [rounds_succ]
    go_wp2
    all_goals
      go_ret
      refine ⟨rfl, hend _ _ _ (by omega) (fun hpos => ?_) (by omega) (by omega)⟩
      first | rfl | omega

/-- The reader's Number, whatever it stands at. -/
theorem RNumber_calls (g : Nat) (l : List UInt8) (wr : Bool) (w : World) (h : Rd w g l wr) :
    Calls Try.prog 55 #[.pointer (some ⟨g, 0, none⟩)] w fun e w' => e = .returned (.int .u64 ((rdN l wr).1 : Nat)) ∧ Went g (rdN l wr).2.1 (rdN l wr).2.2 w w' := by
  by_cases hw : (rdN l wr).2.2 = true
  · have e : rdN l wr = (0, l, true) := by
      unfold rdN at hw ⊢
      split at hw
      · rfl
      · split at hw
        · rename_i hq; simp [hq]
        · simp at hw
    rw [e]
    exact RNumber_wrong g l wr w h hw
  · match l, h, hw with
    | [], _, hw => simp [rdN] at hw
    | b :: r, h, hw =>
      have hq : (wr || decide (8 < b.toNat) || decide (r.length < b.toNat) || (decide (0 < b.toNat) && r.head? == some 0)) = false := by
        cases hq : (wr || decide (8 < b.toNat) || decide (r.length < b.toNat) || (decide (0 < b.toNat) && r.head? == some 0))
        · rfl
        · simp only [rdN, hq] at hw; simp at hw
      have e : rdN (b :: r) wr = (ofBe (r.take b.toNat), r.drop b.toNat, false) := by simp only [rdN, hq]; rfl
      rw [e]
      simp at hq
      obtain ⟨⟨⟨rfl, h8⟩, h9⟩, h10⟩ := hq
      refine RNumber_right g b r w h h8 h9 fun h0 => ?_
      have := h10 h0
      match r, h9, this with
      | [], h9, _ => simp at h9; omega
      | x :: r', _, h11 =>
        refine ⟨x, r', rfl, ?_⟩
        rcases Nat.eq_zero_or_pos x.toNat with h | h
        · exact absurd (by simpa using UInt8.toNat_inj.1 (show x.toNat = (0 : UInt8).toNat from h)) h11
        · exact h
end Go.Proofs.Ythnhdeieimgfhaa

/-
  The walks of the reader's methods Bytes and Value: what each returns, how the reader stands behind it, and that nothing else that was there is changed.
-/
namespace Go.Proofs.Ythnhdeieimgfhaa
open Go Go.RowKit

/-- What a reader's Bytes tells, what is left, and whether something is wrong. -/
def rdB (most : Int) (l : List UInt8) (wr : Bool) : List UInt8 × List UInt8 × Bool :=
  if (rdN l wr).2.2 || decide (most < 0) || decide (most.toNat < (rdN l wr).1) || decide ((rdN l wr).2.1.length < (rdN l wr).1) then ([], (rdN l wr).2.1, true)
  else ((rdN l wr).2.1.take (rdN l wr).1, (rdN l wr).2.1.drop (rdN l wr).1, false)

theorem rdN_len (l : List UInt8) (wr : Bool) : (rdN l wr).2.1.length ≤ l.length := by
  unfold rdN
  split
  · simp
  · split
    · simp
    · simp; omega
theorem rdN_lt (l : List UInt8) (wr : Bool) : (rdN l wr).1 < 18446744073709551616 := by
  unfold rdN
  split
  · simp
  · rename_i b r
    split
    · simp
    · rename_i hq
      simp at hq
      have h1 := ofBe_lt (r.take b.toNat)
      have h2 : (r.take b.toNat).length ≤ 8 := by simp; omega
      have h3 : 256 ^ (r.take b.toNat).length ≤ 256 ^ 8 := Nat.pow_le_pow_right (by decide) h2
      show ofBe (r.take b.toNat) < _
      omega

theorem Rd.wrongly {w : World} {g : Nat} {l : List UInt8} {wr : Bool} (h : Rd w g l wr) : Went g l true w (w.setCell ⟨g, 1, none⟩ (.bool true)) := by
  obtain ⟨A, c, hb, hr, h1, h2⟩ := h
  refine ⟨⟨A, c, hb.set_ 1 _, ?_, h1, h2⟩, mut_set (mut_refl _ _) rfl _⟩
  exact hr.keep fun k hk => Below.heap_setCell w _ _ k (by simp; omega)

set_option maxHeartbeats 1000000 in
theorem RBytes_calls (g : Nat) (l : List UInt8) (wr : Bool) (most : Int) (w : World) (h : Rd w g l wr) (hl : l.length ≤ 1000000000) (hm0 : -9223372036854775808 ≤ most) (hm1 : most ≤ 9223372036854775807) :
    Calls Try.prog 89 #[.pointer (some ⟨g, 0, none⟩), .int .i64 most] w fun e w' =>
      ∃ v, e = .returned v ∧ Own w' w.heap.size 5 v (rdB most l wr).1 ∧ Went g (rdB most l wr).2.1 (rdB most l wr).2.2 w w' := by
  have hnum := RNumber_calls g l wr w h
  have hlen := rdN_len l wr
  have hlt := rdN_lt l wr
  unfold rdB
  generalize rdN l wr = R at *
  obtain ⟨n, l1, w1⟩ := R
  simp only at hnum hlen hlt ⊢
  have HN := Lib.hid hnum
  clear hnum h
  by_cases hbad : (w1 || decide (most < 0) || decide (most.toNat < n) || decide (l1.length < n)) = true
  · rw [hbad]
    have hfin : ∀ W, Rd W g l1 w1 → w.grownBy W (some g) → Own (W.setCell ⟨g, 1, none⟩ (.bool true)) w.heap.size 5 (.slice none 0 0) [] ∧ Went g l1 true w (W.setCell ⟨g, 1, none⟩ (.bool true)) := by
      intro W hrd hgr
      obtain ⟨h1, h2⟩ := hrd.wrongly
      exact ⟨World.ownsRow_nil _ _ _ _, h1, mut_trans hgr h2⟩
    cases w1
    · by_cases h1 : most < 0
      · go_enter Try.func89, Try.ntmps89
        go_wp2
        refine wp_scope_fwd 0 rfl ?_
        go_wp2_with fail
        refine HN.out.mono ?_
        rintro e w2 ⟨rfl, hrd, hgr⟩
        obtain ⟨h9, h10⟩ := hfin w2 hrd hgr
        obtain ⟨A, c, hb, hr, hc1, hc2⟩ := hrd
        have hx0 := hb.cell 0
        have hx1 := hb.cell 1
        have hf1 := hb.frozen 1
        simp at hx0 hx1
        go_wp2
        go_step3
        refine ⟨rfl, ?_⟩
        go_wp2
        rw [Exit.noGoto_ret]
        go_ret
        exact ⟨_, rfl, h9, h10⟩

      · by_cases h2 : most.toNat < n
        · obtain ⟨m, rfl⟩ := Int.eq_ofNat_of_zero_le (show 0 ≤ most by omega)
          have h2' : (m : Int) < (n : Int) := by omega
          go_enter Try.func89, Try.ntmps89
          go_wp2
          refine wp_scope_fwd 0 rfl ?_
          go_wp2_with fail
          refine HN.out.mono ?_
          rintro e w2 ⟨rfl, hrd, hgr⟩
          obtain ⟨h9, h10⟩ := hfin w2 hrd hgr
          obtain ⟨A, c, hb, hr, hc1, hc2⟩ := hrd
          have hx0 := hb.cell 0
          have hx1 := hb.cell 1
          have hf1 := hb.frozen 1
          simp at hx0 hx1
          go_wp2
          go_step3
          refine ⟨rfl, ?_⟩
          go_wp2
          rw [Exit.noGoto_ret]
          go_ret
          exact ⟨_, rfl, h9, h10⟩
        · have h3 : l1.length < n := by simpa [h1, h2] using hbad
          obtain ⟨m, rfl⟩ := Int.eq_ofNat_of_zero_le (show 0 ≤ most by omega)
          have h2' : ¬ (m : Int) < (n : Int) := by omega
          have h3' : (l1.length : Int) < (n : Int) := by omega
          go_enter Try.func89, Try.ntmps89
          go_wp2
          refine wp_scope_fwd 0 rfl ?_
          go_wp2_with fail
          refine HN.out.mono ?_
          rintro e w2 ⟨rfl, hrd, hgr⟩
          obtain ⟨h9, h10⟩ := hfin w2 hrd hgr
          obtain ⟨A, c, hb, hr, hc1, hc2⟩ := hrd
          have hx0 := hb.cell 0
          have hx1 := hb.cell 1
          have hf1 := hb.frozen 1
          simp at hx0 hx1
          go_wp2
          go_step3
          refine ⟨rfl, ?_⟩
          go_wp2
          rw [Exit.noGoto_ret]
          go_ret
          exact ⟨_, rfl, h9, h10⟩
    · go_enter Try.func89, Try.ntmps89
      go_wp2
      refine wp_scope_fwd 0 rfl ?_
      go_wp2_with fail
      refine HN.out.mono ?_
      rintro e w2 ⟨rfl, hrd, hgr⟩
      obtain ⟨h9, h10⟩ := hfin w2 hrd hgr
      obtain ⟨A, c, hb, hr, hc1, hc2⟩ := hrd
      have hx0 := hb.cell 0
      have hx1 := hb.cell 1
      have hf1 := hb.frozen 1
      simp at hx0 hx1
      go_wp2
      go_step3
      refine ⟨rfl, ?_⟩
      go_wp2
      rw [Exit.noGoto_ret]
      go_ret
      exact ⟨_, rfl, h9, h10⟩
  · have hbad : (w1 || decide (most < 0) || decide (most.toNat < n) || decide (l1.length < n)) = false := by simpa using hbad
    rw [hbad]
    simp at hbad
    obtain ⟨⟨⟨rfl, h1⟩, h2⟩, h3⟩ := hbad
    obtain ⟨m, rfl⟩ := Int.eq_ofNat_of_zero_le h1
    simp at h2
    have h2' : (n : Int) ≤ (m : Int) := by omega
    have h3' : (n : Int) ≤ (l1.length : Int) := by omega
    go_enter Try.func89, Try.ntmps89
    go_wp2
    go_step3
    go_wp2_with fail
    refine HN.out.mono ?_
    rintro e w2 ⟨rfl, ⟨A, c, hb, hr, hc1, hc2⟩, hgr⟩
    have hx0 := hb.cell 0
    have hx1 := hb.cell 1
    simp at hx0 hx1
    go_wp2_with fail
    refine (own_calls A n c (l1.take n) 0 w2 g (hr.pre n h3) (Nat.le_of_lt hb.lt) (by omega) (by omega) (by omega)).mono ?_
    rintro e w3 ⟨g3, cap3, rfl, ho, hb3, _, _⟩
    have hb' := hb.below hb3 hb.lt
    have hr' := hr.below hb3 (Nat.le_of_lt hb.lt)
    have hy0 := hb'.cell 0
    have hf0 := hb'.frozen 0
    simp at hy0
    have hfin : ∀ (A' : Option Addr) (c' : Nat), (n < l1.length → A' = A.map (·.add n)) → l1.length - n ≤ c' → c' ≤ c →
        Own (w3.setCell ⟨g, 0, none⟩ (.slice A' (l1.length - n) c')) w.heap.size 5 (.slice (some ⟨g3, 0, none⟩) n cap3) (l1.take n) ∧ Went g (l1.drop n) false w (w3.setCell ⟨g, 0, none⟩ (.slice A' (l1.length - n) c')) := by
      intro A' c' hA h4 h5
      refine ⟨?_, ⟨A', c', ?_, ?_, by simpa using h4, by omega⟩, mut_set (mut_trans hgr (mut_of_below hb3 _)) rfl _⟩
      · have h6 := ownsRow_setCell_below (a := ⟨g, 0, none⟩) ho hb.lt (.slice A' (l1.length - n) c')
        refine own_base hgr.size ?_ rfl
        unfold Own
        rw [show (l1.take n).length = n by simp; omega]
        exact h6
      · have h7 := hb'.set_ 0 (.slice A' (l1.length - n) c')
        simpa using h7
      · have h8 := hr'.post (A' := A') n hA
        rw [List.length_drop]
        exact h8.keep fun k hk => Below.heap_setCell w3 _ _ k (by simp; omega)
    go_wp2
    all_goals
      go_ret
      refine ⟨_, rfl, hfin _ _ (fun hlt2 => ?_) (by omega) (by omega)⟩
      first | rfl | omega

def toI64 (n : Nat) : Int := ((n : Int) + 9223372036854775808) % 18446744073709551616 - 9223372036854775808

/-- What a reader's Value tells, what is left, and whether something is wrong. -/
def rdVn (k n : Nat) : Int := if k = 1 then unfoldI n else toI64 n
def rdV (l : List UInt8) (wr : Bool) : (Int × Int × List UInt8) × List UInt8 × Bool :=
  let a := rdN l wr
  let b := rdN a.2.1 a.2.2
  let s := rdB 40 b.2.1 b.2.2
  if decide (3 < a.1) || s.2.2 || !(okV a.1 (rdVn a.1 b.1) ⟨s.1.toArray⟩) then ((0, 0, []), s.2.1, true)
  else ((a.1, rdVn a.1 b.1, s.1), s.2.1, false)

theorem rdB_len (most : Int) (l : List UInt8) (wr : Bool) : (rdB most l wr).2.1.length ≤ l.length := by
  have := rdN_len l wr
  unfold rdB
  split
  · exact this
  · simp; omega

/-- The value of a datum. -/
abbrev vd (d : Int × Int × List UInt8) : Value := vv d.1 d.2.1 ⟨d.2.2.toArray⟩

theorem Rd.below {w w' : World} {g B : Nat} {l : List UInt8} {wr : Bool} (h : Rd w g l wr) (hb : Below B w w') (hg : g < B) : Rd w' g l wr := by
  obtain ⟨A, c, hk, hr, h1, h2⟩ := h
  exact ⟨A, c, hk.below hb hg, hr.below hb (by omega), h1, h2⟩
theorem Rd.mut {w w' : World} {g g' : Nat} {l : List UInt8} {wr : Bool} (h : Rd w g l wr) (hb : w.grownBy w' (some g')) (hg : g < g') : Rd w' g l wr := by
  have hz : g < w.heap.size := by obtain ⟨_, _, hb, _⟩ := h; exact hb.lt
  by_cases hz' : g' ≤ w.heap.size
  · exact h.below (below_of_mut hb (Nat.le_refl g') hz') hg
  · exact h.below (B := w.heap.size) ⟨hb.os, hb.tape, hb.output, hb.size, fun i hi => hb.block i hi (by intro e; injection e with e; omega)⟩ hz
theorem Rd.lt {w : World} {g : Nat} {l : List UInt8} {wr : Bool} (h : Rd w g l wr) : g < w.heap.size := by obtain ⟨_, _, hb, _⟩ := h; exact hb.lt

set_option maxHeartbeats 2000000 in
set_option maxRecDepth 100000 in
theorem RValue_calls (g : Nat) (l : List UInt8) (wr : Bool) (w : World) (h : Rd w g l wr) (hl : l.length ≤ 1000000000) :
    Calls Try.prog 137 #[.pointer (some ⟨g, 0, none⟩)] w fun e w' =>
      e = .returned (vd (rdV l wr).1) ∧ Went g (rdV l wr).2.1 (rdV l wr).2.2 w w' := by
  have hg := h.lt
  have c1 := fun W (hW : Rd W g l wr) => RNumber_calls g l wr W hW
  have c2 := fun W (hW : Rd W g (rdN l wr).2.1 (rdN l wr).2.2) => RNumber_calls g _ _ W hW
  have c3 := fun W (hW : Rd W g (rdN (rdN l wr).2.1 (rdN l wr).2.2).2.1 (rdN (rdN l wr).2.1 (rdN l wr).2.2).2.2) => RBytes_calls g _ _ 40 W hW (by have := rdN_len l wr; have := rdN_len (rdN l wr).2.1 (rdN l wr).2.2; omega) (by omega) (by omega)
  have b1 := rdN_lt l wr
  have b2 := rdN_lt (rdN l wr).2.1 (rdN l wr).2.2
  simp only [rdV]
  generalize rdN l wr = a at *
  obtain ⟨k, l1, w1⟩ := a
  simp only at *
  generalize rdN l1 w1 = a at *
  obtain ⟨n, l2, w2⟩ := a
  simp only at *
  generalize rdB 40 l2 w2 = a at *
  obtain ⟨s, l3, w3⟩ := a
  simp only at *
  have C1 := Lib.hid c1
  have C2 := Lib.hid c2
  have C3 := Lib.hid c3
  clear c1 c2 c3
  have hW0 : Below w.heap.size w (w.alloc (.cells #[.int .i64 0, .int .i64 0, .string { data := #[] }] 156)) := (Below.refl _ _).alloc (Nat.le_refl _) _
  have hx0 := Blk.new w 156 #[.int .i64 0, .int .i64 0, .string { data := #[] }]
  have h0 := h.below hW0 hg
  clear h
  go_enter Try.func137, Try.ntmps137
  go_wp2
  refine wp_scope_fwd 0 rfl ?_
  go_wp2_with fail
  refine (C1.out _ h0).mono ?_
  rintro e W1 ⟨rfl, hr1, hg1⟩
  have hx1 := hx0.grown hg1 (by simp; omega)
  clear hx0 h0
  go_wp2_with fail
  refine (C2.out _ hr1).mono ?_
  rintro e W2 ⟨rfl, hr2, hg2⟩
  have hx2 := hx1.grown hg2 (by simp; omega)
  clear hx1 hr1
  go_wp2_with fail
  refine (C3.out _ hr2).mono ?_
  rintro e W3 ⟨v3, rfl, ho3, hr3, hg3⟩
  have hx3 := hx2.grown hg3 (by simp; omega)
  clear hx2 hr2
  obtain ⟨A3, k3, rfl, hR3⟩ := ho3.slice
  have hst := run_str (P := Try.prog) W3 30 9 5 Try.underlying30 Try.underlying5 Try.underlying9 _ A3 _ k3 s hR3
  clear ho3
  by_cases h3 : 3 < k
  · have h3' : (3 : Int) < (k : Int) := by omega
    have hr4 := hr3.below (Below.alloc (Below.refl _ W3) (Nat.le_refl _) (.cells #[.int .i64 0, .int .i64 (wrap64 (n : Int)), .string { data := s.toArray }] 156)) hr3.lt
    have hx4 := hx3.alloc (.cells #[.int .i64 0, .int .i64 (wrap64 (n : Int)), .string { data := s.toArray }] 156)
    have hgr : w.grownBy (W3.alloc (.cells #[.int .i64 0, .int .i64 (wrap64 (n : Int)), .string { data := s.toArray }] 156)) (some g) := mut_alloc (mut_trans (mut_trans (mut_trans (mut_alloc (mut_refl _ _) _) hg1) hg2) hg3) _
    go_wp2
    generalize W3.alloc _ = W4 at *
    have hif : (if (decide (3 < k) || w3 || !(okV (k : Int) (rdVn k n) ⟨s.toArray⟩)) = true then (((0, 0, []), l3, true) : (Int × Int × List UInt8) × List UInt8 × Bool) else (((k : Int), rdVn k n, s), l3, false)) = ((0, 0, []), l3, true) := by simp [h3]
    go_step3
    refine ⟨rfl, ?_⟩
    have hy0 := hx4.cell 0
    have hy1 := hx4.cell 1
    have hy2 := hx4.cell 2
    have hz0 := hx4.frozen 0
    have hz1 := hx4.frozen 1
    have hz2 := hx4.frozen 2
    simp at hy0 hy1 hy2
    obtain ⟨A4, c4, hb4, _⟩ := id hr4
    have hq1 := hb4.cell 1
    have hf1 := hb4.frozen 1
    simp at hq1
    go_wp2
    have hx5 := (((hx4.far (p := ⟨g, 1, none⟩) (by simp; omega) (.bool true)).set_ 0 (.int .i64 0)).set_ 1 (.int .i64 0)).set_ 2 (.string { data := #[] })
    have e0 := hx5.cell 0
    have e1 := hx5.cell 1
    have e2 := hx5.cell 2
    simp at e0 e1 e2
    have hw := hr4.wrongly
    rw [Exit.noGoto_ret]
    refine bodyPost_ret (v := vd (0, 0, [])) (by simp [results, Try.results137, go_sem, e0, e1, e2]) rfl ?_
    rw [hif]
    refine ⟨rfl, ?_, ?_⟩
    · exact Rd.below (B := w.heap.size) hw.1 ((((Below.refl _ _).setCell (by simp) _).setCell (by simp) _).setCell (by simp) _) hg
    · exact mut_new (mut_new (mut_new (mut_trans hgr hw.2) (by simp) _) (by simp) _) (by simp) _
  · have h3' : ¬ (3 : Int) < (k : Int) := by omega
    have hk3 : (k : Int) ≤ 3 := by omega
    generalize hN : rdVn k n = N at *
    have HN := Lib.hid hN
    clear hN
    by_cases h1 : k = 1
    · have h1' : ((k : Int) == 1) = true := by simp; omega
      have HU : Hid (unfoldI n = N) := by rw [← HN.out]; exact Lib.hid (by simp [rdVn, h1])
      clear h1
      have hr4 := hr3.below (Below.alloc (Below.refl _ W3) (Nat.le_refl _) (.cells #[.int .i64 (k : Int), .int .i64 N, .string { data := s.toArray }] 156)) hr3.lt
      have hx4 := hx3.alloc (.cells #[.int .i64 (k : Int), .int .i64 N, .string { data := s.toArray }] 156)
      have hgr : w.grownBy (W3.alloc (.cells #[.int .i64 (k : Int), .int .i64 N, .string { data := s.toArray }] 156)) (some g) := mut_alloc (mut_trans (mut_trans (mut_trans (mut_alloc (mut_refl _ _) _) hg1) hg2) hg3) _
      cases hw3 : w3
      · subst hw3
        obtain ⟨A5, c5, hb5, _⟩ := id hr3
        have hq1 := fun o => (hb5.alloc o).cell 1
        simp at hq1
        go_wp2_with fail
        refine (unfold_calls n _ b2).mono ?_
        rintro e w' ⟨rfl, rfl⟩
        rw [HU.out]
        go_wp2_with fail
        refine (Check_calls k N ⟨s.toArray⟩ _).mono ?_
        rintro e W5 ⟨rfl, hb6⟩
        have hr4 := hr4.below hb6 (by have := hr3.lt; simp; omega)
        have hx4 := hx4.below hb6 hx4.lt
        have hgr := mut_trans hgr (mut_of_below hb6 _)
        have hv6 := (Blk.new W3 156 #[.int .i64 (k : Int), .int .i64 N, .string { data := s.toArray }]).below hb6 (by simp)
        have hz3 := hx3.lt
        have hb7 := hb6.size
        simp only [World.size_alloc] at hb7
        clear hb6
        by_cases hok : okV (k : Int) N ⟨s.toArray⟩ = true
        · have hch : (chk (k : Int) N ⟨s.toArray⟩ != 0) = false := by simp [chk, hok]
          have hy0 := hx4.cell 0
          have hy1 := hx4.cell 1
          have hy2 := hx4.cell 2
          have hz0 := hx4.frozen 0
          have hz1 := hx4.frozen 1
          have hz2 := hx4.frozen 2
          have hv0 := hv6.cell 0
          have hv1 := hv6.cell 1
          have hv2 := hv6.cell 2
          simp at hy0 hy1 hy2 hv0 hv1 hv2
          go_wp2
          have hx5 := ((hx4.set_ 0 (.int .i64 (k : Int))).set_ 1 (.int .i64 N)).set_ 2 (.string { data := s.toArray })
          have e0 := hx5.cell 0
          have e1 := hx5.cell 1
          have e2 := hx5.cell 2
          simp at e0 e1 e2
          simp only [Exit.jump]
          refine bodyPost_ret (v := vd (k, N, s)) (by simp [results, Try.results137, go_sem, e0, e1, e2]) rfl ?_
          have hif : (if (decide (3 < k) || false || !(okV (k : Int) N ⟨s.toArray⟩)) = true then (((0, 0, []), l3, true) : (Int × Int × List UInt8) × List UInt8 × Bool) else (((k : Int), N, s), l3, false)) = (((k : Int), N, s), l3, false) := by simp [h3, hok]
          rw [HN.out, hif]
          refine ⟨rfl, ?_, ?_⟩
          · exact Rd.below (B := w.heap.size) hr4 ((((Below.refl _ _).setCell (by simp) _).setCell (by simp) _).setCell (by simp) _) hg
          · exact mut_new (mut_new (mut_new hgr (by simp) _) (by simp) _) (by simp) _
        · have hok : okV (k : Int) N ⟨s.toArray⟩ = false := by simpa using hok
          have hch : (chk (k : Int) N ⟨s.toArray⟩ != 0) = true := by simp [chk, hok]
          have hv0 := hv6.cell 0
          have hv1 := hv6.cell 1
          have hv2 := hv6.cell 2
          simp at hv0 hv1 hv2
          go_wp2
          have hif : (if (decide (3 < k) || false || !(okV (k : Int) N ⟨s.toArray⟩)) = true then (((0, 0, []), l3, true) : (Int × Int × List UInt8) × List UInt8 × Bool) else (((k : Int), N, s), l3, false)) = ((0, 0, []), l3, true) := by simp [hok]
          go_step3
          refine ⟨rfl, ?_⟩
          have hy0 := hx4.cell 0
          have hy1 := hx4.cell 1
          have hy2 := hx4.cell 2
          have hz0 := hx4.frozen 0
          have hz1 := hx4.frozen 1
          have hz2 := hx4.frozen 2
          simp at hy0 hy1 hy2
          obtain ⟨A4, c4, hb4, _⟩ := id hr4
          have hq1 := hb4.cell 1
          have hf1 := hb4.frozen 1
          simp at hq1
          go_wp2
          have hx5 := (((hx4.far (p := ⟨g, 1, none⟩) (by simp; omega) (.bool true)).set_ 0 (.int .i64 0)).set_ 1 (.int .i64 0)).set_ 2 (.string { data := #[] })
          have e0 := hx5.cell 0
          have e1 := hx5.cell 1
          have e2 := hx5.cell 2
          simp at e0 e1 e2
          have hw := hr4.wrongly
          rw [Exit.noGoto_ret]
          refine bodyPost_ret (v := vd (0, 0, [])) (by simp [results, Try.results137, go_sem, e0, e1, e2]) rfl ?_
          rw [HN.out, hif]
          refine ⟨rfl, ?_, ?_⟩
          · exact Rd.below (B := w.heap.size) hw.1 ((((Below.refl _ _).setCell (by simp) _).setCell (by simp) _).setCell (by simp) _) hg
          · exact mut_new (mut_new (mut_new (mut_trans hgr hw.2) (by simp) _) (by simp) _) (by simp) _
      · subst hw3
        obtain ⟨A5, c5, hb5, _⟩ := id hr3
        have hq1 := fun o => (hb5.alloc o).cell 1
        simp at hq1
        go_wp2_with fail
        refine (unfold_calls n _ b2).mono ?_
        rintro e w' ⟨rfl, rfl⟩
        rw [HU.out]
        go_wp2_with fail
        go_wp2
        generalize W3.alloc _ = W4 at *
        have hif : (if (decide (3 < k) || true || !(okV (k : Int) N ⟨s.toArray⟩)) = true then (((0, 0, []), l3, true) : (Int × Int × List UInt8) × List UInt8 × Bool) else (((k : Int), N, s), l3, false)) = ((0, 0, []), l3, true) := by simp
        go_step3
        refine ⟨rfl, ?_⟩
        have hy0 := hx4.cell 0
        have hy1 := hx4.cell 1
        have hy2 := hx4.cell 2
        have hz0 := hx4.frozen 0
        have hz1 := hx4.frozen 1
        have hz2 := hx4.frozen 2
        simp at hy0 hy1 hy2
        obtain ⟨A4, c4, hb4, _⟩ := id hr4
        have hq1 := hb4.cell 1
        have hf1 := hb4.frozen 1
        simp at hq1
        go_wp2
        have hx5 := (((hx4.far (p := ⟨g, 1, none⟩) (by simp; omega) (.bool true)).set_ 0 (.int .i64 0)).set_ 1 (.int .i64 0)).set_ 2 (.string { data := #[] })
        have e0 := hx5.cell 0
        have e1 := hx5.cell 1
        have e2 := hx5.cell 2
        simp at e0 e1 e2
        have hw := hr4.wrongly
        rw [Exit.noGoto_ret]
        refine bodyPost_ret (v := vd (0, 0, [])) (by simp [results, Try.results137, go_sem, e0, e1, e2]) rfl ?_
        rw [HN.out, hif]
        refine ⟨rfl, ?_, ?_⟩
        · exact Rd.below (B := w.heap.size) hw.1 ((((Below.refl _ _).setCell (by simp) _).setCell (by simp) _).setCell (by simp) _) hg
        · exact mut_new (mut_new (mut_new (mut_trans hgr hw.2) (by simp) _) (by simp) _) (by simp) _
    · have h1' : ((k : Int) == 1) = false := by simp; omega
      have HU : Hid (wrap64 (n : Int) = N) := by rw [← HN.out]; exact Lib.hid (by simp [rdVn, h1, toI64, wrap64])
      clear h1
      have hr4 := hr3.below (Below.alloc (Below.refl _ W3) (Nat.le_refl _) (.cells #[.int .i64 (k : Int), .int .i64 N, .string { data := s.toArray }] 156)) hr3.lt
      have hx4 := hx3.alloc (.cells #[.int .i64 (k : Int), .int .i64 N, .string { data := s.toArray }] 156)
      have hgr : w.grownBy (W3.alloc (.cells #[.int .i64 (k : Int), .int .i64 N, .string { data := s.toArray }] 156)) (some g) := mut_alloc (mut_trans (mut_trans (mut_trans (mut_alloc (mut_refl _ _) _) hg1) hg2) hg3) _
      cases hw3 : w3
      · subst hw3
        obtain ⟨A5, c5, hb5, _⟩ := id hr3
        have hq1 := fun o => (hb5.alloc o).cell 1
        simp at hq1
        go_wp2_with fail
        simp only [HU.out]
        refine (Check_calls k N ⟨s.toArray⟩ _).mono ?_
        rintro e W5 ⟨rfl, hb6⟩
        have hr4 := hr4.below hb6 (by have := hr3.lt; simp; omega)
        have hx4 := hx4.below hb6 hx4.lt
        have hgr := mut_trans hgr (mut_of_below hb6 _)
        have hv6 := (Blk.new W3 156 #[.int .i64 (k : Int), .int .i64 N, .string { data := s.toArray }]).below hb6 (by simp)
        have hz3 := hx3.lt
        have hb7 := hb6.size
        simp only [World.size_alloc] at hb7
        clear hb6
        by_cases hok : okV (k : Int) N ⟨s.toArray⟩ = true
        · have hch : (chk (k : Int) N ⟨s.toArray⟩ != 0) = false := by simp [chk, hok]
          have hy0 := hx4.cell 0
          have hy1 := hx4.cell 1
          have hy2 := hx4.cell 2
          have hz0 := hx4.frozen 0
          have hz1 := hx4.frozen 1
          have hz2 := hx4.frozen 2
          have hv0 := hv6.cell 0
          have hv1 := hv6.cell 1
          have hv2 := hv6.cell 2
          simp at hy0 hy1 hy2 hv0 hv1 hv2
          go_wp2
          have hx5 := ((hx4.set_ 0 (.int .i64 (k : Int))).set_ 1 (.int .i64 N)).set_ 2 (.string { data := s.toArray })
          have e0 := hx5.cell 0
          have e1 := hx5.cell 1
          have e2 := hx5.cell 2
          simp at e0 e1 e2
          simp only [Exit.jump]
          refine bodyPost_ret (v := vd (k, N, s)) (by simp [results, Try.results137, go_sem, e0, e1, e2]) rfl ?_
          have hif : (if (decide (3 < k) || false || !(okV (k : Int) N ⟨s.toArray⟩)) = true then (((0, 0, []), l3, true) : (Int × Int × List UInt8) × List UInt8 × Bool) else (((k : Int), N, s), l3, false)) = (((k : Int), N, s), l3, false) := by simp [h3, hok]
          rw [HN.out, hif]
          refine ⟨rfl, ?_, ?_⟩
          · exact Rd.below (B := w.heap.size) hr4 ((((Below.refl _ _).setCell (by simp) _).setCell (by simp) _).setCell (by simp) _) hg
          · exact mut_new (mut_new (mut_new hgr (by simp) _) (by simp) _) (by simp) _
        · have hok : okV (k : Int) N ⟨s.toArray⟩ = false := by simpa using hok
          have hch : (chk (k : Int) N ⟨s.toArray⟩ != 0) = true := by simp [chk, hok]
          have hv0 := hv6.cell 0
          have hv1 := hv6.cell 1
          have hv2 := hv6.cell 2
          simp at hv0 hv1 hv2
          go_wp2
          have hif : (if (decide (3 < k) || false || !(okV (k : Int) N ⟨s.toArray⟩)) = true then (((0, 0, []), l3, true) : (Int × Int × List UInt8) × List UInt8 × Bool) else (((k : Int), N, s), l3, false)) = ((0, 0, []), l3, true) := by simp [hok]
          go_step3
          refine ⟨rfl, ?_⟩
          have hy0 := hx4.cell 0
          have hy1 := hx4.cell 1
          have hy2 := hx4.cell 2
          have hz0 := hx4.frozen 0
          have hz1 := hx4.frozen 1
          have hz2 := hx4.frozen 2
          simp at hy0 hy1 hy2
          obtain ⟨A4, c4, hb4, _⟩ := id hr4
          have hq1 := hb4.cell 1
          have hf1 := hb4.frozen 1
          simp at hq1
          go_wp2
          have hx5 := (((hx4.far (p := ⟨g, 1, none⟩) (by simp; omega) (.bool true)).set_ 0 (.int .i64 0)).set_ 1 (.int .i64 0)).set_ 2 (.string { data := #[] })
          have e0 := hx5.cell 0
          have e1 := hx5.cell 1
          have e2 := hx5.cell 2
          simp at e0 e1 e2
          have hw := hr4.wrongly
          rw [Exit.noGoto_ret]
          refine bodyPost_ret (v := vd (0, 0, [])) (by simp [results, Try.results137, go_sem, e0, e1, e2]) rfl ?_
          rw [HN.out, hif]
          refine ⟨rfl, ?_, ?_⟩
          · exact Rd.below (B := w.heap.size) hw.1 ((((Below.refl _ _).setCell (by simp) _).setCell (by simp) _).setCell (by simp) _) hg
          · exact mut_new (mut_new (mut_new (mut_trans hgr hw.2) (by simp) _) (by simp) _) (by simp) _
      · subst hw3
        obtain ⟨A5, c5, hb5, _⟩ := id hr3
        have hq1 := fun o => (hb5.alloc o).cell 1
        simp at hq1
        go_wp2_with fail
        simp only [HU.out]
        go_wp2
        generalize W3.alloc _ = W4 at *
        have hif : (if (decide (3 < k) || true || !(okV (k : Int) N ⟨s.toArray⟩)) = true then (((0, 0, []), l3, true) : (Int × Int × List UInt8) × List UInt8 × Bool) else (((k : Int), N, s), l3, false)) = ((0, 0, []), l3, true) := by simp
        go_step3
        refine ⟨rfl, ?_⟩
        have hy0 := hx4.cell 0
        have hy1 := hx4.cell 1
        have hy2 := hx4.cell 2
        have hz0 := hx4.frozen 0
        have hz1 := hx4.frozen 1
        have hz2 := hx4.frozen 2
        simp at hy0 hy1 hy2
        obtain ⟨A4, c4, hb4, _⟩ := id hr4
        have hq1 := hb4.cell 1
        have hf1 := hb4.frozen 1
        simp at hq1
        go_wp2
        have hx5 := (((hx4.far (p := ⟨g, 1, none⟩) (by simp; omega) (.bool true)).set_ 0 (.int .i64 0)).set_ 1 (.int .i64 0)).set_ 2 (.string { data := #[] })
        have e0 := hx5.cell 0
        have e1 := hx5.cell 1
        have e2 := hx5.cell 2
        simp at e0 e1 e2
        have hw := hr4.wrongly
        rw [Exit.noGoto_ret]
        refine bodyPost_ret (v := vd (0, 0, [])) (by simp [results, Try.results137, go_sem, e0, e1, e2]) rfl ?_
        rw [HN.out, hif]
        refine ⟨rfl, ?_, ?_⟩
        · exact Rd.below (B := w.heap.size) hw.1 ((((Below.refl _ _).setCell (by simp) _).setCell (by simp) _).setCell (by simp) _) hg
        · exact mut_new (mut_new (mut_new (mut_trans hgr hw.2) (by simp) _) (by simp) _) (by simp) _
end Go.Proofs.Ythnhdeieimgfhaa

/-
  Plain laws of packing: what is packed is unpacked, and what is unpacked was packed so. Conditions: none beyond those stated.
-/
namespace Go.Proofs.Ythnhdeieimgfhaa
open Go Go.RowKit

theorem lt_longN' (n : Nat) : n < 256 ^ longN n := by
  induction n using Nat.strongRecOn with
  | _ n ih =>
    rcases Nat.eq_zero_or_pos n with h | h
    · subst h; simp [longN_zero]
    · rw [longN_pos n h, Nat.pow_succ]
      have := ih (n / 256) (by omega)
      omega
theorem longN_ge (n : Nat) (h : 0 < n) : 256 ^ (longN n - 1) ≤ n := by
  induction n using Nat.strongRecOn with
  | _ n ih =>
    rw [longN_pos n h]
    simp only [Nat.add_sub_cancel]
    rcases Nat.eq_zero_or_pos (n / 256) with h1 | h1
    · rw [h1, longN_zero]; simp; omega
    · have h2 := ih (n / 256) (by omega) h1
      have h3 : longN (n / 256) = (longN (n / 256) - 1) + 1 := by
        have := longN_pos (n / 256) h1; omega
      rw [h3, Nat.pow_succ]
      omega
theorem longN_eq (n k : Nat) (h1 : n < 256 ^ (k + 1)) (h2 : 256 ^ k ≤ n) : longN n = k + 1 := by
  have h3 := longN_lt (k + 1) n h1
  rcases Nat.lt_or_ge (longN n) (k + 1) with h | h
  · exfalso
    have h4 := lt_longN' n
    have h5 : 256 ^ longN n ≤ 256 ^ k := Nat.pow_le_pow_right (by decide) (by omega)
    omega
  · omega

theorem ofBe_cons (b : UInt8) (l : List UInt8) : ofBe (b :: l) = b.toNat * 256 ^ l.length + ofBe l := by
  have key : ∀ (l : List UInt8) (a : Nat), l.foldl (fun n (b : UInt8) => n * 256 + b.toNat) a = a * 256 ^ l.length + ofBe l := by
    intro l
    induction l with
    | nil => intro a; simp [ofBe]
    | cons x l ih =>
      intro a
      simp only [List.foldl_cons, List.length_cons, ofBe]
      rw [ih, ih (0 * 256 + x.toNat), Nat.pow_succ]
      have : (a * 256 + x.toNat) * 256 ^ l.length = a * (256 ^ l.length * 256) + x.toNat * 256 ^ l.length := by
        rw [Nat.add_mul, Nat.mul_assoc, Nat.mul_comm 256]
      rw [Nat.zero_mul, Nat.zero_add, this]
      omega
  have := key l b.toNat
  simpa [ofBe] using this

theorem ofBe_be (k : Nat) : ∀ n, ofBe (be k n) = n % 256 ^ k := by
  induction k with
  | zero => intro n; simp [be, ofBe, Nat.mod_one]
  | succ k ih =>
    intro n
    rw [be, ofBe_cons, ih, be_length, Nat.pow_succ, Nat.mod_mul]
    simp
    rw [Nat.mul_comm, Nat.add_comm]

theorem be_mod (k : Nat) : ∀ n m, n % 256 ^ k = m % 256 ^ k → be k n = be k m := by
  induction k with
  | zero => intro n m _; rfl
  | succ k ih =>
    intro n m h
    have hp : 0 < 256 ^ k := Nat.pow_pos (by decide)
    have e : ∀ x : Nat, x % 256 ^ (k + 1) = 256 ^ k * (x / 256 ^ k % 256) + x % 256 ^ k := by
      intro x; rw [Nat.pow_succ, Nat.mod_mul, Nat.add_comm]
    rw [e n, e m] at h
    have l1 := Nat.mod_lt n hp
    have l2 := Nat.mod_lt m hp
    have h1 : n / 256 ^ k % 256 = m / 256 ^ k % 256 := by
      have a1 : (256 ^ k * (n / 256 ^ k % 256) + n % 256 ^ k) / 256 ^ k = n / 256 ^ k % 256 := by
        rw [Nat.mul_add_div hp, Nat.div_eq_of_lt l1, Nat.add_zero]
      have a2 : (256 ^ k * (m / 256 ^ k % 256) + m % 256 ^ k) / 256 ^ k = m / 256 ^ k % 256 := by
        rw [Nat.mul_add_div hp, Nat.div_eq_of_lt l2, Nat.add_zero]
      rw [← a1, ← a2, h]
    have h2 : n % 256 ^ k = m % 256 ^ k := by rw [h1] at h; omega
    rw [be, be, ih n m h2]
    congr 1
    apply UInt8.toNat_inj.1
    simpa using h1

theorem be_ofBe : ∀ l : List UInt8, be l.length (ofBe l) = l
  | [] => rfl
  | b :: l => by
    have h1 := ofBe_lt l
    have hp : 0 < 256 ^ l.length := Nat.pow_pos (by decide)
    rw [List.length_cons, be, ofBe_cons]
    have e1 : (b.toNat * 256 ^ l.length + ofBe l) / 256 ^ l.length = b.toNat := by
      rw [Nat.mul_comm, Nat.mul_add_div hp, Nat.div_eq_of_lt h1, Nat.add_zero]
    rw [e1]
    have e2 : be l.length (b.toNat * 256 ^ l.length + ofBe l) = be l.length (ofBe l) := be_mod _ _ _ (by simp)
    rw [e2, be_ofBe l]
    simp

theorem rdN_true (l : List UInt8) : rdN l true = (0, l, true) := by
  unfold rdN; split <;> simp

/-- What is packed is unpacked. -/
theorem rdN_pack (n : Nat) (h : n < 18446744073709551616) (rest : List UInt8) : rdN (packN n ++ rest) false = (n, rest, false) := by
  have h8 := longN_lt 8 n (by omega)
  have hb : (UInt8.ofNat (longN n)).toNat = longN n := by simp; omega
  have hlen := be_length (longN n) n
  have e1 : (be (longN n) n ++ rest).take (longN n) = be (longN n) n := by rw [← hlen]; simp [hlen]
  have e2 : (be (longN n) n ++ rest).drop (longN n) = rest := by rw [← hlen]; simp [hlen]
  have hhead : 0 < longN n → ¬ (be (longN n) n ++ rest).head? = some 0 := by
    intro h0 hh
    have hn0 : 0 < n := by
      rcases Nat.eq_zero_or_pos n with h1 | h1
      · subst h1; rw [longN_zero] at h0; omega
      · exact h1
    have hg := longN_ge n hn0
    have hl := lt_longN' n
    obtain ⟨k, hk⟩ : ∃ k, longN n = k + 1 := ⟨longN n - 1, by omega⟩
    rw [hk] at hh hg hl
    simp only [be, List.cons_append, List.head?_cons, Option.some.injEq, Nat.add_sub_cancel] at hh hg
    have hz : n / 256 ^ k % 256 = 0 := by
      have := congrArg UInt8.toNat hh
      simpa using this
    have hp : 0 < 256 ^ k := Nat.pow_pos (by decide)
    have hq1 : n / 256 ^ k < 256 := by
      rw [Nat.pow_succ] at hl
      exact Nat.div_lt_of_lt_mul hl
    have hq0 : 0 < n / 256 ^ k := Nat.div_pos hg hp
    omega
  have hq : (false || decide (8 < (UInt8.ofNat (longN n)).toNat) || decide ((be (longN n) n ++ rest).length < (UInt8.ofNat (longN n)).toNat) || (decide (0 < (UInt8.ofNat (longN n)).toNat) && (be (longN n) n ++ rest).head? == some 0)) = false := by
    rw [hb]
    simp only [Bool.false_or, Bool.or_eq_false_iff, decide_eq_false_iff_not, Bool.and_eq_false_iff]
    refine ⟨⟨by omega, by simp [hlen]⟩, ?_⟩
    by_cases h0 : 0 < longN n
    · right
      exact beq_eq_false_iff_ne.2 (hhead h0)
    · left; exact h0
  unfold packN
  simp only [List.cons_append, rdN]
  rw [hq, hb, e1, e2, ofBe_be, Nat.mod_eq_of_lt (lt_longN' n)]
  rfl

/-- What is unpacked was packed so. -/
theorem rdN_back {l : List UInt8} {wr : Bool} (h : (rdN l wr).2.2 = false) : l = packN (rdN l wr).1 ++ (rdN l wr).2.1 ∧ wr = false := by
  match l with
  | [] => simp [rdN] at h
  | b :: r =>
    simp only [rdN] at h ⊢
    split at h
    · simp at h
    · rename_i hq
      rw [if_neg hq]
      simp only [Bool.or_eq_true, not_or, Bool.not_eq_true, Bool.and_eq_false_iff, decide_eq_false_iff_not] at hq
      obtain ⟨⟨⟨h0, h8⟩, hl⟩, hx⟩ := hq
      refine ⟨?_, h0⟩
      have hlen : (r.take b.toNat).length = b.toNat := by simp; omega
      have hk : longN (ofBe (r.take b.toNat)) = b.toNat := by
        rcases Nat.eq_zero_or_pos b.toNat with hb | hb
        · rw [hb]; simp [ofBe, longN_zero]
        · obtain ⟨k, hk⟩ : ∃ k, b.toNat = k + 1 := ⟨b.toNat - 1, by omega⟩
          rw [hk] at hlen hx ⊢
          match r, hlen, hx with
          | [], hlen, _ => simp at hlen
          | x :: r', hlen, hx =>
            have hx0 : x ≠ 0 := by
              rintro rfl
              simp at hx
            have hx1 : 0 < x.toNat := by
              rcases Nat.eq_zero_or_pos x.toNat with h | h
              · exact absurd (UInt8.toNat_inj.1 (show x.toNat = (0 : UInt8).toNat from h)) hx0
              · exact h
            simp only [List.take_succ_cons, List.length_cons, Nat.add_right_cancel_iff] at hlen ⊢
            have hlt := ofBe_lt (x :: r'.take k)
            simp only [List.length_cons, hlen] at hlt
            refine longN_eq _ k hlt ?_
            rw [ofBe_cons, hlen]
            have : 1 * 256 ^ k ≤ x.toNat * 256 ^ k := Nat.mul_le_mul_right _ hx1
            omega
      have e1 := be_ofBe (r.take b.toNat)
      rw [hlen] at e1
      unfold packN
      rw [hk, e1, List.cons_append, List.take_append_drop]
      simp

theorem rdB_pack (most : Int) (b : List UInt8) (hb : b.length < 18446744073709551616) (hm : (b.length : Int) ≤ most) (rest : List UInt8) : rdB most (packN b.length ++ b ++ rest) false = (b, rest, false) := by
  rw [List.append_assoc]
  unfold rdB
  rw [rdN_pack b.length hb]
  have hq : (false || decide (most < 0) || decide (most.toNat < b.length) || decide ((b ++ rest).length < b.length)) = false := by
    simp; omega
  simp only
  rw [hq]
  simp

theorem rdB_back {most : Int} {l : List UInt8} {wr : Bool} (h : (rdB most l wr).2.2 = false) :
    l = packN (rdB most l wr).1.length ++ (rdB most l wr).1 ++ (rdB most l wr).2.1 ∧ ((rdB most l wr).1.length : Int) ≤ most ∧ wr = false := by
  unfold rdB at h ⊢
  split at h
  · simp at h
  · rename_i hq
    rw [if_neg hq]
    simp at hq
    obtain ⟨⟨⟨h0, h1⟩, h2⟩, h3⟩ := hq
    obtain ⟨e1, e2⟩ := rdN_back h0
    have hlen : ((rdN l wr).2.1.take (rdN l wr).1).length = (rdN l wr).1 := by simp; omega
    refine ⟨?_, ?_, e2⟩
    · simp only
      rw [hlen, List.append_assoc, List.take_append_drop]
      exact e1
    · simp only
      rw [hlen]
      omega

theorem unfold_fold (n : Int) (h0 : -9223372036854775808 ≤ n) (h1 : n ≤ 9223372036854775807) : unfoldI (foldI n) = n := by
  unfold foldI unfoldI
  split <;> split <;> omega
theorem fold_unfold (n : Nat) (h : n < 18446744073709551616) : foldI (unfoldI n) = n ∧ -9223372036854775808 ≤ unfoldI n ∧ unfoldI n ≤ 9223372036854775807 := by
  unfold foldI unfoldI
  split <;> split <;> omega
theorem toI64_mod (n : Int) (h0 : -9223372036854775808 ≤ n) (h1 : n ≤ 9223372036854775807) : toI64 (n % 18446744073709551616).toNat = n := by
  unfold toI64; omega
theorem mod_toI64 (n : Nat) (h : n < 18446744073709551616) : (toI64 n % 18446744073709551616).toNat = n ∧ -9223372036854775808 ≤ toI64 n ∧ toI64 n ≤ 9223372036854775807 := by
  unfold toI64; omega

theorem okV_kind {k n : Int} {s : ByteArray} (h : okV k n s = true) : (k = 1 ∨ k = 2 ∨ k = 3) ∧ s.size ≤ 40 := by
  unfold okV at h
  split at h
  · rename_i hk
    rw [ByteArray.toList_eq] at h
    simp at hk h
    refine ⟨.inl hk, ?_⟩
    show s.data.size ≤ 40
    simp [h]
  · split at h
    · rename_i hk
      simp at hk h
      exact ⟨.inr (.inl hk), by omega⟩
    · split at h
      · rename_i hk
        rw [ByteArray.toList_eq] at h
        simp at hk h
        refine ⟨.inr (.inr hk), ?_⟩
        show s.data.size ≤ 40
        simp [h.2]
      · simp at h

theorem rdVn_num (k n : Int) (hk : k = 1 ∨ k = 2 ∨ k = 3) (h0 : -9223372036854775808 ≤ n) (h1 : n ≤ 9223372036854775807) : rdVn (kindN k) (numV k n) = n := by
  unfold rdVn numV kindN
  rcases hk with rfl | rfl | rfl
  · simp; exact unfold_fold n h0 h1
  · simp; exact toI64_mod n h0 h1
  · simp; exact toI64_mod n h0 h1

theorem rdV_pack (k n : Int) (s : ByteArray) (hok : okV k n s = true) (h0 : -9223372036854775808 ≤ n) (h1 : n ≤ 9223372036854775807) (rest : List UInt8) :
    rdV (packV k n s ++ rest) false = ((k, n, byt s), rest, false) := by
  obtain ⟨hk, hs⟩ := okV_kind hok
  have hkn := kindN_lt k
  have hnn := numV_lt k n h0 h1
  have hsl : (byt s).length = s.size := by simp
  unfold rdV packV
  rw [List.append_assoc, List.append_assoc, rdN_pack _ hkn]
  simp only
  rw [rdN_pack _ hnn]
  simp only
  rw [← hsl, rdB_pack 40 (byt s) (by omega) (by omega)]
  simp only
  rw [rdVn_num k n hk h0 h1]
  have hkk : (kindN k : Int) = k := by unfold kindN; omega
  have hk3 : ¬ 3 < kindN k := by omega
  rw [hkk]
  have hsb : (⟨(byt s).toArray⟩ : ByteArray) = s := by cases s; simp
  rw [hsb, hok]
  simp [hk3]

theorem rdV_back {l : List UInt8} {wr : Bool} (h : (rdV l wr).2.2 = false) :
    l = packV (rdV l wr).1.1 (rdV l wr).1.2.1 ⟨(rdV l wr).1.2.2.toArray⟩ ++ (rdV l wr).2.1 ∧ okV (rdV l wr).1.1 (rdV l wr).1.2.1 ⟨(rdV l wr).1.2.2.toArray⟩ = true ∧ wr = false ∧
      -9223372036854775808 ≤ (rdV l wr).1.2.1 ∧ (rdV l wr).1.2.1 ≤ 9223372036854775807 := by
  simp only [rdV] at h ⊢
  split at h
  · simp at h
  · rename_i hq
    rw [if_neg hq]
    simp only [Bool.or_eq_true, not_or, decide_eq_true_eq, Bool.not_eq_true, Bool.not_eq_eq_eq_not] at hq
    obtain ⟨⟨hk, hw⟩, hok⟩ := hq
    have l1 := rdN_lt l wr
    have l2 := rdN_lt (rdN l wr).2.1 (rdN l wr).2.2
    obtain ⟨e3, e3m, w2⟩ := rdB_back hw
    obtain ⟨e2, w1⟩ := rdN_back w2
    obtain ⟨e1, w0⟩ := rdN_back w1
    have hok' : okV ((rdN l wr).1 : Int) (rdVn (rdN l wr).1 (rdN (rdN l wr).2.1 (rdN l wr).2.2).1) ⟨(rdB 40 (rdN (rdN l wr).2.1 (rdN l wr).2.2).2.1 (rdN (rdN l wr).2.1 (rdN l wr).2.2).2.2).1.toArray⟩ = true := by simpa using hok
    have hkd := (okV_kind hok').1
    simp only
    generalize (rdB 40 (rdN (rdN l wr).2.1 (rdN l wr).2.2).2.1 (rdN (rdN l wr).2.1 (rdN l wr).2.2).2.2) = c at *
    generalize rdN (rdN l wr).2.1 (rdN l wr).2.2 = b at *
    generalize rdN l wr = a at *
    obtain ⟨k, l1', w1'⟩ := a
    obtain ⟨n, l2', w2'⟩ := b
    obtain ⟨s, l3', w3'⟩ := c
    simp only at *
    have hkk : kindN (k : Int) = k := by unfold kindN; omega
    have hnn : numV (k : Int) (rdVn k n) = n ∧ -9223372036854775808 ≤ rdVn k n ∧ rdVn k n ≤ 9223372036854775807 := by
      unfold numV rdVn
      by_cases h1 : k = 1
      · subst h1; simp; exact fold_unfold n l2
      · rw [if_neg (by omega), if_neg h1]; exact mod_toI64 n l2
    refine ⟨?_, hok', w0, hnn.2⟩
    unfold packV
    rw [hkk, hnn.1, e1, e2, e3]
    simp [ByteArray.size, byt]
end Go.Proofs.Ythnhdeieimgfhaa
