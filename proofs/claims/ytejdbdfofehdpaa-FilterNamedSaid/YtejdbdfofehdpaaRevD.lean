/-
  The walk of the document's Find (layer 4). Conditions: none.
-/
import Derived.Test.YtejdbdfofehdpaaEvD
namespace Go.Proofs.Ytejdbdfofehdpaa
open Go Go.RowKit

set_option maxHeartbeats 2000000 in
theorem RefFind_calls (A : Option Addr) (c : Nat) (l : List Att) (s : ByteArray) (w : World) (B : Nat) (hR : Reads w B 4 A l.length (l.flatMap attc)) (hB : B ≤ w.heap.size) (hlen : l.length ≤ 1000000) :
    Calls Try.prog 52 #[.slice A l.length c, .string s] w fun e w' => e = .returned (findV l s) ∧ Below w.heap.size w w' := by
  have HA := Lib.hid hR
  clear hR
  go_enter Try.func52, Try.ntmps52
  go_wp2_with fail
  go_loopw [6] (fun i wr => ∃ k : Nat, k ≤ l.length ∧ i = .int .i64 (k : Int) ∧ Hid (∀ x ∈ l.take k, isN s x = false) ∧ wr = w.alloc (.cells #[.int .i64 0, .int .i64 0, .string { data := #[] }] 28)) (fun i _ => l.length - (intOf i).toNat)
  case atStart => exact ⟨0, by omega, rfl, Lib.hid (by simp), rfl⟩
  case round =>
    obtain ⟨k, hk, rfl, hall, rfl⟩ := hrel
    by_cases hlt : k < l.length
    · have hki : (k : Int) < (l.length : Int) := by omega
      obtain ⟨b, off, rfl, hbB, hcell⟩ := HA.out.atts (by omega)
      have hbz : b < w.heap.size := Nat.lt_of_lt_of_le hbB hB
      obtain ⟨d0, d1, d2, d3⟩ := hcell k hlt
      clear hcell
      have HF : Hid (isN s l[k] = true → findV l s = .tuple #[vv l[k].2.1 l[k].2.2.1 l[k].2.2.2, .bool true]) := Lib.hid (fun h => by simp only [findV, find_hit l s k hlt h hall.out])
      have HT : Hid (isN s l[k] = false → ∀ x ∈ l.take (k + 1), isN s x = false) := by
        refine Lib.hid fun h x hx => ?_
        rw [List.take_succ_eq_append_getElem hlt] at hx
        rcases List.mem_append.1 hx with hx | hx
        · exact hall.out x hx
        · simp at hx; rw [hx]; exact h
      generalize l[k] = x at *
      obtain ⟨xs, xk, xn, xt⟩ := x
      simp only at d0 d1 d2 d3 HF
      cases hx : isN s (xs, xk, xn, xt)
      · have hxx : (xs.toList == s.toList) = false := by rw [byt_beq]; exact hx
        have hrr := Lib.hid (HT.out hx)
        clear hx
        go_wp2
        go_roundw
        case rel => exact ⟨k + 1, by omega, by go_num, hrr, by trivial⟩
        case measure => simp [intOf]; omega
      · have hxx : (xs.toList == s.toList) = true := by rw [byt_beq]; exact hx
        have HE := Lib.hid (HF.out hx)
        clear hx
        go_wp2
        refine bodyPost_ret (v := .tuple #[vv xk xn xt, .bool true]) (by simp [results, Try.results52, go_sem]) rfl ⟨by rw [HE.out], ?_⟩
        exact (Below.refl _ _).alloc (Nat.le_refl _) _
    · have hki : ¬ (k : Int) < (l.length : Int) := by omega
      have HE : Hid (findV l s = .tuple #[vv 0 0 { data := #[] }, .bool false]) := by
        refine Lib.hid ?_
        have := find_miss l s (by have := hall.out; rwa [List.take_of_length_le (by omega)] at this)
        simp only [findV, this]
      go_wp2
      refine bodyPost_ret (v := .tuple #[vv 0 0 { data := #[] }, .bool false]) (by simp [results, Try.results52, go_sem]) rfl ⟨by rw [HE.out], ?_⟩
      exact (Below.refl _ _).alloc (Nat.le_refl _) _
section
variable {l la lb : List Att} {b : List UInt8} {v va vb : Value} {w : World}
theorem RefFind_evt (s : ByteArray) (h : evt l v w) (hlen : l.length ≤ 1000000) : Calls Try.prog 52 #[v, .string s] w fun e w' => e = .returned (findV l s) ∧ Below w.heap.size w w' := by
  obtain ⟨A, c, rfl, hR⟩ := h
  exact RefFind_calls A c l s w _ hR (Nat.le_refl _) hlen
end
end Go.Proofs.Ytejdbdfofehdpaa
