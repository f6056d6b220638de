/-
  The walk of the document's Name (layer 4). Conditions: none.
-/
import Derived.Test.YthnhdeieimgfhaaVA
set_option maxRecDepth 100000
namespace Go.Proofs.Ythnhdeieimgfhaa
open Go Go.RowKit

set_option maxHeartbeats 1000000 in
theorem RefName_calls (s : ByteArray) (w : World) (hsz : s.size ≤ 1000000000) :
    Calls Try.prog 142 #[.string s] w fun e w' => e = .returned (.bool (okName s)) ∧ w = w' := by
  have hlen : (byt s).length = s.size := by show s.data.toList.length = s.data.size; simp
  go_enter Try.func142, Try.ntmps142
  go_wp2_with fail
  go_loopw [3] (fun i wr => ∃ k : Nat, k ≤ s.size ∧ i = .int .i64 (k : Int) ∧ Hid (((byt s).take k).all okCh = true) ∧ wr = w) (fun i _ => s.size - (intOf i).toNat)
  case atStart => exact ⟨0, by omega, rfl, Lib.hid (by simp), by trivial⟩
  case round =>
    obtain ⟨k, hk, rfl, hall, rfl⟩ := hrel
    by_cases hlt : k < s.size
    · have hki : (k : Int) < (s.size : Int) := by omega
      have hkb : k < (byt s).length := by omega
      have hT := Lib.hid (all_take (byt s) k hkb)
      have hF := Lib.hid (all_not (byt s) k hkb)
      have hget : s[k] = (byt s)[k] := by simp [byt]; rfl
      generalize (byt s)[k] = x at *
      have hx256 : x.toNat < 256 := x.toNat_lt
      by_cases a1 : (97 : Int) ≤ (x.toNat : Int)
      all_goals by_cases a2 : (x.toNat : Int) ≤ 122
      all_goals by_cases a3 : (48 : Int) ≤ (x.toNat : Int)
      all_goals by_cases a4 : (x.toNat : Int) ≤ 57
      all_goals try (exfalso; omega)
      all_goals go_wp2
      all_goals first
        | (go_ret
           have hx : okCh x = false := by simp [okCh]; omega
           exact ⟨by rw [show okName s = false by simp [okName, hF.out hx]]; rfl, rfl⟩)
        | (have hx : okCh x = true := by simp [okCh]; omega
           have hr : Hid (((byt s).take (k + 1)).all okCh = true) := Lib.hid (by rw [hT.out, hall.out, hx]; rfl)
           go_roundw
           case rel => exact ⟨k + 1, by omega, by go_num, hr, by trivial⟩
           case measure => simp [intOf]; omega)
    · have hki : ¬ (k : Int) < (s.size : Int) := by omega
      have hks : k = s.size := by omega
      have hn : Hid (okName s = (decide (1 ≤ s.size) && decide (s.size ≤ 16))) := by
        have := hall.out
        rw [hks, ← hlen, List.take_length] at this
        exact Lib.hid (by simp only [okName, this]; simp)
      clear hks
      go_wp2
      all_goals
        go_ret
        refine ⟨?_, rfl⟩
        rw [hn.out]
        show Ending.returned (.bool _) = Ending.returned (.bool _)
        congr 1
        first
        | (congr 1; rw [Bool.eq_iff_iff]; simp; omega)
        | (simp_all; omega)
        | simp_all
end Go.Proofs.Ythnhdeieimgfhaa
