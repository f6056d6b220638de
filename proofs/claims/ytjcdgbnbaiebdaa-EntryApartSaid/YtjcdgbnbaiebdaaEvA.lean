/-
  The walks of event.Name and of the document's Name (layer 4). Conditions: none.
-/
import Derived.Test.YtjcdgbnbaiebdaaPackB
import Derived.Deep.CutRange
import Derived.Deep.LoopGhost
set_option maxRecDepth 100000
namespace Go.Proofs.Ytjcdgbnbaiebdaa
open Go Go.RowKit

/-- Whether a byte may stand in a name; whether a name may be. -/
def okCh (b : UInt8) : Bool := (decide (97 ≤ b.toNat) && decide (b.toNat ≤ 122)) || (decide (48 ≤ b.toNat) && decide (b.toNat ≤ 57))
def okName (s : ByteArray) : Bool := decide (1 ≤ s.size) && decide (s.size ≤ 16) && (byt s).all okCh

theorem all_take (l : List UInt8) (k : Nat) (h : k < l.length) : (l.take (k + 1)).all okCh = ((l.take k).all okCh && okCh l[k]) := by
  rw [List.take_succ_eq_append_getElem h, List.all_append]; simp
theorem all_not (l : List UInt8) (k : Nat) (h : k < l.length) (hb : okCh l[k] = false) : l.all okCh = false := by
  rw [List.all_eq_false]
  exact ⟨l[k], List.getElem_mem h, by simp [hb]⟩

set_option maxHeartbeats 1000000 in
theorem Name_calls (s : ByteArray) (w : World) :
    Calls Try.prog 52 #[.string s] w fun e w' => e = .returned (.bool (okName s)) ∧ w = w' := by
  by_cases h1 : s.size < 1
  · have h1' : (s.size : Int) < 1 := by omega
    have hn : Hid (okName s = false) := Lib.hid (by simp [okName]; omega)
    go_enter Try.func52, Try.ntmps52
    go_wp2
    go_ret
    exact ⟨by rw [hn.out]; rfl, rfl⟩
  have h1' : ¬ (s.size : Int) < 1 := by omega
  by_cases h16 : 16 < s.size
  · have h16' : (16 : Int) < (s.size : Int) := by omega
    have hn : Hid (okName s = false) := Lib.hid (by simp [okName]; omega)
    go_enter Try.func52, Try.ntmps52
    go_wp2
    go_ret
    exact ⟨by rw [hn.out]; rfl, rfl⟩
  have h16' : ¬ (16 : Int) < (s.size : Int) := by omega
  have hlen : (byt s).length = s.size := by show s.data.toList.length = s.data.size; simp
  go_enter Try.func52, Try.ntmps52
  go_wp2_with fail
  go_loopw [15] (fun i wr => ∃ k : Nat, k ≤ s.size ∧ i = .int .i64 (k : Int) ∧ Hid (((byt s).take k).all okCh = true) ∧ wr = w) (fun i _ => s.size - (intOf i).toNat)
  case atStart => exact ⟨0, by omega, rfl, Lib.hid (by simp), rfl⟩
  case round =>
    obtain ⟨k, hk, rfl, hall, rfl⟩ := hrel
    by_cases hlt : k < s.size
    · have hki : (k : Int) < (s.size : Int) := by omega
      have hkb : k < (byt s).length := by omega
      have hT := Lib.hid (all_take (byt s) k hkb)
      have hF := Lib.hid (all_not (byt s) k hkb)
      have hget : s[k] = (byt s)[k] := by simp [byt]; rfl
      generalize (byt s)[k] = x at *
      have hx256 : x.toNat < 256 := x.toNat_lt
      go_upto_if 34 with (fail)
      all_goals
        go_wp2
        all_goals first
          | (go_ret
             have hx : okCh x = false := by simp [okCh]; omega
             exact ⟨by rw [show okName s = false by simp [okName, hF.out hx]]; rfl, rfl⟩)
          | (have hx : okCh x = true := by simp [okCh]; omega
             have hr : Hid (((byt s).take (k + 1)).all okCh = true) := Lib.hid (by rw [hT.out, hall.out, hx]; rfl)
             go_roundw
             case rel => exact ⟨k + 1, by omega, by go_num, hr, by trivial⟩
             case measure => simp [intOf]; omega)
    · have hki : ¬ (k : Int) < (s.size : Int) := by omega
      have hks : k = s.size := by omega
      have hn : Hid (okName s = true) := by
        have := hall.out
        rw [hks, ← hlen, List.take_length] at this
        exact Lib.hid (by simp only [okName, this]; simp; omega)
      clear hks
      go_wp2
      go_ret
      exact ⟨by rw [hn.out]; rfl, rfl⟩

end Go.Proofs.Ytjcdgbnbaiebdaa
