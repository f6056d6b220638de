/-
  postilionlaw02.PackNil: the walk: calls on a nil reader answer nothing. Conditions: none.
-/
import Derived.Test.YtipkjgfhadlblaaPackE
import Derived.Test.YtipkjgfhadlblaaOpen
namespace Go.Proofs.Ytipkjgfhadlblaa
open Go Go.RowKit

theorem RNumber_nil (w : World) : Calls Try.prog 22 #[.pointer none] w fun e w' => e = .returned (.int .u64 0) ∧ w = w' := by
  go_enter Try.func22, Try.ntmps22
  go_wp2
  go_step3
  go_wp2
  rw [Exit.noGoto_ret]
  go_ret
  exact ⟨rfl, rfl⟩
theorem RBytes_nil (n : Int) (w : World) : Calls Try.prog 23 #[.pointer none, .int .i64 n] w fun e w' => e = .returned (.slice none 0 0) ∧ w = w' := by
  go_enter Try.func23, Try.ntmps23
  go_wp2
  go_step3
  go_wp2
  rw [Exit.noGoto_ret]
  go_ret
  exact ⟨rfl, rfl⟩
theorem RValue_nil (w : World) : Calls Try.prog 24 #[.pointer none] w fun e w' => e = .returned (vd (0, 0, [])) ∧ Below w.heap.size w w' := by
  go_enter Try.func24, Try.ntmps24
  go_wp2
  go_step3
  go_wp2
  rw [Exit.noGoto_ret]
  exact bodyPost_ret (v := vd (0, 0, [])) (by simp [results, Try.results24, go_sem]) rfl ⟨rfl, (Below.refl _ _).alloc (Nat.le_refl _) _⟩
theorem RWrong_nil (w : World) : Calls Try.prog 20 #[.pointer none] w fun e w' => e = .returned (.bool false) ∧ w = w' := by
  go_enter Try.func20, Try.ntmps20
  go_wp2
  go_ret
  exact ⟨rfl, rfl⟩
theorem RDone_nil (w : World) : Calls Try.prog 21 #[.pointer none] w fun e w' => e = .returned (.bool false) ∧ w = w' := by
  go_enter Try.func21, Try.ntmps21
  go_wp2
  go_ret
  exact ⟨rfl, rfl⟩

set_option maxHeartbeats 400000 in
theorem PackNil_walk (v0 : Value) (w : World) (r0 : repI64 w v0) :
    Calls Try.prog 9 #[v0] w fun e w' => e = .returned (.bool true) ∧ Below w.heap.size w w' := by
  obtain ⟨n, rfl, _, _⟩ := r0
  go_enter Try.func9, Try.ntmps9
  go_wp2_with fail
  refine (awake_calls w).mono ?_
  rintro e w1 ⟨rfl, hb1⟩
  go_wp2_with fail
  refine (RNumber_nil w1).mono ?_
  rintro e w' ⟨rfl, rfl⟩
  go_wp2_with fail
  refine (RBytes_nil n _).mono ?_
  rintro e w' ⟨rfl, rfl⟩
  go_wp2_with fail
  refine (RValue_nil _).mono ?_
  rintro e w2 ⟨rfl, hb2⟩
  go_wp2_with fail
  refine (RWrong_nil _).mono ?_
  rintro e w' ⟨rfl, rfl⟩
  go_wp2_with fail
  refine (RDone_nil _).mono ?_
  rintro e w' ⟨rfl, rfl⟩
  go_wp2
  go_ret
  exact ⟨rfl, hb1.trans (hb2.mono hb1.size)⟩
end Go.Proofs.Ytipkjgfhadlblaa
