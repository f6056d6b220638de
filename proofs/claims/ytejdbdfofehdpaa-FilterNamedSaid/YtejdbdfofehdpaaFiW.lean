/-
  Filters: all walks of their functions. Conditions: none beyond those stated.
-/
import Derived.Test.YtejdbdfofehdpaaRfI
import Derived.Test.YtejdbdfofehdpaaRfF
import Derived.Test.YtejdbdfofehdpaaRfD
import Derived.Test.YtejdbdfofehdpaaFiSame
import Derived.Test.YtejdbdfofehdpaaFiFew
import Derived.Test.YtejdbdfofehdpaaEvFew
import Derived.Test.YtejdbdfofehdpaaEvP
namespace Go.Proofs.Ytejdbdfofehdpaa
open Go Go.RowKit

theorem flt_rep {w : World} {v : Value} (h : repFilter w v) : ∃ l : List Tst, flt l v w ∧ ∀ x ∈ l, fitT x := by
  obtain ⟨A, c, l, rfl, h1, h2, _, _⟩ := h
  exact ⟨l, ⟨A, c, rfl, h1⟩, h2⟩
theorem decF_none {b : List UInt8} (h : decF8 b = none) : decFC b = 50 ∧ decFL b = [] := by simp [decFC, decFL, h]
theorem decF_some {b : List UInt8} {l : List Tst} (h : decF8 b = some l) : decFC b = 0 ∧ decFL b = l := by simp [decFC, decFL, h]
/-- A text of bytes that were just written down. -/
theorem Text_calls (s : ByteArray) (w : World) :
    Calls Try.prog 29 #[.string s] w fun e w' => e = .returned (vv 2 0 s) ∧ Below w.heap.size w w' := by
  go_enter Try.func29, Try.ntmps29
  go_wp2
  exact bodyPost_ret (v := vv 2 0 s) (by simp [results, Try.results29, go_sem]) rfl ⟨rfl, (Below.refl _ _).alloc (Nat.le_refl _) _⟩
end Go.Proofs.Ytejdbdfofehdpaa
