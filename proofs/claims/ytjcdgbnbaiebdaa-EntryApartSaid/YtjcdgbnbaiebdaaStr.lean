/-
  The walk of value.Int, and bytes made into a text. Conditions: none.
-/
import Derived.Test.YtjcdgbnbaiebdaaPackD
import Derived.Test.YtjcdgbnbaiebdaaRegion
import Derived.Deep.RegionHeld3
import Derived.Deep.DrawnRows
set_option maxRecDepth 100000
namespace Go.Proofs.Ytjcdgbnbaiebdaa
open Go Go.RowKit

theorem Int_calls (n : Int) (w : World) :
    Calls Try.prog 34 #[.int .i64 n] w fun e w' => e = .returned (vv 1 n { data := #[] }) ∧ Below w.heap.size w w' := by
  go_enter Try.func34, Try.ntmps34
  go_wp2
  exact bodyPost_ret (v := vv 1 n { data := #[] }) (by simp [results, Try.results34, go_sem]) rfl ⟨rfl, (Below.refl _ _).alloc (Nat.le_refl _) _⟩

theorem str {w : World} {v : Value} {l : List UInt8} (h : sl l v w) : (convert 46 9 v).run Try.prog w = .ok (.string ⟨l.toArray⟩) w :=
  run_sl _ _ _ Try.underlying46 Try.underlying5 Try.underlying9 h
end Go.Proofs.Ytjcdgbnbaiebdaa
