/-
  Two attributes, or values, held against each other; the walks of the document's Same and of the statements' Few (layer 4). Conditions: none.
-/
import Derived.Test.YtjcdgbnbaiebdaaEvB
import Derived.Test.YtjcdgbnbaiebdaaRegion
set_option maxRecDepth 100000
namespace Go.Proofs.Ytjcdgbnbaiebdaa
open Go Go.RowKit

theorem toList_iff (a b : ByteArray) : a.toList = b.toList ↔ a = b := by
  rw [ByteArray.toList_eq, ByteArray.toList_eq]
  exact ⟨fun h => byt_inj h, fun h => by rw [h]⟩
theorem run_val_eq (k n k' n' : Int) (s s' : ByteArray) (w : World) (d : Nat) : (Op.equalIn (d + 1 + 1) 76 (vv k n s) (vv k' n' s')).run Try.prog w = .ok (decide ((k, n, s) = (k', n', s'))) w := by
  simp [go_sem, toList_iff]
  by_cases h1 : k = k' <;> by_cases h2 : n = n' <;> by_cases h3 : s = s' <;> simp [h1, h2, h3]
theorem run_att_eq (x y : Att) (w : World) (d : Nat) : (Op.equalIn (d + 1 + 1 + 1) 79 (.agg #[.string x.1, .int .i64 x.2.1, .int .i64 x.2.2.1, .string x.2.2.2]) (.agg #[.string y.1, .int .i64 y.2.1, .int .i64 y.2.2.1, .string y.2.2.2])).run Try.prog w = .ok (decide (x = y)) w := by
  obtain ⟨a, k, n, s⟩ := x
  obtain ⟨a', k', n', s'⟩ := y
  simp [go_sem, toList_iff]
  by_cases h0 : a = a' <;> by_cases h1 : k = k' <;> by_cases h2 : n = n' <;> by_cases h3 : s = s' <;> simp [h0, h1, h2, h3]
theorem neq_att (x y : Att) (w : World) : (binOp .neq 79 (.agg #[.string x.1, .int .i64 x.2.1, .int .i64 x.2.2.1, .string x.2.2.2]) (.agg #[.string y.1, .int .i64 y.2.1, .int .i64 y.2.2.1, .string y.2.2.2])).run Try.prog w = .ok (.bool (!decide (x = y))) w := by
  rw [run_neq_struct, run_att_eq x y w 9997]; rfl
theorem eql_val (k n k' n' : Int) (s s' : ByteArray) (w : World) : (binOp .eql 76 (vv k n s) (vv k' n' s')).run Try.prog w = .ok (.bool (decide ((k, n, s) = (k', n', s')))) w := by
  rw [run_eql_struct, run_val_eq k n k' n' s s' w 9998]; rfl
theorem neq_val (k n k' n' : Int) (s s' : ByteArray) (w : World) : (binOp .neq 76 (vv k n s) (vv k' n' s')).run Try.prog w = .ok (.bool (!decide ((k, n, s) = (k', n', s')))) w := by
  rw [run_neq_struct, run_val_eq k n k' n' s s' w 9998]; rfl

end Go.Proofs.Ytjcdgbnbaiebdaa
