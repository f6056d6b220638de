/-
  A map of the call's own, by whole numbers, of whatever values: entries one by one, and what is looked up. Conditions: none.
-/
import Derived.Test.YthnhdeieimgfhaaMA
import Derived.Maps.OwnSet
import Derived.Carry
set_option maxRecDepth 100000
namespace Go.Proofs.Ythnhdeieimgfhaa
open Go Go.RowKit Go.ChangeMaps

/-- What a list of entries holds for a number. -/
def lookI (kvs : List (Int × Value)) (k : Int) : Option Value := (kvs.find? fun p => p.1 == k).map (·.2)
/-- The map in block b holds these entries. -/
def MapI (w : World) (b : Nat) (kvs : List (Int × Value)) : Prop :=
  ∃ (es : Array MapEntry) (c : Nat), w.heap[b]? = some (.map es c) ∧ es.toList.map (fun e => (e.key, e.val)) = kvs.map fun p => (Value.int .i64 p.1, p.2)

theorem MapI.new (w : World) : MapI (w.alloc (.map #[] 0)) w.heap.size [] := ⟨#[], 0, heap_alloc_new w _, rfl⟩
theorem MapI.lt {w : World} {b : Nat} {kvs : List (Int × Value)} (h : MapI w b kvs) : b < w.heap.size := by
  obtain ⟨es, c, h, _⟩ := h
  exact (Array.getElem?_eq_some_iff.1 h).1
theorem MapI.below {w w' : World} {b B : Nat} {kvs : List (Int × Value)} (h : MapI w b kvs) (hb : Below B w w') (hB : b < B) : MapI w' b kvs := by
  obtain ⟨es, c, h1, h2⟩ := h
  exact ⟨es, c, (hb.block b hB).trans h1, h2⟩

theorem findNow_i (k : Int) : ∀ (es : List MapEntry) (kvs : List (Int × Value)) (i : Nat), es.map (fun e => (e.key, e.val)) = kvs.map (fun p => (Value.int .i64 p.1, p.2)) →
    ∃ r, Instr.findNow (.int .i64) (.int .i64 k) es i = some r ∧ r.map (·.2) = lookI kvs k
  | [], [], i, _ => ⟨none, rfl, rfl⟩
  | [], _ :: _, i, h => by simp at h
  | _ :: _, [], i, h => by simp at h
  | e :: es, p :: kvs, i, h => by
    simp only [List.map_cons, List.cons.injEq, Prod.mk.injEq] at h
    obtain ⟨⟨h1, h2⟩, h3⟩ := h
    obtain ⟨r, h4, h5⟩ := findNow_i k es kvs (i + 1) h3
    unfold Instr.findNow
    rw [h1]
    by_cases hk : p.1 = k
    · subst hk
      exact ⟨some (i, e.val), by simp [Instr.sameNow], by simp [lookI, h2]⟩
    · refine ⟨r, ?_, ?_⟩
      · have : (k == p.1) = false := by simp; exact fun e => hk e.symm
        simp [Instr.sameNow, this, h4]
      · rw [h5]
        unfold lookI
        rw [List.find?_cons_of_neg (by simpa using hk)]

section
variable {P : Program}
theorem run_checkKey_n {K : TypeId} (hK : P.underlying K = some (.int .i64)) (k : Int) (em : Bool) (n : Nat) (w : World) : (Instr.checkKey em (n + 1) K (.int .i64 k)).run P w = .ok () w := by
  simp [Instr.checkKey, run_underlying hK]
theorem run_checkKey_i {K : TypeId} (hK : P.underlying K = some (.int .i64)) (k : Int) (em : Bool) (w : World) : (Instr.checkKey em 10000 K (.int .i64 k)).run P w = .ok () w := run_checkKey_n hK k em 9999 w

theorem run_insert {t K E : TypeId} (hT : P.underlying t = some (.map K E)) (hK : P.underlying K = some (.int .i64)) {w : World} {b : Nat} {kvs : List (Int × Value)} (h : MapI w b kvs) (k : Int) (v : Value) (hn : lookI kvs k = none) :
    ∃ w', (Instr.mapUpdate t (.map (some b)) (.int .i64 k) v).run P w = .ok () w' ∧ MapI w' b (kvs ++ [(k, v)]) ∧ w.grownBy w' (some b) := by
  obtain ⟨es, c, h1, h2⟩ := h
  obtain ⟨r, h3, h4⟩ := findNow_i k es.toList kvs 0 h2
  have hr : r = none := by
    cases r with
    | none => rfl
    | some x => rw [hn] at h4; cases h4
  subst hr
  refine ⟨setBlock w b (.map (es.push ⟨.int .i64 k, v, c⟩) (c + 1)), ?_, ⟨_, _, heap_setBlock_same h1 _, ?_⟩, ⟨rfl, rfl, rfl, by simp [setBlock], fun i _ hi => heap_setBlock_other h1 _ (fun e => hi (by rw [e]))⟩⟩
  · simp [Instr.mapUpdate, run_underlying hT, MapKept.run_getObj_map h1, run_checkKey_i hK, Instr.findKey, run_underlying hK, h3, MapKept.run_setObj_map _ h1, Result.andThen, setBlock]
  · simp [h2]

theorem run_look2 {t K E : TypeId} (hT : P.underlying t = some (.map K E)) (hK : P.underlying K = some (.int .i64)) {w : World} {z : Value} (hz : (zeroValue E).run P w = .ok z w) {b : Nat} {kvs : List (Int × Value)} (h : MapI w b kvs) (k : Int) :
    (Instr.lookup t (.map (some b)) (.int .i64 k) true).run P w = .ok (.tuple #[(lookI kvs k).getD z, .bool (lookI kvs k).isSome]) w := by
  obtain ⟨es, c, h1, h2⟩ := h
  obtain ⟨r, h3, h4⟩ := findNow_i k es.toList kvs 0 h2
  rw [← h4]
  cases r with
  | none => simp [Instr.lookup, run_underlying hT, MapKept.run_getObj_map h1, run_checkKey_i hK, Instr.findKey, run_underlying hK, h3, hz, Result.andThen]
  | some x => simp [Instr.lookup, run_underlying hT, MapKept.run_getObj_map h1, run_checkKey_i hK, Instr.findKey, run_underlying hK, h3, Result.andThen]

/-- An entry of a literal, for the walk. -/
theorem wpList_insert (w : World) {ops : Array Oper} {rest : List Oper} {o : Oper} {a : Act} {Q : Exit → Act → World → Prop}
    (hg : o.guard = none) (m x v : Operand) (t : TypeId) (hop : o.op = Op.insert t m x v) (K E : TypeId) (hT : P.underlying t = some (.map K E)) (hK : P.underlying K = some (.int .i64))
    (b : Nat) (kvs : List (Int × Value)) (hm : a.eval m = .map (some b)) (hown : MapI w b kvs) (k : Int) (hx : a.eval x = .int .i64 k) (val : Value) (hv : a.eval v = val) (hn : lookI kvs k = none)
    (hK' : ∀ w', MapI w' b (kvs ++ [(k, val)]) → w.grownBy w' (some b) → wpList P ops Q rest (a.put o.dst undef) w') : wpList P ops Q (o :: rest) a w := by
  refine wpList_plain hg fun K'' hK'' => ?_
  obtain ⟨w', hrun, r1, r2⟩ := run_insert hT hK hown k val hn
  unfold Oper.wp
  simp [execOp, hop, hm, hx, hv, hrun, Result.andThen]
  exact hK'' _ _ (hK' w' r1 r2)
end
end Go.Proofs.Ythnhdeieimgfhaa
