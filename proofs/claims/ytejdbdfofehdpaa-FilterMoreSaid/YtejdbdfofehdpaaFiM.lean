/-
  Filters that are put together of others: what stays below a block, what an append leaves. Conditions: none.
-/
import Derived.Test.YtejdbdfofehdpaaFiH
import Derived.Test.YtejdbdfofehdpaaRegion2
namespace Go.Proofs.Ytejdbdfofehdpaa
open Go Go.RowKit

theorem flatMapF_take (l : List Tst) (k : Nat) : (l.take k).flatMap tstc = (l.flatMap tstc).take (k * 5) := by
  induction l generalizing k with
  | nil => simp
  | cons x l ih =>
    cases k with
    | zero => simp
    | succ k =>
      rw [List.take_succ_cons, List.flatMap_cons, List.flatMap_cons, ih, show (k + 1) * 5 = (tstc x).length + k * 5 by simp; omega, List.take_length_add_append]
theorem flatMapF_drop (l : List Tst) (k : Nat) : (l.drop k).flatMap tstc = (l.flatMap tstc).drop (k * 5) := by
  induction l generalizing k with
  | nil => simp
  | cons x l ih =>
    cases k with
    | zero => simp
    | succ k =>
      rw [List.drop_succ_cons, List.flatMap_cons, ih, show (k + 1) * 5 = (tstc x).length + k * 5 by simp; omega, List.drop_length_add_append]
theorem Reads.preF {w : World} {B n : Nat} {A : Option Addr} {l : List Tst} (h : Reads w B 5 A n (l.flatMap tstc)) (k : Nat) (hk : k ≤ n) : Reads w B 5 A k ((l.take k).flatMap tstc) := by
  have hn := h.tstn
  refine ⟨by rw [tsts_len]; simp; omega, fun h0 => ?_⟩
  rw [tsts_len] at h0
  simp at h0
  obtain ⟨b, off, e, hb, hc⟩ := h.2 (by rw [tsts_len]; omega)
  refine ⟨b, off, e, hb, fun j u hu => hc j u ?_⟩
  rw [flatMapF_take] at hu
  rw [List.getElem?_take] at hu
  split at hu
  · exact hu
  · cases hu
theorem Reads.postF {w : World} {B n : Nat} {A A' : Option Addr} {l : List Tst} (h : Reads w B 5 A n (l.flatMap tstc)) (k : Nat) (hA : k < n → A' = A.map (·.add (k * 5))) : Reads w B 5 A' (n - k) ((l.drop k).flatMap tstc) := by
  have hn := h.tstn
  refine ⟨by rw [tsts_len]; simp; omega, fun h0 => ?_⟩
  rw [tsts_len] at h0
  simp at h0
  obtain ⟨b, off, rfl, hb, hc⟩ := h.2 (by rw [tsts_len]; omega)
  refine ⟨b, off + k * 5, by rw [hA (by omega)]; simp [Addr.add_lit], hb, fun j u hu => ?_⟩
  rw [Nat.add_assoc]
  refine hc _ u ?_
  rw [flatMapF_drop, List.getElem?_drop] at hu
  exact hu

theorem reads_growF {w w' : World} {B size n : Nat} {A : Option Addr} {xs : List Value} (h : Reads w B size A n xs) (hb : Below w.heap.size w w') : Reads w' B size A n xs :=
  ⟨h.1, fun hn => by
    obtain ⟨b, off, e, hB, hc⟩ := h.2 hn
    exact ⟨b, off, e, hB, fun j u hu => (hb.cell (p := ⟨b, off + j, none⟩) (World.block_lt_of_cell? w _ (hc j u hu))).trans (hc j u hu)⟩⟩
/-- An empty slice of the call's own. -/
def empF (base : Nat) (v : Value) (w : World) : Prop := ∃ g, v = .slice (some ⟨g, 0, none⟩) 0 0 ∧ base ≤ g ∧ Blk w g 30 #[]
theorem empF_own {base : Nat} {v : Value} {w : World} (h : empF base v w) : OwnF w base v [] := by
  obtain ⟨g, rfl, hb, hk⟩ := h
  exact ⟨by simp, .inr ⟨g, 0, #[], rfl, hb, hk, by simp, by simp, by simp, by simp⟩⟩
/-- What an append to an empty slice may change. -/
def MF (base : Nat) (w w' : World) : Prop := Below base w w' ∧ ∃ g, w.heap[g]? = some (.cells #[] 30 (0, 0)) ∧ w.grownBy w' (some g)
def MkF (z base k : Nat) (w w' : World) : Prop := if k = z then MF base w w' else Below base w w'
theorem MkF_below {z base k : Nat} {w w' : World} (h : MkF z base k w w') : Below base w w' := by
  unfold MkF at h
  split at h
  · exact h.1
  · exact h
/-- A slice that lies below a block. -/
def lowF (B base : Nat) (l : List Tst) (v : Value) (w : World) : Prop := ∃ A c, v = .slice A l.length c ∧ Reads w B 5 A l.length (l.flatMap tstc) ∧ B ≤ base
theorem lowF_any (B base : Nat) (l : List Tst) : ∀ v w w', lowF B base l v w → Below base w w' → lowF B base l v w' := by
  rintro v w w' ⟨A, c, rfl, hr, hb⟩ h
  exact ⟨A, c, rfl, hr.below h hb, hb⟩
/-- One attribute in a block of its own. -/
def oneF (x : Tst) (v : Value) (w : World) : Prop := ∃ g, v = .slice (some ⟨g, 0, none⟩) 1 1 ∧ Blk w g 30 (tstc x).toArray
theorem oneF_MF {base : Nat} (x : Tst) : ∀ v w w', oneF x v w → MF base w w' → oneF x v w' := by
  rintro v w w' ⟨g, rfl, hk⟩ ⟨_, g', h1, h2⟩
  refine ⟨g, rfl, hk.grown h2 ?_⟩
  rintro e
  injection e with e
  subst e
  unfold Blk at hk
  rw [hk] at h1
  injection h1 with h1
  injection h1 with h1
  have := congrArg Array.size h1
  simp at this
theorem ownF_grow (base : Nat) (l : List Tst) : ∀ v w w', OwnF w base v l → Below w.heap.size w w' → OwnF w' base v l := fun _ _ _ h hb => row_below h hb

theorem tsts_one (l : List Tst) : ∀ u ∈ l.flatMap tstc, u.oneCell' = true := by
  intro u hu
  obtain ⟨x, _, hx⟩ := List.mem_flatMap.1 hu
  exact tstc_one x u hx

/-- An append of a slice of another type of the same elements. -/
theorem append_two {P : Program} (t t2 ty e e2 : TypeId) {z : Value} {size bytes : Nat} (T : SliceT P t e z size bytes) (h2 : P.underlying t2 = some (.slice e2)) (v x : Value) (w : World) :
    (Builtin.append_ #[t, t2] ty #[v, x]).run P w = (Builtin.append_ #[t, t] ty #[v, x]).run P w := by
  obtain ⟨i, hi, -⟩ := T.fit
  cases v <;> simp [Builtin.append_, run_underlying T.und, run_underlying h2, sizeOf, typeInfo, hi]
theorem infoTests : Try.prog.underlying 23 = some (.slice 30) := Try.underlying23
theorem TT5 : SliceT Try.prog 23 30 (.agg #[.string { data := #[] }, .int .i64 0, .int .i64 0, .int .i64 0, .string { data := #[] }]) 5 56 := ⟨Try.underlying23, infoTest, rfl, by decide⟩
section
variable {P : Program}
theorem resK_app3 {C : World → Prop} {M : World → World → Prop} {φ : Value → World → Prop} {ρ : Operand → Value} {w : World} {s x : Operand} {t t2 ty : TypeId} (e e2 : TypeId) (base : Nat) (z : Value) (size bytes : Nat) (T : SliceT P t e z size bytes) (h2 : P.underlying t2 = some (.slice e2)) (v : Value) (n : Nat) (xs : List Value) (hs : ρ s = v) (hown : w.ownsRow base e size v n xs)
    (B : Nat) (A : Option Addr) (m c : Nat) (news : List Value) (hx : ρ x = .slice A m c) (hr : Reads w B size A m news) (h1 : ∀ u ∈ news, u.oneCell' = true)
    (hbytes : (n + m) * (bytes + 1) ≤ 140737488355328) (hbase : base ≤ w.heap.size)
    (h : ∀ v' w', w'.ownsRow base e size v' (n + m) (xs ++ news) → Below base w w' → w.grownBy w' v.ownBlock → φ v' w' ∧ C w' ∧ M w w') :
    ResK P C M φ w ((execOp ρ (bareOp (.call { callee := .builtin .append, args := #[s, x], argTypes := #[t, t2] }) ty)).run P w) := by
  obtain ⟨v', w', hrun, h2', h3, h4, h5⟩ := run_app w base t ty e z size bytes T v n xs hown B A m c news hr h1 hbytes hbase
  rw [← append_two t t2 ty e e2 T h2] at hrun
  have hrun2 : (execOp ρ (bareOp (.call { callee := .builtin .append, args := #[s, x], argTypes := #[t, t2] }) ty)).run P w = .ok (.value v') w' := by
    simp only [execOp, bareOp, resolve, invoke, builtin, Sem.run_bind, Sem.run_pure, Result.andThen_ok, List.map_toArray, List.map_cons, List.map_nil, hs, hx, hrun]
  rw [hrun2]
  exact h v' w' h2' h5 h3
end
end Go.Proofs.Ytejdbdfofehdpaa
