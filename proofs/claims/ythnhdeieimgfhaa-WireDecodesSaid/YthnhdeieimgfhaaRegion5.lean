/-
  A region that draws its order and makes memory, but for an operation that changes what was there, and but for a last stretch, from an operation y on, with an invariant of its own. Conditions: none.
-/
import Derived.Test.YthnhdeieimgfhaaMA
namespace Go.Proofs.Ythnhdeieimgfhaa
open Go Go.RowKit

section
variable {P : Program} {Q : Exit → Act → World → Prop}
/-- What is owed at y, and behind it. -/
def OwedW (P : Program) (a0 : Act) (C D1 : World → Prop) (F : (Nat → Bool) → (Nat → Value) → World → Prop) (φ : Nat → Value → World → Prop) (k : Nat) (op : Op) (ty : TypeId) (gd : Option (Nat × Bool)) (al : List Nat) (rd : List (Nat × Nat)) : Prop :=
  gd = none ∧ ∀ (L : Nat → Bool) (V : Nat → Value) (w : World), (∀ j ∈ al, L j = true) → C w → D1 w → (∀ j, L j = true → φ j (V j) w) → Res P (fun v w' => F (upd L k) (updV V k v) w') ((execOp (rhoP rd a0 V) (bareOp op ty)).run P w)
def OwedV (P : Program) (a0 : Act) (F : (Nat → Bool) → (Nat → Value) → World → Prop) (k : Nat) (op : Op) (ty : TypeId) (gd : Option (Nat × Bool)) (al : List Nat) (rd : List (Nat × Nat)) : Prop :=
  gd = none ∧ ∀ (L : Nat → Bool) (V : Nat → Value) (w : World), L k = false → (∀ j ∈ al, L j = true) → F L V w → Res P (fun v w' => F (upd L k) (updV V k v) w') ((execOp (rhoP rd a0 V) (bareOp op ty)).run P w)
def OwedU (P : Program) (a0 : Act) (C D0 D1 : World → Prop) (Le : World → World → Prop) (F : (Nat → Bool) → (Nat → Value) → World → Prop) (φ : Nat → Value → World → Prop) (z y : Nat) (bef aft : List Nat) : Nat → List Oper → List (List Nat × List (Nat × Nat)) → Prop
  | _, [], _ => True
  | _, _ :: _, [] => False
  | k, o :: r, x :: xs => (if k = y then OwedW P a0 C D1 F φ k o.op o.type o.guard x.1 x.2 else (if bef.contains k = true then True else OwedV P a0 F k o.op o.type o.guard x.1 x.2) ∧ (if aft.contains k = true then True else OwedT P a0 C D0 D1 Le φ z k [o] [x])) ∧ OwedU P a0 C D0 D1 Le F φ z y bef aft (k + 1) r xs
def TurnU (C D0 D1 : World → Prop) (t : List (Value → World → Prop)) (z y : Nat) (F : (Nat → Bool) → (Nat → Value) → World → Prop) (L : Nat → Bool) (V : Nat → Value) (w : World) : Prop := if L y = true then F L V w else TurnI C D0 D1 t z L V w

theorem OwedU.toP {ops : Array Oper} {a0 : Act} {C D0 D1 : World → Prop} {Le : World → World → Prop} {F : (Nat → Bool) → (Nat → Value) → World → Prop} {t : List (Value → World → Prop)} {z y : Nat} {bef aft : List Nat} (ql : List (List Nat × List (Nat × Nat))) (hpl : planOk ops ql = true)
    (hb : ∀ k ∈ bef, fore ql k ql.length y = true) (ha : ∀ k ∈ aft, fore ql y ql.length k = true) (hz : z ∈ bef) (hzy : z ≠ y)
    (hg : ∀ W W', C W → Below W.heap.size W W' → C W') (hg0 : ∀ W W', D0 W → Below W.heap.size W W' → D0 W') (hg1 : ∀ W W', D1 W → Below W.heap.size W W' → D1 W')
    (st : ∀ f ∈ t, ∀ v w w', f v w → Below w.heap.size w w' → f v w') (st2 : ∀ j, j ≠ z → fore ql z ql.length j = false → ∀ v w w', tab t j v w → Le w w' → tab t j v w') :
    ∀ (l : List Oper) (k : Nat) (pl : List (List Nat × List (Nat × Nat))), (∀ i, ops[k + i]? = l[i]?) → (∀ i, ql[k + i]? = pl[i]?) →
      OwedU P a0 C D0 D1 Le F (tab t) z y bef aft k l pl → OwedP P ops a0 (TurnU C D0 D1 t z y F) k l pl := by
  intro l
  induction l with
  | nil => intro k pl _ _ _; exact trivial
  | cons o r ih =>
    intro k pl ho hq h
    cases pl with
    | nil => exact False.elim h
    | cons x xs =>
      have hxk : ql[k]? = some x := hq 0
      refine ⟨?_, ih _ _ (fun i => by have := ho (i + 1); simpa [Nat.add_assoc, Nat.add_comm 1 i] using this) (fun i => by have := hq (i + 1); simpa [Nat.add_assoc, Nat.add_comm 1 i] using this) h.2⟩
      -- what comes before k is done as soon as all that k leans on are
      have before : ∀ {L : Nat → Bool} {j : Nat}, Closed ops L → (∀ i ∈ x.1, L i = true) → fore ql j ql.length k = true → L j = true := by
        intro L j hcl hal hf
        cases hn : ql.length with
        | zero => rw [hn] at hf; cases hf
        | succ n =>
          rw [hn] at hf
          unfold fore at hf
          rw [hxk] at hf
          simp only [Bool.or_eq_true, List.contains_iff_mem, List.any_eq_true] at hf
          rcases hf with hf | ⟨i, hi, hf⟩
          · exact hal j hf
          · exact fore_done hpl hcl _ _ hf (hal i hi)
      intro L V w hLk hcl hal hI
      by_cases hky : k = y
      · subst hky
        have ob := h.1
        rw [if_pos rfl] at ob
        obtain ⟨hgd, ob⟩ := ob
        unfold TurnU at hI
        rw [hLk] at hI
        simp only [Bool.false_eq_true, if_false] at hI
        obtain ⟨hc, hd, hp⟩ := hI
        have hLz : L z = true := before hcl hal (hb z hz)
        rw [if_pos hLz] at hd
        have ob := ob L V w hal hc hd hp
        rw [hgd, if_pos (show wantsG V none = true from rfl)]
        have hkk : upd L k k = true := by simp [upd]
        refine Res.imp ?_ ob
        intro v w' h9
        unfold TurnU
        rw [if_pos hkk]
        exact h9
      · have ob := h.1
        rw [if_neg hky] at ob
        obtain ⟨ob1, ob2⟩ := ob
        cases hLy : L y with
        | true =>
          have hnb : bef.contains k = false := by
            cases hc : bef.contains k with
            | false => rfl
            | true =>
              have := fore_done hpl hcl _ _ (hb k (by simpa using hc)) hLy
              rw [hLk] at this; cases this
          rw [hnb] at ob1
          simp only [Bool.false_eq_true, if_false] at ob1
          obtain ⟨hgd, ob⟩ := ob1
          unfold TurnU at hI
          rw [if_pos hLy] at hI
          have ob := ob L V w hLk hal hI
          rw [hgd, if_pos (show wantsG V none = true from rfl)]
          have hup : upd L k y = true := by simp [upd, hLy]
          refine Res.imp ?_ ob
          intro v w' h9
          unfold TurnU
          rw [if_pos hup]
          exact h9
        | false =>
          have hna : aft.contains k = false := by
            cases hc : aft.contains k with
            | false => rfl
            | true =>
              have := before hcl hal (ha k (by simpa using hc))
              rw [hLy] at this; cases this
          rw [hna] at ob2
          simp only [Bool.false_eq_true, if_false] at ob2
          have e := (OwedT.toP2 ql hpl hg hg0 hg1 st st2 [o] k [x] ob2).1
          unfold TurnU at hI
          rw [hLy] at hI
          simp only [Bool.false_eq_true, if_false] at hI
          have e := e L V w hLk hcl hal hI
          have hup : upd L k y = false := by simp [upd, Ne.symm hky, hLy]
          have key : ∀ v w', TurnI C D0 D1 t z (upd L k) (updV V k v) w' → TurnU C D0 D1 t z y F (upd L k) (updV V k v) w' := by
            intro v w' h9
            unfold TurnU
            rw [hup]
            simpa using h9
          by_cases hw : wantsG V o.guard = true
          · rw [if_pos hw] at e ⊢
            exact Res.imp key e
          · rw [if_neg hw] at e ⊢
            exact key _ _ e

/-- **A region that draws its order and only makes memory, but for an operation z, and for a later one, y, behind which an invariant of its own holds.** 'bef': those that come before y in every order; 'aft': behind it. -/
theorem wp_region_turn4 {id : Nat} {ops : Array Oper} {a0 : Act} {w : World} (z y : Nat) (bef aft : List Nat) (C D0 D1 : World → Prop) (Le : World → World → Prop) (F : (Nat → Bool) → (Nat → Value) → World → Prop) (l : List (Value → World → Prop)) (pl : List (List Nat × List (Nat × Nat)))
    (n : Nat) (hn : a0.tmps.size = n) (hm : P.follows .mixedOrders = true) (hok : regionOk ops n = true) (hpl : planOk ops pl = true) (hzb : bef.contains z = true) (hzy : z ≠ y) (hy : y < ops.size)
    (hbef : bef.all (fun k => fore pl k pl.length y) = true) (haft : aft.all (fun k => fore pl y pl.length k) = true)
    (hg : ∀ W W', C W → Below W.heap.size W W' → C W') (hg0 : ∀ W W', D0 W → Below W.heap.size W W' → D0 W') (hg1 : ∀ W W', D1 W → Below W.heap.size W W' → D1 W') (hC : C w.drew) (hD : D0 w.drew)
    (st : ∀ f ∈ l, ∀ v w w', f v w → Below w.heap.size w w' → f v w') (st2 : ∀ x ∈ l.zipIdx, (x.2 == z || fore pl z pl.length x.2) = true ∨ ∀ v w w', x.1 v w → Le w w' → x.1 v w')
    (owed : OwedU P a0 C D0 D1 Le F (tab l) z y bef aft 0 ops.toList pl)
    (fin : ∀ (V : Nat → Value) (w : World), F (fun j => decide (j < ops.size)) V w → Q .normal (putAll V ops.toList 0 a0) w) :
    (Code.region id ops true).wp P Q a0 w := by
  have st2' : ∀ j, j ≠ z → fore pl z pl.length j = false → ∀ v w w', tab l j v w → Le w w' → tab l j v w' := by
    intro j hjz hf v w w' ht hm
    unfold tab at *
    cases hj : l[j]? with
    | none => simp [List.getD_eq_getElem?_getD, hj]
    | some f =>
      simp only [List.getD_eq_getElem?_getD, hj, Option.getD_some] at ht ⊢
      rcases st2 (f, j) (List.mem_zipIdx_iff_getElem?.2 hj) with h1 | h1
      · simp only [Bool.or_eq_true, beq_iff_eq] at h1
        rcases h1 with h2 | h2
        · exact absurd h2 hjz
        · rw [h2] at hf; cases hf
      · exact h1 v w w' ht hm
  refine wp_region_inv (TurnU C D0 D1 l z y F) n hn hm hok ?_ (owed_plan pl hpl (OwedU.toP pl hpl (fun k hk => List.all_eq_true.1 hbef k hk) (fun k hk => List.all_eq_true.1 haft k hk) (by simpa using hzb) hzy hg hg0 hg1 st st2' _ _ _ (fun i => by simp) (fun i => by simp) owed)) fun V w h => fin V w ?_
  · unfold TurnU; simp only [Bool.false_eq_true, if_false]; exact ⟨hC, by simpa using hD, fun _ h => by cases h⟩
  · unfold TurnU at h; simpa [hy] using h
end
end Go.Proofs.Ythnhdeieimgfhaa
