/-
  A region that draws its order, some of whose operations (appends) change what others have made: each such operation ends the facts that it does not leave. Conditions: what ends a fact comes behind all that leans on it.
-/
import Derived.Test.YtejdbdfofehdpaaRegion
namespace Go.Proofs.Ytejdbdfofehdpaa
open Go Go.RowKit

section
variable {P : Program} {Q : Exit → Act → World → Prop}

/-- Whether the fact of an operation still stands: none of those that end it is done. -/
def live (kl : List (List Nat)) (L : Nat → Bool) (j : Nat) : Bool := (kl.getD j []).all fun k => !L k
def KillI (C : World → Prop) (t : List (Value → World → Prop)) (kl : List (List Nat)) (L : Nat → Bool) (V : Nat → Value) (w : World) : Prop := C w ∧ ∀ j, L j = true → live kl L j = true → tab t j (V j) w

/-- What an operation's run must come to: 'z': it may change memory, as M says. -/
def ResK (P : Program) (C : World → Prop) (M : World → World → Prop) (φ : Value → World → Prop) (w : World) : Result Next → Prop
  | .ok (.value v) w' => φ v w' ∧ C w' ∧ M w w'
  | .ok .skip w' => φ undef w' ∧ C w' ∧ M w w'
  | .ok (.enter f args) w' => Calls P f args w' fun e w'' => ∃ v, e = .returned v ∧ φ v w'' ∧ C w'' ∧ M w w''
  | _ => False
def OwedK1 (P : Program) (a0 : Act) (C : World → Prop) (M : World → World → Prop) (φ : Nat → Value → World → Prop) (k : Nat) (op : Op) (ty : TypeId) (gd : Option (Nat × Bool)) (al : List Nat) (rd : List (Nat × Nat)) : Prop :=
  ∀ (V : Nat → Value) (w : World), C w → (∀ j ∈ al, φ j (V j) w) → if wantsG V gd = true then ResK P C M (φ k) w ((execOp (rhoP rd a0 V) (bareOp op ty)).run P w) else φ k undef w
def OwedK (P : Program) (a0 : Act) (C : World → Prop) (M : Nat → World → World → Prop) (zs : List Nat) (φ : Nat → Value → World → Prop) : Nat → List Oper → List (List Nat × List (Nat × Nat)) → Prop
  | _, [], _ => True
  | _, _ :: _, [] => False
  | k, o :: r, x :: xs => (if zs.contains k = true then OwedK1 P a0 C (M k) φ k o.op o.type o.guard x.1 x.2 else OwedG P a0 C φ k o.op o.type o.guard x.1 x.2) ∧ OwedK P a0 C M zs φ (k + 1) r xs

/-- Whether an operation comes before another one in every order, by the plan. -/
def fore (pl : List (List Nat × List (Nat × Nat))) (z : Nat) : Nat → Nat → Bool
  | 0, _ => false
  | f + 1, j => match pl[j]? with
    | none => false
    | some y => y.1.contains z || y.1.any (fore pl z f)
/-- What ends a fact comes behind all that leans on it. -/
def killOk (pl : List (List Nat × List (Nat × Nat))) (kl : List (List Nat)) : Bool :=
  pl.zipIdx.all fun x => x.1.1.all fun j => (kl.getD j []).all fun k => k == x.2 || fore pl x.2 pl.length k

theorem fore_done {ops : Array Oper} {pl : List (List Nat × List (Nat × Nat))} (hpl : planOk ops pl = true) {L : Nat → Bool} (hcl : Closed ops L) {z : Nat} : ∀ (f j : Nat), fore pl z f j = true → L j = true → L z = true := by
  intro f
  induction f with
  | zero => intro j h _; cases h
  | succ f ih =>
    intro j h hL
    unfold fore at h
    cases hy : pl[j]? with
    | none => rw [hy] at h; cases h
    | some y =>
      rw [hy] at h
      simp only [Bool.or_eq_true, List.contains_iff_mem, List.any_eq_true] at h
      have hlt := hcl.2 j hL
      have ho : ops[j]? = some ops[j] := by simp [hlt]
      have h2 := List.all_eq_true.1 hpl (ops[j], j) (List.mem_zipIdx_iff_getElem?.2 (by rw [Array.getElem?_toList]; exact ho))
      simp only [hy, Bool.and_eq_true] at h2
      have hal : ∀ i ∈ y.1, L i = true := fun i hi => hcl.1 j _ ho hL i (by simpa using List.all_eq_true.1 h2.1.1 i hi)
      rcases h with h | ⟨i, hi, h⟩
      · exact hal z h
      · exact ih i h (hal i hi)

theorem OwedK.toP {ops : Array Oper} {a0 : Act} {C : World → Prop} {M : Nat → World → World → Prop} {zs : List Nat} {t : List (Value → World → Prop)} {kl : List (List Nat)} (ql : List (List Nat × List (Nat × Nat)))
    (hpl : planOk ops ql = true) (hk : killOk ql kl = true) (hg : ∀ W W', C W → Below W.heap.size W W' → C W')
    (st : ∀ f ∈ t, ∀ v w w', f v w → Below w.heap.size w w' → f v w')
    (sz : ∀ z ∈ zs, ∀ j, j ≠ z → (kl.getD j []).contains z = false → fore ql z ql.length j = false → ∀ v w w', tab t j v w → M z w w' → tab t j v w') :
    ∀ (l : List Oper) (k : Nat) (pl : List (List Nat × List (Nat × Nat))), (∀ i, ql[k + i]? = pl[i]?) → (∀ i, ops[k + i]? = l[i]?) → OwedK P a0 C M zs (tab t) k l pl → OwedP P ops a0 (KillI C t kl) k l pl := by
  intro l
  induction l with
  | nil => intro k pl _ _ _; exact trivial
  | cons o r ih =>
    intro k pl hq ho h
    cases pl with
    | nil => exact False.elim h
    | cons x xs =>
      refine ⟨?_, ih _ _ (fun i => by have := hq (i + 1); simpa [Nat.add_assoc, Nat.add_comm 1 i] using this) (fun i => by have := ho (i + 1); simpa [Nat.add_assoc, Nat.add_comm 1 i] using this) h.2⟩
      intro L V w hl hcl hal ⟨hc, hp⟩
      have hqk : ql[k]? = some x := hq 0
      -- the facts that this operation leans on still stand
      have hlive : ∀ j ∈ x.1, live kl L j = true := by
        intro j hj
        unfold live
        rw [List.all_eq_true]
        intro k' hk'
        have h1 := List.all_eq_true.1 (List.all_eq_true.1 (List.all_eq_true.1 hk (x, k) (List.mem_zipIdx_iff_getElem?.2 hqk)) j hj) k' hk'
        simp only [Bool.or_eq_true, beq_iff_eq] at h1
        rcases h1 with h1 | h1
        · rw [h1, hl]; rfl
        · cases hLk : L k' with
          | false => rfl
          | true =>
            have := fore_done hpl hcl _ _ h1 hLk
            rw [hl] at this; cases this
      have hp' : ∀ j ∈ x.1, tab t j (V j) w := fun j hj => hp j (hal j hj) (hlive j hj)
      have hup : ∀ j, live kl (upd L k) j = true → live kl L j = true ∧ (kl.getD j []).contains k = false := by
        intro j hj
        unfold live at *
        rw [List.all_eq_true] at hj
        refine ⟨?_, ?_⟩
        · rw [List.all_eq_true]
          intro k' hk'
          have := hj k' hk'
          unfold upd at this
          split at this
          · simp at this
          · exact this
        · cases hcn : (kl.getD j []).contains k with
          | false => rfl
          | true =>
            have := hj k (by simpa using hcn)
            simp [upd] at this
      have nextG : ∀ v w', tab t k v w' → Below w.heap.size w w' → KillI C t kl (upd L k) (updV V k v) w' := by
        intro v w' hv hb
        refine ⟨hg _ _ hc hb, fun j hj hjl => ?_⟩
        unfold updV
        by_cases hjk : j = k
        · subst hjk; simpa using hv
        · rw [if_neg hjk]; exact tab_stable (Le := fun w w' => Below w.heap.size w w') st _ _ _ _ (hp j ((upd_true hj).resolve_left hjk) (hup j hjl).1) hb
      have h1 := h.1
      by_cases hz : zs.contains k = true
      · rw [if_pos hz] at h1
        have ob := h1 V w hc hp'
        have nextZ : ∀ v w', tab t k v w' → C w' → M k w w' → KillI C t kl (upd L k) (updV V k v) w' := by
          intro v w' hv hc' hm
          refine ⟨hc', fun j hj hjl => ?_⟩
          unfold updV
          by_cases hjk : j = k
          · subst hjk; simpa using hv
          · rw [if_neg hjk]
            have hLj := (upd_true hj).resolve_left hjk
            refine sz k (by simpa using hz) j hjk (hup j hjl).2 ?_ _ _ _ (hp j hLj (hup j hjl).1) hm
            cases hf : fore ql k ql.length j with
            | false => rfl
            | true =>
              have := fore_done hpl hcl _ _ hf hLj
              rw [hl] at this; cases this
        by_cases hw : wantsG V o.guard = true
        · rw [if_pos hw] at ob ⊢
          generalize (execOp (rhoP x.2 a0 V) (bareOp o.op o.type)).run P w = q at *
          cases q with
          | ok n w' =>
            cases n <;> simp only [ResK] at ob <;> simp only [Res]
            case value v => exact nextZ _ _ ob.1 ob.2.1 ob.2.2
            case skip => exact nextZ _ _ ob.1 ob.2.1 ob.2.2
            case enter f args =>
              refine ob.mono ?_
              rintro e w'' ⟨v, rfl, hv, hb⟩
              exact ⟨v, rfl, nextZ _ _ hv hb.1 hb.2⟩
          | halt x w' => simp only [ResK] at ob
        · rw [if_neg hw] at ob ⊢
          exact nextG _ _ ob (Below.refl _ _)
      · rw [if_neg hz] at h1
        have ob := h1 V w hc hp'
        by_cases hw : wantsG V o.guard = true
        · rw [if_pos hw] at ob ⊢
          generalize (execOp (rhoP x.2 a0 V) (bareOp o.op o.type)).run P w = q at *
          cases q with
          | ok n w' =>
            cases n <;> simp only [ResG] at ob <;> simp only [Res]
            case value v => exact nextG _ _ ob.1 ob.2
            case skip => exact nextG _ _ ob.1 ob.2
            case enter f args =>
              refine ob.mono ?_
              rintro e w'' ⟨v, rfl, hv, hb⟩
              exact ⟨v, rfl, nextG _ _ hv hb⟩
          | halt x w' => simp only [ResG] at ob
        · rw [if_neg hw] at ob ⊢
          exact nextG _ _ ob (Below.refl _ _)

/-- **A region that draws its order, some of whose operations change what others have made.** 'zs': those; 'M': what each leaves; 'kl': for each operation, those that end its fact. -/
theorem wp_region_kill {id : Nat} {ops : Array Oper} {a0 : Act} {w : World} (C : World → Prop) (M : Nat → World → World → Prop) (zs : List Nat) (kl : List (List Nat)) (l : List (Value → World → Prop)) (pl : List (List Nat × List (Nat × Nat)))
    (n : Nat) (hn : a0.tmps.size = n) (hm : P.follows .mixedOrders = true) (hok : regionOk ops n = true) (hpl : planOk ops pl = true) (hk : killOk pl kl = true)
    (hg : ∀ W W', C W → Below W.heap.size W W' → C W') (hC : C w.drew)
    (st : ∀ f ∈ l, ∀ v w w', f v w → Below w.heap.size w w' → f v w')
    (sz : ∀ z ∈ zs, ∀ j, j ≠ z → (kl.getD j []).contains z = false → fore pl z pl.length j = false → ∀ v w w', tab l j v w → M z w w' → tab l j v w')
    (owed : OwedK P a0 C M zs (tab l) 0 ops.toList pl)
    (fin : ∀ (V : Nat → Value) (w : World), C w → (∀ j, j < ops.size → kl.getD j [] = [] → tab l j (V j) w) → Q .normal (putAll V ops.toList 0 a0) w) :
    (Code.region id ops true).wp P Q a0 w :=
  wp_region_inv (KillI C l kl) n hn hm hok ⟨hC, fun _ h => by cases h⟩ (owed_plan pl hpl (OwedK.toP pl hpl hk hg st sz _ _ _ (fun i => by simp) (fun i => by simp) owed)) fun V w h => fin V w h.1 fun j hj hkj => h.2 j (by simpa using hj) (by unfold live; rw [hkj]; rfl)

theorem kill_st {l : List (Value → World → Prop)} {kl : List (List Nat)} {zs : List Nat} {M : Nat → World → World → Prop} (pl : List (List Nat × List (Nat × Nat)))
    (h : ∀ z ∈ zs, ∀ x ∈ l.zipIdx, (x.2 == z || (kl.getD x.2 []).contains z || fore pl z pl.length x.2) = true ∨ ∀ v w w', x.1 v w → M z w w' → x.1 v w') :
    ∀ z ∈ zs, ∀ j, j ≠ z → (kl.getD j []).contains z = false → fore pl z pl.length j = false → ∀ v w w', tab l j v w → M z w w' → tab l j v w' := by
  intro z hz j hjz hk hf v w w' ht hm
  unfold tab at *
  cases hj : l[j]? with
  | none => simp [List.getD_eq_getElem?_getD, hj]
  | some f =>
    simp only [List.getD_eq_getElem?_getD, hj, Option.getD_some] at ht ⊢
    rcases h z hz (f, j) (List.mem_zipIdx_iff_getElem?.2 hj) with h1 | h1
    · simp only [Bool.or_eq_true, beq_iff_eq] at h1
      rcases h1 with (h2 | h2) | h2
      · exact absurd h2 hjz
      · rw [h2] at hk; cases hk
      · rw [h2] at hf; cases hf
    · exact h1 v w w' ht hm
theorem exec_app2 {ρ : Operand → Value} {w : World} (s x : Operand) (t ty e : TypeId) (base : Nat) (z : Value) (size bytes : Nat) (T : SliceT P t e z size bytes) (v : Value) (n : Nat) (xs : List Value) (hs : ρ s = v) (hown : w.ownsRow base e size v n xs)
    (B : Nat) (A : Option Addr) (m c : Nat) (news : List Value) (hx : ρ x = .slice A m c) (hr : Reads w B size A m news) (h1 : ∀ u ∈ news, u.oneCell' = true)
    (hbytes : (n + m) * (bytes + 1) ≤ 140737488355328) (hbase : base ≤ w.heap.size) :
    ∃ v' w', (execOp ρ (bareOp (.call { callee := .builtin .append, args := #[s, x], argTypes := #[t, t] }) ty)).run P w = .ok (.value v') w' ∧ w'.ownsRow base e size v' (n + m) (xs ++ news) ∧ Below base w w' ∧ w.grownBy w' v.ownBlock := by
  obtain ⟨v', w', hrun, h2, h3, h4, h5⟩ := run_app w base t ty e z size bytes T v n xs hown B A m c news hr h1 hbytes hbase
  refine ⟨v', w', ?_, h2, h5, h3⟩
  simp only [execOp, bareOp, resolve, invoke, builtin, Sem.run_bind, Sem.run_pure, Result.andThen_ok, List.map_toArray, List.map_cons, List.map_nil, hs, hx, hrun]
theorem resK_app {C : World → Prop} {M : World → World → Prop} {φ : Value → World → Prop} {ρ : Operand → Value} {w : World} {s x : Operand} {t ty : TypeId} (e : TypeId) (base : Nat) (z : Value) (size bytes : Nat) (T : SliceT P t e z size bytes) (v : Value) (n : Nat) (xs : List Value) (hs : ρ s = v) (hown : w.ownsRow base e size v n xs)
    (B : Nat) (A : Option Addr) (m c : Nat) (news : List Value) (hx : ρ x = .slice A m c) (hr : Reads w B size A m news) (h1 : ∀ u ∈ news, u.oneCell' = true)
    (hbytes : (n + m) * (bytes + 1) ≤ 140737488355328) (hbase : base ≤ w.heap.size)
    (h : ∀ v' w', w'.ownsRow base e size v' (n + m) (xs ++ news) → Below base w w' → w.grownBy w' v.ownBlock → φ v' w' ∧ C w' ∧ M w w') :
    ResK P C M φ w ((execOp ρ (bareOp (.call { callee := .builtin .append, args := #[s, x], argTypes := #[t, t] }) ty)).run P w) := by
  obtain ⟨v', w', hrun, h2, h5, h3⟩ := exec_app2 (ρ := ρ) s x t ty e base z size bytes T v n xs hs hown B A m c news hx hr h1 hbytes hbase
  rw [hrun]
  exact h v' w' h2 h5 h3
theorem isV_any (c : Value) (M : World → World → Prop) : ∀ v w w', isV c v w → M w w' → isV c v w' := fun _ _ _ h _ => h
end
end Go.Proofs.Ytejdbdfofehdpaa
