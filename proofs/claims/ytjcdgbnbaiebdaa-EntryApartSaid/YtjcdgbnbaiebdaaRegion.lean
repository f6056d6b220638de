/-
  A region that draws its order, each of whose operations needs no more than what the operations before it (by its edges) have left: one obligation for each operation, whatever order is drawn. Conditions: what an operation leaves stays true while the others go on.
-/
import Derived.Test.YtjcdgbnbaiebdaaMem
import Derived.Orders
namespace Go.Proofs.Ytjcdgbnbaiebdaa
open Go Go.RowKit

section
variable {P : Program} {Q : Exit → Act → World → Prop}

def dstOf (ops : Array Oper) (j : Nat) : Option Tmp := (ops[j]?).bind (·.dst)
/-- The operations that come before this one in every order. -/
def ahead (o : Oper) : List Nat := (o.after.toList.filter (Region.binds .any)).map (·.on)

/-- What the theorem asks of a region's form. -/
def regionOk (ops : Array Oper) (n : Nat) : Bool :=
  ops.toList.zipIdx.all fun x =>
    (ahead x.1).all (fun j => decide (j < x.2)) &&
    (match x.1.op with | .select .. => false | _ => true) &&
    (match x.1.dst with | some d => decide (d < n) && ops.toList.zipIdx.all (fun y => y.2 == x.2 || y.1.dst != some d) | none => true) &&
    (match x.1.guard with | some (j, _) => (ahead x.1).contains j && (dstOf ops j).isSome | none => true) &&
    ((x.1.looksAt ops).all fun t => ops.toList.zipIdx.all fun y => y.1.dst != some t || (y.2 != x.2 && ((ahead x.1).contains y.2 || (ahead y.1).contains x.2)))

/-- What an operand is when its operation comes up. -/
def rho (ops : Array Oper) (a0 : Act) (V : Nat → Value) (o : Oper) : Operand → Value
  | .tmp t => match (ahead o).find? (fun j => dstOf ops j == some t) with
    | some j => V j
    | none => a0.tmps.getD t undef
  | x => a0.eval x

def wants (V : Nat → Value) (o : Oper) : Bool :=
  match o.guard with
  | none => true
  | some (j, want) => match V j with
    | .bool b => b == want
    | _ => false

def upd (L : Nat → Bool) (i : Nat) : Nat → Bool := fun j => if j = i then true else L j

/-- What an operation's run must come to. -/
def Res (P : Program) (R : Value → World → Prop) : Result Next → Prop
  | .ok (.value v) w' => R v w'
  | .ok .skip w' => R undef w'
  | .ok (.enter f args) w' => Calls P f args w' fun e w'' => ∃ v, e = .returned v ∧ R v w''
  | _ => False

def updV (V : Nat → Value) (i : Nat) (v : Value) : Nat → Value := fun j => if j = i then v else V j
/-- What stands before an operation that is done is done. -/
def Closed (ops : Array Oper) (L : Nat → Bool) : Prop := (∀ j o, ops[j]? = some o → L j = true → ∀ k ∈ ahead o, L k = true) ∧ ∀ j, L j = true → j < ops.size

/-- What is owed for one operation. -/
def Owed (P : Program) (ops : Array Oper) (a0 : Act) (I : (Nat → Bool) → (Nat → Value) → World → Prop) (i : Nat) (o : Oper) : Prop :=
  ∀ (L : Nat → Bool) (V : Nat → Value) (w : World), L i = false → Closed ops L → (∀ k ∈ ahead o, L k = true) → I L V w →
    if wants V o = true then Res P (fun v w' => I (upd L i) (updV V i v) w') ((execOp (rho ops a0 V o) o).run P w) else I (upd L i) (updV V i undef) w

/-- The frame behind the region. -/
def putAll (V : Nat → Value) : List Oper → Nat → Act → Act
  | [], _, a => a
  | o :: r, k, a => putAll V r (k + 1) (a.put o.dst (V k))

structure Inv (ops : Array Oper) (a0 : Act) (I : (Nat → Bool) → (Nat → Value) → World → Prop) (L : Array Bool) (a : Act) (w : World) : Prop where
  size : L.size = ops.size
  closed : ∀ j o, ops[j]? = some o → L.getD j false = true → ∀ k ∈ ahead o, L.getD k false = true
  asz : a.tmps.size = a0.tmps.size
  adef : a.defers = a0.defers
  vals : ∃ V : Nat → Value, (∀ j d, L.getD j false = true → dstOf ops j = some d → a.tmps.getD d undef = V j) ∧
    (∀ t, (∀ j, L.getD j false = true → dstOf ops j ≠ some t) → a.tmps.getD t undef = a0.tmps.getD t undef) ∧ I (fun j => L.getD j false) V w

theorem regionOk_at {ops : Array Oper} {n : Nat} (h : regionOk ops n = true) {i : Nat} {o : Oper} (hi : ops[i]? = some o) :
    (∀ j ∈ ahead o, j < i) ∧ (∀ cs b, o.op ≠ .select cs b) ∧ (∀ d, o.dst = some d → d < n ∧ ∀ j p, ops[j]? = some p → j ≠ i → p.dst ≠ some d) ∧
    (∀ j want, o.guard = some (j, want) → j ∈ ahead o ∧ ∃ d, dstOf ops j = some d) ∧
    (∀ t ∈ o.looksAt ops, ∀ j p, ops[j]? = some p → p.dst = some t → j ≠ i ∧ (j ∈ ahead o ∨ i ∈ ahead p)) := by
  have mem : ∀ {j : Nat} {p : Oper}, ops[j]? = some p → (p, j) ∈ ops.toList.zipIdx := fun {j p} hj => List.mem_zipIdx_iff_getElem?.2 (by simpa using hj)
  have h1 := List.all_eq_true.1 h _ (mem hi)
  simp only [Bool.and_eq_true] at h1
  obtain ⟨⟨⟨⟨h1, h2⟩, h3⟩, h4⟩, h5⟩ := h1
  refine ⟨fun j hj => by simpa using List.all_eq_true.1 h1 j hj, ?_, ?_, ?_, ?_⟩
  · intro cs b he
    rw [he] at h2
    cases h2
  · intro d hd
    rw [hd] at h3
    simp only [Bool.and_eq_true, decide_eq_true_eq] at h3
    refine ⟨h3.1, fun j p hj hne => ?_⟩
    have := List.all_eq_true.1 h3.2 _ (mem hj)
    simp only [Bool.or_eq_true, beq_iff_eq, bne_iff_ne] at this
    exact this.resolve_left hne
  · intro j want hg
    rw [hg] at h4
    simp only [Bool.and_eq_true, List.contains_iff_mem] at h4
    exact ⟨h4.1, Option.isSome_iff_exists.1 h4.2⟩
  · intro t ht j p hj hd
    have := List.all_eq_true.1 (List.all_eq_true.1 h5 t ht) _ (mem hj)
    simp only [hd, Bool.or_eq_true, Bool.and_eq_true, bne_iff_ne, List.contains_iff_mem] at this
    rcases this with h | h
    · exact absurd rfl h
    · exact h

theorem dstOf_some {ops : Array Oper} {j : Nat} {d : Tmp} (h : dstOf ops j = some d) : ∃ p, ops[j]? = some p ∧ p.dst = some d := by
  unfold dstOf at h
  cases hp : ops[j]? with
  | none => rw [hp] at h; cases h
  | some p => rw [hp] at h; exact ⟨p, rfl, h⟩

theorem mem_ahead {o : Oper} {k : Nat} : k ∈ ahead o ↔ ∃ e ∈ o.after, Region.binds .any e = true ∧ e.on = k := by
  simp [ahead, and_assoc]

theorem eval_rho {ops : Array Oper} {a0 a : Act} {L : Array Bool} {V : Nat → Value} {i : Nat} {o : Oper}
    (hok : regionOk ops a0.tmps.size = true) (hi : ops[i]? = some o) (hl : L.getD i false = false) (hp : ∀ k ∈ ahead o, L.getD k false = true)
    (closed : ∀ j o, ops[j]? = some o → L.getD j false = true → ∀ k ∈ ahead o, L.getD k false = true)
    (h1 : ∀ j d, L.getD j false = true → dstOf ops j = some d → a.tmps.getD d undef = V j)
    (h2 : ∀ t, (∀ j, L.getD j false = true → dstOf ops j ≠ some t) → a.tmps.getD t undef = a0.tmps.getD t undef) :
    ∀ x ∈ o.op.operands, a.eval x = rho ops a0 V o x := by
  obtain ⟨k1, k2, k3, k4, k5⟩ := regionOk_at hok hi
  intro x hx
  cases x with
  | tmp t =>
    have ht : t ∈ o.looksAt ops := List.mem_append_left _ (List.mem_filterMap.2 ⟨.tmp t, by simpa using hx, rfl⟩)
    show a.tmps.getD t undef = rho ops a0 V o (.tmp t)
    cases hf : (ahead o).find? (fun j => dstOf ops j == some t) with
    | some j =>
      have hj := List.find?_some hf
      have hm := List.mem_of_find?_eq_some hf
      simp only [beq_iff_eq] at hj
      simp only [rho, hf]
      exact h1 j t (hp j hm) hj
    | none =>
      simp only [rho, hf]
      refine h2 t fun j hj hd => ?_
      obtain ⟨p, hpj, hpd⟩ := dstOf_some hd
      obtain ⟨hne, hor⟩ := k5 t ht j p hpj hpd
      rcases hor with hor | hor
      · have := List.find?_eq_none.1 hf j hor
        simp [hd] at this
      · have := closed j p hpj hj i hor
        rw [hl] at this
        cases this
  | const v => rfl
  | global g => rfl
  | func f => rfl

theorem wants_eq {ops : Array Oper} {a0 a : Act} {L : Array Bool} {V : Nat → Value} {i : Nat} {o : Oper}
    (hok : regionOk ops a0.tmps.size = true) (hi : ops[i]? = some o) (hp : ∀ k ∈ ahead o, L.getD k false = true) (hsz : a.tmps.size = a0.tmps.size)
    (h1 : ∀ j d, L.getD j false = true → dstOf ops j = some d → a.tmps.getD d undef = V j) :
    Region.wanted o (yielded ops a.tmps) = wants V o := by
  obtain ⟨k1, k2, k3, k4, k5⟩ := regionOk_at hok hi
  unfold Region.wanted wants
  cases hg : o.guard with
  | none => rfl
  | some gw =>
    obtain ⟨j, want⟩ := gw
    obtain ⟨hj, d, hd⟩ := k4 j want hg
    have hv := h1 j d (hp j hj) hd
    obtain ⟨p, hpj, hpd⟩ := dstOf_some hd
    have hlt : d < a.tmps.size := by rw [hsz]; exact ((regionOk_at hok hpj).2.2.1 d hpd).1
    have hy : yielded ops a.tmps j = match V j with | .bool b => some b | _ => none := by
      unfold yielded
      unfold dstOf at hd
      rw [hd]
      have : a.tmps[d]? = some (V j) := by rw [← hv]; simp [hlt]
      show (match a.tmps[d]? with | some (.bool b) => some b | _ => none) = _
      rw [this]
      cases V j <;> rfl
    simp only [hy]
    cases V j <;> simp

theorem inv_put {ops : Array Oper} {a0 a : Act} {I : (Nat → Bool) → (Nat → Value) → World → Prop} {L : Array Bool} {w' : World} {V : Nat → Value} {i : Nat} {o : Oper} {v : Value}
    (hok : regionOk ops a0.tmps.size = true) (hi : ops[i]? = some o) (hl : L.getD i false = false) (hp : ∀ k ∈ ahead o, L.getD k false = true)
    (hsz : L.size = ops.size) (closed : ∀ j o, ops[j]? = some o → L.getD j false = true → ∀ k ∈ ahead o, L.getD k false = true)
    (asz : a.tmps.size = a0.tmps.size) (adef : a.defers = a0.defers)
    (h1 : ∀ j d, L.getD j false = true → dstOf ops j = some d → a.tmps.getD d undef = V j)
    (h2 : ∀ t, (∀ j, L.getD j false = true → dstOf ops j ≠ some t) → a.tmps.getD t undef = a0.tmps.getD t undef)
    (hI : I (upd (fun j => L.getD j false) i) (updV V i v) w') :
    Inv ops a0 I (L.setIfInBounds i true) (a.put o.dst v) w' := by
  obtain ⟨k1, k2, k3, k4, k5⟩ := regionOk_at hok hi
  have hlt : i < L.size := by rw [hsz]; exact (Array.getElem?_eq_some_iff.1 hi).1
  have hL : ∀ j, (L.setIfInBounds i true).getD j false = upd (fun j => L.getD j false) i j := by
    intro j
    unfold upd
    by_cases hj : j = i
    · subst hj; simp [hlt]
    · rw [if_neg hj, getD_set_ne _ (fun e => hj e.symm)]
  have hL' : ∀ j, (L.setIfInBounds i true).getD j false = true → j = i ∨ L.getD j false = true := by
    intro j hj
    rw [hL j] at hj
    unfold upd at hj
    by_cases hji : j = i
    · exact .inl hji
    · rw [if_neg hji] at hj; exact .inr hj
  refine ⟨by simpa using hsz, ?_, ?_, ?_, ⟨fun j => if j = i then v else V j, ?_, ?_, ?_⟩⟩
  · intro j p hpj hj k hk
    rcases hL' j hj with rfl | hj
    · rw [hi] at hpj
      injection hpj with hpj
      subst hpj
      exact getD_set_true (hp k hk)
    · exact getD_set_true (closed j p hpj hj k hk)
  · rw [← asz]
    cases o.dst <;> simp [Act.put]
  · rw [← adef]
    cases o.dst <;> rfl
  · intro j d hj hd
    by_cases hji : j = i
    · subst hji
      obtain ⟨p, hpj, hpd⟩ := dstOf_some hd
      rw [hi] at hpj
      injection hpj with hpj
      subst hpj
      have := (k3 d hpd).1
      rw [hpd]
      simp [Act.put, asz, this]
    · show _ = if j = i then v else V j
      rw [if_neg hji]
      have hj2 := (hL' j hj).resolve_left hji
      rw [← h1 j d hj2 hd]
      cases ho : o.dst with
      | none => rfl
      | some e =>
        obtain ⟨p, hpj, hpd⟩ := dstOf_some hd
        have hne : e ≠ d := by
          rintro rfl
          exact (k3 e ho).2 j p hpj hji hpd
        simp [Act.put, Array.getElem?_setIfInBounds_ne hne]
  · intro t ht
    have hti : dstOf ops i ≠ some t := ht i (by rw [hL]; simp [upd])
    rw [← h2 t fun j hj => ht j (getD_set_true hj)]
    cases ho : o.dst with
    | none => rfl
    | some e =>
      have hne : e ≠ t := by
        rintro rfl
        exact hti (by unfold dstOf; rw [hi]; exact ho)
      simp [Act.put, Array.getElem?_setIfInBounds_ne hne]
  · have : (fun j => (L.setIfInBounds i true).getD j false) = upd (fun j => L.getD j false) i := funext hL
    rw [this]
    exact hI

theorem inv_step {ops : Array Oper} {a0 a : Act} {I : (Nat → Bool) → (Nat → Value) → World → Prop} {L : Array Bool} {w : World} {i : Nat}
    (hok : regionOk ops a0.tmps.size = true) (owed : ∀ i o, ops[i]? = some o → Owed P ops a0 I i o)
    (h : Inv ops a0 I L a w) (hr : i ∈ Region.ready .any ops L) : wpOp P ops Q i (Inv ops a0 I (L.setIfInBounds i true)) a w := by
  obtain ⟨hl0, o, hi, hp0⟩ := mem_ready.1 hr
  have hsz := h.size
  have hlt : i < L.size := by rw [hsz]; exact (Array.getElem?_eq_some_iff.1 hi).1
  have hl : L.getD i false = false := by simpa [hlt] using hl0
  have hp : ∀ k ∈ ahead o, L.getD k false = true := by
    intro k hk
    obtain ⟨e, he, hb, rfl⟩ := mem_ahead.1 hk
    exact hp0 e he hb
  obtain ⟨V, h1, h2, h3⟩ := h.vals
  have k2 := (regionOk_at hok hi).2.1
  have hev := eval_rho hok hi hl hp h.closed h1 h2
  have hw := wants_eq hok hi hp h.asz h1
  have hex : execOp a.eval o = execOp (rho ops a0 V o) o := execOp_congr o k2 hev
  have hlt2 : ∀ j, L.getD j false = true → j < ops.size := by
    intro j hj
    by_cases h5 : j < L.size
    · omega
    · simp [h5] at hj
  have ob := owed i o hi (fun j => L.getD j false) V w hl ⟨h.closed, hlt2⟩ hp h3
  unfold wpOp
  simp only [hi]
  rw [hw]
  by_cases hwt : wants V o = true
  · rw [if_pos hwt] at ob ⊢
    refine .inl ?_
    unfold Oper.wp
    rw [hex]
    generalize (execOp (rho ops a0 V o) o).run P w = r at *
    have put : ∀ v w', I (upd (fun j => L.getD j false) i) (updV V i v) w' → Inv ops a0 I (L.setIfInBounds i true) (a.put o.dst v) w' := fun v w' hv =>
      inv_put hok hi hl hp hsz h.closed h.asz h.adef h1 h2 hv
    cases r with
    | ok n w' =>
      cases n <;> simp only [Res] at ob <;> simp only [Oper.upon]
      case value v => exact put _ _ ob
      case skip => exact put _ _ ob
      case enter f args =>
        refine ob.mono ?_
        rintro e w'' ⟨v, rfl, hv⟩
        exact put _ _ hv
    | halt x w' => simp only [Res] at ob
  · rw [if_neg hwt] at ob ⊢
    exact inv_put hok hi hl hp hsz h.closed h.asz h.adef h1 h2 ob

theorem putAll_at (V : Nat → Value) : ∀ (l : List Oper) (k : Nat) (a : Act), (putAll V l k a).tmps.size = a.tmps.size ∧ (putAll V l k a).defers = a.defers ∧
    (∀ t, (∀ (j : Nat) (o : Oper), l[j]? = some o → o.dst ≠ some t) → (putAll V l k a).tmps.getD t undef = a.tmps.getD t undef) ∧
    (∀ (j : Nat) (o : Oper) (t : Tmp), l[j]? = some o → o.dst = some t → t < a.tmps.size → (∀ (j' : Nat) (o' : Oper), l[j']? = some o' → j' ≠ j → o'.dst ≠ some t) → (putAll V l k a).tmps.getD t undef = V (k + j)) := by
  intro l
  induction l with
  | nil => intro k a; exact ⟨rfl, rfl, fun _ _ => rfl, fun j o t h => by simp at h⟩
  | cons o r ih =>
    intro k a
    obtain ⟨i1, i2, i3, i4⟩ := ih (k + 1) (a.put o.dst (V k))
    have hs : (a.put o.dst (V k)).tmps.size = a.tmps.size := by cases o.dst <;> simp [Act.put]
    refine ⟨i1.trans hs, i2.trans (by cases o.dst <;> rfl), fun t ht => ?_, fun j p t hj hd hlt hu => ?_⟩
    · show (putAll V r (k + 1) (a.put o.dst (V k))).tmps.getD t undef = _
      rw [i3 t fun j p hj => ht (j + 1) p (by simpa using hj)]
      have h0 := ht 0 o (by simp)
      cases ho : o.dst with
      | none => rfl
      | some e =>
        have hne : e ≠ t := by rintro rfl; exact h0 ho
        simp [Act.put, Array.getElem?_setIfInBounds_ne hne]
    · show (putAll V r (k + 1) (a.put o.dst (V k))).tmps.getD t undef = _
      cases j with
      | zero =>
        simp at hj
        subst hj
        rw [i3 t fun j p hj => hu (j + 1) p (by simpa using hj) (by omega), hd]
        simp [Act.put, hlt]
      | succ j =>
        have := i4 j p t (by simpa using hj) hd (by rw [hs]; exact hlt) fun j' o' hj' hne => hu (j' + 1) o' (by simpa using hj') (by omega)
        rw [this]
        congr 1
        omega

theorem all_listed {ops : Array Oper} {n : Nat} {L : Array Bool} (hok : regionOk ops n = true) (hsz : L.size = ops.size) (hr : Region.ready .any ops L = []) : ∀ i, i < ops.size → L.getD i false = true := by
  intro i
  induction i using Nat.strongRecOn with
  | _ i ih =>
    intro hi
    by_cases h : L.getD i false = true
    · exact h
    · exfalso
      have ho : ops[i]? = some ops[i] := by simp [hi]
      have : i ∈ Region.ready .any ops L := by
        refine mem_ready.2 ⟨?_, _, ho, fun e he hb => ?_⟩
        · have hlt : i < L.size := by omega
          simpa [hlt] using h
        · have hk : e.on ∈ ahead ops[i] := mem_ahead.2 ⟨e, he, hb, rfl⟩
          have hlt := (regionOk_at hok ho).1 _ hk
          exact ih _ hlt (by omega)
      rw [hr] at this
      cases this

theorem inv_all {ops : Array Oper} {a0 : Act} {I : (Nat → Bool) → (Nat → Value) → World → Prop}
    (hok : regionOk ops a0.tmps.size = true) (owed : ∀ i o, ops[i]? = some o → Owed P ops a0 I i o)
    (fin : ∀ (V : Nat → Value) (w : World), I (fun j => decide (j < ops.size)) V w → Q .normal (putAll V ops.toList 0 a0) w) :
    ∀ (fuel : Nat) (L : Array Bool) (a : Act) (w : World), L.toList.count false ≤ fuel → Inv ops a0 I L a w → wpAny P .any ops Q fuel L a w := by
  have done : ∀ (L : Array Bool) (a : Act) (w : World), Inv ops a0 I L a w → Region.ready .any ops L = [] → Q .normal a w := by
    intro L a w h hr
    have hall := all_listed hok h.size hr
    obtain ⟨V, h1, h2, h3⟩ := h.vals
    have hLf : (fun j => L.getD j false) = fun j => decide (j < ops.size) := by
      funext j
      by_cases hj : j < ops.size
      · rw [hall j hj]; simp [hj]
      · have : ¬ j < L.size := by rw [h.size]; exact hj
        simp [hj, this]
    rw [hLf] at h3
    have hq := fin V w h3
    obtain ⟨p1, p2, p3, p4⟩ := putAll_at V ops.toList 0 a0
    have ha : a = putAll V ops.toList 0 a0 := by
      have e2 : a.defers = (putAll V ops.toList 0 a0).defers := h.adef.trans p2.symm
      have e1 : a.tmps = (putAll V ops.toList 0 a0).tmps := by
        apply Array.ext
        · rw [h.asz, p1]
        · intro t ht1 ht2
          have g1 : a.tmps[t] = a.tmps.getD t undef := by simp [ht1]
          have g2 : (putAll V ops.toList 0 a0).tmps[t] = (putAll V ops.toList 0 a0).tmps.getD t undef := by simp [ht2]
          rw [g1, g2]
          by_cases hex : ∃ j, j < ops.size ∧ dstOf ops j = some t
          · obtain ⟨j, hj, hd⟩ := hex
            obtain ⟨p, hpj, hpd⟩ := dstOf_some hd
            rw [h1 j t (hall j hj) hd]
            have h5 := p4 j p t (by simpa using hpj) hpd (by rw [← h.asz]; exact ht1) fun j' o' hj' hne hd' => (regionOk_at hok hpj).2.2.1 t hpd |>.2 j' o' (by simpa using hj') hne hd'
            rw [h5, Nat.zero_add]
          · rw [h2 t fun j hj hd => hex ⟨j, ?_, hd⟩, p3 t fun j o hj hd => hex ⟨j, ?_, ?_⟩]
            · have := (List.getElem?_eq_some_iff.1 hj).1
              simpa using this
            · unfold dstOf
              have hj' : ops[j]? = some o := by simpa using hj
              rw [hj']
              exact hd
            · obtain ⟨p, hpj, _⟩ := dstOf_some hd
              exact (Array.getElem?_eq_some_iff.1 hpj).1
      calc a = ⟨a.tmps, a.defers⟩ := rfl
        _ = _ := by rw [e1, e2]
    rw [ha]
    exact hq
  intro fuel
  induction fuel with
  | zero =>
    intro L a w hcnt h
    have hr : Region.ready .any ops L = [] := by
      apply List.eq_nil_iff_forall_not_mem.2
      intro i hi
      obtain ⟨hl0, o, ho, _⟩ := mem_ready.1 hi
      have hlt : i < L.size := by rw [h.size]; exact (Array.getElem?_eq_some_iff.1 ho).1
      have hf : L[i] = false := by simpa [hlt] using hl0
      have : false ∈ L.toList := by rw [← hf]; simp
      have := List.count_pos_iff.2 this
      omega
    exact ⟨hr, done L a w h hr⟩
  | succ fuel ih =>
    intro L a w hcnt h
    refine ⟨done L a w h, fun i hi => ?_⟩
    refine wpOp_mono (fun a' w' h' => ih _ a' w' ?_ h') (inv_step hok owed h hi)
    obtain ⟨hl0, o, ho, _⟩ := mem_ready.1 hi
    have hlt : i < L.size := by rw [h.size]; exact (Array.getElem?_eq_some_iff.1 ho).1
    have hf : L[i] = false := by simpa [hlt] using hl0
    have hpos : 0 < L.toList.count false := List.count_pos_iff.2 (by rw [← hf]; simp)
    rw [Array.toList_setIfInBounds, List.count_set (by simpa using hlt)]
    have e1 : (L.toList[i]'(by simpa using hlt) == false) = true := by simp [hf]
    rw [if_pos e1, if_neg (by decide)]
    omega

/-- **A region that draws its order, one obligation for each operation.** -/
theorem wp_region_inv {id : Nat} {ops : Array Oper} {a0 : Act} {w : World} (I : (Nat → Bool) → (Nat → Value) → World → Prop)
    (n : Nat) (hn : a0.tmps.size = n) (hm : P.follows .mixedOrders = true) (hok : regionOk ops n = true)
    (hI : I (fun _ => false) (fun _ => undef) w.drew) (owed : ∀ i o, ops[i]? = some o → Owed P ops a0 I i o)
    (fin : ∀ (V : Nat → Value) (w : World), I (fun j => decide (j < ops.size)) V w → Q .normal (putAll V ops.toList 0 a0) w) :
    (Code.region id ops true).wp P Q a0 w := by
  subst hn
  refine wp_region_any hm (inv_all hok owed fin _ _ _ _ ?_ ⟨by simp, ?_, rfl, rfl, ⟨fun _ => undef, ?_, fun _ _ => rfl, ?_⟩⟩)
  · refine Nat.le_trans List.count_le_length ?_
    simp
  · intro j o ho hj
    have hlt : j < ops.size := (Array.getElem?_eq_some_iff.1 ho).1
    simp [hlt] at hj
  · intro j d hj hd
    by_cases hlt : j < ops.size <;> simp [hlt] at hj
  · have : (fun j => (Array.replicate ops.size false).getD j false) = fun _ => false := by
      funext j
      by_cases hlt : j < ops.size <;> simp [hlt]
    rw [this]
    exact hI

/-- A region's facts, one for each operation. -/
def tab (l : List (Value → World → Prop)) (i : Nat) (v : Value) (w : World) : Prop := (l.getD i (fun _ _ => True)) v w
theorem tab_zero (f : Value → World → Prop) (l : List (Value → World → Prop)) (v : Value) (w : World) : tab (f :: l) 0 v w = f v w := rfl
theorem tab_succ (f : Value → World → Prop) (l : List (Value → World → Prop)) (n : Nat) (v : Value) (w : World) : tab (f :: l) (n + 1) v w = tab l n v w := rfl
theorem tab_stable {Le : World → World → Prop} {l : List (Value → World → Prop)} (h : ∀ f ∈ l, ∀ v w w', f v w → Le w w' → f v w') : ∀ j v w w', tab l j v w → Le w w' → tab l j v w' := by
  intro j v w w' hf hle
  unfold tab at *
  by_cases hj : j < l.length
  · simp only [List.getD_eq_getElem?_getD, List.getElem?_eq_getElem hj, Option.getD_some] at *
    exact h _ (List.getElem_mem hj) v w w' hf hle
  · simp only [List.getD_eq_getElem?_getD, List.getElem?_eq_none (Nat.le_of_not_lt hj), Option.getD_none]

/-- What an operand is, by the list of those slots that operations of the region have written: the slot, the operation. -/
def rhoP (rd : List (Nat × Nat)) (a0 : Act) (V : Nat → Value) : Operand → Value
  | .tmp t => match rd.lookup t with
    | some j => V j
    | none => a0.tmps.getD t undef
  | x => a0.eval x
def wantsG (V : Nat → Value) : Option (Nat × Bool) → Bool
  | none => true
  | some (j, want) => match V j with
    | .bool b => b == want
    | _ => false
def bareOp (op : Op) (ty : TypeId) : Oper := { dst := none, op := op, type := ty, pos := "", after := #[], guard := none }

/-- What is owed for one operation: 'al': the operations on whose facts it leans; 'rd': whose slots it reads. -/
def OwedE (P : Program) (ops : Array Oper) (a0 : Act) (I : (Nat → Bool) → (Nat → Value) → World → Prop) (k : Nat) (op : Op) (ty : TypeId) (gd : Option (Nat × Bool)) (al : List Nat) (rd : List (Nat × Nat)) : Prop :=
  ∀ (L : Nat → Bool) (V : Nat → Value) (w : World), L k = false → Closed ops L → (∀ j ∈ al, L j = true) → I L V w →
    if wantsG V gd = true then Res P (fun v w' => I (upd L k) (updV V k v) w') ((execOp (rhoP rd a0 V) (bareOp op ty)).run P w) else I (upd L k) (updV V k undef) w

def OwedP (P : Program) (ops : Array Oper) (a0 : Act) (I : (Nat → Bool) → (Nat → Value) → World → Prop) : Nat → List Oper → List (List Nat × List (Nat × Nat)) → Prop
  | _, [], _ => True
  | _, _ :: _, [] => False
  | k, o :: r, x :: xs => OwedE P ops a0 I k o.op o.type o.guard x.1 x.2 ∧ OwedP P ops a0 I (k + 1) r xs

def planOk (ops : Array Oper) (pl : List (List Nat × List (Nat × Nat))) : Bool :=
  ops.toList.zipIdx.all fun x => match pl[x.2]? with
    | none => false
    | some (al, rd) => al.all (fun j => (ahead x.1).contains j) &&
      (match x.1.op with | .select .. => false | _ => true) &&
      (x.1.op.operands.toList.all fun y => match y with
        | .tmp t => (ahead x.1).find? (fun j => dstOf ops j == some t) == rd.lookup t
        | _ => true)

theorem execOp_bare (ρ : Operand → Value) (o : Oper) : execOp ρ o = execOp ρ (bareOp o.op o.type) := by
  cases o with
  | mk dst op type pos after guard => cases op <;> rfl

theorem owed_plan {ops : Array Oper} {a0 : Act} {I : (Nat → Bool) → (Nat → Value) → World → Prop} (pl : List (List Nat × List (Nat × Nat)))
    (hok : planOk ops pl = true) (h : OwedP P ops a0 I 0 ops.toList pl) : ∀ i o, ops[i]? = some o → Owed P ops a0 I i o := by
  have key : ∀ (l : List Oper) (k : Nat) (q : List (List Nat × List (Nat × Nat))), OwedP P ops a0 I k l q → ∀ (i : Nat) (o : Oper), l[i]? = some o → ∃ x, q[i]? = some x ∧ OwedE P ops a0 I (k + i) o.op o.type o.guard x.1 x.2 := by
    intro l
    induction l with
    | nil => intro k q _ i o hi; simp at hi
    | cons p r ih =>
      intro k q hk i o hi
      cases q with
      | nil => exact False.elim hk
      | cons x xs =>
        cases i with
        | zero => simp at hi; subst hi; exact ⟨x, rfl, hk.1⟩
        | succ i =>
          obtain ⟨y, hy, he⟩ := ih (k + 1) xs hk.2 i o (by simpa using hi)
          exact ⟨y, by simpa using hy, by rwa [show k + (i + 1) = k + 1 + i by omega]⟩
  intro i o hi
  obtain ⟨⟨al, rd⟩, hx, he⟩ := key _ 0 pl h i o (by simpa using hi)
  rw [Nat.zero_add] at he
  have h1 := List.all_eq_true.1 hok (o, i) (List.mem_zipIdx_iff_getElem?.2 (by simpa using hi))
  simp only [hx, Bool.and_eq_true] at h1
  obtain ⟨⟨h1, h2⟩, h3⟩ := h1
  intro L V w hl hcl hL hc
  have hal : ∀ j ∈ al, j ∈ ahead o := fun j hj => by simpa using List.all_eq_true.1 h1 j hj
  have ob := he L V w hl hcl (fun j hj => hL j (hal j hj)) hc
  have hw : wants V o = wantsG V o.guard := by unfold wants wantsG; rfl
  have hex : execOp (rho ops a0 V o) o = execOp (rhoP rd a0 V) (bareOp o.op o.type) := by
    rw [← execOp_bare]
    refine execOp_congr o (fun cs b e => by rw [e] at h2; cases h2) fun y hy => ?_
    have h4 := List.all_eq_true.1 h3 y (by simpa using hy)
    cases y with
    | tmp t =>
      simp only [beq_iff_eq] at h4
      simp only [rho, rhoP, h4]
    | const v => rfl
    | global g => rfl
    | func f => rfl
  rw [hw, hex]
  exact ob

/-- What an operation's run must come to, where the region only makes memory. -/
def ResG (P : Program) (φ : Value → World → Prop) (w : World) : Result Next → Prop
  | .ok (.value v) w' => φ v w' ∧ Below w.heap.size w w'
  | .ok .skip w' => φ undef w' ∧ Below w.heap.size w w'
  | .ok (.enter f args) w' => Calls P f args w' fun e w'' => ∃ v, e = .returned v ∧ φ v w'' ∧ Below w.heap.size w w''
  | _ => False
def OwedG (P : Program) (a0 : Act) (C : World → Prop) (φ : Nat → Value → World → Prop) (k : Nat) (op : Op) (ty : TypeId) (gd : Option (Nat × Bool)) (al : List Nat) (rd : List (Nat × Nat)) : Prop :=
  ∀ (V : Nat → Value) (w : World), C w → (∀ j ∈ al, φ j (V j) w) → if wantsG V gd = true then ResG P (φ k) w ((execOp (rhoP rd a0 V) (bareOp op ty)).run P w) else φ k undef w
def OwedQ (P : Program) (a0 : Act) (C : World → Prop) (φ : Nat → Value → World → Prop) : Nat → List Oper → List (List Nat × List (Nat × Nat)) → Prop
  | _, [], _ => True
  | _, _ :: _, [] => False
  | k, o :: r, x :: xs => OwedG P a0 C φ k o.op o.type o.guard x.1 x.2 ∧ OwedQ P a0 C φ (k + 1) r xs

/-- What holds while a region that only makes memory goes on. -/
def GrowI (C : World → Prop) (l : List (Value → World → Prop)) (L : Nat → Bool) (V : Nat → Value) (w : World) : Prop := C w ∧ ∀ j, L j = true → tab l j (V j) w

theorem upd_true {L : Nat → Bool} {i j : Nat} (h : upd L i j = true) : j = i ∨ L j = true := by
  unfold upd at h
  by_cases hj : j = i
  · exact .inl hj
  · rw [if_neg hj] at h; exact .inr h

theorem OwedQ.toP {ops : Array Oper} {a0 : Act} {C : World → Prop} {t : List (Value → World → Prop)} (hg : ∀ W W', C W → Below W.heap.size W W' → C W')
    (st : ∀ f ∈ t, ∀ v w w', f v w → Below w.heap.size w w' → f v w') :
    ∀ (l : List Oper) (k : Nat) (pl : List (List Nat × List (Nat × Nat))), OwedQ P a0 C (tab t) k l pl → OwedP P ops a0 (GrowI C t) k l pl := by
  intro l
  induction l with
  | nil => intro k pl _; exact trivial
  | cons o r ih =>
    intro k pl h
    cases pl with
    | nil => exact False.elim h
    | cons x xs =>
      refine ⟨?_, ih _ _ h.2⟩
      intro L V w _ _ hal ⟨hc, hp⟩
      have ob := h.1 V w hc fun j hj => hp j (hal j hj)
      have next : ∀ v w', tab t k v w' → Below w.heap.size w w' → GrowI C t (upd L k) (updV V k v) w' := by
        intro v w' hv hb
        refine ⟨hg _ _ hc hb, fun j hj => ?_⟩
        unfold updV
        by_cases hjk : j = k
        · subst hjk; simpa using hv
        · rw [if_neg hjk]; exact tab_stable (Le := fun w w' => Below w.heap.size w w') st _ _ _ _ (hp j ((upd_true hj).resolve_left hjk)) hb
      by_cases hw : wantsG V o.guard = true
      · rw [if_pos hw] at ob ⊢
        generalize (execOp (rhoP x.2 a0 V) (bareOp o.op o.type)).run P w = q at *
        cases q with
        | ok n w' =>
          cases n <;> simp only [ResG] at ob <;> simp only [Res]
          case value v => exact next _ _ ob.1 ob.2
          case skip => exact next _ _ ob.1 ob.2
          case enter f args =>
            refine ob.mono ?_
            rintro e w'' ⟨v, rfl, hv, hb⟩
            exact ⟨v, rfl, next _ _ hv hb⟩
        | halt x w' => simp only [ResG] at ob
      · rw [if_neg hw] at ob ⊢
        exact next _ _ ob (Below.refl _ _)

/-- **A region that draws its order and only makes memory.** -/
theorem wp_region_grow {id : Nat} {ops : Array Oper} {a0 : Act} {w : World} (C : World → Prop) (l : List (Value → World → Prop)) (pl : List (List Nat × List (Nat × Nat)))
    (n : Nat) (hn : a0.tmps.size = n) (hm : P.follows .mixedOrders = true) (hok : regionOk ops n = true) (hpl : planOk ops pl = true)
    (hg : ∀ W W', C W → Below W.heap.size W W' → C W') (hC : C w.drew)
    (st : ∀ f ∈ l, ∀ v w w', f v w → Below w.heap.size w w' → f v w')
    (owed : OwedQ P a0 C (tab l) 0 ops.toList pl)
    (fin : ∀ (V : Nat → Value) (w : World), C w → (∀ j, j < ops.size → tab l j (V j) w) → Q .normal (putAll V ops.toList 0 a0) w) :
    (Code.region id ops true).wp P Q a0 w :=
  wp_region_inv (GrowI C l) n hn hm hok ⟨hC, fun _ h => by cases h⟩ (owed_plan pl hpl (OwedQ.toP hg st _ _ _ owed)) fun V w h => fin V w h.1 fun j hj => h.2 j (by simpa using hj)

/-- What an operation's run must come to, that may change memory and comes behind all those before it. -/
def ResZ (P : Program) (C : World → Prop) (φ : Value → World → Prop) : Result Next → Prop
  | .ok (.value v) w' => φ v w' ∧ C w'
  | .ok .skip w' => φ undef w' ∧ C w'
  | .ok (.enter f args) w' => Calls P f args w' fun e w'' => ∃ v, e = .returned v ∧ φ v w'' ∧ C w''
  | _ => False
def OwedZ (P : Program) (a0 : Act) (C : World → Prop) (φ : Nat → Value → World → Prop) (k : Nat) (op : Op) (ty : TypeId) (gd : Option (Nat × Bool)) (al : List Nat) (rd : List (Nat × Nat)) : Prop :=
  ∀ (V : Nat → Value) (w : World), C w → (∀ j ∈ al, φ j (V j) w) → if wantsG V gd = true then ResZ P C (φ k) ((execOp (rhoP rd a0 V) (bareOp op ty)).run P w) else φ k undef w
def OwedL (P : Program) (a0 : Act) (C : World → Prop) (φ : Nat → Value → World → Prop) (z : Nat) : Nat → List Oper → List (List Nat × List (Nat × Nat)) → Prop
  | _, [], _ => True
  | _, _ :: _, [] => False
  | k, o :: r, x :: xs => (if k = z then OwedZ P a0 C φ k o.op o.type o.guard x.1 x.2 else OwedG P a0 C φ k o.op o.type o.guard x.1 x.2) ∧ OwedL P a0 C φ z (k + 1) r xs
/-- The operation z comes behind all those before it, and ahead of those behind it. -/
def lastOk (ops : Array Oper) (z : Nat) (pl : List (List Nat × List (Nat × Nat))) : Bool :=
  decide (z < ops.size) &&
  ops.toList.zipIdx.all (fun x => if x.2 < z then ops.toList.zipIdx.any fun y => decide (x.2 < y.2) && decide (y.2 ≤ z) && (ahead y.1).contains x.2 else true) &&
  ops.toList.zipIdx.all (fun x => if z < x.2 then (ahead x.1).any (fun k => decide (z ≤ k)) && (pl.getD x.2 ([], [])).1.all (fun k => decide (z ≤ k)) && decide (∀ k ∈ ahead x.1, k < x.2) else true)
/-- What holds while such a region goes on. -/
def LastI (C : World → Prop) (l : List (Value → World → Prop)) (z : Nat) (L : Nat → Bool) (V : Nat → Value) (w : World) : Prop := C w ∧ ∀ j, L j = true → (L z = false ∨ z ≤ j) → tab l j (V j) w

theorem last_before {ops : Array Oper} {z : Nat} {pl : List (List Nat × List (Nat × Nat))} (h : lastOk ops z pl = true) {L : Nat → Bool} (hcl : Closed ops L) (hz : L z = true) : ∀ d j, j + d = z → L j = true := by
  intro d
  induction d using Nat.strongRecOn with
  | _ d ih =>
    intro j hj
    rcases Nat.eq_zero_or_pos d with h0 | h0
    · rw [show j = z by omega]; exact hz
    · simp only [lastOk, Bool.and_eq_true, decide_eq_true_eq] at h
      have hlt : j < ops.size := by omega
      have h1 := List.all_eq_true.1 h.1.2 (ops[j], j) (List.mem_zipIdx_iff_getElem?.2 (by simp [hlt]))
      simp only [show j < z by omega, if_true] at h1
      obtain ⟨⟨p, k⟩, hm, h2⟩ := List.any_eq_true.1 h1
      simp only [Bool.and_eq_true, decide_eq_true_eq, List.contains_iff_mem] at h2
      have hk := ih (z - k) (by omega) k (by omega)
      exact hcl.1 k p (by simpa using List.mem_zipIdx_iff_getElem?.1 hm) hk j h2.2
theorem last_behind {ops : Array Oper} {z : Nat} {pl : List (List Nat × List (Nat × Nat))} (h : lastOk ops z pl = true) {L : Nat → Bool} (hcl : Closed ops L) : ∀ j o, ops[j]? = some o → z < j → (∀ k ∈ ahead o, L k = true) → L z = true := by
  simp only [lastOk, Bool.and_eq_true, decide_eq_true_eq] at h
  intro j
  induction j using Nat.strongRecOn with
  | _ j ih =>
    intro o ho hzj hL
    have h1 := List.all_eq_true.1 h.2 (o, j) (List.mem_zipIdx_iff_getElem?.2 (by simpa using ho))
    simp only [hzj, if_true, Bool.and_eq_true, decide_eq_true_eq] at h1
    obtain ⟨k, hk, hzk⟩ := List.any_eq_true.1 h1.1.1
    simp only [decide_eq_true_eq] at hzk
    have hLk := hL k hk
    rcases Nat.eq_or_lt_of_le hzk with rfl | hzk
    · exact hLk
    · have hkj := h1.2 k hk
      have hko : k < ops.size := by have := (Array.getElem?_eq_some_iff.1 ho).1; omega
      exact ih k hkj ops[k] (by simp [hko]) hzk fun m hm => hcl.1 k ops[k] (by simp [hko]) hLk m hm

theorem OwedL.toP {ops : Array Oper} {a0 : Act} {C : World → Prop} {t : List (Value → World → Prop)} {z : Nat} (ql : List (List Nat × List (Nat × Nat))) (hlast : lastOk ops z ql = true) (hg : ∀ W W', C W → Below W.heap.size W W' → C W')
    (st : ∀ f ∈ t, ∀ v w w', f v w → Below w.heap.size w w' → f v w') :
    ∀ (l : List Oper) (k : Nat) (pl : List (List Nat × List (Nat × Nat))), (∀ i, l[i]? = ops[k + i]?) → (∀ i, pl[i]? = ql[k + i]?) → OwedL P a0 C (tab t) z k l pl → OwedP P ops a0 (LastI C t z) k l pl := by
  intro l
  induction l with
  | nil => intro k pl _ _ _; exact trivial
  | cons o r ih =>
    intro k pl hl hpl h
    cases pl with
    | nil => exact False.elim h
    | cons x xs =>
      have hko : ops[k]? = some o := by have := hl 0; simpa using this.symm
      have hkx : ql[k]? = some x := by have := hpl 0; simpa using this.symm
      refine ⟨?_, ih _ _ (fun i => by have := hl (i + 1); simpa [Nat.add_assoc, Nat.add_comm 1] using this) (fun i => by have := hpl (i + 1); simpa [Nat.add_assoc, Nat.add_comm 1] using this) h.2⟩
      intro L V w hLk hcl hal ⟨hc, hp⟩
      have hz1 : k < z → L z = false := by
        intro hkz
        cases hz : L z with
        | false => rfl
        | true => rw [last_before hlast hcl hz (z - k) k (by omega)] at hLk; cases hLk
      have hfacts : ∀ j ∈ x.1, tab t j (V j) w := by
        intro j hj
        refine hp j (hal j hj) ?_
        by_cases hkz : z < k
        · refine .inr ?_
          simp only [lastOk, Bool.and_eq_true] at hlast
          have h1 := List.all_eq_true.1 hlast.2 (o, k) (List.mem_zipIdx_iff_getElem?.2 (by simpa using hko))
          simp only [hkz, if_true, Bool.and_eq_true, List.getD_eq_getElem?_getD, hkx, Option.getD_some] at h1
          have := List.all_eq_true.1 h1.1.2 j hj
          simpa using this
        · by_cases hkz2 : k = z
          · subst hkz2; exact .inl hLk
          · exact .inl (hz1 (by omega))
      by_cases hkz : k = z
      · subst hkz
        have ob := h.1
        rw [if_pos rfl] at ob
        have ob := ob V w hc hfacts
        have next : ∀ v w', tab t k v w' → C w' → LastI C t k (upd L k) (updV V k v) w' := by
          intro v w' hv hc'
          refine ⟨hc', fun j hj hor => ?_⟩
          have hkk : upd L k k = true := by simp [upd]
          rw [hkk] at hor
          have hjk := hor.resolve_left (by simp)
          unfold updV
          rcases Nat.eq_or_lt_of_le hjk with rfl | hjk
          · simpa using hv
          · exfalso
            have hLj := (upd_true hj).resolve_left (by omega)
            have hjo := hcl.2 j hLj
            have := last_behind hlast hcl j ops[j] (by simp [hjo]) hjk fun m hm => hcl.1 j ops[j] (by simp [hjo]) hLj m hm
            rw [hLk] at this; cases this
        by_cases hw : wantsG V o.guard = true
        · rw [if_pos hw] at ob ⊢
          generalize (execOp (rhoP x.2 a0 V) (bareOp o.op o.type)).run P w = q at *
          cases q with
          | ok n w' =>
            cases n <;> simp only [ResZ] at ob <;> simp only [Res]
            case value v => exact next _ _ ob.1 ob.2
            case skip => exact next _ _ ob.1 ob.2
            case enter f args =>
              refine ob.mono ?_
              rintro e w'' ⟨v, rfl, hv, hb⟩
              exact ⟨v, rfl, next _ _ hv hb⟩
          | halt x w' => simp only [ResZ] at ob
        · rw [if_neg hw] at ob ⊢
          exact next _ _ ob hc
      · have ob := h.1
        rw [if_neg hkz] at ob
        have ob := ob V w hc hfacts
        have next : ∀ v w', tab t k v w' → Below w.heap.size w w' → LastI C t z (upd L k) (updV V k v) w' := by
          intro v w' hv hb
          refine ⟨hg _ _ hc hb, fun j hj hor => ?_⟩
          have hzz : upd L k z = L z := by simp [upd, Ne.symm hkz]
          rw [hzz] at hor
          unfold updV
          by_cases hjk : j = k
          · subst hjk; simpa using hv
          · rw [if_neg hjk]; exact tab_stable (Le := fun w w' => Below w.heap.size w w') st _ _ _ _ (hp j ((upd_true hj).resolve_left hjk) hor) hb
        by_cases hw : wantsG V o.guard = true
        · rw [if_pos hw] at ob ⊢
          generalize (execOp (rhoP x.2 a0 V) (bareOp o.op o.type)).run P w = q at *
          cases q with
          | ok n w' =>
            cases n <;> simp only [ResG] at ob <;> simp only [Res]
            case value v => exact next _ _ ob.1 ob.2
            case skip => exact next _ _ ob.1 ob.2
            case enter f args =>
              refine ob.mono ?_
              rintro e w'' ⟨v, rfl, hv, hb⟩
              exact ⟨v, rfl, next _ _ hv hb⟩
          | halt x w' => simp only [ResG] at ob
        · rw [if_neg hw] at ob ⊢
          exact next _ _ ob (Below.refl _ _)

/-- **A region that draws its order and only makes memory, but for one operation, z, that comes behind all those before it:** what these have left is not looked at behind it. -/
theorem wp_region_last {id : Nat} {ops : Array Oper} {a0 : Act} {w : World} (z : Nat) (C : World → Prop) (l : List (Value → World → Prop)) (pl : List (List Nat × List (Nat × Nat)))
    (n : Nat) (hn : a0.tmps.size = n) (hm : P.follows .mixedOrders = true) (hok : regionOk ops n = true) (hpl : planOk ops pl = true) (hz : lastOk ops z pl = true)
    (hg : ∀ W W', C W → Below W.heap.size W W' → C W') (hC : C w.drew)
    (st : ∀ f ∈ l, ∀ v w w', f v w → Below w.heap.size w w' → f v w')
    (owed : OwedL P a0 C (tab l) z 0 ops.toList pl)
    (fin : ∀ (V : Nat → Value) (w : World), C w → (∀ j, j < ops.size → z ≤ j → tab l j (V j) w) → Q .normal (putAll V ops.toList 0 a0) w) :
    (Code.region id ops true).wp P Q a0 w :=
  wp_region_inv (LastI C l z) n hn hm hok ⟨hC, fun _ h => by cases h⟩ (owed_plan pl hpl (OwedL.toP pl hz hg st _ _ _ (fun i => by simp) (fun i => by simp) owed)) fun V w h => fin V w h.1 fun j hj hzj => h.2 j (by simpa using hj) (.inr hzj)

/-- What the one operation's run must come to that may change memory. -/
def ResT (P : Program) (C D1 : World → Prop) (Le : World → World → Prop) (φ : Value → World → Prop) (w : World) : Result Next → Prop
  | .ok (.value v) w' => φ v w' ∧ C w' ∧ D1 w' ∧ Le w w'
  | .ok .skip w' => φ undef w' ∧ C w' ∧ D1 w' ∧ Le w w'
  | .ok (.enter f args) w' => Calls P f args w' fun e w'' => ∃ v, e = .returned v ∧ φ v w'' ∧ C w'' ∧ D1 w'' ∧ Le w w''
  | _ => False
def OwedT1 (P : Program) (a0 : Act) (C D0 D1 : World → Prop) (Le : World → World → Prop) (φ : Nat → Value → World → Prop) (k : Nat) (op : Op) (ty : TypeId) (gd : Option (Nat × Bool)) (al : List Nat) (rd : List (Nat × Nat)) : Prop :=
  gd = none ∧ ∀ (V : Nat → Value) (w : World), C w → D0 w → (∀ j ∈ al, φ j (V j) w) → ResT P C D1 Le (φ k) w ((execOp (rhoP rd a0 V) (bareOp op ty)).run P w)
def OwedT (P : Program) (a0 : Act) (C D0 D1 : World → Prop) (Le : World → World → Prop) (φ : Nat → Value → World → Prop) (z : Nat) : Nat → List Oper → List (List Nat × List (Nat × Nat)) → Prop
  | _, [], _ => True
  | _, _ :: _, [] => False
  | k, o :: r, x :: xs => (if k = z then OwedT1 P a0 C D0 D1 Le φ k o.op o.type o.guard x.1 x.2 else OwedG P a0 C φ k o.op o.type o.guard x.1 x.2) ∧ OwedT P a0 C D0 D1 Le φ z (k + 1) r xs
def TurnI (C D0 D1 : World → Prop) (l : List (Value → World → Prop)) (z : Nat) (L : Nat → Bool) (V : Nat → Value) (w : World) : Prop := C w ∧ (if L z = true then D1 w else D0 w) ∧ ∀ j, L j = true → tab l j (V j) w

theorem tab_but {Le : World → World → Prop} {l : List (Value → World → Prop)} {z : Nat} (h : ∀ f ∈ l.take z ++ l.drop (z + 1), ∀ v w w', f v w → Le w w' → f v w') : ∀ j v w w', j ≠ z → tab l j v w → Le w w' → tab l j v w' := by
  intro j v w w' hjz hf hle
  unfold tab at *
  by_cases hj : j < l.length
  · simp only [List.getD_eq_getElem?_getD, List.getElem?_eq_getElem hj, Option.getD_some] at *
    refine h _ ?_ v w w' hf hle
    rcases Nat.lt_or_gt_of_ne hjz with hlt | hgt
    · refine List.mem_append_left _ (List.mem_iff_getElem?.2 ⟨j, ?_⟩)
      rw [List.getElem?_take_of_lt hlt, List.getElem?_eq_getElem hj]
    · refine List.mem_append_right _ (List.mem_iff_getElem?.2 ⟨j - (z + 1), ?_⟩)
      rw [List.getElem?_drop, show z + 1 + (j - (z + 1)) = j by omega, List.getElem?_eq_getElem hj]
  · simp only [List.getD_eq_getElem?_getD, List.getElem?_eq_none (Nat.le_of_not_lt hj), Option.getD_none]

theorem OwedT.toP {ops : Array Oper} {a0 : Act} {C D0 D1 : World → Prop} {Le : World → World → Prop} {t : List (Value → World → Prop)} {z : Nat}
    (hg : ∀ W W', C W → Below W.heap.size W W' → C W') (hg0 : ∀ W W', D0 W → Below W.heap.size W W' → D0 W') (hg1 : ∀ W W', D1 W → Below W.heap.size W W' → D1 W')
    (st : ∀ f ∈ t, ∀ v w w', f v w → Below w.heap.size w w' → f v w') (st2 : ∀ f ∈ t.take z ++ t.drop (z + 1), ∀ v w w', f v w → Le w w' → f v w') :
    ∀ (l : List Oper) (k : Nat) (pl : List (List Nat × List (Nat × Nat))), OwedT P a0 C D0 D1 Le (tab t) z k l pl → OwedP P ops a0 (TurnI C D0 D1 t z) k l pl := by
  intro l
  induction l with
  | nil => intro k pl _; exact trivial
  | cons o r ih =>
    intro k pl h
    cases pl with
    | nil => exact False.elim h
    | cons x xs =>
      refine ⟨?_, ih _ _ h.2⟩
      intro L V w hLk _ hal ⟨hc, hd, hp⟩
      by_cases hkz : k = z
      · subst hkz
        have ob := h.1
        rw [if_pos rfl] at ob
        obtain ⟨hgd, ob⟩ := ob
        rw [hLk] at hd
        simp only [Bool.false_eq_true, if_false] at hd
        have ob := ob V w hc hd fun j hj => hp j (hal j hj)
        have next : ∀ v w', tab t k v w' → C w' → D1 w' → Le w w' → TurnI C D0 D1 t k (upd L k) (updV V k v) w' := by
          intro v w' hv hc' hd' hb
          have hkk : upd L k k = true := by simp [upd]
          refine ⟨hc', by rw [if_pos hkk]; exact hd', fun j hj => ?_⟩
          unfold updV
          by_cases hjk : j = k
          · subst hjk; simpa using hv
          · rw [if_neg hjk]; exact tab_but (Le := Le) st2 _ _ _ _ hjk (hp j ((upd_true hj).resolve_left hjk)) hb
        rw [hgd, if_pos (show wantsG V none = true from rfl)]
        generalize (execOp (rhoP x.2 a0 V) (bareOp o.op o.type)).run P w = q at *
        cases q with
        | ok n w' =>
          cases n <;> simp only [ResT] at ob <;> simp only [Res]
          case value v => exact next _ _ ob.1 ob.2.1 ob.2.2.1 ob.2.2.2
          case skip => exact next _ _ ob.1 ob.2.1 ob.2.2.1 ob.2.2.2
          case enter f args =>
            refine ob.mono ?_
            rintro e w'' ⟨v, rfl, hv, hc', hd', hb⟩
            exact ⟨v, rfl, next _ _ hv hc' hd' hb⟩
        | halt x w' => simp only [ResT] at ob
      · have ob := h.1
        rw [if_neg hkz] at ob
        have ob := ob V w hc fun j hj => hp j (hal j hj)
        have next : ∀ v w', tab t k v w' → Below w.heap.size w w' → TurnI C D0 D1 t z (upd L k) (updV V k v) w' := by
          intro v w' hv hb
          have hzz : upd L k z = L z := by simp [upd, Ne.symm hkz]
          refine ⟨hg _ _ hc hb, ?_, fun j hj => ?_⟩
          · rw [hzz]
            by_cases hz : L z = true
            · rw [if_pos hz] at hd ⊢; exact hg1 _ _ hd hb
            · rw [if_neg hz] at hd ⊢; exact hg0 _ _ hd hb
          · unfold updV
            by_cases hjk : j = k
            · subst hjk; simpa using hv
            · rw [if_neg hjk]; exact tab_stable (Le := fun w w' => Below w.heap.size w w') st _ _ _ _ (hp j ((upd_true hj).resolve_left hjk)) hb
        by_cases hw : wantsG V o.guard = true
        · rw [if_pos hw] at ob ⊢
          generalize (execOp (rhoP x.2 a0 V) (bareOp o.op o.type)).run P w = q at *
          cases q with
          | ok n w' =>
            cases n <;> simp only [ResG] at ob <;> simp only [Res]
            case value v => exact next _ _ ob.1 ob.2
            case skip => exact next _ _ ob.1 ob.2
            case enter f args =>
              refine ob.mono ?_
              rintro e w'' ⟨v, rfl, hv, hb⟩
              exact ⟨v, rfl, next _ _ hv hb⟩
          | halt x w' => simp only [ResG] at ob
        · rw [if_neg hw] at ob ⊢
          exact next _ _ ob (Below.refl _ _)

/-- **A region that draws its order and only makes memory, but for one operation, z, that changes what others of it do not look at** (D0 before it, D1 behind it, Le from before it to behind it). -/
theorem wp_region_turn {id : Nat} {ops : Array Oper} {a0 : Act} {w : World} (z : Nat) (C D0 D1 : World → Prop) (Le : World → World → Prop) (l : List (Value → World → Prop)) (pl : List (List Nat × List (Nat × Nat)))
    (n : Nat) (hn : a0.tmps.size = n) (hm : P.follows .mixedOrders = true) (hok : regionOk ops n = true) (hpl : planOk ops pl = true) (hz : z < ops.size)
    (hg : ∀ W W', C W → Below W.heap.size W W' → C W') (hg0 : ∀ W W', D0 W → Below W.heap.size W W' → D0 W') (hg1 : ∀ W W', D1 W → Below W.heap.size W W' → D1 W') (hC : C w.drew) (hD : D0 w.drew)
    (st : ∀ f ∈ l, ∀ v w w', f v w → Below w.heap.size w w' → f v w') (st2 : ∀ f ∈ l.take z ++ l.drop (z + 1), ∀ v w w', f v w → Le w w' → f v w')
    (owed : OwedT P a0 C D0 D1 Le (tab l) z 0 ops.toList pl)
    (fin : ∀ (V : Nat → Value) (w : World), C w → D1 w → (∀ j, j < ops.size → tab l j (V j) w) → Q .normal (putAll V ops.toList 0 a0) w) :
    (Code.region id ops true).wp P Q a0 w :=
  wp_region_inv (TurnI C D0 D1 l z) n hn hm hok ⟨hC, by simpa using hD, fun _ h => by cases h⟩ (owed_plan pl hpl (OwedT.toP hg hg0 hg1 st st2 _ _ _ owed)) fun V w h => fin V w h.1 (by have := h.2.1; simpa [hz] using this) fun j hj => h.2.2 j (by simpa using hj)

/-- The run of an append onto a row of the call's own. -/
theorem exec_app {ρ : Operand → Value} {w : World} (s x : Operand) (t ty e : TypeId) (base : Nat) (z : Value) (size bytes : Nat) (T : SliceT P t e z size bytes) (v : Value) (n : Nat) (xs : List Value) (hs : ρ s = v) (hown : w.ownsRow base e size v n xs)
    (B : Nat) (A : Option Addr) (m c : Nat) (news : List Value) (hx : ρ x = .slice A m c) (hr : Reads w B size A m news) (h1 : ∀ u ∈ news, u.oneCell' = true)
    (hbytes : (n + m) * (bytes + 1) ≤ 140737488355328) (hbase : base ≤ w.heap.size) :
    ∃ v' w', (execOp ρ (bareOp (.call { callee := .builtin .append, args := #[s, x], argTypes := #[t, t] }) ty)).run P w = .ok (.value v') w' ∧ w'.ownsRow base e size v' (n + m) (xs ++ news) ∧ Below base w w' := by
  obtain ⟨v', w', hrun, h2, h3, h4, h5⟩ := run_app w base t ty e z size bytes T v n xs hown B A m c news hr h1 hbytes hbase
  refine ⟨v', w', ?_, h2, h5⟩
  simp only [execOp, bareOp, resolve, invoke, builtin, Sem.run_bind, Sem.run_pure, Result.andThen_ok, List.map_toArray, List.map_cons, List.map_nil, hs, hx, hrun]

/-- The value is this one. -/
def isV (c : Value) (v : Value) (_ : World) : Prop := v = c
/-- Any value. -/
def anyV (_ : Value) (_ : World) : Prop := True
/-- A slice of these bytes. -/
def sl (l : List UInt8) (v : Value) (w : World) : Prop := ∃ A c, v = .slice A l.length c ∧ Reads w w.heap.size 1 A l.length (bys l)
theorem isV_st (c : Value) : ∀ v w w', isV c v w → Below w.heap.size w w' → isV c v w' := fun _ _ _ h _ => h
theorem anyV_st : ∀ v w w', anyV v w → Below w.heap.size w w' → anyV v w' := fun _ _ _ h _ => h
theorem sl_st (l : List UInt8) : ∀ v w w', sl l v w → Below w.heap.size w w' → sl l v w' := by
  rintro v w w' ⟨A, c, h, hr⟩ hb
  exact ⟨A, c, h, (hr.below hb (Nat.le_refl _)).more hb.size⟩
theorem sl_own {w : World} {base : Nat} {e : TypeId} {v : Value} {l : List UInt8} (h : Own w base e v l) : sl l v w := by
  obtain ⟨A, c, h1, h2⟩ := h.slice
  exact ⟨A, c, h1, h2⟩
theorem sl_new (w : World) (l : List UInt8) (t : TypeId) (n : Nat) (hn : l.length = n) (cs : Array Value) (hc : cs = (bys l).toArray) : sl l (.slice (some ⟨w.heap.size, 0, none⟩) n n) (w.alloc (.cells cs t)) := by
  subst hn hc
  refine ⟨_, _, rfl, ?_⟩
  have := Reads.new w (bys l) t 1 l.length (by simp)
  simpa using this
theorem run_sl {P : Program} {w : World} {v : Value} {l : List UInt8} (src dst e : TypeId) (hs : P.underlying src = some (.slice e)) (he : P.underlying e = some (.int .u8)) (hd : P.underlying dst = some .string)
    (h : sl l v w) : (convert src dst v).run P w = .ok (.string ⟨l.toArray⟩) w := by
  obtain ⟨A, c, rfl, hr⟩ := h
  exact run_str w src dst e hs he hd _ A _ c l hr
end
end Go.Proofs.Ytjcdgbnbaiebdaa
