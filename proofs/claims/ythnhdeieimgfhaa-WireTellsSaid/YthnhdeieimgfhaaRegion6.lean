/-
  A region that draws its order, whose calls make rows of their own, that appends then take over: the rows of two operations are never one. Conditions: what takes a row over comes behind all that leans on it.
-/
import Derived.Test.YthnhdeieimgfhaaMA
namespace Go.Proofs.Ythnhdeieimgfhaa
open Go Go.RowKit

section
variable {P : Program} {Q : Exit → Act → World → Prop}
theorem lookup_mem {cs : List (Nat × Nat)} {k i : Nat} (h : cs.lookup k = some i) : (k, i) ∈ cs := by
  induction cs with
  | nil => cases h
  | cons x cs ih =>
    obtain ⟨a, b⟩ := x
    rw [List.lookup_cons] at h
    by_cases hka : k = a
    · subst hka; simp at h; simp [h]
    · have e : (k == a) = false := by simpa using hka
      rw [e] at h
      exact List.mem_cons_of_mem _ (ih h)
/-- 'S': the operations whose value is a row of its own. -/
structure RowsI (w0 : World) (C : World → Prop) (t : List (Value → World → Prop)) (kl : List (List Nat)) (S : List Nat) (cs : List (Nat × Nat)) (L : Nat → Bool) (V : Nat → Value) (w : World) : Prop where
  c : C w
  f : ∀ j, L j = true → live kl L j = true → tab t j (V j) w
  lt : ∀ i ∈ S, L i = true → live kl L i = true → ∀ b, (V i).ownBlock = some b → b < w.heap.size
  g : (∀ z i, cs.lookup z = some i → L z = false) → Below w0.heap.size w0 w
  ne : ∀ i ∈ S, ∀ j ∈ S, i ≠ j → L i = true → L j = true → live kl L i = true → live kl L j = true → ∀ b, (V i).ownBlock = some b → (V j).ownBlock ≠ some b
/-- What the run of an operation that makes a row must come to. -/
def ResN (P : Program) (φ : Value → World → Prop) (w : World) : Result Next → Prop
  | .ok (.value v) w' => φ v w' ∧ Below w.heap.size w w' ∧ ∀ b, v.ownBlock = some b → w.heap.size ≤ b ∧ b < w'.heap.size
  | .ok (.enter f args) w' => Calls P f args w' fun e w'' => ∃ v, e = .returned v ∧ φ v w'' ∧ Below w.heap.size w w'' ∧ ∀ b, v.ownBlock = some b → w.heap.size ≤ b ∧ b < w''.heap.size
  | _ => False
def OwedN (P : Program) (a0 : Act) (C : World → Prop) (φ : Nat → Value → World → Prop) (k : Nat) (op : Op) (ty : TypeId) (gd : Option (Nat × Bool)) (al : List Nat) (rd : List (Nat × Nat)) : Prop :=
  gd = none ∧ ∀ (V : Nat → Value) (w : World), C w → (∀ j ∈ al, φ j (V j) w) → ResN P (φ k) w ((execOp (rhoP rd a0 V) (bareOp op ty)).run P w)
/-- And that of one that takes a row over. -/
def ResA (C : World → Prop) (base : Nat) (row : Option Nat) (φ : Value → World → Prop) (w : World) : Result Next → Prop
  | .ok (.value v) w' => φ v w' ∧ C w' ∧ w.grownBy w' row ∧ Below base w w' ∧ (v.ownBlock = row ∨ ∃ b, v.ownBlock = some b ∧ w.heap.size ≤ b ∧ b < w'.heap.size)
  | _ => False
def OwedA (P : Program) (a0 : Act) (C : World → Prop) (base : Nat) (φ : Nat → Value → World → Prop) (k i : Nat) (op : Op) (ty : TypeId) (gd : Option (Nat × Bool)) (al : List Nat) (rd : List (Nat × Nat)) : Prop :=
  (gd = none ∧ al.contains i = true) ∧ ∀ (V : Nat → Value) (w : World), C w → (∀ j ∈ al, φ j (V j) w) → ResA C base (V i).ownBlock (φ k) w ((execOp (rhoP rd a0 V) (bareOp op ty)).run P w)
/-- And that of one whose value is a row from ahead of the region: it is none of the rows that the region makes. -/
def ResFr (φ : Nat → Value → World → Prop) (S : List Nat) (ql : List (List Nat × List (Nat × Nat))) (k : Nat) (w : World) : Result Next → Prop
  | .ok (.value v) w' => w = w' ∧ φ k v w ∧ ∀ b, v.ownBlock = some b → b < w.heap.size ∧ ∀ j ∈ S, j ≠ k → fore ql k ql.length j = false → ∀ v', φ j v' w → v'.ownBlock ≠ some b
  | _ => False
def OwedFr (P : Program) (a0 : Act) (w0 : World) (C : World → Prop) (φ : Nat → Value → World → Prop) (S : List Nat) (cs : List (Nat × Nat)) (ql : List (List Nat × List (Nat × Nat))) (k : Nat) (op : Op) (ty : TypeId) (gd : Option (Nat × Bool)) (al : List Nat) (rd : List (Nat × Nat)) : Prop :=
  (gd = none ∧ cs.all (fun z => fore ql k ql.length z.1) = true) ∧ ∀ (V : Nat → Value) (w : World), C w → Below w0.heap.size w0 w → (∀ j ∈ al, φ j (V j) w) → ResFr φ S ql k w ((execOp (rhoP rd a0 V) (bareOp op ty)).run P w)
/-- 'cs': the operations that take a row over, and whose; 'fr': those whose value is a row from ahead. -/
def OwedR (P : Program) (a0 : Act) (w0 : World) (C : World → Prop) (base : Nat) (S fr : List Nat) (cs : List (Nat × Nat)) (ql : List (List Nat × List (Nat × Nat))) (φ : Nat → Value → World → Prop) : Nat → List Oper → List (List Nat × List (Nat × Nat)) → Prop
  | _, [], _ => True
  | _, _ :: _, [] => False
  | k, o :: r, x :: xs => (match cs.lookup k with
      | some i => OwedA P a0 C base φ k i o.op o.type o.guard x.1 x.2
      | none => if fr.contains k = true then OwedFr P a0 w0 C φ S cs ql k o.op o.type o.guard x.1 x.2 else if S.contains k = true then OwedN P a0 C φ k o.op o.type o.guard x.1 x.2 else OwedG P a0 C φ k o.op o.type o.guard x.1 x.2) ∧ OwedR P a0 w0 C base S fr cs ql φ (k + 1) r xs

theorem OwedR.toP {ops : Array Oper} {a0 : Act} {w0 : World} {C : World → Prop} {base : Nat} {S fr : List Nat} {cs : List (Nat × Nat)} {t : List (Value → World → Prop)} {kl : List (List Nat)} (ql : List (List Nat × List (Nat × Nat)))
    (hpl : planOk ops ql = true) (hk : killOk ql kl = true) (hg : ∀ W W', C W → Below W.heap.size W W' → C W')
    (hcs : ∀ k i, cs.lookup k = some i → S.contains k = true ∧ S.contains i = true ∧ (kl.getD i []).contains k = true)
    (st : ∀ f ∈ t, ∀ v w w', f v w → Below w.heap.size w w' → f v w')
    (st2 : ∀ j, S.contains j = false → ∀ v w w', tab t j v w → Below base w w' → tab t j v w')
    (str : ∀ j, S.contains j = true → ∀ v w w' row, tab t j v w → (∀ b, v.ownBlock = some b → row ≠ some b) → w.grownBy w' row → tab t j v w') :
    ∀ (l : List Oper) (k : Nat) (pl : List (List Nat × List (Nat × Nat))), (∀ i, ql[k + i]? = pl[i]?) → OwedR P a0 w0 C base S fr cs ql (tab t) k l pl → OwedP P ops a0 (RowsI w0 C t kl S cs) k l pl := by
  intro l
  induction l with
  | nil => intro k pl _ _; exact trivial
  | cons o r ih =>
    intro k pl hq h
    cases pl with
    | nil => exact False.elim h
    | cons x xs =>
      refine ⟨?_, ih _ _ (fun i => by have := hq (i + 1); simpa [Nat.add_assoc, Nat.add_comm 1 i] using this) h.2⟩
      intro L V w hl hcl hal hI
      have hqk : ql[k]? = some x := hq 0
      have hlive : ∀ j ∈ x.1, live kl L j = true := by
        intro j hj
        unfold live
        rw [List.all_eq_true]
        intro k' hk'
        have h1 := List.all_eq_true.1 (List.all_eq_true.1 (List.all_eq_true.1 hk (x, k) (List.mem_zipIdx_iff_getElem?.2 hqk)) j hj) k' hk'
        simp only [Bool.or_eq_true, beq_iff_eq] at h1
        rcases h1 with h1 | h1
        · rw [h1, hl]; rfl
        · cases hLk : L k' with
          | false => rfl
          | true =>
            have := fore_done hpl hcl _ _ h1 hLk
            rw [hl] at this; cases this
      have hp' : ∀ j ∈ x.1, tab t j (V j) w := fun j hj => hI.f j (hal j hj) (hlive j hj)
      have hup : ∀ j, live kl (upd L k) j = true → live kl L j = true ∧ (kl.getD j []).contains k = false := by
        intro j hj
        unfold live at *
        rw [List.all_eq_true] at hj
        refine ⟨?_, ?_⟩
        · rw [List.all_eq_true]
          intro k' hk'
          have := hj k' hk'
          unfold upd at this
          split at this
          · simp at this
          · exact this
        · cases hcn : (kl.getD j []).contains k with
          | false => rfl
          | true =>
            have := hj k (by simpa using hcn)
            simp [upd] at this
      have hzup : (∀ z i, cs.lookup z = some i → upd L k z = false) → ∀ z i, cs.lookup z = some i → L z = false := by
        intro hz z i hzi
        have := hz z i hzi
        unfold upd at this
        split at this
        · cases this
        · exact this
      have h1 := h.1
      -- growth: a value whose row, if it is one, is new
      have nextN : ∀ v w', tab t k v w' → Below w.heap.size w w' → (k ∈ S → ∀ b, v.ownBlock = some b → w.heap.size ≤ b ∧ b < w'.heap.size) → RowsI w0 C t kl S cs (upd L k) (updV V k v) w' := by
        intro v w' hv hb hn
        refine ⟨hg _ _ hI.c hb, fun j hj hjl => ?_, fun i hi hL hlv b hbk => ?_, fun hz => ?_, fun i hi j hj hij hLi hLj hli hlj b hbk => ?_⟩
        · unfold updV
          by_cases hjk : j = k
          · subst hjk; simpa using hv
          · rw [if_neg hjk]; exact tab_stable (Le := fun w w' => Below w.heap.size w w') st _ _ _ _ (hI.f j ((upd_true hj).resolve_left hjk) (hup j hjl).1) hb
        · unfold updV at hbk
          by_cases hik : i = k
          · rw [if_pos hik] at hbk; exact (hn (hik ▸ hi) b hbk).2
          · rw [if_neg hik] at hbk
            exact Nat.lt_of_lt_of_le (hI.lt i hi ((upd_true hL).resolve_left hik) (hup i hlv).1 b hbk) hb.size
        · have := hI.g (hzup hz)
          exact this.trans (hb.mono this.size)
        · unfold updV at hbk ⊢
          by_cases hik : i = k
          · rw [if_pos hik] at hbk
            rw [if_neg (fun e => hij (hik.trans e.symm))]
            intro e
            have hjk : j ≠ k := fun e => hij (hik.trans e.symm)
            have := hI.lt j hj ((upd_true hLj).resolve_left hjk) (hup j hlj).1 b e
            have := (hn (hik ▸ hi) b hbk).1
            omega
          · rw [if_neg hik] at hbk
            by_cases hjk : j = k
            · rw [if_pos hjk]
              intro e
              have := hI.lt i hi ((upd_true hLi).resolve_left hik) (hup i hli).1 b hbk
              have := (hn (hjk ▸ hj) b e).1
              omega
            · rw [if_neg hjk]
              exact hI.ne i hi j hj hij ((upd_true hLi).resolve_left hik) ((upd_true hLj).resolve_left hjk) (hup i hli).1 (hup j hlj).1 b hbk
      cases hc : cs.lookup k with
      | some i =>
        rw [hc] at h1
        obtain ⟨⟨hgd, hia⟩, ob⟩ := h1
        obtain ⟨hkS, hiS, hik⟩ := hcs k i hc
        have hkS : k ∈ S := by simpa using hkS
        have hiS : i ∈ S := by simpa using hiS
        have hia : i ∈ x.1 := by simpa using hia
        have ob := ob V w hI.c hp'
        rw [if_pos (show wantsG V o.guard = true by rw [hgd]; rfl)]
        have hki : k ≠ i := fun e => by have := hal i hia; rw [← e, hl] at this; cases this
        have hLi := hal i hia
        have hli := hlive i hia
        -- the others stand
        have hoth : ∀ j, upd L k j = true → live kl (upd L k) j = true → j ≠ k → j ≠ i ∧ L j = true ∧ live kl L j = true := by
          intro j hj hjl hjk
          refine ⟨fun e => ?_, (upd_true hj).resolve_left hjk, (hup j hjl).1⟩
          have := (hup j hjl).2
          rw [e, hik] at this
          cases this
        generalize (execOp (rhoP x.2 a0 V) (bareOp o.op o.type)).run P w = q at *
        cases q with
        | halt y w' => exact False.elim ob
        | ok n w' =>
          cases n
          all_goals try exact False.elim ob
          case value v =>
            obtain ⟨hv, hC', hgr, hbl, hrow⟩ := ob
            have hrlt : ∀ b, (V i).ownBlock = some b → b < w.heap.size := hI.lt i hiS hLi hli
            have hdj : ∀ j ∈ S, j ≠ i → L j = true → live kl L j = true → ∀ b, (V j).ownBlock = some b → (V i).ownBlock ≠ some b := fun j hj hji hLj hlj b hb => hI.ne j hj i hiS hji hLj hLi hlj hli b hb
            refine ⟨hC', fun j hj hjl => ?_, fun j hj hL hlv b hbk => ?_, fun hz => by have := hz k i hc; simp [upd] at this, fun j hj j' hj' hjj hLj hLj' hlj hlj' b hbk => ?_⟩
            · unfold updV
              by_cases hjk : j = k
              · subst hjk; simpa using hv
              · rw [if_neg hjk]
                obtain ⟨hji, hLj, hlj⟩ := hoth j hj hjl hjk
                have hf := hI.f j hLj hlj
                cases hjS : S.contains j with
                | false => exact st2 j hjS _ _ _ hf hbl
                | true => exact str j hjS _ _ _ _ hf (hdj j (by simpa using hjS) hji hLj hlj) hgr
            · unfold updV at hbk
              by_cases hjk : j = k
              · rw [if_pos hjk] at hbk
                rcases hrow with hrow | ⟨b', hb', h1, h2⟩
                · rw [hrow] at hbk
                  exact Nat.lt_of_lt_of_le (hrlt b hbk) hgr.size
                · rw [hb'] at hbk; injection hbk with hbk; omega
              · rw [if_neg hjk] at hbk
                obtain ⟨_, hLj, hlj⟩ := hoth j hL hlv hjk
                exact Nat.lt_of_lt_of_le (hI.lt j hj hLj hlj b hbk) hgr.size
            · unfold updV at hbk ⊢
              by_cases hjk : j = k
              · rw [if_pos hjk] at hbk
                have hj'k : j' ≠ k := fun e => hjj (hjk.trans e.symm)
                rw [if_neg hj'k]
                obtain ⟨hji', hLj'', hlj''⟩ := hoth j' hLj' hlj' hj'k
                intro e
                rcases hrow with hrow | ⟨b', hb', h1, h2⟩
                · rw [hrow] at hbk
                  exact hdj j' hj' hji' hLj'' hlj'' b e hbk
                · rw [hb'] at hbk
                  injection hbk with hbk
                  have := hI.lt j' hj' hLj'' hlj'' b e
                  omega
              · rw [if_neg hjk] at hbk
                obtain ⟨hji, hLj2, hlj2⟩ := hoth j hLj hlj hjk
                by_cases hj'k : j' = k
                · rw [if_pos hj'k]
                  intro e
                  rcases hrow with hrow | ⟨b', hb', h1, h2⟩
                  · rw [hrow] at e
                    exact hdj j hj hji hLj2 hlj2 b hbk e
                  · rw [hb'] at e
                    injection e with e
                    have := hI.lt j hj hLj2 hlj2 b hbk
                    omega
                · rw [if_neg hj'k]
                  obtain ⟨hji', hLj'', hlj''⟩ := hoth j' hLj' hlj' hj'k
                  exact hI.ne j hj j' hj' hjj hLj2 hLj'' hlj2 hlj'' b hbk
      | none =>
        rw [hc] at h1
        by_cases hfr : fr.contains k = true
        · simp only [hfr, if_true] at h1
          obtain ⟨⟨hgd, hall⟩, ob⟩ := h1
          have hzl : ∀ z i, cs.lookup z = some i → L z = false := by
            intro z i hzi
            cases hLz : L z with
            | false => rfl
            | true =>
              have h2 : fore ql k ql.length z = true := List.all_eq_true.1 hall (z, i) (lookup_mem hzi)
              have := fore_done hpl hcl _ _ h2 hLz
              rw [hl] at this; cases this
          have ob := ob V w hI.c (hI.g hzl) hp'
          rw [if_pos (show wantsG V o.guard = true by rw [hgd]; rfl)]
          have hnb : ∀ j, L j = true → fore ql k ql.length j = false := by
            intro j hj
            cases hf : fore ql k ql.length j with
            | false => rfl
            | true =>
              have := fore_done hpl hcl _ _ hf hj
              rw [hl] at this; cases this
          generalize (execOp (rhoP x.2 a0 V) (bareOp o.op o.type)).run P w = q at *
          cases q with
          | halt y w' => exact False.elim ob
          | ok n w' =>
            cases n
            all_goals try exact False.elim ob
            case value v =>
              obtain ⟨rfl, hv, hn⟩ := ob
              refine ⟨hI.c, fun j hj hjl => ?_, fun j hj hL hlv b hbk => ?_, fun hz => hI.g (hzup hz), fun j hj j' hj' hjj hLj hLj' hlj hlj' b hbk => ?_⟩
              · unfold updV
                by_cases hjk : j = k
                · subst hjk; simpa using hv
                · rw [if_neg hjk]
                  exact hI.f j ((upd_true hj).resolve_left hjk) (hup j hjl).1
              · unfold updV at hbk
                by_cases hjk : j = k
                · rw [if_pos hjk] at hbk; exact (hn b hbk).1
                · rw [if_neg hjk] at hbk
                  exact hI.lt j hj ((upd_true hL).resolve_left hjk) (hup j hlv).1 b hbk
              · unfold updV at hbk ⊢
                by_cases hjk : j = k
                · rw [if_pos hjk] at hbk
                  have hj'k : j' ≠ k := fun e => hjj (hjk.trans e.symm)
                  rw [if_neg hj'k]
                  have hL2 := (upd_true hLj').resolve_left hj'k
                  exact (hn b hbk).2 j' hj' hj'k (hnb j' hL2) _ (hI.f j' hL2 (hup j' hlj').1)
                · rw [if_neg hjk] at hbk
                  have hL1 := (upd_true hLj).resolve_left hjk
                  by_cases hj'k : j' = k
                  · rw [if_pos hj'k]
                    intro e
                    exact (hn b e).2 j hj hjk (hnb j hL1) _ (hI.f j hL1 (hup j hlj).1) hbk
                  · rw [if_neg hj'k]
                    exact hI.ne j hj j' hj' hjj hL1 ((upd_true hLj').resolve_left hj'k) (hup j hlj).1 (hup j' hlj').1 b hbk
        rw [if_neg hfr] at h1
        by_cases hS : S.contains k = true
        · simp only [hS, if_true] at h1
          obtain ⟨hgd, ob⟩ := h1
          have ob := ob V w hI.c hp'
          rw [if_pos (show wantsG V o.guard = true by rw [hgd]; rfl)]
          generalize (execOp (rhoP x.2 a0 V) (bareOp o.op o.type)).run P w = q at *
          cases q with
          | halt y w' => exact False.elim ob
          | ok n w' =>
            cases n <;> simp only [ResN] at ob <;> simp only [Res]
            case value v => exact nextN _ _ ob.1 ob.2.1 fun _ => ob.2.2
            case enter f args =>
              refine ob.mono ?_
              rintro e w'' ⟨v, rfl, hv, hb, hn⟩
              exact ⟨v, rfl, nextN _ _ hv hb fun _ => hn⟩
        · simp only [hS, if_false, Bool.false_eq_true] at h1
          have hnk : k ∈ S → False := fun e => hS (by simpa using e)
          have ob := h1 V w hI.c hp'
          by_cases hw : wantsG V o.guard = true
          · rw [if_pos hw] at ob ⊢
            generalize (execOp (rhoP x.2 a0 V) (bareOp o.op o.type)).run P w = q at *
            cases q with
            | ok n w' =>
              cases n <;> simp only [ResG] at ob <;> simp only [Res]
              case value v => exact nextN _ _ ob.1 ob.2 fun e => (hnk e).elim
              case skip => exact nextN _ _ ob.1 ob.2 fun e => (hnk e).elim
              case enter f args =>
                refine ob.mono ?_
                rintro e w'' ⟨v, rfl, hv, hb⟩
                exact ⟨v, rfl, nextN _ _ hv hb fun e => (hnk e).elim⟩
            | halt y w' => simp only [ResG] at ob
          · rw [if_neg hw] at ob ⊢
            exact nextN _ _ ob (Below.refl _ _) fun e => (hnk e).elim

/-- **A region that draws its order, whose calls make rows of their own, that appends take over.** 'S': the operations whose value is such a row; 'cs': those that take one over, and whose; 'kl': for each operation, those that end its fact. -/
theorem wp_region_rows {id : Nat} {ops : Array Oper} {a0 : Act} {w : World} (C : World → Prop) (base : Nat) (S fr : List Nat) (cs : List (Nat × Nat)) (kl : List (List Nat)) (l : List (Value → World → Prop)) (pl : List (List Nat × List (Nat × Nat)))
    (n : Nat) (hn : a0.tmps.size = n) (hm : P.follows .mixedOrders = true) (hok : regionOk ops n = true) (hpl : planOk ops pl = true) (hk : killOk pl kl = true)
    (hcs : cs.all (fun x => S.contains x.1 && S.contains x.2 && (kl.getD x.2 []).contains x.1) = true)
    (hg : ∀ W W', C W → Below W.heap.size W W' → C W') (hC : C w.drew)
    (st : ∀ f ∈ l, ∀ v w w', f v w → Below w.heap.size w w' → f v w')
    (st2 : ∀ x ∈ l.zipIdx, S.contains x.2 = true ∨ ∀ v w w', x.1 v w → Below base w w' → x.1 v w')
    (str : ∀ x ∈ l.zipIdx, S.contains x.2 = false ∨ ∀ v w w' row, x.1 v w → (∀ b, v.ownBlock = some b → row ≠ some b) → w.grownBy w' row → x.1 v w')
    (owed : OwedR P a0 w C base S fr cs pl (tab l) 0 ops.toList pl)
    (fin : ∀ (V : Nat → Value) (w : World), C w → (∀ j, j < ops.size → kl.getD j [] = [] → tab l j (V j) w) → Q .normal (putAll V ops.toList 0 a0) w) :
    (Code.region id ops true).wp P Q a0 w := by
  have hcs' : ∀ k i, cs.lookup k = some i → S.contains k = true ∧ S.contains i = true ∧ (kl.getD i []).contains k = true := by
    intro k i h
    have hm : (k, i) ∈ cs := lookup_mem h
    have := List.all_eq_true.1 hcs (k, i) hm
    simpa [Bool.and_eq_true, and_assoc] using this
  have e2 : ∀ j, S.contains j = false → ∀ v w w', tab l j v w → Below base w w' → tab l j v w' := by
    intro j hj v w w' ht hb
    unfold tab at *
    cases hx : l[j]? with
    | none => simp [List.getD_eq_getElem?_getD, hx]
    | some f =>
      simp only [List.getD_eq_getElem?_getD, hx, Option.getD_some] at ht ⊢
      rcases st2 (f, j) (List.mem_zipIdx_iff_getElem?.2 hx) with h1 | h1
      · rw [hj] at h1; cases h1
      · exact h1 _ _ _ ht hb
  have e3 : ∀ j, S.contains j = true → ∀ v w w' row, tab l j v w → (∀ b, v.ownBlock = some b → row ≠ some b) → w.grownBy w' row → tab l j v w' := by
    intro j hj v w w' row ht hb hg
    unfold tab at *
    cases hx : l[j]? with
    | none => simp [List.getD_eq_getElem?_getD, hx]
    | some f =>
      simp only [List.getD_eq_getElem?_getD, hx, Option.getD_some] at ht ⊢
      rcases str (f, j) (List.mem_zipIdx_iff_getElem?.2 hx) with h1 | h1
      · rw [hj] at h1; cases h1
      · exact h1 _ _ _ _ ht hb hg
  refine wp_region_inv (RowsI w C l kl S cs) n hn hm hok ⟨hC, (fun _ h _ => by cases h), (fun _ _ h _ => by cases h), (fun _ => Below.drew (Below.refl _ _)), (fun _ _ _ _ _ h _ _ _ => by cases h)⟩ (owed_plan pl hpl (OwedR.toP pl hpl hk hg hcs' st e2 e3 _ _ _ (fun i => by simp) owed)) fun V w h => fin V w h.c fun j hj hkj => h.f j (by simpa using hj) (by unfold live; rw [hkj]; rfl)
end
end Go.Proofs.Ythnhdeieimgfhaa
