/-
  Transactions in plain Lean (layer 17): what each call makes of them, and what stays as it was. Conditions: none.
-/
import Derived.Test.YtjcdgbnbaiebdaaNA
namespace Go.Proofs.Ytjcdgbnbaiebdaa
open Go Go.RowKit

/-- A transaction: its entry, whether it was asked for. -/
structure Txn where
  e : Ent
  asked : Bool
  deriving DecidableEq
def idOf (x : Ent) : Idn := (x.br, x.life, x.ser)
/-- An entry's bytes, if it may be. -/
def encOf (x : Ent) : List UInt8 := if okEn x then encEn x else []
def bigE (x : Ent) : Bool := decide (3000 < (encOf x).length)
def isId (a : Idn) (t : Txn) : Bool := decide (idOf t.e = a)
def seekT (l : List Txn) (a : Idn) : Option Nat := l.findIdx? (isId a)
def seekI (l : List Txn) (a : Idn) : Int := match seekT l a with | some k => (k : Int) | none => -1
def openT (l : List Txn) (a : Idn) : Option Nat := match seekT l a with | some k => if (l[k]?.map Txn.asked) = some true then none else some k | none => none
def openI (l : List Txn) (a : Idn) : Int := match openT l a with | some k => (k : Int) | none => -1
def addT (l : List Txn) (t : Txn) : List Txn × Int :=
  if (seekT l (idOf t.e)).isSome then (l, 170) else if okEn t.e = false then (l, 110) else if 8 ≤ l.length then (l, 171) else if bigE t.e then (l, 172) else (l ++ [t], 0)
def pubE (a : Idn) (c : Int) : Ent := ⟨1, a.1, a.2.1, a.2.2, c, 0, [], []⟩
def beginT (l : List Txn) (a : Idn) (c : Int) : List Txn × Int := addT l ⟨pubE a c, false⟩
def moreE (x : Ent) (e : List Att) : Ent := { x with es := x.es ++ [e] }
def publishT (l : List Txn) (a : Idn) (e : List Att) : List Txn × Int :=
  match openT l a with
  | none => (l, 170)
  | some k => match l[k]? with
    | none => (l, 170)
    | some t => if okE e = false then (l, 40) else if 8 ≤ t.e.es.length then (l, 171) else if bigE (moreE t.e e) then (l, 172) else (l.set k ⟨moreE t.e e, t.asked⟩, 0)
def commitT (l : List Txn) (a : Idn) : List Txn × Int :=
  match openT l a with
  | none => (l, 170)
  | some k => match l[k]? with
    | none => (l, 170)
    | some t => (l.set k ⟨t.e, true⟩, 0)
def settleT (l : List Txn) (a : Idn) : List Txn := match seekT l a with | none => l | some k => l.eraseIdx k
def abortT (l : List Txn) (a : Idn) : List Txn × Int := if (openT l a).isSome then (settleT l a, 0) else (l, 170)
def askT (l : List Txn) (x : Ent) : List Txn × Int := addT l ⟨x, true⟩
def asksT (l : List Txn) : List Ent := ((l.filter Txn.asked).map Txn.e).take 4
def txn0 : Txn := ⟨ent0, false⟩
def findT (l : List Txn) (a : Idn) : Txn × Bool := match l.find? (isId a) with | some t => (t, true) | none => (txn0, false)
/-- A call. -/
structure CallT where
  kind : Int
  id : Idn
  cl : Int
  e : List Att
  x : Ent
def nextT (l : List Txn) (c : CallT) : List Txn × Int :=
  if c.kind = 1 then beginT l c.id c.cl else if c.kind = 2 then publishT l c.id c.e else if c.kind = 3 then commitT l c.id else if c.kind = 4 then abortT l c.id
  else if c.kind = 5 then askT l c.x else if c.kind = 6 then (settleT l c.id, 0) else (l, 0)
/-- What holds of transactions that calls made. -/
structure OkT (l : List Txn) : Prop where
  len : l.length ≤ 8
  each : ∀ t ∈ l, okEn t.e = true ∧ fitEn t.e ∧ bigE t.e = false
  uni : ∀ (i j : Nat) (s t : Txn), l[i]? = some s → l[j]? = some t → idOf s.e = idOf t.e → i = j

theorem seekT_some {l : List Txn} {a : Idn} {k : Nat} (h : seekT l a = some k) : ∃ t, l[k]? = some t ∧ idOf t.e = a ∧ ∀ j, j < k → ∀ s, l[j]? = some s → idOf s.e ≠ a := by
  unfold seekT at h
  rw [List.findIdx?_eq_some_iff_getElem] at h
  obtain ⟨hk, h1, h2⟩ := h
  refine ⟨l[k], List.getElem?_eq_getElem hk, by simpa [isId] using h1, fun j hj s hs => ?_⟩
  have := h2 j hj
  rw [List.getElem?_eq_getElem (by omega)] at hs
  injection hs with hs
  rw [hs] at this
  simpa [isId] using this
theorem seekT_none {l : List Txn} {a : Idn} (h : seekT l a = none) : ∀ t ∈ l, idOf t.e ≠ a := by
  unfold seekT at h
  rw [List.findIdx?_eq_none_iff] at h
  intro t ht
  simpa [isId] using h t ht
theorem find_at {l : List Txn} {a : Idn} (hl : OkT l) {k : Nat} {t : Txn} (hk : l[k]? = some t) (ha : idOf t.e = a) : findT l a = (t, true) := by
  unfold findT
  cases hf : l.find? (isId a) with
  | none =>
    rw [List.find?_eq_none] at hf
    exact absurd (by simpa [isId] using ha) (hf t (List.mem_of_getElem? hk))
  | some s =>
    have h1 : idOf s.e = a := by have := List.find?_some hf; simpa [isId] using this
    obtain ⟨j, hj⟩ := List.mem_iff_getElem?.1 (List.mem_of_find?_eq_some hf)
    have := hl.uni j k s t hj hk (h1.trans ha.symm)
    subst this
    rw [hk] at hj
    injection hj with hj
    simp [hj]
theorem find_true {l : List Txn} {a : Idn} {t : Txn} (h : findT l a = (t, true)) : ∃ k : Nat, l[k]? = some t ∧ idOf t.e = a := by
  unfold findT at h
  cases hf : l.find? (isId a) with
  | none => rw [hf] at h; simp [txn0] at h
  | some s =>
    rw [hf] at h
    simp only [Prod.mk.injEq, and_true] at h
    subst h
    obtain ⟨j, hj⟩ := List.mem_iff_getElem?.1 (List.mem_of_find?_eq_some hf)
    exact ⟨j, hj, by have := List.find?_some hf; simpa [isId] using this⟩
theorem find_false {l : List Txn} {a : Idn} (h : ∀ t ∈ l, idOf t.e ≠ a) : findT l a = (txn0, false) := by
  unfold findT
  rw [List.find?_eq_none.2 (fun t ht => by simpa [isId] using h t ht)]
theorem openT_some {l : List Txn} {a : Idn} {k : Nat} (h : openT l a = some k) : ∃ t, l[k]? = some t ∧ idOf t.e = a ∧ t.asked = false ∧ seekT l a = some k := by
  unfold openT at h
  split at h
  · rename_i j hj
    obtain ⟨t, h1, h2, _⟩ := seekT_some hj
    split at h
    · cases h
    · rename_i hn
      injection h with h
      subst h
      rw [h1] at hn
      exact ⟨t, h1, h2, by simpa using hn, hj⟩
  · cases h
theorem OkT.nil : OkT [] := ⟨by simp, by simp, by simp⟩
/-- Lists after a change at one place that keeps the ID. -/
theorem OkT.set {l : List Txn} (hl : OkT l) {k : Nat} {t u : Txn} (hk : l[k]? = some t) (hi : idOf u.e = idOf t.e) (hu : okEn u.e = true ∧ fitEn u.e ∧ bigE u.e = false) : OkT (l.set k u) := by
  have hlt : k < l.length := (List.getElem?_eq_some_iff.1 hk).1
  refine ⟨by simpa using hl.len, fun s hs => ?_, fun i j s r hs hr hsr => ?_⟩
  · rcases List.mem_or_eq_of_mem_set hs with hs | rfl
    · exact hl.each s hs
    · exact hu
  · have key : ∀ (i : Nat) (s : Txn), (l.set k u)[i]? = some s → ∃ s', l[i]? = some s' ∧ idOf s'.e = idOf s.e := by
      intro i s hs
      by_cases hik : k = i
      · subst hik
        rw [List.getElem?_set_self hlt] at hs
        injection hs with hs
        exact ⟨t, hk, by rw [← hs, hi]⟩
      · rw [List.getElem?_set_ne hik] at hs
        exact ⟨s, hs, rfl⟩
    obtain ⟨s', h1, h2⟩ := key i s hs
    obtain ⟨r', h3, h4⟩ := key j r hr
    exact hl.uni i j s' r' h1 h3 (by rw [h2, h4, hsr])
theorem OkT.snoc {l : List Txn} (hl : OkT l) {t : Txn} (h8 : l.length < 8) (hn : ∀ s ∈ l, idOf s.e ≠ idOf t.e) (ht : okEn t.e = true ∧ fitEn t.e ∧ bigE t.e = false) : OkT (l ++ [t]) := by
  refine ⟨by simp; omega, fun s hs => ?_, fun i j s r hs hr hsr => ?_⟩
  · rcases List.mem_append.1 hs with hs | hs
    · exact hl.each s hs
    · simp at hs; subst hs; exact ht
  · have key : ∀ (i : Nat) (s : Txn), (l ++ [t])[i]? = some s → (i < l.length ∧ l[i]? = some s) ∨ (i = l.length ∧ s = t) := by
      intro i s hs
      by_cases hi : i < l.length
      · rw [List.getElem?_append_left hi] at hs
        exact .inl ⟨hi, hs⟩
      · rw [List.getElem?_append_right (by omega)] at hs
        have h0 : i - l.length = 0 := by
          by_cases h : i - l.length = 0
          · exact h
          · rw [List.getElem?_eq_none (by simp; omega)] at hs; cases hs
        rw [h0] at hs
        simp at hs
        exact .inr ⟨by omega, hs.symm⟩
    rcases key i s hs with ⟨hi, h1⟩ | ⟨rfl, rfl⟩
    · rcases key j r hr with ⟨hj, h2⟩ | ⟨rfl, rfl⟩
      · exact hl.uni i j s r h1 h2 hsr
      · exact absurd hsr (hn s (List.mem_of_getElem? h1))
    · rcases key j r hr with ⟨hj, h2⟩ | ⟨rfl, rfl⟩
      · exact absurd hsr.symm (hn r (List.mem_of_getElem? h2))
      · rfl
theorem OkT.erase {l : List Txn} (hl : OkT l) (k : Nat) : OkT (l.eraseIdx k) := by
  refine ⟨Nat.le_trans (List.length_eraseIdx_le l k) hl.len, fun s hs => hl.each s (List.mem_of_mem_eraseIdx hs), fun i j s r hs hr hsr => ?_⟩
  rw [List.getElem?_eraseIdx] at hs hr
  split at hs <;> split at hr
  · exact hl.uni i j s r hs hr hsr
  · have := hl.uni i (j + 1) s r hs hr hsr; omega
  · have := hl.uni (i + 1) j s r hs hr hsr; omega
  · have := hl.uni (i + 1) (j + 1) s r hs hr hsr; omega
theorem addT_ok {l : List Txn} (hl : OkT l) (t : Txn) (hf : fitEn t.e) : OkT (addT l t).1 := by
  unfold addT
  split
  · exact hl
  · rename_i hs
    split
    · exact hl
    · rename_i ho
      split
      · exact hl
      · split
        · exact hl
        · rename_i h8 hb
          have hn : seekT l (idOf t.e) = none := by simpa using hs
          exact hl.snoc (by omega) (seekT_none hn) ⟨by simpa using ho, hf, by simpa using hb⟩
theorem okEn_more {x : Ent} {e : List Att} (h : okEn x = true) (hk : x.kind = 1) (h8 : x.es.length < 8) (he : okE e = true) : okEn (moreE x e) = true := by
  obtain ⟨kd, b, l, s, cl, u, f, es⟩ := x
  simp only [moreE]
  simp only at hk h8
  subst hk
  simp only [okEn, Bool.and_eq_true, decide_eq_true_eq, if_true, List.all_append, List.length_append, List.length_singleton] at h ⊢
  simp only [List.all_cons, List.all_nil, Bool.and_true, he]
  exact ⟨h.1, ⟨⟨h.2.1.1, by omega⟩, h.2.2, trivial⟩⟩
theorem nextT_ok {l : List Txn} (hl : OkT l) (c : CallT) (hi : i64ok c.id.1 ∧ c.id.2.1 < 18446744073709551616 ∧ c.id.2.2 < 18446744073709551616) (hc : i64ok c.cl) (he : ∀ a ∈ c.e, fitA a) (hx : fitEn c.x)
    (hkind : ∀ t ∈ l, t.asked = false → t.e.kind = 1) : OkT (nextT l c).1 := by
  unfold nextT
  split
  · exact addT_ok hl _ (by refine ⟨by simp [pubE, i64ok], hi.1, hc, hi.2.1, hi.2.2, by simp [pubE], by simp [pubE], by simp [pubE]⟩)
  · split
    · unfold publishT
      split
      · exact hl
      · rename_i k hk
        obtain ⟨t, h1, h2, h3, _⟩ := openT_some hk
        rw [h1]
        simp only
        split
        · exact hl
        · rename_i hoe
          split
          · exact hl
          · rename_i h8
            split
            · exact hl
            · rename_i hb
              obtain ⟨o1, o2, o3⟩ := hl.each t (List.mem_of_getElem? h1)
              refine hl.set h1 rfl ⟨okEn_more o1 (hkind t (List.mem_of_getElem? h1) h3) (by omega) (by simpa using hoe), ?_, by simpa using hb⟩
              obtain ⟨f1, f2, f3, f4, f5, f6, f7, f8⟩ := o2
              refine ⟨f1, f2, f3, f4, f5, f6, f7, ?_⟩
              intro e he'
              rcases List.mem_append.1 he' with h | h
              · exact f8 e h
              · simp at h; subst h; exact he
    · split
      · unfold commitT
        split
        · exact hl
        · rename_i k hk
          obtain ⟨t, h1, h2, h3, _⟩ := openT_some hk
          rw [h1]
          exact hl.set h1 rfl (hl.each t (List.mem_of_getElem? h1))
      · split
        · unfold abortT
          split
          · unfold settleT; split
            · exact hl
            · exact hl.erase _
          · exact hl
        · split
          · exact addT_ok hl _ hx
          · split
            · unfold settleT; split
              · exact hl
              · exact hl.erase _
            · exact hl
/-- An open transaction is one of events. -/
def OpenK (l : List Txn) : Prop := ∀ t ∈ l, t.asked = false → t.e.kind = 1
theorem nextT_open {l : List Txn} (hl : OpenK l) (c : CallT) : OpenK (nextT l c).1 := by
  have hadd : ∀ t : Txn, (t.asked = false → t.e.kind = 1) → OpenK (addT l t).1 := by
    intro t ht
    unfold addT
    split
    · exact hl
    · split
      · exact hl
      · split
        · exact hl
        · split
          · exact hl
          · intro s hs
            rcases List.mem_append.1 hs with hs | hs
            · exact hl s hs
            · simp at hs; subst hs; exact ht
  have hset : OpenK (settleT l c.id) := by
    unfold settleT; split
    · exact hl
    · exact fun s hs => hl s (List.mem_of_mem_eraseIdx hs)
  unfold nextT
  split
  · exact hadd _ (fun _ => rfl)
  · split
    · unfold publishT
      split
      · exact hl
      · rename_i k hk
        obtain ⟨t, h1, h2, h3, _⟩ := openT_some hk
        rw [h1]
        simp only
        split
        · exact hl
        · split
          · exact hl
          · split
            · exact hl
            · intro s hs
              rcases List.mem_or_eq_of_mem_set hs with hs | rfl
              · exact hl s hs
              · intro _; exact hl t (List.mem_of_getElem? h1) h3
    · split
      · unfold commitT
        split
        · exact hl
        · rename_i k hk
          obtain ⟨t, h1, h2, h3, _⟩ := openT_some hk
          rw [h1]
          intro s hs
          rcases List.mem_or_eq_of_mem_set hs with hs | rfl
          · exact hl s hs
          · intro h; cases h
      · split
        · unfold abortT
          split
          · exact hset
          · exact hl
        · split
          · exact hadd _ (fun h => by cases h)
          · split
            · exact hset
            · exact hl
end Go.Proofs.Ytjcdgbnbaiebdaa

/-
  What the statements of layer 17 say of transactions, in plain Lean. Conditions: none.
-/
namespace Go.Proofs.Ytjcdgbnbaiebdaa
open Go Go.RowKit

theorem find_mem {l : List Txn} (hl : OkT l) {t : Txn} (ht : t ∈ l) : findT l (idOf t.e) = (t, true) := by
  obtain ⟨k, hk⟩ := List.mem_iff_getElem?.1 ht
  exact find_at hl hk rfl
theorem addT_mem {l : List Txn} (t : Txn) {s : Txn} (hs : s ∈ l) : s ∈ (addT l t).1 := by
  unfold addT
  split
  · exact hs
  · split
    · exact hs
    · split
      · exact hs
      · split
        · exact hs
        · exact List.mem_append_left _ hs
theorem set_mem {l : List Txn} {k : Nat} {u s t : Txn} (hk : l[k]? = some u) (hs : s ∈ l) (hne : s ≠ u) : s ∈ l.set k t := by
  obtain ⟨i, hi⟩ := List.mem_iff_getElem?.1 hs
  have hik : k ≠ i := by rintro rfl; rw [hk] at hi; injection hi with hi; exact hne hi.symm
  exact List.mem_of_getElem? (by rw [List.getElem?_set_ne hik]; exact hi)
theorem erase_mem {l : List Txn} {k : Nat} {u s : Txn} (hk : l[k]? = some u) (hs : s ∈ l) (hne : s ≠ u) : s ∈ l.eraseIdx k := by
  obtain ⟨i, hi⟩ := List.mem_iff_getElem?.1 hs
  have hik : i ≠ k := by rintro rfl; rw [hk] at hi; injection hi with hi; exact hne hi.symm
  exact List.mem_eraseIdx_iff_getElem?.2 ⟨i, hik, hi⟩
theorem settleT_mem {l : List Txn} {a : Idn} {s : Txn} (hs : s ∈ l) (hne : idOf s.e ≠ a) : s ∈ settleT l a := by
  unfold settleT
  split
  · exact hs
  · rename_i k hk
    obtain ⟨t, h1, h2, _⟩ := seekT_some hk
    exact erase_mem h1 hs (by rintro rfl; exact hne h2)
theorem settleT_gone {l : List Txn} (hl : OkT l) (a : Idn) : findT (settleT l a) a = (txn0, false) := by
  apply find_false
  unfold settleT
  split
  · rename_i h; exact seekT_none h
  · rename_i k hk
    obtain ⟨t, h1, h2, _⟩ := seekT_some hk
    intro s hs he
    obtain ⟨i, hik, hi⟩ := List.mem_eraseIdx_iff_getElem?.1 hs
    exact hik (hl.uni i k s t hi h1 (he.trans h2.symm))
/-- The ID that a call is of. -/
def ofT (c : CallT) : Idn := if c.kind = 5 then idOf c.x else c.id
theorem nextT_mem {l : List Txn} (c : CallT) {s : Txn} (hs : s ∈ l) (h : idOf s.e ≠ ofT c ∨ (s.asked = true ∧ ¬ (c.kind = 6 ∧ c.id = idOf s.e))) : s ∈ (nextT l c).1 := by
  have hopen : ∀ (k : Nat) (t : Txn), l[k]? = some t → idOf t.e = c.id → t.asked = false → c.kind ≠ 5 → s ≠ t := by
    rintro k t hk ht ha h5 rfl
    rcases h with h | ⟨h, _⟩
    · apply h; unfold ofT; rw [if_neg h5]; exact ht
    · rw [ha] at h; cases h
  unfold nextT
  split
  · exact addT_mem _ hs
  · split
    · rename_i h2
      unfold publishT
      split
      · exact hs
      · rename_i k hk
        obtain ⟨t, h1, h3, h4, _⟩ := openT_some hk
        rw [h1]
        simp only
        split
        · exact hs
        · split
          · exact hs
          · split
            · exact hs
            · exact set_mem h1 hs (hopen k t h1 h3 h4 (by omega))
    · split
      · unfold commitT
        split
        · exact hs
        · rename_i k hk
          obtain ⟨t, h1, h3, h4, _⟩ := openT_some hk
          rw [h1]
          exact set_mem h1 hs (hopen k t h1 h3 h4 (by omega))
      · split
        · unfold abortT
          split
          · rename_i ho
            obtain ⟨k, hk⟩ := Option.isSome_iff_exists.1 ho
            obtain ⟨t, h1, h3, h4, h5⟩ := openT_some hk
            unfold settleT
            rw [h5]
            exact erase_mem h1 hs (hopen k t h1 h3 h4 (by omega))
          · exact hs
        · split
          · exact addT_mem _ hs
          · split
            · rename_i h6
              apply settleT_mem hs
              intro he
              rcases h with h | ⟨_, h⟩
              · apply h; unfold ofT; rw [if_neg (by omega)]; exact he
              · exact h ⟨h6, he.symm⟩
            · exact hs
theorem stays {l : List Txn} (c : CallT) (hl' : OkT (nextT l c).1) {id : Idn} {t : Txn} (hf : findT l id = (t, true)) (ha : t.asked = true) (hn : ¬ (c.kind = 6 ∧ c.id = id)) : findT (nextT l c).1 id = (t, true) := by
  obtain ⟨k, hk, he⟩ := find_true hf
  have := find_mem hl' (nextT_mem c (List.mem_of_getElem? hk) (.inr ⟨ha, by rw [he]; exact hn⟩))
  rwa [he] at this
theorem nextT_same {l : List Txn} (c : CallT) (h : (nextT l c).2 ≠ 0) : (nextT l c).1 = l := by
  have hadd : ∀ t, (addT l t).2 ≠ 0 → (addT l t).1 = l := by
    intro t
    unfold addT
    split
    · intro _; rfl
    · split
      · intro _; rfl
      · split
        · intro _; rfl
        · split
          · intro _; rfl
          · intro h; exact absurd rfl h
  revert h
  unfold nextT
  split
  · exact hadd _
  · split
    · unfold publishT
      split
      · intro _; rfl
      · split
        · intro _; rfl
        · split
          · intro _; rfl
          · split
            · intro _; rfl
            · split
              · intro _; rfl
              · intro h; exact absurd rfl h
    · split
      · unfold commitT
        split
        · intro _; rfl
        · split
          · intro _; rfl
          · intro h; exact absurd rfl h
      · split
        · unfold abortT
          split
          · intro h; exact absurd rfl h
          · intro _; rfl
        · split
          · exact hadd _
          · split
            · intro h; exact absurd rfl h
            · intro h; exact absurd rfl h
theorem alone {l : List Txn} (c : CallT) (hl' : OkT (nextT l c).1) {t : Txn} (ht : t ∈ l) (hne : idOf t.e ≠ ofT c) : findT (nextT l c).1 (idOf t.e) = (t, true) :=
  find_mem hl' (nextT_mem c ht (.inl hne))
/-- Of an entry that is among them all bytes are few. -/
theorem OkT.bytes {l : List Txn} (hl : OkT l) {t : Txn} (ht : t ∈ l) : okEn t.e = true ∧ fitEn t.e ∧ (encOf t.e).length ≤ 3000 ∧ 0 < (encOf t.e).length := by
  obtain ⟨h1, h2, h3⟩ := hl.each t ht
  refine ⟨h1, h2, by simpa [bigE] using h3, ?_⟩
  unfold encOf
  rw [h1]
  simp only [if_true, encEn, encHd, List.length_append]
  have : 1 ≤ (packN (kindN t.e.kind)).length := by simp [packN]
  omega
/-- One transaction, its events taken one after another. -/
def oneT (a : Idn) (c : Int) (es : List (List Att)) : Txn := ⟨{ pubE a c with es := es }, false⟩
theorem pubE_big (a : Idn) (c : Int) (h1 : a.2.1 < 18446744073709551616) (h2 : a.2.2 < 18446744073709551616) : bigE (pubE a c) = false := by
  have g1 := packN_len (kindN 1) (kindN_lt _)
  have g2 := packN_len (kindN a.1) (kindN_lt _)
  have g3 := packN_len a.2.1 h1
  have g4 := packN_len a.2.2 h2
  have g5 := packN_len (kindN c) (kindN_lt _)
  have g6 := packN_len 0 (by omega)
  simp only [bigE, encOf]
  split
  · simp [encEn, encHd, pubE]
    omega
  · simp
theorem begin_one (a : Idn) (c : Int) (h1 : a.2.1 < 18446744073709551616) (h2 : a.2.2 < 18446744073709551616) : beginT [] a c = if homeB a.1 && decide (0 ≤ c) && decide (c < 32) then ([oneT a c []], 0) else ([], 110) := by
  have hok : okEn (pubE a c) = (homeB a.1 && decide (0 ≤ c) && decide (c < 32)) := (show okEn (pubE a c) = (homeB a.1 && decide (0 ≤ c) && decide (c < 32) && true) from rfl).trans (Bool.and_true _)
  unfold beginT addT
  simp only [seekT, List.findIdx?_nil, Option.isSome_none, Bool.false_eq_true, if_false, pubE_big a c h1 h2, hok]
  cases (homeB a.1 && decide (0 ≤ c) && decide (c < 32)) <;> simp [oneT, pubE]
theorem publish_one (a : Idn) (c : Int) (es : List (List Att)) (e : List Att) : ∃ f, publishT [oneT a c es] a e = (if f = 0 then [oneT a c (es ++ [e])] else [oneT a c es], f) ∧ (f = 0 ∨ (f = 40 ∧ okE e = false) ∨ (f = 171 ∧ 8 ≤ es.length) ∨ f = 172) := by
  have ho : openT [oneT a c es] a = some 0 := by
    simp [openT, seekT, List.findIdx?_cons, isId, idOf, oneT, pubE]
  unfold publishT
  rw [ho]
  simp only [List.getElem?_cons_zero]
  split
  · rename_i h; exact ⟨40, rfl, .inr (.inl ⟨rfl, h⟩)⟩
  · split
    · rename_i h; exact ⟨171, rfl, .inr (.inr (.inl ⟨rfl, h⟩))⟩
    · split
      · exact ⟨172, rfl, .inr (.inr (.inr rfl))⟩
      · exact ⟨0, rfl, .inl rfl⟩
theorem find_one (a : Idn) (c : Int) (es : List (List Att)) : findT [oneT a c es] a = (oneT a c es, true) := by
  simp [findT, isId, idOf, oneT, pubE]
end Go.Proofs.Ytjcdgbnbaiebdaa

/-
  Transactions and calls in memory, and what is known of an argument that is a script (layer 17). Conditions: none.
-/
set_option maxRecDepth 100000
namespace Go.Proofs.Ytjcdgbnbaiebdaa
open Go Go.RowKit Go.ChangeShapes Go.WideShapes Go.ChangeAt

abbrev txA (t : Txn) (vf ve : Value) : Array Value := #[.int .i64 t.e.kind, .int .i64 t.e.br, .int .u64 (t.e.life : Int), .int .u64 (t.e.ser : Int), .int .i64 t.e.cl, .int .u64 (t.e.sub : Int), vf, ve, .bool t.asked]
def txS : Shp Txn where
  size := 9
  rel t cs w := ∃ vf ve, cs = (txA t vf ve).toList ∧ flt t.e.f vf w ∧ lst evS t.e.es ve w
  len := by rintro _ _ _ ⟨vf, ve, rfl, _⟩; rfl
  one := by
    rintro x _ _ ⟨vf, ve, rfl, ⟨A, c, rfl, _⟩, ⟨D, d, rfl, _⟩⟩ u hu
    simp at hu
    rcases hu with rfl | rfl | rfl | rfl | rfl | rfl | rfl | rfl | rfl <;> rfl
  st := by rintro _ _ _ _ ⟨vf, ve, rfl, h1, h2⟩ k; exact ⟨vf, ve, rfl, flt_st _ _ _ _ h1 k, lst_st h2 k⟩
def txv (t : Txn) (v : Value) (w : World) : Prop := ∃ vf ve, v = .agg (txA t vf ve) ∧ flt t.e.f vf w ∧ lst evS t.e.es ve w
theorem txv_st {t : Txn} {v : Value} {w w' : World} (h : txv t v w) (k : K w w') : txv t v w' := by
  obtain ⟨vf, ve, rfl, h1, h2⟩ := h
  exact ⟨vf, ve, rfl, flt_st _ _ _ _ h1 k, lst_st h2 k⟩
theorem txv_al {t : Txn} {v : Value} {w : World} (h : txv t v w) : ∀ W, K w W → txv t v W := fun _ k => txv_st h k
/-- Calls: fourteen cells. -/
abbrev callA (c : CallT) (v vf ve : Value) : Array Value := #[.int .i64 c.kind, .int .i64 c.id.1, .int .u64 (c.id.2.1 : Int), .int .u64 (c.id.2.2 : Int), .int .i64 c.cl, v,
  .int .i64 c.x.kind, .int .i64 c.x.br, .int .u64 (c.x.life : Int), .int .u64 (c.x.ser : Int), .int .i64 c.x.cl, .int .u64 (c.x.sub : Int), vf, ve]
def callS : Shp CallT where
  size := 14
  rel c cs w := ∃ v vf ve, cs = (callA c v vf ve).toList ∧ evt c.e v w ∧ flt c.x.f vf w ∧ lst evS c.x.es ve w
  len := by rintro _ _ _ ⟨v, vf, ve, rfl, _⟩; rfl
  one := by
    rintro x _ _ ⟨v, vf, ve, rfl, ⟨B, b, rfl, _⟩, ⟨A, c, rfl, _⟩, ⟨D, d, rfl, _⟩⟩ u hu
    simp at hu
    rcases hu with rfl | rfl | rfl | rfl | rfl | rfl | rfl | rfl | rfl | rfl | rfl | rfl | rfl | rfl <;> rfl
  st := by rintro _ _ _ _ ⟨v, vf, ve, rfl, h0, h1, h2⟩ k; exact ⟨v, vf, ve, rfl, evt_st _ _ _ _ h0 k, flt_st _ _ _ _ h1 k, lst_st h2 k⟩
def callv (c : CallT) (u : Value) (w : World) : Prop := ∃ v vf ve, u = .agg (callA c v vf ve) ∧ evt c.e v w ∧ flt c.x.f vf w ∧ lst evS c.x.es ve w
theorem callv_st {c : CallT} {u : Value} {w w' : World} (h : callv c u w) (k : K w w') : callv c u w' := by
  obtain ⟨v, vf, ve, rfl, h0, h1, h2⟩ := h
  exact ⟨v, vf, ve, rfl, evt_st _ _ _ _ h0 k, flt_st _ _ _ _ h1 k, lst_st h2 k⟩
def fitC (c : CallT) : Prop := i64ok c.kind ∧ fitI c.id ∧ i64ok c.cl ∧ (∀ a ∈ c.e, fitA a) ∧ fitEn c.x
def repScript (w : World) (v : Value) : Prop := ∃ l, lst callS l v w ∧ ∀ c ∈ l, fitC c
def repCall (w : World) (v : Value) : Prop := ∃ c, callv c v w ∧ fitC c
def repEvents (w : World) (v : Value) : Prop := ∃ l, lst evS l v w ∧ ∀ e ∈ l, ∀ a ∈ e, fitA a

section
variable {H : Type} {enc : TypeId × Value → H} {w : World} {base : Nat} {r : Reach} {b0 : Nat} {spare : Nat → Bool} {held : Bool} {v : Value} {d : DataW H} {p : List MemPlace}
theorem call_cells {fuel : Nat} {cs : List Value} {x : DataW H × List MemPlace} (h : DataW.trod enc Try.prog w base spare held fuel 36 cs = some x) : ∃ c : CallT, callS.rel c cs w ∧ fitC c := by
  obtain ⟨xs, n, _, _, hlen, hxl, hf⟩ := DataW.trod_struct Try.underlying36 h
  have hC : Try.prog.cellsOf 36 = 14 := by kernel_rfl
  rw [hC] at hlen
  have e1 : Try.prog.cellsOf 3 = 1 := by kernel_rfl
  have e3 : Try.prog.cellsOf 26 = 3 := by kernel_rfl
  have e4 : Try.prog.cellsOf 29 = 1 := by kernel_rfl
  have e5 : Try.prog.cellsOf 34 = 8 := by kernel_rfl
  have hxl' : xs.length = 5 := hxl
  match cs, hlen with
  | [c0, c1, c2, c3, c4, c5, c6, c7, c8, c9, c10, c11, c12, c13], _ =>
    have h0 := hf 0 _ rfl
    have h1 := hf 1 _ rfl
    have h2 := hf 2 _ rfl
    have h3 := hf 3 _ rfl
    have h4 := hf 4 _ rfl
    simp [e1, e3, e4, e5] at h0 h1 h2 h3 h4
    rw [List.getElem?_eq_getElem (by omega)] at h0 h1 h2 h3 h4
    obtain ⟨k, ek, wk⟩ := i64_cells h0
    obtain ⟨i, ei, wi⟩ := id_cells h1
    obtain ⟨c, ec, wc⟩ := i64_cells h2
    obtain ⟨e, ⟨v, ev, he⟩, we⟩ := ev_cells h3
    obtain ⟨y, ⟨vf, ve, ey, hfl, hl⟩, wy⟩ := en_cells h4
    obtain ⟨i0, i1, i2⟩ := i
    simp at ek ei ec ev ey
    obtain ⟨rfl, rfl, rfl⟩ := ei
    obtain ⟨rfl, rfl, rfl, rfl, rfl, rfl, rfl, rfl⟩ := ey
    subst ek ec ev
    exact ⟨⟨k, (i0, i1, i2), c, e, y⟩, ⟨c5, c12, c13, rfl, he, hfl, hl⟩, wk, wi, wc, we, wy⟩
theorem repScript_of (hv : Value.okWide Try.prog w r b0 23 v) (h : DataW.Trod enc Try.prog w base spare held 23 v d p) : repScript w v := by
  obtain ⟨A, n, c, rfl⟩ := okWide_slice Try.underlying23 hv
  obtain ⟨fuel, hf⟩ := h
  obtain ⟨v, l, e, hl, ho⟩ := lst_cells Try.underlying23 callS fitC (by kernel_rfl) (by decide) (fun _ _ _ _ ht => call_cells ht) hf
  simp [Value.cells] at e
  subst e
  exact ⟨l, hl, ho⟩
theorem repCall_of (hv : Value.okWide Try.prog w r b0 36 v) (h : DataW.Trod enc Try.prog w base spare held 36 v d p) : repCall w v := by
  obtain ⟨cs, rfl, hsz⟩ := okWide_struct Try.underlying36 hv
  obtain ⟨fuel, hf⟩ := h
  obtain ⟨c, ⟨v, vf, ve, h1, h2⟩, h4⟩ := call_cells hf
  refine ⟨c, ⟨v, vf, ve, ?_, h2⟩, h4⟩
  have : cs.toList = (callA c v vf ve).toList := by simpa [Value.cells] using h1
  obtain ⟨l⟩ := cs
  simp at this
  rw [this]
theorem repEvents_of (hv : Value.okWide Try.prog w r b0 32 v) (h : DataW.Trod enc Try.prog w base spare held 32 v d p) : repEvents w v := by
  obtain ⟨A, n, c, rfl⟩ := okWide_slice Try.underlying32 hv
  obtain ⟨fuel, hf⟩ := h
  obtain ⟨v, l, e, hl, ho⟩ := lst_cells Try.underlying32 evS (fun l => ∀ a ∈ l, fitA a) (by kernel_rfl) (by decide) (fun _ _ _ _ ht => ev_cells ht) hf
  simp [Value.cells] at e
  subst e
  exact ⟨l, hl, ho⟩
end
end Go.Proofs.Ytjcdgbnbaiebdaa
