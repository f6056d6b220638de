/-
  Messages in plain Lean (layer 13): what may be, what bytes they are, how a reader reads them. Conditions: none.
-/
import Derived.Test.YthnhdeieimgfhaaNA
namespace Go.Proofs.Ythnhdeieimgfhaa
open Go Go.RowKit

/-- What a reader tells of bytes: the item, what is left, whether something is wrong with the bytes, whether with a number. -/
abbrev Rd3 (α : Type) := List UInt8 → Bool → Bool → α × List UInt8 × Bool × Bool
structure Cod3 {α : Type} (enc : α → List UInt8) (ok : α → Prop) (rd : Rd3 α) : Prop where
  fwd : ∀ x, ok x → ∀ rest, rd (enc x ++ rest) false false = (x, rest, false, false)
  back : ∀ l wr bd, (rd l wr bd).2.2.1 = false → (rd l wr bd).2.2.2 = false → l = enc (rd l wr bd).1 ++ (rd l wr bd).2.1 ∧ wr = false ∧ bd = false
  len : ∀ l wr bd, (rd l wr bd).2.1.length ≤ l.length
/-- A number; one that is less than a limit. -/
def rdNu : Rd3 Nat := fun l wr bd => ((rdN l wr).1, (rdN l wr).2.1, (rdN l wr).2.2, bd)
def rdBe (lim : Nat) : Rd3 Nat := fun l wr bd => if (rdN l wr).1 < lim then ((rdN l wr).1, (rdN l wr).2.1, (rdN l wr).2.2, bd) else (0, (rdN l wr).2.1, (rdN l wr).2.2, true)
theorem rdNu_codec : Cod3 packN (fun n => n < 18446744073709551616) rdNu where
  fwd := by intro n h rest; simp only [rdNu, rdN_pack n h]
  back := by
    intro l wr bd h1 h2
    simp only [rdNu] at h1 h2 ⊢
    obtain ⟨e, w⟩ := rdN_back h1
    exact ⟨e, w, h2⟩
  len := fun l wr _ => rdN_len l wr
theorem rdBe_codec (lim : Nat) (hl : lim ≤ 18446744073709551616) : Cod3 packN (fun n => n < lim) (rdBe lim) where
  fwd := by
    intro n h rest
    simp only [rdBe, rdN_pack n (by omega)]
    rw [if_pos h]
  back := by
    intro l wr bd h1 h2
    simp only [rdBe] at h1 h2 ⊢
    split at h2
    · rename_i h
      rw [if_pos h] at h1 ⊢
      obtain ⟨e, w⟩ := rdN_back h1
      exact ⟨e, w, h2⟩
    · cases h2
  len := by
    intro l wr bd
    have := rdN_len l wr
    simp only [rdBe]
    split <;> exact this
theorem rdBe_lt (lim : Nat) (h0 : 0 < lim) (l : List UInt8) (wr bd : Bool) : (rdBe lim l wr bd).1 < lim := by
  simp only [rdBe]
  split
  · assumption
  · exact h0
/-- One behind the other. -/
def rdTwo {α β : Type} (a : Rd3 α) (b : Rd3 β) : Rd3 (α × β) := fun l wr bd =>
  (((a l wr bd).1, (b (a l wr bd).2.1 (a l wr bd).2.2.1 (a l wr bd).2.2.2).1), (b (a l wr bd).2.1 (a l wr bd).2.2.1 (a l wr bd).2.2.2).2)
theorem two_codec {α β : Type} {ea : α → List UInt8} {eb : β → List UInt8} {oa : α → Prop} {ob : β → Prop} {ra : Rd3 α} {rb : Rd3 β} (A : Cod3 ea oa ra) (B : Cod3 eb ob rb) :
    Cod3 (fun x : α × β => ea x.1 ++ eb x.2) (fun x => oa x.1 ∧ ob x.2) (rdTwo ra rb) where
  fwd := by
    rintro ⟨x, y⟩ ⟨h1, h2⟩ rest
    simp only [rdTwo, List.append_assoc, A.fwd x h1, B.fwd y h2]
  back := by
    intro l wr bd h1 h2
    simp only [rdTwo] at h1 h2 ⊢
    obtain ⟨e2, w2, b2⟩ := B.back _ _ _ h1 h2
    obtain ⟨e1, w1, b1⟩ := A.back _ _ _ w2 b2
    refine ⟨?_, w1, b1⟩
    rw [List.append_assoc, ← e2]
    exact e1
  len := fun l wr bd => Nat.le_trans (B.len _ _ _) (A.len _ _ _)
/-- Another form of what is read. -/
def rdMap {α β : Type} (f : α → β) (a : Rd3 α) : Rd3 β := fun l wr bd => (f (a l wr bd).1, (a l wr bd).2)
theorem map_codec {α β : Type} {ea : α → List UInt8} {oa : α → Prop} {ra : Rd3 α} (A : Cod3 ea oa ra) (f : α → β) {eb : β → List UInt8} {ob : β → Prop} (g : β → α) (h1 : ∀ y, ob y → oa (g y) ∧ f (g y) = y ∧ eb y = ea (g y)) (h2 : ∀ l wr bd, eb (f (ra l wr bd).1) = ea (ra l wr bd).1) : Cod3 eb ob (rdMap f ra) where
  fwd := by
    intro y hy rest
    obtain ⟨g1, g2, g3⟩ := h1 y hy
    simp only [rdMap, g3, A.fwd _ g1, g2]
  back := by
    intro l wr bd h3 h4
    simp only [rdMap] at h3 h4 ⊢
    rw [h2]
    exact A.back _ _ _ h3 h4
  len := fun l wr bd => A.len l wr bd
/-- Some, one behind the other. -/
def rdL3 {α : Type} (rd : Rd3 α) : Nat → Rd3 (List α)
  | 0 => fun l wr bd => ([], l, wr, bd)
  | k + 1 => fun l wr bd => ((rdL3 rd k l wr bd).1 ++ [(rd (rdL3 rd k l wr bd).2.1 (rdL3 rd k l wr bd).2.2.1 (rdL3 rd k l wr bd).2.2.2).1], (rd (rdL3 rd k l wr bd).2.1 (rdL3 rd k l wr bd).2.2.1 (rdL3 rd k l wr bd).2.2.2).2)
section
variable {α : Type} {enc : α → List UInt8} {ok : α → Prop} {rd : Rd3 α}
theorem rdL3_len (C : Cod3 enc ok rd) (k : Nat) (l : List UInt8) (wr bd : Bool) : (rdL3 rd k l wr bd).2.1.length ≤ l.length ∧ (rdL3 rd k l wr bd).1.length = k := by
  induction k with
  | zero => exact ⟨Nat.le_refl _, rfl⟩
  | succ k ih => exact ⟨Nat.le_trans (C.len _ _ _) ih.1, by simp [rdL3, ih.2]⟩
theorem rdL3_all (p : α → Prop) (hp : ∀ l wr bd, p (rd l wr bd).1) (k : Nat) (l : List UInt8) (wr bd : Bool) : ∀ x ∈ (rdL3 rd k l wr bd).1, p x := by
  induction k with
  | zero => simp [rdL3]
  | succ k ih =>
    intro x hx
    rcases List.mem_append.1 hx with hx | hx
    · exact ih x hx
    · simp only [List.mem_singleton] at hx
      subst hx
      exact hp _ _ _
theorem rdL3_fwd (C : Cod3 enc ok rd) (l : List α) (h : ∀ x ∈ l, ok x) (rest : List UInt8) : ∀ k, k ≤ l.length → rdL3 rd k (l.flatMap enc ++ rest) false false = (l.take k, (l.drop k).flatMap enc ++ rest, false, false) := by
  intro k
  induction k with
  | zero => intro _; simp [rdL3]
  | succ k ih =>
    intro hk
    have hk' : k < l.length := by omega
    have hd : l.drop k = l[k] :: l.drop (k + 1) := by rw [List.getElem_cons_drop]
    have hx := h l[k] (List.getElem_mem hk')
    simp only [rdL3]
    rw [ih (by omega)]
    simp only
    rw [hd, List.flatMap_cons, List.append_assoc, C.fwd _ hx, List.take_succ_eq_append_getElem hk']
theorem rdL3_back (C : Cod3 enc ok rd) {k : Nat} {l : List UInt8} {wr bd : Bool} (h : (rdL3 rd k l wr bd).2.2.1 = false) (h' : (rdL3 rd k l wr bd).2.2.2 = false) : l = (rdL3 rd k l wr bd).1.flatMap enc ++ (rdL3 rd k l wr bd).2.1 ∧ wr = false ∧ bd = false := by
  induction k with
  | zero => exact ⟨by simp [rdL3], h, h'⟩
  | succ k ih =>
    simp only [rdL3] at h h' ⊢
    obtain ⟨e1, w1, b1⟩ := C.back _ _ _ h h'
    obtain ⟨e2, w2, b2⟩ := ih w1 b1
    refine ⟨?_, w2, b2⟩
    rw [List.flatMap_append, List.flatMap_cons, List.flatMap_nil, List.append_nil, List.append_assoc, ← e1]
    exact e2
/-- A list, its number ahead of it. -/
def layL (enc : α → List UInt8) (l : List α) : List UInt8 := packN l.length ++ l.flatMap enc
def rdLi (rd : Rd3 α) : Rd3 (List α) := fun l wr bd => rdL3 rd (rdBe 17 l wr bd).1 (rdBe 17 l wr bd).2.1 (rdBe 17 l wr bd).2.2.1 (rdBe 17 l wr bd).2.2.2
theorem rdLi_codec (C : Cod3 enc ok rd) : Cod3 (layL enc) (fun l => l.length ≤ 16 ∧ ∀ x ∈ l, ok x) (rdLi rd) where
  fwd := by
    rintro l ⟨h1, h2⟩ rest
    simp only [rdLi, layL, List.append_assoc, (rdBe_codec 17 (by omega)).fwd l.length (by show l.length < 17; omega)]
    rw [rdL3_fwd C l h2 rest l.length (Nat.le_refl _)]
    simp
  back := by
    intro l wr bd h1 h2
    simp only [rdLi] at h1 h2 ⊢
    obtain ⟨e1, w1, b1⟩ := rdL3_back C h1 h2
    obtain ⟨e2, w2, b2⟩ := (rdBe_codec 17 (by omega)).back _ _ _ w1 b1
    refine ⟨?_, w2, b2⟩
    unfold layL
    rw [(rdL3_len C _ _ _ _).2, List.append_assoc, ← e1]
    exact e2
  len := fun l wr bd => Nat.le_trans (rdL3_len C _ _ _ _).1 ((rdBe_codec 17 (by omega)).len _ _ _)
end
/-- A vote. -/
structure Vot where
  id : Idn
  yes : Bool
  deriving DecidableEq
/-- A message. -/
structure Msg where
  kind : Int
  got : Nat
  votes : List Vot
  asks : List Ent
  entries : List Ent
  prepares : List Ent
  aborts : List Idn
  ends : List Idn
  deriving DecidableEq
def msg0 : Msg := ⟨0, 0, [], [], [], [], [], []⟩
def okId (a : Idn) : Bool := homeB a.1
def okVo (v : Vot) : Bool := homeB v.id.1
def okLs {α : Type} (p : α → Bool) (l : List α) : Bool := decide (l.length ≤ 16) && l.all p
def okKd (m : Msg) : Bool := if m.kind = 1 then m.entries.isEmpty && m.prepares.isEmpty && m.aborts.isEmpty && m.ends.isEmpty else if m.kind = 2 then m.votes.isEmpty && m.asks.isEmpty else false
def okM (m : Msg) : Bool := okKd m && okLs okVo m.votes && okLs okEn m.asks && okLs okEn m.entries && okLs okEn m.prepares && okLs okId m.aborts && okLs okId m.ends
def chkM (m : Msg) : Int := if okM m then 0 else 130
def fitM (m : Msg) : Prop := i64ok m.kind ∧ m.got < 18446744073709551616 ∧ (∀ v ∈ m.votes, fitI v.id) ∧ (∀ x ∈ m.asks, fitEn x) ∧ (∀ x ∈ m.entries, fitEn x) ∧ (∀ x ∈ m.prepares, fitEn x) ∧ (∀ a ∈ m.aborts, fitI a) ∧ ∀ a ∈ m.ends, fitI a
def encVo (v : Vot) : List UInt8 := encId v.id ++ packN (if v.yes then 1 else 0)
/-- An entry's bytes, as they are laid (none of one that may not be). -/
def encEb (x : Ent) : List UInt8 := packB (encEnR x)
def encM (m : Msg) : List UInt8 := packN (kindN m.kind) ++ packN m.got ++ (if m.kind = 1 then layL encVo m.votes ++ layL encEb m.asks else layL encEb m.entries ++ layL encEb m.prepares ++ layL encId m.aborts ++ layL encId m.ends)
def encMR (m : Msg) : List UInt8 := if okM m then encM m else []
/-- How each is read. -/
def rdId3 : Rd3 Idn := rdMap (fun x => ((x.1 : Int), x.2.1, x.2.2)) (rdTwo (rdBe 16) (rdTwo rdNu rdNu))
def rdVo : Rd3 Vot := rdMap (fun x => ⟨x.1, decide (x.2 = 1)⟩) (rdTwo rdId3 (rdBe 2))
def rdEb (n : Int) : Rd3 Ent := fun l wr bd => (decEnX (rdB n l wr).1, (rdB n l wr).2.1, (rdB n l wr).2.2, bd || (decEn (rdB n l wr).1).isNone)
theorem rdId3_codec : Cod3 encId (fun a => homeB a.1 = true ∧ fitI a) rdId3 := by
  refine map_codec (two_codec (rdBe_codec 16 (by omega)) (two_codec rdNu_codec rdNu_codec)) _ (fun a : Idn => (a.1.toNat, a.2.1, a.2.2)) ?_ ?_
  · rintro ⟨b, l, s⟩ ⟨h1, h2⟩
    simp only [homeB, Bool.and_eq_true, decide_eq_true_eq] at h1
    refine ⟨⟨by show b.toNat < 16; omega, h2.2.1, h2.2.2⟩, ?_, ?_⟩
    · simp only [Prod.mk.injEq, and_true]; omega
    · simp only [encId]
      rw [kindN_nat b h1.1 (by omega)]
  · intro l wr bd
    have := rdBe_lt 16 (by omega) l wr bd
    simp only [rdTwo, encId]
    rw [kindN_nat _ (by omega) (by omega)]
    simp
theorem rdVo_codec : Cod3 encVo (fun v => homeB v.id.1 = true ∧ fitI v.id) rdVo := by
  refine map_codec (two_codec rdId3_codec (rdBe_codec 2 (by omega))) _ (fun v : Vot => (v.id, if v.yes then 1 else 0)) ?_ ?_
  · rintro ⟨a, y⟩ ⟨h1, h2⟩
    refine ⟨⟨⟨h1, h2⟩, by cases y <;> simp⟩, by cases y <;> rfl, rfl⟩
  · intro l wr bd
    simp only [rdTwo, encVo]
    have h2 := rdBe_lt 2 (by omega) (rdId3 l wr bd).2.1 (rdId3 l wr bd).2.2.1 (rdId3 l wr bd).2.2.2
    have key : ∀ n : Nat, n < 2 → (if decide (n = 1) = true then 1 else 0) = n := by
      intro n hn
      by_cases h : n = 1
      · simp [h]
      · have : n = 0 := by omega
        simp [this]
    exact congrArg (fun n => encId (rdId3 l wr bd).1 ++ packN n) (key _ h2)
theorem rdEb_codec (n : Int) : Cod3 encEb (fun x => okEn x = true ∧ fitEn x ∧ ((encEn x).length : Int) ≤ n) (rdEb n) where
  fwd := by
    rintro x ⟨h1, h2, h3⟩ rest
    have hl := encEn_len h1 h2
    have hb := rdB_pack n (encEn x) (by omega) h3 rest
    have e : encEnR x = encEn x := by unfold encEnR; rw [h1]; rfl
    simp only [rdEb, encEb, packB, e]
    rw [hb]
    simp only [decEnX, decEn_enc x h1 h2]
    rfl
  back := by
    intro l wr bd h1 h2
    simp only [rdEb, Bool.or_eq_false_iff] at h1 h2 ⊢
    obtain ⟨e1, _, w1⟩ := rdB_back h1
    cases hd : decEn (rdB n l wr).1 with
    | none => rw [hd] at h2; cases h2.2
    | some x =>
      obtain ⟨e2, o2⟩ := decEn_back hd
      refine ⟨?_, w1, h2.1⟩
      have e : encEnR x = encEn x := by unfold encEnR; rw [o2]; rfl
      simp only [decEnX, hd, Option.getD_some, encEb, packB, e]
      rw [← e2]
      exact e1
  len := fun l wr _ => rdB_len n l wr
/-- A message as a reader reads it. -/
def rdHd : Rd3 (Nat × Nat) := rdTwo (rdBe 3) rdNu
def rdM1 (n : Int) : Rd3 (List Vot × List Ent) := rdTwo (rdLi rdVo) (rdLi (rdEb n))
def rdM2 (n : Int) : Rd3 (List Ent × List Ent × List Idn × List Idn) := rdTwo (rdLi (rdEb n)) (rdTwo (rdLi (rdEb n)) (rdTwo (rdLi rdId3) (rdLi rdId3)))
def rdM (n : Int) : Rd3 Msg := fun l wr bd =>
  if (rdHd l wr bd).1.1 = 1 then (⟨1, (rdHd l wr bd).1.2, (rdM1 n (rdHd l wr bd).2.1 (rdHd l wr bd).2.2.1 (rdHd l wr bd).2.2.2).1.1, (rdM1 n (rdHd l wr bd).2.1 (rdHd l wr bd).2.2.1 (rdHd l wr bd).2.2.2).1.2, [], [], [], []⟩, (rdM1 n (rdHd l wr bd).2.1 (rdHd l wr bd).2.2.1 (rdHd l wr bd).2.2.2).2)
  else if (rdHd l wr bd).1.1 = 2 then (⟨2, (rdHd l wr bd).1.2, [], [], (rdM2 n (rdHd l wr bd).2.1 (rdHd l wr bd).2.2.1 (rdHd l wr bd).2.2.2).1.1, (rdM2 n (rdHd l wr bd).2.1 (rdHd l wr bd).2.2.1 (rdHd l wr bd).2.2.2).1.2.1, (rdM2 n (rdHd l wr bd).2.1 (rdHd l wr bd).2.2.1 (rdHd l wr bd).2.2.2).1.2.2.1, (rdM2 n (rdHd l wr bd).2.1 (rdHd l wr bd).2.2.1 (rdHd l wr bd).2.2.2).1.2.2.2⟩, (rdM2 n (rdHd l wr bd).2.1 (rdHd l wr bd).2.2.1 (rdHd l wr bd).2.2.2).2)
  else (⟨((rdHd l wr bd).1.1 : Int), (rdHd l wr bd).1.2, [], [], [], [], [], []⟩, (rdHd l wr bd).2)
/-- The message that bytes are, if they are one. -/
def decM (b : List UInt8) : Option Msg := if !(rdM b.length b false false).2.2.2 && (!(rdM b.length b false false).2.2.1 && (rdM b.length b false false).2.1.isEmpty) && okM (rdM b.length b false false).1 then some (rdM b.length b false false).1 else none
def decMX (b : List UInt8) : Msg := (decM b).getD msg0
def decMC (b : List UInt8) : Int := if (decM b).isSome then 0 else 130
theorem rdM_one {n : Int} {l l1 : List UInt8} {wr bd w1 b1 : Bool} {g : Nat} (h : rdHd l wr bd = ((1, g), l1, w1, b1)) : rdM n l wr bd = (⟨1, g, (rdM1 n l1 w1 b1).1.1, (rdM1 n l1 w1 b1).1.2, [], [], [], []⟩, (rdM1 n l1 w1 b1).2) := by
  unfold rdM; rw [h]; rfl
theorem rdM_two {n : Int} {l l1 : List UInt8} {wr bd w1 b1 : Bool} {g : Nat} (h : rdHd l wr bd = ((2, g), l1, w1, b1)) : rdM n l wr bd = (⟨2, g, [], [], (rdM2 n l1 w1 b1).1.1, (rdM2 n l1 w1 b1).1.2.1, (rdM2 n l1 w1 b1).1.2.2.1, (rdM2 n l1 w1 b1).1.2.2.2⟩, (rdM2 n l1 w1 b1).2) := by
  unfold rdM; rw [h]; rfl
theorem rdM_no {n : Int} {l l1 : List UInt8} {wr bd w1 b1 : Bool} {k g : Nat} (h : rdHd l wr bd = ((k, g), l1, w1, b1)) (h1 : ¬ k = 1) (h2 : ¬ k = 2) : rdM n l wr bd = (⟨(k : Int), g, [], [], [], [], [], []⟩, l1, w1, b1) := by
  unfold rdM; rw [h]; simp only; rw [if_neg h1, if_neg h2]
theorem okLs_iff {α : Type} {p : α → Bool} {l : List α} : okLs p l = true ↔ l.length ≤ 16 ∧ ∀ x ∈ l, p x = true := by
  simp only [okLs, Bool.and_eq_true, decide_eq_true_eq, List.all_eq_true]
theorem okM_parts {m : Msg} (h : okM m = true) : ((m.kind = 1 ∧ m.entries = [] ∧ m.prepares = [] ∧ m.aborts = [] ∧ m.ends = []) ∨ (m.kind = 2 ∧ m.votes = [] ∧ m.asks = [])) ∧
    (m.votes.length ≤ 16 ∧ ∀ x ∈ m.votes, okVo x = true) ∧ (m.asks.length ≤ 16 ∧ ∀ x ∈ m.asks, okEn x = true) ∧ (m.entries.length ≤ 16 ∧ ∀ x ∈ m.entries, okEn x = true) ∧ (m.prepares.length ≤ 16 ∧ ∀ x ∈ m.prepares, okEn x = true) ∧
    (m.aborts.length ≤ 16 ∧ ∀ x ∈ m.aborts, okId x = true) ∧ (m.ends.length ≤ 16 ∧ ∀ x ∈ m.ends, okId x = true) := by
  simp only [okM, Bool.and_eq_true, okLs_iff] at h
  obtain ⟨⟨⟨⟨⟨⟨h0, h1⟩, h2⟩, h3⟩, h4⟩, h5⟩, h6⟩ := h
  refine ⟨?_, h1, h2, h3, h4, h5, h6⟩
  unfold okKd at h0
  split at h0
  · rename_i hk
    simp only [Bool.and_eq_true, List.isEmpty_iff] at h0
    exact .inl ⟨hk, h0.1.1.1, h0.1.1.2, h0.1.2, h0.2⟩
  · split at h0
    · rename_i hk
      simp only [Bool.and_eq_true, List.isEmpty_iff] at h0
      exact .inr ⟨hk, h0.1, h0.2⟩
    · cases h0
def subM (n : Int) (m : Msg) : Prop := (∀ x ∈ m.asks, ((encEn x).length : Int) ≤ n) ∧ (∀ x ∈ m.entries, ((encEn x).length : Int) ≤ n) ∧ ∀ x ∈ m.prepares, ((encEn x).length : Int) ≤ n
theorem rdM_fwd (n : Int) (m : Msg) (h : okM m = true) (hf : fitM m) (hn : subM n m) (rest : List UInt8) : rdM n (encM m ++ rest) false false = (m, rest, false, false) := by
  obtain ⟨hk, g1, g2, g3, g4, g5, g6⟩ := okM_parts h
  obtain ⟨kind, got, votes, asks, entries, prepares, aborts, ends⟩ := m
  obtain ⟨-, f0, f1, f2, f3, f4, f5, f6⟩ := hf
  obtain ⟨n1, n2, n3⟩ := hn
  simp only at hk g1 g2 g3 g4 g5 g6 f0 f1 f2 f3 f4 f5 f6 n1 n2 n3
  have CH := two_codec (rdBe_codec 3 (by omega)) rdNu_codec
  rcases hk with ⟨rfl, rfl, rfl, rfl, rfl⟩ | ⟨rfl, rfl, rfl⟩
  · have e : encM ⟨1, got, votes, asks, [], [], [], []⟩ ++ rest = (packN 1 ++ packN got) ++ ((layL encVo votes ++ layL encEb asks) ++ rest) := by
      simp [encM, List.append_assoc, show kindN 1 = 1 from rfl]
    rw [e, rdM_one (CH.fwd (1, got) ⟨by show 1 < 3; omega, f0⟩ _)]
    have C1 := two_codec (rdLi_codec rdVo_codec) (rdLi_codec (rdEb_codec n))
    have := C1.fwd (votes, asks) ⟨⟨g1.1, fun v hv => ⟨g1.2 v hv, f1 v hv⟩⟩, g2.1, fun x hx => ⟨g2.2 x hx, f2 x hx, n1 x hx⟩⟩ rest
    simp only at this
    unfold rdM1
    rw [this]
  · have e : encM ⟨2, got, [], [], entries, prepares, aborts, ends⟩ ++ rest = (packN 2 ++ packN got) ++ ((layL encEb entries ++ (layL encEb prepares ++ (layL encId aborts ++ layL encId ends))) ++ rest) := by
      simp [encM, List.append_assoc, show kindN 2 = 2 from rfl]
    rw [e, rdM_two (CH.fwd (2, got) ⟨by show 2 < 3; omega, f0⟩ _)]
    have C2 := two_codec (rdLi_codec (rdEb_codec n)) (two_codec (rdLi_codec (rdEb_codec n)) (two_codec (rdLi_codec rdId3_codec) (rdLi_codec rdId3_codec)))
    have := C2.fwd (entries, prepares, aborts, ends) ⟨⟨g3.1, fun x hx => ⟨g3.2 x hx, f3 x hx, n2 x hx⟩⟩, ⟨g4.1, fun x hx => ⟨g4.2 x hx, f4 x hx, n3 x hx⟩⟩, ⟨g5.1, fun a ha => ⟨g5.2 a ha, f5 a ha⟩⟩, g6.1, fun a ha => ⟨g6.2 a ha, f6 a ha⟩⟩ rest
    simp only at this
    unfold rdM2
    rw [this]
theorem rdM_back (n : Int) (l : List UInt8) (wr bd : Bool) (h1 : (rdM n l wr bd).2.2.1 = false) (h2 : (rdM n l wr bd).2.2.2 = false) (ok : okM (rdM n l wr bd).1 = true) : l = encM (rdM n l wr bd).1 ++ (rdM n l wr bd).2.1 ∧ wr = false ∧ bd = false := by
  have CH := two_codec (rdBe_codec 3 (by omega)) rdNu_codec
  obtain ⟨k, g, l1, w1, b1, hH⟩ : ∃ k g l1 w1 b1, rdHd l wr bd = ((k, g), l1, w1, b1) := ⟨_, _, _, _, _, rfl⟩
  have hB := CH.back l wr bd
  rw [show rdTwo (rdBe 3) rdNu l wr bd = ((k, g), l1, w1, b1) from hH] at hB
  simp only at hB
  by_cases hk1 : k = 1
  · subst hk1
    rw [rdM_one hH] at h1 h2 ok ⊢
    simp only at h1 h2 ok ⊢
    have C1 := two_codec (rdLi_codec rdVo_codec) (rdLi_codec (rdEb_codec n))
    obtain ⟨e1, c1, c2⟩ := C1.back l1 w1 b1 h1 h2
    obtain ⟨e2, c3, c4⟩ := hB c1 c2
    refine ⟨?_, c3, c4⟩
    have e : ∀ v a, encM ⟨1, g, v, a, [], [], [], []⟩ = (packN 1 ++ packN g) ++ (layL encVo v ++ layL encEb a) := by intro v a; simp [encM, show kindN 1 = 1 from rfl]
    rw [e, List.append_assoc (packN 1 ++ packN g)]
    unfold rdM1
    rw [← e1]
    exact e2
  · by_cases hk2 : k = 2
    · subst hk2
      rw [rdM_two hH] at h1 h2 ok ⊢
      simp only at h1 h2 ok ⊢
      have C2 := two_codec (rdLi_codec (rdEb_codec n)) (two_codec (rdLi_codec (rdEb_codec n)) (two_codec (rdLi_codec rdId3_codec) (rdLi_codec rdId3_codec)))
      have hC := C2.back l1 w1 b1
      rw [show rdTwo (rdLi (rdEb n)) (rdTwo (rdLi (rdEb n)) (rdTwo (rdLi rdId3) (rdLi rdId3))) l1 w1 b1 = rdM2 n l1 w1 b1 from rfl] at hC
      generalize rdM2 n l1 w1 b1 = r at *
      obtain ⟨⟨ra, rb, rc, rd⟩, rl, rw_, rb_⟩ := r
      simp only at h1 h2 ok hC ⊢
      obtain ⟨e1, c1, c2⟩ := hC h1 h2
      obtain ⟨e2, c3, c4⟩ := hB c1 c2
      refine ⟨?_, c3, c4⟩
      have e : ∀ a b c d, encM ⟨2, g, [], [], a, b, c, d⟩ = (packN 2 ++ packN g) ++ (layL encEb a ++ (layL encEb b ++ (layL encId c ++ layL encId d))) := by intro a b c d; simp [encM, show kindN 2 = 2 from rfl]
      rw [e, List.append_assoc (packN 2 ++ packN g), ← e1]
      exact e2
    · rw [rdM_no hH hk1 hk2] at ok
      have := (okM_parts ok).1
      simp only at this
      omega
theorem layL_sub {α : Type} (enc : α → List UInt8) (l : List α) (x : α) (hx : x ∈ l) : (enc x).length ≤ (layL enc l).length := by
  obtain ⟨s, t, rfl⟩ := List.append_of_mem hx
  simp only [layL, List.flatMap_append, List.flatMap_cons, List.length_append]
  omega
theorem encM_sub (m : Msg) (h : okM m = true) : subM ((encM m).length : Int) m := by
  obtain ⟨hk, g1, g2, g3, g4, g5, g6⟩ := okM_parts h
  have key : ∀ (l : List Ent), (∀ x ∈ l, okEn x = true) → (layL encEb l).length ≤ (encM m).length → ∀ x ∈ l, ((encEn x).length : Int) ≤ ((encM m).length : Int) := by
    intro l hl hle x hx
    have h1 := layL_sub encEb l x hx
    have e : encEnR x = encEn x := by unfold encEnR; rw [hl x hx]; rfl
    simp only [encEb, packB, e, List.length_append] at h1
    omega
  rcases hk with ⟨k, e1, e2, e3, e4⟩ | ⟨k, e1, e2⟩
  · refine ⟨key _ g2.2 ?_, by rw [e1]; simp, by rw [e2]; simp⟩
    unfold encM; rw [if_pos k]; simp only [List.length_append]; omega
  · refine ⟨by rw [e2]; simp, key _ g3.2 ?_, key _ g4.2 ?_⟩
    · unfold encM; rw [if_neg (by omega)]; simp only [List.length_append]; omega
    · unfold encM; rw [if_neg (by omega)]; simp only [List.length_append]; omega
theorem subM_more {n n' : Int} {m : Msg} (h : subM n m) (hn : n ≤ n') : subM n' m := ⟨fun x hx => Int.le_trans (h.1 x hx) hn, fun x hx => Int.le_trans (h.2.1 x hx) hn, fun x hx => Int.le_trans (h.2.2 x hx) hn⟩
theorem decM_back {b : List UInt8} {m : Msg} (h : decM b = some m) : b = encM m ∧ okM m = true := by
  unfold decM at h
  split at h
  · rename_i hq
    injection h with h
    simp only [Bool.and_eq_true, Bool.not_eq_true', List.isEmpty_iff] at hq
    obtain ⟨⟨h1, h2, h3⟩, h4⟩ := hq
    have hb := (rdM_back _ b false false h2 h1 h4).1
    rw [h3, List.append_nil, h] at hb
    rw [h] at h4
    exact ⟨hb, h4⟩
  · cases h
theorem decM_enc (m : Msg) (h : okM m = true) (hf : fitM m) : decM (encM m) = some m := by
  have hR := rdM_fwd ((encM m).length : Int) m h hf (encM_sub m h) []
  rw [List.append_nil] at hR
  unfold decM
  rw [hR]
  simp [h]
theorem decEnX_fit (b : List UInt8) : fitEn (decEnX b) := by
  unfold decEnX
  cases h : decEn b with
  | none => exact ent0_fit
  | some x => exact decEn_fit h
theorem rdId3_fit (l : List UInt8) (wr bd : Bool) : fitI (rdId3 l wr bd).1 := by
  have h := rdBe_lt 16 (by omega) l wr bd
  refine ⟨?_, rdN_lt _ _, rdN_lt _ _⟩
  simp only [rdId3, rdMap, rdTwo, i64ok]
  omega
theorem rdVo_fit (l : List UInt8) (wr bd : Bool) : fitI (rdVo l wr bd).1.id := rdId3_fit l wr bd
theorem rdEb_fit (n : Int) (l : List UInt8) (wr bd : Bool) : fitEn (rdEb n l wr bd).1 := decEnX_fit _
theorem rdLi_all {α : Type} {rd : Rd3 α} (p : α → Prop) (hp : ∀ l wr bd, p (rd l wr bd).1) (l : List UInt8) (wr bd : Bool) : ∀ x ∈ (rdLi rd l wr bd).1, p x := rdL3_all p hp _ _ _ _
theorem rdM1_fit (n : Int) (l : List UInt8) (wr bd : Bool) : (∀ v ∈ (rdM1 n l wr bd).1.1, fitI v.id) ∧ ∀ x ∈ (rdM1 n l wr bd).1.2, fitEn x :=
  ⟨rdLi_all (fun v : Vot => fitI v.id) rdVo_fit l wr bd, rdLi_all fitEn (rdEb_fit n) _ _ _⟩
theorem rdM2_fit (n : Int) (l : List UInt8) (wr bd : Bool) : (∀ x ∈ (rdM2 n l wr bd).1.1, fitEn x) ∧ (∀ x ∈ (rdM2 n l wr bd).1.2.1, fitEn x) ∧ (∀ x ∈ (rdM2 n l wr bd).1.2.2.1, fitI x) ∧ ∀ x ∈ (rdM2 n l wr bd).1.2.2.2, fitI x := by
  obtain ⟨r1, h1⟩ : ∃ r, rdLi (rdEb n) l wr bd = r := ⟨_, rfl⟩
  obtain ⟨r2, h2⟩ : ∃ r, rdLi (rdEb n) r1.2.1 r1.2.2.1 r1.2.2.2 = r := ⟨_, rfl⟩
  obtain ⟨r3, h3⟩ : ∃ r, rdLi rdId3 r2.2.1 r2.2.2.1 r2.2.2.2 = r := ⟨_, rfl⟩
  obtain ⟨r4, h4⟩ : ∃ r, rdLi rdId3 r3.2.1 r3.2.2.1 r3.2.2.2 = r := ⟨_, rfl⟩
  have g1 := rdLi_all fitEn (rdEb_fit n) l wr bd
  have g2 := rdLi_all fitEn (rdEb_fit n) r1.2.1 r1.2.2.1 r1.2.2.2
  have g3 := rdLi_all fitI rdId3_fit r2.2.1 r2.2.2.1 r2.2.2.2
  have g4 := rdLi_all fitI rdId3_fit r3.2.1 r3.2.2.1 r3.2.2.2
  have e : (rdM2 n l wr bd).1 = (r1.1, r2.1, r3.1, r4.1) := by
    simp only [rdM2, rdTwo, h1, h2, h3, h4]
  rw [e]
  rw [h1] at g1; rw [h2] at g2; rw [h3] at g3; rw [h4] at g4
  exact ⟨g1, g2, g3, g4⟩
theorem rdM_fit (n : Int) (l : List UInt8) (wr bd : Bool) : fitM (rdM n l wr bd).1 := by
  have hg : (rdHd l wr bd).1.2 < 18446744073709551616 := rdN_lt _ _
  have hk : (rdHd l wr bd).1.1 < 3 := rdBe_lt 3 (by omega) l wr bd
  obtain ⟨k, g, l1, w1, b1, hH⟩ : ∃ k g l1 w1 b1, rdHd l wr bd = ((k, g), l1, w1, b1) := ⟨_, _, _, _, _, rfl⟩
  rw [hH] at hg hk
  simp only at hg hk
  by_cases hk1 : k = 1
  · subst hk1
    rw [rdM_one hH]
    have := rdM1_fit n l1 w1 b1
    exact ⟨by simp [i64ok], hg, this.1, this.2, by simp, by simp, by simp, by simp⟩
  · by_cases hk2 : k = 2
    · subst hk2
      rw [rdM_two hH]
      have := rdM2_fit n l1 w1 b1
      exact ⟨by simp [i64ok], hg, by simp, by simp, this.1, this.2.1, this.2.2.1, this.2.2.2⟩
    · rw [rdM_no hH hk1 hk2]
      refine ⟨?_, hg, by simp, by simp, by simp, by simp, by simp, by simp⟩
      simp only [i64ok]; omega
theorem decM_fit {b : List UInt8} {m : Msg} (h : decM b = some m) : fitM m := by
  unfold decM at h
  split at h
  · injection h with h
    rw [← h]
    exact rdM_fit _ _ _ _
  · cases h
/-- Bytes behind a message's, and ahead of its last, are none. -/
theorem decM_more (m : Msg) (h : okM m = true) (hf : fitM m) (r : List UInt8) (hr : r ≠ []) : decM (encM m ++ r) = none := by
  have hR := rdM_fwd ((encM m ++ r).length : Int) m h hf (subM_more (encM_sub m h) (by simp; omega)) r
  unfold decM
  rw [hR]
  cases r with
  | nil => exact absurd rfl hr
  | cons x r => simp
theorem decM_cut (m : Msg) (h : okM m = true) (hf : fitM m) : decM ((encM m).take ((encM m).length - 1)) = none := by
  cases hd : decM ((encM m).take ((encM m).length - 1)) with
  | none => rfl
  | some m' =>
    exfalso
    obtain ⟨e, ok⟩ := decM_back hd
    have fm := decM_fit hd
    have hp : 0 < (encM m).length := by
      unfold encM; simp only [List.length_append]
      have : 1 ≤ (packN (kindN m.kind)).length := by simp [packN]
      omega
    have e2 : encM m = encM m' ++ (encM m).drop ((encM m).length - 1) := by
      rw [← e]; exact (List.take_append_drop _ _).symm
    have h2 := decM_enc m h hf
    rw [e2, decM_more m' ok fm _ (by
      intro e0
      have := congrArg List.length e0
      simp at this
      omega)] at h2
    cases h2
theorem encM_inj {x y : Msg} (hx : okM x = true) (hy : okM y = true) (fx : fitM x) (fy : fitM y) (h : encM x = encM y) : x = y := by
  have h1 := decM_enc x hx fx
  rw [h, decM_enc y hy fy] at h1
  injection h1 with h1
  exact h1.symm
end Go.Proofs.Ythnhdeieimgfhaa
