/-
  What is known of an argument of type api.Filter, and of api.Test: tests, five cells each. Conditions: none.
-/
import Derived.Test.YthnhdeieimgfhaaVA
set_option maxRecDepth 100000
namespace Go.Proofs.Ythnhdeieimgfhaa
open Go Go.RowKit Go.ChangeShapes Go.WideShapes Go.ChangeAt

/-- A test: its name, op, and its value's kind, number and text. -/
abbrev Tst := ByteArray × Int × Int × Int × ByteArray
abbrev tstc (x : Tst) : List Value := [.string x.1, .int .i64 x.2.1, .int .i64 x.2.2.1, .int .i64 x.2.2.2.1, .string x.2.2.2.2]
abbrev tstv (x : Tst) : Value := .agg #[.string x.1, .int .i64 x.2.1, .int .i64 x.2.2.1, .int .i64 x.2.2.2.1, .string x.2.2.2.2]
/-- Numbers that fit. -/
def fitT (x : Tst) : Prop := i64ok x.2.1 ∧ i64ok x.2.2.1 ∧ i64ok x.2.2.2.1
def repFilter (w : World) (v : Value) : Prop := ∃ (A : Option Addr) (c : Nat) (l : List Tst), v = .slice A l.length c ∧ Reads w w.heap.size 5 A l.length (l.flatMap tstc) ∧ (∀ x ∈ l, fitT x) ∧ l.length ≤ c ∧ c ≤ maxLen
def repTest (_ : World) (v : Value) : Prop := ∃ x : Tst, v = tstv x ∧ fitT x

theorem tsts_at (l : List Tst) (k : Nat) (hk : k < l.length) : ∀ j, (hj : j < 5) → (l.flatMap tstc)[k * 5 + j]? = some ((tstc l[k])[j]'hj) := by
  intro j hj
  rw [List.flatMap_def, flatten_at 5 _ (by intro cs hcs; obtain ⟨y, _, rfl⟩ := List.mem_map.1 hcs; rfl) k j (by simpa using hk) hj]
  simp [hk]
theorem tsts_len (l : List Tst) : (l.flatMap tstc).length = l.length * 5 := by
  rw [List.flatMap_def, flatten_len 5 _ (by intro cs hcs; obtain ⟨y, _, rfl⟩ := List.mem_map.1 hcs; rfl)]; simp
/-- A filter that reads as tests: where they lie. -/
theorem Reads.tsts {w : World} {B n : Nat} {A : Option Addr} {l : List Tst} (h : Reads w B 5 A n (l.flatMap tstc)) (hl : 0 < l.length) :
    ∃ b off, A = some ⟨b, off, none⟩ ∧ b < B ∧ ∀ k (hk : k < l.length), w.cell? ⟨b, off + k * 5, none⟩ = some (.string l[k].1) ∧ w.cell? ⟨b, off + k * 5 + 1, none⟩ = some (.int .i64 l[k].2.1) ∧
      w.cell? ⟨b, off + k * 5 + 2, none⟩ = some (.int .i64 l[k].2.2.1) ∧ w.cell? ⟨b, off + k * 5 + 3, none⟩ = some (.int .i64 l[k].2.2.2.1) ∧ w.cell? ⟨b, off + k * 5 + 4, none⟩ = some (.string l[k].2.2.2.2) := by
  obtain ⟨b, off, e, hb, hc⟩ := h.2 (by rw [tsts_len]; omega)
  refine ⟨b, off, e, hb, fun k hk => ?_⟩
  have h0 := hc _ _ (tsts_at l k hk 0 (by decide))
  have h1 := hc _ _ (tsts_at l k hk 1 (by decide))
  have h2 := hc _ _ (tsts_at l k hk 2 (by decide))
  have h3 := hc _ _ (tsts_at l k hk 3 (by decide))
  have h4 := hc _ _ (tsts_at l k hk 4 (by decide))
  simp only [Nat.add_zero, ← Nat.add_assoc] at h0 h1 h2 h3 h4
  exact ⟨h0, h1, h2, h3, h4⟩
theorem Reads.tstn {w : World} {B n : Nat} {A : Option Addr} {l : List Tst} (h : Reads w B 5 A n (l.flatMap tstc)) : n = l.length := by
  have := h.1; rw [tsts_len] at this; omega

/-- A slice that reads as a filter. -/
def flt (l : List Tst) (v : Value) (w : World) : Prop := ∃ A c, v = .slice A l.length c ∧ Reads w w.heap.size 5 A l.length (l.flatMap tstc)
theorem flt_st (l : List Tst) : ∀ v w w', flt l v w → Below w.heap.size w w' → flt l v w' := by
  rintro v w w' ⟨A, c, rfl, hr⟩ hb
  exact ⟨A, c, rfl, (hr.below hb (Nat.le_refl _)).more hb.size⟩

section
variable {H : Type} {enc : TypeId × Value → H} {w : World} {base : Nat} {r : Reach} {b0 : Nat} {spare : Nat → Bool} {held : Bool} {v : Value} {d : DataW H} {p : List MemPlace}
theorem tst_cells {cs : List Value} {fuel : Nat} {x : DataW H × List MemPlace} (h : DataW.trod enc Try.prog w base spare held fuel 162 cs = some x) : ∃ y : Tst, cs = tstc y ∧ fitT y := by
  obtain ⟨xs, n, _, _, hlen, hxl, hf⟩ := DataW.trod_struct Try.underlying162 h
  have hC : Try.prog.cellsOf 162 = 5 := by kernel_rfl
  rw [hC] at hlen
  match cs, hlen with
  | [c0, c1, c2, c3, c4], _ =>
    have h0 := hf 0 _ rfl
    have h1 := hf 1 _ rfl
    have h2 := hf 2 _ rfl
    have e1 : Try.prog.cellsOf 9 = 1 := by kernel_rfl
    have e2 : Try.prog.cellsOf 3 = 1 := by kernel_rfl
    have e3 : Try.prog.cellsOf 156 = 3 := by kernel_rfl
    simp [e1, e2, e3] at h0 h1 h2
    have hxl' : xs.length = 3 := hxl
    rw [List.getElem?_eq_getElem (by omega)] at h0 h1 h2
    obtain ⟨s, es, _, _⟩ := DataW.trod_string Try.underlying9 h0
    obtain ⟨a, ea, _, wa⟩ := DataW.trod_int Try.underlying3 h1
    obtain ⟨y, ey, w1, w2⟩ := val_cells h2
    simp at es ea ey
    obtain ⟨rfl, rfl, rfl⟩ := ey
    subst es ea
    have hb := bounds_i64 wa
    exact ⟨(s, a, y), rfl, (by show i64ok a; unfold i64ok; omega), w1, w2⟩
theorem repFilter_of (hv : Value.okWide Try.prog w r b0 55 v) (h : DataW.Trod enc Try.prog w base spare held 55 v d p) : repFilter w v := by
  obtain ⟨A, n, c, css, rfl, h1, h2, h3, h4, h5⟩ := reads_of_slice Try.underlying55 5 (by kernel_rfl) (fun cs => ∃ y : Tst, cs = tstc y ∧ fitT y) (fun _ _ _ _ ht => tst_cells ht) hv h
  obtain ⟨l, h6, h7, h8⟩ := list_of_cells tstc fitT css fun cs hcs => (h4 cs hcs).2
  have h9 := h5 (by decide)
  subst h1
  rw [← h6] at h9 h2 ⊢
  refine ⟨A, c, l, rfl, ?_, h8, h2, h3⟩
  rw [h7] at h9
  rwa [List.flatMap_def]
theorem repTest_of (hv : Value.okWide Try.prog w r b0 162 v) (h : DataW.Trod enc Try.prog w base spare held 162 v d p) : repTest w v := by
  obtain ⟨cs, rfl, hsz⟩ := okWide_struct Try.underlying162 hv
  obtain ⟨fuel, hf⟩ := h
  obtain ⟨y, h1, h2⟩ := tst_cells hf
  refine ⟨y, ?_, h2⟩
  have : cs.toList = tstc y := by simpa [Value.cells] using h1
  obtain ⟨l⟩ := cs
  simp at this
  rw [this]
end
end Go.Proofs.Ythnhdeieimgfhaa

/-
  Filters in plain Lean: which of two values comes first, what a test asks, what may be, what bytes they are. Conditions: none.
-/
set_option maxRecDepth 100000
namespace Go.Proofs.Ythnhdeieimgfhaa
open Go Go.RowKit

abbrev Vl := Int × Int × ByteArray
/-- Which of two values comes first. -/
def ordI (a b : Int) : Int := if a < b then -1 else if b < a then 1 else 0
def ordS (a b : ByteArray) : Int := if ltS a b then -1 else if ltS b a then 1 else 0
def ordV (a b : Vl) : Int := if ordI a.1 b.1 != 0 then ordI a.1 b.1 else if ordI a.2.1 b.2.1 != 0 then ordI a.2.1 b.2.1 else ordS a.2.2 b.2.2
/-- Whether a text begins with another one. -/
def preB (a b : ByteArray) : Bool := decide (b.size ≤ a.size) && ((a.extract 0 b.size).toList == b.toList)
def begV (a b : Vl) : Bool := a.1 == 2 && b.1 == 2 && preB a.2.2 b.2.2
/-- Whether a value is as a test asks it. -/
def isT (t : Tst) (v : Vl) : Bool :=
  if t.2.1 == 8 then true else
  (v.1 == t.2.2.1) && (if t.2.1 == 1 then ordV v t.2.2 == 0 else if t.2.1 == 2 then ordV v t.2.2 != 0 else if t.2.1 == 3 then decide (ordV v t.2.2 < 0) else if t.2.1 == 4 then decide (ordV v t.2.2 ≤ 0)
    else if t.2.1 == 5 then decide (0 < ordV v t.2.2) else if t.2.1 == 6 then decide (0 ≤ ordV v t.2.2) else if t.2.1 == 7 then begV v t.2.2 else false)
def holdsT (t : Tst) (e : List Att) : Bool := match e.find? (isN t.1) with | some x => isT t x.2 | none => false
def matchesF (f : List Tst) (e : List Att) : Bool := f.all fun t => holdsT t e
/-- Whether a test may be; a filter. -/
def okT (t : Tst) : Bool :=
  okName t.1 && (if t.2.1 == 8 then decide (t.2.2 = (0, 0, ⟨#[]⟩)) else if t.2.1 == 7 then okV t.2.2.1 t.2.2.2.1 t.2.2.2.2 && t.2.2.1 == 2 else decide (1 ≤ t.2.1) && decide (t.2.1 ≤ 8) && okV t.2.2.1 t.2.2.2.1 t.2.2.2.2)
def okF (l : List Tst) : Bool := decide (l.length ≤ 8) && l.all okT
def chkT (t : Tst) : Int := if okT t then 0 else 50
def chkF (l : List Tst) : Int := if okF l then 0 else 50
/-- A test's bytes, a filter's. -/
def encT (t : Tst) : List UInt8 := (packN t.1.size ++ byt t.1) ++ (packN (kindN t.2.1) ++ (if t.2.1 == 8 then [] else packV t.2.2.1 t.2.2.2.1 t.2.2.2.2))
def encF (l : List Tst) : List UInt8 := packN l.length ++ l.flatMap encT
def encFR (l : List Tst) : List UInt8 := if okF l then encF l else []
/-- A test as a reader reads it. -/
def rdT : Rdr Tst := fun l wr =>
  if 8 < (rdN (rdB 16 l wr).2.1 (rdB 16 l wr).2.2).1 then ((⟨#[]⟩, 0, 0, 0, ⟨#[]⟩), (rdN (rdB 16 l wr).2.1 (rdB 16 l wr).2.2).2.1, true)
  else if (rdN (rdB 16 l wr).2.1 (rdB 16 l wr).2.2).1 = 8 then ((⟨(rdB 16 l wr).1.toArray⟩, 8, 0, 0, ⟨#[]⟩), (rdN (rdB 16 l wr).2.1 (rdB 16 l wr).2.2).2)
  else ((⟨(rdB 16 l wr).1.toArray⟩, ((rdN (rdB 16 l wr).2.1 (rdB 16 l wr).2.2).1 : Int), (rdV (rdN (rdB 16 l wr).2.1 (rdB 16 l wr).2.2).2.1 (rdN (rdB 16 l wr).2.1 (rdB 16 l wr).2.2).2.2).1.1,
    (rdV (rdN (rdB 16 l wr).2.1 (rdB 16 l wr).2.2).2.1 (rdN (rdB 16 l wr).2.1 (rdB 16 l wr).2.2).2.2).1.2.1, ⟨(rdV (rdN (rdB 16 l wr).2.1 (rdB 16 l wr).2.2).2.1 (rdN (rdB 16 l wr).2.1 (rdB 16 l wr).2.2).2.2).1.2.2.toArray⟩),
    (rdV (rdN (rdB 16 l wr).2.1 (rdB 16 l wr).2.2).2.1 (rdN (rdB 16 l wr).2.1 (rdB 16 l wr).2.2).2.2).2)
/-- The filter that bytes are, if they are one. -/
def decFS (b : List UInt8) : List Tst × List UInt8 × Bool := rdL rdT (rdN b false).1 (rdN b false).2.1 (rdN b false).2.2
def decF8 (b : List UInt8) : Option (List Tst) :=
  if decide ((rdN b false).1 ≤ 8) && !(decFS b).2.2 && (decFS b).2.1.isEmpty && okF (decFS b).1 then some (decFS b).1 else none
def decFL (b : List UInt8) : List Tst := (decF8 b).getD []
def decFC (b : List UInt8) : Int := if (decF8 b).isSome then 0 else 50

theorem okF_parts {l : List Tst} (h : okF l = true) : l.length ≤ 8 ∧ ∀ x ∈ l, okT x = true := by
  simp only [okF, Bool.and_eq_true, decide_eq_true_eq, List.all_eq_true] at h
  exact h
theorem okT_parts {t : Tst} (h : okT t = true) : t.1.size ≤ 16 ∧ 1 ≤ t.2.1 ∧ t.2.1 ≤ 8 ∧ (t.2.1 = 8 → t.2.2 = (0, 0, ⟨#[]⟩)) ∧ (t.2.1 ≠ 8 → okV t.2.2.1 t.2.2.2.1 t.2.2.2.2 = true) := by
  simp only [okT, Bool.and_eq_true] at h
  obtain ⟨h1, h2⟩ := h
  simp only [okName, Bool.and_eq_true, decide_eq_true_eq] at h1
  refine ⟨h1.1.2, ?_⟩
  by_cases e8 : t.2.1 = 8
  · rw [if_pos (by simp [e8])] at h2
    exact ⟨by omega, by omega, fun _ => of_decide_eq_true h2, fun h => absurd e8 h⟩
  · rw [if_neg (by simp [e8])] at h2
    by_cases e7 : t.2.1 = 7
    · rw [if_pos (by simp [e7])] at h2
      simp only [Bool.and_eq_true] at h2
      exact ⟨by omega, by omega, fun h => absurd h e8, fun _ => h2.1⟩
    · rw [if_neg (by simp [e7])] at h2
      simp only [Bool.and_eq_true, decide_eq_true_eq] at h2
      exact ⟨h2.1.1, h2.1.2, fun h => absurd h e8, fun _ => h2.2⟩

theorem rdT_len (l : List UInt8) (wr : Bool) : (rdT l wr).2.1.length ≤ l.length := by
  have h1 := rdB_len 16 l wr
  have h2 := rdN_len (rdB 16 l wr).2.1 (rdB 16 l wr).2.2
  have h3 := rdV_len (rdN (rdB 16 l wr).2.1 (rdB 16 l wr).2.2).2.1 (rdN (rdB 16 l wr).2.1 (rdB 16 l wr).2.2).2.2
  unfold rdT
  split
  · simp only; omega
  · split
    · simp only; omega
    · simp only; omega
theorem rdT_fwd (t : Tst) (h : okT t = true ∧ fitT t) (rest : List UInt8) : rdT (encT t ++ rest) false = (t, rest, false) := by
  obtain ⟨hok, hf⟩ := h
  obtain ⟨h16, h1, h8, he, hv⟩ := okT_parts hok
  obtain ⟨s, op, k, n, x⟩ := t
  simp only at h16 h1 h8 he hv hf
  have hk : kindN op = op.toNat := by unfold kindN; omega
  have e1 : rdB 16 (encT (s, op, k, n, x) ++ rest) false = (byt s, packN (kindN op) ++ (if op == 8 then [] else packV k n x) ++ rest, false) := by
    have := rdB_pack 16 (byt s) (by simp; omega) (by simp; omega) (packN (kindN op) ++ (if op == 8 then [] else packV k n x) ++ rest)
    rw [show (byt s).length = s.size by simp] at this
    unfold encT
    rw [List.append_assoc (packN s.size ++ byt s)]
    exact this
  have e2 := rdN_pack (kindN op) (kindN_lt op) ((if op == 8 then [] else packV k n x) ++ rest)
  unfold rdT
  rw [e1]
  simp only
  rw [List.append_assoc (packN (kindN op)), e2]
  simp only
  rw [if_neg (by omega)]
  by_cases e8 : op = 8
  · rw [if_pos (by omega)]
    have := he e8
    simp only [Prod.mk.injEq] at this
    obtain ⟨rfl, rfl, rfl⟩ := this
    subst e8
    cases s
    rfl
  · rw [if_neg (by omega), if_neg (by simp [e8])]
    have e3 := rdV_pack k n x (hv e8) hf.2.2.1 hf.2.2.2 rest
    rw [e3]
    cases s
    cases x
    simp only [Prod.mk.injEq, and_true, true_and]
    omega
theorem rdT_back (l : List UInt8) (wr : Bool) (h : (rdT l wr).2.2 = false) : l = encT (rdT l wr).1 ++ (rdT l wr).2.1 ∧ wr = false := by
  have hlt := rdN_lt (rdB 16 l wr).2.1 (rdB 16 l wr).2.2
  unfold rdT at h ⊢
  split at h
  · cases h
  · rename_i h8
    rw [if_neg h8]
    split at h
    · rename_i e8
      rw [if_pos e8]
      obtain ⟨e2, w2⟩ := rdN_back h
      obtain ⟨e1, _, w1⟩ := rdB_back w2
      refine ⟨?_, w1⟩
      unfold encT
      simp only
      have hs : (⟨(rdB 16 l wr).1.toArray⟩ : ByteArray).size = (rdB 16 l wr).1.length := by simp [ByteArray.size]
      rw [hs, show byt ⟨(rdB 16 l wr).1.toArray⟩ = (rdB 16 l wr).1 by simp [byt]]
      rw [show kindN (8 : Int) = (rdN (rdB 16 l wr).2.1 (rdB 16 l wr).2.2).1 by rw [e8]; rfl]
      rw [if_pos (by decide), List.append_nil, List.append_assoc, ← e2]
      exact e1
    · rename_i e8
      rw [if_neg e8]
      obtain ⟨e3, _, w3, _⟩ := rdV_back h
      obtain ⟨e2, w2⟩ := rdN_back w3
      obtain ⟨e1, _, w1⟩ := rdB_back w2
      refine ⟨?_, w1⟩
      unfold encT
      simp only
      have hs : (⟨(rdB 16 l wr).1.toArray⟩ : ByteArray).size = (rdB 16 l wr).1.length := by simp [ByteArray.size]
      rw [hs, show byt ⟨(rdB 16 l wr).1.toArray⟩ = (rdB 16 l wr).1 by simp [byt]]
      rw [show kindN ((rdN (rdB 16 l wr).2.1 (rdB 16 l wr).2.2).1 : Int) = (rdN (rdB 16 l wr).2.1 (rdB 16 l wr).2.2).1 by unfold kindN; omega]
      rw [if_neg (by simp; omega), List.append_assoc, List.append_assoc (packN (rdN (rdB 16 l wr).2.1 (rdB 16 l wr).2.2).1), ← e3, ← e2]
      exact e1
theorem rdT_codec : Codec encT (fun t => okT t = true ∧ fitT t) rdT := ⟨rdT_fwd, rdT_back, rdT_len⟩
theorem rdT_fit (l : List UInt8) (wr : Bool) : fitT (rdT l wr).1 ∧ (rdT l wr).1.1.size ≤ 16 := by
  have hB := rdB_most 16 l wr
  have hV := rdV_i64 (rdN (rdB 16 l wr).2.1 (rdB 16 l wr).2.2).2.1 (rdN (rdB 16 l wr).2.1 (rdB 16 l wr).2.2).2.2
  unfold rdT
  split
  · exact ⟨by unfold fitT i64ok; simp, by simp [ByteArray.size]⟩
  · split
    · exact ⟨by unfold fitT i64ok; simp, by simpa [ByteArray.size] using hB⟩
    · refine ⟨⟨?_, hV.1, hV.2⟩, by simpa [ByteArray.size] using hB⟩
      unfold i64ok; simp only; omega

theorem decF_parts (l : List Tst) (hl : okF l = true) (hf : ∀ x ∈ l, fitT x) (rest : List UInt8) : rdN (encF l ++ rest) false = (l.length, l.flatMap encT ++ rest, false) ∧ decFS (encF l ++ rest) = (l, rest, false) := by
  obtain ⟨h2, h3⟩ := okF_parts hl
  have e1 : rdN (encF l ++ rest) false = (l.length, l.flatMap encT ++ rest, false) := by
    unfold encF; rw [List.append_assoc]; exact rdN_pack l.length (by omega) _
  refine ⟨e1, ?_⟩
  have h5 := rdL_fwd rdT_codec l (fun x hx => ⟨h3 x hx, hf x hx⟩) rest l.length (Nat.le_refl _)
  unfold decFS
  rw [e1]
  simpa using h5
theorem decF_enc (l : List Tst) (hl : okF l = true) (hf : ∀ x ∈ l, fitT x) : decF8 (encF l) = some l := by
  have h := decF_parts l hl hf []
  rw [List.append_nil] at h
  have h2 := (okF_parts hl).1
  unfold decF8
  rw [h.2, h.1]
  simp [hl, h2]
theorem decF_back {b : List UInt8} {y : List Tst} (h : decF8 b = some y) : b = encF y ∧ okF y = true ∧ ∀ x ∈ y, fitT x := by
  unfold decF8 at h
  split at h
  · rename_i hq
    injection h with h
    simp only [Bool.and_eq_true, Bool.not_eq_true', List.isEmpty_iff, decide_eq_true_eq] at hq
    obtain ⟨⟨⟨h16, hw⟩, hr⟩, hok⟩ := hq
    unfold decFS at hw hr hok h
    obtain ⟨e2, w2⟩ := rdL_back rdT_codec hw
    obtain ⟨e1, _⟩ := rdN_back w2
    have hlen := (rdL_len rdT_codec (rdN b false).1 (rdN b false).2.1 (rdN b false).2.2).2
    have hfit := rdL_all (fun x : Tst => fitT x ∧ x.1.size ≤ 16) rdT_fit (rdN b false).1 (rdN b false).2.1 (rdN b false).2.2
    rw [h] at e2 hlen hok hfit
    rw [hr, List.append_nil] at e2
    refine ⟨?_, hok, fun x hx => (hfit x hx).1⟩
    unfold encF
    rw [hlen, ← e2]
    exact e1
  · cases h
theorem encF_inj (a b : List Tst) (ha : okF a = true) (hb : okF b = true) (fa : ∀ x ∈ a, fitT x) (fb : ∀ x ∈ b, fitT x) (h : encF a = encF b) : a = b := by
  have h1 := decF_enc a ha fa
  rw [h, decF_enc b hb fb] at h1
  injection h1 with h1
  exact h1.symm
end Go.Proofs.Ythnhdeieimgfhaa

/-
  The walks of filter.One and filter.Check. Conditions: none.
-/
set_option maxRecDepth 100000
namespace Go.Proofs.Ythnhdeieimgfhaa
open Go Go.RowKit

set_option maxHeartbeats 2000000 in
set_option maxRecDepth 100000 in
theorem One_calls (t : Tst) (w : World) :
    Calls Try.prog 120 #[tstv t] w fun e w' => e = .returned (.int .i64 (chkT t)) ∧ Below w.heap.size w w' := by
  obtain ⟨s, op, k, n, x⟩ := t
  have hb0 : Below w.heap.size w (w.alloc (.cells #[.string s, .int .i64 op, .int .i64 k, .int .i64 n, .string x] 162)) := (Below.refl _ _).alloc (Nat.le_refl _) _
  have hx0 := Blk.new w 162 #[.string s, .int .i64 op, .int .i64 k, .int .i64 n, .string x]
  have HT : Hid (okT (s, op, k, n, x) = (okName s && (if op == 8 then decide ((k, n, x) = (0, 0, (⟨#[]⟩ : ByteArray))) else if op == 7 then okV k n x && k == 2 else decide (1 ≤ op) && decide (op ≤ 8) && okV k n x))) := Lib.hid rfl
  have hbad : Hid (okT (s, op, k, n, x) = false → chkT (s, op, k, n, x) = 50) := Lib.hid (fun h => by simp [chkT, h])
  have hgood : Hid (okT (s, op, k, n, x) = true → chkT (s, op, k, n, x) = 0) := Lib.hid (fun h => by simp [chkT, h])
  go_enter Try.func120, Try.ntmps120
  go_wp2_with fail
  refine (Name_calls s _).mono ?_
  rintro e w' ⟨rfl, rfl⟩
  cases hn : okName s
  · have HE := Lib.hid (hbad.out (by rw [HT.out, hn]; rfl))
    go_wp2
    go_ret
    exact ⟨by rw [HE.out]; rfl, hb0⟩
  by_cases h1 : op < 1
  · have HE := Lib.hid (hbad.out (by
      rw [HT.out, if_neg (by simp; omega), if_neg (by simp; omega)]
      simp; omega))
    go_wp2
    go_ret
    exact ⟨by rw [HE.out]; rfl, hb0⟩
  by_cases h8 : 8 < op
  · have HE := Lib.hid (hbad.out (by
      rw [HT.out, if_neg (by simp; omega), if_neg (by simp; omega)]
      simp; omega))
    go_wp2
    go_ret
    exact ⟨by rw [HE.out]; rfl, hb0⟩
  go_wp2_with fail
  refine (Check_calls k n x _).mono ?_
  rintro e w2 ⟨rfl, hb2⟩
  have hx2 := hx0.below hb2 hx0.lt
  have hbw := hb0.trans (hb2.mono hb0.size)
  have x1 := hx2.cell 1
  have x2 := hx2.cell 2
  have x3 := hx2.cell 3
  have x4 := hx2.cell 4
  simp at x1 x2 x3 x4
  have HC : Hid ((chk k n x == 0) = okV k n x) := Lib.hid (by unfold chk; cases okV k n x <;> rfl)
  clear hb2 hb0 hx0
  by_cases e7 : op = 7
  · have HE : Hid (okT (s, op, k, n, x) = (okV k n x && k == 2)) := by
      refine Lib.hid ?_
      rw [HT.out, hn, if_neg (by simp; omega), if_pos (by simp; omega)]
      rfl
    have b7 : (op == 7) = true := by simp [e7]
    have b8 : (op == 8) = false := by simp [e7]
    clear e7 h1 h8
    cases hv : okV k n x
    · have hch : (chk k n x == 0) = false := by rw [HC.out, hv]
      have HF := Lib.hid (hbad.out (by rw [HE.out, hv]; rfl))
      go_wp2
      go_ret
      exact ⟨by rw [HF.out]; rfl, hbw⟩
    · have hch : (chk k n x == 0) = true := by rw [HC.out, hv]
      cases hk : (k == 2)
      · have HF := Lib.hid (hbad.out (by rw [HE.out, hv, hk]; rfl))
        go_wp2
        go_ret
        exact ⟨by rw [HF.out]; rfl, hbw⟩
      · have HF := Lib.hid (hgood.out (by rw [HE.out, hv, hk]; rfl))
        go_wp2
        go_ret
        exact ⟨by rw [HF.out]; rfl, hbw⟩
  · have b7 : (op == 7) = false := by simp [e7]
    by_cases e8 : op = 8
    · have HE : Hid (okT (s, op, k, n, x) = decide ((k, n, x) = (0, 0, (⟨#[]⟩ : ByteArray)))) := by
        refine Lib.hid ?_
        rw [HT.out, hn, if_pos (by simp; omega)]
        rfl
      have b8 : (op == 8) = true := by simp [e8]
      clear e8 h1 h8 e7
      have hev := eql_val k n 0 0 x ⟨#[]⟩
      generalize hd : decide ((k, n, x) = (0, 0, (⟨#[]⟩ : ByteArray))) = d at *
      have HD := Lib.hid hd
      clear hd
      cases d
      · have HF := Lib.hid (hbad.out (by rw [HE.out]))
        go_wp2
        go_ret
        exact ⟨by rw [HF.out]; rfl, hbw⟩
      · have HF := Lib.hid (hgood.out (by rw [HE.out]))
        go_wp2
        go_ret
        exact ⟨by rw [HF.out]; rfl, hbw⟩
    · have HE : Hid (okT (s, op, k, n, x) = okV k n x) := by
        refine Lib.hid ?_
        rw [HT.out, hn, if_neg (by simp; omega), if_neg (by simp; omega)]
        simp; omega
      have b8 : (op == 8) = false := by simp [e8]
      clear e8 h1 h8 e7
      cases hv : okV k n x
      · have hch : (chk k n x == 0) = false := by rw [HC.out, hv]
        have HF := Lib.hid (hbad.out (by rw [HE.out, hv]))
        go_wp2
        go_ret
        exact ⟨by rw [HF.out]; rfl, hbw⟩
      · have hch : (chk k n x == 0) = true := by rw [HC.out, hv]
        have HF := Lib.hid (hgood.out (by rw [HE.out, hv]))
        go_wp2
        go_ret
        exact ⟨by rw [HF.out]; rfl, hbw⟩

theorem okF_bad (l : List Tst) (k : Nat) (h : k < l.length) (hb : okT l[k] = false) : chkF l = 50 := by
  have : l.all okT = false := by rw [List.all_eq_false]; exact ⟨l[k], List.getElem_mem h, by simp [hb]⟩
  simp [chkF, okF, this]
theorem okF_good (l : List Tst) (h8 : l.length ≤ 8) (h : ∀ x ∈ l.take l.length, okT x = true) : chkF l = 0 := by
  rw [List.take_length] at h
  have : l.all okT = true := List.all_eq_true.2 h
  simp [chkF, okF, this, h8]
theorem allT_take (l : List Tst) (k : Nat) (h : k < l.length) (ha : ∀ x ∈ l.take k, okT x = true) (hb : okT l[k] = true) : ∀ x ∈ l.take (k + 1), okT x = true := by
  intro x hx
  rw [List.take_succ_eq_append_getElem h] at hx
  rcases List.mem_append.1 hx with hx | hx
  · exact ha x hx
  · simp at hx; rw [hx]; exact hb
theorem chkT_cases (t : Tst) : (chkT t = 0 ∧ okT t = true) ∨ (chkT t = 50 ∧ okT t = false) := by
  unfold chkT; cases okT t <;> simp

set_option maxHeartbeats 2000000 in
theorem FCheck_calls (A : Option Addr) (c : Nat) (l : List Tst) (w : World) (B : Nat) (hR : Reads w B 5 A l.length (l.flatMap tstc)) (hB : B ≤ w.heap.size) :
    Calls Try.prog 86 #[.slice A l.length c] w fun e w' => e = .returned (.int .i64 (chkF l)) ∧ Below w.heap.size w w' := by
  by_cases h8 : 8 < l.length
  · have h8' : (8 : Int) < (l.length : Int) := by omega
    have HE : Hid (chkF l = 50) := Lib.hid (by simp [chkF, okF, show ¬ l.length ≤ 8 by omega])
    clear hR
    generalize l.length = n at *
    go_enter Try.func86, Try.ntmps86
    go_wp2
    go_ret
    exact ⟨by rw [HE.out]; rfl, Below.refl _ _⟩
  have h8' : ¬ (8 : Int) < (l.length : Int) := by omega
  have HA := Lib.hid hR
  clear hR
  go_enter Try.func86, Try.ntmps86
  go_wp2_with fail
  go_loopw [11] (fun i wr => ∃ k : Nat, k ≤ l.length ∧ i = .int .i64 (k : Int) ∧ Hid (∀ x ∈ l.take k, okT x = true) ∧ Below w.heap.size w wr) (fun i _ => l.length - (intOf i).toNat)
  case atStart => exact ⟨0, by omega, rfl, Lib.hid (by simp), Below.refl _ _⟩
  case round =>
    obtain ⟨k, hk, rfl, hall, hb⟩ := hrel
    by_cases hlt : k < l.length
    · have hki : (k : Int) < (l.length : Int) := by omega
      obtain ⟨b, off, rfl, hbB, hcell⟩ := HA.out.tsts (by omega)
      obtain ⟨e0, e1, e2, e3, e4⟩ := hcell k hlt
      have hbw : b < w.heap.size := Nat.lt_of_lt_of_le hbB hB
      have d0 := (hb.cell (p := ⟨b, off + k * 5, none⟩) hbw).trans e0
      have d1 := (hb.cell (p := ⟨b, off + k * 5 + 1, none⟩) hbw).trans e1
      have d2 := (hb.cell (p := ⟨b, off + k * 5 + 2, none⟩) hbw).trans e2
      have d3 := (hb.cell (p := ⟨b, off + k * 5 + 3, none⟩) hbw).trans e3
      have d4 := (hb.cell (p := ⟨b, off + k * 5 + 4, none⟩) hbw).trans e4
      have HT := Lib.hid (allT_take l k hlt hall.out)
      have HBD := Lib.hid (okF_bad l k hlt)
      have hz := hb.size
      clear e0 e1 e2 e3 e4 hcell
      generalize l[k] = x at *
      obtain ⟨xs, xo, xk, xn, xt⟩ := x
      simp only at d0 d1 d2 d3 d4
      go_wp2_with fail
      refine (One_calls (xs, xo, xk, xn, xt) _).mono ?_
      rintro e w2 ⟨rfl, hb2⟩
      have hbw2 : Below w.heap.size w w2 := (hb.alloc hz _).trans (hb2.mono (by simp; omega))
      rcases chkT_cases (xs, xo, xk, xn, xt) with ⟨hc, ho⟩ | ⟨hc, ho⟩
      · have hne : (chkT (xs, xo, xk, xn, xt) != 0) = false := by rw [hc]; rfl
        have hr := Lib.hid (HT.out ho)
        clear hc ho
        go_wp2
        go_roundw
        case rel => exact ⟨k + 1, by omega, by go_num, hr, hbw2⟩
        case measure => simp [intOf]; omega
      · have hne : (chkT (xs, xo, xk, xn, xt) != 0) = true := by rw [hc]; rfl
        have HE : Hid (chkF l = 50) := Lib.hid (HBD.out ho)
        have HC := Lib.hid hc
        clear hc ho
        go_wp2
        go_ret
        exact ⟨by rw [HE.out, ← HC.out]; rfl, hbw2⟩
    · have hki : ¬ (k : Int) < (l.length : Int) := by omega
      have HE : Hid (chkF l = 0) := Lib.hid (okF_good l (by omega) (by
        have := hall.out
        rwa [show k = l.length by omega] at this))
      go_wp2
      go_ret
      exact ⟨by rw [HE.out]; rfl, hb⟩
theorem FCheck_flt {l : List Tst} {v : Value} {w : World} (h : flt l v w) : Calls Try.prog 86 #[v] w fun e w' => e = .returned (.int .i64 (chkF l)) ∧ Below w.heap.size w w' := by
  obtain ⟨A, c, rfl, hR⟩ := h
  exact FCheck_calls A c l w _ hR (Nat.le_refl _)
end Go.Proofs.Ythnhdeieimgfhaa

/-
  The walk of filter.Encode (layer 5). Conditions: none.
-/
set_option maxRecDepth 100000
namespace Go.Proofs.Ythnhdeieimgfhaa
open Go Go.RowKit

theorem packV_len {k n : Int} {s : ByteArray} (h0 : -9223372036854775808 ≤ n) (h1 : n ≤ 9223372036854775807) (hs : s.size ≤ 40) : (packV k n s).length ≤ 67 := by
  have h1 := packN_len (kindN k) (kindN_lt _)
  have h2 := packN_len (numV k n) (numV_lt _ _ h0 (by assumption))
  have h3 := packN_len s.size (by omega)
  have h4 : s.data.size ≤ 40 := hs
  simp [packV]; omega
/-- A test's last bytes: the value, if it asks one. -/
def encTV (t : Tst) : List UInt8 := if t.2.1 == 8 then [] else packV t.2.2.1 t.2.2.2.1 t.2.2.2.2
theorem okT_x {t : Tst} (h : okT t = true) : t.2.2.2.2.size ≤ 40 := by
  obtain ⟨_, _, _, h8, hn⟩ := okT_parts h
  by_cases e : t.2.1 = 8
  · have := h8 e
    rw [this]; decide
  · exact (okV_kind (hn e)).2
theorem encTV_len {t : Tst} (h : okT t = true) (hf : fitT t) : (encTV t).length ≤ 67 := by
  have hx := okT_x h
  unfold encTV
  split
  · simp
  · exact packV_len hf.2.2.1 hf.2.2.2 hx
theorem encT_ln {t : Tst} (h : okT t = true) (hf : fitT t) : (encT t).length ≤ 101 := by
  obtain ⟨hs, _, _, _, _⟩ := okT_parts h
  have h1 := encTV_len h hf
  have h2 := packN_len t.1.size (by omega)
  have h3 := packN_len (kindN t.2.1) (kindN_lt _)
  have e1 : t.1.data.size ≤ 16 := hs
  unfold encT
  unfold encTV at h1
  simp only [List.length_append]
  simp only [byt, Array.length_toList]
  omega
theorem encTs_len (l : List Tst) (hk : ∀ x ∈ l, (encT x).length ≤ 101) : (l.flatMap encT).length ≤ 101 * l.length := by
  induction l with
  | nil => simp
  | cons y l ih =>
    have h1 := ih fun x hx => hk x (by simp [hx])
    have h2 := hk y (by simp)
    simp only [List.flatMap_cons, List.length_append, List.length_cons]
    omega
theorem encFP_len (l : List Tst) (k : Nat) (hl : okF l = true) (hi : ∀ x ∈ l, fitT x) : (packN l.length ++ (l.take k).flatMap encT).length ≤ 1000 := by
  obtain ⟨h2, h3⟩ := okF_parts hl
  have h4 := packN_len l.length (by omega)
  have h5 := encTs_len (l.take k) fun x hx => encT_ln (h3 x (List.mem_of_mem_take hx)) (hi x (List.mem_of_mem_take hx))
  have h6 : (l.take k).length ≤ 8 := by simp; omega
  simp only [List.length_append]; omega
theorem encFP_succ (l : List Tst) (k : Nat) (h : k < l.length) : packN l.length ++ (l.take (k + 1)).flatMap encT = packN l.length ++ (l.take k).flatMap encT ++ (packN l[k].1.size ++ byt l[k].1) ++ packN (kindN l[k].2.1) ++ encTV l[k] := by
  rw [List.take_succ_eq_append_getElem h, List.flatMap_append, List.flatMap_cons, List.flatMap_nil, List.append_nil]
  simp only [encT, encTV, List.append_assoc]

set_option maxHeartbeats 4000000 in
set_option maxRecDepth 100000 in
theorem FEncode_calls (A : Option Addr) (c : Nat) (l : List Tst) (w : World) (B : Nat) (hR : Reads w B 5 A l.length (l.flatMap tstc)) (hB : B ≤ w.heap.size) (hi : ∀ x ∈ l, fitT x) :
    Calls Try.prog 114 #[.slice A l.length c] w fun e w' =>
      ∃ v', e = .returned (.tuple #[v', .int .i64 (chkF l)]) ∧ Own w' w.heap.size 5 v' (encFR l) ∧ Below w.heap.size w w' := by
  have hch := Lib.hid (FCheck_calls A c l w B hR hB)
  cases hok : okF l
  · have HE : Hid (chkF l = 50) := Lib.hid (by simp [chkF, hok])
    have HR : Hid (encFR l = []) := Lib.hid (by simp [encFR, hok])
    clear hok
    have hne : (chkF l != 0) = true := by rw [HE.out]; rfl
    go_enter Try.func114, Try.ntmps114
    go_wp2_with fail
    refine hch.out.mono ?_
    rintro e w1 ⟨rfl, hb1⟩
    go_wp2
    go_ret2
    exact ⟨_, rfl, by rw [HR.out]; exact World.ownsRow_nil _ _ _ _, hb1⟩
  · have HE : Hid (chkF l = 0) := Lib.hid (by simp [chkF, hok])
    have HR : Hid (encFR l = encF l) := Lib.hid (by simp [encFR, hok])
    have hne : (chkF l != 0) = false := by rw [HE.out]; rfl
    obtain ⟨h8, hL⟩ := okF_parts hok
    have HLN := Lib.hid fun k => encFP_len l k hok hi
    have HA := Lib.hid hL
    have HI := Lib.hid hi
    have HS := Lib.hid (encFP_succ l)
    have HRd := Lib.hid hR
    clear hok hL hi hR
    go_enter Try.func114, Try.ntmps114
    go_wp2_with fail
    refine hch.out.mono ?_
    rintro e w1 ⟨rfl, hb1⟩
    go_wp2_with fail
    refine (Number_calls none 0 0 [] l.length (by omega) w1 0 (Reads.nil _ _ _ _) (by omega) (by omega)).mono ?_
    rintro e w2 ⟨v2, rfl, ho2, hb2⟩
    have hb12 := hb1.trans (hb2.mono hb1.size)
    rw [List.nil_append] at ho2
    have ho := own_base hb1.size ho2 rfl
    clear ho2 hb1 hb2
    go_wp2_with fail
    go_loopw [5, 19] (fun o i wr => ∃ k : Nat, k ≤ l.length ∧ i = .int .i64 (k : Int) ∧ Own wr w.heap.size 5 o (packN l.length ++ (l.take k).flatMap encT) ∧ Below w.heap.size w wr) (fun _ i _ => l.length - (intOf i).toNat)
    case atStart => exact ⟨0, by omega, rfl, by simpa using ho, hb12⟩
    case round =>
      obtain ⟨k, hk, rfl, hok, hb⟩ := hrel
      by_cases hlt : k < l.length
      · have hki : (k : Int) < (l.length : Int) := by omega
        obtain ⟨b, off, rfl, hbB, hcell⟩ := HRd.out.tsts (by omega)
        obtain ⟨e0, e1, e2, e3, e4⟩ := hcell k hlt
        have d0 := (hb.cell (p := ⟨b, off + k * 5, none⟩) (Nat.lt_of_lt_of_le hbB hB)).trans e0
        have d1 := (hb.cell (p := ⟨b, off + k * 5 + 1, none⟩) (Nat.lt_of_lt_of_le hbB hB)).trans e1
        have d2 := (hb.cell (p := ⟨b, off + k * 5 + 2, none⟩) (Nat.lt_of_lt_of_le hbB hB)).trans e2
        have d3 := (hb.cell (p := ⟨b, off + k * 5 + 3, none⟩) (Nat.lt_of_lt_of_le hbB hB)).trans e3
        have d4 := (hb.cell (p := ⟨b, off + k * 5 + 4, none⟩) (Nat.lt_of_lt_of_le hbB hB)).trans e4
        clear e0 e1 e2 e3 e4 hcell
        have hz := hb.size
        have hokt := HA.out _ (List.getElem_mem hlt)
        have hpt := okT_parts hokt
        have hx40 := okT_x hokt
        have hii := (HI.out _ (List.getElem_mem hlt)).2
        have HVL := Lib.hid (encTV_len hokt (HI.out _ (List.getElem_mem hlt)))
        have HSk := Lib.hid (HS.out k hlt)
        have hlk := HLN.out k
        clear hokt
        generalize l[k] = x at *
        obtain ⟨s, op, vk, vn, vs⟩ := x
        simp only at d0 d1 d2 d3 d4 hpt hx40 hii HSk
        obtain ⟨hs16, ho1, ho8, -, -⟩ := hpt
        generalize (l.take k).flatMap encT = T at *
        obtain ⟨A1, c1, rfl, hR1⟩ := hok.slice
        have hlm : (packN l.length ++ T).length ≤ 1000 := hlk
        generalize hm1 : (packN l.length ++ T).length = m1 at hR1 hlk ⊢
        clear hm1 hok
        have hcv := fun W => run_bytes_of_string (P := Try.prog) W 9 30 5 s Try.underlying9 Try.underlying30 Try.underlying5
        go_wp2_with fail
        have hx0 := Blk.new wr 162 #[.string s, .int .i64 op, .int .i64 vk, .int .i64 vn, .string vs]
        have hbx : Below wr.heap.size wr ((wr.alloc (.cells #[.string s, .int .i64 op, .int .i64 vk, .int .i64 vn, .string vs] 162)).alloc (.cells (bytesRow s (grownCap (wr.alloc (.cells #[.string s, .int .i64 op, .int .i64 vk, .int .i64 vn, .string vs] 162)) s.size 0 5)) 5 ((bytesRow s (grownCap (wr.alloc (.cells #[.string s, .int .i64 op, .int .i64 vk, .int .i64 vn, .string vs] 162)) s.size 0 5)).size, (bytesRow s (grownCap (wr.alloc (.cells #[.string s, .int .i64 op, .int .i64 vk, .int .i64 vn, .string vs] 162)) s.size 0 5)).size + 1))).drew := (((Below.refl _ _).alloc (Nat.le_refl _) _).alloc (by simp) _).drew
        have hR2 := (hR1.below hbx (Nat.le_refl _)).more (B' := wr.heap.size + 1 + 1) (by omega)
        refine (Bytes_calls A1 _ m1 c1 s.size _ _ (byt s) _ (wr.heap.size + 1 + 1) hR2 (Reads.conv' _ s _ _ _ (wr.heap.size + 1) (by simp)) (by simp) (by omega) (by omega)).mono ?_
        rintro e w3 ⟨v3, rfl, ho3, hb3⟩
        have hx1 := ((hx0.alloc (.cells (bytesRow s (grownCap (wr.alloc (.cells #[.string s, .int .i64 op, .int .i64 vk, .int .i64 vn, .string vs] 162)) s.size 0 5)) 5 ((bytesRow s (grownCap (wr.alloc (.cells #[.string s, .int .i64 op, .int .i64 vk, .int .i64 vn, .string vs] 162)) s.size 0 5)).size, (bytesRow s (grownCap (wr.alloc (.cells #[.string s, .int .i64 op, .int .i64 vk, .int .i64 vn, .string vs] 162)) s.size 0 5)).size + 1))).drew).below hb3 (by simp; omega)
        have hbw : Below wr.heap.size wr w3 := hbx.trans (hb3.mono (by simp; omega))
        have hgt : wr.heap.size < w3.heap.size := Nat.lt_of_lt_of_le (by simp; omega) hb3.size
        have q1 := hx1.cell 1
        have q2 := hx1.cell 2
        have q3 := hx1.cell 3
        have q4 := hx1.cell 4
        simp at q1 q2 q3 q4
        clear hbx hb3 hR1 hR2 hx0 hcv
        have ho3 : Own w3 wr.heap.size 5 v3 (packN l.length ++ T ++ (packN s.size ++ byt s)) := own_base (by simp; omega) ho3 (by rw [show (byt s).length = s.size from by simp, List.append_assoc (packN l.length ++ T)])
        obtain ⟨A3, c3, rfl, hR3⟩ := ho3.slice
        have hpl := packN_len s.size (by omega)
        have hss : s.data.size ≤ 16 := hs16
        have hm3 : (packN l.length ++ T ++ (packN s.size ++ byt s)).length ≤ 1100 := by
          simp only [List.length_append] at hlm ⊢
          simp; omega
        have hm4 : (packN l.length ++ T ++ (packN s.size ++ byt s) ++ packN (kindN op)).length ≤ 1200 := by
          have := packN_len (kindN op) (kindN_lt op)
          simp only [List.length_append] at hm3 ⊢
          omega
        generalize (packN l.length ++ T ++ (packN s.size ++ byt s)).length = m3 at hR3 hm3 ⊢
        clear ho3
        have hz3 := hbw.size
        go_wp2_with fail
        have hN := Number_calls A3 m3 c3 _ (kindN op) (kindN_lt op) w3 w3.heap.size hR3 (Nat.le_refl _) (by omega)
        rw [show ((kindN op : Nat) : Int) = op by unfold kindN; omega] at hN
        refine hN.mono ?_
        rintro e w4 ⟨v4, rfl, ho4, hb4⟩
        have hx2 := hx1.below hb4 hgt
        have r1 := hx2.cell 1
        have r2 := hx2.cell 2
        have r3 := hx2.cell 3
        have r4 := hx2.cell 4
        simp at r1 r2 r3 r4
        clear q1 q2 q3 q4 hx1 hx2 hR3
        have hbn : Below w.heap.size w w4 := (hb.trans (hbw.mono hz)).trans (hb4.mono (Nat.le_trans hz hbw.size))
        have hz4 := hbn.size
        have ho4 := own_base (Nat.le_trans hz hbw.size) ho4 rfl
        by_cases hop : op = 8
        · subst hop
          have ho4 : Own w4 w.heap.size 5 v4 (packN l.length ++ (l.take (k + 1)).flatMap encT) := by
            rw [HSk.out]; simpa [encTV] using ho4
          go_wp2
          go_roundw
          case rel => exact ⟨k + 1, by omega, by go_num, ho4, hbn⟩
          case measure => simp [intOf]; omega
        · obtain ⟨A4, c4, rfl, hR4⟩ := ho4.slice
          generalize (packN l.length ++ T ++ (packN s.size ++ byt s) ++ packN (kindN op)).length = m4 at hR4 hm4 ⊢
          clear ho4
          go_wp2_with fail
          refine (Value_calls A4 m4 c4 _ vk vn vs w4 w4.heap.size hR4 (Nat.le_refl _) (by omega) (by omega) hii.2.1 hii.2.2).mono ?_
          rintro e w5 ⟨v5, rfl, ho5, hb5⟩
          have hbn5 : Below w.heap.size w w5 := hbn.trans (hb5.mono hz4)
          have ho5 := own_base hz4 ho5 rfl
          have ho5 : Own w5 w.heap.size 5 v5 (packN l.length ++ (l.take (k + 1)).flatMap encT) := by
            rw [HSk.out]; simpa [encTV, hop] using ho5
          go_wp2
          go_roundw
          case rel => exact ⟨k + 1, by omega, by go_num, ho5, hbn5⟩
          case measure => simp [intOf]; omega
      · have hki : ¬ (k : Int) < (l.length : Int) := by omega
        have ho : Own wr w.heap.size 5 u5 (encFR l) := by
          rw [HR.out]; unfold encF
          rwa [List.take_of_length_le (by omega)] at hok
        clear hok
        go_wp2
        go_ret2
        exact ⟨_, by rw [HE.out]; rfl, ho, hb⟩
theorem FEncode_flt {l : List Tst} {v : Value} {w : World} (h : flt l v w) (hi : ∀ x ∈ l, fitT x) : Calls Try.prog 114 #[v] w fun e w' =>
    ∃ v', e = .returned (.tuple #[v', .int .i64 (chkF l)]) ∧ Own w' w.heap.size 5 v' (encFR l) ∧ Below w.heap.size w w' := by
  obtain ⟨A, c, rfl, hR⟩ := h
  exact FEncode_calls A c l w _ hR (Nat.le_refl _) hi
end Go.Proofs.Ythnhdeieimgfhaa

/-
  The walk of filter.Decode (layer 5). Conditions: at most 10^9 bytes.
-/
set_option maxRecDepth 100000
namespace Go.Proofs.Ythnhdeieimgfhaa
open Go Go.RowKit

theorem infoTest : (Try.prog.info? 162).map (fun i => (i.zero, i.size, i.bytes)) = some (some (.agg #[.string { data := #[] }, .int .i64 0, .int .i64 0, .int .i64 0, .string { data := #[] }]), 5, 56) := by kernel_rfl
theorem TF : SliceT Try.prog 55 162 (.agg #[.string { data := #[] }, .int .i64 0, .int .i64 0, .int .i64 0, .string { data := #[] }]) 5 56 := ⟨Try.underlying55, infoTest, rfl, by decide⟩
/-- A filter that a call made. -/
abbrev OwnF (w : World) (base : Nat) (v : Value) (l : List Tst) : Prop := w.ownsRow base 162 5 v l.length (l.flatMap tstc)
theorem OwnF.slice {w : World} {base : Nat} {v : Value} {l : List Tst} (h : OwnF w base v l) : ∃ A c, v = .slice A l.length c ∧ Reads w w.heap.size 5 A l.length (l.flatMap tstc) ∧ l.length ≤ c ∧ c ≤ maxLen := by
  have h' := h
  rcases h.2 with ⟨rfl, h0⟩ | ⟨g, cap, cur, rfl, _, _, hn, hc, _⟩
  · obtain rfl : l = [] := List.eq_nil_of_length_eq_zero h0
    exact ⟨none, 0, rfl, Reads.of_own h', by simp, by simp⟩
  · exact ⟨_, _, rfl, Reads.of_own h', hn, hc⟩
theorem tstc_one (x : Tst) : ∀ u ∈ tstc x, u.oneCell' = true := by
  intro u hu
  simp at hu
  rcases hu with rfl | rfl | rfl | rfl | rfl <;> rfl
theorem flt_own {w : World} {base : Nat} {v : Value} {l : List Tst} (h : OwnF w base v l) : flt l v w := by
  obtain ⟨A, c, rfl, hr, _⟩ := h.slice
  exact ⟨A, c, rfl, hr⟩
theorem decFL_len (b : List UInt8) : (decFL b).length ≤ 8 := by
  unfold decFL decF8
  split
  · rename_i h
    simp only [Bool.and_eq_true, decide_eq_true_eq] at h
    have := (rdL_len rdT_codec (rdN b false).1 (rdN b false).2.1 (rdN b false).2.2).2
    show (decFS b).1.length ≤ _
    unfold decFS
    omega
  · simp
theorem decFL_fit (b : List UInt8) : ∀ x ∈ decFL b, fitT x ∧ x.1.size ≤ 16 := by
  unfold decFL decF8
  split
  · exact rdL_all (fun x : Tst => fitT x ∧ x.1.size ≤ 16) rdT_fit _ _ _
  · simp
theorem decFS_bad (b : List UInt8) (k : Nat) (hk : k ≤ (rdN b false).1) (h : (rdL rdT k (rdN b false).2.1 (rdN b false).2.2).2.2 = true) : decFC b = 50 ∧ decFL b = [] := by
  have : (decFS b).2.2 = true := by
    have := rdL_bad rdT_codec h ((rdN b false).1 - k)
    rwa [show k + ((rdN b false).1 - k) = (rdN b false).1 by omega] at this
  have h2 : decF8 b = none := by simp [decF8, this]
  simp [decFC, decFL, h2]
/-- A test as a reader reads it, in its three ways. -/
theorem rdT_more (l : List UInt8) (wr : Bool) (h : 8 < (rdN (rdB 16 l wr).2.1 (rdB 16 l wr).2.2).1) : (rdT l wr).2.2 = true := by
  unfold rdT; rw [if_pos h]
theorem rdT_eight (l : List UInt8) (wr : Bool) (h : (rdN (rdB 16 l wr).2.1 (rdB 16 l wr).2.2).1 = 8) : rdT l wr = ((⟨(rdB 16 l wr).1.toArray⟩, 8, 0, 0, ⟨#[]⟩), (rdN (rdB 16 l wr).2.1 (rdB 16 l wr).2.2).2) := by
  unfold rdT; rw [if_neg (by omega), if_pos h]
theorem rdT_less (l : List UInt8) (wr : Bool) (h : (rdN (rdB 16 l wr).2.1 (rdB 16 l wr).2.2).1 < 8) : rdT l wr = ((⟨(rdB 16 l wr).1.toArray⟩, ((rdN (rdB 16 l wr).2.1 (rdB 16 l wr).2.2).1 : Int), (rdV (rdN (rdB 16 l wr).2.1 (rdB 16 l wr).2.2).2.1 (rdN (rdB 16 l wr).2.1 (rdB 16 l wr).2.2).2.2).1.1,
    (rdV (rdN (rdB 16 l wr).2.1 (rdB 16 l wr).2.2).2.1 (rdN (rdB 16 l wr).2.1 (rdB 16 l wr).2.2).2.2).1.2.1, ⟨(rdV (rdN (rdB 16 l wr).2.1 (rdB 16 l wr).2.2).2.1 (rdN (rdB 16 l wr).2.1 (rdB 16 l wr).2.2).2.2).1.2.2.toArray⟩),
    (rdV (rdN (rdB 16 l wr).2.1 (rdB 16 l wr).2.2).2.1 (rdN (rdB 16 l wr).2.1 (rdB 16 l wr).2.2).2.2).2) := by
  unfold rdT; rw [if_neg (by omega), if_neg (by omega)]
theorem rdL_succ (k : Nat) (l : List UInt8) (bad : Bool) (s : List Tst × List UInt8 × Bool) (hs : rdL rdT k l bad = s) : rdL rdT (k + 1) l bad = (s.1 ++ [(rdT s.2.1 s.2.2).1], (rdT s.2.1 s.2.2).2) := by subst hs; rfl

set_option maxHeartbeats 400000 in
set_option maxRecDepth 100000 in
theorem FDecode_calls (A : Option Addr) (n c : Nat) (b : List UInt8) (w : World) (B : Nat) (hR : Reads w B 1 A n (bys b)) (hB : B ≤ w.heap.size) (hn : n ≤ 1000000000) :
    Calls Try.prog 124 #[.slice A n c] w fun e w' =>
      ∃ v', e = .returned (.tuple #[v', .int .i64 (decFC b)]) ∧ OwnF w' w.heap.size v' (decFL b) ∧ Below w.heap.size w w' := by
  have hbl : b.length = n := by simpa using hR.len
  have hle : b.length ≤ 1000000000 := by omega
  clear hbl
  go_enter Try.func124, Try.ntmps124
  go_wp2_with fail
  refine (New_calls A n c b w B hR hB hn).mono ?_
  rintro e w1 ⟨g, rfl, hg, hr1, hb1⟩
  go_wp2_with fail
  refine (RNumber_calls g b false w1 hr1).mono ?_
  rintro e w2 ⟨rfl, hr2, hg2⟩
  have hgl := hr1.lt
  have hz2 := hg2.size
  have hbw : Below w.heap.size w w2 := hb1.trans (below_of_mut hg2 hg hb1.size)
  have hlt := rdN_lt b false
  have hle2 := rdN_len b false
  have HB := Lib.hid (decFS_bad b)
  have HD : Hid (decF8 b = if decide ((rdN b false).1 ≤ 8) && !(rdL rdT (rdN b false).1 (rdN b false).2.1 (rdN b false).2.2).2.2 && (rdL rdT (rdN b false).1 (rdN b false).2.1 (rdN b false).2.2).2.1.isEmpty && okF (rdL rdT (rdN b false).1 (rdN b false).2.1 (rdN b false).2.2).1 then some (rdL rdT (rdN b false).1 (rdN b false).2.1 (rdN b false).2.2).1 else none) := Lib.hid rfl
  generalize rdN b false = a at *
  obtain ⟨m, l, bad⟩ := a
  simp only at hr2 hlt hle2 HD HB ⊢
  clear hr1 hb1 hR
  by_cases h16 : m ≤ 8
  rotate_left
  · have h16' : (8 : Int) < (m : Int) := by omega
    have HE : Hid (decFC b = 50) := Lib.hid (by have := HD.out; simp [h16] at this; simp [decFC, this])
    have HL : Hid (decFL b = []) := Lib.hid (by have := HD.out; simp [h16] at this; simp [decFL, this])
    go_wp2
    go_ret2
    exact ⟨_, by rw [HE.out]; rfl, by rw [HL.out]; exact World.ownsRow_nil _ _ _ _, hbw⟩
  have h16' : ¬ (8 : Int) < (m : Int) := by omega
  go_wp2_with fail
  go_loopw [6, 7, 8, 16] (fun v _ _ i wk => ∃ k : Nat, k ≤ m ∧ i = .int .u64 (k : Int) ∧ OwnF wk w1.heap.size v (rdL rdT k l bad).1 ∧ Rd wk g (rdL rdT k l bad).2.1 (rdL rdT k l bad).2.2 ∧ Below w.heap.size w wk ∧ w1.heap.size ≤ wk.heap.size) (fun _ _ _ i _ => m - (intOf i).toNat)
  case atStart => exact ⟨0, by omega, rfl, World.ownsRow_nil _ _ _ _, hr2, hbw, hz2⟩
  case round =>
    obtain ⟨k, hk, rfl, hown, hrd, hb, hz⟩ := hrel
    by_cases hlt : k < m
    · have hki : (k : Int) < (m : Int) := by omega
      have hlk := rdL_len rdT_codec k l bad
      have hfit := rdL_succ k l bad
      have hbd := HB.out (k + 1) (by omega)
      generalize hs : rdL rdT k l bad = s at *
      replace hfit := hfit s rfl
      obtain ⟨ats, lk, wk⟩ := s
      simp only at hown hrd hlk hfit
      rw [hfit] at hbd
      obtain ⟨hlk1, hlk2⟩ := hlk
      have HLK := Lib.hid hlk2
      have hasl : ats.length ≤ 8 := by omega
      clear hlk2
      have C1 := Lib.hid (RBytes_calls g lk wk 16 wr hrd (by omega) (by omega) (by omega))
      have hl1 := rdB_len 16 lk wk
      have F8 := Lib.hid fun h => hbd (rdT_more lk wk h)
      have FE := Lib.hid fun h => hfit.trans (show ((ats, lk, wk).1 ++ [(rdT lk wk).1], (rdT lk wk).2) = _ by rw [rdT_eight lk wk h])
      have FL := Lib.hid fun h => hfit.trans (show ((ats, lk, wk).1 ++ [(rdT lk wk).1], (rdT lk wk).2) = _ by rw [rdT_less lk wk h])
      clear hfit hs hbd
      have hl2 := rdN_len (rdB 16 lk wk).2.1 (rdB 16 lk wk).2.2
      have hlt2 := rdN_lt (rdB 16 lk wk).2.1 (rdB 16 lk wk).2.2
      have C2 : Hid (∀ W, Rd W g (rdB 16 lk wk).2.1 (rdB 16 lk wk).2.2 → Calls Try.prog 55 #[.pointer (some ⟨g, 0, none⟩)] W fun e w' => e = .returned (.int .u64 ((rdN (rdB 16 lk wk).2.1 (rdB 16 lk wk).2.2).1 : Nat)) ∧ Went g (rdN (rdB 16 lk wk).2.1 (rdB 16 lk wk).2.2).2.1 (rdN (rdB 16 lk wk).2.1 (rdB 16 lk wk).2.2).2.2 W w') := Lib.hid fun W hW => RNumber_calls g _ _ W hW
      generalize rdB 16 lk wk = sb at *
      obtain ⟨nm, lb, wb⟩ := sb
      simp only at C1 C2 F8 FE FL hl1 hl2 hlt2
      generalize rdN lb wb = sn at *
      obtain ⟨op, lo, wo⟩ := sn
      simp only at C2 F8 FE FL hl2 hlt2
      have hl3 := rdV_len lo wo
      have C3 : Hid (∀ W, Rd W g lo wo → Calls Try.prog 137 #[.pointer (some ⟨g, 0, none⟩)] W fun e w' => e = .returned (vd (rdV lo wo).1) ∧ Went g (rdV lo wo).2.1 (rdV lo wo).2.2 W w') := Lib.hid fun W hW => RValue_calls g _ _ W hW (by omega)
      generalize rdV lo wo = sv at *
      obtain ⟨⟨vk, vn, vt⟩, lv, wv⟩ := sv
      simp only [vd] at C3 FL hl3
      have hgz : g < wr.heap.size := by omega
      go_wp2_with fail
      refine C1.out.mono ?_
      rintro e w3 ⟨v3, rfl, ho3, hr3, hg3⟩
      have hst := str (sl_own ho3)
      have hz3 := hg3.size
      have hown3 := row_mut hown hg3 hgl
      have hb3 : Below w.heap.size w w3 := hb.trans (below_of_mut hg3 hg hb.size)
      clear hown hrd hg3 hb C1
      go_wp2_with fail
      have hx3 := Blk.new w3 162 #[.string ⟨nm.toArray⟩, .int .i64 0, .int .i64 0, .int .i64 0, .string ⟨#[]⟩]
      have hb3a : Below w3.heap.size w3 (w3.alloc (.cells #[.string ⟨nm.toArray⟩, .int .i64 0, .int .i64 0, .int .i64 0, .string ⟨#[]⟩] 162)) := (Below.refl _ _).alloc (Nat.le_refl _) _
      have hr3a := hr3.below hb3a (by omega)
      have hown3a := row_below hown3 hb3a
      have hbw3 := hb3.trans (hb3a.mono hb3.size)
      have hhz : w3.heap.size < (w3.alloc (.cells #[.string ⟨nm.toArray⟩, .int .i64 0, .int .i64 0, .int .i64 0, .string ⟨#[]⟩] 162)).heap.size := by simp
      have hgh : g ≠ w3.heap.size := by omega
      have hh1 : w1.heap.size ≤ w3.heap.size := by omega
      have hhw : w.heap.size ≤ w3.heap.size := hb3.size
      have hnb : u6.ownBlock ≠ some w3.heap.size := by
        intro e
        have := (hown3.lt _ e).2
        omega
      clear hr3 hb3a hown3 hb3 hst ho3
      generalize w3.alloc (.cells #[.string ⟨nm.toArray⟩, .int .i64 0, .int .i64 0, .int .i64 0, .string ⟨#[]⟩] 162) = w3a at *
      generalize w3.heap.size = h at *
      refine (C2.out _ hr3a).mono ?_
      rintro e w4 ⟨rfl, hr4, hg4⟩
      have hz4 := hg4.size
      have hown4 := row_mut hown3a hg4 hgl
      have hb4 : Below w.heap.size w w4 := hbw3.trans (below_of_mut hg4 hg hbw3.size)
      have hx4 := hx3.grown hg4 (by intro e; injection e with e; exact hgh e.symm)
      clear hown3a hr3a hg4 hbw3 C2 hx3
      by_cases h8 : 8 < op
      · have h8' : (8 : Int) < (op : Int) := by omega
        obtain ⟨hC, hL⟩ := F8.out h8
        have HC := Lib.hid hC
        have HL := Lib.hid hL
        clear hC hL h8
        go_wp2
        go_ret2
        exact ⟨_, by rw [HC.out]; rfl, by rw [HL.out]; exact World.ownsRow_nil _ _ _ _, hb4⟩
      have h8' : ¬ (8 : Int) < (op : Int) := by omega
      have q0 := hx4.cell 0
      have q1 := hx4.cell 1
      have q2 := hx4.cell 2
      have q3 := hx4.cell 3
      have q4 := hx4.cell 4
      have z1 := hx4.frozen 1
      simp at q0 q1 q2 q3 q4
      go_upto_region 13 with (fail)
      have hg5 : w4.grownBy (w4.setCell ⟨h, 1, none⟩ (.int .i64 (op : Int))) (some h) := mut_set (mut_refl w4 _) rfl _
      have hz5 := hg5.size
      have hx5 := hx4.set_ 1 (.int .i64 (op : Int))
      have hb5 : Below w.heap.size w (w4.setCell ⟨h, 1, none⟩ (.int .i64 (op : Int))) := hb4.trans (below_of_mut hg5 hhw hb4.size)
      have hr5 := hr4.below (below_of_mut hg5 (Nat.le_refl h) (by omega)) (by omega)
      have hown5 : OwnF _ _ _ _ := World.ownsRow.kept hown4 hg5 (.inr hnb)
      clear hg5 hx4 hb4 hr4 hown4 q0 q1 q2 q3 q4 z1
      generalize w4.setCell ⟨h, 1, none⟩ (.int .i64 (op : Int)) = w5 at *
      have q0 := hx5.cell 0
      have q1 := hx5.cell 1
      have q2 := hx5.cell 2
      have q3 := hx5.cell 3
      have q4 := hx5.cell 4
      simp at q0 q1 q2 q3 q4
      by_cases he : op = 8
      · have HF := Lib.hid (FE.out he)
        subst he
        have hw15 : w1.heap.size ≤ w5.heap.size := by omega
        go_wp2_with (at_builtin; refine wpList_app rfl _ _ 55 rfl w1.heap.size 162 _ 5 56 TF _ _ _ rfl (World.ownsRow.alloc hown5 _) (w5.heap.size + 1) _ 1 1 (tstc ((⟨nm.toArray⟩, 8, 0, 0, ⟨#[]⟩) : Tst)) rfl ?c1 ?c2 ?c3 ?c5 ?_)
        case c1 => exact Reads.new w5 (tstc ((⟨nm.toArray⟩, 8, 0, 0, ⟨#[]⟩) : Tst)) 162 5 1 rfl
        case c2 => first | exact tstc_one _ | exact ⟨rfl, rfl, rfl, rfl, rfl⟩ | exact ⟨rfl, rfl, rfl, rfl⟩
        case c3 => omega
        case c5 => first | omega | (simp; omega)
        intro v9 w9 hown9 hg9 hat9 hb9
        have hown10 : OwnF w9 w1.heap.size v9 (rdL rdT (k + 1) l bad).1 := by
          rw [HF.out]
          unfold OwnF
          simpa [List.flatMap_append] using hown9
        have hr9 : Rd w9 g (rdL rdT (k + 1) l bad).2.1 (rdL rdT (k + 1) l bad).2.2 := by
          rw [HF.out]
          exact (hr5.below (Below.alloc (Below.refl _ _) (Nat.le_refl _) _) hr5.lt).below hb9 hgl
        have hbw9 : Below w.heap.size w w9 := (hb5.alloc hb5.size _).trans (hb9.mono (by omega))
        have hz9 : w1.heap.size ≤ w9.heap.size := by have := hb9.size; simp at this; omega
        clear hown9 hg9 hat9 hb9
        go_wp2
        go_roundw
        case rel => exact ⟨k + 1, by omega, by go_num, hown10, hr9, hbw9, hz9⟩
        case measure => simp [intOf]; omega
      · have HF := Lib.hid (FL.out (by omega))
        have hne : ¬ (op : Int) = 8 := by omega
        go_wp2_with fail
        refine (C3.out _ hr5).mono ?_
        rintro e w6 ⟨rfl, hr6, hg6⟩
        have hz6 := hg6.size
        have hown6 := row_mut hown5 hg6 hgl
        have hb6 : Below w.heap.size w w6 := hb5.trans (below_of_mut hg6 hg hb5.size)
        have hx6 := hx5.grown hg6 (by intro e; injection e with e; exact hgh e.symm)
        clear hown5 hr5 hg6 hb5 C3 hx5 q0 q1 q2 q3 q4
        have q0 := hx6.cell 0
        have q1 := hx6.cell 1
        have q2 := hx6.cell 2
        have q3 := hx6.cell 3
        have q4 := hx6.cell 4
        have z2 := hx6.frozen 2
        have z3 := hx6.frozen 3
        have z4 := hx6.frozen 4
        simp at q0 q1 q2 q3 q4
        go_upto_region 15 with (fail)
        have hg7 := mut_set (mut_set (mut_set (mut_refl w6 (some h)) (p := ⟨h, 2, none⟩) rfl (.int .i64 vk)) (p := ⟨h, 3, none⟩) rfl (.int .i64 vn)) (p := ⟨h, 4, none⟩) rfl (.string ⟨vt.toArray⟩)
        have hz7 := hg7.size
        have hx7 := ((hx6.set_ 2 (.int .i64 vk)).set_ 3 (.int .i64 vn)).set_ 4 (.string ⟨vt.toArray⟩)
        have hb7 : Below w.heap.size w (((w6.setCell ⟨h, 2, none⟩ (.int .i64 vk)).setCell ⟨h, 3, none⟩ (.int .i64 vn)).setCell ⟨h, 4, none⟩ (.string ⟨vt.toArray⟩)) := hb6.trans (below_of_mut hg7 hhw hb6.size)
        have hr7 := hr6.below (below_of_mut hg7 (Nat.le_refl h) (by omega)) (by omega)
        have hown7 : OwnF _ _ _ _ := World.ownsRow.kept hown6 hg7 (.inr hnb)
        clear hg7 hx6 hb6 hr6 hown6 q0 q1 q2 q3 q4 z2 z3 z4
        generalize ((w6.setCell ⟨h, 2, none⟩ (.int .i64 vk)).setCell ⟨h, 3, none⟩ (.int .i64 vn)).setCell ⟨h, 4, none⟩ (.string ⟨vt.toArray⟩) = w7 at *
        have q0 := hx7.cell 0
        have q1 := hx7.cell 1
        have q2 := hx7.cell 2
        have q3 := hx7.cell 3
        have q4 := hx7.cell 4
        simp at q0 q1 q2 q3 q4
        have hw17 : w1.heap.size ≤ w7.heap.size := by omega
        go_wp2_with (at_builtin; refine wpList_app rfl _ _ 55 rfl w1.heap.size 162 _ 5 56 TF _ _ _ rfl (World.ownsRow.alloc hown7 _) (w7.heap.size + 1) _ 1 1 (tstc ((⟨nm.toArray⟩, (op : Int), vk, vn, ⟨vt.toArray⟩) : Tst)) rfl ?c1 ?c2 ?c3 ?c5 ?_)
        case c1 => exact Reads.new w7 (tstc ((⟨nm.toArray⟩, (op : Int), vk, vn, ⟨vt.toArray⟩) : Tst)) 162 5 1 rfl
        case c2 => first | exact tstc_one _ | exact ⟨rfl, rfl, rfl, rfl, rfl⟩ | exact ⟨rfl, rfl, rfl, rfl⟩
        case c3 => omega
        case c5 => first | omega | (simp; omega)
        intro v9 w9 hown9 hg9 hat9 hb9
        have hown10 : OwnF w9 w1.heap.size v9 (rdL rdT (k + 1) l bad).1 := by
          rw [HF.out]
          unfold OwnF
          simpa [List.flatMap_append] using hown9
        have hr9 : Rd w9 g (rdL rdT (k + 1) l bad).2.1 (rdL rdT (k + 1) l bad).2.2 := by
          rw [HF.out]
          exact (hr7.below (Below.alloc (Below.refl _ _) (Nat.le_refl _) _) hr7.lt).below hb9 hgl
        have hbw9 : Below w.heap.size w w9 := (hb7.alloc hb7.size _).trans (hb9.mono (by omega))
        have hz9 : w1.heap.size ≤ w9.heap.size := by have := hb9.size; simp at this; omega
        clear hown9 hg9 hat9 hb9
        go_wp2
        go_roundw
        case rel => exact ⟨k + 1, by omega, by go_num, hown10, hr9, hbw9, hz9⟩
        case measure => simp [intOf]; omega
    · have hki : ¬ (k : Int) < (m : Int) := by omega
      obtain rfl : k = m := by omega
      clear hlt hk
      have hlk := (rdL_len rdT_codec k l bad).2
      generalize rdL rdT k l bad = s at *
      obtain ⟨ats, lk, wk⟩ := s
      simp only at hown hrd HD hlk
      have HLK := Lib.hid hlk
      clear hlk
      have hcomp : ∀ x : Bool, x = (!wk && lk.isEmpty && okF ats) → Hid (decFC b = (if x then 0 else 50)) ∧ Hid (decFL b = if x then ats else []) := by
        intro x hx
        have h := HD.out
        rw [show (decide (k ≤ 8)) = true by simp; omega] at h
        cases x with
        | true => rw [Bool.true_and, ← hx] at h; exact ⟨Lib.hid (by simp [decFC, h]), Lib.hid (by simp [decFL, h])⟩
        | false => rw [Bool.true_and, ← hx] at h; exact ⟨Lib.hid (by simp [decFC, h]), Lib.hid (by simp [decFL, h])⟩
      have HCO := Lib.hid hcomp
      clear hcomp
      go_wp2_with fail
      refine (Done_calls g _ _ wr hrd).mono ?_
      rintro e w' ⟨rfl, rfl⟩
      cases hd : (!wk && lk.isEmpty)
      · obtain ⟨HE, HL⟩ := HCO.out false (by rw [hd]; rfl)
        go_wp2
        go_ret2
        exact ⟨_, by rw [HE.out]; rfl, by rw [HL.out]; exact World.ownsRow_nil _ _ _ _, hb⟩
      · obtain ⟨A', c', rfl, hR', _, _⟩ := hown.slice
        have hrow := row_base (Nat.le_trans hg (Nat.le_of_lt hgl)) hown
        go_wp2_with fail
        refine (FCheck_calls A' c' ats wr wr.heap.size hR' (Nat.le_refl _)).mono ?_
        rintro e w6 ⟨rfl, hb6⟩
        have hbw6 := hb.trans (hb6.mono hb.size)
        have hrow6 := row_below hrow hb6
        cases hok : okF ats
        · have hne : (chkF ats != 0) = true := by simp [chkF, hok]
          obtain ⟨HE, HL⟩ := HCO.out false (by rw [hd, hok]; rfl)
          go_wp2
          go_ret2
          exact ⟨_, by rw [HE.out]; rfl, by rw [HL.out]; exact World.ownsRow_nil _ _ _ _, hbw6⟩
        · have hne : (chkF ats != 0) = false := by simp [chkF, hok]
          obtain ⟨HE, HL⟩ := HCO.out true (by rw [hd, hok]; rfl)
          go_wp2
          go_ret2
          exact ⟨_, by rw [HE.out]; rfl, by rw [HL.out]; exact hrow6, hbw6⟩
theorem FDecode_sl {b : List UInt8} {v : Value} {w : World} (h : sl b v w) (hn : b.length ≤ 1000000000) : Calls Try.prog 124 #[v] w fun e w' =>
    ∃ v', e = .returned (.tuple #[v', .int .i64 (decFC b)]) ∧ OwnF w' w.heap.size v' (decFL b) ∧ Below w.heap.size w w' := by
  obtain ⟨A, c, rfl, hR⟩ := h
  exact FDecode_calls A _ c b w _ hR (Nat.le_refl _) hn
end Go.Proofs.Ythnhdeieimgfhaa

/-
  The walk of the document's Same of filters (layer 5). Conditions: none.
-/
set_option maxRecDepth 100000
namespace Go.Proofs.Ythnhdeieimgfhaa
open Go Go.RowKit

theorem run_tst_eq (x y : Tst) (w : World) (d : Nat) : (Op.equalIn (d + 1 + 1 + 1) 162 (.agg #[.string x.1, .int .i64 x.2.1, .int .i64 x.2.2.1, .int .i64 x.2.2.2.1, .string x.2.2.2.2]) (.agg #[.string y.1, .int .i64 y.2.1, .int .i64 y.2.2.1, .int .i64 y.2.2.2.1, .string y.2.2.2.2])).run Try.prog w = .ok (decide (x = y)) w := by
  obtain ⟨a, o, k, n, s⟩ := x
  obtain ⟨a', o', k', n', s'⟩ := y
  simp [go_sem, toList_iff]
  by_cases h0 : a = a' <;> by_cases h4 : o = o' <;> by_cases h1 : k = k' <;> by_cases h2 : n = n' <;> by_cases h3 : s = s' <;> simp [h0, h1, h2, h3, h4]
theorem neq_tst (x y : Tst) (w : World) : (binOp .neq 162 (.agg #[.string x.1, .int .i64 x.2.1, .int .i64 x.2.2.1, .int .i64 x.2.2.2.1, .string x.2.2.2.2]) (.agg #[.string y.1, .int .i64 y.2.1, .int .i64 y.2.2.1, .int .i64 y.2.2.2.1, .string y.2.2.2.2])).run Try.prog w = .ok (.bool (!decide (x = y))) w := by
  rw [run_neq_struct, run_tst_eq x y w 9997]; rfl
theorem take_eq_succ' {α : Type} (a b : List α) (k : Nat) (ha : k < a.length) (hb : k < b.length) (h : a.take k = b.take k) : (a.take (k + 1) = b.take (k + 1)) ↔ a[k] = b[k] := by
  rw [List.take_succ_eq_append_getElem ha, List.take_succ_eq_append_getElem hb, h]
  constructor
  · intro e
    have := List.append_cancel_left e
    simpa using this
  · intro e; rw [e]

set_option maxHeartbeats 2000000 in
theorem FSame_calls (A D : Option Addr) (c d : Nat) (la lb : List Tst) (w : World) (B B' : Nat) (hR : Reads w B 5 A la.length (la.flatMap tstc)) (hB : B ≤ w.heap.size) (hS : Reads w B' 5 D lb.length (lb.flatMap tstc)) (hB' : B' ≤ w.heap.size) (hlen : la.length ≤ 1000000) :
    Calls Try.prog 110 #[.slice A la.length c, .slice D lb.length d] w fun e w' => e = .returned (.bool (decide (la = lb))) ∧ Below w.heap.size w w' := by
  have HA := Lib.hid hR
  have HD := Lib.hid hS
  clear hR hS
  by_cases hl : la.length = lb.length
  rotate_left
  · have hb1 : ((la.length : Int) != (lb.length : Int)) = true := by rw [bne_iff_ne]; omega
    have HE : Hid (decide (la = lb) = false) := Lib.hid (by simp; rintro rfl; exact hl rfl)
    clear hl
    go_enter Try.func110, Try.ntmps110
    go_wp2
    go_ret
    exact ⟨by rw [HE.out]; rfl, Below.refl _ _⟩
  have hb1 : ((la.length : Int) != (lb.length : Int)) = false := by rw [bne_eq_false_iff_eq]; omega
  have HL := Lib.hid hl
  have hl1 : la.length ≤ lb.length := by omega
  clear hl
  go_enter Try.func110, Try.ntmps110
  go_wp2_with fail
  go_loopw [5] (fun i wr => ∃ k : Nat, k ≤ la.length ∧ i = .int .i64 (k : Int) ∧ Hid (la.take k = lb.take k) ∧ Below w.heap.size w wr) (fun i _ => la.length - (intOf i).toNat)
  case atStart => exact ⟨0, by omega, rfl, Lib.hid (by simp), Below.refl _ _⟩
  case round =>
    obtain ⟨k, hk, rfl, hall, hb⟩ := hrel
    by_cases hlt : k < la.length
    · have hki : (k : Int) < (la.length : Int) := by omega
      have hlt2 : k < lb.length := by omega
      have hki2 : (k : Int) < (lb.length : Int) := by omega
      have hki0 : (0 : Int) ≤ (k : Int) := by omega
      obtain ⟨b, off, rfl, hbB, hcell⟩ := HA.out.tsts (by omega)
      obtain ⟨e, eo, rfl, heB, hcelle⟩ := HD.out.tsts (by omega)
      have hbw : b < w.heap.size := Nat.lt_of_lt_of_le hbB hB
      have hew : e < w.heap.size := Nat.lt_of_lt_of_le heB hB'
      obtain ⟨e0, e1, e2, e3, e4⟩ := hcell k hlt
      obtain ⟨f0, f1, f2, f3, f4⟩ := hcelle k hlt2
      have a0 := (hb.cell (p := ⟨b, off + k * 5, none⟩) hbw).trans e0
      have a1 := (hb.cell (p := ⟨b, off + k * 5 + 1, none⟩) hbw).trans e1
      have a2 := (hb.cell (p := ⟨b, off + k * 5 + 2, none⟩) hbw).trans e2
      have a3 := (hb.cell (p := ⟨b, off + k * 5 + 3, none⟩) hbw).trans e3
      have a4 := (hb.cell (p := ⟨b, off + k * 5 + 4, none⟩) hbw).trans e4
      have d0 := (hb.cell (p := ⟨e, eo + k * 5, none⟩) hew).trans f0
      have d1 := (hb.cell (p := ⟨e, eo + k * 5 + 1, none⟩) hew).trans f1
      have d2 := (hb.cell (p := ⟨e, eo + k * 5 + 2, none⟩) hew).trans f2
      have d3 := (hb.cell (p := ⟨e, eo + k * 5 + 3, none⟩) hew).trans f3
      have d4 := (hb.cell (p := ⟨e, eo + k * 5 + 4, none⟩) hew).trans f4
      have hT := Lib.hid (take_eq_succ' la lb k hlt hlt2 hall.out)
      have HF : Hid (la[k] ≠ lb[k] → decide (la = lb) = false) := Lib.hid fun h => by
        simp; rintro rfl; exact h rfl
      clear e0 e1 e2 e3 e4 f0 f1 f2 f3 f4 hcell hcelle
      generalize la[k] = x at *
      generalize lb[k] = y at *
      have hne := neq_tst x y
      obtain ⟨xs, xo, xk, xn, xt⟩ := x
      obtain ⟨ys, yo, yk, yn, yt⟩ := y
      simp only at a0 a1 a2 a3 a4 d0 d1 d2 d3 d4 hne
      generalize hq : decide ((xs, xo, xk, xn, xt) = (ys, yo, yk, yn, yt)) = q at *
      have HQ := Lib.hid hq
      have HNE := Lib.hid hne
      clear hq hne
      go_wp2_with fail
      obtain ⟨C, hC⟩ : ∃ C : World → Prop, C = fun W => Below wr.heap.size wr W := ⟨_, rfl⟩
      have hg : ∀ W W', C W → Below W.heap.size W W' → C W' := by
        subst hC
        exact fun W W' h1 hb => h1.trans (hb.mono h1.size)
      have hc0 : C wr := by rw [hC]; exact Below.refl _ _
      have hz := hb.size
      refine wp_region_grow C [isV (.slice (some ⟨b, off, none⟩) la.length c), isV (.int .i64 (k : Int)), isV (.pointer (some ⟨b, off + k * 5, none⟩)), isV (tstv (xs, xo, xk, xn, xt)), isV (.slice (some ⟨e, eo, none⟩) lb.length d), isV (.int .i64 (k : Int)), isV (.pointer (some ⟨e, eo + k * 5, none⟩)), isV (tstv (ys, yo, yk, yn, yt)), isV (.bool (!q))]
        [([], []), ([], []), ([0, 1], [(17, 0), (18, 1)]), ([2], [(19, 2)]), ([], []), ([], []), ([4, 5], [(21, 4), (22, 5)]), ([6], [(23, 6)]), ([3, 7], [(20, 3), (24, 7)])] 26 rfl (by kernel_rfl) (by kernel_rfl) (by kernel_rfl) hg (by exact hg _ _ hc0 (Below.drew (Below.refl _ _))) ?st ?ow ?_
      case st =>
        simp only [List.forall_mem_cons]
        and_intros
        all_goals first | exact isV_st _ | simp
      case ow =>
        simp only [OwedQ]
        and_intros
        all_goals try trivial
        all_goals
          intro V w' hc hp
          rw [hC] at hc
          have hcl := fun p h => hc.cell (p := p) h
          have c0 := (hc.cell (p := ⟨b, off + k * 5, none⟩) (by simp; omega)).trans a0
          have c1 := (hc.cell (p := ⟨b, off + k * 5 + 1, none⟩) (by simp; omega)).trans a1
          have c2 := (hc.cell (p := ⟨b, off + k * 5 + 2, none⟩) (by simp; omega)).trans a2
          have c3 := (hc.cell (p := ⟨b, off + k * 5 + 3, none⟩) (by simp; omega)).trans a3
          have c4 := (hc.cell (p := ⟨b, off + k * 5 + 4, none⟩) (by simp; omega)).trans a4
          have g0 := (hc.cell (p := ⟨e, eo + k * 5, none⟩) (by simp; omega)).trans d0
          have g1 := (hc.cell (p := ⟨e, eo + k * 5 + 1, none⟩) (by simp; omega)).trans d1
          have g2 := (hc.cell (p := ⟨e, eo + k * 5 + 2, none⟩) (by simp; omega)).trans d2
          have g3 := (hc.cell (p := ⟨e, eo + k * 5 + 3, none⟩) (by simp; omega)).trans d3
          have g4 := (hc.cell (p := ⟨e, eo + k * 5 + 4, none⟩) (by simp; omega)).trans d4
          try simp only [List.forall_mem_cons, tab_zero, tab_succ, isV] at hp
          try simp [wantsG, rhoP, List.lookup, hp, tab_zero, tab_succ, ResG, execOp, bareOp, isV, undef, Below.refl, c0, c1, c2, c3, c4, g0, g1, g2, g3, g4, hlt, hlt2, HNE.out, go_sem]
      intro V W hc hp
      have h8 := hp 8 (by simp)
      simp only [tab_zero, tab_succ, isV] at h8
      rw [hC] at hc
      clear hp hg hc0 hC
      simp only [putAll, Act.put, List.setIfInBounds_toArray, List.set_cons_succ, List.set_cons_zero, h8]
      have hbW := hb.trans (hc.mono hz)
      clear hc hb HNE
      cases q
      · have HE : Hid (decide (la = lb) = false) := Lib.hid (HF.out (by have := HQ.out; simpa using this))
        go_wp2
        go_ret
        exact ⟨by rw [HE.out]; rfl, hbW⟩
      · have hr : Hid (la.take (k + 1) = lb.take (k + 1)) := Lib.hid (hT.out.2 (by have := HQ.out; simpa using this))
        go_wp2
        go_roundw
        case rel => exact ⟨k + 1, by omega, by go_num, hr, hbW⟩
        case measure => simp [intOf]; omega
    · have hki : ¬ (k : Int) < (la.length : Int) := by omega
      have HE : Hid (decide (la = lb) = true) := by
        refine Lib.hid ?_
        have h1 := hall.out
        have h2 := HL.out
        rw [List.take_of_length_le (by omega), List.take_of_length_le (by omega)] at h1
        simp [h1]
      go_wp2
      go_ret
      exact ⟨by rw [HE.out]; rfl, hb⟩

theorem FSame_flt {la lb : List Tst} {va vb : Value} {w : World} (h : flt la va w) (k : flt lb vb w) (hlen : la.length ≤ 1000000) : Calls Try.prog 110 #[va, vb] w fun e w' => e = .returned (.bool (decide (la = lb))) ∧ Below w.heap.size w w' := by
  obtain ⟨A, c, rfl, hR⟩ := h
  obtain ⟨D, d, rfl, hS⟩ := k
  exact FSame_calls A D c d la lb w _ _ hR (Nat.le_refl _) hS (Nat.le_refl _) hlen
end Go.Proofs.Ythnhdeieimgfhaa

/-
  The walk of the statements' Few of filters (layer 5). Conditions: none.
-/
set_option maxRecDepth 100000
namespace Go.Proofs.Ythnhdeieimgfhaa
open Go Go.RowKit

/-- At most ten tests, of texts of at most a hundred bytes. -/
def fewF (l : List Tst) : Bool := decide (l.length ≤ 10) && l.all fun x => decide (x.1.size ≤ 100) && decide (x.2.2.2.2.size ≤ 100)
theorem fewF_bad (l : List Tst) (k : Nat) (h : k < l.length) (hb : ¬ (l[k].1.size ≤ 100 ∧ l[k].2.2.2.2.size ≤ 100)) : fewF l = false := by
  simp only [fewF, Bool.and_eq_false_iff]
  right
  rw [List.all_eq_false]
  exact ⟨l[k], List.getElem_mem h, by simpa using hb⟩
theorem fewF_good (l : List Tst) (h10 : l.length ≤ 10) (h : ∀ k (hk : k < l.length), l[k].1.size ≤ 100 ∧ l[k].2.2.2.2.size ≤ 100) : fewF l = true := by
  simp only [fewF, Bool.and_eq_true, decide_eq_true_eq, h10, true_and, List.all_eq_true]
  intro x hx
  obtain ⟨k, hk, rfl⟩ := List.getElem_of_mem hx
  exact h k hk
theorem fewF_parts {l : List Tst} (h : fewF l = true) : l.length ≤ 10 ∧ ∀ x ∈ l, x.1.size ≤ 100 ∧ x.2.2.2.2.size ≤ 100 := by
  simp only [fewF, Bool.and_eq_true, decide_eq_true_eq, List.all_eq_true] at h
  exact h

set_option maxHeartbeats 2000000 in
theorem FFew_calls (A : Option Addr) (c : Nat) (l : List Tst) (w : World) (B : Nat) (hR : Reads w B 5 A l.length (l.flatMap tstc)) (_hB : B ≤ w.heap.size) :
    Calls Try.prog 109 #[.slice A l.length c] w fun e w' => e = .returned (.bool (fewF l)) ∧ w = w' := by
  have HA := Lib.hid hR
  clear hR
  by_cases hl : l.length ≤ 10
  rotate_left
  · have hb1 : (10 : Int) < (l.length : Int) := by omega
    have HE : Hid (fewF l = false) := Lib.hid (by simp [fewF]; omega)
    clear hl
    go_enter Try.func109, Try.ntmps109
    go_wp2
    go_ret
    exact ⟨by rw [HE.out]; rfl, rfl⟩
  have hb1 : ¬ (10 : Int) < (l.length : Int) := by omega
  go_enter Try.func109, Try.ntmps109
  go_wp2_with fail
  go_loop [3] (fun i => ∃ k : Nat, k ≤ l.length ∧ i = .int .i64 (k : Int) ∧ Hid (∀ j (hj : j < l.length), j < k → l[j].1.size ≤ 100 ∧ l[j].2.2.2.2.size ≤ 100)) (fun i => l.length - (intOf i).toNat)
  case atStart => exact ⟨0, by omega, rfl, Lib.hid (fun j _ h => absurd h (by omega))⟩
  case round =>
    obtain ⟨k, hk, rfl, hall⟩ := hrel
    by_cases hlt : k < l.length
    · have hki : (k : Int) < (l.length : Int) := by omega
      obtain ⟨b, off, rfl, hbB, hcell⟩ := HA.out.tsts (by omega)
      obtain ⟨d0, d1, d2, d3, d4⟩ := hcell k hlt
      clear hcell d1 d2 d3
      have HF := Lib.hid (fewF_bad l k hlt)
      have HT : Hid (l[k].1.size ≤ 100 ∧ l[k].2.2.2.2.size ≤ 100 → ∀ j (hj : j < l.length), j < k + 1 → l[j].1.size ≤ 100 ∧ l[j].2.2.2.2.size ≤ 100) := by
        refine Lib.hid fun h j hj hjk => ?_
        by_cases e : j = k
        · subst e; exact h
        · exact hall.out j hj (by omega)
      generalize l[k] = x at *
      obtain ⟨xs, xo, xk, xn, xt⟩ := x
      simp only at d0 d4 HF HT
      by_cases h1 : xs.size ≤ 100
      · have h1' : ¬ (100 : Int) < (xs.size : Int) := by omega
        by_cases h2 : xt.size ≤ 100
        · have h2' : ¬ (100 : Int) < (xt.size : Int) := by omega
          have hr := Lib.hid (HT.out ⟨h1, h2⟩)
          go_wp2
          go_round
          case rel => exact ⟨k + 1, by omega, by go_num, hr⟩
          case measure => simp [intOf]; omega
        · have h2' : (100 : Int) < (xt.size : Int) := by omega
          have HE : Hid (fewF l = false) := Lib.hid (HF.out (by omega))
          go_wp2
          go_ret
          exact ⟨by rw [HE.out]; rfl, rfl⟩
      · have h1' : (100 : Int) < (xs.size : Int) := by omega
        have HE : Hid (fewF l = false) := Lib.hid (HF.out (by omega))
        go_wp2
        go_ret
        exact ⟨by rw [HE.out]; rfl, rfl⟩
    · have hki : ¬ (k : Int) < (l.length : Int) := by omega
      have HE : Hid (fewF l = true) := Lib.hid (fewF_good l hl fun j hj => hall.out j hj (by omega))
      go_wp2
      go_ret
      exact ⟨by rw [HE.out]; rfl, rfl⟩
section
variable {l : List Tst} {v : Value} {w : World}
theorem FFew_flt (h : flt l v w) : Calls Try.prog 109 #[v] w fun e w' => e = .returned (.bool (fewF l)) ∧ w = w' := by
  obtain ⟨A, c, rfl, hR⟩ := h
  exact FFew_calls A c l w _ hR (Nat.le_refl _)
end
theorem fewF_fit {l : List Tst} (h : fewF l = true) : l.length ≤ 1000000 ∧ ∀ x ∈ l, x.1.size ≤ 1000000000 := by
  obtain ⟨h1, h2⟩ := fewF_parts h
  exact ⟨by omega, fun x hx => by have := (h2 x hx).1; omega⟩

end Go.Proofs.Ythnhdeieimgfhaa
