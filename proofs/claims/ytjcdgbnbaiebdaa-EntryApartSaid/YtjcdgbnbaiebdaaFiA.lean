/-
  Filters in plain Lean: which of two values comes first, what a test asks, what may be, what bytes they are. Conditions: none.
-/
import Derived.Test.YtjcdgbnbaiebdaaFiOpen
import Derived.Test.YtjcdgbnbaiebdaaCodec
import Derived.Test.YtjcdgbnbaiebdaaEvH
import Derived.Test.YtjcdgbnbaiebdaaEvDp
import Derived.Test.YtjcdgbnbaiebdaaEvG
set_option maxRecDepth 100000
namespace Go.Proofs.Ytjcdgbnbaiebdaa
open Go Go.RowKit

abbrev Vl := Int × Int × ByteArray
/-- Which of two values comes first. -/
def ordI (a b : Int) : Int := if a < b then -1 else if b < a then 1 else 0
def ordS (a b : ByteArray) : Int := if ltS a b then -1 else if ltS b a then 1 else 0
def ordV (a b : Vl) : Int := if ordI a.1 b.1 != 0 then ordI a.1 b.1 else if ordI a.2.1 b.2.1 != 0 then ordI a.2.1 b.2.1 else ordS a.2.2 b.2.2
/-- Whether a text begins with another one. -/
def preB (a b : ByteArray) : Bool := decide (b.size ≤ a.size) && ((a.extract 0 b.size).toList == b.toList)
def begV (a b : Vl) : Bool := a.1 == 2 && b.1 == 2 && preB a.2.2 b.2.2
/-- Whether a value is as a test asks it. -/
def isT (t : Tst) (v : Vl) : Bool :=
  if t.2.1 == 8 then true else
  (v.1 == t.2.2.1) && (if t.2.1 == 1 then ordV v t.2.2 == 0 else if t.2.1 == 2 then ordV v t.2.2 != 0 else if t.2.1 == 3 then decide (ordV v t.2.2 < 0) else if t.2.1 == 4 then decide (ordV v t.2.2 ≤ 0)
    else if t.2.1 == 5 then decide (0 < ordV v t.2.2) else if t.2.1 == 6 then decide (0 ≤ ordV v t.2.2) else if t.2.1 == 7 then begV v t.2.2 else false)
def holdsT (t : Tst) (e : List Att) : Bool := match e.find? (isN t.1) with | some x => isT t x.2 | none => false
def matchesF (f : List Tst) (e : List Att) : Bool := f.all fun t => holdsT t e
/-- Whether a test may be; a filter. -/
def okT (t : Tst) : Bool :=
  okName t.1 && (if t.2.1 == 8 then decide (t.2.2 = (0, 0, ⟨#[]⟩)) else if t.2.1 == 7 then okV t.2.2.1 t.2.2.2.1 t.2.2.2.2 && t.2.2.1 == 2 else decide (1 ≤ t.2.1) && decide (t.2.1 ≤ 8) && okV t.2.2.1 t.2.2.2.1 t.2.2.2.2)
def okF (l : List Tst) : Bool := decide (l.length ≤ 8) && l.all okT
def chkT (t : Tst) : Int := if okT t then 0 else 50
def chkF (l : List Tst) : Int := if okF l then 0 else 50
/-- A test's bytes, a filter's. -/
def encT (t : Tst) : List UInt8 := (packN t.1.size ++ byt t.1) ++ (packN (kindN t.2.1) ++ (if t.2.1 == 8 then [] else packV t.2.2.1 t.2.2.2.1 t.2.2.2.2))
def encF (l : List Tst) : List UInt8 := packN l.length ++ l.flatMap encT
def encFR (l : List Tst) : List UInt8 := if okF l then encF l else []
/-- A test as a reader reads it. -/
def rdT : Rdr Tst := fun l wr =>
  if 8 < (rdN (rdB 16 l wr).2.1 (rdB 16 l wr).2.2).1 then ((⟨#[]⟩, 0, 0, 0, ⟨#[]⟩), (rdN (rdB 16 l wr).2.1 (rdB 16 l wr).2.2).2.1, true)
  else if (rdN (rdB 16 l wr).2.1 (rdB 16 l wr).2.2).1 = 8 then ((⟨(rdB 16 l wr).1.toArray⟩, 8, 0, 0, ⟨#[]⟩), (rdN (rdB 16 l wr).2.1 (rdB 16 l wr).2.2).2)
  else ((⟨(rdB 16 l wr).1.toArray⟩, ((rdN (rdB 16 l wr).2.1 (rdB 16 l wr).2.2).1 : Int), (rdV (rdN (rdB 16 l wr).2.1 (rdB 16 l wr).2.2).2.1 (rdN (rdB 16 l wr).2.1 (rdB 16 l wr).2.2).2.2).1.1,
    (rdV (rdN (rdB 16 l wr).2.1 (rdB 16 l wr).2.2).2.1 (rdN (rdB 16 l wr).2.1 (rdB 16 l wr).2.2).2.2).1.2.1, ⟨(rdV (rdN (rdB 16 l wr).2.1 (rdB 16 l wr).2.2).2.1 (rdN (rdB 16 l wr).2.1 (rdB 16 l wr).2.2).2.2).1.2.2.toArray⟩),
    (rdV (rdN (rdB 16 l wr).2.1 (rdB 16 l wr).2.2).2.1 (rdN (rdB 16 l wr).2.1 (rdB 16 l wr).2.2).2.2).2)
/-- The filter that bytes are, if they are one. -/
def decFS (b : List UInt8) : List Tst × List UInt8 × Bool := rdL rdT (rdN b false).1 (rdN b false).2.1 (rdN b false).2.2
def decF8 (b : List UInt8) : Option (List Tst) :=
  if decide ((rdN b false).1 ≤ 8) && !(decFS b).2.2 && (decFS b).2.1.isEmpty && okF (decFS b).1 then some (decFS b).1 else none
def decFL (b : List UInt8) : List Tst := (decF8 b).getD []
def decFC (b : List UInt8) : Int := if (decF8 b).isSome then 0 else 50

theorem okF_parts {l : List Tst} (h : okF l = true) : l.length ≤ 8 ∧ ∀ x ∈ l, okT x = true := by
  simp only [okF, Bool.and_eq_true, decide_eq_true_eq, List.all_eq_true] at h
  exact h
theorem okT_parts {t : Tst} (h : okT t = true) : t.1.size ≤ 16 ∧ 1 ≤ t.2.1 ∧ t.2.1 ≤ 8 ∧ (t.2.1 = 8 → t.2.2 = (0, 0, ⟨#[]⟩)) ∧ (t.2.1 ≠ 8 → okV t.2.2.1 t.2.2.2.1 t.2.2.2.2 = true) := by
  simp only [okT, Bool.and_eq_true] at h
  obtain ⟨h1, h2⟩ := h
  simp only [okName, Bool.and_eq_true, decide_eq_true_eq] at h1
  refine ⟨h1.1.2, ?_⟩
  by_cases e8 : t.2.1 = 8
  · rw [if_pos (by simp [e8])] at h2
    exact ⟨by omega, by omega, fun _ => of_decide_eq_true h2, fun h => absurd e8 h⟩
  · rw [if_neg (by simp [e8])] at h2
    by_cases e7 : t.2.1 = 7
    · rw [if_pos (by simp [e7])] at h2
      simp only [Bool.and_eq_true] at h2
      exact ⟨by omega, by omega, fun h => absurd h e8, fun _ => h2.1⟩
    · rw [if_neg (by simp [e7])] at h2
      simp only [Bool.and_eq_true, decide_eq_true_eq] at h2
      exact ⟨h2.1.1, h2.1.2, fun h => absurd h e8, fun _ => h2.2⟩

theorem rdT_len (l : List UInt8) (wr : Bool) : (rdT l wr).2.1.length ≤ l.length := by
  have h1 := rdB_len 16 l wr
  have h2 := rdN_len (rdB 16 l wr).2.1 (rdB 16 l wr).2.2
  have h3 := rdV_len (rdN (rdB 16 l wr).2.1 (rdB 16 l wr).2.2).2.1 (rdN (rdB 16 l wr).2.1 (rdB 16 l wr).2.2).2.2
  unfold rdT
  split
  · simp only; omega
  · split
    · simp only; omega
    · simp only; omega
theorem rdT_fwd (t : Tst) (h : okT t = true ∧ fitT t) (rest : List UInt8) : rdT (encT t ++ rest) false = (t, rest, false) := by
  obtain ⟨hok, hf⟩ := h
  obtain ⟨h16, h1, h8, he, hv⟩ := okT_parts hok
  obtain ⟨s, op, k, n, x⟩ := t
  simp only at h16 h1 h8 he hv hf
  have hk : kindN op = op.toNat := by unfold kindN; omega
  have e1 : rdB 16 (encT (s, op, k, n, x) ++ rest) false = (byt s, packN (kindN op) ++ (if op == 8 then [] else packV k n x) ++ rest, false) := by
    have := rdB_pack 16 (byt s) (by simp; omega) (by simp; omega) (packN (kindN op) ++ (if op == 8 then [] else packV k n x) ++ rest)
    rw [show (byt s).length = s.size by simp] at this
    unfold encT
    rw [List.append_assoc (packN s.size ++ byt s)]
    exact this
  have e2 := rdN_pack (kindN op) (kindN_lt op) ((if op == 8 then [] else packV k n x) ++ rest)
  unfold rdT
  rw [e1]
  simp only
  rw [List.append_assoc (packN (kindN op)), e2]
  simp only
  rw [if_neg (by omega)]
  by_cases e8 : op = 8
  · rw [if_pos (by omega)]
    have := he e8
    simp only [Prod.mk.injEq] at this
    obtain ⟨rfl, rfl, rfl⟩ := this
    subst e8
    cases s
    rfl
  · rw [if_neg (by omega), if_neg (by simp [e8])]
    have e3 := rdV_pack k n x (hv e8) hf.2.2.1 hf.2.2.2 rest
    rw [e3]
    cases s
    cases x
    simp only [Prod.mk.injEq, and_true, true_and]
    omega
theorem rdT_back (l : List UInt8) (wr : Bool) (h : (rdT l wr).2.2 = false) : l = encT (rdT l wr).1 ++ (rdT l wr).2.1 ∧ wr = false := by
  have hlt := rdN_lt (rdB 16 l wr).2.1 (rdB 16 l wr).2.2
  unfold rdT at h ⊢
  split at h
  · cases h
  · rename_i h8
    rw [if_neg h8]
    split at h
    · rename_i e8
      rw [if_pos e8]
      obtain ⟨e2, w2⟩ := rdN_back h
      obtain ⟨e1, _, w1⟩ := rdB_back w2
      refine ⟨?_, w1⟩
      unfold encT
      simp only
      have hs : (⟨(rdB 16 l wr).1.toArray⟩ : ByteArray).size = (rdB 16 l wr).1.length := by simp [ByteArray.size]
      rw [hs, show byt ⟨(rdB 16 l wr).1.toArray⟩ = (rdB 16 l wr).1 by simp [byt]]
      rw [show kindN (8 : Int) = (rdN (rdB 16 l wr).2.1 (rdB 16 l wr).2.2).1 by rw [e8]; rfl]
      rw [if_pos (by decide), List.append_nil, List.append_assoc, ← e2]
      exact e1
    · rename_i e8
      rw [if_neg e8]
      obtain ⟨e3, _, w3, _⟩ := rdV_back h
      obtain ⟨e2, w2⟩ := rdN_back w3
      obtain ⟨e1, _, w1⟩ := rdB_back w2
      refine ⟨?_, w1⟩
      unfold encT
      simp only
      have hs : (⟨(rdB 16 l wr).1.toArray⟩ : ByteArray).size = (rdB 16 l wr).1.length := by simp [ByteArray.size]
      rw [hs, show byt ⟨(rdB 16 l wr).1.toArray⟩ = (rdB 16 l wr).1 by simp [byt]]
      rw [show kindN ((rdN (rdB 16 l wr).2.1 (rdB 16 l wr).2.2).1 : Int) = (rdN (rdB 16 l wr).2.1 (rdB 16 l wr).2.2).1 by unfold kindN; omega]
      rw [if_neg (by simp; omega), List.append_assoc, List.append_assoc (packN (rdN (rdB 16 l wr).2.1 (rdB 16 l wr).2.2).1), ← e3, ← e2]
      exact e1
theorem rdT_codec : Codec encT (fun t => okT t = true ∧ fitT t) rdT := ⟨rdT_fwd, rdT_back, rdT_len⟩
theorem rdT_fit (l : List UInt8) (wr : Bool) : fitT (rdT l wr).1 ∧ (rdT l wr).1.1.size ≤ 16 := by
  have hB := rdB_most 16 l wr
  have hV := rdV_i64 (rdN (rdB 16 l wr).2.1 (rdB 16 l wr).2.2).2.1 (rdN (rdB 16 l wr).2.1 (rdB 16 l wr).2.2).2.2
  unfold rdT
  split
  · exact ⟨by unfold fitT i64ok; simp, by simp [ByteArray.size]⟩
  · split
    · exact ⟨by unfold fitT i64ok; simp, by simpa [ByteArray.size] using hB⟩
    · refine ⟨⟨?_, hV.1, hV.2⟩, by simpa [ByteArray.size] using hB⟩
      unfold i64ok; simp only; omega

theorem decF_parts (l : List Tst) (hl : okF l = true) (hf : ∀ x ∈ l, fitT x) (rest : List UInt8) : rdN (encF l ++ rest) false = (l.length, l.flatMap encT ++ rest, false) ∧ decFS (encF l ++ rest) = (l, rest, false) := by
  obtain ⟨h2, h3⟩ := okF_parts hl
  have e1 : rdN (encF l ++ rest) false = (l.length, l.flatMap encT ++ rest, false) := by
    unfold encF; rw [List.append_assoc]; exact rdN_pack l.length (by omega) _
  refine ⟨e1, ?_⟩
  have h5 := rdL_fwd rdT_codec l (fun x hx => ⟨h3 x hx, hf x hx⟩) rest l.length (Nat.le_refl _)
  unfold decFS
  rw [e1]
  simpa using h5
theorem decF_enc (l : List Tst) (hl : okF l = true) (hf : ∀ x ∈ l, fitT x) : decF8 (encF l) = some l := by
  have h := decF_parts l hl hf []
  rw [List.append_nil] at h
  have h2 := (okF_parts hl).1
  unfold decF8
  rw [h.2, h.1]
  simp [hl, h2]
theorem decF_back {b : List UInt8} {y : List Tst} (h : decF8 b = some y) : b = encF y ∧ okF y = true ∧ ∀ x ∈ y, fitT x := by
  unfold decF8 at h
  split at h
  · rename_i hq
    injection h with h
    simp only [Bool.and_eq_true, Bool.not_eq_true', List.isEmpty_iff, decide_eq_true_eq] at hq
    obtain ⟨⟨⟨h16, hw⟩, hr⟩, hok⟩ := hq
    unfold decFS at hw hr hok h
    obtain ⟨e2, w2⟩ := rdL_back rdT_codec hw
    obtain ⟨e1, _⟩ := rdN_back w2
    have hlen := (rdL_len rdT_codec (rdN b false).1 (rdN b false).2.1 (rdN b false).2.2).2
    have hfit := rdL_all (fun x : Tst => fitT x ∧ x.1.size ≤ 16) rdT_fit (rdN b false).1 (rdN b false).2.1 (rdN b false).2.2
    rw [h] at e2 hlen hok hfit
    rw [hr, List.append_nil] at e2
    refine ⟨?_, hok, fun x hx => (hfit x hx).1⟩
    unfold encF
    rw [hlen, ← e2]
    exact e1
  · cases h
theorem encF_inj (a b : List Tst) (ha : okF a = true) (hb : okF b = true) (fa : ∀ x ∈ a, fitT x) (fb : ∀ x ∈ b, fitT x) (h : encF a = encF b) : a = b := by
  have h1 := decF_enc a ha fa
  rw [h, decF_enc b hb fb] at h1
  injection h1 with h1
  exact h1.symm
end Go.Proofs.Ytjcdgbnbaiebdaa
