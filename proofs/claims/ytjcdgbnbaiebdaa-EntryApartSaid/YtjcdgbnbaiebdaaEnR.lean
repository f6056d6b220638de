/-
  Records in plain Lean: what may be, what bytes they are, how a reader reads them. Conditions: none.
-/
import Derived.Test.YtjcdgbnbaiebdaaEnA
namespace Go.Proofs.Ytjcdgbnbaiebdaa
open Go Go.RowKit

/-- A record. -/
structure Rec where
  kind : Int
  n : Nat
  e : Ent
  br : Int
  life : Nat
  ser : Nat
  deriving DecidableEq
def rec0 : Rec := ⟨0, 0, ent0, 0, 0, 0⟩
def fitRec (x : Rec) : Prop := i64ok x.kind ∧ x.n < 18446744073709551616 ∧ fitEn x.e ∧ i64ok x.br ∧ x.life < 18446744073709551616 ∧ x.ser < 18446744073709551616
def noId (x : Rec) : Bool := decide (x.br = 0) && decide (x.life = 0) && decide (x.ser = 0)
/-- Whether a record may be. -/
def okRec (x : Rec) : Bool :=
  if x.kind = 1 then decide (x.e = ent0) && noId x
  else if x.kind = 2 then okEn x.e && noId x
  else if x.kind = 3 then decide (x.n = 0) && okEn x.e && noId x
  else if x.kind = 4 ∨ x.kind = 5 then homeB x.br && decide (x.n = 0) && decide (x.e = ent0) else false
def encRec (x : Rec) : List UInt8 :=
  packN (kindN x.kind) ++ (packN x.n ++ (if x.kind = 2 ∨ x.kind = 3 then packB (encEn x.e) else if x.kind = 4 ∨ x.kind = 5 then packN (kindN x.br) ++ (packN x.life ++ packN x.ser) else []))
theorem okRec_kind {x : Rec} (h : okRec x = true) : (x.kind = 1 ∧ x.e = ent0 ∧ x.br = 0 ∧ x.life = 0 ∧ x.ser = 0) ∨ ((x.kind = 2 ∨ x.kind = 3 ∧ x.n = 0) ∧ okEn x.e = true ∧ x.br = 0 ∧ x.life = 0 ∧ x.ser = 0) ∨
    ((x.kind = 4 ∨ x.kind = 5) ∧ (0 ≤ x.br ∧ x.br < 16) ∧ x.n = 0 ∧ x.e = ent0) := by
  unfold okRec noId homeB at h
  split at h
  · rename_i hk
    simp only [Bool.and_eq_true, decide_eq_true_eq] at h
    exact .inl ⟨hk, h.1, h.2.1.1, h.2.1.2, h.2.2⟩
  · split at h
    · rename_i hk
      simp only [Bool.and_eq_true, decide_eq_true_eq] at h
      exact .inr (.inl ⟨.inl hk, h.1, h.2.1.1, h.2.1.2, h.2.2⟩)
    · split at h
      · rename_i hk
        simp only [Bool.and_eq_true, decide_eq_true_eq] at h
        exact .inr (.inl ⟨.inr ⟨hk, h.1.1⟩, h.1.2, h.2.1.1, h.2.1.2, h.2.2⟩)
      · split at h
        · rename_i hk
          simp only [Bool.and_eq_true, decide_eq_true_eq] at h
          exact .inr (.inr ⟨hk, h.1.1, h.1.2, h.2⟩)
        · cases h
/-- A record as a reader reads it. -/
def rdRec (m : Int) : Rdr Rec := fun l wr =>
  let a := rdN l wr
  let b := rdN a.2.1 a.2.2
  let k := min a.1 6
  if k = 2 ∨ k = 3 then
    match decEn (rdB m b.2.1 b.2.2).1 with
    | none => (rec0, (rdB m b.2.1 b.2.2).2.1, true)
    | some e => (⟨(k : Nat), b.1, e, 0, 0, 0⟩, (rdB m b.2.1 b.2.2).2)
  else if k = 4 ∨ k = 5 then
    let c := rdN b.2.1 b.2.2
    let d := rdN c.2.1 c.2.2
    let e := rdN d.2.1 d.2.2
    (⟨(k : Nat), b.1, ent0, (min c.1 16 : Nat), d.1, e.1⟩, e.2)
  else (⟨(k : Nat), b.1, ent0, 0, 0, 0⟩, b.2)
theorem rdRec_fwd (m : Int) (x : Rec) (h : okRec x = true) (hf : fitRec x) (hm : ((encEn x.e).length : Int) ≤ m) (hl : (encEn x.e).length < 18446744073709551616) (rest : List UInt8) : rdRec m (encRec x ++ rest) false = (x, rest, false) := by
  obtain ⟨kind, n, e, br, life, ser⟩ := x
  obtain ⟨-, hn, hfe, -, hli, hse⟩ := hf
  simp only at hn hfe hli hse hm hl
  rcases okRec_kind h with ⟨hk, he, hb, h1, h2⟩ | ⟨hk, he, hb, h1, h2⟩ | ⟨hk, hb, h1, he⟩
  · simp only at hk he hb h1 h2
    subst hk he hb h1 h2
    have e1 : encRec ⟨1, n, ent0, 0, 0, 0⟩ ++ rest = packN 1 ++ (packN n ++ rest) := by
      simp [encRec, show kindN 1 = 1 from rfl, List.append_assoc]
    simp only [rdRec]
    rw [e1, rdN_pack 1 (by decide)]
    simp only [rdN_pack, hn]
    simp
  · simp only at hk he hb h1 h2
    subst hb h1 h2
    have hkk : kind = 2 ∨ kind = 3 := by omega
    have hkn := kindN_nat kind (by omega) (by omega)
    have e1 : encRec ⟨kind, n, e, 0, 0, 0⟩ ++ rest = packN (kindN kind) ++ (packN n ++ (packN (encEn e).length ++ encEn e ++ rest)) := by
      simp only [encRec]
      rw [if_pos hkk]
      simp [packB, List.append_assoc]
    have hbp := rdB_pack m (encEn e) hl hm rest
    simp only [rdRec]
    rw [e1, rdN_pack _ (kindN_lt _)]
    simp only [rdN_pack, hn]
    rw [if_pos (by omega), hbp]
    simp only [decEn_enc e he hfe]
    rw [show ((min (kindN kind) 6 : Nat) : Int) = kind by omega]
  · simp only at hk hb h1 he
    subst h1 he
    have hkn := kindN_nat kind (by omega) (by omega)
    have hbn := kindN_nat br hb.1 (by omega)
    have e1 : encRec ⟨kind, 0, ent0, br, life, ser⟩ ++ rest = packN (kindN kind) ++ (packN 0 ++ (packN (kindN br) ++ (packN life ++ (packN ser ++ rest)))) := by
      simp only [encRec]
      rw [if_neg (by omega), if_pos hk]
      simp [List.append_assoc]
    simp only [rdRec]
    rw [e1, rdN_pack _ (kindN_lt _)]
    simp only [rdN_pack, hli, hse, kindN_lt, show (0 : Nat) < 18446744073709551616 by decide]
    rw [if_neg (by omega), if_pos (by omega), show ((min (kindN kind) 6 : Nat) : Int) = kind by omega, show ((min (kindN br) 16 : Nat) : Int) = br by omega]
theorem rdRec_back (m : Int) (l : List UInt8) (wr : Bool) (h : (rdRec m l wr).2.2 = false) (ok : okRec (rdRec m l wr).1 = true) : l = encRec (rdRec m l wr).1 ++ (rdRec m l wr).2.1 ∧ wr = false := by
  have ha := @rdN_back l wr
  unfold rdRec at h ok ⊢
  simp only at h ok ⊢
  generalize rdN l wr = a at *
  obtain ⟨a, l1, w1⟩ := a
  simp only at h ok ha ⊢
  have hb := @rdN_back l1 w1
  generalize rdN l1 w1 = b at *
  obtain ⟨b, l2, w2⟩ := b
  simp only at h ok hb ⊢
  split at h
  · rename_i hk
    rw [if_pos hk] at ok ⊢
    have hB := @rdB_back m l2 w2
    generalize rdB m l2 w2 = r at *
    obtain ⟨bs, l3, w3⟩ := r
    simp only at h ok hB ⊢
    cases hd : decEn bs with
    | none => rw [hd] at h; cases h
    | some e =>
      rw [hd] at h ok
      simp only at h ok ⊢
      obtain ⟨e3, _, w⟩ := hB h
      obtain ⟨e2, w⟩ := hb w
      obtain ⟨e1, w⟩ := ha w
      refine ⟨?_, w⟩
      have hbe := (decEn_back hd).1
      have hkn : kindN ((min a 6 : Nat) : Int) = a := by rw [kindN_nat _ (by omega) (by omega)]; omega
      unfold encRec
      simp only
      rw [if_pos (by omega), hkn]
      simp only [packB, List.append_assoc]
      rw [← hbe, ← List.append_assoc (packN bs.length), ← e3, ← e2]
      exact e1
  · rename_i hk
    rw [if_neg hk] at ok ⊢
    split at h
    · rename_i hk4
      rw [if_pos hk4] at ok ⊢
      have hc := @rdN_back l2 w2
      generalize rdN l2 w2 = c at *
      obtain ⟨c, l3, w3⟩ := c
      simp only at h ok hc ⊢
      have hd := @rdN_back l3 w3
      generalize rdN l3 w3 = d at *
      obtain ⟨d, l4, w4⟩ := d
      simp only at h ok hd ⊢
      have he := @rdN_back l4 w4
      generalize rdN l4 w4 = e at *
      obtain ⟨e, l5, w5⟩ := e
      simp only at h ok he ⊢
      obtain ⟨e5, w⟩ := he h
      obtain ⟨e4, w⟩ := hd w
      obtain ⟨e3, w⟩ := hc w
      obtain ⟨e2, w⟩ := hb w
      obtain ⟨e1, w⟩ := ha w
      refine ⟨?_, w⟩
      have hbr : 0 ≤ ((min c 16 : Nat) : Int) ∧ ((min c 16 : Nat) : Int) < 16 := by
        rcases okRec_kind ok with ⟨g, _⟩ | ⟨g, _⟩ | ⟨_, g, _⟩
        · simp only at g; omega
        · simp only at g; omega
        · exact g
      have hkn : kindN ((min a 6 : Nat) : Int) = a := by rw [kindN_nat _ (by omega) (by omega)]; omega
      have hbn : kindN ((min c 16 : Nat) : Int) = c := by rw [kindN_nat _ (by omega) (by omega)]; omega
      unfold encRec
      simp only
      rw [if_neg (by omega), if_pos (by omega), hkn, hbn]
      simp only [List.append_assoc]
      rw [← e5, ← e4, ← e3, ← e2]
      exact e1
    · rename_i hk4
      rw [if_neg hk4] at ok ⊢
      simp only at h ⊢
      obtain ⟨e2, w⟩ := hb h
      obtain ⟨e1, w⟩ := ha w
      refine ⟨?_, w⟩
      have hk1 : ((min a 6 : Nat) : Int) = 1 := by
        rcases okRec_kind ok with ⟨g, _⟩ | ⟨g, _⟩ | ⟨g, _⟩
        · exact g
        · simp only at g; omega
        · simp only at g; omega
      have hkn : kindN ((min a 6 : Nat) : Int) = a := by rw [kindN_nat _ (by omega) (by omega)]; omega
      unfold encRec
      simp only
      rw [if_neg (by omega), if_neg (by omega), hkn]
      simp only [List.append_assoc, List.nil_append]
      rw [← e2]
      exact e1
/-- The record that bytes are, if they are one. -/
def decRec (b : List UInt8) : Option Rec := if !(rdRec b.length b false).2.2 && (rdRec b.length b false).2.1.isEmpty && okRec (rdRec b.length b false).1 then some (rdRec b.length b false).1 else none
def decRecX (b : List UInt8) : Rec := (decRec b).getD rec0
def decRecC (b : List UInt8) : Int := if (decRec b).isSome then 0 else 110
theorem decRec_back {b : List UInt8} {x : Rec} (h : decRec b = some x) : b = encRec x ∧ okRec x = true := by
  unfold decRec at h
  split at h
  · rename_i hq
    injection h with h
    simp only [Bool.and_eq_true, Bool.not_eq_true', List.isEmpty_iff] at hq
    obtain ⟨⟨h1, h2⟩, h3⟩ := hq
    have hb := (rdRec_back _ b false h1 h3).1
    rw [h2, List.append_nil, h] at hb
    rw [h] at h3
    exact ⟨hb, h3⟩
  · cases h
theorem encEn_0 : (encEn ent0).length = 6 := by simp [encEn, encHd, ent0, packN, kindN, longN, be]
theorem decRec_enc (x : Rec) (h : okRec x = true) (hf : fitRec x) : decRec (encRec x) = some x := by
  have hl : (encEn x.e).length < 18446744073709551616 ∧ ((encEn x.e).length : Int) ≤ 30000 ∧ ((x.kind = 2 ∨ x.kind = 3) → ((encEn x.e).length : Int) ≤ ((encRec x).length : Int)) := by
    have hle : (x.kind = 2 ∨ x.kind = 3) → ((encEn x.e).length : Int) ≤ ((encRec x).length : Int) := by
      intro hk
      unfold encRec
      rw [if_pos hk]
      simp only [packB, List.length_append]; omega
    rcases okRec_kind h with ⟨_, he, _⟩ | ⟨_, he, _⟩ | ⟨_, _, _, he⟩
    · rw [he, encEn_0]; rw [he, encEn_0] at hle; exact ⟨by omega, by omega, hle⟩
    · have := encEn_len he hf.2.2.1; exact ⟨by omega, by omega, hle⟩
    · rw [he, encEn_0]; rw [he, encEn_0] at hle; exact ⟨by omega, by omega, hle⟩
  have hR : rdRec (encRec x).length (encRec x ++ []) false = (x, [], false) := by
    by_cases hk : x.kind = 2 ∨ x.kind = 3
    · exact rdRec_fwd _ x h hf (hl.2.2 hk) hl.1 []
    · have h1 := rdRec_fwd 30000 x h hf hl.2.1 hl.1 []
      rw [← h1]
      have hn : (rdN (encRec x ++ []) false).1 = kindN x.kind := by
        unfold encRec
        rw [List.append_assoc, rdN_pack _ (kindN_lt _)]
      have hkk : ¬ (min (rdN (encRec x ++ []) false).1 6 = 2 ∨ min (rdN (encRec x ++ []) false).1 6 = 3) := by
        rw [hn]
        rcases okRec_kind h with ⟨g, _⟩ | ⟨g, _⟩ | ⟨g, _⟩
        · rw [kindN_nat _ (by omega) (by omega)]; omega
        · omega
        · rw [kindN_nat _ (by omega) (by omega)]; omega
      unfold rdRec
      simp only
      rw [if_neg hkk, if_neg hkk]
  rw [List.append_nil] at hR
  unfold decRec
  rw [hR]
  simp [h]
theorem encRec_inj {x y : Rec} (hx : okRec x = true) (hy : okRec y = true) (fx : fitRec x) (fy : fitRec y) (h : encRec x = encRec y) : x = y := by
  have h1 := decRec_enc x hx fx
  rw [h, decRec_enc y hy fy] at h1
  injection h1 with h1
  exact h1.symm
end Go.Proofs.Ytjcdgbnbaiebdaa
