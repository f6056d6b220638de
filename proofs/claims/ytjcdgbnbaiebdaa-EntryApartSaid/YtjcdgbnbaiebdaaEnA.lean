/-
  Entries in plain Lean: what may be, what bytes they are, how a reader reads them. Conditions: none.
-/
import Derived.Test.YtjcdgbnbaiebdaaFiA
import Derived.Test.YtjcdgbnbaiebdaaEvP
namespace Go.Proofs.Ytjcdgbnbaiebdaa
open Go Go.RowKit

/-- An entry. -/
structure Ent where
  kind : Int
  br : Int
  life : Nat
  ser : Nat
  cl : Int
  sub : Nat
  f : List Tst
  es : List (List Att)
  deriving DecidableEq
def ent0 : Ent := ⟨0, 0, 0, 0, 0, 0, [], []⟩
def fitEn (x : Ent) : Prop := i64ok x.kind ∧ i64ok x.br ∧ i64ok x.cl ∧ x.life < 18446744073709551616 ∧ x.ser < 18446744073709551616 ∧ x.sub < 18446744073709551616 ∧ (∀ t ∈ x.f, fitT t) ∧ ∀ e ∈ x.es, ∀ a ∈ e, fitA a
def homeB (b : Int) : Bool := decide (0 ≤ b) && decide (b < 16)
/-- Whether an entry may be. -/
def okEn (x : Ent) : Bool :=
  homeB x.br && decide (0 ≤ x.cl) && decide (x.cl < 32) &&
    (if x.kind = 1 then decide (x.sub = 0) && x.f.isEmpty && decide (x.es.length ≤ 8) && x.es.all okE
     else if x.kind = 3 then x.f.isEmpty && x.es.isEmpty
     else if x.kind = 2 then x.es.isEmpty && okF x.f else false)
def chkEn (x : Ent) : Int := if okEn x then 0 else 110
/-- Bytes with their number ahead of them; an entry's bytes. -/
def packB (b : List UInt8) : List UInt8 := packN b.length ++ b
def encHd (x : Ent) : List UInt8 := packN (kindN x.kind) ++ (packN (kindN x.br) ++ (packN x.life ++ (packN x.ser ++ (packN (kindN x.cl) ++ packN x.sub))))
def encEn (x : Ent) : List UInt8 :=
  encHd x ++ (if x.kind = 1 then packN x.es.length ++ x.es.flatMap (fun e => packB (encE e)) else if x.kind = 2 then packB (encF x.f) else [])
/-- How a reader reads an event, a filter, an entry, of which none has more than n bytes. -/
def rdEv (n : Int) : Rdr (List Att) := fun l wr => match decE (rdB n l wr).1 with
  | none => ([], (rdB n l wr).2.1, true)
  | some e => (e, (rdB n l wr).2)
def rdFi (n : Int) : Rdr (List Tst) := fun l wr => match decF8 (rdB n l wr).1 with
  | none => ([], (rdB n l wr).2.1, true)
  | some e => (e, (rdB n l wr).2)

theorem rdEv_codec (n : Int) : Codec (fun e => packB (encE e)) (fun e => okE e = true ∧ (∀ x ∈ e, fitA x) ∧ ((encE e).length : Int) ≤ n) (rdEv n) where
  fwd := by
    rintro e ⟨h1, h2, h3⟩ rest
    have hl := encE_len h1 h2
    have hb := rdB_pack n (encE e) (by omega) h3 rest
    simp only [rdEv, packB]
    rw [hb]
    simp only [decE_enc e h1 h2]
  back := by
    intro l wr h
    simp only [rdEv] at h ⊢
    cases hd : decE (rdB n l wr).1 with
    | none => rw [hd] at h; cases h
    | some e =>
      rw [hd] at h
      obtain ⟨e1, _, w1⟩ := rdB_back h
      have e2 := (decE_back hd).1
      refine ⟨?_, w1⟩
      simp only [packB]
      rw [← e2]
      exact e1
  len := by
    intro l wr
    have := rdB_len n l wr
    simp only [rdEv]
    split <;> simpa using this
theorem encF_len9 {l : List Tst} (h : okF l = true) (hf : ∀ x ∈ l, fitT x) (hl : (encF l).length < 18446744073709551616) (n : Int) (hn : ((encF l).length : Int) ≤ n) (rest : List UInt8) : rdFi n (packB (encF l) ++ rest) false = (l, rest, false) := by
  have hb := rdB_pack n (encF l) hl hn rest
  simp only [rdFi, packB]
  rw [hb]
  simp only [decF_enc l h hf]
theorem rdFi_back (n : Int) (l : List UInt8) (wr : Bool) (h : (rdFi n l wr).2.2 = false) : l = packB (encF (rdFi n l wr).1) ++ (rdFi n l wr).2.1 ∧ wr = false := by
  simp only [rdFi] at h ⊢
  cases hd : decF8 (rdB n l wr).1 with
  | none => rw [hd] at h; cases h
  | some e =>
    rw [hd] at h
    obtain ⟨e1, _, w1⟩ := rdB_back h
    have e2 := (decF_back hd).1
    refine ⟨?_, w1⟩
    simp only [packB]
    rw [← e2]
    exact e1
/-- Six numbers, one behind the other. -/
def rd6 (l : List UInt8) (wr : Bool) : (Nat × Nat × Nat × Nat × Nat × Nat) × List UInt8 × Bool :=
  let r1 := rdN l wr
  let r2 := rdN r1.2.1 r1.2.2
  let r3 := rdN r2.2.1 r2.2.2
  let r4 := rdN r3.2.1 r3.2.2
  let r5 := rdN r4.2.1 r4.2.2
  let r6 := rdN r5.2.1 r5.2.2
  ((r1.1, r2.1, r3.1, r4.1, r5.1, r6.1), r6.2)
theorem rd6_fwd (a b c d e f : Nat) (ha : a < 18446744073709551616) (hb : b < 18446744073709551616) (hc : c < 18446744073709551616) (hd : d < 18446744073709551616) (he : e < 18446744073709551616) (hf : f < 18446744073709551616) (rest : List UInt8) :
    rd6 (packN a ++ (packN b ++ (packN c ++ (packN d ++ (packN e ++ packN f)))) ++ rest) false = ((a, b, c, d, e, f), rest, false) := by
  simp only [rd6, List.append_assoc, rdN_pack, ha, hb, hc, hd, he, hf]
theorem rd6_back (l : List UInt8) (wr : Bool) (h : (rd6 l wr).2.2 = false) :
    l = packN (rd6 l wr).1.1 ++ (packN (rd6 l wr).1.2.1 ++ (packN (rd6 l wr).1.2.2.1 ++ (packN (rd6 l wr).1.2.2.2.1 ++ (packN (rd6 l wr).1.2.2.2.2.1 ++ packN (rd6 l wr).1.2.2.2.2.2)))) ++ (rd6 l wr).2.1 ∧ wr = false := by
  simp only [rd6] at h ⊢
  obtain ⟨e6, h⟩ := rdN_back h
  obtain ⟨e5, h⟩ := rdN_back h
  obtain ⟨e4, h⟩ := rdN_back h
  obtain ⟨e3, h⟩ := rdN_back h
  obtain ⟨e2, h⟩ := rdN_back h
  obtain ⟨e1, h⟩ := rdN_back h
  refine ⟨?_, h⟩
  simp only [List.append_assoc]
  rw [← e6, ← e5, ← e4, ← e3, ← e2]
  exact e1
theorem packV_len' {k n : Int} {s : ByteArray} (h0 : -9223372036854775808 ≤ n) (h1 : n ≤ 9223372036854775807) (hs : s.size ≤ 40) : (packV k n s).length ≤ 67 := by
  have g1 := packN_len (kindN k) (kindN_lt _)
  have g2 := packN_len (numV k n) (numV_lt _ _ h0 h1)
  have g3 := packN_len s.size (by omega)
  have g4 : s.data.size ≤ 40 := hs
  simp [packV]; omega
theorem encT_ln' {t : Tst} (h : okT t = true) (hf : fitT t) : (encT t).length ≤ 101 := by
  obtain ⟨hs, _, _, h8, hn⟩ := okT_parts h
  have h2 := packN_len t.1.size (by omega)
  have h3 := packN_len (kindN t.2.1) (kindN_lt _)
  have e1 : t.1.data.size ≤ 16 := hs
  unfold encT
  simp only [List.length_append]
  split
  · simp only [byt, Array.length_toList, List.length_nil]
    omega
  · rename_i e
    have h1 : (packV t.2.2.1 t.2.2.2.1 t.2.2.2.2).length ≤ 67 := packV_len' hf.2.2.1 hf.2.2.2 (okV_kind (hn (by simpa using e))).2
    simp only [byt, Array.length_toList]
    omega
/-- An entry as a reader reads it: its head; all of it. -/
def hdEn (a : Nat × Nat × Nat × Nat × Nat × Nat) : Ent := ⟨(min a.1 4 : Nat), (min a.2.1 16 : Nat), a.2.2.1, a.2.2.2.1, (min a.2.2.2.2.1 32 : Nat), a.2.2.2.2.2, [], []⟩
def rdEn (n : Int) : Rdr Ent := fun l wr =>
  if min (rd6 l wr).1.1 4 = 1 then
    ({ hdEn (rd6 l wr).1 with es := (rdL (rdEv n) (min (rdN (rd6 l wr).2.1 (rd6 l wr).2.2).1 9) (rdN (rd6 l wr).2.1 (rd6 l wr).2.2).2.1 (rdN (rd6 l wr).2.1 (rd6 l wr).2.2).2.2).1 },
      (rdL (rdEv n) (min (rdN (rd6 l wr).2.1 (rd6 l wr).2.2).1 9) (rdN (rd6 l wr).2.1 (rd6 l wr).2.2).2.1 (rdN (rd6 l wr).2.1 (rd6 l wr).2.2).2.2).2)
  else if min (rd6 l wr).1.1 4 = 2 then ({ hdEn (rd6 l wr).1 with f := (rdFi n (rd6 l wr).2.1 (rd6 l wr).2.2).1 }, (rdFi n (rd6 l wr).2.1 (rd6 l wr).2.2).2)
  else (hdEn (rd6 l wr).1, (rd6 l wr).2)
theorem okEn_parts {x : Ent} (h : okEn x = true) : (0 ≤ x.br ∧ x.br < 16) ∧ (0 ≤ x.cl ∧ x.cl < 32) ∧
    ((x.kind = 1 ∧ x.sub = 0 ∧ x.f = [] ∧ x.es.length ≤ 8 ∧ ∀ e ∈ x.es, okE e = true) ∨ (x.kind = 3 ∧ x.f = [] ∧ x.es = []) ∨ (x.kind = 2 ∧ x.es = [] ∧ okF x.f = true)) := by
  simp only [okEn, homeB, Bool.and_eq_true, decide_eq_true_eq] at h
  obtain ⟨⟨⟨⟨h1, h2⟩, h3⟩, h4⟩, h5⟩ := h
  refine ⟨⟨h1, h2⟩, ⟨h3, h4⟩, ?_⟩
  split at h5
  · rename_i hk
    simp only [Bool.and_eq_true, decide_eq_true_eq, List.isEmpty_iff, List.all_eq_true] at h5
    exact .inl ⟨hk, h5.1.1.1, h5.1.1.2, h5.1.2, h5.2⟩
  · split at h5
    · rename_i hk
      simp only [Bool.and_eq_true, List.isEmpty_iff] at h5
      exact .inr (.inl ⟨hk, h5.1, h5.2⟩)
    · split at h5
      · rename_i hk
        simp only [Bool.and_eq_true, List.isEmpty_iff] at h5
        exact .inr (.inr ⟨hk, h5.1, h5.2⟩)
      · cases h5
theorem kindN_nat (k : Int) (h0 : 0 ≤ k) (h1 : k < 100) : kindN k = k.toNat := by unfold kindN; omega
theorem rdEn_fwd (n : Int) (x : Ent) (h : okEn x = true) (hf : fitEn x) (hes : ∀ e ∈ x.es, ((encE e).length : Int) ≤ n) (hff : ((encF x.f).length : Int) ≤ n) (hf9 : (encF x.f).length < 18446744073709551616) (rest : List UInt8) :
    rdEn n (encEn x ++ rest) false = (x, rest, false) := by
  obtain ⟨⟨hb0, hb1⟩, ⟨hc0, hc1⟩, hk⟩ := okEn_parts h
  obtain ⟨_, _, _, hl, hs, hu, hft, hfa⟩ := hf
  obtain ⟨kind, br, life, ser, cl, sub, f, es⟩ := x
  simp only at hb0 hb1 hc0 hc1 hk hl hs hu hft hfa hes hff hf9
  have hbk := kindN_nat br hb0 (by omega)
  have hck := kindN_nat cl hc0 (by omega)
  have h6 : ∀ R, rd6 (encHd ⟨kind, br, life, ser, cl, sub, f, es⟩ ++ R) false = ((kindN kind, kindN br, life, ser, kindN cl, sub), R, false) := fun R =>
    rd6_fwd (kindN kind) (kindN br) life ser (kindN cl) sub (kindN_lt _) (kindN_lt _) hl hs (kindN_lt _) hu R
  have hm16 : ((min (kindN br) 16 : Nat) : Int) = br := by omega
  have hm32 : ((min (kindN cl) 32 : Nat) : Int) = cl := by omega
  rcases hk with ⟨rfl, rfl, rfl, h8, hall⟩ | ⟨rfl, rfl, rfl⟩ | ⟨rfl, rfl, hok⟩
  · have e : encEn ⟨1, br, life, ser, cl, 0, [], es⟩ ++ rest = encHd ⟨1, br, life, ser, cl, 0, [], es⟩ ++ (packN es.length ++ (es.flatMap (fun e => packB (encE e)) ++ rest)) := by
      simp [encEn, List.append_assoc]
    have hL := rdL_fwd (rdEv_codec n) es (fun e he => ⟨hall e he, hfa e he, hes e he⟩) rest es.length (Nat.le_refl _)
    have hk1 : kindN 1 = 1 := rfl
    unfold rdEn
    rw [e, h6]
    simp only [hk1]
    rw [if_pos (by decide), rdN_pack es.length (by omega)]
    simp only
    rw [show min es.length 9 = es.length by omega, hL]
    simp [hdEn, hm16, hm32]
  · have e : encEn ⟨3, br, life, ser, cl, sub, [], []⟩ ++ rest = encHd ⟨3, br, life, ser, cl, sub, [], []⟩ ++ rest := by simp [encEn]
    have hk1 : kindN 3 = 3 := rfl
    unfold rdEn
    rw [e, h6]
    simp only [hk1]
    rw [if_neg (by decide), if_neg (by decide)]
    simp [hdEn, hm16, hm32]
  · have e : encEn ⟨2, br, life, ser, cl, sub, f, []⟩ ++ rest = encHd ⟨2, br, life, ser, cl, sub, f, []⟩ ++ (packB (encF f) ++ rest) := by simp [encEn, List.append_assoc]
    have hk1 : kindN 2 = 2 := rfl
    unfold rdEn
    rw [e, h6]
    simp only [hk1]
    rw [if_neg (by decide), if_pos (by decide), encF_len9 hok hft hf9 n hff]
    simp [hdEn, hm16, hm32]
theorem encEn_1 {x : Ent} (h : x.kind = 1) : encEn x = encHd x ++ (packN x.es.length ++ x.es.flatMap fun e => packB (encE e)) := by unfold encEn; rw [if_pos h]
theorem encEn_2 {x : Ent} (h : x.kind = 2) : encEn x = encHd x ++ packB (encF x.f) := by unfold encEn; rw [if_neg (by omega), if_pos h]
theorem encEn_3 {x : Ent} (h1 : ¬ x.kind = 1) (h2 : ¬ x.kind = 2) : encEn x = encHd x := by unfold encEn; rw [if_neg h1, if_neg h2, List.append_nil]
theorem rdEn_back (n : Int) (l : List UInt8) (wr : Bool) (h : (rdEn n l wr).2.2 = false) (ok : okEn (rdEn n l wr).1 = true) : l = encEn (rdEn n l wr).1 ++ (rdEn n l wr).2.1 ∧ wr = false := by
  have h6 := rd6_back l wr
  unfold rdEn at h ok ⊢
  generalize rd6 l wr = r at *
  obtain ⟨⟨a, b, c, d, e, f⟩, l6, w6⟩ := r
  simp only at h ok h6 ⊢
  have hd : ∀ x : Ent, x.kind = (min a 4 : Nat) → x.br = (min b 16 : Nat) → x.cl = (min e 32 : Nat) → x.life = c → x.ser = d → x.sub = f → okEn x = true →
      encHd x = packN a ++ (packN b ++ (packN c ++ (packN d ++ (packN e ++ packN f)))) := by
    intro x h1 h2 h3 h4 h5 h6 hx
    obtain ⟨⟨hb0, hb1⟩, ⟨hc0, hc1⟩, hk⟩ := okEn_parts hx
    have hka : kindN x.kind = a := by
      have : x.kind = 1 ∨ x.kind = 3 ∨ x.kind = 2 := by
        rcases hk with hk | hk | hk
        · exact .inl hk.1
        · exact .inr (.inl hk.1)
        · exact .inr (.inr hk.1)
      rw [kindN_nat x.kind (by omega) (by omega)]; omega
    have hkb : kindN x.br = b := by rw [kindN_nat x.br hb0 (by omega)]; omega
    have hke : kindN x.cl = e := by rw [kindN_nat x.cl hc0 (by omega)]; omega
    unfold encHd
    rw [hka, hkb, hke, h4, h5, h6]
  split at h
  · rename_i hk1
    rw [if_pos hk1] at ok ⊢
    have h8 : (rdL (rdEv n) (min (rdN l6 w6).1 9) (rdN l6 w6).2.1 (rdN l6 w6).2.2).1.length = min (rdN l6 w6).1 9 := (rdL_len (rdEv_codec n) _ _ _).2
    obtain ⟨e8, w8⟩ := rdL_back (rdEv_codec n) h
    obtain ⟨e7, w7⟩ := rdN_back w8
    obtain ⟨e6, w⟩ := h6 w7
    refine ⟨?_, w⟩
    have hh := hd _ rfl rfl rfl rfl rfl rfl ok
    obtain ⟨-, -, hk⟩ := okEn_parts ok
    have hes : (rdL (rdEv n) (min (rdN l6 w6).1 9) (rdN l6 w6).2.1 (rdN l6 w6).2.2).1.length ≤ 8 := by
      rcases hk with hk | hk | hk
      · exact hk.2.2.2.1
      · have := hk.1; simp only [hdEn] at this; omega
      · have := hk.1; simp only [hdEn] at this; omega
    have hm : min (rdN l6 w6).1 9 = (rdN l6 w6).1 := by omega
    rw [encEn_1 (by simp only [hdEn]; omega), hh]
    simp only
    rw [h8, hm]
    rw [hm] at e8
    generalize packN a ++ (packN b ++ (packN c ++ (packN d ++ (packN e ++ packN f)))) = H at e6 ⊢
    rw [List.append_assoc H, List.append_assoc (packN (rdN l6 w6).1), ← e8, ← e7]
    exact e6
  · rename_i hk1
    rw [if_neg hk1] at ok ⊢
    split at h
    · rename_i hk2
      rw [if_pos hk2] at ok ⊢
      obtain ⟨e8, w8⟩ := rdFi_back n l6 w6 h
      obtain ⟨e6, w⟩ := h6 w8
      refine ⟨?_, w⟩
      have hh := hd _ rfl rfl rfl rfl rfl rfl ok
      rw [encEn_2 (by simp only [hdEn]; omega), hh]
      simp only
      generalize packN a ++ (packN b ++ (packN c ++ (packN d ++ (packN e ++ packN f)))) = H at e6 ⊢
      rw [List.append_assoc H, ← e8]
      exact e6
    · rename_i hk2
      rw [if_neg hk2] at ok ⊢
      obtain ⟨e6, w⟩ := h6 h
      refine ⟨?_, w⟩
      have hh := hd _ rfl rfl rfl rfl rfl rfl ok
      rw [encEn_3 (by simp only [hdEn]; omega) (by simp only [hdEn]; omega), hh]
      exact e6
/-- The entry that bytes are, if they are one. -/
def decEn (b : List UInt8) : Option Ent := if !(rdEn b.length b false).2.2 && (rdEn b.length b false).2.1.isEmpty && okEn (rdEn b.length b false).1 then some (rdEn b.length b false).1 else none
def decEnX (b : List UInt8) : Ent := (decEn b).getD ent0
def decEnC (b : List UInt8) : Int := if (decEn b).isSome then 0 else 110
theorem decEn_back {b : List UInt8} {x : Ent} (h : decEn b = some x) : b = encEn x ∧ okEn x = true := by
  unfold decEn at h
  split at h
  · rename_i hq
    injection h with h
    simp only [Bool.and_eq_true, Bool.not_eq_true', List.isEmpty_iff] at hq
    obtain ⟨⟨h1, h2⟩, h3⟩ := hq
    have hb := (rdEn_back _ b false h1 h3).1
    rw [h2, List.append_nil, h] at hb
    rw [h] at h3
    exact ⟨hb, h3⟩
  · cases h
theorem encEn_es (x : Ent) (hk : x.kind = 1) (e : List Att) (he : e ∈ x.es) : (encE e).length ≤ (encEn x).length := by
  have h1 : (packB (encE e)).length ≤ (x.es.flatMap fun e => packB (encE e)).length := by
    obtain ⟨s, t, hs⟩ := List.append_of_mem he
    rw [hs, List.flatMap_append, List.flatMap_cons]
    simp only [List.length_append]
    omega
  unfold encEn
  rw [if_pos hk]
  simp only [packB, List.length_append] at h1 ⊢
  omega
theorem decEn_enc (x : Ent) (h : okEn x = true) (hf : fitEn x) : decEn (encEn x) = some x := by
  obtain ⟨-, -, hk⟩ := okEn_parts h
  have hF : (encF x.f).length < 18446744073709551616 ∧ ((encF x.f).length : Int) ≤ ((encEn x).length : Int) := by
    have hp1 : 1 ≤ (packN (kindN x.kind)).length := by simp [packN]
    have hp : 1 ≤ (encHd x).length := by unfold encHd; rw [List.length_append]; omega
    rcases hk with ⟨_, _, hfn, _⟩ | ⟨_, hfn, _⟩ | ⟨hk, _, hok⟩
    · rw [hfn]
      have : (encF []).length = 1 := by simp [encF, packN, longN, be]
      rw [this]; unfold encEn; rw [List.length_append]; omega
    · rw [hfn]
      have : (encF []).length = 1 := by simp [encF, packN, longN, be]
      rw [this]; unfold encEn; rw [List.length_append]; omega
    · refine ⟨?_, ?_⟩
      · have h8 := okF_parts hok
        have hft := hf.2.2.2.2.2.2.1
        have h4 := packN_len x.f.length (by omega)
        have h5 : (x.f.flatMap encT).length ≤ 101 * x.f.length := by
          have : ∀ l : List Tst, (∀ t ∈ l, okT t = true ∧ fitT t) → (l.flatMap encT).length ≤ 101 * l.length := by
            intro l
            induction l with
            | nil => simp
            | cons y l ih =>
              intro hl
              have h1 := ih fun t ht => hl t (by simp [ht])
              obtain ⟨g1, g2⟩ := hl y (by simp)
              have h2 : (encT y).length ≤ 101 := encT_ln' g1 g2
              simp only [List.flatMap_cons, List.length_append, List.length_cons]
              omega
          exact this _ fun t ht => ⟨h8.2 t ht, hft t ht⟩
        unfold encF; rw [List.length_append]; omega
      · unfold encEn
        rw [if_neg (by omega), if_pos hk]
        simp only [packB, List.length_append]; omega
  have hE : ∀ e ∈ x.es, ((encE e).length : Int) ≤ ((encEn x).length : Int) := by
    intro e he
    rcases hk with ⟨hk, _⟩ | ⟨_, _, hn⟩ | ⟨_, hn, _⟩
    · have := encEn_es x hk e he; omega
    · rw [hn] at he; cases he
    · rw [hn] at he; cases he
  have hR := rdEn_fwd (encEn x).length x h hf hE hF.2 hF.1 []
  rw [List.append_nil] at hR
  unfold decEn
  rw [hR]
  simp [h]
theorem encEn_inj {x y : Ent} (hx : okEn x = true) (hy : okEn y = true) (fx : fitEn x) (fy : fitEn y) (h : encEn x = encEn y) : x = y := by
  have h1 := decEn_enc x hx fx
  rw [h, decEn_enc y hy fy] at h1
  injection h1 with h1
  exact h1.symm
theorem encF_most {l : List Tst} (h : okF l = true) (hf : ∀ x ∈ l, fitT x) : (encF l).length ≤ 900 := by
  have h8 := okF_parts h
  have h4 := packN_len l.length (by omega)
  have h5 : ∀ l : List Tst, (∀ t ∈ l, okT t = true ∧ fitT t) → (l.flatMap encT).length ≤ 101 * l.length := by
    intro l
    induction l with
    | nil => simp
    | cons y l ih =>
      intro hl
      have h1 := ih fun t ht => hl t (by simp [ht])
      obtain ⟨g1, g2⟩ := hl y (by simp)
      have h2 : (encT y).length ≤ 101 := encT_ln' g1 g2
      simp only [List.flatMap_cons, List.length_append, List.length_cons]
      omega
  have h6 := h5 l fun t ht => ⟨h8.2 t ht, hf t ht⟩
  unfold encF; rw [List.length_append]; omega
theorem encEs_most (es : List (List Att)) (h : ∀ e ∈ es, okE e = true ∧ ∀ a ∈ e, fitA a) : (es.flatMap fun e => packB (encE e)).length ≤ 2009 * es.length := by
  induction es with
  | nil => simp
  | cons y l ih =>
    have h1 := ih fun t ht => h t (by simp [ht])
    obtain ⟨g1, g2⟩ := h y (by simp)
    have h2 := encE_len g1 g2
    have h3 := packN_len (encE y).length (by omega)
    have h4 : (packB (encE y)).length = (packN (encE y).length).length + (encE y).length := by simp [packB]
    simp only [List.flatMap_cons, List.length_append, List.length_cons]
    omega
theorem encEn_len {x : Ent} (h : okEn x = true) (hf : fitEn x) : (encEn x).length ≤ 20000 := by
  obtain ⟨_, _, hk⟩ := okEn_parts h
  obtain ⟨_, _, _, hl, hs, hu, hft, hfa⟩ := hf
  have g1 := packN_len (kindN x.kind) (kindN_lt _)
  have g2 := packN_len (kindN x.br) (kindN_lt _)
  have g3 := packN_len x.life hl
  have g4 := packN_len x.ser hs
  have g5 := packN_len (kindN x.cl) (kindN_lt _)
  have g6 := packN_len x.sub hu
  have hh : (encHd x).length ≤ 54 := by unfold encHd; simp only [List.length_append]; omega
  rcases hk with ⟨hk, _, _, h8, hall⟩ | ⟨hk, _, _⟩ | ⟨hk, _, hok⟩
  · have h1 := encEs_most x.es fun e he => ⟨hall e he, hfa e he⟩
    have h2 := packN_len x.es.length (by omega)
    rw [encEn_1 hk]; simp only [List.length_append]; omega
  · rw [encEn_3 (by omega) (by omega)]; omega
  · have h1 := encF_most hok hft
    have h2 := packN_len (encF x.f).length (by omega)
    rw [encEn_2 hk]; simp only [List.length_append, packB]; omega
end Go.Proofs.Ytjcdgbnbaiebdaa
