/-
  Entries in plain Lean: what may be, what bytes they are, how a reader reads them. Conditions: none.
-/
import Derived.Test.YthnhdeieimgfhaaFA
import Derived.Test.YthnhdeieimgfhaaVA
import Derived.Test.YthnhdeieimgfhaaPA
namespace Go.Proofs.Ythnhdeieimgfhaa
open Go Go.RowKit

/-- An entry. -/
structure Ent where
  kind : Int
  br : Int
  life : Nat
  ser : Nat
  cl : Int
  sub : Nat
  f : List Tst
  es : List (List Att)
  deriving DecidableEq
def ent0 : Ent := ⟨0, 0, 0, 0, 0, 0, [], []⟩
def fitEn (x : Ent) : Prop := i64ok x.kind ∧ i64ok x.br ∧ i64ok x.cl ∧ x.life < 18446744073709551616 ∧ x.ser < 18446744073709551616 ∧ x.sub < 18446744073709551616 ∧ (∀ t ∈ x.f, fitT t) ∧ ∀ e ∈ x.es, ∀ a ∈ e, fitA a
def homeB (b : Int) : Bool := decide (0 ≤ b) && decide (b < 16)
/-- Whether an entry may be. -/
def okEn (x : Ent) : Bool :=
  homeB x.br && decide (0 ≤ x.cl) && decide (x.cl < 32) &&
    (if x.kind = 1 then decide (x.sub = 0) && x.f.isEmpty && decide (x.es.length ≤ 8) && x.es.all okE
     else if x.kind = 3 then x.f.isEmpty && x.es.isEmpty
     else if x.kind = 2 then x.es.isEmpty && okF x.f else false)
def chkEn (x : Ent) : Int := if okEn x then 0 else 110
/-- Bytes with their number ahead of them; an entry's bytes. -/
def packB (b : List UInt8) : List UInt8 := packN b.length ++ b
def encHd (x : Ent) : List UInt8 := packN (kindN x.kind) ++ (packN (kindN x.br) ++ (packN x.life ++ (packN x.ser ++ (packN (kindN x.cl) ++ packN x.sub))))
def encEn (x : Ent) : List UInt8 :=
  encHd x ++ (if x.kind = 1 then packN x.es.length ++ x.es.flatMap (fun e => packB (encE e)) else if x.kind = 2 then packB (encF x.f) else [])
/-- How a reader reads an event, a filter, an entry, of which none has more than n bytes. -/
def rdEv (n : Int) : Rdr (List Att) := fun l wr => match decE (rdB n l wr).1 with
  | none => ([], (rdB n l wr).2.1, true)
  | some e => (e, (rdB n l wr).2)
def rdFi (n : Int) : Rdr (List Tst) := fun l wr => match decF8 (rdB n l wr).1 with
  | none => ([], (rdB n l wr).2.1, true)
  | some e => (e, (rdB n l wr).2)

theorem rdEv_codec (n : Int) : Codec (fun e => packB (encE e)) (fun e => okE e = true ∧ (∀ x ∈ e, fitA x) ∧ ((encE e).length : Int) ≤ n) (rdEv n) where
  fwd := by
    rintro e ⟨h1, h2, h3⟩ rest
    have hl := encE_len h1 h2
    have hb := rdB_pack n (encE e) (by omega) h3 rest
    simp only [rdEv, packB]
    rw [hb]
    simp only [decE_enc e h1 h2]
  back := by
    intro l wr h
    simp only [rdEv] at h ⊢
    cases hd : decE (rdB n l wr).1 with
    | none => rw [hd] at h; cases h
    | some e =>
      rw [hd] at h
      obtain ⟨e1, _, w1⟩ := rdB_back h
      have e2 := (decE_back hd).1
      refine ⟨?_, w1⟩
      simp only [packB]
      rw [← e2]
      exact e1
  len := by
    intro l wr
    have := rdB_len n l wr
    simp only [rdEv]
    split <;> simpa using this
theorem encF_len9 {l : List Tst} (h : okF l = true) (hf : ∀ x ∈ l, fitT x) (hl : (encF l).length < 18446744073709551616) (n : Int) (hn : ((encF l).length : Int) ≤ n) (rest : List UInt8) : rdFi n (packB (encF l) ++ rest) false = (l, rest, false) := by
  have hb := rdB_pack n (encF l) hl hn rest
  simp only [rdFi, packB]
  rw [hb]
  simp only [decF_enc l h hf]
theorem rdFi_back (n : Int) (l : List UInt8) (wr : Bool) (h : (rdFi n l wr).2.2 = false) : l = packB (encF (rdFi n l wr).1) ++ (rdFi n l wr).2.1 ∧ wr = false := by
  simp only [rdFi] at h ⊢
  cases hd : decF8 (rdB n l wr).1 with
  | none => rw [hd] at h; cases h
  | some e =>
    rw [hd] at h
    obtain ⟨e1, _, w1⟩ := rdB_back h
    have e2 := (decF_back hd).1
    refine ⟨?_, w1⟩
    simp only [packB]
    rw [← e2]
    exact e1
/-- Six numbers, one behind the other. -/
def rd6 (l : List UInt8) (wr : Bool) : (Nat × Nat × Nat × Nat × Nat × Nat) × List UInt8 × Bool :=
  let r1 := rdN l wr
  let r2 := rdN r1.2.1 r1.2.2
  let r3 := rdN r2.2.1 r2.2.2
  let r4 := rdN r3.2.1 r3.2.2
  let r5 := rdN r4.2.1 r4.2.2
  let r6 := rdN r5.2.1 r5.2.2
  ((r1.1, r2.1, r3.1, r4.1, r5.1, r6.1), r6.2)
theorem rd6_fwd (a b c d e f : Nat) (ha : a < 18446744073709551616) (hb : b < 18446744073709551616) (hc : c < 18446744073709551616) (hd : d < 18446744073709551616) (he : e < 18446744073709551616) (hf : f < 18446744073709551616) (rest : List UInt8) :
    rd6 (packN a ++ (packN b ++ (packN c ++ (packN d ++ (packN e ++ packN f)))) ++ rest) false = ((a, b, c, d, e, f), rest, false) := by
  simp only [rd6, List.append_assoc, rdN_pack, ha, hb, hc, hd, he, hf]
theorem rd6_back (l : List UInt8) (wr : Bool) (h : (rd6 l wr).2.2 = false) :
    l = packN (rd6 l wr).1.1 ++ (packN (rd6 l wr).1.2.1 ++ (packN (rd6 l wr).1.2.2.1 ++ (packN (rd6 l wr).1.2.2.2.1 ++ (packN (rd6 l wr).1.2.2.2.2.1 ++ packN (rd6 l wr).1.2.2.2.2.2)))) ++ (rd6 l wr).2.1 ∧ wr = false := by
  simp only [rd6] at h ⊢
  obtain ⟨e6, h⟩ := rdN_back h
  obtain ⟨e5, h⟩ := rdN_back h
  obtain ⟨e4, h⟩ := rdN_back h
  obtain ⟨e3, h⟩ := rdN_back h
  obtain ⟨e2, h⟩ := rdN_back h
  obtain ⟨e1, h⟩ := rdN_back h
  refine ⟨?_, h⟩
  simp only [List.append_assoc]
  rw [← e6, ← e5, ← e4, ← e3, ← e2]
  exact e1
theorem packV_len' {k n : Int} {s : ByteArray} (h0 : -9223372036854775808 ≤ n) (h1 : n ≤ 9223372036854775807) (hs : s.size ≤ 40) : (packV k n s).length ≤ 67 := by
  have g1 := packN_len (kindN k) (kindN_lt _)
  have g2 := packN_len (numV k n) (numV_lt _ _ h0 h1)
  have g3 := packN_len s.size (by omega)
  have g4 : s.data.size ≤ 40 := hs
  simp [packV]; omega
theorem encT_ln' {t : Tst} (h : okT t = true) (hf : fitT t) : (encT t).length ≤ 101 := by
  obtain ⟨hs, _, _, h8, hn⟩ := okT_parts h
  have h2 := packN_len t.1.size (by omega)
  have h3 := packN_len (kindN t.2.1) (kindN_lt _)
  have e1 : t.1.data.size ≤ 16 := hs
  unfold encT
  simp only [List.length_append]
  split
  · simp only [byt, Array.length_toList, List.length_nil]
    omega
  · rename_i e
    have h1 : (packV t.2.2.1 t.2.2.2.1 t.2.2.2.2).length ≤ 67 := packV_len' hf.2.2.1 hf.2.2.2 (okV_kind (hn (by simpa using e))).2
    simp only [byt, Array.length_toList]
    omega
/-- An entry as a reader reads it: its head; all of it. -/
def hdEn (a : Nat × Nat × Nat × Nat × Nat × Nat) : Ent := ⟨(min a.1 4 : Nat), (min a.2.1 16 : Nat), a.2.2.1, a.2.2.2.1, (min a.2.2.2.2.1 32 : Nat), a.2.2.2.2.2, [], []⟩
def rdEn (n : Int) : Rdr Ent := fun l wr =>
  if min (rd6 l wr).1.1 4 = 1 then
    ({ hdEn (rd6 l wr).1 with es := (rdL (rdEv n) (min (rdN (rd6 l wr).2.1 (rd6 l wr).2.2).1 9) (rdN (rd6 l wr).2.1 (rd6 l wr).2.2).2.1 (rdN (rd6 l wr).2.1 (rd6 l wr).2.2).2.2).1 },
      (rdL (rdEv n) (min (rdN (rd6 l wr).2.1 (rd6 l wr).2.2).1 9) (rdN (rd6 l wr).2.1 (rd6 l wr).2.2).2.1 (rdN (rd6 l wr).2.1 (rd6 l wr).2.2).2.2).2)
  else if min (rd6 l wr).1.1 4 = 2 then ({ hdEn (rd6 l wr).1 with f := (rdFi n (rd6 l wr).2.1 (rd6 l wr).2.2).1 }, (rdFi n (rd6 l wr).2.1 (rd6 l wr).2.2).2)
  else (hdEn (rd6 l wr).1, (rd6 l wr).2)
theorem okEn_parts {x : Ent} (h : okEn x = true) : (0 ≤ x.br ∧ x.br < 16) ∧ (0 ≤ x.cl ∧ x.cl < 32) ∧
    ((x.kind = 1 ∧ x.sub = 0 ∧ x.f = [] ∧ x.es.length ≤ 8 ∧ ∀ e ∈ x.es, okE e = true) ∨ (x.kind = 3 ∧ x.f = [] ∧ x.es = []) ∨ (x.kind = 2 ∧ x.es = [] ∧ okF x.f = true)) := by
  simp only [okEn, homeB, Bool.and_eq_true, decide_eq_true_eq] at h
  obtain ⟨⟨⟨⟨h1, h2⟩, h3⟩, h4⟩, h5⟩ := h
  refine ⟨⟨h1, h2⟩, ⟨h3, h4⟩, ?_⟩
  split at h5
  · rename_i hk
    simp only [Bool.and_eq_true, decide_eq_true_eq, List.isEmpty_iff, List.all_eq_true] at h5
    exact .inl ⟨hk, h5.1.1.1, h5.1.1.2, h5.1.2, h5.2⟩
  · split at h5
    · rename_i hk
      simp only [Bool.and_eq_true, List.isEmpty_iff] at h5
      exact .inr (.inl ⟨hk, h5.1, h5.2⟩)
    · split at h5
      · rename_i hk
        simp only [Bool.and_eq_true, List.isEmpty_iff] at h5
        exact .inr (.inr ⟨hk, h5.1, h5.2⟩)
      · cases h5
theorem kindN_nat (k : Int) (h0 : 0 ≤ k) (h1 : k < 100) : kindN k = k.toNat := by unfold kindN; omega
theorem rdEn_fwd (n : Int) (x : Ent) (h : okEn x = true) (hf : fitEn x) (hes : ∀ e ∈ x.es, ((encE e).length : Int) ≤ n) (hff : ((encF x.f).length : Int) ≤ n) (hf9 : (encF x.f).length < 18446744073709551616) (rest : List UInt8) :
    rdEn n (encEn x ++ rest) false = (x, rest, false) := by
  obtain ⟨⟨hb0, hb1⟩, ⟨hc0, hc1⟩, hk⟩ := okEn_parts h
  obtain ⟨_, _, _, hl, hs, hu, hft, hfa⟩ := hf
  obtain ⟨kind, br, life, ser, cl, sub, f, es⟩ := x
  simp only at hb0 hb1 hc0 hc1 hk hl hs hu hft hfa hes hff hf9
  have hbk := kindN_nat br hb0 (by omega)
  have hck := kindN_nat cl hc0 (by omega)
  have h6 : ∀ R, rd6 (encHd ⟨kind, br, life, ser, cl, sub, f, es⟩ ++ R) false = ((kindN kind, kindN br, life, ser, kindN cl, sub), R, false) := fun R =>
    rd6_fwd (kindN kind) (kindN br) life ser (kindN cl) sub (kindN_lt _) (kindN_lt _) hl hs (kindN_lt _) hu R
  have hm16 : ((min (kindN br) 16 : Nat) : Int) = br := by omega
  have hm32 : ((min (kindN cl) 32 : Nat) : Int) = cl := by omega
  rcases hk with ⟨rfl, rfl, rfl, h8, hall⟩ | ⟨rfl, rfl, rfl⟩ | ⟨rfl, rfl, hok⟩
  · have e : encEn ⟨1, br, life, ser, cl, 0, [], es⟩ ++ rest = encHd ⟨1, br, life, ser, cl, 0, [], es⟩ ++ (packN es.length ++ (es.flatMap (fun e => packB (encE e)) ++ rest)) := by
      simp [encEn, List.append_assoc]
    have hL := rdL_fwd (rdEv_codec n) es (fun e he => ⟨hall e he, hfa e he, hes e he⟩) rest es.length (Nat.le_refl _)
    have hk1 : kindN 1 = 1 := rfl
    unfold rdEn
    rw [e, h6]
    simp only [hk1]
    rw [if_pos (by decide), rdN_pack es.length (by omega)]
    simp only
    rw [show min es.length 9 = es.length by omega, hL]
    simp [hdEn, hm16, hm32]
  · have e : encEn ⟨3, br, life, ser, cl, sub, [], []⟩ ++ rest = encHd ⟨3, br, life, ser, cl, sub, [], []⟩ ++ rest := by simp [encEn]
    have hk1 : kindN 3 = 3 := rfl
    unfold rdEn
    rw [e, h6]
    simp only [hk1]
    rw [if_neg (by decide), if_neg (by decide)]
    simp [hdEn, hm16, hm32]
  · have e : encEn ⟨2, br, life, ser, cl, sub, f, []⟩ ++ rest = encHd ⟨2, br, life, ser, cl, sub, f, []⟩ ++ (packB (encF f) ++ rest) := by simp [encEn, List.append_assoc]
    have hk1 : kindN 2 = 2 := rfl
    unfold rdEn
    rw [e, h6]
    simp only [hk1]
    rw [if_neg (by decide), if_pos (by decide), encF_len9 hok hft hf9 n hff]
    simp [hdEn, hm16, hm32]
theorem encEn_1 {x : Ent} (h : x.kind = 1) : encEn x = encHd x ++ (packN x.es.length ++ x.es.flatMap fun e => packB (encE e)) := by unfold encEn; rw [if_pos h]
theorem encEn_2 {x : Ent} (h : x.kind = 2) : encEn x = encHd x ++ packB (encF x.f) := by unfold encEn; rw [if_neg (by omega), if_pos h]
theorem encEn_3 {x : Ent} (h1 : ¬ x.kind = 1) (h2 : ¬ x.kind = 2) : encEn x = encHd x := by unfold encEn; rw [if_neg h1, if_neg h2, List.append_nil]
theorem rdEn_back (n : Int) (l : List UInt8) (wr : Bool) (h : (rdEn n l wr).2.2 = false) (ok : okEn (rdEn n l wr).1 = true) : l = encEn (rdEn n l wr).1 ++ (rdEn n l wr).2.1 ∧ wr = false := by
  have h6 := rd6_back l wr
  unfold rdEn at h ok ⊢
  generalize rd6 l wr = r at *
  obtain ⟨⟨a, b, c, d, e, f⟩, l6, w6⟩ := r
  simp only at h ok h6 ⊢
  have hd : ∀ x : Ent, x.kind = (min a 4 : Nat) → x.br = (min b 16 : Nat) → x.cl = (min e 32 : Nat) → x.life = c → x.ser = d → x.sub = f → okEn x = true →
      encHd x = packN a ++ (packN b ++ (packN c ++ (packN d ++ (packN e ++ packN f)))) := by
    intro x h1 h2 h3 h4 h5 h6 hx
    obtain ⟨⟨hb0, hb1⟩, ⟨hc0, hc1⟩, hk⟩ := okEn_parts hx
    have hka : kindN x.kind = a := by
      have : x.kind = 1 ∨ x.kind = 3 ∨ x.kind = 2 := by
        rcases hk with hk | hk | hk
        · exact .inl hk.1
        · exact .inr (.inl hk.1)
        · exact .inr (.inr hk.1)
      rw [kindN_nat x.kind (by omega) (by omega)]; omega
    have hkb : kindN x.br = b := by rw [kindN_nat x.br hb0 (by omega)]; omega
    have hke : kindN x.cl = e := by rw [kindN_nat x.cl hc0 (by omega)]; omega
    unfold encHd
    rw [hka, hkb, hke, h4, h5, h6]
  split at h
  · rename_i hk1
    rw [if_pos hk1] at ok ⊢
    have h8 : (rdL (rdEv n) (min (rdN l6 w6).1 9) (rdN l6 w6).2.1 (rdN l6 w6).2.2).1.length = min (rdN l6 w6).1 9 := (rdL_len (rdEv_codec n) _ _ _).2
    obtain ⟨e8, w8⟩ := rdL_back (rdEv_codec n) h
    obtain ⟨e7, w7⟩ := rdN_back w8
    obtain ⟨e6, w⟩ := h6 w7
    refine ⟨?_, w⟩
    have hh := hd _ rfl rfl rfl rfl rfl rfl ok
    obtain ⟨-, -, hk⟩ := okEn_parts ok
    have hes : (rdL (rdEv n) (min (rdN l6 w6).1 9) (rdN l6 w6).2.1 (rdN l6 w6).2.2).1.length ≤ 8 := by
      rcases hk with hk | hk | hk
      · exact hk.2.2.2.1
      · have := hk.1; simp only [hdEn] at this; omega
      · have := hk.1; simp only [hdEn] at this; omega
    have hm : min (rdN l6 w6).1 9 = (rdN l6 w6).1 := by omega
    rw [encEn_1 (by simp only [hdEn]; omega), hh]
    simp only
    rw [h8, hm]
    rw [hm] at e8
    generalize packN a ++ (packN b ++ (packN c ++ (packN d ++ (packN e ++ packN f)))) = H at e6 ⊢
    rw [List.append_assoc H, List.append_assoc (packN (rdN l6 w6).1), ← e8, ← e7]
    exact e6
  · rename_i hk1
    rw [if_neg hk1] at ok ⊢
    split at h
    · rename_i hk2
      rw [if_pos hk2] at ok ⊢
      obtain ⟨e8, w8⟩ := rdFi_back n l6 w6 h
      obtain ⟨e6, w⟩ := h6 w8
      refine ⟨?_, w⟩
      have hh := hd _ rfl rfl rfl rfl rfl rfl ok
      rw [encEn_2 (by simp only [hdEn]; omega), hh]
      simp only
      generalize packN a ++ (packN b ++ (packN c ++ (packN d ++ (packN e ++ packN f)))) = H at e6 ⊢
      rw [List.append_assoc H, ← e8]
      exact e6
    · rename_i hk2
      rw [if_neg hk2] at ok ⊢
      obtain ⟨e6, w⟩ := h6 h
      refine ⟨?_, w⟩
      have hh := hd _ rfl rfl rfl rfl rfl rfl ok
      rw [encEn_3 (by simp only [hdEn]; omega) (by simp only [hdEn]; omega), hh]
      exact e6
/-- The entry that bytes are, if they are one. -/
def decEn (b : List UInt8) : Option Ent := if !(rdEn b.length b false).2.2 && (rdEn b.length b false).2.1.isEmpty && okEn (rdEn b.length b false).1 then some (rdEn b.length b false).1 else none
def decEnX (b : List UInt8) : Ent := (decEn b).getD ent0
def decEnC (b : List UInt8) : Int := if (decEn b).isSome then 0 else 110
theorem decEn_back {b : List UInt8} {x : Ent} (h : decEn b = some x) : b = encEn x ∧ okEn x = true := by
  unfold decEn at h
  split at h
  · rename_i hq
    injection h with h
    simp only [Bool.and_eq_true, Bool.not_eq_true', List.isEmpty_iff] at hq
    obtain ⟨⟨h1, h2⟩, h3⟩ := hq
    have hb := (rdEn_back _ b false h1 h3).1
    rw [h2, List.append_nil, h] at hb
    rw [h] at h3
    exact ⟨hb, h3⟩
  · cases h
theorem encEn_es (x : Ent) (hk : x.kind = 1) (e : List Att) (he : e ∈ x.es) : (encE e).length ≤ (encEn x).length := by
  have h1 : (packB (encE e)).length ≤ (x.es.flatMap fun e => packB (encE e)).length := by
    obtain ⟨s, t, hs⟩ := List.append_of_mem he
    rw [hs, List.flatMap_append, List.flatMap_cons]
    simp only [List.length_append]
    omega
  unfold encEn
  rw [if_pos hk]
  simp only [packB, List.length_append] at h1 ⊢
  omega
theorem decEn_enc (x : Ent) (h : okEn x = true) (hf : fitEn x) : decEn (encEn x) = some x := by
  obtain ⟨-, -, hk⟩ := okEn_parts h
  have hF : (encF x.f).length < 18446744073709551616 ∧ ((encF x.f).length : Int) ≤ ((encEn x).length : Int) := by
    have hp1 : 1 ≤ (packN (kindN x.kind)).length := by simp [packN]
    have hp : 1 ≤ (encHd x).length := by unfold encHd; rw [List.length_append]; omega
    rcases hk with ⟨_, _, hfn, _⟩ | ⟨_, hfn, _⟩ | ⟨hk, _, hok⟩
    · rw [hfn]
      have : (encF []).length = 1 := by simp [encF, packN, longN, be]
      rw [this]; unfold encEn; rw [List.length_append]; omega
    · rw [hfn]
      have : (encF []).length = 1 := by simp [encF, packN, longN, be]
      rw [this]; unfold encEn; rw [List.length_append]; omega
    · refine ⟨?_, ?_⟩
      · have h8 := okF_parts hok
        have hft := hf.2.2.2.2.2.2.1
        have h4 := packN_len x.f.length (by omega)
        have h5 : (x.f.flatMap encT).length ≤ 101 * x.f.length := by
          have : ∀ l : List Tst, (∀ t ∈ l, okT t = true ∧ fitT t) → (l.flatMap encT).length ≤ 101 * l.length := by
            intro l
            induction l with
            | nil => simp
            | cons y l ih =>
              intro hl
              have h1 := ih fun t ht => hl t (by simp [ht])
              obtain ⟨g1, g2⟩ := hl y (by simp)
              have h2 : (encT y).length ≤ 101 := encT_ln' g1 g2
              simp only [List.flatMap_cons, List.length_append, List.length_cons]
              omega
          exact this _ fun t ht => ⟨h8.2 t ht, hft t ht⟩
        unfold encF; rw [List.length_append]; omega
      · unfold encEn
        rw [if_neg (by omega), if_pos hk]
        simp only [packB, List.length_append]; omega
  have hE : ∀ e ∈ x.es, ((encE e).length : Int) ≤ ((encEn x).length : Int) := by
    intro e he
    rcases hk with ⟨hk, _⟩ | ⟨_, _, hn⟩ | ⟨_, hn, _⟩
    · have := encEn_es x hk e he; omega
    · rw [hn] at he; cases he
    · rw [hn] at he; cases he
  have hR := rdEn_fwd (encEn x).length x h hf hE hF.2 hF.1 []
  rw [List.append_nil] at hR
  unfold decEn
  rw [hR]
  simp [h]
theorem encEn_inj {x y : Ent} (hx : okEn x = true) (hy : okEn y = true) (fx : fitEn x) (fy : fitEn y) (h : encEn x = encEn y) : x = y := by
  have h1 := decEn_enc x hx fx
  rw [h, decEn_enc y hy fy] at h1
  injection h1 with h1
  exact h1.symm
theorem encF_most {l : List Tst} (h : okF l = true) (hf : ∀ x ∈ l, fitT x) : (encF l).length ≤ 900 := by
  have h8 := okF_parts h
  have h4 := packN_len l.length (by omega)
  have h5 : ∀ l : List Tst, (∀ t ∈ l, okT t = true ∧ fitT t) → (l.flatMap encT).length ≤ 101 * l.length := by
    intro l
    induction l with
    | nil => simp
    | cons y l ih =>
      intro hl
      have h1 := ih fun t ht => hl t (by simp [ht])
      obtain ⟨g1, g2⟩ := hl y (by simp)
      have h2 : (encT y).length ≤ 101 := encT_ln' g1 g2
      simp only [List.flatMap_cons, List.length_append, List.length_cons]
      omega
  have h6 := h5 l fun t ht => ⟨h8.2 t ht, hf t ht⟩
  unfold encF; rw [List.length_append]; omega
theorem encEs_most (es : List (List Att)) (h : ∀ e ∈ es, okE e = true ∧ ∀ a ∈ e, fitA a) : (es.flatMap fun e => packB (encE e)).length ≤ 2009 * es.length := by
  induction es with
  | nil => simp
  | cons y l ih =>
    have h1 := ih fun t ht => h t (by simp [ht])
    obtain ⟨g1, g2⟩ := h y (by simp)
    have h2 := encE_len g1 g2
    have h3 := packN_len (encE y).length (by omega)
    have h4 : (packB (encE y)).length = (packN (encE y).length).length + (encE y).length := by simp [packB]
    simp only [List.flatMap_cons, List.length_append, List.length_cons]
    omega
theorem encEn_len {x : Ent} (h : okEn x = true) (hf : fitEn x) : (encEn x).length ≤ 20000 := by
  obtain ⟨_, _, hk⟩ := okEn_parts h
  obtain ⟨_, _, _, hl, hs, hu, hft, hfa⟩ := hf
  have g1 := packN_len (kindN x.kind) (kindN_lt _)
  have g2 := packN_len (kindN x.br) (kindN_lt _)
  have g3 := packN_len x.life hl
  have g4 := packN_len x.ser hs
  have g5 := packN_len (kindN x.cl) (kindN_lt _)
  have g6 := packN_len x.sub hu
  have hh : (encHd x).length ≤ 54 := by unfold encHd; simp only [List.length_append]; omega
  rcases hk with ⟨hk, _, _, h8, hall⟩ | ⟨hk, _, _⟩ | ⟨hk, _, hok⟩
  · have h1 := encEs_most x.es fun e he => ⟨hall e he, hfa e he⟩
    have h2 := packN_len x.es.length (by omega)
    rw [encEn_1 hk]; simp only [List.length_append]; omega
  · rw [encEn_3 (by omega) (by omega)]; omega
  · have h1 := encF_most hok hft
    have h2 := packN_len (encF x.f).length (by omega)
    rw [encEn_2 hk]; simp only [List.length_append, packB]; omega
end Go.Proofs.Ythnhdeieimgfhaa

/-
  Records in plain Lean: what may be, what bytes they are, how a reader reads them. Conditions: none.
-/
namespace Go.Proofs.Ythnhdeieimgfhaa
open Go Go.RowKit

/-- A record. -/
structure Rec where
  kind : Int
  n : Nat
  e : Ent
  br : Int
  life : Nat
  ser : Nat
  deriving DecidableEq
def rec0 : Rec := ⟨0, 0, ent0, 0, 0, 0⟩
def fitRec (x : Rec) : Prop := i64ok x.kind ∧ x.n < 18446744073709551616 ∧ fitEn x.e ∧ i64ok x.br ∧ x.life < 18446744073709551616 ∧ x.ser < 18446744073709551616
def noId (x : Rec) : Bool := decide (x.br = 0) && decide (x.life = 0) && decide (x.ser = 0)
/-- Whether a record may be. -/
def okRec (x : Rec) : Bool :=
  if x.kind = 1 then decide (x.e = ent0) && noId x
  else if x.kind = 2 then okEn x.e && noId x
  else if x.kind = 3 then decide (x.n = 0) && okEn x.e && noId x
  else if x.kind = 4 ∨ x.kind = 5 then homeB x.br && decide (x.n = 0) && decide (x.e = ent0) else false
def encRec (x : Rec) : List UInt8 :=
  packN (kindN x.kind) ++ (packN x.n ++ (if x.kind = 2 ∨ x.kind = 3 then packB (encEn x.e) else if x.kind = 4 ∨ x.kind = 5 then packN (kindN x.br) ++ (packN x.life ++ packN x.ser) else []))
theorem okRec_kind {x : Rec} (h : okRec x = true) : (x.kind = 1 ∧ x.e = ent0 ∧ x.br = 0 ∧ x.life = 0 ∧ x.ser = 0) ∨ ((x.kind = 2 ∨ x.kind = 3 ∧ x.n = 0) ∧ okEn x.e = true ∧ x.br = 0 ∧ x.life = 0 ∧ x.ser = 0) ∨
    ((x.kind = 4 ∨ x.kind = 5) ∧ (0 ≤ x.br ∧ x.br < 16) ∧ x.n = 0 ∧ x.e = ent0) := by
  unfold okRec noId homeB at h
  split at h
  · rename_i hk
    simp only [Bool.and_eq_true, decide_eq_true_eq] at h
    exact .inl ⟨hk, h.1, h.2.1.1, h.2.1.2, h.2.2⟩
  · split at h
    · rename_i hk
      simp only [Bool.and_eq_true, decide_eq_true_eq] at h
      exact .inr (.inl ⟨.inl hk, h.1, h.2.1.1, h.2.1.2, h.2.2⟩)
    · split at h
      · rename_i hk
        simp only [Bool.and_eq_true, decide_eq_true_eq] at h
        exact .inr (.inl ⟨.inr ⟨hk, h.1.1⟩, h.1.2, h.2.1.1, h.2.1.2, h.2.2⟩)
      · split at h
        · rename_i hk
          simp only [Bool.and_eq_true, decide_eq_true_eq] at h
          exact .inr (.inr ⟨hk, h.1.1, h.1.2, h.2⟩)
        · cases h
/-- A record as a reader reads it. -/
def rdRec (m : Int) : Rdr Rec := fun l wr =>
  let a := rdN l wr
  let b := rdN a.2.1 a.2.2
  let k := min a.1 6
  if k = 2 ∨ k = 3 then
    match decEn (rdB m b.2.1 b.2.2).1 with
    | none => (rec0, (rdB m b.2.1 b.2.2).2.1, true)
    | some e => (⟨(k : Nat), b.1, e, 0, 0, 0⟩, (rdB m b.2.1 b.2.2).2)
  else if k = 4 ∨ k = 5 then
    let c := rdN b.2.1 b.2.2
    let d := rdN c.2.1 c.2.2
    let e := rdN d.2.1 d.2.2
    (⟨(k : Nat), b.1, ent0, (min c.1 16 : Nat), d.1, e.1⟩, e.2)
  else (⟨(k : Nat), b.1, ent0, 0, 0, 0⟩, b.2)
theorem rdRec_fwd (m : Int) (x : Rec) (h : okRec x = true) (hf : fitRec x) (hm : ((encEn x.e).length : Int) ≤ m) (hl : (encEn x.e).length < 18446744073709551616) (rest : List UInt8) : rdRec m (encRec x ++ rest) false = (x, rest, false) := by
  obtain ⟨kind, n, e, br, life, ser⟩ := x
  obtain ⟨-, hn, hfe, -, hli, hse⟩ := hf
  simp only at hn hfe hli hse hm hl
  rcases okRec_kind h with ⟨hk, he, hb, h1, h2⟩ | ⟨hk, he, hb, h1, h2⟩ | ⟨hk, hb, h1, he⟩
  · simp only at hk he hb h1 h2
    subst hk he hb h1 h2
    have e1 : encRec ⟨1, n, ent0, 0, 0, 0⟩ ++ rest = packN 1 ++ (packN n ++ rest) := by
      simp [encRec, show kindN 1 = 1 from rfl, List.append_assoc]
    simp only [rdRec]
    rw [e1, rdN_pack 1 (by decide)]
    simp only [rdN_pack, hn]
    simp
  · simp only at hk he hb h1 h2
    subst hb h1 h2
    have hkk : kind = 2 ∨ kind = 3 := by omega
    have hkn := kindN_nat kind (by omega) (by omega)
    have e1 : encRec ⟨kind, n, e, 0, 0, 0⟩ ++ rest = packN (kindN kind) ++ (packN n ++ (packN (encEn e).length ++ encEn e ++ rest)) := by
      simp only [encRec]
      rw [if_pos hkk]
      simp [packB, List.append_assoc]
    have hbp := rdB_pack m (encEn e) hl hm rest
    simp only [rdRec]
    rw [e1, rdN_pack _ (kindN_lt _)]
    simp only [rdN_pack, hn]
    rw [if_pos (by omega), hbp]
    simp only [decEn_enc e he hfe]
    rw [show ((min (kindN kind) 6 : Nat) : Int) = kind by omega]
  · simp only at hk hb h1 he
    subst h1 he
    have hkn := kindN_nat kind (by omega) (by omega)
    have hbn := kindN_nat br hb.1 (by omega)
    have e1 : encRec ⟨kind, 0, ent0, br, life, ser⟩ ++ rest = packN (kindN kind) ++ (packN 0 ++ (packN (kindN br) ++ (packN life ++ (packN ser ++ rest)))) := by
      simp only [encRec]
      rw [if_neg (by omega), if_pos hk]
      simp [List.append_assoc]
    simp only [rdRec]
    rw [e1, rdN_pack _ (kindN_lt _)]
    simp only [rdN_pack, hli, hse, kindN_lt, show (0 : Nat) < 18446744073709551616 by decide]
    rw [if_neg (by omega), if_pos (by omega), show ((min (kindN kind) 6 : Nat) : Int) = kind by omega, show ((min (kindN br) 16 : Nat) : Int) = br by omega]
theorem rdRec_back (m : Int) (l : List UInt8) (wr : Bool) (h : (rdRec m l wr).2.2 = false) (ok : okRec (rdRec m l wr).1 = true) : l = encRec (rdRec m l wr).1 ++ (rdRec m l wr).2.1 ∧ wr = false := by
  have ha := @rdN_back l wr
  unfold rdRec at h ok ⊢
  simp only at h ok ⊢
  generalize rdN l wr = a at *
  obtain ⟨a, l1, w1⟩ := a
  simp only at h ok ha ⊢
  have hb := @rdN_back l1 w1
  generalize rdN l1 w1 = b at *
  obtain ⟨b, l2, w2⟩ := b
  simp only at h ok hb ⊢
  split at h
  · rename_i hk
    rw [if_pos hk] at ok ⊢
    have hB := @rdB_back m l2 w2
    generalize rdB m l2 w2 = r at *
    obtain ⟨bs, l3, w3⟩ := r
    simp only at h ok hB ⊢
    cases hd : decEn bs with
    | none => rw [hd] at h; cases h
    | some e =>
      rw [hd] at h ok
      simp only at h ok ⊢
      obtain ⟨e3, _, w⟩ := hB h
      obtain ⟨e2, w⟩ := hb w
      obtain ⟨e1, w⟩ := ha w
      refine ⟨?_, w⟩
      have hbe := (decEn_back hd).1
      have hkn : kindN ((min a 6 : Nat) : Int) = a := by rw [kindN_nat _ (by omega) (by omega)]; omega
      unfold encRec
      simp only
      rw [if_pos (by omega), hkn]
      simp only [packB, List.append_assoc]
      rw [← hbe, ← List.append_assoc (packN bs.length), ← e3, ← e2]
      exact e1
  · rename_i hk
    rw [if_neg hk] at ok ⊢
    split at h
    · rename_i hk4
      rw [if_pos hk4] at ok ⊢
      have hc := @rdN_back l2 w2
      generalize rdN l2 w2 = c at *
      obtain ⟨c, l3, w3⟩ := c
      simp only at h ok hc ⊢
      have hd := @rdN_back l3 w3
      generalize rdN l3 w3 = d at *
      obtain ⟨d, l4, w4⟩ := d
      simp only at h ok hd ⊢
      have he := @rdN_back l4 w4
      generalize rdN l4 w4 = e at *
      obtain ⟨e, l5, w5⟩ := e
      simp only at h ok he ⊢
      obtain ⟨e5, w⟩ := he h
      obtain ⟨e4, w⟩ := hd w
      obtain ⟨e3, w⟩ := hc w
      obtain ⟨e2, w⟩ := hb w
      obtain ⟨e1, w⟩ := ha w
      refine ⟨?_, w⟩
      have hbr : 0 ≤ ((min c 16 : Nat) : Int) ∧ ((min c 16 : Nat) : Int) < 16 := by
        rcases okRec_kind ok with ⟨g, _⟩ | ⟨g, _⟩ | ⟨_, g, _⟩
        · simp only at g; omega
        · simp only at g; omega
        · exact g
      have hkn : kindN ((min a 6 : Nat) : Int) = a := by rw [kindN_nat _ (by omega) (by omega)]; omega
      have hbn : kindN ((min c 16 : Nat) : Int) = c := by rw [kindN_nat _ (by omega) (by omega)]; omega
      unfold encRec
      simp only
      rw [if_neg (by omega), if_pos (by omega), hkn, hbn]
      simp only [List.append_assoc]
      rw [← e5, ← e4, ← e3, ← e2]
      exact e1
    · rename_i hk4
      rw [if_neg hk4] at ok ⊢
      simp only at h ⊢
      obtain ⟨e2, w⟩ := hb h
      obtain ⟨e1, w⟩ := ha w
      refine ⟨?_, w⟩
      have hk1 : ((min a 6 : Nat) : Int) = 1 := by
        rcases okRec_kind ok with ⟨g, _⟩ | ⟨g, _⟩ | ⟨g, _⟩
        · exact g
        · simp only at g; omega
        · simp only at g; omega
      have hkn : kindN ((min a 6 : Nat) : Int) = a := by rw [kindN_nat _ (by omega) (by omega)]; omega
      unfold encRec
      simp only
      rw [if_neg (by omega), if_neg (by omega), hkn]
      simp only [List.append_assoc, List.nil_append]
      rw [← e2]
      exact e1
/-- The record that bytes are, if they are one. -/
def decRec (b : List UInt8) : Option Rec := if !(rdRec b.length b false).2.2 && (rdRec b.length b false).2.1.isEmpty && okRec (rdRec b.length b false).1 then some (rdRec b.length b false).1 else none
def decRecX (b : List UInt8) : Rec := (decRec b).getD rec0
def decRecC (b : List UInt8) : Int := if (decRec b).isSome then 0 else 110
theorem decRec_back {b : List UInt8} {x : Rec} (h : decRec b = some x) : b = encRec x ∧ okRec x = true := by
  unfold decRec at h
  split at h
  · rename_i hq
    injection h with h
    simp only [Bool.and_eq_true, Bool.not_eq_true', List.isEmpty_iff] at hq
    obtain ⟨⟨h1, h2⟩, h3⟩ := hq
    have hb := (rdRec_back _ b false h1 h3).1
    rw [h2, List.append_nil, h] at hb
    rw [h] at h3
    exact ⟨hb, h3⟩
  · cases h
theorem encEn_0 : (encEn ent0).length = 6 := by simp [encEn, encHd, ent0, packN, kindN, longN, be]
theorem decRec_enc (x : Rec) (h : okRec x = true) (hf : fitRec x) : decRec (encRec x) = some x := by
  have hl : (encEn x.e).length < 18446744073709551616 ∧ ((encEn x.e).length : Int) ≤ 30000 ∧ ((x.kind = 2 ∨ x.kind = 3) → ((encEn x.e).length : Int) ≤ ((encRec x).length : Int)) := by
    have hle : (x.kind = 2 ∨ x.kind = 3) → ((encEn x.e).length : Int) ≤ ((encRec x).length : Int) := by
      intro hk
      unfold encRec
      rw [if_pos hk]
      simp only [packB, List.length_append]; omega
    rcases okRec_kind h with ⟨_, he, _⟩ | ⟨_, he, _⟩ | ⟨_, _, _, he⟩
    · rw [he, encEn_0]; rw [he, encEn_0] at hle; exact ⟨by omega, by omega, hle⟩
    · have := encEn_len he hf.2.2.1; exact ⟨by omega, by omega, hle⟩
    · rw [he, encEn_0]; rw [he, encEn_0] at hle; exact ⟨by omega, by omega, hle⟩
  have hR : rdRec (encRec x).length (encRec x ++ []) false = (x, [], false) := by
    by_cases hk : x.kind = 2 ∨ x.kind = 3
    · exact rdRec_fwd _ x h hf (hl.2.2 hk) hl.1 []
    · have h1 := rdRec_fwd 30000 x h hf hl.2.1 hl.1 []
      rw [← h1]
      have hn : (rdN (encRec x ++ []) false).1 = kindN x.kind := by
        unfold encRec
        rw [List.append_assoc, rdN_pack _ (kindN_lt _)]
      have hkk : ¬ (min (rdN (encRec x ++ []) false).1 6 = 2 ∨ min (rdN (encRec x ++ []) false).1 6 = 3) := by
        rw [hn]
        rcases okRec_kind h with ⟨g, _⟩ | ⟨g, _⟩ | ⟨g, _⟩
        · rw [kindN_nat _ (by omega) (by omega)]; omega
        · omega
        · rw [kindN_nat _ (by omega) (by omega)]; omega
      unfold rdRec
      simp only
      rw [if_neg hkk, if_neg hkk]
  rw [List.append_nil] at hR
  unfold decRec
  rw [hR]
  simp [h]
theorem encRec_inj {x y : Rec} (hx : okRec x = true) (hy : okRec y = true) (fx : fitRec x) (fy : fitRec y) (h : encRec x = encRec y) : x = y := by
  have h1 := decRec_enc x hx fx
  rw [h, decRec_enc y hy fy] at h1
  injection h1 with h1
  exact h1.symm
end Go.Proofs.Ythnhdeieimgfhaa

/-
  IDs, and which of two comes first. Conditions: none.
-/
namespace Go.Proofs.Ythnhdeieimgfhaa
open Go Go.RowKit

abbrev Idn := Int × Nat × Nat
abbrev idv (a : Idn) : Value := .agg #[.int .i64 a.1, .int .u64 (a.2.1 : Int), .int .u64 (a.2.2 : Int)]
/-- Which of two IDs comes first. -/
def lessI (a b : Idn) : Bool := if a.1 ≠ b.1 then decide (a.1 < b.1) else if a.2.1 ≠ b.2.1 then decide (a.2.1 < b.2.1) else decide (a.2.2 < b.2.2)

end Go.Proofs.Ythnhdeieimgfhaa

/-
  Lists in memory whose elements lead on to more memory: how they read, and how a list of the call's own grows by an element. Conditions: none.
-/
set_option maxRecDepth 100000
namespace Go.Proofs.Ythnhdeieimgfhaa
open Go Go.RowKit

/-- Memory that grew only. -/
abbrev K (w W : World) : Prop := Below w.heap.size w W
section
variable {a b c w w' w'' : World} {B g base lo : Nat} {row : Option Nat}
theorem K.rf (w : World) : K w w := Below.refl _ _
theorem _root_.Go.RowKit.Below.tr (h : Below a.heap.size a b) (k : Below b.heap.size b c) : Below a.heap.size a c := h.trans (k.mono h.size)
theorem _root_.Go.RowKit.Below.al (h : Below a.heap.size a b) (o : Obj) : Below a.heap.size a (b.alloc o) := h.alloc h.size o
theorem Blk.cells {t : TypeId} {cs : Array Value} (h : Blk w g t cs) : ∀ W, K w W → ∀ i, W.cell? ⟨g, i, none⟩ = cs[i]? := fun _ k i => (h.below k h.lt).cell i

/-- Blocks from 'lo' on are as they were, but for one. -/
structure UpB (lo : Nat) (row : Option Nat) (w w' : World) : Prop where
  os : w'.os = w.os
  tape : w'.tape = w.tape
  output : w'.output = w.output
  size : w.heap.size ≤ w'.heap.size
  block : ∀ k, lo ≤ k → k < w.heap.size → some k ≠ row → w'.heap[k]? = w.heap[k]?
theorem UpB.rf (lo : Nat) (row : Option Nat) (w : World) : UpB lo row w w := ⟨rfl, rfl, rfl, Nat.le_refl _, fun _ _ _ _ => rfl⟩
theorem UpB.tr (h : UpB lo row a b) (k : UpB lo row b c) : UpB lo row a c :=
  ⟨k.os.trans h.os, k.tape.trans h.tape, k.output.trans h.output, Nat.le_trans h.size k.size, fun i h1 h2 h3 => (k.block i h1 (Nat.lt_of_lt_of_le h2 h.size) h3).trans (h.block i h1 h2 h3)⟩
theorem UpB.of_k (h : K w w') (lo : Nat) (row : Option Nat) : UpB lo row w w' := ⟨h.os, h.tape, h.output, h.size, fun i _ h2 _ => h.block i h2⟩
theorem UpB.of_mut (h : w.grownBy w' row) (lo : Nat) : UpB lo row w w' := ⟨h.os, h.tape, h.output, h.size, fun i _ h2 h3 => h.block i h2 h3⟩
theorem UpB.more {lo' : Nat} {row' : Option Nat} (h : UpB lo row w w') (h1 : lo ≤ lo') (h2 : ∀ k, lo' ≤ k → some k ≠ row' → some k ≠ row) : UpB lo' row' w w' :=
  ⟨h.os, h.tape, h.output, h.size, fun i g1 g2 g3 => h.block i (by omega) g2 (h2 i g1 g3)⟩
/-- What was there before the row is as it was. -/
theorem UpB.k (h : UpB 0 row w w') (h0 : K a w) (hr : ∀ k, row = some k → a.heap.size ≤ k) : K a w' :=
  h0.trans ⟨h.os, h.tape, h.output, h.size, fun i hi => h.block i (Nat.zero_le _) (Nat.lt_of_lt_of_le hi h0.size) (by rintro rfl; have := hr i rfl; omega)⟩
/-- Behind an append: the row is the old one, or a new one. -/
theorem UpB.app (h : w.grownBy w' row) {row' : Option Nat} (hat : row' = row ∨ row' = some w.heap.size) (k : UpB lo row' w' w'') : UpB lo row w w'' := by
  refine ⟨k.os.trans h.os, k.tape.trans h.tape, k.output.trans h.output, Nat.le_trans h.size k.size, fun i h1 h2 h3 => (k.block i h1 (Nat.lt_of_lt_of_le h2 h.size) ?_).trans (h.block i h2 h3)⟩
  rcases hat with rfl | rfl
  · exact h3
  · intro e; injection e with e; omega

theorem len0' {α : Type} (l : List α) : ((l.length : Int) == 0) = l.isEmpty := by
  cases l with
  | nil => rfl
  | cons x l => simp; omega
/-- How a thing reads in cells. -/
structure Shp (α : Type) where
  size : Nat
  rel : α → List Value → World → Prop
  len : ∀ {x cs w}, rel x cs w → cs.length = size
  one : ∀ {x cs w}, rel x cs w → ∀ u ∈ cs, u.oneCell' = true
  st : ∀ {x cs w w'}, rel x cs w → K w w' → rel x cs w'
variable {α : Type} {S : Shp α} {l : List α} {v : Value} {A : Option Addr}

/-- The elements of a list, cells by cells. -/
def Each (S : Shp α) (l : List α) (css : List (List Value)) (w : World) : Prop := css.length = l.length ∧ ∀ i (h : i < l.length) (h' : i < css.length), S.rel l[i] css[i] w
theorem Each.lens {css : List (List Value)} (h : Each S l css w) : ∀ cs ∈ css, cs.length = S.size := by
  intro cs hcs
  obtain ⟨i, hi, rfl⟩ := List.mem_iff_getElem.1 hcs
  exact S.len (h.2 i (by have := h.1; omega) hi)
theorem Each.ones {css : List (List Value)} (h : Each S l css w) : ∀ u ∈ css.flatten, u.oneCell' = true := by
  intro u hu
  obtain ⟨cs, hcs, hu⟩ := List.mem_flatten.1 hu
  obtain ⟨i, hi, rfl⟩ := List.mem_iff_getElem.1 hcs
  exact S.one (h.2 i (by have := h.1; omega) hi) u hu
theorem Each.st {css : List (List Value)} (h : Each S l css w) (k : K w w') : Each S l css w' := ⟨h.1, fun i hi hi' => S.st (h.2 i hi hi') k⟩
theorem Each.flen {css : List (List Value)} (h : Each S l css w) : css.flatten.length = l.length * S.size := by
  rw [flatten_len S.size css h.lens, h.1]
theorem Each.get {css : List (List Value)} (h : Each S l css w) (i : Nat) (hi : i < l.length) : ∃ cs, css[i]? = some cs ∧ cs.length = S.size ∧ S.rel l[i] cs w ∧ ∀ j, j < S.size → css.flatten[i * S.size + j]? = cs[j]? := by
  have hi' : i < css.length := by have := h.1; omega
  have hr := h.2 i hi hi'
  refine ⟨css[i], List.getElem?_eq_getElem hi', S.len hr, hr, fun j hj => ?_⟩
  rw [flatten_at S.size css h.lens i j hi' hj, List.getElem?_eq_getElem hi']
  rfl
theorem Each.nil (S : Shp α) (w : World) : Each S [] [] w := ⟨rfl, fun i hi => by simp at hi⟩
theorem Each.snoc {css : List (List Value)} (h : Each S l css w) {x : α} {cs : List Value} (hx : S.rel x cs w) : Each S (l ++ [x]) (css ++ [cs]) w := by
  refine ⟨by simp [h.1], fun i hi hi' => ?_⟩
  have hl := h.1
  by_cases hlt : i < l.length
  · have := h.2 i hlt (by omega)
    rw [List.getElem_append_left hlt, List.getElem_append_left (by omega)]
    exact this
  · simp at hi
    have e : i = l.length := by omega
    subst e
    rw [List.getElem_append_right (Nat.le_refl _), List.getElem_append_right (by omega)]
    simpa [hl] using hx
theorem Each.one {x : α} {cs : List Value} (hx : S.rel x cs w) : Each S [x] [cs] w := by simpa using (Each.nil S w).snoc hx
theorem Each.take {css : List (List Value)} (h : Each S l css w) (k : Nat) : Each S (l.take k) (css.take k) w := by
  refine ⟨by simp [h.1], fun i hi hi' => ?_⟩
  simp only [List.getElem_take]
  exact h.2 i (by simp at hi; omega) (by simp at hi'; omega)
theorem Each.drop {css : List (List Value)} (h : Each S l css w) (k : Nat) : Each S (l.drop k) (css.drop k) w := by
  refine ⟨by simp [h.1], fun i hi hi' => ?_⟩
  simp only [List.getElem_drop]
  exact h.2 (k + i) (by simp at hi; omega) (by simp at hi'; omega)
theorem Each.append {l2 : List α} {css css2 : List (List Value)} (h : Each S l css w) (k : Each S l2 css2 w) : Each S (l ++ l2) (css ++ css2) w := by
  refine ⟨by simp [h.1, k.1], fun i hi hi' => ?_⟩
  have h1 := h.1
  by_cases hlt : i < l.length
  · rw [List.getElem_append_left hlt, List.getElem_append_left (by omega)]
    exact h.2 i hlt (by omega)
  · rw [List.getElem_append_right (by omega), List.getElem_append_right (by omega)]
    have := k.2 (i - l.length) (by simp at hi; omega) (by simp at hi'; omega)
    simpa [h1] using this

/-- A slice at A that reads as a list. -/
def lsr (S : Shp α) (l : List α) (A : Option Addr) (w : World) : Prop := ∃ css, Each S l css w ∧ Reads w w.heap.size S.size A l.length css.flatten
theorem lsr_st (h : lsr S l A w) (k : K w w') : lsr S l A w' := by
  obtain ⟨css, h1, h2⟩ := h
  exact ⟨css, h1.st k, (h2.below k (Nat.le_refl _)).more k.size⟩
theorem lsr_nil (S : Shp α) (A : Option Addr) (w : World) : lsr S [] A w := ⟨[], Each.nil _ _, Reads.nil _ _ _ _⟩
theorem lsr_at (h : lsr S l A w) (i : Nat) (hi : i < l.length) (hs : 0 < S.size) : ∃ b off cs, A = some ⟨b, off, none⟩ ∧ b < w.heap.size ∧ cs.length = S.size ∧ S.rel l[i] cs w ∧ ∀ j, j < S.size → w.cell? ⟨b, off + i * S.size + j, none⟩ = cs[j]? := by
  obtain ⟨css, h1, h2⟩ := h
  obtain ⟨cs, hcs, hl, hr, hc⟩ := h1.get i hi
  have h0 : 0 < css.flatten.length := by rw [h1.flen]; exact Nat.mul_pos (by omega) hs
  obtain ⟨b, off, rfl, hb, hcell⟩ := h2.2 h0
  refine ⟨b, off, cs, rfl, hb, hl, hr, fun j hj => ?_⟩
  have := hc j hj
  rw [List.getElem?_eq_getElem (show j < cs.length by omega)] at this ⊢
  rw [Nat.add_assoc]
  exact hcell _ _ this
/-- A slice that reads as a list. -/
def lst (S : Shp α) (l : List α) (v : Value) (w : World) : Prop := ∃ A c, v = .slice A l.length c ∧ lsr S l A w ∧ l.length ≤ c
theorem lst_st (h : lst S l v w) (k : K w w') : lst S l v w' := by
  obtain ⟨A, c, h1, h2, h3⟩ := h
  exact ⟨A, c, h1, lsr_st h2 k, h3⟩
theorem lst_al (h : lst S l v w) : ∀ W, K w W → lst S l v W := fun _ k => lst_st h k
theorem lst_nil (S : Shp α) (w : World) : lst S [] (.slice none 0 0) w := ⟨none, 0, rfl, lsr_nil _ _ _, Nat.le_refl _⟩
/-- Lists as elements. -/
def lstS (S : Shp α) : Shp (List α) where
  size := 1
  rel l cs w := ∃ v, cs = [v] ∧ lst S l v w
  len := by rintro _ _ _ ⟨v, rfl, _⟩; rfl
  one := by rintro _ _ _ ⟨v, rfl, A, c, rfl, _⟩ u hu; simp at hu; subst hu; rfl
  st := by rintro _ _ _ _ ⟨v, rfl, h⟩ k; exact ⟨v, rfl, lst_st h k⟩

/-- A list that the call made, whose elements stay while its row, and what lies below 'lo', change. -/
def OwnL (base lo : Nat) (e : TypeId) (S : Shp α) (l : List α) (v : Value) (w : World) : Prop :=
  ∃ css, w.ownsRow base e S.size v l.length css.flatten ∧ css.length = l.length ∧ ∀ w', UpB lo v.ownBlock w w' → Each S l css w'
theorem OwnL.nil (base lo : Nat) (e : TypeId) (S : Shp α) (w : World) : OwnL base lo e S [] (.slice none 0 0) w := ⟨[], World.ownsRow_nil _ _ _ _, rfl, fun _ _ => Each.nil _ _⟩
theorem OwnL.st {e : TypeId} (h : OwnL base lo e S l v w) (k : K w w') : OwnL base lo e S l v w' := by
  obtain ⟨css, h1, h2, h3⟩ := h
  exact ⟨css, row_below h1 k, h2, fun w'' u => h3 w'' ((UpB.of_k k lo _).tr u)⟩
theorem OwnL.up {e : TypeId} (h : OwnL base lo e S l v w) (hl : lo ≤ base) (u : UpB lo none w w') : OwnL base lo e S l v w' := by
  obtain ⟨css, h1, h2, h3⟩ := h
  refine ⟨css, ⟨h1.1, h1.2.imp id ?_⟩, h2, fun w'' u' => h3 w'' (UpB.tr (u.more (Nat.le_refl _) (fun _ _ _ => by simp)) u')⟩
  rintro ⟨g, cap, cur, g1, g2, g3, g4⟩
  exact ⟨g, cap, cur, g1, g2, (u.block g (by omega) (Array.getElem?_eq_some_iff.1 g3).1 (by simp)).trans g3, g4⟩
theorem OwnL.low {e : TypeId} {base' : Nat} (h : OwnL base' lo e S l v w) (hb : base ≤ base') : OwnL base lo e S l v w := by
  obtain ⟨css, h1, h2, h3⟩ := h
  exact ⟨css, row_base hb h1, h2, h3⟩
theorem OwnL.slice {e : TypeId} (h : OwnL base lo e S l v w) : ∃ A c, v = .slice A l.length c ∧ lsr S l A w ∧ l.length ≤ c ∧ (∀ g, v.ownBlock = some g → base ≤ g ∧ g < w.heap.size) := by
  obtain ⟨css, h1, h2, h3⟩ := h
  have h1' := h1
  have he := h3 w (UpB.rf _ _ _)
  have hg : ∀ g, v.ownBlock = some g → base ≤ g ∧ g < w.heap.size := fun g hg => h1.lt g hg
  rcases h1.2 with ⟨rfl, h0⟩ | ⟨g, cap, cur, rfl, _, _, hn, _⟩
  · obtain rfl : l = [] := List.eq_nil_of_length_eq_zero h0
    exact ⟨none, 0, rfl, lsr_nil _ _ _, by simp, hg⟩
  · exact ⟨_, _, rfl, ⟨css, he, Reads.of_own h1'⟩, hn, hg⟩
theorem OwnL.blk {e : TypeId} (h : OwnL base lo e S l v w) : ∀ g, v.ownBlock = some g → base ≤ g ∧ g < w.heap.size := by
  obtain ⟨css, h1, _, _⟩ := h
  exact fun g hg => h1.lt g hg
theorem OwnL.lst {e : TypeId} (h : OwnL base lo e S l v w) : lst S l v w := by
  obtain ⟨A, c, h1, h2, h3, _⟩ := h.slice
  exact ⟨A, c, h1, h2, h3⟩
/-- Behind an append of one element. -/
theorem OwnL.snoc {e : TypeId} {css : List (List Value)} (hcl : css.length = l.length) (hE : ∀ w', UpB lo v.ownBlock w w' → Each S l css w')
    {x : α} {cs : List Value} {v' : Value} (ho : w'.ownsRow base e S.size v' (l.length + 1) (css.flatten ++ cs)) (hg : w.grownBy w' v.ownBlock) (hat : v'.ownBlock = v.ownBlock ∨ v'.ownBlock = some w.heap.size)
    (hx : ∀ w', UpB lo v.ownBlock w w' → S.rel x cs w') : OwnL base lo e S (l ++ [x]) v' w' := by
  refine ⟨css ++ [cs], by simpa using ho, by simp [hcl], fun w'' u => ?_⟩
  have u' := UpB.app hg hat u
  exact (hE _ u').snoc (hx _ u')
end
end Go.Proofs.Ythnhdeieimgfhaa

/-
  Entries, records and IDs in memory, and what is known of an argument that is one. Conditions: none.
-/
set_option maxRecDepth 100000
namespace Go.Proofs.Ythnhdeieimgfhaa
open Go Go.RowKit Go.ChangeShapes Go.WideShapes Go.ChangeAt

/-- Events, as elements of a list. -/
def evS : Shp (List Att) where
  size := 1
  rel l cs w := ∃ v, cs = [v] ∧ evt l v w
  len := by rintro _ _ _ ⟨v, rfl, _⟩; rfl
  one := by rintro _ _ _ ⟨v, rfl, A, c, rfl, _⟩ u hu; simp at hu; subst hu; rfl
  st := by rintro _ _ _ _ ⟨v, rfl, h⟩ k; exact ⟨v, rfl, evt_st _ _ _ _ h k⟩
/-- IDs. -/
abbrev idc (a : Idn) : List Value := [.int .i64 a.1, .int .u64 (a.2.1 : Int), .int .u64 (a.2.2 : Int)]
def fitI (a : Idn) : Prop := i64ok a.1 ∧ a.2.1 < 18446744073709551616 ∧ a.2.2 < 18446744073709551616
def idS : Shp Idn where
  size := 3
  rel a cs _ := cs = idc a
  len := by rintro _ _ _ rfl; rfl
  one := by rintro _ _ _ rfl u hu; simp at hu; rcases hu with rfl | rfl | rfl <;> rfl
  st := by rintro _ _ _ _ h _; exact h
/-- Entries: eight cells. -/
abbrev entc (x : Ent) (vf ve : Value) : List Value := [.int .i64 x.kind, .int .i64 x.br, .int .u64 (x.life : Int), .int .u64 (x.ser : Int), .int .i64 x.cl, .int .u64 (x.sub : Int), vf, ve]
abbrev entA (x : Ent) (vf ve : Value) : Array Value := #[.int .i64 x.kind, .int .i64 x.br, .int .u64 (x.life : Int), .int .u64 (x.ser : Int), .int .i64 x.cl, .int .u64 (x.sub : Int), vf, ve]
theorem flt_slice {l : List Tst} {v : Value} {w : World} (h : flt l v w) : ∃ A c, v = .slice A l.length c := by
  obtain ⟨A, c, rfl, _⟩ := h
  exact ⟨A, c, rfl⟩
theorem evt_slice {l : List Att} {v : Value} {w : World} (h : evt l v w) : ∃ A c, v = .slice A l.length c := by
  obtain ⟨A, c, rfl, _⟩ := h
  exact ⟨A, c, rfl⟩
theorem lst_slice {α : Type} {S : Shp α} {l : List α} {v : Value} {w : World} (h : lst S l v w) : ∃ A c, v = .slice A l.length c := by
  obtain ⟨A, c, rfl, _⟩ := h
  exact ⟨A, c, rfl⟩
def enS : Shp Ent where
  size := 8
  rel x cs w := ∃ vf ve, cs = entc x vf ve ∧ flt x.f vf w ∧ lst evS x.es ve w
  len := by rintro _ _ _ ⟨vf, ve, rfl, _⟩; rfl
  one := by
    rintro x _ _ ⟨vf, ve, rfl, ⟨A, c, rfl, _⟩, ⟨D, d, rfl, _⟩⟩ u hu
    simp at hu
    rcases hu with rfl | rfl | rfl | rfl | rfl | rfl | rfl | rfl <;> rfl
  st := by rintro _ _ _ _ ⟨vf, ve, rfl, h1, h2⟩ k; exact ⟨vf, ve, rfl, flt_st _ _ _ _ h1 k, lst_st h2 k⟩
/-- A value that reads as an entry. -/
def ent (x : Ent) (v : Value) (w : World) : Prop := ∃ vf ve, v = .agg (entA x vf ve) ∧ flt x.f vf w ∧ lst evS x.es ve w
theorem ent_st {x : Ent} {v : Value} {w w' : World} (h : ent x v w) (k : K w w') : ent x v w' := by
  obtain ⟨vf, ve, rfl, h1, h2⟩ := h
  exact ⟨vf, ve, rfl, flt_st _ _ _ _ h1 k, lst_st h2 k⟩
theorem ent_al {x : Ent} {v : Value} {w : World} (h : ent x v w) : ∀ W, K w W → ent x v W := fun _ k => ent_st h k
theorem ent_zero (w : World) : ent ent0 (.agg #[.int .i64 0, .int .i64 0, .int .u64 0, .int .u64 0, .int .i64 0, .int .u64 0, .slice none 0 0, .slice none 0 0]) w :=
  ⟨_, _, rfl, ⟨none, 0, rfl, Reads.nil _ _ _ _⟩, lst_nil _ _⟩
/-- Records: thirteen cells. -/
abbrev recA (x : Rec) (vf ve : Value) : Array Value := #[.int .i64 x.kind, .int .u64 (x.n : Int), .int .i64 x.e.kind, .int .i64 x.e.br, .int .u64 (x.e.life : Int), .int .u64 (x.e.ser : Int), .int .i64 x.e.cl, .int .u64 (x.e.sub : Int), vf, ve, .int .i64 x.br, .int .u64 (x.life : Int), .int .u64 (x.ser : Int)]
def rcd (x : Rec) (v : Value) (w : World) : Prop := ∃ vf ve, v = .agg (recA x vf ve) ∧ flt x.e.f vf w ∧ lst evS x.e.es ve w
theorem rcd_st {x : Rec} {v : Value} {w w' : World} (h : rcd x v w) (k : K w w') : rcd x v w' := by
  obtain ⟨vf, ve, rfl, h1, h2⟩ := h
  exact ⟨vf, ve, rfl, flt_st _ _ _ _ h1 k, lst_st h2 k⟩
theorem rcd_al {x : Rec} {v : Value} {w : World} (h : rcd x v w) : ∀ W, K w W → rcd x v W := fun _ k => rcd_st h k
def recS : Shp Rec where
  size := 13
  rel x cs w := ∃ vf ve, cs = (recA x vf ve).toList ∧ flt x.e.f vf w ∧ lst evS x.e.es ve w
  len := by rintro _ _ _ ⟨vf, ve, rfl, _⟩; rfl
  one := by
    rintro x _ _ ⟨vf, ve, rfl, ⟨A, c, rfl, _⟩, ⟨D, d, rfl, _⟩⟩ u hu
    simp at hu
    rcases hu with rfl | rfl | rfl | rfl | rfl | rfl | rfl | rfl | rfl | rfl | rfl | rfl | rfl <;> rfl
  st := by rintro _ _ _ _ ⟨vf, ve, rfl, h1, h2⟩ k; exact ⟨vf, ve, rfl, flt_st _ _ _ _ h1 k, lst_st h2 k⟩

section
variable {H : Type} {enc : TypeId × Value → H} {w : World} {base : Nat} {r : Reach} {b0 : Nat} {spare : Nat → Bool} {held : Bool} {v : Value} {d : DataW H} {p : List MemPlace} {α : Type}
/-- The one cell of a slice, and those of its elements. -/
theorem reads_of_cells {T E : TypeId} (hT : Try.prog.underlying T = some (.slice E)) (C : Nat) (hC : Try.prog.cellsOf E = C) (Rep : List Value → Prop)
    (hE : ∀ (fuel : Nat) (cs : List Value) (x : DataW H × List MemPlace), cs.length = C → DataW.trod enc Try.prog w base spare held fuel E cs = some x → Rep cs)
    {fuel : Nat} {cs : List Value} {x : DataW H × List MemPlace} (hf : DataW.trod enc Try.prog w base spare held fuel T cs = some x) :
    ∃ (A : Option Addr) (n c : Nat) (css : List (List Value)), cs = [.slice A n c] ∧ css.length = n ∧ n ≤ c ∧ c ≤ maxLen ∧ (∀ cs ∈ css, cs.length = C ∧ Rep cs) ∧ (0 < C → Reads w w.heap.size C A n css.flatten) := by
  rcases Go.Deep.open_slice hT hf with ⟨hcs, _⟩ | ⟨a, len, cap, m, n, D, Pl, hcs, hb, hl, hm, hmm, hx, hi⟩
  · exact ⟨none, 0, 0, [], hcs, rfl, by simp, by simp, by simp, fun _ => Reads.nil _ _ _ _⟩
  · have hlm : len ≤ m := by rw [hmm]; split <;> omega
    have hex : ∀ i, i < len → ∃ cs, cs.length = C ∧ Rep cs ∧ ∀ j, j < C → w.cell? (a.add (i * C + j)) = cs[j]? := by
      intro i hil
      obtain ⟨cs', hc, ht⟩ := hi i (by omega)
      rw [hC] at hc
      obtain ⟨_, hcl, hat⟩ := World.cells?_some hc
      refine ⟨cs', hcl, hE _ _ _ hcl ht, fun j hj => ?_⟩
      rw [← Go.Deep.add_add]
      exact hat j hj
    have key : ∀ k, k ≤ len → ∃ css : List (List Value), css.length = k ∧ (∀ cs ∈ css, cs.length = C ∧ Rep cs) ∧ ∀ i j, i < k → j < C → w.cell? (a.add (i * C + j)) = (css[i]?.getD [])[j]? := by
      intro k
      induction k with
      | zero => intro _; exact ⟨[], rfl, by simp, by simp⟩
      | succ k ih =>
        intro hk
        obtain ⟨css, h1, h2, h3⟩ := ih (by omega)
        obtain ⟨cs, h4, h5, h6⟩ := hex k (by omega)
        refine ⟨css ++ [cs], by simp [h1], ?_, fun i j hik hj => ?_⟩
        · intro x hx
          rcases List.mem_append.1 hx with hx | hx
          · exact h2 x hx
          · simp at hx; subst hx; exact ⟨h4, h5⟩
        · by_cases hik' : i < k
          · rw [h3 i j hik' hj, List.getElem?_append_left (by omega)]
          · obtain rfl : i = k := by omega
            rw [h6 j hj, List.getElem?_append_right (by omega), h1]
            simp
    obtain ⟨css, h1, h2, h3⟩ := key len (Nat.le_refl _)
    refine ⟨some a, len, cap, css, hcs, h1, hl, hm, h2, fun hC0 => ?_⟩
    have hfl : css.flatten.length = len * C := by rw [← h1]; exact flatten_len C css fun cs hcs => (h2 cs hcs).1
    have hfg : ∀ i j, i < len → j < C → css.flatten[i * C + j]? = (css[i]?.getD [])[j]? := fun i j hi' hj => flatten_at C css (fun cs hcs => (h2 cs hcs).1) i j (by omega) hj
    refine ⟨hfl, fun h0 => ?_⟩
    rw [hfl] at h0
    have hl0 : 0 < len := Nat.pos_of_mul_pos_right h0
    have hcell : ∀ q, q < len * C → w.cell? (a.add q) = css.flatten[q]? := by
      intro q hq
      have e : q = q / C * C + q % C := by rw [Nat.mul_comm]; exact (Nat.div_add_mod q C).symm
      have hq1 : q / C < len := Nat.div_lt_of_lt_mul (by rwa [Nat.mul_comm] at hq)
      have hq2 : q % C < C := Nat.mod_lt _ hC0
      rw [e, h3 _ _ hq1 hq2, hfg _ _ hq1 hq2]
    have h00 := hcell 0 h0
    have hsome : ∃ u, css.flatten[0]? = some u := ⟨css.flatten[0]'(by omega), List.getElem?_eq_getElem (by omega)⟩
    obtain ⟨u, hu⟩ := hsome
    rw [hu] at h00
    obtain ⟨b, off, spot⟩ := a
    have hs : spot = none := by simpa [Addr.add] using World.cell?_spot h00
    subst hs
    refine ⟨b, off, rfl, ?_, fun j u hju => ?_⟩
    · have := World.block_lt_of_cell? w _ h00
      simpa [Addr.add] using this
    · have hj : j < len * C := by
        have := (List.getElem?_eq_some_iff.1 hju).1
        omega
      have := hcell j hj
      rw [Addr.add_lit] at this
      rw [this, hju]
/-- A slice of elements that read as a shape. -/
theorem lst_cells {T E : TypeId} (hT : Try.prog.underlying T = some (.slice E)) (S : Shp α) (Ok : α → Prop) (hC : Try.prog.cellsOf E = S.size) (h0 : 0 < S.size)
    (hE : ∀ (fuel : Nat) (cs : List Value) (x : DataW H × List MemPlace), cs.length = S.size → DataW.trod enc Try.prog w base spare held fuel E cs = some x → ∃ y, S.rel y cs w ∧ Ok y)
    {fuel : Nat} {cs : List Value} {x : DataW H × List MemPlace} (hf : DataW.trod enc Try.prog w base spare held fuel T cs = some x) : ∃ v l, cs = [v] ∧ lst S l v w ∧ ∀ y ∈ l, Ok y := by
  obtain ⟨A, n, c, css, rfl, h1, h2, _, h4, h5⟩ := reads_of_cells hT S.size hC (fun cs => ∃ y, S.rel y cs w ∧ Ok y) hE hf
  have key : ∀ css : List (List Value), (∀ cs ∈ css, ∃ y, S.rel y cs w ∧ Ok y) → ∃ l, Each S l css w ∧ ∀ y ∈ l, Ok y := by
    intro css
    induction css with
    | nil => intro _; exact ⟨[], Each.nil _ _, by simp⟩
    | cons cs css ih =>
      intro h
      obtain ⟨y, hy, ho⟩ := h cs (by simp)
      obtain ⟨l, hl, hol⟩ := ih fun c hc => h c (by simp [hc])
      refine ⟨[y] ++ l, (Each.one hy).append hl, ?_⟩
      intro z hz
      simp at hz
      rcases hz with rfl | hz
      · exact ho
      · exact hol z hz
  obtain ⟨l, hl, hol⟩ := key css fun cs hcs => (h4 cs hcs).2
  have hn : l.length = n := by rw [← h1]; exact hl.1.symm
  subst hn
  exact ⟨_, l, rfl, ⟨A, c, rfl, ⟨css, hl, h5 h0⟩, h2⟩, hol⟩
theorem ev_cells {fuel : Nat} {cs : List Value} {x : DataW H × List MemPlace} (hf : DataW.trod enc Try.prog w base spare held fuel 124 cs = some x) : ∃ l, evS.rel l cs w ∧ ∀ a ∈ l, fitA a := by
  obtain ⟨A, n, c, css, rfl, h1, h2, h3, h4, h5⟩ := reads_of_cells Try.underlying124 4 (by kernel_rfl) (fun cs => ∃ y : Att, cs = attc y ∧ i64ok y.2.1 ∧ i64ok y.2.2.1) (fun _ _ _ _ ht => att_cells ht) hf
  obtain ⟨l, h6, h7, h8⟩ := list_of_cells attc (fun y : Att => i64ok y.2.1 ∧ i64ok y.2.2.1) css fun cs hcs => (h4 cs hcs).2
  have h9 := h5 (by decide)
  subst h1
  rw [← h6] at h9 ⊢
  refine ⟨l, ⟨_, rfl, A, c, rfl, ?_⟩, h8⟩
  rw [h7] at h9
  rwa [List.flatMap_def]
theorem fl_cells {fuel : Nat} {cs : List Value} {x : DataW H × List MemPlace} (hf : DataW.trod enc Try.prog w base spare held fuel 55 cs = some x) : ∃ v l, cs = [v] ∧ flt l v w ∧ ∀ a ∈ l, fitT a := by
  obtain ⟨A, n, c, css, rfl, h1, h2, h3, h4, h5⟩ := reads_of_cells Try.underlying55 5 (by kernel_rfl) (fun cs => ∃ y : Tst, cs = tstc y ∧ fitT y) (fun _ _ _ _ ht => tst_cells ht) hf
  obtain ⟨l, h6, h7, h8⟩ := list_of_cells tstc fitT css fun cs hcs => (h4 cs hcs).2
  have h9 := h5 (by decide)
  subst h1
  rw [← h6] at h9 ⊢
  refine ⟨_, l, rfl, ⟨A, c, rfl, ?_⟩, h8⟩
  rw [h7] at h9
  rwa [List.flatMap_def]
theorem i64_cells {fuel : Nat} {cs : List Value} {x : DataW H × List MemPlace} (hf : DataW.trod enc Try.prog w base spare held fuel 3 cs = some x) : ∃ n, cs = [.int .i64 n] ∧ i64ok n := by
  obtain ⟨a, ea, _, wa⟩ := DataW.trod_int Try.underlying3 hf
  have := bounds_i64 wa
  exact ⟨a, ea, by show i64ok a; unfold i64ok; omega⟩
theorem u64_cells {fuel : Nat} {cs : List Value} {x : DataW H × List MemPlace} (hf : DataW.trod enc Try.prog w base spare held fuel 23 cs = some x) : ∃ n : Nat, cs = [.int .u64 (n : Int)] ∧ n < 18446744073709551616 := by
  obtain ⟨a, ea, _, wa⟩ := DataW.trod_int Try.underlying23 hf
  have := bounds_u64 wa
  exact ⟨a.toNat, by rw [ea, Int.toNat_of_nonneg this.1], by omega⟩
theorem bool_cells {fuel : Nat} {cs : List Value} {x : DataW H × List MemPlace} (hf : DataW.trod enc Try.prog w base spare held fuel 4 cs = some x) : ∃ b, cs = [.bool b] := by
  obtain ⟨a, ea, _⟩ := DataW.trod_bool Try.underlying4 hf
  exact ⟨a, ea⟩
theorem id_cells {fuel : Nat} {cs : List Value} {x : DataW H × List MemPlace} (h : DataW.trod enc Try.prog w base spare held fuel 53 cs = some x) : ∃ y : Idn, cs = idc y ∧ fitI y := by
  obtain ⟨xs, n, _, _, hlen, hxl, hf⟩ := DataW.trod_struct Try.underlying53 h
  have hC : Try.prog.cellsOf 53 = 3 := by kernel_rfl
  rw [hC] at hlen
  have e1 : Try.prog.cellsOf 3 = 1 := by kernel_rfl
  have e2 : Try.prog.cellsOf 23 = 1 := by kernel_rfl
  have hxl' : xs.length = 3 := hxl
  match cs, hlen with
  | [c0, c1, c2], _ =>
    have h0 := hf 0 _ rfl
    have h1 := hf 1 _ rfl
    have h2 := hf 2 _ rfl
    simp [e1, e2] at h0 h1 h2
    rw [List.getElem?_eq_getElem (by omega)] at h0 h1 h2
    obtain ⟨a, ea, wa⟩ := i64_cells h0
    obtain ⟨b, eb, wb⟩ := u64_cells h1
    obtain ⟨c, ec, wc⟩ := u64_cells h2
    simp at ea eb ec
    subst ea eb ec
    exact ⟨(a, b, c), rfl, wa, wb, wc⟩
theorem en_cells {fuel : Nat} {cs : List Value} {x : DataW H × List MemPlace} (h : DataW.trod enc Try.prog w base spare held fuel 58 cs = some x) : ∃ y : Ent, enS.rel y cs w ∧ fitEn y := by
  obtain ⟨xs, n, _, _, hlen, hxl, hf⟩ := DataW.trod_struct Try.underlying58 h
  have hC : Try.prog.cellsOf 58 = 8 := by kernel_rfl
  rw [hC] at hlen
  have e1 : Try.prog.cellsOf 3 = 1 := by kernel_rfl
  have e2 : Try.prog.cellsOf 23 = 1 := by kernel_rfl
  have e3 : Try.prog.cellsOf 53 = 3 := by kernel_rfl
  have e4 : Try.prog.cellsOf 55 = 1 := by kernel_rfl
  have e5 : Try.prog.cellsOf 56 = 1 := by kernel_rfl
  have hxl' : xs.length = 6 := hxl
  match cs, hlen with
  | [c0, c1, c2, c3, c4, c5, c6, c7], _ =>
    have h0 := hf 0 _ rfl
    have h1 := hf 1 _ rfl
    have h2 := hf 2 _ rfl
    have h3 := hf 3 _ rfl
    have h4 := hf 4 _ rfl
    have h5 := hf 5 _ rfl
    simp [e1, e2, e3, e4, e5] at h0 h1 h2 h3 h4 h5
    rw [List.getElem?_eq_getElem (by omega)] at h0 h1 h2 h3 h4 h5
    obtain ⟨k, ek, wk⟩ := i64_cells h0
    obtain ⟨i, ei, wi⟩ := id_cells h1
    obtain ⟨c, ec, wc⟩ := i64_cells h2
    obtain ⟨s, es, ws⟩ := u64_cells h3
    obtain ⟨vf, f, ef, hfl, wf⟩ := fl_cells h4
    obtain ⟨ve, l, el, hl, wl⟩ := lst_cells Try.underlying56 evS (fun l => ∀ a ∈ l, fitA a) (by kernel_rfl) (by decide) (fun _ _ _ _ ht => ev_cells ht) h5
    obtain ⟨i0, i1, i2⟩ := i
    simp at ek ei ec es ef el
    obtain ⟨rfl, rfl, rfl⟩ := ei
    subst ek ec es ef el
    exact ⟨⟨k, i0, i1, i2, c, s, f, l⟩, ⟨c6, c7, rfl, hfl, hl⟩, wk, wi.1, wc, wi.2.1, wi.2.2, ws, wf, wl⟩
theorem rec_cells {fuel : Nat} {cs : List Value} {x : DataW H × List MemPlace} (h : DataW.trod enc Try.prog w base spare held fuel 60 cs = some x) : ∃ y : Rec, recS.rel y cs w ∧ fitRec y := by
  obtain ⟨xs, n, _, _, hlen, hxl, hf⟩ := DataW.trod_struct Try.underlying60 h
  have hC : Try.prog.cellsOf 60 = 13 := by kernel_rfl
  rw [hC] at hlen
  have e1 : Try.prog.cellsOf 3 = 1 := by kernel_rfl
  have e2 : Try.prog.cellsOf 23 = 1 := by kernel_rfl
  have e3 : Try.prog.cellsOf 53 = 3 := by kernel_rfl
  have e4 : Try.prog.cellsOf 58 = 8 := by kernel_rfl
  have hxl' : xs.length = 4 := hxl
  match cs, hlen with
  | [c0, c1, c2, c3, c4, c5, c6, c7, c8, c9, c10, c11, c12], _ =>
    have h0 := hf 0 _ rfl
    have h1 := hf 1 _ rfl
    have h2 := hf 2 _ rfl
    have h3 := hf 3 _ rfl
    simp [e1, e2, e3, e4] at h0 h1 h2 h3
    rw [List.getElem?_eq_getElem (by omega)] at h0 h1 h2 h3
    obtain ⟨k, ek, wk⟩ := i64_cells h0
    obtain ⟨m, em, wm⟩ := u64_cells h1
    obtain ⟨y, ⟨vf, ve, ey, hfl, hl⟩, wy⟩ := en_cells h2
    obtain ⟨i, ei, wi⟩ := id_cells h3
    obtain ⟨i0, i1, i2⟩ := i
    simp at ek em ey ei
    obtain ⟨rfl, rfl, rfl, rfl, rfl, rfl, rfl, rfl⟩ := ey
    obtain ⟨rfl, rfl, rfl⟩ := ei
    subst ek em
    exact ⟨⟨k, m, y, i0, i1, i2⟩, ⟨c8, c9, rfl, hfl, hl⟩, wk, wm, wy, wi.1, wi.2.1, wi.2.2⟩
/-- Arguments. -/
def repEntry (w : World) (v : Value) : Prop := ∃ x, ent x v w ∧ fitEn x
def repRecord (w : World) (v : Value) : Prop := ∃ x, rcd x v w ∧ fitRec x
def repID (_ : World) (v : Value) : Prop := ∃ a : Idn, v = idv a ∧ fitI a
theorem repEntry_of (hv : Value.okWide Try.prog w r b0 58 v) (h : DataW.Trod enc Try.prog w base spare held 58 v d p) : repEntry w v := by
  obtain ⟨cs, rfl, hsz⟩ := okWide_struct Try.underlying58 hv
  obtain ⟨fuel, hf⟩ := h
  obtain ⟨y, ⟨vf, ve, h1, h2, h3⟩, h4⟩ := en_cells hf
  refine ⟨y, ⟨vf, ve, ?_, h2, h3⟩, h4⟩
  have : cs.toList = entc y vf ve := by simpa [Value.cells] using h1
  obtain ⟨l⟩ := cs
  simp at this
  rw [this]
theorem repRecord_of (hv : Value.okWide Try.prog w r b0 60 v) (h : DataW.Trod enc Try.prog w base spare held 60 v d p) : repRecord w v := by
  obtain ⟨cs, rfl, hsz⟩ := okWide_struct Try.underlying60 hv
  obtain ⟨fuel, hf⟩ := h
  obtain ⟨y, ⟨vf, ve, h1, h2, h3⟩, h4⟩ := rec_cells hf
  refine ⟨y, ⟨vf, ve, ?_, h2, h3⟩, h4⟩
  have : cs.toList = (recA y vf ve).toList := by simpa [Value.cells] using h1
  obtain ⟨l⟩ := cs
  simp at this
  rw [this]
theorem repID_of (hv : Value.okWide Try.prog w r b0 53 v) (h : DataW.Trod enc Try.prog w base spare held 53 v d p) : repID w v := by
  obtain ⟨cs, rfl, hsz⟩ := okWide_struct Try.underlying53 hv
  obtain ⟨fuel, hf⟩ := h
  obtain ⟨y, h1, h4⟩ := id_cells hf
  refine ⟨y, ?_, h4⟩
  have : cs.toList = idc y := by simpa [Value.cells] using h1
  obtain ⟨l⟩ := cs
  simp at this
  rw [this]
end
end Go.Proofs.Ythnhdeieimgfhaa

/-
  What is decoded fits: entries and records in plain Lean. Conditions: none.
-/
namespace Go.Proofs.Ythnhdeieimgfhaa
open Go Go.RowKit

theorem rdEv_fit (n : Int) (l : List UInt8) (wr : Bool) : ∀ a ∈ (rdEv n l wr).1, fitA a := by
  simp only [rdEv]
  cases hd : decE (rdB n l wr).1 with
  | none => simp
  | some e => exact (decE_back hd).2.2
theorem rdFi_fit (n : Int) (l : List UInt8) (wr : Bool) : ∀ a ∈ (rdFi n l wr).1, fitT a := by
  simp only [rdFi]
  cases hd : decF8 (rdB n l wr).1 with
  | none => simp
  | some e => exact (decF_back hd).2.2
theorem rd6_lt (l : List UInt8) (wr : Bool) : (rd6 l wr).1.2.2.1 < 18446744073709551616 ∧ (rd6 l wr).1.2.2.2.1 < 18446744073709551616 ∧ (rd6 l wr).1.2.2.2.2.2 < 18446744073709551616 :=
  ⟨rdN_lt _ _, rdN_lt _ _, rdN_lt _ _⟩
theorem hdEn_fit (a : Nat × Nat × Nat × Nat × Nat × Nat) (f : List Tst) (es : List (List Att)) (h1 : a.2.2.1 < 18446744073709551616) (h2 : a.2.2.2.1 < 18446744073709551616) (h3 : a.2.2.2.2.2 < 18446744073709551616) (hf : ∀ t ∈ f, fitT t) (he : ∀ e ∈ es, ∀ a ∈ e, fitA a) :
    fitEn { hdEn a with f := f, es := es } := by
  refine ⟨?_, ?_, ?_, h1, h2, h3, hf, he⟩
  · simp only [hdEn, i64ok]; omega
  · simp only [hdEn, i64ok]; omega
  · simp only [hdEn, i64ok]; omega
theorem rdEn_fit (n : Int) (l : List UInt8) (wr : Bool) : fitEn (rdEn n l wr).1 := by
  obtain ⟨h1, h2, h3⟩ := rd6_lt l wr
  unfold rdEn
  split
  · exact hdEn_fit _ [] _ h1 h2 h3 (by simp) (rdL_all (fun e => ∀ a ∈ e, fitA a) (rdEv_fit n) _ _ _)
  · split
    · exact hdEn_fit _ _ [] h1 h2 h3 (rdFi_fit n _ _) (by simp)
    · exact hdEn_fit _ [] [] h1 h2 h3 (by simp) (by simp)
theorem decEn_fit {b : List UInt8} {x : Ent} (h : decEn b = some x) : fitEn x := by
  unfold decEn at h
  split at h
  · injection h with h
    rw [← h]
    exact rdEn_fit _ _ _
  · cases h
theorem ent0_fit : fitEn ent0 := by simp [fitEn, ent0, i64ok]
theorem rdRec_fit (n : Int) (l : List UInt8) (wr : Bool) : fitRec (rdRec n l wr).1 := by
  have h0 : ∀ (k m : Nat) (e : Ent) (b c d : Nat), fitEn e → m < 18446744073709551616 → c < 18446744073709551616 → d < 18446744073709551616 → fitRec ⟨(min k 6 : Nat), m, e, (min b 16 : Nat), c, d⟩ := by
    intro k m e b c d he hm hc hd
    refine ⟨?_, hm, he, ?_, hc, hd⟩
    · simp only [i64ok]; omega
    · simp only [i64ok]; omega
  unfold rdRec
  simp only
  split
  · split
    · simp [fitRec, rec0, i64ok, ent0_fit]
    · rename_i e he
      have := h0 (rdN l wr).1 _ _ 0 0 0 (decEn_fit he) (rdN_lt (rdN l wr).2.1 (rdN l wr).2.2) (by omega) (by omega)
      simpa using this
  · split
    · exact h0 _ _ _ _ _ _ ent0_fit (rdN_lt _ _) (rdN_lt _ _) (rdN_lt _ _)
    · have := h0 (rdN l wr).1 _ _ 0 0 0 ent0_fit (rdN_lt (rdN l wr).2.1 (rdN l wr).2.2) (by omega) (by omega)
      simpa using this
theorem decRec_fit {b : List UInt8} {x : Rec} (h : decRec b = some x) : fitRec x := by
  unfold decRec at h
  split at h
  · injection h with h
    rw [← h]
    exact rdRec_fit _ _ _
  · cases h
/-- With a byte more behind them bytes are none. -/
theorem decEn_more (x : Ent) (h : okEn x = true) (hf : fitEn x) (by_ : UInt8) : decEn (encEn x ++ [by_]) = none := by
  cases hd : decEn (encEn x ++ [by_]) with
  | none => rfl
  | some y =>
    exfalso
    obtain ⟨e1, oy⟩ := decEn_back hd
    have fy := decEn_fit hd
    have hl : (encEn x).length + 1 = (encEn y).length := by rw [← e1]; simp
    have h1 := rdEn_fwd 30000 x h hf (fun e he => by
      obtain ⟨_, _, hk⟩ := okEn_parts h
      rcases hk with ⟨_, _, _, _, hall⟩ | ⟨_, _, hn⟩ | ⟨_, hn, _⟩
      · have := encE_len (hall e he) (hf.2.2.2.2.2.2.2 e he); omega
      · rw [hn] at he; cases he
      · rw [hn] at he; cases he) (by
      obtain ⟨_, _, hk⟩ := okEn_parts h
      rcases hk with ⟨_, _, hn, _⟩ | ⟨_, hn, _⟩ | ⟨_, _, hok⟩
      · rw [hn]; have : (encF []).length = 1 := by simp [encF, packN, longN, be]
        omega
      · rw [hn]; have : (encF []).length = 1 := by simp [encF, packN, longN, be]
        omega
      · have := encF_most hok hf.2.2.2.2.2.2.1; omega) (by
      obtain ⟨_, _, hk⟩ := okEn_parts h
      rcases hk with ⟨_, _, hn, _⟩ | ⟨_, hn, _⟩ | ⟨_, _, hok⟩
      · rw [hn]; have : (encF []).length = 1 := by simp [encF, packN, longN, be]
        omega
      · rw [hn]; have : (encF []).length = 1 := by simp [encF, packN, longN, be]
        omega
      · have := encF_most hok hf.2.2.2.2.2.2.1; omega) [by_]
    have h2 := rdEn_fwd 30000 y oy fy (fun e he => by
      obtain ⟨_, _, hk⟩ := okEn_parts oy
      rcases hk with ⟨_, _, _, _, hall⟩ | ⟨_, _, hn⟩ | ⟨_, hn, _⟩
      · have := encE_len (hall e he) (fy.2.2.2.2.2.2.2 e he); omega
      · rw [hn] at he; cases he
      · rw [hn] at he; cases he) (by
      obtain ⟨_, _, hk⟩ := okEn_parts oy
      rcases hk with ⟨_, _, hn, _⟩ | ⟨_, hn, _⟩ | ⟨_, _, hok⟩
      · rw [hn]; have : (encF []).length = 1 := by simp [encF, packN, longN, be]
        omega
      · rw [hn]; have : (encF []).length = 1 := by simp [encF, packN, longN, be]
        omega
      · have := encF_most hok fy.2.2.2.2.2.2.1; omega) (by
      obtain ⟨_, _, hk⟩ := okEn_parts oy
      rcases hk with ⟨_, _, hn, _⟩ | ⟨_, hn, _⟩ | ⟨_, _, hok⟩
      · rw [hn]; have : (encF []).length = 1 := by simp [encF, packN, longN, be]
        omega
      · rw [hn]; have : (encF []).length = 1 := by simp [encF, packN, longN, be]
        omega
      · have := encF_most hok fy.2.2.2.2.2.2.1; omega) []
    rw [List.append_nil, ← e1, h1] at h2
    simp at h2
theorem decRec_more (x : Rec) (h : okRec x = true) (hf : fitRec x) (by_ : UInt8) : decRec (encRec x ++ [by_]) = none := by
  cases hd : decRec (encRec x ++ [by_]) with
  | none => rfl
  | some y =>
    exfalso
    obtain ⟨e1, oy⟩ := decRec_back hd
    have fy := decRec_fit hd
    have hle : ∀ z : Rec, okRec z = true → fitRec z → ((encEn z.e).length : Int) ≤ 30000 ∧ (encEn z.e).length < 18446744073709551616 := by
      intro z hz fz
      rcases okRec_kind hz with ⟨_, he, _⟩ | ⟨_, he, _⟩ | ⟨_, _, _, he⟩
      · rw [he, encEn_0]; omega
      · have := encEn_len he fz.2.2.1; omega
      · rw [he, encEn_0]; omega
    have h1 := rdRec_fwd 30000 x h hf (hle x h hf).1 (hle x h hf).2 [by_]
    have h2 := rdRec_fwd 30000 y oy fy (hle y oy fy).1 (hle y oy fy).2 []
    rw [List.append_nil, ← e1, h1] at h2
    simp at h2
end Go.Proofs.Ythnhdeieimgfhaa

/-
  The walks of entry.home, empty, Check and may (layer 11). Conditions: none.
-/
set_option maxRecDepth 100000
namespace Go.Proofs.Ythnhdeieimgfhaa
open Go Go.RowKit

set_option maxHeartbeats 400000 in
theorem Home_calls (a : Idn) (w : World) :
    Calls Try.prog 84 #[idv a] w fun e w' => e = .returned (.bool (homeB a.1)) ∧ K w w' := by
  obtain ⟨b, l, s⟩ := a
  have hb : K w (w.alloc (.cells #[.int .i64 b, .int .u64 (l : Int), .int .u64 (s : Int)] 53)) := (K.rf w).al _
  go_enter Try.func84, Try.ntmps84
  go_wp2
  all_goals
    go_ret
    refine ⟨?_, hb⟩
    show Ending.returned (.bool _) = Ending.returned (.bool _)
    congr 2
    unfold homeB
    simp
    try omega

/-- Whether all of an entry is empty. -/
def emptyEn (x : Ent) : Bool := decide (x = ent0)
theorem emptyEn_iff (x : Ent) : emptyEn x = (decide (x.kind = 0) && (decide (x.br = 0) && decide (x.life = 0) && decide (x.ser = 0)) && decide (x.cl = 0) && decide (x.sub = 0) && x.f.isEmpty && x.es.isEmpty) := by
  obtain ⟨k, b, l, s, c, u, f, es⟩ := x
  simp only [emptyEn, ent0, Ent.mk.injEq]
  cases f <;> cases es <;> simp [Bool.and_assoc]
set_option maxHeartbeats 2000000 in
theorem Empty_calls (x : Ent) (v : Value) (w : World) (h : ent x v w) :
    Calls Try.prog 130 #[v] w fun e w' => e = .returned (.bool (emptyEn x)) ∧ K w w' := by
  obtain ⟨vf, ve, rfl, hf, he⟩ := h
  obtain ⟨A, c, rfl⟩ := flt_slice hf
  obtain ⟨D, d, rfl⟩ := lst_slice he
  clear hf he
  obtain ⟨k, b, l, s, cl, u, f, es⟩ := x
  simp only
  go_enter Try.func130, Try.ntmps130
  go_wp2
  all_goals
    go_ret
    refine ⟨?_, (K.rf w).al _⟩
    rw [emptyEn_iff]
    show Ending.returned (.bool _) = Ending.returned (.bool _)
    simp_all [len0']

theorem chkEn_bad {x : Ent} (h : okEn x = false) : chkEn x = 110 := by simp [chkEn, h]
theorem chkEn_good {x : Ent} (h : okEn x = true) : chkEn x = 0 := by simp [chkEn, h]
theorem chkE_eq (l : List Att) : (chkE l == 0) = okE l := by unfold chkE; cases okE l <;> rfl
theorem chkF_eq (l : List Tst) : (chkF l == 0) = okF l := by unfold chkF; cases okF l <;> rfl
theorem all_take_succ {α : Type} (p : α → Bool) (l : List α) (k : Nat) (h : k < l.length) : (l.take (k + 1)).all p = ((l.take k).all p && p l[k]) := by
  rw [List.take_succ_eq_append_getElem h, List.all_append]; simp
theorem all_take_bad {α : Type} (p : α → Bool) (l : List α) (k : Nat) (h : (l.take k).all p = false) : l.all p = false := by
  cases hl : l.all p with
  | false => rfl
  | true =>
    rw [List.all_eq_true] at hl
    rw [List.all_eq_false] at h
    obtain ⟨x, hx, hp⟩ := h
    exact absurd (hl x (List.mem_of_mem_take hx)) hp

set_option maxHeartbeats 4000000 in
theorem NCheck_calls (x : Ent) (v : Value) (w : World) (h : ent x v w) :
    Calls Try.prog 46 #[v] w fun e w' => e = .returned (.int .i64 (chkEn x)) ∧ K w w' := by
  obtain ⟨vf, ve, rfl, hf, he⟩ := h
  obtain ⟨A, c, rfl⟩ := flt_slice hf
  obtain ⟨D, d, e0, he, hd⟩ := he
  obtain rfl := e0
  obtain ⟨k, b, l, s, cl, u, f, es⟩ := x
  simp only at hf he hd ⊢
  have hx := Blk.new w 58 (entA ⟨k, b, l, s, cl, u, f, es⟩ (.slice A f.length c) (.slice D es.length d))
  have k1 : K w (w.alloc (.cells (entA ⟨k, b, l, s, cl, u, f, es⟩ (.slice A f.length c) (.slice D es.length d)) 58)) := (K.rf w).al _
  have hg : w.heap.size < (w.alloc (.cells (entA ⟨k, b, l, s, cl, u, f, es⟩ (.slice A f.length c) (.slice D es.length d)) 58)).heap.size := by simp
  generalize hchk : chkEn ⟨k, b, l, s, cl, u, f, es⟩ = E
  go_enter Try.func46, Try.ntmps46
  go_wp2_with fail
  generalize w.alloc _ = w1 at *
  generalize w.heap.size = g at hx hg ⊢
  have qx := hx.cells
  have hf1 := flt_st _ _ _ _ hf k1
  have he1 := lsr_st he k1
  clear hf he
  refine (Home_calls (b, l, s) w1).mono ?_
  rintro e w2 ⟨rfl, k2⟩
  have k02 := k1.tr k2
  cases hh : homeB b
  · have HE : Hid (E = 110) := Lib.hid (by rw [← hchk]; exact chkEn_bad (by simp [okEn, hh]))
    clear hchk
    go_wp2
    go_ret
    exact ⟨by rw [HE.out]; rfl, k02⟩
  by_cases hc0 : cl < 0
  · have HE : Hid (E = 110) := Lib.hid (by rw [← hchk]; exact chkEn_bad (by simp [okEn]; omega))
    clear hchk
    go_wp2
    go_ret
    exact ⟨by rw [HE.out]; rfl, k02⟩
  by_cases hc1 : 32 ≤ cl
  · have HE : Hid (E = 110) := Lib.hid (by rw [← hchk]; exact chkEn_bad (by simp [okEn]; omega))
    clear hchk
    go_wp2
    go_ret
    exact ⟨by rw [HE.out]; rfl, k02⟩
  by_cases hk1 : k = 1
  · subst hk1
    have HE : Hid (E = if (decide (u = 0) && f.isEmpty && decide (es.length ≤ 8) && es.all okE) = true then 0 else 110) := Lib.hid (by
      rw [← hchk]; simp [chkEn, okEn, hh, show 0 ≤ cl by omega, show cl < 32 by omega])
    clear hchk
    go_upto_region 8 with (fail)
    go_cut [3] from 27 to 41 (fun v wc => v = .bool (decide (u = 0) && f.isEmpty && decide (es.length ≤ 8)) ∧ wc = w2)
    case first =>
      have e1 : ((u : Int) == 0) = decide (u = 0) := by
        by_cases h : u = 0
        · subst h; rfl
        · simp [h]
      have e2 := len0' f
      by_cases hu : u = 0
      rotate_left
      · have hu' : ((u : Int) == 0) = false := by simpa using hu
        go_wp2
        go_meet
        case rel => simp [hu]
      subst hu
      by_cases hfe : f = []
      rotate_left
      · have hu' : ((f.length : Int) == 0) = false := by rw [len0']; simpa using hfe
        go_wp2
        go_meet
        case rel => simp [hfe]
      subst hfe
      by_cases h8 : es.length ≤ 8
      · have h8' : (es.length : Int) ≤ 8 := by omega
        go_wp2
        go_meet
        case rel => simp [h8]
      · have h8' : ¬ (es.length : Int) ≤ 8 := by omega
        go_wp2
        go_meet
        case rel => simp [h8]
    case rest =>
    obtain ⟨rfl, rfl⟩ := hcut
    have h8 : Hid ((decide (u = 0) && f.isEmpty && decide (es.length ≤ 8)) = true → es.length ≤ 8) := Lib.hid (by simp)
    generalize (decide (u = 0) && f.isEmpty && decide (es.length ≤ 8)) = m0 at *
    go_wp2_with fail
    go_loopw [3, 4] (fun mv iv wr => ∃ (m : Bool) (j : Nat), mv = .bool m ∧ iv = .int .i64 (j : Int) ∧ j ≤ es.length ∧ Hid (m = (m0 && (es.take j).all okE)) ∧ K w1 wr) (fun _ i _ => es.length - (intOf i).toNat)
    case atStart => exact ⟨m0, 0, rfl, rfl, by omega, Lib.hid (by simp), k2⟩
    case round =>
      obtain ⟨m, j, rfl, rfl, hj, hm, kr⟩ := hrel
      cases m
      · have HB : Hid (E = 110) := Lib.hid (by
          rw [HE.out, if_neg]
          have hm := hm.out
          cases m0
          · simp
          · simp only [Bool.true_and] at hm
            have := all_take_bad okE es j hm.symm
            rw [this]; simp)
        go_wp2
        go_ret
        exact ⟨by rw [HB.out]; rfl, k1.tr kr⟩
      have h88 : es.length ≤ 8 := h8.out (by have := hm.out.symm; simp only [Bool.and_eq_true] at this; exact this.1)
      by_cases hlt : j < es.length
      · have hji : (j : Int) < (es.length : Int) := by omega
        obtain ⟨b1, off, cs, rfl, hb1, hcl, ⟨ve, rfl, hev⟩, hcell⟩ := lsr_at he1 j hlt (by decide)
        have d0 : wr.cell? ⟨b1, off + j, none⟩ = some ve := by
          have := hcell 0 (by decide)
          rw [kr.cell (by simpa using hb1)]
          simpa [evS] using this
        have hevr := evt_st _ _ _ _ hev kr
        go_wp2_with fail
        refine (ECheck_evt hevr).mono ?_
        rintro e w3 ⟨rfl, k3⟩
        have e3 := chkE_eq es[j]
        go_wp2
        go_roundw
        case rel => exact ⟨okE es[j], j + 1, rfl, by go_num, by omega, Lib.hid (by rw [all_take_succ okE es j hlt, ← Bool.and_assoc, ← hm.out]; rfl), kr.tr k3⟩
        case measure => simp [intOf]; omega
      · have hji : ¬ (j : Int) < (es.length : Int) := by omega
        have HB : Hid (E = 0) := Lib.hid (by
          have hm := hm.out
          rw [List.take_of_length_le (by omega)] at hm
          rw [HE.out, if_pos hm.symm])
        go_wp2
        go_ret
        exact ⟨by rw [HB.out]; rfl, k1.tr kr⟩
  by_cases hk3 : k = 3
  · subst hk3
    have HE : Hid (E = if (f.isEmpty && es.isEmpty) = true then 0 else 110) := Lib.hid (by
      rw [← hchk]; simp [chkEn, okEn, hh, show 0 ≤ cl by omega, show cl < 32 by omega])
    clear hchk
    cases hfe : f.isEmpty
    · have e2 : ((f.length : Int) == 0) = false := by rw [len0', hfe]
      have HB : Hid (E = 110) := Lib.hid (by rw [HE.out, hfe]; rfl)
      go_wp2
      go_ret
      exact ⟨by rw [HB.out]; rfl, k02⟩
    obtain rfl : f = [] := by simpa using hfe
    cases hee : es.isEmpty
    · have e3 : ((es.length : Int) == 0) = false := by rw [len0', hee]
      have HB : Hid (E = 110) := Lib.hid (by rw [HE.out, hee]; rfl)
      go_wp2
      go_ret
      exact ⟨by rw [HB.out]; rfl, k02⟩
    obtain rfl : es = [] := by simpa using hee
    have HB : Hid (E = 0) := Lib.hid (by rw [HE.out]; rfl)
    clear hee hfe
    go_wp2_with fail
    refine (FCheck_flt (flt_st _ _ _ _ hf1 k2)).mono ?_
    rintro e w3 ⟨rfl, k3⟩
    rw [show chkF [] = 0 from rfl]
    go_wp2
    go_ret
    exact ⟨by rw [HB.out]; rfl, k02.tr k3⟩
  by_cases hk2 : k = 2
  · subst hk2
    have HE : Hid (E = if (es.isEmpty && okF f) = true then 0 else 110) := Lib.hid (by
      rw [← hchk]; simp [chkEn, okEn, hh, show 0 ≤ cl by omega, show cl < 32 by omega])
    clear hchk
    cases hee : es.isEmpty
    · have e3 : ((es.length : Int) == 0) = false := by rw [len0', hee]
      have HB : Hid (E = 110) := Lib.hid (by rw [HE.out, hee]; rfl)
      go_wp2
      go_ret
      exact ⟨by rw [HB.out]; rfl, k02⟩
    obtain rfl : es = [] := by simpa using hee
    clear hee
    go_wp2_with fail
    refine (FCheck_flt (flt_st _ _ _ _ hf1 k2)).mono ?_
    rintro e w3 ⟨rfl, k3⟩
    have e3 := chkF_eq f
    cases hok : okF f
    · have HB : Hid (E = 110) := Lib.hid (by rw [HE.out, hok]; rfl)
      rw [hok] at e3
      clear HE
      go_wp2
      go_ret
      exact ⟨by rw [HB.out]; rfl, k02.tr k3⟩
    · have HB : Hid (E = 0) := Lib.hid (by rw [HE.out, hok]; rfl)
      rw [hok] at e3
      clear HE
      go_wp2
      go_ret
      exact ⟨by rw [HB.out]; rfl, k02.tr k3⟩
  have HE : Hid (E = 110) := Lib.hid (by
    rw [← hchk]; exact chkEn_bad (by simp [okEn, hk1, hk2, hk3]))
  clear hchk
  have g1 : (k == 1) = false := by simpa using hk1
  have g2 : (k == 2) = false := by simpa using hk2
  have g3 : (k == 3) = false := by simpa using hk3
  clear hk1 hk2 hk3
  go_wp2
  go_ret
  exact ⟨by rw [HE.out]; rfl, k02⟩
end Go.Proofs.Ythnhdeieimgfhaa

/-
  The walks of entry.number, small, readID and may (layer 11). Conditions: none.
-/
set_option maxRecDepth 100000
namespace Go.Proofs.Ythnhdeieimgfhaa
open Go Go.RowKit

/-- A region that draws its order and only makes memory, seen from the world at its head. -/
theorem wp_region_K {P : Program} {Q : Exit → Act → World → Prop} {id : Nat} {ops : Array Oper} {a0 : Act} {w : World} (l : List (Value → World → Prop)) (pl : List (List Nat × List (Nat × Nat)))
    (n : Nat) (hn : a0.tmps.size = n) (hm : P.follows .mixedOrders = true) (hok : regionOk ops n = true) (hpl : planOk ops pl = true)
    (st : ∀ f ∈ l, ∀ v w w', f v w → Below w.heap.size w w' → f v w')
    (owed : OwedQ P a0 (K w) (tab l) 0 ops.toList pl)
    (fin : ∀ (V : Nat → Value) (W : World), K w W → (∀ j, j < ops.size → tab l j (V j) W) → Q .normal (putAll V ops.toList 0 a0) W) :
    (Code.region id ops true).wp P Q a0 w :=
  wp_region_grow (K w) l pl n hn hm hok hpl (fun _ _ h k => h.tr k) (K.rf w).drew st owed fin

/-- An ID's bytes. -/
def encId (a : Idn) : List UInt8 := packN (kindN a.1) ++ (packN a.2.1 ++ packN a.2.2)
set_option maxHeartbeats 1000000 in
theorem Nnumber_calls (l : List UInt8) (v : Value) (a : Idn) (w : World) (h : sl l v w) (hl : l.length ≤ 900000000) (hf : fitI a) :
    Calls Try.prog 98 #[v, idv a] w fun e w' => ∃ v', e = .returned v' ∧ Own w' w.heap.size 5 v' (l ++ encId a) ∧ K w w' := by
  obtain ⟨A, c, rfl, hR⟩ := h
  obtain ⟨b, li, se⟩ := a
  obtain ⟨h0, h1, h2⟩ := hf
  simp only at h0 h1 h2
  have p0 := packN_len (kindN b) (kindN_lt b)
  have p1 := packN_len li h1
  have p2 := packN_len se h2
  have hx := Blk.new w 53 #[.int .i64 b, .int .u64 (li : Int), .int .u64 (se : Int)]
  have k1 : K w (w.alloc (.cells #[.int .i64 b, .int .u64 (li : Int), .int .u64 (se : Int)] 53)) := (K.rf w).al _
  have hR1 := (hR.below k1 (Nat.le_refl _)).more k1.size
  go_enter Try.func98, Try.ntmps98
  go_wp2_with fail
  generalize w.alloc _ = w1 at *
  have qx := hx.cells
  rw [u64_wrap b]
  refine (Number_calls A _ c l (kindN b) (kindN_lt b) w1 _ hR1 (Nat.le_refl _) (by omega)).mono ?_
  rintro e w2 ⟨v2, rfl, ho2, k2⟩
  obtain ⟨A2, c2, rfl, hR2⟩ := (sl_own ho2)
  have hl2 : (l ++ packN (kindN b)).length ≤ 900000009 := by simp; omega
  generalize hm2 : (l ++ packN (kindN b)).length = m2 at *
  clear hm2
  go_wp2_with fail
  refine (Number_calls A2 m2 c2 _ li h1 w2 _ hR2 (Nat.le_refl _) (by omega)).mono ?_
  rintro e w3 ⟨v3, rfl, ho3, k3⟩
  replace k2 := k2.tr k3
  obtain ⟨A3, c3, rfl, hR3⟩ := (sl_own ho3)
  have hl3 : (l ++ packN (kindN b) ++ packN li).length ≤ 900000018 := by simp; omega
  generalize hm3 : (l ++ packN (kindN b) ++ packN li).length = m3 at *
  clear hm3
  go_wp2_with fail
  refine (Number_calls A3 m3 c3 _ se h2 w3 _ hR3 (Nat.le_refl _) (by omega)).mono ?_
  rintro e w4 ⟨v4, rfl, ho4, k4⟩
  have kk := k1.tr (k2.tr k4)
  go_wp2
  go_ret
  refine ⟨_, rfl, own_base ?_ ho4 (by simp [encId]), kk⟩
  exact Nat.le_trans k1.size k2.size

set_option maxHeartbeats 400000 in
theorem Small_calls (g : Nat) (l : List UInt8) (wr : Bool) (n : Nat) (w : World) (h : Rd w g l wr) (hn : n ≤ 1000000) :
    Calls Try.prog 99 #[.pointer (some ⟨g, 0, none⟩), .int .i64 (n : Int)] w fun e w' => e = .returned (.int .i64 ((min (rdN l wr).1 n : Nat) : Int)) ∧ Went g (rdN l wr).2.1 (rdN l wr).2.2 w w' := by
  have C1 := Lib.hid (RNumber_calls g l wr w h)
  have hlt := rdN_lt l wr
  clear h
  generalize rdN l wr = a at *
  obtain ⟨x, l1, wr1⟩ := a
  simp only at C1 hlt ⊢
  by_cases hx : n < x
  · have hx' : (n : Int) < (x : Int) := by omega
    rw [show min x n = n by omega]
    go_enter Try.func99, Try.ntmps99
    go_wp2_with fail
    refine C1.out.mono ?_
    rintro e w1 ⟨rfl, hw⟩
    go_wp2
    go_ret
    exact ⟨rfl, hw⟩
  · have hx' : ¬ (n : Int) < (x : Int) := by omega
    rw [show min x n = x by omega]
    go_enter Try.func99, Try.ntmps99
    go_wp2_with fail
    refine C1.out.mono ?_
    rintro e w1 ⟨rfl, hw⟩
    go_wp2
    go_ret
    exact ⟨rfl, hw⟩

theorem Blk.went {w w' : World} {g b : Nat} {t : TypeId} {cs : Array Value} {l : List UInt8} {wr : Bool} (h : Blk w b t cs) (k : Went g l wr w w') (hne : b ≠ g) : Blk w' b t cs := h.grown k.2 (by simpa using hne)
theorem Rd.al {w : World} {g : Nat} {l : List UInt8} {wr : Bool} (h : Rd w g l wr) (o : Obj) : Rd (w.alloc o) g l wr := h.below ((K.rf w).al o) h.lt
theorem Rd.set {w : World} {g b : Nat} {l : List UInt8} {wr : Bool} (h : Rd w g l wr) (hb : g < b) (i : Nat) (u : Value) : Rd (w.setCell ⟨b, i, none⟩ u) g l wr := h.below (Below.setCell (Below.refl b w) (Nat.le_refl _) u) hb
/-- An ID as a reader reads it. -/
def rdId : Rdr Idn := fun l wr =>
  (((min (rdN l wr).1 16 : Nat), (rdN (rdN l wr).2.1 (rdN l wr).2.2).1, (rdN (rdN (rdN l wr).2.1 (rdN l wr).2.2).2.1 (rdN (rdN l wr).2.1 (rdN l wr).2.2).2.2).1),
    (rdN (rdN (rdN l wr).2.1 (rdN l wr).2.2).2.1 (rdN (rdN l wr).2.1 (rdN l wr).2.2).2.2).2)
set_option maxHeartbeats 1000000 in
theorem ReadID_calls (g : Nat) (l : List UInt8) (wr : Bool) (w : World) (h : Rd w g l wr) :
    Calls Try.prog 100 #[.pointer (some ⟨g, 0, none⟩)] w fun e w' => e = .returned (idv (rdId l wr).1) ∧ Went g (rdId l wr).2.1 (rdId l wr).2.2 w w' := by
  have hgl := h.lt
  have hr0 := Blk.new w 53 #[.int .i64 0, .int .u64 0, .int .u64 0]
  have hm0 : w.grownBy (w.alloc (.cells #[.int .i64 0, .int .u64 0, .int .u64 0] 53)) (some g) := mut_alloc (mut_refl w _) _
  have h0 := h.al (.cells #[.int .i64 0, .int .u64 0, .int .u64 0] 53)
  have hz1 : w.heap.size < (w.alloc (.cells #[.int .i64 0, .int .u64 0, .int .u64 0] 53)).heap.size := by simp
  have C1 := fun W hW => Small_calls g l wr 16 W hW (by omega)
  unfold rdId
  generalize rdN l wr = a at *
  obtain ⟨x, l1, wr1⟩ := a
  simp only at C1 ⊢
  have C2 := RNumber_calls g l1 wr1
  generalize rdN l1 wr1 = a at *
  obtain ⟨y, l2, wr2⟩ := a
  simp only at C2 ⊢
  have C3 := RNumber_calls g l2 wr2
  generalize rdN l2 wr2 = a at *
  obtain ⟨z, l3, wr3⟩ := a
  simp only at C3 ⊢
  replace C1 := Lib.hid C1
  replace C2 := Lib.hid C2
  replace C3 := Lib.hid C3
  go_enter Try.func100, Try.ntmps100
  go_wp2_with fail
  generalize w.alloc _ = w1 at *
  refine (C1.out w1 h0).mono ?_
  rintro e w2 ⟨rfl, hw2⟩
  have hr2 := hr0.went hw2 (by omega)
  have hm2 := mut_trans hm0 hw2.2
  have hz2 := hw2.2.size
  have hn2 := hw2.1
  clear hw2 hr0 hm0 h0 h
  go_wp2_with fail
  have hx3 := Blk.new w2 53 #[.int .i64 ((min x 16 : Nat) : Int), .int .u64 0, .int .u64 0]
  have hr3 := hr2.alloc (.cells #[.int .i64 ((min x 16 : Nat) : Int), .int .u64 0, .int .u64 0] 53)
  have hn3 := hn2.al (.cells #[.int .i64 ((min x 16 : Nat) : Int), .int .u64 0, .int .u64 0] 53)
  have hm3 := mut_alloc hm2 (.cells #[.int .i64 ((min x 16 : Nat) : Int), .int .u64 0, .int .u64 0] 53)
  have hz3 : w2.heap.size < (w2.alloc (.cells #[.int .i64 ((min x 16 : Nat) : Int), .int .u64 0, .int .u64 0] 53)).heap.size := by simp
  clear hn2 hr2 hm2
  generalize w2.alloc _ = w3 at *
  generalize hh : w2.heap.size = h at *
  clear hh
  refine (C2.out w3 hn3).mono ?_
  rintro e w4 ⟨rfl, hw4⟩
  have hx4 := hx3.went hw4 (by omega)
  have hr4 := hr3.went hw4 (by omega)
  have hm4 := mut_trans hm3 hw4.2
  have hn4 := hw4.1
  have hz4 := hw4.2.size
  have q1 := hx4.cell 1
  have z1 := hx4.frozen 1
  simp at q1
  clear hw4 hx3 hr3 hm3 hn3
  go_upto_region 3 with (fail)
  have hx5 := hx4.set_ 1 (.int .u64 (y : Int))
  have hr5 := hr4.far (p := ⟨h, 1, none⟩) (by simp; omega) (.int .u64 (y : Int))
  have hm5 := mut_new hm4 (p := ⟨h, 1, none⟩) (by simp; omega) (.int .u64 (y : Int))
  have hn5 := hn4.set (b := h) (by omega) 1 (.int .u64 (y : Int))
  have hz5 : w4.heap.size ≤ (w4.setCell ⟨h, 1, none⟩ (.int .u64 (y : Int))).heap.size := by simp [World.setCell]
  clear hx4 hr4 hm4 hn4 q1 z1
  generalize w4.setCell _ _ = w5 at *
  go_wp2_with fail
  refine (C3.out w5 hn5).mono ?_
  rintro e w6 ⟨rfl, hw6⟩
  have hx6 := hx5.went hw6 (by omega)
  have hr6 := hr5.went hw6 (by omega)
  have hm6 := mut_trans hm5 hw6.2
  have hn6 := hw6.1
  have hz6 := hw6.2.size
  have q0 := hx6.cell 0
  have q1 := hx6.cell 1
  have q2 := hx6.cell 2
  have z2 := hx6.frozen 2
  simp at q0 q1 q2
  clear hw6 hx5 hr5 hm5 hn5
  go_upto_region 4 with (fail)
  have hx7 := hx6.set_ 2 (.int .u64 (z : Int))
  have hr7 := hr6.far (p := ⟨h, 2, none⟩) (by simp; omega) (.int .u64 (z : Int))
  have hm7 := mut_new hm6 (p := ⟨h, 2, none⟩) (by simp; omega) (.int .u64 (z : Int))
  have hn7 := hn6.set (b := h) (by omega) 2 (.int .u64 (z : Int))
  have hz7 : w6.heap.size ≤ (w6.setCell ⟨h, 2, none⟩ (.int .u64 (z : Int))).heap.size := by simp [World.setCell]
  clear hx6 hr6 hm6 hn6 q0 q1 q2 z2
  generalize w6.setCell _ _ = w7 at *
  have q0 := hx7.cell 0
  have q1 := hx7.cell 1
  have q2 := hx7.cell 2
  simp at q0 q1 q2
  have r0 := hr7.cell 0
  have r1 := hr7.cell 1
  have r2 := hr7.cell 2
  have y0 := hr7.frozen 0
  have y1 := hr7.frozen 1
  have y2 := hr7.frozen 2
  simp at r0 r1 r2
  go_wp2
  have hr8 := ((hr7.set_ 0 (.int .i64 ((min x 16 : Nat) : Int))).set_ 1 (.int .u64 (y : Int))).set_ 2 (.int .u64 (z : Int))
  have e0 := hr8.cell 0
  have e1 := hr8.cell 1
  have e2 := hr8.cell 2
  simp at e0 e1 e2
  refine bodyPost_ret (v := idv ((min x 16 : Nat), y, z)) (by simp [results, Try.results100, go_sem, e0, e1, e2]) rfl ?_
  refine ⟨rfl, ?_, ?_⟩
  · exact ((hn7.set (by omega) _ _).set (by omega) _ _).set (by omega) _ _
  · exact mut_new (mut_new (mut_new hm7 (by simp) _) (by simp) _) (by simp) _
end Go.Proofs.Ythnhdeieimgfhaa

/-
  The walk of entry.may (layer 11). Conditions: none.
-/
set_option maxRecDepth 100000
namespace Go.Proofs.Ythnhdeieimgfhaa
open Go Go.RowKit

theorem chkEn_eq (x : Ent) : (chkEn x == 0) = okEn x := by unfold chkEn; cases okEn x <;> rfl
set_option maxHeartbeats 4000000 in
theorem May_calls (x : Rec) (v : Value) (w : World) (h : rcd x v w) :
    Calls Try.prog 97 #[v] w fun e w' => e = .returned (.bool (okRec x)) ∧ K w w' := by
  obtain ⟨vf, ve, rfl, hf, he⟩ := h
  obtain ⟨k, n, x, b, l, s⟩ := x
  simp only at hf he
  have hx := Blk.new w 60 (recA ⟨k, n, x, b, l, s⟩ vf ve)
  have k1 : K w (w.alloc (.cells (recA ⟨k, n, x, b, l, s⟩ vf ve) 60)) := (K.rf w).al _
  have HO : Hid (okRec ⟨k, n, x, b, l, s⟩ = if k = 1 then emptyEn x && noId ⟨k, n, x, b, l, s⟩ else if k = 2 then okEn x && noId ⟨k, n, x, b, l, s⟩ else if k = 3 then decide (n = 0) && okEn x && noId ⟨k, n, x, b, l, s⟩
    else if k = 4 ∨ k = 5 then homeB b && decide (n = 0) && emptyEn x else false) := Lib.hid rfl
  have HN : Hid (noId ⟨k, n, x, b, l, s⟩ = (decide (b = 0) && decide (l = 0) && decide (s = 0))) := Lib.hid rfl
  generalize okRec ⟨k, n, x, b, l, s⟩ = R at *
  have he0 : ∀ W, K w W → ent x (.agg (entA x vf ve)) W := fun W k => ⟨vf, ve, rfl, flt_st _ _ _ _ hf k, lst_st he k⟩
  clear hf he
  go_enter Try.func97, Try.ntmps97
  go_upto_region 1 with (fail)
  generalize w.alloc _ = w1 at *
  generalize w.heap.size = g at hx ⊢
  have qx := hx.cells
  have kk := K.rf w1
  generalize noId ⟨k, n, x, b, l, s⟩ = m at *
  go_cut [0, 3] from 4 to 7 (fun _ v wc => v = .bool m ∧ wc = w1)
  case first =>
    go_wp2
    all_goals
      go_meet
      case rel => (refine ⟨?_, rfl⟩; rw [HN.out]; clear qx HO; simp_all)
  case rest =>
  obtain ⟨rfl, rfl⟩ := hcut
  clear HN
  by_cases hk1 : k = 1
  · subst hk1
    rw [if_pos rfl] at HO
    go_wp2_with fail
    refine (Empty_calls x _ _ (he0 _ k1)).mono ?_
    rintro e w2 ⟨rfl, k2⟩
    have k02 := k1.tr k2
    cases he : emptyEn x
    · have HR : Hid (R = false) := Lib.hid (by rw [HO.out, he]; rfl)
      clear HO
      go_wp2
      go_ret
      exact ⟨by rw [HR.out]; rfl, k02⟩
    · have HR : Hid (R = m) := Lib.hid (by rw [HO.out, he]; rfl)
      clear HO
      go_wp2
      go_ret
      exact ⟨by rw [HR.out]; rfl, k02⟩
  by_cases hk3 : k = 3
  · subst hk3
    rw [if_neg (by decide), if_neg (by decide), if_pos rfl] at HO
    by_cases hn : n = 0
    rotate_left
    · have hn' : ((n : Int) != 0) = true := by simpa using hn
      have HR : Hid (R = false) := Lib.hid (by rw [HO.out]; simp [hn])
      clear HO
      go_wp2
      go_ret
      exact ⟨by rw [HR.out]; rfl, k1⟩
    subst hn
    have hn' : (((0 : Nat) : Int) != 0) = false := by simp
    go_wp2_with fail
    refine (NCheck_calls x _ _ (he0 _ k1)).mono ?_
    rintro e w2 ⟨rfl, k2⟩
    have k02 := k1.tr k2
    have e3 := chkEn_eq x
    cases he : okEn x
    · have HR : Hid (R = false) := Lib.hid (by rw [HO.out, he]; rfl)
      clear HO
      go_wp2
      go_ret
      exact ⟨by rw [HR.out]; rfl, k02⟩
    · have HR : Hid (R = m) := Lib.hid (by rw [HO.out, he]; rfl)
      clear HO
      go_wp2
      go_ret
      exact ⟨by rw [HR.out]; rfl, k02⟩
  by_cases hk2 : k = 2
  · subst hk2
    rw [if_neg (by decide), if_pos rfl] at HO
    go_wp2_with fail
    refine (NCheck_calls x _ _ (he0 _ k1)).mono ?_
    rintro e w2 ⟨rfl, k2⟩
    have k02 := k1.tr k2
    have e3 := chkEn_eq x
    cases he : okEn x
    · have HR : Hid (R = false) := Lib.hid (by rw [HO.out, he]; rfl)
      clear HO
      go_wp2
      go_ret
      exact ⟨by rw [HR.out]; rfl, k02⟩
    · have HR : Hid (R = m) := Lib.hid (by rw [HO.out, he]; rfl)
      clear HO
      go_wp2
      go_ret
      exact ⟨by rw [HR.out]; rfl, k02⟩
  have g1 : (k == 1) = false := by simpa using hk1
  have g2 : (k == 2) = false := by simpa using hk2
  have g3 : (k == 3) = false := by simpa using hk3
  rw [if_neg hk1, if_neg hk2, if_neg hk3] at HO
  clear hk1 hk2 hk3
  have four : (k = 4 ∨ k = 5) ∨ (¬ k = 4 ∧ ¬ k = 5) := by omega
  rcases four with h45 | ⟨h4, h5⟩
  · rw [if_pos h45] at HO
    have hor : (k == 4 || k == 5) = true := by simpa using h45
    go_upto_region 6 with (fail)
    rcases h45 with rfl | rfl
    all_goals
      clear hor
      go_wp2_with fail
      refine (Home_calls (b, l, s) _).mono ?_
      rintro e w2 ⟨rfl, k2⟩
      have k02 := k1.tr k2
      cases hh : homeB b
      · have HR : Hid (R = false) := Lib.hid (by rw [HO.out, hh]; rfl)
        clear HO
        go_wp2
        go_ret
        exact ⟨by rw [HR.out]; rfl, k02⟩
      by_cases hn : n = 0
      rotate_left
      · have hn' : ((n : Int) == 0) = false := by simpa using hn
        have HR : Hid (R = false) := Lib.hid (by rw [HO.out]; simp [hn])
        clear HO
        go_wp2
        go_ret
        exact ⟨by rw [HR.out]; rfl, k02⟩
      subst hn
      have hn' : (((0 : Nat) : Int) == 0) = true := by simp
      have HR : Hid (R = emptyEn x) := Lib.hid (by rw [HO.out, hh]; simp)
      go_wp2_with fail
      refine (Empty_calls x _ _ (he0 _ k02)).mono ?_
      rintro e w3 ⟨rfl, k3⟩
      replace k02 := k02.tr k3
      go_wp2
      go_ret
      exact ⟨by rw [HR.out]; rfl, k02⟩
  · have HR : Hid (R = false) := Lib.hid (by rw [HO.out, if_neg (by omega)])
    have g4 : (k == 4) = false := by simpa using h4
    have g5 : (k == 5) = false := by simpa using h5
    clear HO h4 h5
    go_wp2
    go_ret
    exact ⟨by rw [HR.out]; rfl, k1⟩
end Go.Proofs.Ythnhdeieimgfhaa

/-
  The walk of entry.Encode (layer 11). Conditions: none.
-/
set_option maxRecDepth 100000
namespace Go.Proofs.Ythnhdeieimgfhaa
open Go Go.RowKit

theorem Number_sl {l : List UInt8} {v : Value} {w : World} (n : Nat) (h : sl l v w) (hn : n < 18446744073709551616) (hl : l.length ≤ 1000000000) :
    Calls Try.prog 32 #[v, .int .u64 (n : Int)] w fun e w' => ∃ v', e = .returned v' ∧ Own w' w.heap.size 5 v' (l ++ packN n) ∧ K w w' := by
  obtain ⟨A, c, rfl, hR⟩ := h
  exact Number_calls A _ c l n hn w _ hR (Nat.le_refl _) hl
theorem Bytes_sl {l b : List UInt8} {v u : Value} {w : World} (h : sl l v w) (k : sl b u w) (hl : l.length ≤ 1000000000) (hb : b.length ≤ 1000000000) :
    Calls Try.prog 80 #[v, u] w fun e w' => ∃ v', e = .returned v' ∧ Own w' w.heap.size 5 v' (l ++ packB b) ∧ K w w' := by
  obtain ⟨A, c, rfl, hR⟩ := h
  obtain ⟨D, d, rfl, hS⟩ := k
  refine (Bytes_calls A D _ c _ d l b w _ hR hS (Nat.le_refl _) hl hb).mono ?_
  rintro e w' ⟨v', rfl, ho, hk⟩
  exact ⟨v', rfl, own_base (Nat.le_refl _) ho (by simp [packB]), hk⟩
theorem sl_al {l : List UInt8} {v : Value} {w : World} (h : sl l v w) : ∀ W, K w W → sl l v W := fun _ k => sl_st _ _ _ _ h k
theorem sl_nil (w : World) : sl [] (.slice none 0 0) w := ⟨none, 0, rfl, Reads.nil _ _ _ _⟩
/-- An entry's bytes, if it may be. -/
def encEnR (x : Ent) : List UInt8 := if okEn x then encEn x else []
theorem encHd_len (x : Ent) (h : fitEn x) : (encHd x).length ≤ 54 := by
  obtain ⟨_, _, _, h1, h2, h3, _⟩ := h
  have g1 := packN_len (kindN x.kind) (kindN_lt _)
  have g2 := packN_len (kindN x.br) (kindN_lt _)
  have g3 := packN_len x.life h1
  have g4 := packN_len x.ser h2
  have g5 := packN_len (kindN x.cl) (kindN_lt _)
  have g6 := packN_len x.sub h3
  unfold encHd; simp only [List.length_append]; omega
/-- The part of an entry's bytes up to its k-th event. -/
def encUp (x : Ent) (k : Nat) : List UInt8 := encHd x ++ packN x.es.length ++ (x.es.take k).flatMap fun e => packB (encE e)
theorem encUp_succ (x : Ent) (k : Nat) (h : k < x.es.length) : encUp x (k + 1) = encUp x k ++ packB (encE x.es[k]) := by
  unfold encUp
  rw [List.take_succ_eq_append_getElem h, List.flatMap_append, List.flatMap_cons, List.flatMap_nil, List.append_nil]
  simp only [List.append_assoc]
theorem encUp_len (x : Ent) (k : Nat) (hf : fitEn x) (h8 : x.es.length ≤ 8) (hok : ∀ e ∈ x.es, okE e = true) : (encUp x k).length ≤ 20000 := by
  have h0 := encHd_len x hf
  have h1 := packN_len x.es.length (by omega)
  have h2 := encEs_most (x.es.take k) fun e he => ⟨hok e (List.mem_of_mem_take he), hf.2.2.2.2.2.2.2 e (List.mem_of_mem_take he)⟩
  have h3 : (x.es.take k).length ≤ 8 := by simp; omega
  unfold encUp; simp only [List.length_append]; omega

set_option maxHeartbeats 4000000 in
theorem NEncode_calls (x : Ent) (v : Value) (w : World) (h : ent x v w) (hfit : fitEn x) :
    Calls Try.prog 79 #[v] w fun e w' =>
      ∃ v', e = .returned (.tuple #[v', .int .i64 (chkEn x)]) ∧ Own w' w.heap.size 5 v' (encEnR x) ∧ K w w' := by
  have HC := Lib.hid fun W h => NCheck_calls x v W h
  have h' := h
  obtain ⟨vf, ve, rfl, hf, he⟩ := h
  have hx := Blk.new w 58 (entA x vf ve)
  have k1 : K w (w.alloc (.cells (entA x vf ve) 58)) := (K.rf w).al _
  have HEn := Lib.hid (ent_al h')
  have HF := Lib.hid hfit
  have HXL := Lib.hid (encHd_len x hfit)
  obtain ⟨hik, hib, hic, hil, his, hiu, hift, hife⟩ := hfit
  clear h'
  cases hok : okEn x
  · have HE : Hid (chkEn x = 110) := Lib.hid (chkEn_bad hok)
    have HR : Hid (encEnR x = []) := Lib.hid (by simp [encEnR, hok])
    have hne : (chkEn x != 0) = true := by rw [HE.out]; rfl
    clear hok
    go_enter Try.func79, Try.ntmps79
    go_wp2_with fail
    generalize w.alloc _ = w1 at *
    refine (HC.out _ (HEn.out _ k1)).mono ?_
    rintro e w2 ⟨rfl, k2⟩
    go_wp2
    go_ret2
    exact ⟨_, rfl, by rw [HR.out]; exact World.ownsRow_nil _ _ _ _, k1.tr k2⟩
  have HE : Hid (chkEn x = 0) := Lib.hid (chkEn_good hok)
  have HR : Hid (encEnR x = encEn x) := Lib.hid (by simp [encEnR, hok])
  have hne : (chkEn x != 0) = false := by rw [HE.out]; rfl
  obtain ⟨-, -, hkk⟩ := okEn_parts hok
  have HH : Hid (encHd x = packN (kindN x.kind) ++ encId (x.br, x.life, x.ser) ++ packN (kindN x.cl) ++ packN x.sub) := Lib.hid (by simp [encHd, encId])
  have h8 : x.kind = 1 → x.es.length ≤ 8 ∧ ∀ e ∈ x.es, okE e = true := by
    intro hk
    rcases hkk with h | h | h
    · exact h.2.2.2
    · omega
    · omega
  have hf2 : x.kind = 2 → okF x.f = true := by
    intro hk
    rcases hkk with h | h | h
    · omega
    · omega
    · exact h.2.2
  have hk3 : x.kind = 1 ∨ x.kind = 2 ∨ x.kind = 3 := by omega
  have H1 := Lib.hid fun h => encEn_1 (x := x) h
  have H2 := Lib.hid fun h => encEn_2 (x := x) h
  have H3 := Lib.hid fun h1 h2 => encEn_3 (x := x) h1 h2
  have HU := Lib.hid (encUp_succ x)
  have HUL := Lib.hid fun k h => encUp_len x k HF.out (h8 h).1 (h8 h).2
  have HU0 : Hid (encUp x 0 = encHd x ++ packN x.es.length) := Lib.hid (by simp [encUp])
  have HUE : Hid (encUp x x.es.length = encHd x ++ packN x.es.length ++ x.es.flatMap fun e => packB (encE e)) := Lib.hid (by simp [encUp])
  clear hok hkk HF
  obtain ⟨k, b, l, s, cl, u, f, es⟩ := x
  simp only at hx k1 hf he hik hib hic hil his hiu hift hife h8 hf2 hk3 HH H1 H2 H3 HU HUL HU0 HUE hne HE HR HC HEn HXL ⊢
  generalize encHd ⟨k, b, l, s, cl, u, f, es⟩ = hd at *
  generalize encUp ⟨k, b, l, s, cl, u, f, es⟩ = up at *
  generalize encEnR ⟨k, b, l, s, cl, u, f, es⟩ = R at *
  generalize encEn ⟨k, b, l, s, cl, u, f, es⟩ = E at *
  generalize chkEn ⟨k, b, l, s, cl, u, f, es⟩ = C at *
  go_enter Try.func79, Try.ntmps79
  go_wp2_with fail
  generalize w.alloc _ = w1 at *
  generalize w.heap.size = g at hx ⊢
  have qx := hx.cells
  have hf1 := flt_st _ _ _ _ hf k1
  have he1 := lst_st he k1
  refine (HC.out _ (HEn.out _ k1)).mono ?_
  rintro e w2 ⟨rfl, k2⟩
  clear hf he HC HEn
  go_upto_region 4 with (fail)
  have qx2 := fun W (kW : K w2 W) => qx W (k2.tr kW)
  have p0 := packN_len (kindN k) (kindN_lt k)
  have pi0 : (encId (b, l, s)).length ≤ 27 := by
    have g2 := packN_len (kindN b) (kindN_lt b)
    have g3 := packN_len l hil
    have g4 := packN_len s his
    simp only [encId, List.length_append]; omega
  refine wp_region_K [isV (.pointer (some ⟨g, 0, none⟩)),
      isV (.int .i64 (k)),
      isV (.int .u64 (kindN k : Nat)),
      sl (packN (kindN k)),
      isV (.pointer (some ⟨g, 1, none⟩)),
      isV (idv (b, l, s)),
      sl (packN (kindN k) ++ encId (b, l, s)),
      sl (packN (kindN k) ++ encId (b, l, s))]
    [([], []), ([0], [(17, 0)]), ([1], [(18, 1)]), ([2], [(19, 2)]), ([], []), ([4], [(21, 4)]), ([3, 5], [(20, 3), (22, 5)]), ([6], [(23, 6)])] 75 rfl (by kernel_rfl) (by kernel_rfl) (by kernel_rfl) ?st4 ?ow4 ?_
  case st4 =>
    simp only [List.forall_mem_cons]
    and_intros
    all_goals first | exact isV_st _ | exact sl_st _ | exact anyV_st | simp
  case ow4 =>
    simp only [OwedQ]
    and_intros
    all_goals try trivial
    all_goals
      intro V W kW hp
      try simp only [List.forall_mem_cons, tab_zero, tab_succ, isV] at hp
      try simp [wantsG, rhoP, List.lookup, hp, tab_zero, tab_succ, ResG, execOp, bareOp, isV, Below.refl, kW, qx2, go_sem]
    · exact u64_wrap k
    · refine (Number_sl (kindN k) (sl_nil W) (kindN_lt k) (by simp)).mono ?_
      rintro e w'' ⟨v', rfl, ho, hb⟩
      rw [List.nil_append] at ho
      exact ⟨v', rfl, sl_own ho, hb⟩
    · refine (Nnumber_calls _ _ (b, l, s) W hp.1 (by omega) ⟨hib, hil, his⟩).mono ?_
      rintro e w'' ⟨v', rfl, ho, hb⟩
      exact ⟨v', rfl, sl_own ho, hb⟩
  intro V w3 k3 hp
  have h7 := hp 7 (by simp)
  simp only [tab_zero, tab_succ] at h7
  clear hp
  simp only [putAll, Act.put, List.setIfInBounds_toArray, List.set_cons_succ, List.set_cons_zero]
  generalize V 7 = v3 at *
  replace k2 := k2.tr k3
  clear qx2 k3
  have hl3 : (packN (kindN k) ++ encId (b, l, s)).length ≤ 100 := by simp; omega
  generalize packN (kindN k) ++ encId (b, l, s) = b3 at *
  go_wp2_with fail
  rw [u64_wrap cl]
  refine (Number_sl (kindN cl) h7 (kindN_lt cl) (by omega)).mono ?_
  rintro e w4 ⟨v4, rfl, ho4, k4⟩
  have h4 := sl_own ho4
  replace k2 := k2.tr k4
  have hl4 : (b3 ++ packN (kindN cl)).length ≤ 110 := by
    have := packN_len (kindN cl) (kindN_lt cl)
    simp; omega
  generalize b3 ++ packN (kindN cl) = b4 at *
  clear ho4 k4 h7
  go_wp2_with fail
  refine (Number_sl u h4 hiu (by omega)).mono ?_
  rintro e w5 ⟨v5, rfl, ho5, k5⟩
  rw [← HH.out] at ho5
  have h5 := sl_own ho5
  have hrow := own_base (base := w.heap.size) (Nat.le_trans k1.size k2.size) ho5 rfl
  replace k2 := k2.tr k5
  have k05 := k1.tr k2
  clear k5 h4 hl4 hl3 HH
  obtain rfl | rfl | rfl := hk3
  · obtain ⟨h8, hall⟩ := h8 rfl
    obtain ⟨D, d, rfl, hes, hd⟩ := he1
    have hl5 := HXL.out
    go_wp2_with fail
    refine (Number_sl es.length h5 (by omega) (by omega)).mono ?_
    rintro e w6 ⟨v6, rfl, ho6, k6⟩
    rw [← HU0.out] at ho6
    have hrow6 := own_base (base := w.heap.size) (Nat.le_trans k1.size k2.size) ho6 rfl
    replace k2 := k2.tr k6
    clear h5 hrow ho6 k6 k05
    go_wp2_with fail
    go_loopw [5, 7, 8, 9, 46] (fun o _ _ _ i wr => ∃ j : Nat, j ≤ es.length ∧ i = .int .i64 (j : Int) ∧ Own wr w.heap.size 5 o (up j) ∧ K w1 wr) (fun _ _ _ _ i _ => es.length - (intOf i).toNat)
    case atStart => exact ⟨0, by omega, rfl, hrow6, k2⟩
    case round =>
      obtain ⟨j, hj, rfl, hown, kr⟩ := hrel
      by_cases hlt : j < es.length
      · have hji : (j : Int) < (es.length : Int) := by omega
        obtain ⟨b1, off, cs, rfl, hb1, hcl, ⟨ve, rfl, hev⟩, hcell⟩ := lsr_at hes j hlt (by decide)
        have d0 : wr.cell? ⟨b1, off + j, none⟩ = some ve := by
          have := hcell 0 (by decide)
          rw [kr.cell (by simpa using hb1)]
          simpa [evS] using this
        have hevr := evt_st _ _ _ _ hev kr
        have hs := HU.out j hlt
        have hoke := hall _ (List.getElem_mem hlt)
        have hfe := hife _ (List.getElem_mem hlt)
        have hl9 := HUL.out j (by trivial)
        have hle := encE_len hoke hfe
        generalize es[j] = ej at *
        have hc1 : chkE ej = 0 := by simp [chkE, hoke]
        have hc2 : encR ej = encE ej := by simp [encR, hoke]
        have hne1 : (chkE ej != 0) = false := by rw [hc1]; rfl
        have HS := Lib.hid hs
        clear hs hcell
        go_wp2_with fail
        refine (Encode_evt hevr hfe).mono ?_
        rintro e w7 ⟨v7, rfl, ho7, k7⟩
        rw [hc2] at ho7
        have h7 := sl_own ho7
        have h57 := sl_st _ _ _ _ (sl_own hown) k7
        have kr7 := kr.tr k7
        clear ho7 hown hevr hev
        go_wp2_with fail
        refine (Bytes_sl h57 h7 (by omega) (by omega)).mono ?_
        rintro e w8 ⟨v8, rfl, ho8, k8⟩
        rw [← HS.out] at ho8
        have hrow8 := own_base (base := w.heap.size) (Nat.le_trans k1.size kr7.size) ho8 rfl
        replace kr7 := kr7.tr k8
        clear h57 h7 ho8
        go_wp2
        go_roundw
        case rel => exact ⟨j + 1, by omega, by go_num, hrow8, kr7⟩
        case measure => simp [intOf]; omega
      · have hji : ¬ (j : Int) < (es.length : Int) := by omega
        obtain rfl : j = es.length := by omega
        have hfin : Own wr w.heap.size 5 u5 R := by
          rw [HR.out, H1.out (by trivial), ← List.append_assoc, ← HUE.out]; exact hown
        clear hown
        go_wp2
        go_ret2
        exact ⟨_, by rw [HE.out]; rfl, hfin, k1.tr kr⟩
  · have hokf := hf2 rfl
    have hl5 := HXL.out
    have hc1 : chkF f = 0 := by simp [chkF, hokf]
    have hc2 : encFR f = encF f := by simp [encFR, hokf]
    have hne1 : (chkF f != 0) = false := by rw [hc1]; rfl
    have hlf := encF_most hokf hift
    have HIF := Lib.hid hift
    clear hift
    go_wp2_with fail
    refine (FEncode_flt (flt_st _ _ _ _ hf1 k2) HIF.out).mono ?_
    rintro e w6 ⟨v6, rfl, ho6, k6⟩
    rw [hc2] at ho6
    have h6 := sl_own ho6
    have h56 := sl_st _ _ _ _ h5 k6
    replace k2 := k2.tr k6
    clear ho6 h5
    go_wp2_with fail
    refine (Bytes_sl h56 h6 (by omega) (by omega)).mono ?_
    rintro e w7 ⟨v7, rfl, ho7, k7⟩
    rw [← H2.out (by trivial)] at ho7
    rw [← HR.out] at ho7
    have hrow7 := own_base (base := w.heap.size) (Nat.le_trans k1.size k2.size) ho7 rfl
    replace k2 := k2.tr k7
    clear h56 h6 ho7
    go_wp2
    go_ret2
    exact ⟨_, by rw [HE.out]; rfl, hrow7, k1.tr k2⟩
  · have hfin : Own w5 w.heap.size 5 v5 R := by
      rw [HR.out, H3.out (by decide) (by decide)]; exact hrow
    clear hrow h5
    go_wp2
    go_ret2
    exact ⟨_, by rw [HE.out]; rfl, hfin, k05⟩
end Go.Proofs.Ythnhdeieimgfhaa

/-
  The walks of the document's Same and SameRecord, and of the statements' Few, of entries (layer 11). Conditions: of Same: lists of at most a million.
-/
set_option maxRecDepth 100000
namespace Go.Proofs.Ythnhdeieimgfhaa
open Go Go.RowKit

/-- Lists of at most a million. -/
def smallEn (x : Ent) : Prop := x.f.length ≤ 1000000 ∧ x.es.length ≤ 1000000 ∧ ∀ e ∈ x.es, e.length ≤ 1000000
theorem sameEn_iff (x y : Ent) : decide (x = y) = (decide (x.f = y.f) && decide (x.es = y.es) && (decide (x.kind = y.kind) && (decide (x.br = y.br) && decide (x.life = y.life) && decide (x.ser = y.ser)) && decide (x.cl = y.cl) && decide (x.sub = y.sub))) := by
  obtain ⟨k, b, l, s, c, u, f, es⟩ := x
  obtain ⟨k', b', l', s', c', u', f', es'⟩ := y
  simp only [Ent.mk.injEq]
  rw [Bool.eq_iff_iff]
  simp only [decide_eq_true_eq, Bool.and_eq_true]
  constructor
  · rintro ⟨rfl, rfl, rfl, rfl, rfl, rfl, rfl, rfl⟩; simp
  · rintro ⟨⟨rfl, rfl⟩, ⟨⟨rfl, ⟨rfl, rfl⟩, rfl⟩, rfl⟩, rfl⟩; simp
set_option maxHeartbeats 4000000 in
theorem ESame_calls (x y : Ent) (v u : Value) (w : World) (h : ent x v w) (k : ent y u w) (hs : smallEn x) :
    Calls Try.prog 76 #[v, u] w fun e w' => e = .returned (.bool (decide (x = y))) ∧ K w w' := by
  obtain ⟨vf1, ve1, rfl, hf1, he1⟩ := h
  obtain ⟨vf2, ve2, rfl, hf2, he2⟩ := k
  obtain ⟨A1, c1, rfl⟩ := flt_slice hf1
  obtain ⟨A2, c2, rfl⟩ := flt_slice hf2
  obtain ⟨D1, d1, e1, he1, hd1⟩ := he1
  obtain rfl := e1
  obtain ⟨D2, d2, e2, he2, hd2⟩ := he2
  obtain rfl := e2
  obtain ⟨hs1, hs2, hs3⟩ := hs
  have HI := Lib.hid (sameEn_iff x y)
  have HS3 := Lib.hid hs3
  clear hs3
  have hx := (Blk.new w 58 (entA x (.slice A1 x.f.length c1) (.slice D1 x.es.length d1))).alloc (.cells (entA y (.slice A2 y.f.length c2) (.slice D2 y.es.length d2)) 58)
  have hy := Blk.new (w.alloc (.cells (entA x (.slice A1 x.f.length c1) (.slice D1 x.es.length d1)) 58)) 58 (entA y (.slice A2 y.f.length c2) (.slice D2 y.es.length d2))
  have k2 : K w ((w.alloc (.cells (entA x (.slice A1 x.f.length c1) (.slice D1 x.es.length d1)) 58)).alloc (.cells (entA y (.slice A2 y.f.length c2) (.slice D2 y.es.length d2)) 58)) := ((K.rf w).al _).al _
  have hz : (w.alloc (.cells (entA x (.slice A1 x.f.length c1) (.slice D1 x.es.length d1)) 58)).heap.size = w.heap.size + 1 := by simp
  rw [hz] at hy
  clear hz
  obtain ⟨kx, bx, lx, sx, cx, ux, fx, es1⟩ := x
  obtain ⟨ky, by_, ly, sy, cy, uy, fy, es2⟩ := y
  simp only at hf1 hf2 he1 he2 hs1 hs2 HI HS3 ⊢
  generalize decide (Ent.mk kx bx lx sx cx ux fx es1 = Ent.mk ky by_ ly sy cy uy fy es2) = R at *
  go_enter Try.func76, Try.ntmps76
  go_wp2_with fail
  generalize World.alloc (World.alloc w _) _ = w2 at *
  generalize hg2 : w.heap.size + 1 = g2 at hy ⊢
  generalize w.heap.size = g1 at hx hg2 ⊢
  clear hg2
  have qx := hx.cells
  have qy := hy.cells
  refine (FSame_flt (flt_st _ _ _ _ hf1 k2) (flt_st _ _ _ _ hf2 k2) hs1).mono ?_
  rintro e w3 ⟨rfl, k3⟩
  have k03 := k2.tr k3
  cases hfe : decide (fx = fy)
  · have HR : Hid (R = false) := Lib.hid (by rw [HI.out, hfe]; rfl)
    clear HI
    go_wp2
    go_ret
    exact ⟨by rw [HR.out]; rfl, k03⟩
  by_cases hle : es1.length = es2.length
  rotate_left
  · have HR : Hid (R = false) := Lib.hid (by rw [HI.out, show decide (es1 = es2) = false from by simp; exact fun e => hle (by rw [e])]; simp)
    have hle' : ((es1.length : Int) != (es2.length : Int)) = true := by simp; omega
    clear HI
    go_wp2
    go_ret
    exact ⟨by rw [HR.out]; rfl, k03⟩
  have hle' : ((es1.length : Int) != (es2.length : Int)) = false := by simp; omega
  have HLE := Lib.hid hle
  clear hle
  have he1 := lsr_st he1 k2
  have he2 := lsr_st he2 k2
  clear hf1 hf2
  go_wp2_with fail
  go_loopw [6, 7] (fun i _ wr => ∃ j : Nat, j ≤ es1.length ∧ i = .int .i64 (j : Int) ∧ Hid (es1.take j = es2.take j) ∧ K w2 wr) (fun i _ _ => es1.length - (intOf i).toNat)
  case atStart => exact ⟨0, by omega, rfl, Lib.hid (by simp), k3⟩
  case round =>
    obtain ⟨j, hj, rfl, HT, kr⟩ := hrel
    by_cases hlt : j < es1.length
    · have hji : (j : Int) < (es1.length : Int) := by omega
      have hlt2 : j < es2.length := by have := HLE.out; omega
      obtain ⟨b1, o1, cs1, rfl, hb1, hcl1, ⟨v1, rfl, hev1⟩, hc1⟩ := lsr_at he1 j hlt (by decide)
      obtain ⟨b2, o2, cs2, rfl, hb2, hcl2, ⟨v2, rfl, hev2⟩, hc2⟩ := lsr_at he2 j hlt2 (by decide)
      have p1 : ∀ W, K wr W → W.cell? ⟨b1, o1 + j, none⟩ = some v1 := by
        intro W kW
        have := hc1 0 (by decide)
        rw [(kr.tr kW).cell (by simpa using hb1)]
        simpa [evS] using this
      have p2 : ∀ W, K wr W → W.cell? ⟨b2, o2 + j, none⟩ = some v2 := by
        intro W kW
        have := hc2 0 (by decide)
        rw [(kr.tr kW).cell (by simpa using hb2)]
        simpa [evS] using this
      have rx := fun W (kW : K wr W) => qx W (kr.tr kW)
      have ry := fun W (kW : K wr W) => qy W (kr.tr kW)
      have kk := K.rf wr
      have hsz := HS3.out _ (List.getElem_mem hlt)
      have HB := Lib.hid (take_eq_succ' es1 es2 j hlt hlt2 HT.out)
      have hlt2i : (j : Int) < (es2.length : Int) := by omega
      clear hc1 hc2 hcl1 hcl2
      go_upto_region 7 with (fail)
      refine wp_region_K [isV (.pointer (some ⟨g1, 7, none⟩)),
          isV (.slice (some ⟨b1, o1, none⟩) es1.length d1),
          isV (.int .i64 ((j : Int))),
          isV (.pointer (some ⟨b1, o1 + j, none⟩)),
          isV (v1),
          isV (.pointer (some ⟨g2, 7, none⟩)),
          isV (.slice (some ⟨b2, o2, none⟩) es2.length d2),
          isV (.int .i64 ((j : Int))),
          isV (.pointer (some ⟨b2, o2 + j, none⟩)),
          isV (v2),
          isV (.bool (decide (es1[j] = es2[j]))),
          isV (.bool (decide (es1[j] = es2[j])))]
        [([], []), ([0], [(31, 0)]), ([], []), ([1, 2], [(32, 1), (33, 2)]), ([3], [(34, 3)]), ([], []), ([5], [(36, 5)]), ([], []), ([6, 7], [(37, 6), (38, 7)]), ([8], [(39, 8)]), ([4, 9], [(35, 4), (40, 9)]), ([10], [(41, 10)])] 70 rfl (by kernel_rfl) (by kernel_rfl) (by kernel_rfl) ?st7 ?ow7 ?_
      case st7 =>
        simp only [List.forall_mem_cons]
        and_intros
        all_goals first | exact isV_st _ | exact sl_st _ | exact anyV_st | simp
      case ow7 =>
        simp only [OwedQ]
        and_intros
        all_goals try trivial
        all_goals
          intro V W kW hp
          try simp only [List.forall_mem_cons, tab_zero, tab_succ, isV] at hp
          try simp [wantsG, rhoP, List.lookup, hp, tab_zero, tab_succ, ResG, execOp, bareOp, isV, Below.refl, kW, rx, ry, p1, p2, hji, hlt2i, go_sem]
        · refine (Same_evt (evt_st _ _ _ _ hev1 (kr.tr kW)) (evt_st _ _ _ _ hev2 (kr.tr kW)) hsz).mono ?_
          rintro e w'' ⟨rfl, hb⟩
          exact ⟨_, rfl, rfl, hb⟩
      intro V W kW hp
      have h11 := hp 11 (by simp)
      simp only [tab_zero, tab_succ, isV] at h11
      clear hp
      simp only [putAll, Act.put, List.setIfInBounds_toArray, List.set_cons_succ, List.set_cons_zero, h11]
      have krW := kr.tr kW
      clear rx ry p1 p2 hev1 hev2 kk
      generalize hq : decide (es1[j] = es2[j]) = q at *
      have HQ := Lib.hid hq
      clear hq
      cases q
      · have HR : Hid (R = false) := Lib.hid (by
          rw [HI.out, show decide (es1 = es2) = false from ?_]
          · simp
          · simp only [decide_eq_false_iff_not]
            rintro rfl
            have := HQ.out
            simp at this)
        go_wp2
        go_ret
        exact ⟨by rw [HR.out]; rfl, k2.tr krW⟩
      · have HT2 : Hid (es1.take (j + 1) = es2.take (j + 1)) := Lib.hid (HB.out.2 (of_decide_eq_true HQ.out))
        go_wp2
        go_roundw
        case rel => exact ⟨j + 1, by omega, by go_num, HT2, krW⟩
        case measure => simp [intOf]; omega
    · have hji : ¬ (j : Int) < (es1.length : Int) := by omega
      have HR : Hid (R = (decide (kx = ky) && (decide (bx = by_) && decide (lx = ly) && decide (sx = sy)) && decide (cx = cy) && decide (ux = uy))) := Lib.hid (by
        have h1 := HT.out
        have h2 := HLE.out
        rw [List.take_of_length_le (by omega), List.take_of_length_le (by omega)] at h1
        rw [HI.out, hfe, h1]; simp)
      have kW := k2.tr kr
      clear HI HT HLE HS3 he1 he2 hle'
      go_wp2
      all_goals
        go_ret
        refine ⟨?_, kW⟩
        rw [HR.out]
        show Ending.returned (.bool _) = Ending.returned (.bool _)
        clear qx qy
        first | (simp_all; done) | (simp_all; omega) | (congr 2; rw [Bool.eq_iff_iff]; simp_all; omega)

/-- Few. -/
def fewEn (x : Ent) : Bool := decide (x.es.length ≤ 10) && x.es.all fewE && fewF x.f
theorem fewEn_small {x : Ent} (h : fewEn x = true) : smallEn x := by
  simp only [fewEn, Bool.and_eq_true, decide_eq_true_eq, List.all_eq_true] at h
  exact ⟨(fewF_fit h.2).1, by omega, fun e he => (few_fit (h.1.2 e he)).1⟩
set_option maxHeartbeats 2000000 in
theorem EFew_calls (x : Ent) (v : Value) (w : World) (h : ent x v w) :
    Calls Try.prog 74 #[v] w fun e w' => e = .returned (.bool (fewEn x)) ∧ K w w' := by
  obtain ⟨vf, ve, rfl, hf, he⟩ := h
  obtain ⟨A, c, rfl⟩ := flt_slice hf
  obtain ⟨D, d, e0, he, hd⟩ := he
  obtain rfl := e0
  obtain ⟨k, b, l, s, cl, u, f, es⟩ := x
  simp only at hf he hd ⊢
  have hx := Blk.new w 58 (entA ⟨k, b, l, s, cl, u, f, es⟩ (.slice A f.length c) (.slice D es.length d))
  have k1 : K w (w.alloc (.cells (entA ⟨k, b, l, s, cl, u, f, es⟩ (.slice A f.length c) (.slice D es.length d)) 58)) := (K.rf w).al _
  have HI : Hid (fewEn ⟨k, b, l, s, cl, u, f, es⟩ = (decide (es.length ≤ 10) && es.all fewE && fewF f)) := Lib.hid rfl
  generalize fewEn ⟨k, b, l, s, cl, u, f, es⟩ = R at *
  by_cases h10 : es.length ≤ 10
  rotate_left
  · have h10' : (10 : Int) < (es.length : Int) := by omega
    have HR : Hid (R = false) := Lib.hid (by rw [HI.out]; simp [h10])
    clear HI
    go_enter Try.func74, Try.ntmps74
    go_wp2
    go_ret
    exact ⟨by rw [HR.out]; rfl, k1⟩
  have h10' : ¬ (10 : Int) < (es.length : Int) := by omega
  go_enter Try.func74, Try.ntmps74
  go_upto_region 3 with (fail)
  generalize w.alloc _ = w1 at *
  generalize w.heap.size = g at hx ⊢
  have qx := hx.cells
  have kk := K.rf w1
  have hf1 := flt_st _ _ _ _ hf k1
  have he1 := lsr_st he k1
  clear hf he
  go_wp2_with fail
  go_loopw [3, 4] (fun i _ wr => ∃ j : Nat, j ≤ es.length ∧ i = .int .i64 (j : Int) ∧ Hid ((es.take j).all fewE = true) ∧ K w1 wr) (fun i _ _ => es.length - (intOf i).toNat)
  case atStart => exact ⟨0, by omega, rfl, Lib.hid (by simp), kk⟩
  case round =>
    clear kk
    obtain ⟨j, hj, rfl, HT, kr⟩ := hrel
    by_cases hlt : j < es.length
    · have hji : (j : Int) < (es.length : Int) := by omega
      obtain ⟨b1, off, cs, rfl, hb1, hcl, ⟨ve, rfl, hev⟩, hcell⟩ := lsr_at he1 j hlt (by decide)
      have d0 : wr.cell? ⟨b1, off + j, none⟩ = some ve := by
        have := hcell 0 (by decide)
        rw [kr.cell (by simpa using hb1)]
        simpa [evS] using this
      have HS := Lib.hid (all_take_succ fewE es j hlt)
      have hevr := evt_st _ _ _ _ hev kr
      generalize es[j] = ej at *
      clear hcell hev
      go_wp2_with fail
      refine (Few_evt hevr).mono ?_
      rintro e w' ⟨rfl, rfl⟩
      cases hq : fewE ej
      · have HR : Hid (R = false) := Lib.hid (by
          have : (es.take (j + 1)).all fewE = false := by rw [HS.out, hq]; simp
          have := all_take_bad fewE es (j + 1) this
          rw [HI.out, this]; simp)
        go_wp2
        go_ret
        exact ⟨by rw [HR.out]; rfl, k1.tr kr⟩
      · have HT2 : Hid ((es.take (j + 1)).all fewE = true) := Lib.hid (by rw [HS.out, hq, HT.out]; rfl)
        go_wp2
        go_roundw
        case rel => exact ⟨j + 1, by omega, by go_num, HT2, kr⟩
        case measure => simp [intOf]; omega
    · have hji : ¬ (j : Int) < (es.length : Int) := by omega
      have HR : Hid (R = fewF f) := Lib.hid (by
        have h1 := HT.out
        rw [List.take_of_length_le (by omega)] at h1
        rw [HI.out, h1]; simp [h10])
      go_wp2_with fail
      refine (FFew_flt (flt_st _ _ _ _ hf1 kr)).mono ?_
      rintro e w' ⟨rfl, rfl⟩
      go_wp2
      go_ret
      exact ⟨by rw [HR.out]; rfl, k1.tr kr⟩
end Go.Proofs.Ythnhdeieimgfhaa
