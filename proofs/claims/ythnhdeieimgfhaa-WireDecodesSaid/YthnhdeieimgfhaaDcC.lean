/-
  Plain laws of what the document's answer of layer 11 decodes. Conditions: at most four thousand bytes.
-/
import Derived.Test.YthnhdeieimgfhaaDcB
set_option maxRecDepth 100000
namespace Go.Proofs.Ythnhdeieimgfhaa
open Go Go.RowKit

theorem rdB_eq {a b : Int} (ha : 0 ≤ a) (hb : 0 ≤ b) (l : List UInt8) (wr : Bool) (h1 : (l.length : Int) ≤ a) (h2 : (l.length : Int) ≤ b) : rdB a l wr = rdB b l wr := by
  have := rdN_len l wr
  unfold rdB
  have e : ((rdN l wr).2.2 || decide (a < 0) || decide (a.toNat < (rdN l wr).1) || decide ((rdN l wr).2.1.length < (rdN l wr).1)) = ((rdN l wr).2.2 || decide (b < 0) || decide (b.toNat < (rdN l wr).1) || decide ((rdN l wr).2.1.length < (rdN l wr).1)) := by
    rw [Bool.eq_iff_iff]
    simp only [Bool.or_eq_true, decide_eq_true_eq]
    constructor
    · rintro (((h | h) | h) | h)
      · exact .inl (.inl (.inl h))
      · omega
      · exact .inr (by omega)
      · exact .inr h
    · rintro (((h | h) | h) | h)
      · exact .inl (.inl (.inl h))
      · omega
      · exact .inr (by omega)
      · exact .inr h
  rw [e]
theorem rdEv_eq {a b : Int} (ha : 0 ≤ a) (hb : 0 ≤ b) (l : List UInt8) (wr : Bool) (h1 : (l.length : Int) ≤ a) (h2 : (l.length : Int) ≤ b) : rdEv a l wr = rdEv b l wr := by
  unfold rdEv; rw [rdB_eq ha hb l wr h1 h2]
theorem rdFi_eq {a b : Int} (ha : 0 ≤ a) (hb : 0 ≤ b) (l : List UInt8) (wr : Bool) (h1 : (l.length : Int) ≤ a) (h2 : (l.length : Int) ≤ b) : rdFi a l wr = rdFi b l wr := by
  unfold rdFi; rw [rdB_eq ha hb l wr h1 h2]
theorem rdLEv_eq {a b : Int} (ha : 0 ≤ a) (hb : 0 ≤ b) (l : List UInt8) (wr : Bool) (h1 : (l.length : Int) ≤ a) (h2 : (l.length : Int) ≤ b) (k : Nat) : rdL (rdEv a) k l wr = rdL (rdEv b) k l wr := by
  induction k with
  | zero => rfl
  | succ k ih =>
    have := (rdL_len (rdEv_codec b) k l wr).1
    simp only [rdL]
    rw [ih, rdEv_eq ha hb _ _ (by omega) (by omega)]
/-- The head that the document's answer reads. -/
def hdR (a : Nat × Nat × Nat × Nat × Nat × Nat) : Ent := ⟨(min a.1 1000 : Nat), (min a.2.1 1000 : Nat), a.2.2.1, a.2.2.2.1, (min a.2.2.2.2.1 1000 : Nat), a.2.2.2.2.2, [], []⟩
def finD (ok : Bool) (x : Ent) : Option Ent := if ok && okEn x then some x else none
theorem okEn_hd (a : Nat × Nat × Nat × Nat × Nat × Nat) (f : List Tst) (es : List (List Att)) :
    okEn { hdEn a with f := f, es := es } = okEn { hdR a with f := f, es := es } ∧ (okEn { hdR a with f := f, es := es } = true → ({ hdEn a with f := f, es := es } : Ent) = { hdR a with f := f, es := es }) := by
  obtain ⟨k, br, li, se, cl, su⟩ := a
  by_cases h : k < 4 ∧ br < 16 ∧ cl < 32
  · have e1 : min k 4 = min k 1000 := by omega
    have e2 : min br 16 = min br 1000 := by omega
    have e3 : min cl 32 = min cl 1000 := by omega
    simp only [hdEn, hdR, e1, e2, e3]
    exact ⟨trivial, fun _ => trivial⟩
  · have h1 : okEn { hdEn (k, br, li, se, cl, su) with f := f, es := es } = false := by
      cases ho : okEn { hdEn (k, br, li, se, cl, su) with f := f, es := es }
      · rfl
      · have := okEn_parts ho
        simp only [hdEn] at this
        omega
    have h2 : okEn { hdR (k, br, li, se, cl, su) with f := f, es := es } = false := by
      cases ho : okEn { hdR (k, br, li, se, cl, su) with f := f, es := es }
      · rfl
      · have := okEn_parts ho
        simp only [hdR] at this
        omega
    rw [h1, h2]
    exact ⟨rfl, fun h => by cases h⟩
theorem fin_hd (a : Nat × Nat × Nat × Nat × Nat × Nat) (f : List Tst) (es : List (List Att)) (ok : Bool) :
    (if ok && okEn { hdEn a with f := f, es := es } then some ({ hdEn a with f := f, es := es } : Ent) else none) = finD ok { hdR a with f := f, es := es } := by
  obtain ⟨h1, h2⟩ := okEn_hd a f es
  unfold finD
  rw [h1]
  cases ho : okEn { hdR a with f := f, es := es }
  · simp
  · rw [h2 ho]
theorem rdFi_bad (n : Int) (l : List UInt8) : (rdFi n l true).2.2 = true := by
  unfold rdFi
  split
  · rfl
  · exact rdB_true n l
theorem decEn_ref {b : List UInt8} (hb : b.length ≤ 4000) {k br li se cl su : Nat} {l : List UInt8} {wr : Bool} (h : rd6 b false = ((k, br, li, se, cl, su), l, wr)) (hl : l.length ≤ b.length) :
    (wr = true → decEn b = none) ∧
    (wr = false → k = 1 → decEn b = finD (lsP l).isSome { hdR (k, br, li, se, cl, su) with es := (lsP l).getD [] }) ∧
    (wr = false → k = 2 → decEn b = finD ((decide (0 < getBK 4000 l) && decide (getBK 4000 l = l.length)) && (decF8 (rdB 4000 l false).1).isSome) { hdR (k, br, li, se, cl, su) with f := decFL (rdB 4000 l false).1 }) ∧
    (wr = false → k ≠ 1 → k ≠ 2 → decEn b = finD l.isEmpty (hdR (k, br, li, se, cl, su))) := by
  obtain ⟨P1, P2, P3⟩ := decEn_parts b k br li se cl su l wr h
  refine ⟨?_, ?_, ?_, ?_⟩
  · rintro rfl
    by_cases h1 : min k 4 = 1
    · rw [P1 h1 0 l true (rdN_true l)]
      simp [rdL]
    · by_cases h2 : min k 4 = 2
      · rw [P2 h2, rdFi_bad]; rfl
      · rw [P3 h1 h2]; rfl
  · rintro rfl rfl
    obtain ⟨m, l1, w1, hn⟩ : ∃ m l1 w1, rdN l false = (m, l1, w1) := ⟨_, _, _, rfl⟩
    have hl1 : l1.length ≤ l.length := by
      have := rdN_len l false
      rwa [hn] at this
    rw [P1 (by decide) m l1 w1 hn, rdLEv_eq (b := 4000) (by omega) (by omega) l1 w1 (by omega) (by omega)]
    have hls : lsP l = if w1 || decide (8 < m) then none else if (rdL (rdEv 4000) m l1 false).2.2 || !(rdL (rdEv 4000) m l1 false).2.1.isEmpty then none else some (rdL (rdEv 4000) m l1 false).1 := by
      unfold lsP; rw [hn]
    cases w1
    · by_cases h8 : 8 < m
      · have e : lsP l = none := by rw [hls]; simp [h8]
        rw [e]
        have hlen := (rdL_len (rdEv_codec 4000) (min m 9) l1 false).2
        have hno : okEn { hdEn (1, br, li, se, cl, su) with es := (rdL (rdEv 4000) (min m 9) l1 false).1 } = false := by
          cases ho : okEn { hdEn (1, br, li, se, cl, su) with es := (rdL (rdEv 4000) (min m 9) l1 false).1 }
          · rfl
          · have := okEn_parts ho
            simp only [hdEn] at this
            omega
        rw [hno]
        simp [finD]
      · have e : min m 9 = m := by omega
        rw [e]
        have e2 : lsP l = if (rdL (rdEv 4000) m l1 false).2.2 || !(rdL (rdEv 4000) m l1 false).2.1.isEmpty then none else some (rdL (rdEv 4000) m l1 false).1 := by rw [hls]; simp [h8]
        have hf := fin_hd (1, br, li, se, cl, su) [] (rdL (rdEv 4000) m l1 false).1 (!(rdL (rdEv 4000) m l1 false).2.2 && (rdL (rdEv 4000) m l1 false).2.1.isEmpty)
        rw [e2]
        cases hx : (rdL (rdEv 4000) m l1 false).2.2
        · cases hy : (rdL (rdEv 4000) m l1 false).2.1.isEmpty
          · simp [finD]
          · rw [hx, hy] at hf
            simpa [hdEn, hdR] using hf
        · simp [finD]
    · have hbad : (rdL (rdEv 4000) (min m 9) l1 true).2.2 = true := by
        have := rdL_bad (rdEv_codec 4000) (k := 0) (l := l1) (wr := true) rfl (min m 9)
        rwa [Nat.zero_add] at this
      rw [hbad, hls]
      simp [finD]
  · rintro rfl rfl
    rw [P2 (by decide), rdFi_eq (b := 4000) (by omega) (by omega) l false (by omega) (by omega)]
    cases hd : decF8 (rdB 4000 l false).1 with
    | none =>
      rw [rdFi_none hd]
      simp [finD]
    | some f =>
      rw [rdFi_some hd, (decF_some' hd).2]
      have hf := fin_hd (2, br, li, se, cl, su) f [] (decide (0 < getBK 4000 l) && decide (getBK 4000 l = l.length))
      have e : (!(rdB 4000 l false).2.2 && (rdB 4000 l false).2.1.isEmpty) = (decide (0 < getBK 4000 l) && decide (getBK 4000 l = l.length)) := by
        by_cases hk : getBK 4000 l = 0
        · rw [getBK_bad hk, hk]; simp
        · have hg := getBK_good hk
          have h1 : (rdB 4000 l false).2 = (l.drop (getBK 4000 l), false) := by rw [hg]
          rw [h1]
          have := getBK_le 4000 l
          rw [Bool.eq_iff_iff]
          simp only [Bool.not_false, Bool.true_and, List.isEmpty_iff, List.drop_eq_nil_iff, Bool.and_eq_true, decide_eq_true_eq]
          omega
      simp only [Option.isSome_some, Bool.and_true]
      rw [← e] at hf ⊢
      simpa [hdEn, hdR] using hf
  · rintro rfl h1 h2
    have e1 : min k 4 ≠ 1 := by omega
    have e2 : min k 4 ≠ 2 := by omega
    rw [P3 e1 e2]
    have hf := fin_hd (k, br, li, se, cl, su) [] [] l.isEmpty
    simpa [hdEn, hdR] using hf
theorem u64L_cells {l : List Nat} {A : Option Addr} {w : World} (h : lsr u64S l A w) (hl : 0 < l.length) : ∃ b off, A = some ⟨b, off, none⟩ ∧ ∀ i (hi : i < l.length) W, K w W → W.cell? ⟨b, off + i, none⟩ = some (.int .u64 (l[i] : Int)) := by
  obtain ⟨b, off, cs, hA, -, -, -, -⟩ := lsr_at h 0 hl (by decide)
  refine ⟨b, off, hA, fun i hi W k => ?_⟩
  obtain ⟨b', off', cs, hA', hlt, -, hr, hc⟩ := lsr_at h i hi (by decide)
  rw [hA] at hA'
  simp at hA'
  obtain ⟨rfl, rfl⟩ := hA'
  have hc0 := hc 0 (by decide)
  obtain rfl : cs = [.int .u64 (l[i] : Int)] := hr
  refine (k.cell (p := ⟨b, off + i, none⟩) hlt).trans ?_
  have : u64S.size = 1 := rfl
  simpa [this] using hc0
theorem rd6_list (b : List UInt8) : ∃ k br li se cl su l wr, rd6 b false = ((k, br, li, se, cl, su), l, wr) ∧ rdL rdN 6 b false = ([k, br, li, se, cl, su], l, wr) ∧ l.length ≤ b.length ∧
    k < 18446744073709551616 ∧ br < 18446744073709551616 ∧ li < 18446744073709551616 ∧ se < 18446744073709551616 ∧ cl < 18446744073709551616 ∧ su < 18446744073709551616 := by
  refine ⟨_, _, _, _, _, _, _, _, rfl, rfl, ?_, rdN_lt _ _, rdN_lt _ _, rdN_lt _ _, rdN_lt _ _, rdN_lt _ _, rdN_lt _ _⟩
  exact (rdNL_len 6 b false).1
theorem decE_lit {b : List UInt8} {e : List Att} (h : decE b = some e) : litE e := by
  unfold decE at h
  split at h
  · rename_i hq
    injection h with h
    simp only [Bool.and_eq_true, okE, decide_eq_true_eq] at hq
    subst h
    exact ⟨by omega, fun x hx => by have := (rdAs_fit _ _ _ x hx).2; omega⟩
  · cases h
theorem rdEv_lit (n : Int) (l : List UInt8) (wr : Bool) : litE (rdEv n l wr).1 := by
  unfold rdEv
  split
  · exact ⟨by simp, by simp⟩
  · rename_i e he; exact decE_lit he
theorem lsP_lit {l : List UInt8} : ((lsP l).getD []).length ≤ 8 ∧ ∀ e ∈ (lsP l).getD [], litE e := by
  unfold lsP
  split
  · exact ⟨by simp, by simp⟩
  · rename_i hq
    simp only [Bool.or_eq_true, decide_eq_true_eq, not_or] at hq
    split
    · exact ⟨by simp, by simp⟩
    · have := (rdL_len (rdEv_codec 4000) (rdN l false).1 (rdN l false).2.1 false).2
      exact ⟨by simp only [Option.getD_some]; omega, rdL_all _ (fun l wr => rdEv_lit 4000 l wr) _ _ _⟩
end Go.Proofs.Ythnhdeieimgfhaa
