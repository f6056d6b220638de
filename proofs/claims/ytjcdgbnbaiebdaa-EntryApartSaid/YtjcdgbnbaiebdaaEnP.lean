/-
  What is decoded fits: entries and records in plain Lean. Conditions: none.
-/
import Derived.Test.YtjcdgbnbaiebdaaEnR
namespace Go.Proofs.Ytjcdgbnbaiebdaa
open Go Go.RowKit

theorem rdEv_fit (n : Int) (l : List UInt8) (wr : Bool) : ∀ a ∈ (rdEv n l wr).1, fitA a := by
  simp only [rdEv]
  cases hd : decE (rdB n l wr).1 with
  | none => simp
  | some e => exact (decE_back hd).2.2
theorem rdFi_fit (n : Int) (l : List UInt8) (wr : Bool) : ∀ a ∈ (rdFi n l wr).1, fitT a := by
  simp only [rdFi]
  cases hd : decF8 (rdB n l wr).1 with
  | none => simp
  | some e => exact (decF_back hd).2.2
theorem rd6_lt (l : List UInt8) (wr : Bool) : (rd6 l wr).1.2.2.1 < 18446744073709551616 ∧ (rd6 l wr).1.2.2.2.1 < 18446744073709551616 ∧ (rd6 l wr).1.2.2.2.2.2 < 18446744073709551616 :=
  ⟨rdN_lt _ _, rdN_lt _ _, rdN_lt _ _⟩
theorem hdEn_fit (a : Nat × Nat × Nat × Nat × Nat × Nat) (f : List Tst) (es : List (List Att)) (h1 : a.2.2.1 < 18446744073709551616) (h2 : a.2.2.2.1 < 18446744073709551616) (h3 : a.2.2.2.2.2 < 18446744073709551616) (hf : ∀ t ∈ f, fitT t) (he : ∀ e ∈ es, ∀ a ∈ e, fitA a) :
    fitEn { hdEn a with f := f, es := es } := by
  refine ⟨?_, ?_, ?_, h1, h2, h3, hf, he⟩
  · simp only [hdEn, i64ok]; omega
  · simp only [hdEn, i64ok]; omega
  · simp only [hdEn, i64ok]; omega
theorem rdEn_fit (n : Int) (l : List UInt8) (wr : Bool) : fitEn (rdEn n l wr).1 := by
  obtain ⟨h1, h2, h3⟩ := rd6_lt l wr
  unfold rdEn
  split
  · exact hdEn_fit _ [] _ h1 h2 h3 (by simp) (rdL_all (fun e => ∀ a ∈ e, fitA a) (rdEv_fit n) _ _ _)
  · split
    · exact hdEn_fit _ _ [] h1 h2 h3 (rdFi_fit n _ _) (by simp)
    · exact hdEn_fit _ [] [] h1 h2 h3 (by simp) (by simp)
theorem decEn_fit {b : List UInt8} {x : Ent} (h : decEn b = some x) : fitEn x := by
  unfold decEn at h
  split at h
  · injection h with h
    rw [← h]
    exact rdEn_fit _ _ _
  · cases h
theorem ent0_fit : fitEn ent0 := by simp [fitEn, ent0, i64ok]
theorem rdRec_fit (n : Int) (l : List UInt8) (wr : Bool) : fitRec (rdRec n l wr).1 := by
  have h0 : ∀ (k m : Nat) (e : Ent) (b c d : Nat), fitEn e → m < 18446744073709551616 → c < 18446744073709551616 → d < 18446744073709551616 → fitRec ⟨(min k 6 : Nat), m, e, (min b 16 : Nat), c, d⟩ := by
    intro k m e b c d he hm hc hd
    refine ⟨?_, hm, he, ?_, hc, hd⟩
    · simp only [i64ok]; omega
    · simp only [i64ok]; omega
  unfold rdRec
  simp only
  split
  · split
    · simp [fitRec, rec0, i64ok, ent0_fit]
    · rename_i e he
      have := h0 (rdN l wr).1 _ _ 0 0 0 (decEn_fit he) (rdN_lt (rdN l wr).2.1 (rdN l wr).2.2) (by omega) (by omega)
      simpa using this
  · split
    · exact h0 _ _ _ _ _ _ ent0_fit (rdN_lt _ _) (rdN_lt _ _) (rdN_lt _ _)
    · have := h0 (rdN l wr).1 _ _ 0 0 0 ent0_fit (rdN_lt (rdN l wr).2.1 (rdN l wr).2.2) (by omega) (by omega)
      simpa using this
theorem decRec_fit {b : List UInt8} {x : Rec} (h : decRec b = some x) : fitRec x := by
  unfold decRec at h
  split at h
  · injection h with h
    rw [← h]
    exact rdRec_fit _ _ _
  · cases h
/-- With a byte more behind them bytes are none. -/
theorem decEn_more (x : Ent) (h : okEn x = true) (hf : fitEn x) (by_ : UInt8) : decEn (encEn x ++ [by_]) = none := by
  cases hd : decEn (encEn x ++ [by_]) with
  | none => rfl
  | some y =>
    exfalso
    obtain ⟨e1, oy⟩ := decEn_back hd
    have fy := decEn_fit hd
    have hl : (encEn x).length + 1 = (encEn y).length := by rw [← e1]; simp
    have h1 := rdEn_fwd 30000 x h hf (fun e he => by
      obtain ⟨_, _, hk⟩ := okEn_parts h
      rcases hk with ⟨_, _, _, _, hall⟩ | ⟨_, _, hn⟩ | ⟨_, hn, _⟩
      · have := encE_len (hall e he) (hf.2.2.2.2.2.2.2 e he); omega
      · rw [hn] at he; cases he
      · rw [hn] at he; cases he) (by
      obtain ⟨_, _, hk⟩ := okEn_parts h
      rcases hk with ⟨_, _, hn, _⟩ | ⟨_, hn, _⟩ | ⟨_, _, hok⟩
      · rw [hn]; have : (encF []).length = 1 := by simp [encF, packN, longN, be]
        omega
      · rw [hn]; have : (encF []).length = 1 := by simp [encF, packN, longN, be]
        omega
      · have := encF_most hok hf.2.2.2.2.2.2.1; omega) (by
      obtain ⟨_, _, hk⟩ := okEn_parts h
      rcases hk with ⟨_, _, hn, _⟩ | ⟨_, hn, _⟩ | ⟨_, _, hok⟩
      · rw [hn]; have : (encF []).length = 1 := by simp [encF, packN, longN, be]
        omega
      · rw [hn]; have : (encF []).length = 1 := by simp [encF, packN, longN, be]
        omega
      · have := encF_most hok hf.2.2.2.2.2.2.1; omega) [by_]
    have h2 := rdEn_fwd 30000 y oy fy (fun e he => by
      obtain ⟨_, _, hk⟩ := okEn_parts oy
      rcases hk with ⟨_, _, _, _, hall⟩ | ⟨_, _, hn⟩ | ⟨_, hn, _⟩
      · have := encE_len (hall e he) (fy.2.2.2.2.2.2.2 e he); omega
      · rw [hn] at he; cases he
      · rw [hn] at he; cases he) (by
      obtain ⟨_, _, hk⟩ := okEn_parts oy
      rcases hk with ⟨_, _, hn, _⟩ | ⟨_, hn, _⟩ | ⟨_, _, hok⟩
      · rw [hn]; have : (encF []).length = 1 := by simp [encF, packN, longN, be]
        omega
      · rw [hn]; have : (encF []).length = 1 := by simp [encF, packN, longN, be]
        omega
      · have := encF_most hok fy.2.2.2.2.2.2.1; omega) (by
      obtain ⟨_, _, hk⟩ := okEn_parts oy
      rcases hk with ⟨_, _, hn, _⟩ | ⟨_, hn, _⟩ | ⟨_, _, hok⟩
      · rw [hn]; have : (encF []).length = 1 := by simp [encF, packN, longN, be]
        omega
      · rw [hn]; have : (encF []).length = 1 := by simp [encF, packN, longN, be]
        omega
      · have := encF_most hok fy.2.2.2.2.2.2.1; omega) []
    rw [List.append_nil, ← e1, h1] at h2
    simp at h2
theorem decRec_more (x : Rec) (h : okRec x = true) (hf : fitRec x) (by_ : UInt8) : decRec (encRec x ++ [by_]) = none := by
  cases hd : decRec (encRec x ++ [by_]) with
  | none => rfl
  | some y =>
    exfalso
    obtain ⟨e1, oy⟩ := decRec_back hd
    have fy := decRec_fit hd
    have hle : ∀ z : Rec, okRec z = true → fitRec z → ((encEn z.e).length : Int) ≤ 30000 ∧ (encEn z.e).length < 18446744073709551616 := by
      intro z hz fz
      rcases okRec_kind hz with ⟨_, he, _⟩ | ⟨_, he, _⟩ | ⟨_, _, _, he⟩
      · rw [he, encEn_0]; omega
      · have := encEn_len he fz.2.2.1; omega
      · rw [he, encEn_0]; omega
    have h1 := rdRec_fwd 30000 x h hf (hle x h hf).1 (hle x h hf).2 [by_]
    have h2 := rdRec_fwd 30000 y oy fy (hle y oy fy).1 (hle y oy fy).2 []
    rw [List.append_nil, ← e1, h1] at h2
    simp at h2
end Go.Proofs.Ytjcdgbnbaiebdaa
