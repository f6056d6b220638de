/-
  Plain laws of events: what is encoded is decoded, and what is decoded was encoded so; what is found; what may be left away. Conditions: none beyond those stated.
-/
import Derived.Test.YtjcdgbnbaiebdaaEvE
import Derived.Test.YtjcdgbnbaiebdaaEvH
import Derived.Test.YtjcdgbnbaiebdaaEvDp
set_option maxRecDepth 100000
namespace Go.Proofs.Ytjcdgbnbaiebdaa
open Go Go.RowKit

/-- Numbers that fit. -/
def fitA (x : Att) : Prop := i64ok x.2.1 ∧ i64ok x.2.2.1

theorem bytes_of (s : ByteArray) : (⟨(byt s).toArray⟩ : ByteArray) = s := by cases s; simp
theorem byt_mk (l : List UInt8) : byt ⟨l.toArray⟩ = l := by simp [byt]
theorem byt_len (s : ByteArray) : (byt s).length = s.size := by simp

theorem rdA_enc (x : Att) (hx : okA x = true) (hf : fitA x) (rest : List UInt8) : rdA (encA x ++ rest) false = (x, rest, false) := by
  obtain ⟨h16, h40⟩ := okA_sizes hx
  obtain ⟨s, k, n, t⟩ := x
  have hv : okV k n t = true := by simp only [okA, Bool.and_eq_true] at hx; exact hx.2
  have e1 : rdB 16 (encA (s, k, n, t) ++ rest) false = (byt s, packV k n t ++ rest, false) := by
    have := rdB_pack 16 (byt s) (by rw [byt_len]; simp at h16; omega) (by rw [byt_len]; simp at h16; omega) (packV k n t ++ rest)
    rw [byt_len] at this
    simp only [encA]
    rw [List.append_assoc (packN s.size ++ byt s)]
    exact this
  have e2 := rdV_pack k n t hv hf.2.1 hf.2.2 rest
  unfold rdA
  rw [e1]
  simp only
  rw [e2]
theorem rdAs_enc (l : List Att) (h : ∀ x ∈ l, okA x = true ∧ fitA x) (rest : List UInt8) : ∀ k, k ≤ l.length → rdAs k (l.flatMap encA ++ rest) false = (l.take k, (l.drop k).flatMap encA ++ rest, false) := by
  intro k
  induction k with
  | zero => intro _; simp [rdAs]
  | succ k ih =>
    intro hk
    have hk' : k < l.length := by omega
    have hd : l.drop k = l[k] :: l.drop (k + 1) := by rw [List.getElem_cons_drop]
    have hx := h l[k] (List.getElem_mem hk')
    show ((rdAs k (l.flatMap encA ++ rest) false).1 ++ [(rdA (rdAs k (l.flatMap encA ++ rest) false).2.1 (rdAs k (l.flatMap encA ++ rest) false).2.2).1], (rdA (rdAs k (l.flatMap encA ++ rest) false).2.1 (rdAs k (l.flatMap encA ++ rest) false).2.2).2) = _
    rw [ih (by omega)]
    simp only
    rw [hd, List.flatMap_cons, List.append_assoc, rdA_enc _ hx.1 hx.2, List.take_succ_eq_append_getElem hk']
theorem dec_parts (l : List Att) (hl : okE l = true) (hf : ∀ x ∈ l, fitA x) (rest : List UInt8) : rdN (encE l ++ rest) false = (l.length, l.flatMap encA ++ rest, false) ∧ decS (encE l ++ rest) = (l, rest, false) := by
  obtain ⟨h1, h2, h3⟩ := okE_parts hl
  have e1 : rdN (encE l ++ rest) false = (l.length, l.flatMap encA ++ rest, false) := by
    unfold encE; rw [List.append_assoc]; exact rdN_pack l.length (by omega) _
  refine ⟨e1, ?_⟩
  have h5 := rdAs_enc l (fun x hx => ⟨okL_all h3 x hx, hf x hx⟩) rest l.length (Nat.le_refl _)
  unfold decS
  rw [e1]
  simpa using h5
theorem decE_enc (l : List Att) (hl : okE l = true) (hf : ∀ x ∈ l, fitA x) : decE (encE l) = some l := by
  have h := dec_parts l hl hf []
  rw [List.append_nil] at h
  have h2 := (okE_parts hl).2.1
  unfold decE
  rw [h.2, h.1]
  simp [hl, h2]
theorem decE_more (l : List Att) (hl : okE l = true) (hf : ∀ x ∈ l, fitA x) (b : UInt8) : decE (encE l ++ [b]) = none := by
  have h := dec_parts l hl hf [b]
  unfold decE
  rw [h.2]
  simp

theorem rdA_back {l : List UInt8} {wr : Bool} (h : (rdA l wr).2.2 = false) : l = encA (rdA l wr).1 ++ (rdA l wr).2.1 ∧ wr = false := by
  obtain ⟨e2, _, w2, _⟩ := rdV_back (l := (rdB 16 l wr).2.1) (wr := (rdB 16 l wr).2.2) h
  obtain ⟨e1, _, w1⟩ := rdB_back w2
  refine ⟨?_, w1⟩
  unfold rdA encA
  simp only
  rw [byt_mk]
  have hs : (⟨(rdB 16 l wr).1.toArray⟩ : ByteArray).size = (rdB 16 l wr).1.length := by simp [ByteArray.size]
  rw [hs, List.append_assoc, ← e2]
  exact e1
theorem rdAs_back {k : Nat} {l : List UInt8} {wr : Bool} (h : (rdAs k l wr).2.2 = false) : l = (rdAs k l wr).1.flatMap encA ++ (rdAs k l wr).2.1 ∧ wr = false := by
  induction k with
  | zero => exact ⟨by simp [rdAs], h⟩
  | succ k ih =>
    obtain ⟨e1, w1⟩ := rdA_back (l := (rdAs k l wr).2.1) (wr := (rdAs k l wr).2.2) h
    obtain ⟨e2, w2⟩ := ih w1
    refine ⟨?_, w2⟩
    show l = ((rdAs k l wr).1 ++ [(rdA (rdAs k l wr).2.1 (rdAs k l wr).2.2).1]).flatMap encA ++ (rdA (rdAs k l wr).2.1 (rdAs k l wr).2.2).2.1
    rw [List.flatMap_append, List.flatMap_cons, List.flatMap_nil, List.append_nil, List.append_assoc, ← e1]
    exact e2
theorem decE_back {b : List UInt8} {y : List Att} (h : decE b = some y) : b = encE y ∧ okE y = true ∧ ∀ x ∈ y, fitA x := by
  unfold decE at h
  split at h
  · rename_i hq
    injection h with h
    simp only [Bool.and_eq_true, Bool.not_eq_true', List.isEmpty_iff, decide_eq_true_eq] at hq
    obtain ⟨⟨⟨h16, hw⟩, hr⟩, hok⟩ := hq
    unfold decS at hw hr hok h
    obtain ⟨e2, w2⟩ := rdAs_back hw
    obtain ⟨e1, _⟩ := rdN_back w2
    have hlen := (rdAs_len (rdN b false).1 (rdN b false).2.1 (rdN b false).2.2).2
    have hfit := rdAs_fit (rdN b false).1 (rdN b false).2.1 (rdN b false).2.2
    rw [h] at e2 hlen hok hfit
    rw [hr, List.append_nil] at e2
    refine ⟨?_, hok, fun x hx => (hfit x hx).1⟩
    unfold encE
    rw [hlen, ← e2]
    exact e1
  · cases h
theorem encE_ne (l : List Att) : encE l ≠ [] := by simp [encE, packN]
theorem decE_less (l : List Att) (hl : okE l = true) (hf : ∀ x ∈ l, fitA x) : decE ((encE l).take ((encE l).length - 1)) = none := by
  cases h : decE ((encE l).take ((encE l).length - 1)) with
  | none => rfl
  | some y =>
    exfalso
    obtain ⟨e1, h2, h3⟩ := decE_back h
    have hne := encE_ne l
    have e2 : encE l = encE y ++ [(encE l).getLast hne] := by
      rw [← e1, ← List.dropLast_eq_take, List.dropLast_concat_getLast]
    have h4 := decE_more y h2 h3 ((encE l).getLast hne)
    rw [← e2, decE_enc l hl hf] at h4
    cases h4
theorem encE_inj (a b : List Att) (ha : okE a = true) (hb : okE b = true) (fa : ∀ x ∈ a, fitA x) (fb : ∀ x ∈ b, fitA x) (h : encE a = encE b) : a = b := by
  have h1 := decE_enc a ha fa
  rw [h, decE_enc b hb fb] at h1
  injection h1 with h1
  exact h1.symm

/-- Names rise: an earlier one comes before a later one. -/
theorem okL_rise {l : List Att} : ∀ {p : Option ByteArray}, okL p l = true → (∀ x ∈ l, behind p x.1 = true) ∧ l.Pairwise (fun x y => ltS x.1 y.1 = true) := by
  induction l with
  | nil => intro p _; simp
  | cons y l ih =>
    intro p h
    simp only [okL, Bool.and_eq_true] at h
    obtain ⟨⟨_, h1⟩, h2⟩ := h
    obtain ⟨i1, i2⟩ := ih h2
    refine ⟨?_, List.pairwise_cons.2 ⟨fun x hx => i1 x hx, i2⟩⟩
    intro x hx
    rcases List.mem_cons.1 hx with rfl | hx
    · exact h1
    · have h3 : ltS y.1 x.1 = true := i1 x hx
      cases p with
      | none => rfl
      | some s => exact ltS_trans h1 h3
theorem okL_of {l : List Att} : ∀ {p : Option ByteArray}, (∀ x ∈ l, okA x = true) → (∀ x ∈ l, behind p x.1 = true) → l.Pairwise (fun x y => ltS x.1 y.1 = true) → okL p l = true := by
  induction l with
  | nil => intro p _ _ _; rfl
  | cons y l ih =>
    intro p h1 h2 h3
    obtain ⟨h4, h5⟩ := List.pairwise_cons.1 h3
    simp only [okL, Bool.and_eq_true]
    exact ⟨⟨h1 y (by simp), h2 y (by simp)⟩, ih (fun x hx => h1 x (by simp [hx])) (fun x hx => h4 x hx) h5⟩
theorem ltS_ne {a b : ByteArray} (h : ltS a b = true) : a ≠ b := by
  rintro rfl; rw [ltS_irrefl] at h; cases h
theorem find_own (l : List Att) (h : okE l = true) (k : Nat) (hk : k < l.length) : l.find? (isN l[k].1) = some l[k] := by
  refine find_hit l _ k hk (by simp [isN]) fun x hx => ?_
  have hp := (okL_rise (okE_parts h).2.2).2
  obtain ⟨j, hj, rfl⟩ := List.mem_take_iff_getElem.1 hx
  have := (List.pairwise_iff_getElem.1 hp) j k (by omega) hk (by omega)
  simp [isN, ltS_ne this]
theorem find_some_any (l : List Att) (s : ByteArray) : (l.find? (isN s)).isSome = l.any (isN s) := by
  rw [Bool.eq_iff_iff, List.find?_isSome, List.any_eq_true]

/-- Without one of its attributes. -/
theorem okE_without (l : List Att) (h : okE l = true) (h2 : 2 ≤ l.length) (k : Nat) (hk : k < l.length) : okE (l.take k ++ l.drop (k + 1)) = true := by
  obtain ⟨_, h16, hL⟩ := okE_parts h
  have hr := okL_rise hL
  have ha := okL_all hL
  have hsub : (l.take k ++ l.drop (k + 1)).Sublist l := by
    have e : l = l.take k ++ l.drop k := (List.take_append_drop k l).symm
    conv => rhs; rw [e]
    refine List.Sublist.append (List.Sublist.refl _) ?_
    rw [← List.getElem_cons_drop hk]
    exact List.sublist_cons_self _ _
  have hlen : (l.take k ++ l.drop (k + 1)).length = l.length - 1 := by simp; omega
  simp only [okE, Bool.and_eq_true, decide_eq_true_eq, hlen]
  refine ⟨⟨by omega, by omega⟩, ?_⟩
  exact okL_of (fun x hx => ha x (hsub.subset hx)) (fun x hx => rfl) (hr.2.sublist hsub)
theorem find_without (l : List Att) (h : okE l = true) (k : Nat) (hk : k < l.length) : (l.take k ++ l.drop (k + 1)).find? (isN l[k].1) = none := by
  refine find_miss _ _ fun x hx => ?_
  have hp := (okL_rise (okE_parts h).2.2).2
  rcases List.mem_append.1 hx with hx | hx
  · obtain ⟨j, hj, rfl⟩ := List.mem_take_iff_getElem.1 hx
    have := (List.pairwise_iff_getElem.1 hp) j k (by omega) hk (by omega)
    simp [isN, ltS_ne this]
  · obtain ⟨j, hj, rfl⟩ := List.mem_drop_iff_getElem.1 hx
    have := (List.pairwise_iff_getElem.1 hp) k (k + 1 + j) hk (by omega) (by omega)
    simp only [isN, decide_eq_false_iff_not]
    exact fun e => ltS_ne this e.symm
/-- With one of its attributes twice. -/
theorem okE_twice (l : List Att) (k : Nat) (hk : k < l.length) : chkE (l.take k ++ [l[k]] ++ l.drop k) = 40 := by
  cases h : okE (l.take k ++ [l[k]] ++ l.drop k) with
  | false => unfold chkE; rw [h]; rfl
  | true =>
    exfalso
    have hp := (okL_rise (okE_parts h).2.2).2
    rw [List.append_assoc] at hp
    have h2 := (List.pairwise_append.1 hp).2.1
    rw [← List.getElem_cons_drop hk] at h2
    simp only [List.cons_append, List.nil_append, List.pairwise_cons] at h2
    have := h2.1 l[k] (List.mem_cons_self)
    rw [ltS_irrefl] at this; cases this
theorem decC_none {b : List UInt8} (h : decE b = none) : decC b = 40 ∧ decL b = [] := by simp [decC, decL, h]
theorem decC_some {b : List UInt8} {l : List Att} (h : decE b = some l) : decC b = 0 ∧ decL b = l := by simp [decC, decL, h]
theorem encE_len {l : List Att} (h : okE l = true) (hf : ∀ x ∈ l, fitA x) : (encE l).length ≤ 2000 := by
  have := encP_len l l.length h hf
  rwa [List.take_length] at this

theorem findV_any {l : List Att} {s : ByteArray} (h : l.any (isN s) = true) : ∃ k n t, findV l s = .tuple #[vv k n t, .bool true] := by
  rw [← find_some_any] at h
  obtain ⟨x, hx⟩ := Option.isSome_iff_exists.1 h
  exact ⟨x.2.1, x.2.2.1, x.2.2.2, by simp only [findV, hx]⟩
theorem findV_none {l : List Att} {s : ByteArray} (h : l.any (isN s) = false) : findV l s = .tuple #[vv 0 0 { data := #[] }, .bool false] := by
  rw [← find_some_any] at h
  cases hx : l.find? (isN s) with
  | none => simp only [findV, hx]
  | some x => rw [hx] at h; cases h
theorem any_take (l : List Att) (s : ByteArray) (k : Nat) (hk : k < l.length) : (l.take (k + 1)).any (isN s) = ((l.take k).any (isN s) || isN s l[k]) := by
  rw [List.take_succ_eq_append_getElem hk, List.any_append]; simp

theorem evt_rep {w : World} {v : Value} (h : repEvent w v) : ∃ l : List Att, evt l v w ∧ ∀ x ∈ l, i64ok x.2.1 ∧ i64ok x.2.2.1 := by
  obtain ⟨A, c, l, rfl, h1, h2, _, _⟩ := h
  exact ⟨l, ⟨A, c, rfl, h1⟩, h2⟩
end Go.Proofs.Ytjcdgbnbaiebdaa
