/-
  The walks of event.Encode and of the document's Encode (layer 4). Conditions: none.
-/
import Derived.Test.YtjcdgbnbaiebdaaEvB
set_option maxRecDepth 100000
namespace Go.Proofs.Ytjcdgbnbaiebdaa
open Go Go.RowKit

/-- An attribute's bytes, an event's bytes. -/
def encA (x : Att) : List UInt8 := (packN x.1.size ++ byt x.1) ++ packV x.2.1 x.2.2.1 x.2.2.2
def encE (l : List Att) : List UInt8 := packN l.length ++ l.flatMap encA
/-- What Encode tells of an event. -/
def encR (l : List Att) : List UInt8 := if okE l then encE l else []

theorem okL_all {p : Option ByteArray} {l : List Att} (h : okL p l = true) : ∀ x ∈ l, okA x = true := by
  induction l generalizing p with
  | nil => simp
  | cons y l ih =>
    simp only [okL, Bool.and_eq_true] at h
    intro x hx
    rcases List.mem_cons.1 hx with rfl | hx
    · exact h.1.1
    · exact ih h.2 x hx
theorem okA_sizes {x : Att} (h : okA x = true) : x.1.size ≤ 16 ∧ x.2.2.2.size ≤ 40 := by
  simp only [okA, okName, Bool.and_eq_true, decide_eq_true_eq] at h
  exact ⟨h.1.1.2, (okV_kind h.2).2⟩
theorem okE_parts {l : List Att} (h : okE l = true) : 1 ≤ l.length ∧ l.length ≤ 16 ∧ okL none l = true := by
  simp only [okE, Bool.and_eq_true, decide_eq_true_eq] at h
  exact ⟨h.1.1, h.1.2, h.2⟩
theorem encA_len {x : Att} (h : okA x = true) (h0 : -9223372036854775808 ≤ x.2.2.1) (h1 : x.2.2.1 ≤ 9223372036854775807) : (encA x).length ≤ 92 := by
  obtain ⟨a, b⟩ := okA_sizes h
  have h2 := packN_len x.1.size (by omega)
  have h3 := packN_len (kindN x.2.1) (kindN_lt _)
  have h4 := packN_len (numV x.2.1 x.2.2.1) (numV_lt _ _ h0 h1)
  have h5 := packN_len x.2.2.2.size (by omega)
  have e1 : x.1.data.size ≤ 16 := a
  have e2 : x.2.2.2.data.size ≤ 40 := b
  simp [encA, packV]; omega
theorem encT_len (l : List Att) (hk : ∀ x ∈ l, (encA x).length ≤ 92) : (l.flatMap encA).length ≤ 92 * l.length := by
  induction l with
  | nil => simp
  | cons y l ih =>
    have h1 := ih fun x hx => hk x (by simp [hx])
    have h2 := hk y (by simp)
    simp only [List.flatMap_cons, List.length_append, List.length_cons]
    omega
theorem encP_len (l : List Att) (k : Nat) (hl : okE l = true) (hi : ∀ x ∈ l, i64ok x.2.1 ∧ i64ok x.2.2.1) : (packN l.length ++ (l.take k).flatMap encA).length ≤ 2000 := by
  obtain ⟨h1, h2, h3⟩ := okE_parts hl
  have h4 := packN_len l.length (by omega)
  have h5 := encT_len (l.take k) fun x hx => encA_len (okL_all h3 x (List.mem_of_mem_take hx)) (hi x (List.mem_of_mem_take hx)).2.1 (hi x (List.mem_of_mem_take hx)).2.2
  have h6 : (l.take k).length ≤ 16 := by simp; omega
  simp only [List.length_append]; omega
theorem encP_succ (l : List Att) (k : Nat) (h : k < l.length) : packN l.length ++ (l.take (k + 1)).flatMap encA = packN l.length ++ (l.take k).flatMap encA ++ (packN l[k].1.size ++ byt l[k].1) ++ packV l[k].2.1 l[k].2.2.1 l[k].2.2.2 := by
  rw [List.take_succ_eq_append_getElem h, List.flatMap_append, List.flatMap_cons, List.flatMap_nil, List.append_nil]
  simp only [encA, List.append_assoc]
/-- A text made into bytes, in a world that draws behind it. -/
theorem Reads.conv' (w : World) (s : ByteArray) (c : Nat) (x : Nat × Nat) (e : TypeId) (n : Nat) (hn : w.heap.size = n) : Reads (w.alloc (.cells (bytesRow s c) e x)).drew (n + 1) 1 (some ⟨n, 0, none⟩) s.size (bys (byt s)) := by
  subst hn; exact Reads.drew (Reads.conv w s c x e)

end Go.Proofs.Ytjcdgbnbaiebdaa
