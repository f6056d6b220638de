/-
  Lists in memory whose elements lead on to more memory: how they read, and how a list of the call's own grows by an element. Conditions: none.
-/
import Derived.Test.YtjcdgbnbaiebdaaEvH
import Derived.Test.YtjcdgbnbaiebdaaFiH
set_option maxRecDepth 100000
namespace Go.Proofs.Ytjcdgbnbaiebdaa
open Go Go.RowKit

/-- Memory that grew only. -/
abbrev K (w W : World) : Prop := Below w.heap.size w W
section
variable {a b c w w' w'' : World} {B g base lo : Nat} {row : Option Nat}
theorem K.rf (w : World) : K w w := Below.refl _ _
theorem _root_.Go.RowKit.Below.tr (h : Below a.heap.size a b) (k : Below b.heap.size b c) : Below a.heap.size a c := h.trans (k.mono h.size)
theorem _root_.Go.RowKit.Below.al (h : Below a.heap.size a b) (o : Obj) : Below a.heap.size a (b.alloc o) := h.alloc h.size o
theorem Blk.cells {t : TypeId} {cs : Array Value} (h : Blk w g t cs) : ∀ W, K w W → ∀ i, W.cell? ⟨g, i, none⟩ = cs[i]? := fun _ k i => (h.below k h.lt).cell i

/-- Blocks from 'lo' on are as they were, but for one. -/
structure UpB (lo : Nat) (row : Option Nat) (w w' : World) : Prop where
  os : w'.os = w.os
  tape : w'.tape = w.tape
  output : w'.output = w.output
  size : w.heap.size ≤ w'.heap.size
  block : ∀ k, lo ≤ k → k < w.heap.size → some k ≠ row → w'.heap[k]? = w.heap[k]?
theorem UpB.rf (lo : Nat) (row : Option Nat) (w : World) : UpB lo row w w := ⟨rfl, rfl, rfl, Nat.le_refl _, fun _ _ _ _ => rfl⟩
theorem UpB.tr (h : UpB lo row a b) (k : UpB lo row b c) : UpB lo row a c :=
  ⟨k.os.trans h.os, k.tape.trans h.tape, k.output.trans h.output, Nat.le_trans h.size k.size, fun i h1 h2 h3 => (k.block i h1 (Nat.lt_of_lt_of_le h2 h.size) h3).trans (h.block i h1 h2 h3)⟩
theorem UpB.of_k (h : K w w') (lo : Nat) (row : Option Nat) : UpB lo row w w' := ⟨h.os, h.tape, h.output, h.size, fun i _ h2 _ => h.block i h2⟩
theorem UpB.of_mut (h : w.grownBy w' row) (lo : Nat) : UpB lo row w w' := ⟨h.os, h.tape, h.output, h.size, fun i _ h2 h3 => h.block i h2 h3⟩
theorem UpB.more {lo' : Nat} {row' : Option Nat} (h : UpB lo row w w') (h1 : lo ≤ lo') (h2 : ∀ k, lo' ≤ k → some k ≠ row' → some k ≠ row) : UpB lo' row' w w' :=
  ⟨h.os, h.tape, h.output, h.size, fun i g1 g2 g3 => h.block i (by omega) g2 (h2 i g1 g3)⟩
/-- What was there before the row is as it was. -/
theorem UpB.k (h : UpB 0 row w w') (h0 : K a w) (hr : ∀ k, row = some k → a.heap.size ≤ k) : K a w' :=
  h0.trans ⟨h.os, h.tape, h.output, h.size, fun i hi => h.block i (Nat.zero_le _) (Nat.lt_of_lt_of_le hi h0.size) (by rintro rfl; have := hr i rfl; omega)⟩
/-- Behind an append: the row is the old one, or a new one. -/
theorem UpB.app (h : w.grownBy w' row) {row' : Option Nat} (hat : row' = row ∨ row' = some w.heap.size) (k : UpB lo row' w' w'') : UpB lo row w w'' := by
  refine ⟨k.os.trans h.os, k.tape.trans h.tape, k.output.trans h.output, Nat.le_trans h.size k.size, fun i h1 h2 h3 => (k.block i h1 (Nat.lt_of_lt_of_le h2 h.size) ?_).trans (h.block i h2 h3)⟩
  rcases hat with rfl | rfl
  · exact h3
  · intro e; injection e with e; omega

theorem len0' {α : Type} (l : List α) : ((l.length : Int) == 0) = l.isEmpty := by
  cases l with
  | nil => rfl
  | cons x l => simp; omega
/-- How a thing reads in cells. -/
structure Shp (α : Type) where
  size : Nat
  rel : α → List Value → World → Prop
  len : ∀ {x cs w}, rel x cs w → cs.length = size
  one : ∀ {x cs w}, rel x cs w → ∀ u ∈ cs, u.oneCell' = true
  st : ∀ {x cs w w'}, rel x cs w → K w w' → rel x cs w'
variable {α : Type} {S : Shp α} {l : List α} {v : Value} {A : Option Addr}

/-- The elements of a list, cells by cells. -/
def Each (S : Shp α) (l : List α) (css : List (List Value)) (w : World) : Prop := css.length = l.length ∧ ∀ i (h : i < l.length) (h' : i < css.length), S.rel l[i] css[i] w
theorem Each.lens {css : List (List Value)} (h : Each S l css w) : ∀ cs ∈ css, cs.length = S.size := by
  intro cs hcs
  obtain ⟨i, hi, rfl⟩ := List.mem_iff_getElem.1 hcs
  exact S.len (h.2 i (by have := h.1; omega) hi)
theorem Each.ones {css : List (List Value)} (h : Each S l css w) : ∀ u ∈ css.flatten, u.oneCell' = true := by
  intro u hu
  obtain ⟨cs, hcs, hu⟩ := List.mem_flatten.1 hu
  obtain ⟨i, hi, rfl⟩ := List.mem_iff_getElem.1 hcs
  exact S.one (h.2 i (by have := h.1; omega) hi) u hu
theorem Each.st {css : List (List Value)} (h : Each S l css w) (k : K w w') : Each S l css w' := ⟨h.1, fun i hi hi' => S.st (h.2 i hi hi') k⟩
theorem Each.flen {css : List (List Value)} (h : Each S l css w) : css.flatten.length = l.length * S.size := by
  rw [flatten_len S.size css h.lens, h.1]
theorem Each.get {css : List (List Value)} (h : Each S l css w) (i : Nat) (hi : i < l.length) : ∃ cs, css[i]? = some cs ∧ cs.length = S.size ∧ S.rel l[i] cs w ∧ ∀ j, j < S.size → css.flatten[i * S.size + j]? = cs[j]? := by
  have hi' : i < css.length := by have := h.1; omega
  have hr := h.2 i hi hi'
  refine ⟨css[i], List.getElem?_eq_getElem hi', S.len hr, hr, fun j hj => ?_⟩
  rw [flatten_at S.size css h.lens i j hi' hj, List.getElem?_eq_getElem hi']
  rfl
theorem Each.nil (S : Shp α) (w : World) : Each S [] [] w := ⟨rfl, fun i hi => by simp at hi⟩
theorem Each.snoc {css : List (List Value)} (h : Each S l css w) {x : α} {cs : List Value} (hx : S.rel x cs w) : Each S (l ++ [x]) (css ++ [cs]) w := by
  refine ⟨by simp [h.1], fun i hi hi' => ?_⟩
  have hl := h.1
  by_cases hlt : i < l.length
  · have := h.2 i hlt (by omega)
    rw [List.getElem_append_left hlt, List.getElem_append_left (by omega)]
    exact this
  · simp at hi
    have e : i = l.length := by omega
    subst e
    rw [List.getElem_append_right (Nat.le_refl _), List.getElem_append_right (by omega)]
    simpa [hl] using hx
theorem Each.one {x : α} {cs : List Value} (hx : S.rel x cs w) : Each S [x] [cs] w := by simpa using (Each.nil S w).snoc hx
theorem Each.take {css : List (List Value)} (h : Each S l css w) (k : Nat) : Each S (l.take k) (css.take k) w := by
  refine ⟨by simp [h.1], fun i hi hi' => ?_⟩
  simp only [List.getElem_take]
  exact h.2 i (by simp at hi; omega) (by simp at hi'; omega)
theorem Each.drop {css : List (List Value)} (h : Each S l css w) (k : Nat) : Each S (l.drop k) (css.drop k) w := by
  refine ⟨by simp [h.1], fun i hi hi' => ?_⟩
  simp only [List.getElem_drop]
  exact h.2 (k + i) (by simp at hi; omega) (by simp at hi'; omega)
theorem Each.append {l2 : List α} {css css2 : List (List Value)} (h : Each S l css w) (k : Each S l2 css2 w) : Each S (l ++ l2) (css ++ css2) w := by
  refine ⟨by simp [h.1, k.1], fun i hi hi' => ?_⟩
  have h1 := h.1
  by_cases hlt : i < l.length
  · rw [List.getElem_append_left hlt, List.getElem_append_left (by omega)]
    exact h.2 i hlt (by omega)
  · rw [List.getElem_append_right (by omega), List.getElem_append_right (by omega)]
    have := k.2 (i - l.length) (by simp at hi; omega) (by simp at hi'; omega)
    simpa [h1] using this

/-- A slice at A that reads as a list. -/
def lsr (S : Shp α) (l : List α) (A : Option Addr) (w : World) : Prop := ∃ css, Each S l css w ∧ Reads w w.heap.size S.size A l.length css.flatten
theorem lsr_st (h : lsr S l A w) (k : K w w') : lsr S l A w' := by
  obtain ⟨css, h1, h2⟩ := h
  exact ⟨css, h1.st k, (h2.below k (Nat.le_refl _)).more k.size⟩
theorem lsr_nil (S : Shp α) (A : Option Addr) (w : World) : lsr S [] A w := ⟨[], Each.nil _ _, Reads.nil _ _ _ _⟩
theorem lsr_at (h : lsr S l A w) (i : Nat) (hi : i < l.length) (hs : 0 < S.size) : ∃ b off cs, A = some ⟨b, off, none⟩ ∧ b < w.heap.size ∧ cs.length = S.size ∧ S.rel l[i] cs w ∧ ∀ j, j < S.size → w.cell? ⟨b, off + i * S.size + j, none⟩ = cs[j]? := by
  obtain ⟨css, h1, h2⟩ := h
  obtain ⟨cs, hcs, hl, hr, hc⟩ := h1.get i hi
  have h0 : 0 < css.flatten.length := by rw [h1.flen]; exact Nat.mul_pos (by omega) hs
  obtain ⟨b, off, rfl, hb, hcell⟩ := h2.2 h0
  refine ⟨b, off, cs, rfl, hb, hl, hr, fun j hj => ?_⟩
  have := hc j hj
  rw [List.getElem?_eq_getElem (show j < cs.length by omega)] at this ⊢
  rw [Nat.add_assoc]
  exact hcell _ _ this
/-- A slice that reads as a list. -/
def lst (S : Shp α) (l : List α) (v : Value) (w : World) : Prop := ∃ A c, v = .slice A l.length c ∧ lsr S l A w ∧ l.length ≤ c
theorem lst_st (h : lst S l v w) (k : K w w') : lst S l v w' := by
  obtain ⟨A, c, h1, h2, h3⟩ := h
  exact ⟨A, c, h1, lsr_st h2 k, h3⟩
theorem lst_al (h : lst S l v w) : ∀ W, K w W → lst S l v W := fun _ k => lst_st h k
theorem lst_nil (S : Shp α) (w : World) : lst S [] (.slice none 0 0) w := ⟨none, 0, rfl, lsr_nil _ _ _, Nat.le_refl _⟩
/-- Lists as elements. -/
def lstS (S : Shp α) : Shp (List α) where
  size := 1
  rel l cs w := ∃ v, cs = [v] ∧ lst S l v w
  len := by rintro _ _ _ ⟨v, rfl, _⟩; rfl
  one := by rintro _ _ _ ⟨v, rfl, A, c, rfl, _⟩ u hu; simp at hu; subst hu; rfl
  st := by rintro _ _ _ _ ⟨v, rfl, h⟩ k; exact ⟨v, rfl, lst_st h k⟩

/-- A list that the call made, whose elements stay while its row, and what lies below 'lo', change. -/
def OwnL (base lo : Nat) (e : TypeId) (S : Shp α) (l : List α) (v : Value) (w : World) : Prop :=
  ∃ css, w.ownsRow base e S.size v l.length css.flatten ∧ css.length = l.length ∧ ∀ w', UpB lo v.ownBlock w w' → Each S l css w'
theorem OwnL.nil (base lo : Nat) (e : TypeId) (S : Shp α) (w : World) : OwnL base lo e S [] (.slice none 0 0) w := ⟨[], World.ownsRow_nil _ _ _ _, rfl, fun _ _ => Each.nil _ _⟩
theorem OwnL.st {e : TypeId} (h : OwnL base lo e S l v w) (k : K w w') : OwnL base lo e S l v w' := by
  obtain ⟨css, h1, h2, h3⟩ := h
  exact ⟨css, row_below h1 k, h2, fun w'' u => h3 w'' ((UpB.of_k k lo _).tr u)⟩
theorem OwnL.up {e : TypeId} (h : OwnL base lo e S l v w) (hl : lo ≤ base) (u : UpB lo none w w') : OwnL base lo e S l v w' := by
  obtain ⟨css, h1, h2, h3⟩ := h
  refine ⟨css, ⟨h1.1, h1.2.imp id ?_⟩, h2, fun w'' u' => h3 w'' (UpB.tr (u.more (Nat.le_refl _) (fun _ _ _ => by simp)) u')⟩
  rintro ⟨g, cap, cur, g1, g2, g3, g4⟩
  exact ⟨g, cap, cur, g1, g2, (u.block g (by omega) (Array.getElem?_eq_some_iff.1 g3).1 (by simp)).trans g3, g4⟩
theorem OwnL.low {e : TypeId} {base' : Nat} (h : OwnL base' lo e S l v w) (hb : base ≤ base') : OwnL base lo e S l v w := by
  obtain ⟨css, h1, h2, h3⟩ := h
  exact ⟨css, row_base hb h1, h2, h3⟩
theorem OwnL.slice {e : TypeId} (h : OwnL base lo e S l v w) : ∃ A c, v = .slice A l.length c ∧ lsr S l A w ∧ l.length ≤ c ∧ (∀ g, v.ownBlock = some g → base ≤ g ∧ g < w.heap.size) := by
  obtain ⟨css, h1, h2, h3⟩ := h
  have h1' := h1
  have he := h3 w (UpB.rf _ _ _)
  have hg : ∀ g, v.ownBlock = some g → base ≤ g ∧ g < w.heap.size := fun g hg => h1.lt g hg
  rcases h1.2 with ⟨rfl, h0⟩ | ⟨g, cap, cur, rfl, _, _, hn, _⟩
  · obtain rfl : l = [] := List.eq_nil_of_length_eq_zero h0
    exact ⟨none, 0, rfl, lsr_nil _ _ _, by simp, hg⟩
  · exact ⟨_, _, rfl, ⟨css, he, Reads.of_own h1'⟩, hn, hg⟩
theorem OwnL.blk {e : TypeId} (h : OwnL base lo e S l v w) : ∀ g, v.ownBlock = some g → base ≤ g ∧ g < w.heap.size := by
  obtain ⟨css, h1, _, _⟩ := h
  exact fun g hg => h1.lt g hg
theorem OwnL.lst {e : TypeId} (h : OwnL base lo e S l v w) : lst S l v w := by
  obtain ⟨A, c, h1, h2, h3, _⟩ := h.slice
  exact ⟨A, c, h1, h2, h3⟩
/-- Behind an append of one element. -/
theorem OwnL.snoc {e : TypeId} {css : List (List Value)} (hcl : css.length = l.length) (hE : ∀ w', UpB lo v.ownBlock w w' → Each S l css w')
    {x : α} {cs : List Value} {v' : Value} (ho : w'.ownsRow base e S.size v' (l.length + 1) (css.flatten ++ cs)) (hg : w.grownBy w' v.ownBlock) (hat : v'.ownBlock = v.ownBlock ∨ v'.ownBlock = some w.heap.size)
    (hx : ∀ w', UpB lo v.ownBlock w w' → S.rel x cs w') : OwnL base lo e S (l ++ [x]) v' w' := by
  refine ⟨css ++ [cs], by simpa using ho, by simp [hcl], fun w'' u => ?_⟩
  have u' := UpB.app hg hat u
  exact (hE _ u').snoc (hx _ u')
end
end Go.Proofs.Ytjcdgbnbaiebdaa
