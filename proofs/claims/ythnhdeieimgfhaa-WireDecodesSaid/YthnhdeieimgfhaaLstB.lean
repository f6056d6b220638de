/-
  Lists in memory whose elements lead on: their cells, own rows that are written, what stays. Conditions: none.
-/
import Derived.Test.YthnhdeieimgfhaaNA
set_option maxRecDepth 100000
namespace Go.Proofs.Ythnhdeieimgfhaa
open Go Go.RowKit

theorem OwnL.floor {α : Type} {S : Shp α} {l : List α} {v : Value} {w : World} {base lo lo' : Nat} {e : TypeId} (h : OwnL base lo e S l v w) (hl : lo' ≤ lo) : OwnL base lo' e S l v w := by
  obtain ⟨css, h1, h2, h3⟩ := h
  exact ⟨css, h1, h2, fun w' u => h3 w' (u.more hl (fun _ _ h => h))⟩

theorem OwnF.up {w w' : World} {B : Nat} {v : Value} {l : List Tst} (h : OwnF w B v l) (u : UpB B none w w') : OwnF w' B v l := by
  refine ⟨h.1, h.2.imp id ?_⟩
  rintro ⟨g, cap, cur, g1, g2, g3, g4⟩
  exact ⟨g, cap, cur, g1, g2, (u.block g g2 (Array.getElem?_eq_some_iff.1 g3).1 (by simp)).trans g3, g4⟩

theorem atts_one (l : List Att) : ∀ u ∈ l.flatMap attc, u.oneCell' = true := by
  intro u hu
  obtain ⟨x, _, hx⟩ := List.mem_flatMap.1 hu
  exact attc_one x u hx
theorem tsts_one' (l : List Tst) : ∀ u ∈ l.flatMap tstc, u.oneCell' = true := by
  intro u hu
  obtain ⟨x, _, hx⟩ := List.mem_flatMap.1 hu
  simp at hx
  rcases hx with rfl | rfl | rfl | rfl | rfl <;> rfl

/-- An element's cells, read from a world that only grew. -/
theorem lsr_cells {α : Type} {S : Shp α} {l : List α} {A : Option Addr} {w : World} (h : lsr S l A w) (i : Nat) (hi : i < l.length) (hs : 0 < S.size) :
    ∃ b off cs, A = some ⟨b, off, none⟩ ∧ cs.length = S.size ∧ (∀ W, K w W → S.rel l[i] cs W) ∧ (∀ W, K w W → W.cell? ⟨b, off + i * S.size, none⟩ = cs[0]?) ∧ ∀ W, K w W → ∀ j, j < S.size → W.cell? ⟨b, off + i * S.size + j, none⟩ = cs[j]? := by
  obtain ⟨b, off, cs, e, hb, hl, hr, hc⟩ := lsr_at h i hi hs
  have key : ∀ W, K w W → ∀ j, j < S.size → W.cell? ⟨b, off + i * S.size + j, none⟩ = cs[j]? := fun W k j hj => (k.cell (p := ⟨b, off + i * S.size + j, none⟩) hb).trans (hc j hj)
  exact ⟨b, off, cs, e, hl, fun W k => S.st hr k, fun W k => key W k 0 hs, key⟩

theorem UpB.row {w w' : World} {g : Nat} {row : Option Nat} (h : w.grownBy w' row) (hr : ∀ b, row = some b → b < g) : UpB g none w w' :=
  (UpB.of_mut h g).more (Nat.le_refl _) (fun k hk _ e => by have := hr k e.symm; omega)

/-- A cell of an own row that is written. -/
theorem own_set {w : World} {base g n cap q : Nat} {e : TypeId} {size : Nat} {xs : List Value} (h : w.ownsRow base e size (.slice (some ⟨g, 0, none⟩) n cap) n xs) (_ : q < xs.length) (u : Value) :
    (w.setCell ⟨g, q, none⟩ u).ownsRow base e size (.slice (some ⟨g, 0, none⟩) n cap) n (xs.set q u) := by
  refine ⟨by simpa using h.1, .inr ?_⟩
  rcases h.2 with ⟨h0, _⟩ | ⟨g', cap', cur, e0, g1, g2, g3, g4, g5, g6⟩
  · cases h0
  · injection e0 with e1 _ e3
    injection e1 with e1
    injection e1 with e1
    subst e1 e3
    refine ⟨g, cap, cur.setIfInBounds q u, rfl, g1, (show Blk w g e cur from g2).set_ q u, g3, g4, by simpa using g5, ?_⟩
    rw [Array.toList_setIfInBounds, ← g6, List.take_set]
theorem own_cells {w : World} {base g n cap : Nat} {e : TypeId} {size : Nat} {xs : List Value} (h : w.ownsRow base e size (.slice (some ⟨g, 0, none⟩) n cap) n xs) : (∀ q, q < xs.length → w.cell? ⟨g, q, none⟩ = xs[q]?) ∧ ∀ q, w.frozen? ⟨g, q, none⟩ = false := by
  rcases h.2 with ⟨h0, _⟩ | ⟨g', cap', cur, e0, g1, g2, g3, g4, g5, g6⟩
  · cases h0
  · injection e0 with e1 _ e3
    injection e1 with e1
    injection e1 with e1
    subst e1 e3
    refine ⟨fun q hq => ?_, fun q => (show Blk w g e cur from g2).frozen q⟩
    rw [(show Blk w g e cur from g2).cell q, ← g6]
    rw [← g6] at hq
    have : q < n * size := by simp at hq; omega
    rw [List.getElem?_take_of_lt this, Array.getElem?_toList]
theorem flatten_set {α : Type} (n : Nat) (u : α) : ∀ (css : List (List α)), (∀ cs ∈ css, cs.length = n) → ∀ (k j : Nat) (hk : k < css.length), j < n → css.flatten.set (k * n + j) u = (css.set k ((css[k]).set j u)).flatten
  | [], _, k, j, hk, _ => by simp at hk
  | c :: css, h, 0, j, hk, hj => by
    have hc := h c (by simp)
    simp only [Nat.zero_mul, Nat.zero_add, List.flatten_cons, List.set_cons_zero, List.getElem_cons_zero]
    rw [List.set_append, if_pos (by omega)]
  | c :: css, h, k + 1, j, hk, hj => by
    have hc := h c (by simp)
    have ih := flatten_set n u css (fun x hx => h x (by simp [hx])) k j (by simpa using hk) hj
    simp only [List.flatten_cons, List.set_cons_succ, List.getElem_cons_succ]
    rw [List.set_append, if_neg (by rw [hc, Nat.succ_mul]; omega), ← ih]
    congr 2
    rw [hc, Nat.succ_mul]; omega
theorem Each.set {α : Type} {S : Shp α} {l : List α} {css : List (List Value)} {w : World} (h : Each S l css w) (k : Nat) {x : α} {cs : List Value} (hx : S.rel x cs w) : Each S (l.set k x) (css.set k cs) w := by
  refine ⟨by simp [h.1], fun i hi hi' => ?_⟩
  by_cases hik : k = i
  · subst hik
    simpa using hx
  · rw [List.getElem_set_ne hik, List.getElem_set_ne hik]
    exact h.2 i (by simpa using hi) (by simpa using hi')

/-- All but the blocks of X are as they were. -/
structure UpN (X : Nat → Prop) (w w' : World) : Prop where
  os : w'.os = w.os
  tape : w'.tape = w.tape
  output : w'.output = w.output
  size : w.heap.size ≤ w'.heap.size
  block : ∀ k, k < w.heap.size → ¬ X k → w'.heap[k]? = w.heap[k]?
section
variable {X : Nat → Prop} {a b c w w' : World}
theorem UpN.rf (X : Nat → Prop) (w : World) : UpN X w w := ⟨rfl, rfl, rfl, Nat.le_refl _, fun _ _ _ => rfl⟩
theorem UpN.tr (h : UpN X a b) (k : UpN X b c) : UpN X a c :=
  ⟨k.os.trans h.os, k.tape.trans h.tape, k.output.trans h.output, Nat.le_trans h.size k.size, fun i h1 h2 => (k.block i (Nat.lt_of_lt_of_le h1 h.size) h2).trans (h.block i h1 h2)⟩
theorem UpN.of_k (h : K w w') (X : Nat → Prop) : UpN X w w' := ⟨h.os, h.tape, h.output, h.size, fun i h2 _ => h.block i h2⟩
theorem UpN.of_mut {row : Option Nat} (h : w.grownBy w' row) (hX : ∀ g, row = some g → X g) : UpN X w w' :=
  ⟨h.os, h.tape, h.output, h.size, fun i h1 h2 => h.block i h1 (fun e => h2 (hX i e.symm))⟩
theorem UpN.upB {lo : Nat} {row : Option Nat} (h : UpN X w w') (hX : ∀ k, lo ≤ k → k < w.heap.size → some k ≠ row → ¬ X k) : UpB lo row w w' :=
  ⟨h.os, h.tape, h.output, h.size, fun i h1 h2 h3 => h.block i h2 (hX i h1 h2 h3)⟩
theorem UpB.upN {lo : Nat} {row : Option Nat} (h : UpB lo row w w') (hX : ∀ k, k < lo ∨ some k = row → X k) : UpN X w w' :=
  ⟨h.os, h.tape, h.output, h.size, fun i h1 h2 => h.block i (Nat.le_of_not_lt fun hl => h2 (hX i (.inl hl))) h1 (fun e => h2 (hX i (.inr e)))⟩

/-- An own row whose block is as it was. -/
theorem row_keep {base : Nat} {e : TypeId} {size n : Nat} {v : Value} {xs : List Value} (h : w.ownsRow base e size v n xs) (k : ∀ g, base ≤ g → g < w.heap.size → v.ownBlock = some g → w'.heap[g]? = w.heap[g]?) : w'.ownsRow base e size v n xs := by
  refine ⟨h.1, h.2.imp id ?_⟩
  rintro ⟨g, cap, cur, rfl, g2, g3, g4⟩
  exact ⟨g, cap, cur, rfl, g2, (k g g2 (Array.getElem?_eq_some_iff.1 g3).1 rfl).trans g3, g4⟩
theorem row_blk {base : Nat} {e : TypeId} {size n : Nat} {v : Value} {xs : List Value} (h : w.ownsRow base e size v n xs) {g : Nat} (hg : v.ownBlock = some g) : ∃ cur, Blk w g e cur := by
  rcases h.2 with ⟨rfl, _⟩ | ⟨g', cap, cur, rfl, _, g3, _⟩
  · cases hg
  · injection hg with hg
    subst hg
    exact ⟨cur, g3⟩
/-- Blocks of unlike types are unlike. -/
theorem Blk.unlike {g : Nat} {t t' : TypeId} {cs cs' : Array Value} (h : Blk w g t cs) (h' : Blk w g t' cs') : t = t' := by
  unfold Blk at h h'
  rw [h] at h'
  injection h' with h'
  injection h'
theorem lst_of_own {α : Type} {S : Shp α} {l : List α} {v : Value} {base : Nat} {e : TypeId} {css : List (List Value)} (h1 : w.ownsRow base e S.size v l.length css.flatten) (he : Each S l css w) : lst S l v w := by
  have h1' := h1
  rcases h1.2 with ⟨rfl, h0⟩ | ⟨g, cap, cur, rfl, _, _, hn, _⟩
  · obtain rfl : l = [] := List.eq_nil_of_length_eq_zero h0
    exact lst_nil _ _
  · exact ⟨_, _, rfl, ⟨css, he, Reads.of_own h1'⟩, hn⟩

/-- Cells that are written one after another. -/
def setsL : List Value → Nat → List Value → List Value
  | xs, _, [] => xs
  | xs, q, u :: us => setsL (xs.set q u) (q + 1) us
def setsW : World → Nat → Nat → List Value → World
  | w, _, _, [] => w
  | w, g, q, u :: us => setsW (w.setCell ⟨g, q, none⟩ u) g (q + 1) us
theorem setsL_len : ∀ (us xs : List Value) (q : Nat), (setsL xs q us).length = xs.length
  | [], _, _ => rfl
  | u :: us, xs, q => by simp only [setsL]; rw [setsL_len us]; simp
theorem own_sets {base g n cap : Nat} {e : TypeId} {size : Nat} : ∀ (us xs : List Value) (q : Nat) (w : World), w.ownsRow base e size (.slice (some ⟨g, 0, none⟩) n cap) n xs → q + us.length ≤ xs.length →
    (setsW w g q us).ownsRow base e size (.slice (some ⟨g, 0, none⟩) n cap) n (setsL xs q us)
  | [], _, _, _, h, _ => h
  | u :: us, xs, q, w, h, hl => by
    simp only [setsW, setsL]
    simp only [List.length_cons] at hl
    exact own_sets us _ _ _ (own_set h (by omega) u) (by simp; omega)
theorem flatten_sets (n : Nat) : ∀ (us : List Value) (css : List (List Value)), (∀ cs ∈ css, cs.length = n) → ∀ (k j : Nat) (hk : k < css.length), j + us.length ≤ n → setsL css.flatten (k * n + j) us = (css.set k (setsL (css[k]) j us)).flatten
  | [], css, h, k, j, hk, hj => by simp [setsL]
  | u :: us, css, h, k, j, hk, hj => by
    simp only [List.length_cons] at hj
    simp only [setsL]
    rw [flatten_set n u css h k j hk (by omega)]
    have hl : ∀ cs ∈ css.set k ((css[k]).set j u), cs.length = n := by
      intro cs hcs
      rcases List.mem_or_eq_of_mem_set hcs with h1 | rfl
      · exact h cs h1
      · simp; exact h _ (List.getElem_mem hk)
    have ih := flatten_sets n us (css.set k ((css[k]).set j u)) hl k (j + 1) (by simpa using hk) (by omega)
    rw [show k * n + j + 1 = k * n + (j + 1) by omega, ih]
    simp
theorem UpN.sets {g : Nat} (hX : X g) : ∀ (us : List Value) (q : Nat) (w : World), UpN X w (setsW w g q us)
  | [], _, _ => UpN.rf _ _
  | u :: us, q, w => by
    simp only [setsW]
    refine UpN.tr (b := w.setCell ⟨g, q, none⟩ u) ⟨rfl, rfl, rfl, by simp [World.setCell], fun i _ h => Below.heap_setCell w ⟨g, q, none⟩ u i (by rintro rfl; exact h hX)⟩ (UpN.sets hX us _ _)
end
end Go.Proofs.Ythnhdeieimgfhaa
