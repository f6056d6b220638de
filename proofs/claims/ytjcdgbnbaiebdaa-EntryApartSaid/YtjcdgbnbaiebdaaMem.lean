/-
  Words for memory that the walks of this claim share: a slice that reads as a list of cells, bytes, and how these facts go on when memory grows. Conditions: none.
-/
import Derived.WalkKit
import Derived.WalkLawsBesides
import Derived.WalkSpells
import Derived.Deep.Draws
import Derived.Deep.AppendLies
import Derived.Maps.AppendAt
import Derived.Laws.CopyOwn
import Derived.Lib.Hide
import Derived.ScopeJumps
import Derived.Laws.IdiomStrings
import Derived.Laws.BytesArg
import Derived.WalkMore
namespace Go.Proofs.Ytjcdgbnbaiebdaa
open Go Go.RowKit

/-- The cell at an address without a spot. -/
abbrev cel (w : World) (b o : Nat) : Option Value := w.cell? ⟨b, o, none⟩

/-- n elements of 'size' cells each lie at A, read as xs, in a block below B. -/
def Reads (w : World) (B size : Nat) (A : Option Addr) (n : Nat) (xs : List Value) : Prop :=
  xs.length = n * size ∧ (0 < xs.length → ∃ b off, A = some ⟨b, off, none⟩ ∧ b < B ∧ ∀ j u, xs[j]? = some u → w.cell? ⟨b, off + j, none⟩ = some u)

theorem block_lt {w : World} {a : Addr} {u : Value} (h : w.cell? a = some u) : a.block < w.heap.size := World.block_lt_of_cell? w a h

section
variable {w w' : World} {B B' size n : Nat} {A : Option Addr} {xs : List Value}
theorem Reads.nil (w : World) (B size : Nat) (A : Option Addr) : Reads w B size A 0 [] := ⟨by simp, fun h => absurd h (by simp)⟩
theorem Reads.keep (h : Reads w B size A n xs) (hk : ∀ k, k < B → w'.heap[k]? = w.heap[k]?) : Reads w' B size A n xs :=
  ⟨h.1, fun hn => by
    obtain ⟨b, off, e, hb, hc⟩ := h.2 hn
    exact ⟨b, off, e, hb, fun j u hu => (World.cell?_of_block (hk b hb)).trans (hc j u hu)⟩⟩
theorem Reads.more (h : Reads w B size A n xs) (hB : B ≤ B') : Reads w B' size A n xs :=
  ⟨h.1, fun hn => by
    obtain ⟨b, off, e, hb, hc⟩ := h.2 hn
    exact ⟨b, off, e, by omega, hc⟩⟩
theorem Reads.below {C : Nat} (h : Reads w B size A n xs) (hb : Below C w w') (hBC : B ≤ C) : Reads w' B size A n xs := h.keep fun _ hk => hb.block _ (by omega)
theorem Reads.drew (h : Reads w B size A n xs) : Reads w.drew B size A n xs := h
theorem Reads.drewN (h : Reads w B size A n xs) (k : Nat) : Reads (w.drewN k) B size A n xs := h
theorem Reads.len (h : Reads w B 1 A n xs) : xs.length = n := by simpa using h.1
theorem Reads.cut (h : Reads w B 1 A n xs) (l m cap : Nat) (hl : l ≤ m) (hm : m ≤ n) (hc : n ≤ cap) :
    Reads w B 1 (if cap = l then A else A.map (·.add l)) (m - l) ((xs.take m).drop l) := by
  have h0 := h.len
  refine ⟨by simp; omega, fun hn => ?_⟩
  simp at hn
  obtain ⟨b, off, rfl, hb, hcell⟩ := h.2 (by omega)
  rw [if_neg (by omega)]
  refine ⟨b, off + l, by simp [Addr.add_lit], hb, fun j u hu => ?_⟩
  rw [List.getElem?_drop] at hu
  have hj : l + j < m := by
    have := (List.getElem?_eq_some_iff.1 hu).1
    simp at this; omega
  rw [List.getElem?_take_of_lt hj] at hu
  rw [Nat.add_assoc]
  exact hcell _ u hu
theorem Reads.of_own {base : Nat} {e : TypeId} {c : Nat} (h : w.ownsRow base e size (.slice A n c) n xs) : Reads w w.heap.size size A n xs := by
  refine ⟨h.1, fun hn => ?_⟩
  rcases h.2 with ⟨_, rfl⟩ | ⟨g, cap, cur, hv, _, hg, _, _, _, hx⟩
  · have := h.1; simp at this; subst this; simp at hn
  · injection hv with hA
    subst hA
    refine ⟨g, 0, rfl, ?_, fun j u hu => ?_⟩
    · exact (Array.getElem?_eq_some_iff.1 hg).1
    · have := h.cells (g := g) rfl j u hu
      simpa [Addr.add_lit] using this
end

/-- 'Only block g, and what is new, has changed': how it goes on. -/
theorem mut_refl (w : World) (row : Option Nat) : w.grownBy w row := World.grownBy.refl w row
theorem mut_drew {a w : World} {row : Option Nat} (h : a.grownBy w row) : a.grownBy w.drew row := ⟨h.os, h.tape, h.output, h.size, h.block⟩
theorem mut_alloc {a w : World} {row : Option Nat} (h : a.grownBy w row) (o : Obj) : a.grownBy (w.alloc o) row :=
  ⟨h.os, h.tape, h.output, Nat.le_trans h.size (by simp), fun i hi hne => (Below.heap_alloc w o i (Nat.lt_of_lt_of_le hi h.size)).trans (h.block i hi hne)⟩
theorem mut_set {a w : World} {g : Nat} (h : a.grownBy w (some g)) {p : Addr} (hp : p.block = g) (u : Value) : a.grownBy (w.setCell p u) (some g) :=
  ⟨h.os, h.tape, h.output, by simpa [World.setCell] using h.size, fun i hi hne => (Below.heap_setCell w p u i (by rintro rfl; exact hne (by rw [hp]))).trans (h.block i hi hne)⟩
theorem mut_new {a w : World} {row : Option Nat} (h : a.grownBy w row) {p : Addr} (hp : a.heap.size ≤ p.block) (u : Value) : a.grownBy (w.setCell p u) row :=
  ⟨h.os, h.tape, h.output, by simpa [World.setCell] using h.size, fun i hi hne => (Below.heap_setCell w p u i (by omega)).trans (h.block i hi hne)⟩
theorem mut_of_below {a w : World} (h : Below a.heap.size a w) (row : Option Nat) : a.grownBy w row := ⟨h.os, h.tape, h.output, h.size, fun i hi _ => h.block i hi⟩
theorem mut_trans {a b c : World} {row : Option Nat} (h : a.grownBy b row) (k : b.grownBy c row) : a.grownBy c row := h.trans k
theorem below_of_mut {a w : World} {g B : Nat} (h : a.grownBy w (some g)) (hB : B ≤ g) (hz : B ≤ a.heap.size) : Below B a w :=
  ⟨h.os, h.tape, h.output, h.size, fun i hi => h.block i (by omega) (by intro e; injection e with e; omega)⟩

/-- Bytes as cells. -/
def bys (l : List UInt8) : List Value := l.map fun b => .int .u8 (b.toNat : Int)
@[simp] theorem bys_length (l : List UInt8) : (bys l).length = l.length := by simp [bys]
theorem bys_append (a b : List UInt8) : bys (a ++ b) = bys a ++ bys b := by simp [bys]
theorem bys_one (l : List UInt8) : ∀ u ∈ bys l, u.oneCell' = true := by
  intro u hu
  obtain ⟨_, _, rfl⟩ := List.mem_map.1 hu
  rfl
theorem bys_get (l : List UInt8) (j : Nat) (h : j < l.length) : (bys l)[j]? = some (.int .u8 (l[j].toNat : Int)) := by simp [bys, h]
theorem Reads.pre {w : World} {B : Nat} {A : Option Addr} {n : Nat} {l : List UInt8} (h : Reads w B 1 A n (bys l)) (k : Nat) (hk : k ≤ n) : Reads w B 1 A k (bys (l.take k)) := by
  have hl : l.length = n := by simpa using h.len
  refine ⟨by simp; omega, fun h0 => ?_⟩
  simp at h0
  obtain ⟨b, off, e, hb, hc⟩ := h.2 (by simp; omega)
  refine ⟨b, off, e, hb, fun j u hu => hc j u ?_⟩
  rw [← hu]
  unfold bys
  rw [List.map_take, List.getElem?_take_of_lt]
  have := (List.getElem?_eq_some_iff.1 hu).1
  simp at this; omega
theorem Reads.post {w : World} {B : Nat} {A A' : Option Addr} {n : Nat} {l : List UInt8} (h : Reads w B 1 A n (bys l)) (k : Nat) (hA : k < n → A' = A.map (·.add k)) : Reads w B 1 A' (n - k) (bys (l.drop k)) := by
  have hl : l.length = n := by simpa using h.len
  refine ⟨by simp; omega, fun h0 => ?_⟩
  simp at h0
  obtain ⟨b, off, rfl, hb, hc⟩ := h.2 (by simp; omega)
  refine ⟨b, off + k, by rw [hA (by omega)]; simp [Addr.add_lit], hb, fun j u hu => ?_⟩
  rw [Nat.add_assoc]
  refine hc _ u ?_
  rw [← hu]
  unfold bys
  rw [List.map_drop, List.getElem?_drop]

theorem bys_inj : ∀ {a b : List UInt8}, bys a = bys b → a = b
  | [], [], _ => rfl
  | [], _ :: _, h => by simp [bys] at h
  | _ :: _, [], h => by simp [bys] at h
  | x :: a, y :: b, h => by
    simp only [bys, List.map_cons, List.cons.injEq, Value.int.injEq, true_and] at h
    rw [UInt8.toNat_inj.1 (by omega : x.toNat = y.toNat), bys_inj h.2]

/-- Bytes made into a text. -/
theorem run_str {P : Program} (w : World) (src dst e : TypeId) (hs : P.underlying src = some (.slice e)) (he : P.underlying e = some (.int .u8)) (hd : P.underlying dst = some .string)
    (B : Nat) (A : Option Addr) (n c : Nat) (l : List UInt8) (hR : Reads w B 1 A n (bys l)) : (convert src dst (.slice A n c)).run P w = .ok (.string ⟨l.toArray⟩) w := by
  have hl : l.length = n := by simpa using hR.len
  rcases A with _ | ad
  · have h0 : l = [] := by
      rcases Nat.eq_zero_or_pos l.length with h | h
      · exact List.eq_nil_of_length_eq_zero h
      · obtain ⟨b, off, e, _⟩ := hR.2 (by simpa using h)
        cases e
    subst h0
    exact run_convert_bytes_nil w src e hs he _ _ dst hd
  · have hc : ∀ j (hj : j < l.length), w.cell? (ad.add j) = some (.int .u8 (l[j].toNat : Int)) := by
      intro j hj
      obtain ⟨b, off, e, _, hcell⟩ := hR.2 (by simp; omega)
      injection e with e
      subst e
      rw [Addr.add_lit]
      exact hcell j _ (bys_get l j hj)
    rw [← hl]
    exact run_convert_bytes_back w src dst e ad c l hs he hd hc

/-- Behind an append onto a row of the call's own, or behind a copy, the row as bytes. -/
abbrev Own (w : World) (base : Nat) (e : TypeId) (v : Value) (l : List UInt8) : Prop := w.ownsRow base e 1 v l.length (bys l)

theorem own_base {w : World} {base base' : Nat} {e : TypeId} {v : Value} {l l' : List UInt8} (hb : base ≤ base') (h : Own w base' e v l) (hl : l = l' := by simp) : Own w base e v l' := by
  subst hl
  refine ⟨h.1, h.2.imp id ?_⟩
  rintro ⟨g, cap, cur, h1, h2, h3⟩
  exact ⟨g, cap, cur, h1, by omega, h3⟩

theorem own_below {w w' : World} {base B : Nat} {e : TypeId} {v : Value} {l : List UInt8} (_ : B ≤ w.heap.size) (h : Own w base e v l) (hb : Below w.heap.size w w') : Own w' base e v l := by
  refine ⟨h.1, h.2.imp id ?_⟩
  rintro ⟨g, cap, cur, h1, h2, h3, h4⟩
  exact ⟨g, cap, cur, h1, h2, (hb.block g (Array.getElem?_eq_some_iff.1 h3).1).trans h3, h4⟩
theorem own_mut {w w' : World} {base g : Nat} {e : TypeId} {v : Value} {l : List UInt8} (h : Own w base e v l) (hb : w.grownBy w' (some g)) (hg : v.ownBlock ≠ some g) : Own w' base e v l :=
  World.ownsRow.kept h hb (.inr hg)

theorem own_of_block {w : World} {base g cap : Nat} {e : TypeId} {xs rest : List Value} {n : Nat} (hb : base ≤ g) (hg : w.heap[g]? = some (.cells (xs ++ rest).toArray e (0, 0))) (hn : xs.length = n) (hc : n + rest.length = cap) (hm : cap ≤ maxLen) :
    w.ownsRow base e 1 (.slice (some ⟨g, 0, none⟩) n cap) n xs :=
  ⟨by simp [hn], .inr ⟨g, cap, _, rfl, hb, hg, by omega, hm, by simp; omega, by simp [hn]⟩⟩

theorem Own.slice {w : World} {base : Nat} {e : TypeId} {v : Value} {l : List UInt8} (h : Own w base e v l) : ∃ A c, v = .slice A l.length c ∧ Reads w w.heap.size 1 A l.length (bys l) := by
  have h' := h
  rcases h.2 with ⟨rfl, h0⟩ | ⟨g, cap, cur, rfl, _⟩
  · obtain rfl : l = [] := List.eq_nil_of_length_eq_zero h0
    exact ⟨none, 0, rfl, Reads.of_own h'⟩
  · exact ⟨_, _, rfl, Reads.of_own h'⟩

/-- Block g is known whole, none of its cells frozen. -/
def Blk (w : World) (g : Nat) (t : TypeId) (cs : Array Value) : Prop := w.heap[g]? = some (.cells cs t (0, 0))
section
variable {w w' : World} {g : Nat} {t : TypeId} {cs : Array Value}
theorem Blk.lt (h : Blk w g t cs) : g < w.heap.size := (Array.getElem?_eq_some_iff.1 h).1
theorem Blk.cell (h : Blk w g t cs) (i : Nat) : w.cell? ⟨g, i, none⟩ = cs[i]? := cell_of_row w g i cs t (0, 0) h
theorem Blk.frozen (h : Blk w g t cs) (i : Nat) : w.frozen? ⟨g, i, none⟩ = false := by
  unfold Blk at h
  simp [World.frozen?, h]
theorem Blk.new (w : World) (t : TypeId) (cs : Array Value) : Blk (w.alloc (.cells cs t)) w.heap.size t cs := heap_alloc_new w _
theorem Blk.drew (h : Blk w g t cs) : Blk w.drew g t cs := h
theorem Blk.alloc (h : Blk w g t cs) (o : Obj) : Blk (w.alloc o) g t cs := (Below.heap_alloc w o g h.lt).trans h
theorem Blk.set_ (h : Blk w g t cs) (i : Nat) (u : Value) : Blk (w.setCell ⟨g, i, none⟩ u) g t (cs.setIfInBounds i u) := by
  unfold Blk at h ⊢
  simp [World.setCell, Array.getElem?_modify, h]
theorem Blk.far (h : Blk w g t cs) {p : Addr} (hp : g ≠ p.block) (u : Value) : Blk (w.setCell p u) g t cs := (Below.heap_setCell w p u g hp).trans h
theorem Blk.grown {row : Option Nat} (h : Blk w g t cs) (hb : w.grownBy w' row) (hg : some g ≠ row) : Blk w' g t cs := (hb.block g h.lt hg).trans h
theorem Blk.below {B : Nat} (h : Blk w g t cs) (hb : Below B w w') (hg : g < B) : Blk w' g t cs := (hb.block g hg).trans h
end

/-- A scope out of which the run jumps forward, once at most. -/
theorem wp_scope_fwd {P : Program} {a : Act} {w : World} {Q : Exit → Act → World → Prop} {c rest : Code} (l : Nat) (hf : findLabel c l = some rest)
    (first : c.wp P (Exit.jump l (fun a w => rest.wp P (Exit.noGoto Q) a w) Q) a w) : (Code.scope c).wp P Q a w := by
  refine wp_scope_jumps l _ (fun _ _ => 0) hf first ?_
  intro a w h
  refine wp_mono h ?_
  intro e a w he
  cases e <;> first | exact he | exact False.elim he

/-- A slice type of the program: its element type, that one's zero, its cells and its bytes. -/
structure SliceT (P : Program) (t e : TypeId) (z : Value) (size bytes : Nat) : Prop where
  und : P.underlying t = some (.slice e)
  info : (P.info? e).map (fun i => (i.zero, i.size, i.bytes)) = some (some z, size, bytes)
  zsz : z.cells.size = size
  pos : 0 < size

theorem SliceT.fit {P : Program} {t e : TypeId} {z : Value} {size bytes : Nat} (h : SliceT P t e z size bytes) :
    ∃ i, P.info? e = some i ∧ i.zero = some z ∧ i.size = size ∧ i.bytes = bytes := info_parts h.info

section
variable {P : Program}

theorem run_app (w : World) (base : Nat) (t ty e : TypeId) (z : Value) (size bytes : Nat) (T : SliceT P t e z size bytes) (v : Value) (n : Nat) (xs : List Value) (hown : w.ownsRow base e size v n xs)
    (B : Nat) (A : Option Addr) (m c : Nat) (news : List Value) (hr : Reads w B size A m news) (h1 : ∀ u ∈ news, u.oneCell' = true)
    (hbytes : (n + m) * (bytes + 1) ≤ 140737488355328) (hbase : base ≤ w.heap.size) :
    ∃ v' w', (Builtin.append_ #[t, t] ty #[v, .slice A m c]).run P w = .ok v' w' ∧ w'.ownsRow base e size v' (n + m) (xs ++ news) ∧ w.grownBy w' v.ownBlock ∧
      (v'.ownBlock = v.ownBlock ∨ v'.ownBlock = some w.heap.size) ∧ Below base w w' := by
  obtain ⟨i, hi, hz0, hz1, hz2⟩ := T.fit
  have hsz := T.pos
  have hB2 : (n + m) * bytes ≤ 140737488355328 := Nat.le_trans (Nat.mul_le_mul_left _ (Nat.le_succ _)) hbytes
  have hB3 : n + m ≤ 140737488355328 := Nat.le_trans (Nat.le_mul_of_pos_right _ (by omega)) hbytes
  rcases Nat.eq_zero_or_pos news.length with h0 | h0
  · obtain rfl : news = [] := List.eq_nil_of_length_eq_zero h0
    have hm : m = 0 := by
      have := hr.1
      simp only [List.length_nil] at this
      rcases Nat.eq_zero_or_pos m with h | h
      · exact h
      · have := Nat.mul_pos h hsz; omega
    subst hm
    rcases A with _ | ad
    · refine ⟨v, w, ?_, by simpa using hown, World.grownBy.refl w _, .inl rfl, Below.refl _ _⟩
      rcases hown.2 with ⟨rfl, rfl⟩ | ⟨g, cap, cur, rfl, _, _, hnc, _⟩
      · simp [Builtin.append_, run_underlying T.und, sizeOf, typeInfo, hi, Builtin.lenOf, Builtin.firstCells]
      · simp [Builtin.append_, run_underlying T.und, sizeOf, typeInfo, hi, Builtin.lenOf, Builtin.firstCells, hnc, storeCells]
    · obtain ⟨v', w', hrun, h2, h3, _, h5⟩ := run_append_own_at (P := P) w base t ty e i z size bytes T.und hi hz0 hz1 hz2 T.zsz hsz v n xs hown ad 0 c [] (by simp) (by simp) (by simp) (by unfold maxLen; omega) hB2 hbase
      exact ⟨v', w', hrun, h2, h3, h5, (Below.refl _ _).grown h3 hbase fun k hk => (hown.lt k hk).1⟩
  · obtain ⟨b, off, rfl, _, hc⟩ := hr.2 h0
    obtain ⟨v', w', hrun, h2, h3, _, h5⟩ := run_append_own_at (P := P) w base t ty e i z size bytes T.und hi hz0 hz1 hz2 T.zsz hsz v n xs hown ⟨b, off, none⟩ m c news hr.1 (fun j u hu => by rw [Addr.add_lit]; exact hc j u hu) h1 (by unfold maxLen; omega) hB2 hbase
    exact ⟨v', w', hrun, h2, h3, h5, (Below.refl _ _).grown h3 hbase fun k hk => (hown.lt k hk).1⟩

theorem wpList_app {w : World} {ops : Array Oper} {rest : List Oper} {o : Oper} {a : Act} {Q : Exit → Act → World → Prop} (hgd : o.guard = none) (s x : Operand) (t : TypeId)
    (ho : o.op = .call { callee := .builtin .append, args := #[s, x], argTypes := #[t, t] })
    (base : Nat) (e : TypeId) (z : Value) (size bytes : Nat) (T : SliceT P t e z size bytes) (v : Value) (n : Nat) (xs : List Value) (hs : a.eval s = v) (hown : w.ownsRow base e size v n xs)
    (B : Nat) (A : Option Addr) (m c : Nat) (news : List Value) (hx : a.eval x = .slice A m c) (hr : Reads w B size A m news) (h1 : ∀ u ∈ news, u.oneCell' = true)
    (hbytes : (n + m) * (bytes + 1) ≤ 140737488355328) (hbase : base ≤ w.heap.size)
    (h : ∀ v' w', w'.ownsRow base e size v' (n + m) (xs ++ news) → w.grownBy w' v.ownBlock → (v'.ownBlock = v.ownBlock ∨ v'.ownBlock = some w.heap.size) → Below base w w' → wpList P ops Q rest (a.put o.dst v') w') :
    wpList P ops Q (o :: rest) a w := by
  refine wpList_plain hgd fun K hK => ?_
  obtain ⟨v', w', hrun, h2, h3, h4, h5⟩ := run_app w base t o.type e z size bytes T v n xs hown B A m c news hr h1 hbytes hbase
  unfold Oper.wp execOp
  simp only [ho, resolve, invoke, builtin, Sem.run_bind, Sem.run_pure, Result.andThen_ok, List.map_toArray, List.map_cons, List.map_nil, hs, hx, hrun]
  exact hK _ _ (h v' w' h2 h3 h4 h5)

/-- The cells of a block that was just made. -/
theorem Reads.new (w : World) (cs : List Value) (t : TypeId) (size n : Nat) (h : cs.length = n * size) : Reads (w.alloc (.cells cs.toArray t)) (w.heap.size + 1) size (some ⟨w.heap.size, 0, none⟩) n cs :=
  ⟨h, fun _ => ⟨w.heap.size, 0, rfl, by omega, fun j u hu => by
    have h1 := heap_alloc_new w (.cells cs.toArray t)
    simp only [World.cell?, h1]
    simpa using hu⟩⟩
end
end Go.Proofs.Ytjcdgbnbaiebdaa
