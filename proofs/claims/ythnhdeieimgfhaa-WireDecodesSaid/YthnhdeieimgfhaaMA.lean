/-
  Words for memory that the walks of this claim share: a slice that reads as a list of cells, bytes, and how these facts go on when memory grows. Conditions: none.
-/
import Derived.WalkKit
import Derived.WalkLawsBesides
import Derived.WalkSpells
import Derived.Deep.Draws
import Derived.Deep.AppendLies
import Derived.Maps.AppendAt
import Derived.Laws.CopyOwn
import Derived.Lib.Hide
import Derived.ScopeJumps
import Derived.Laws.IdiomStrings
import Derived.Laws.BytesArg
import Derived.WalkMore
import Derived.Orders
namespace Go.Proofs.Ythnhdeieimgfhaa
open Go Go.RowKit

/-- The cell at an address without a spot. -/
abbrev cel (w : World) (b o : Nat) : Option Value := w.cell? ⟨b, o, none⟩

/-- n elements of 'size' cells each lie at A, read as xs, in a block below B. -/
def Reads (w : World) (B size : Nat) (A : Option Addr) (n : Nat) (xs : List Value) : Prop :=
  xs.length = n * size ∧ (0 < xs.length → ∃ b off, A = some ⟨b, off, none⟩ ∧ b < B ∧ ∀ j u, xs[j]? = some u → w.cell? ⟨b, off + j, none⟩ = some u)

theorem block_lt {w : World} {a : Addr} {u : Value} (h : w.cell? a = some u) : a.block < w.heap.size := World.block_lt_of_cell? w a h

section
variable {w w' : World} {B B' size n : Nat} {A : Option Addr} {xs : List Value}
theorem Reads.nil (w : World) (B size : Nat) (A : Option Addr) : Reads w B size A 0 [] := ⟨by simp, fun h => absurd h (by simp)⟩
theorem Reads.keep (h : Reads w B size A n xs) (hk : ∀ k, k < B → w'.heap[k]? = w.heap[k]?) : Reads w' B size A n xs :=
  ⟨h.1, fun hn => by
    obtain ⟨b, off, e, hb, hc⟩ := h.2 hn
    exact ⟨b, off, e, hb, fun j u hu => (World.cell?_of_block (hk b hb)).trans (hc j u hu)⟩⟩
theorem Reads.more (h : Reads w B size A n xs) (hB : B ≤ B') : Reads w B' size A n xs :=
  ⟨h.1, fun hn => by
    obtain ⟨b, off, e, hb, hc⟩ := h.2 hn
    exact ⟨b, off, e, by omega, hc⟩⟩
theorem Reads.below {C : Nat} (h : Reads w B size A n xs) (hb : Below C w w') (hBC : B ≤ C) : Reads w' B size A n xs := h.keep fun _ hk => hb.block _ (by omega)
theorem Reads.drew (h : Reads w B size A n xs) : Reads w.drew B size A n xs := h
theorem Reads.drewN (h : Reads w B size A n xs) (k : Nat) : Reads (w.drewN k) B size A n xs := h
theorem Reads.len (h : Reads w B 1 A n xs) : xs.length = n := by simpa using h.1
theorem Reads.cut (h : Reads w B 1 A n xs) (l m cap : Nat) (hl : l ≤ m) (hm : m ≤ n) (hc : n ≤ cap) :
    Reads w B 1 (if cap = l then A else A.map (·.add l)) (m - l) ((xs.take m).drop l) := by
  have h0 := h.len
  refine ⟨by simp; omega, fun hn => ?_⟩
  simp at hn
  obtain ⟨b, off, rfl, hb, hcell⟩ := h.2 (by omega)
  rw [if_neg (by omega)]
  refine ⟨b, off + l, by simp [Addr.add_lit], hb, fun j u hu => ?_⟩
  rw [List.getElem?_drop] at hu
  have hj : l + j < m := by
    have := (List.getElem?_eq_some_iff.1 hu).1
    simp at this; omega
  rw [List.getElem?_take_of_lt hj] at hu
  rw [Nat.add_assoc]
  exact hcell _ u hu
theorem Reads.of_own {base : Nat} {e : TypeId} {c : Nat} (h : w.ownsRow base e size (.slice A n c) n xs) : Reads w w.heap.size size A n xs := by
  refine ⟨h.1, fun hn => ?_⟩
  rcases h.2 with ⟨_, rfl⟩ | ⟨g, cap, cur, hv, _, hg, _, _, _, hx⟩
  · have := h.1; simp at this; subst this; simp at hn
  · injection hv with hA
    subst hA
    refine ⟨g, 0, rfl, ?_, fun j u hu => ?_⟩
    · exact (Array.getElem?_eq_some_iff.1 hg).1
    · have := h.cells (g := g) rfl j u hu
      simpa [Addr.add_lit] using this
end

/-- 'Only block g, and what is new, has changed': how it goes on. -/
theorem mut_refl (w : World) (row : Option Nat) : w.grownBy w row := World.grownBy.refl w row
theorem mut_drew {a w : World} {row : Option Nat} (h : a.grownBy w row) : a.grownBy w.drew row := ⟨h.os, h.tape, h.output, h.size, h.block⟩
theorem mut_alloc {a w : World} {row : Option Nat} (h : a.grownBy w row) (o : Obj) : a.grownBy (w.alloc o) row :=
  ⟨h.os, h.tape, h.output, Nat.le_trans h.size (by simp), fun i hi hne => (Below.heap_alloc w o i (Nat.lt_of_lt_of_le hi h.size)).trans (h.block i hi hne)⟩
theorem mut_set {a w : World} {g : Nat} (h : a.grownBy w (some g)) {p : Addr} (hp : p.block = g) (u : Value) : a.grownBy (w.setCell p u) (some g) :=
  ⟨h.os, h.tape, h.output, by simpa [World.setCell] using h.size, fun i hi hne => (Below.heap_setCell w p u i (by rintro rfl; exact hne (by rw [hp]))).trans (h.block i hi hne)⟩
theorem mut_new {a w : World} {row : Option Nat} (h : a.grownBy w row) {p : Addr} (hp : a.heap.size ≤ p.block) (u : Value) : a.grownBy (w.setCell p u) row :=
  ⟨h.os, h.tape, h.output, by simpa [World.setCell] using h.size, fun i hi hne => (Below.heap_setCell w p u i (by omega)).trans (h.block i hi hne)⟩
theorem mut_of_below {a w : World} (h : Below a.heap.size a w) (row : Option Nat) : a.grownBy w row := ⟨h.os, h.tape, h.output, h.size, fun i hi _ => h.block i hi⟩
theorem mut_trans {a b c : World} {row : Option Nat} (h : a.grownBy b row) (k : b.grownBy c row) : a.grownBy c row := h.trans k
theorem below_of_mut {a w : World} {g B : Nat} (h : a.grownBy w (some g)) (hB : B ≤ g) (hz : B ≤ a.heap.size) : Below B a w :=
  ⟨h.os, h.tape, h.output, h.size, fun i hi => h.block i (by omega) (by intro e; injection e with e; omega)⟩

/-- Bytes as cells. -/
def bys (l : List UInt8) : List Value := l.map fun b => .int .u8 (b.toNat : Int)
@[simp] theorem bys_length (l : List UInt8) : (bys l).length = l.length := by simp [bys]
theorem bys_append (a b : List UInt8) : bys (a ++ b) = bys a ++ bys b := by simp [bys]
theorem bys_one (l : List UInt8) : ∀ u ∈ bys l, u.oneCell' = true := by
  intro u hu
  obtain ⟨_, _, rfl⟩ := List.mem_map.1 hu
  rfl
theorem bys_get (l : List UInt8) (j : Nat) (h : j < l.length) : (bys l)[j]? = some (.int .u8 (l[j].toNat : Int)) := by simp [bys, h]
theorem Reads.pre {w : World} {B : Nat} {A : Option Addr} {n : Nat} {l : List UInt8} (h : Reads w B 1 A n (bys l)) (k : Nat) (hk : k ≤ n) : Reads w B 1 A k (bys (l.take k)) := by
  have hl : l.length = n := by simpa using h.len
  refine ⟨by simp; omega, fun h0 => ?_⟩
  simp at h0
  obtain ⟨b, off, e, hb, hc⟩ := h.2 (by simp; omega)
  refine ⟨b, off, e, hb, fun j u hu => hc j u ?_⟩
  rw [← hu]
  unfold bys
  rw [List.map_take, List.getElem?_take_of_lt]
  have := (List.getElem?_eq_some_iff.1 hu).1
  simp at this; omega
theorem Reads.post {w : World} {B : Nat} {A A' : Option Addr} {n : Nat} {l : List UInt8} (h : Reads w B 1 A n (bys l)) (k : Nat) (hA : k < n → A' = A.map (·.add k)) : Reads w B 1 A' (n - k) (bys (l.drop k)) := by
  have hl : l.length = n := by simpa using h.len
  refine ⟨by simp; omega, fun h0 => ?_⟩
  simp at h0
  obtain ⟨b, off, rfl, hb, hc⟩ := h.2 (by simp; omega)
  refine ⟨b, off + k, by rw [hA (by omega)]; simp [Addr.add_lit], hb, fun j u hu => ?_⟩
  rw [Nat.add_assoc]
  refine hc _ u ?_
  rw [← hu]
  unfold bys
  rw [List.map_drop, List.getElem?_drop]

theorem bys_inj : ∀ {a b : List UInt8}, bys a = bys b → a = b
  | [], [], _ => rfl
  | [], _ :: _, h => by simp [bys] at h
  | _ :: _, [], h => by simp [bys] at h
  | x :: a, y :: b, h => by
    simp only [bys, List.map_cons, List.cons.injEq, Value.int.injEq, true_and] at h
    rw [UInt8.toNat_inj.1 (by omega : x.toNat = y.toNat), bys_inj h.2]

/-- Bytes made into a text. -/
theorem run_str {P : Program} (w : World) (src dst e : TypeId) (hs : P.underlying src = some (.slice e)) (he : P.underlying e = some (.int .u8)) (hd : P.underlying dst = some .string)
    (B : Nat) (A : Option Addr) (n c : Nat) (l : List UInt8) (hR : Reads w B 1 A n (bys l)) : (convert src dst (.slice A n c)).run P w = .ok (.string ⟨l.toArray⟩) w := by
  have hl : l.length = n := by simpa using hR.len
  rcases A with _ | ad
  · have h0 : l = [] := by
      rcases Nat.eq_zero_or_pos l.length with h | h
      · exact List.eq_nil_of_length_eq_zero h
      · obtain ⟨b, off, e, _⟩ := hR.2 (by simpa using h)
        cases e
    subst h0
    exact run_convert_bytes_nil w src e hs he _ _ dst hd
  · have hc : ∀ j (hj : j < l.length), w.cell? (ad.add j) = some (.int .u8 (l[j].toNat : Int)) := by
      intro j hj
      obtain ⟨b, off, e, _, hcell⟩ := hR.2 (by simp; omega)
      injection e with e
      subst e
      rw [Addr.add_lit]
      exact hcell j _ (bys_get l j hj)
    rw [← hl]
    exact run_convert_bytes_back w src dst e ad c l hs he hd hc

/-- Behind an append onto a row of the call's own, or behind a copy, the row as bytes. -/
abbrev Own (w : World) (base : Nat) (e : TypeId) (v : Value) (l : List UInt8) : Prop := w.ownsRow base e 1 v l.length (bys l)

theorem own_base {w : World} {base base' : Nat} {e : TypeId} {v : Value} {l l' : List UInt8} (hb : base ≤ base') (h : Own w base' e v l) (hl : l = l' := by simp) : Own w base e v l' := by
  subst hl
  refine ⟨h.1, h.2.imp id ?_⟩
  rintro ⟨g, cap, cur, h1, h2, h3⟩
  exact ⟨g, cap, cur, h1, by omega, h3⟩

theorem own_below {w w' : World} {base B : Nat} {e : TypeId} {v : Value} {l : List UInt8} (_ : B ≤ w.heap.size) (h : Own w base e v l) (hb : Below w.heap.size w w') : Own w' base e v l := by
  refine ⟨h.1, h.2.imp id ?_⟩
  rintro ⟨g, cap, cur, h1, h2, h3, h4⟩
  exact ⟨g, cap, cur, h1, h2, (hb.block g (Array.getElem?_eq_some_iff.1 h3).1).trans h3, h4⟩
theorem own_mut {w w' : World} {base g : Nat} {e : TypeId} {v : Value} {l : List UInt8} (h : Own w base e v l) (hb : w.grownBy w' (some g)) (hg : v.ownBlock ≠ some g) : Own w' base e v l :=
  World.ownsRow.kept h hb (.inr hg)

theorem own_of_block {w : World} {base g cap : Nat} {e : TypeId} {xs rest : List Value} {n : Nat} (hb : base ≤ g) (hg : w.heap[g]? = some (.cells (xs ++ rest).toArray e (0, 0))) (hn : xs.length = n) (hc : n + rest.length = cap) (hm : cap ≤ maxLen) :
    w.ownsRow base e 1 (.slice (some ⟨g, 0, none⟩) n cap) n xs :=
  ⟨by simp [hn], .inr ⟨g, cap, _, rfl, hb, hg, by omega, hm, by simp; omega, by simp [hn]⟩⟩

theorem Own.slice {w : World} {base : Nat} {e : TypeId} {v : Value} {l : List UInt8} (h : Own w base e v l) : ∃ A c, v = .slice A l.length c ∧ Reads w w.heap.size 1 A l.length (bys l) := by
  have h' := h
  rcases h.2 with ⟨rfl, h0⟩ | ⟨g, cap, cur, rfl, _⟩
  · obtain rfl : l = [] := List.eq_nil_of_length_eq_zero h0
    exact ⟨none, 0, rfl, Reads.of_own h'⟩
  · exact ⟨_, _, rfl, Reads.of_own h'⟩

/-- Block g is known whole, none of its cells frozen. -/
def Blk (w : World) (g : Nat) (t : TypeId) (cs : Array Value) : Prop := w.heap[g]? = some (.cells cs t (0, 0))
section
variable {w w' : World} {g : Nat} {t : TypeId} {cs : Array Value}
theorem Blk.lt (h : Blk w g t cs) : g < w.heap.size := (Array.getElem?_eq_some_iff.1 h).1
theorem Blk.cell (h : Blk w g t cs) (i : Nat) : w.cell? ⟨g, i, none⟩ = cs[i]? := cell_of_row w g i cs t (0, 0) h
theorem Blk.frozen (h : Blk w g t cs) (i : Nat) : w.frozen? ⟨g, i, none⟩ = false := by
  unfold Blk at h
  simp [World.frozen?, h]
theorem Blk.new (w : World) (t : TypeId) (cs : Array Value) : Blk (w.alloc (.cells cs t)) w.heap.size t cs := heap_alloc_new w _
theorem Blk.drew (h : Blk w g t cs) : Blk w.drew g t cs := h
theorem Blk.alloc (h : Blk w g t cs) (o : Obj) : Blk (w.alloc o) g t cs := (Below.heap_alloc w o g h.lt).trans h
theorem Blk.set_ (h : Blk w g t cs) (i : Nat) (u : Value) : Blk (w.setCell ⟨g, i, none⟩ u) g t (cs.setIfInBounds i u) := by
  unfold Blk at h ⊢
  simp [World.setCell, Array.getElem?_modify, h]
theorem Blk.far (h : Blk w g t cs) {p : Addr} (hp : g ≠ p.block) (u : Value) : Blk (w.setCell p u) g t cs := (Below.heap_setCell w p u g hp).trans h
theorem Blk.grown {row : Option Nat} (h : Blk w g t cs) (hb : w.grownBy w' row) (hg : some g ≠ row) : Blk w' g t cs := (hb.block g h.lt hg).trans h
theorem Blk.below {B : Nat} (h : Blk w g t cs) (hb : Below B w w') (hg : g < B) : Blk w' g t cs := (hb.block g hg).trans h
end

/-- A scope out of which the run jumps forward, once at most. -/
theorem wp_scope_fwd {P : Program} {a : Act} {w : World} {Q : Exit → Act → World → Prop} {c rest : Code} (l : Nat) (hf : findLabel c l = some rest)
    (first : c.wp P (Exit.jump l (fun a w => rest.wp P (Exit.noGoto Q) a w) Q) a w) : (Code.scope c).wp P Q a w := by
  refine wp_scope_jumps l _ (fun _ _ => 0) hf first ?_
  intro a w h
  refine wp_mono h ?_
  intro e a w he
  cases e <;> first | exact he | exact False.elim he

/-- A slice type of the program: its element type, that one's zero, its cells and its bytes. -/
structure SliceT (P : Program) (t e : TypeId) (z : Value) (size bytes : Nat) : Prop where
  und : P.underlying t = some (.slice e)
  info : (P.info? e).map (fun i => (i.zero, i.size, i.bytes)) = some (some z, size, bytes)
  zsz : z.cells.size = size
  pos : 0 < size

theorem SliceT.fit {P : Program} {t e : TypeId} {z : Value} {size bytes : Nat} (h : SliceT P t e z size bytes) :
    ∃ i, P.info? e = some i ∧ i.zero = some z ∧ i.size = size ∧ i.bytes = bytes := info_parts h.info

section
variable {P : Program}

theorem run_app (w : World) (base : Nat) (t ty e : TypeId) (z : Value) (size bytes : Nat) (T : SliceT P t e z size bytes) (v : Value) (n : Nat) (xs : List Value) (hown : w.ownsRow base e size v n xs)
    (B : Nat) (A : Option Addr) (m c : Nat) (news : List Value) (hr : Reads w B size A m news) (h1 : ∀ u ∈ news, u.oneCell' = true)
    (hbytes : (n + m) * (bytes + 1) ≤ 140737488355328) (hbase : base ≤ w.heap.size) :
    ∃ v' w', (Builtin.append_ #[t, t] ty #[v, .slice A m c]).run P w = .ok v' w' ∧ w'.ownsRow base e size v' (n + m) (xs ++ news) ∧ w.grownBy w' v.ownBlock ∧
      (v'.ownBlock = v.ownBlock ∨ v'.ownBlock = some w.heap.size) ∧ Below base w w' := by
  obtain ⟨i, hi, hz0, hz1, hz2⟩ := T.fit
  have hsz := T.pos
  have hB2 : (n + m) * bytes ≤ 140737488355328 := Nat.le_trans (Nat.mul_le_mul_left _ (Nat.le_succ _)) hbytes
  have hB3 : n + m ≤ 140737488355328 := Nat.le_trans (Nat.le_mul_of_pos_right _ (by omega)) hbytes
  rcases Nat.eq_zero_or_pos news.length with h0 | h0
  · obtain rfl : news = [] := List.eq_nil_of_length_eq_zero h0
    have hm : m = 0 := by
      have := hr.1
      simp only [List.length_nil] at this
      rcases Nat.eq_zero_or_pos m with h | h
      · exact h
      · have := Nat.mul_pos h hsz; omega
    subst hm
    rcases A with _ | ad
    · refine ⟨v, w, ?_, by simpa using hown, World.grownBy.refl w _, .inl rfl, Below.refl _ _⟩
      rcases hown.2 with ⟨rfl, rfl⟩ | ⟨g, cap, cur, rfl, _, _, hnc, _⟩
      · simp [Builtin.append_, run_underlying T.und, sizeOf, typeInfo, hi, Builtin.lenOf, Builtin.firstCells]
      · simp [Builtin.append_, run_underlying T.und, sizeOf, typeInfo, hi, Builtin.lenOf, Builtin.firstCells, hnc, storeCells]
    · obtain ⟨v', w', hrun, h2, h3, _, h5⟩ := run_append_own_at (P := P) w base t ty e i z size bytes T.und hi hz0 hz1 hz2 T.zsz hsz v n xs hown ad 0 c [] (by simp) (by simp) (by simp) (by unfold maxLen; omega) hB2 hbase
      exact ⟨v', w', hrun, h2, h3, h5, (Below.refl _ _).grown h3 hbase fun k hk => (hown.lt k hk).1⟩
  · obtain ⟨b, off, rfl, _, hc⟩ := hr.2 h0
    obtain ⟨v', w', hrun, h2, h3, _, h5⟩ := run_append_own_at (P := P) w base t ty e i z size bytes T.und hi hz0 hz1 hz2 T.zsz hsz v n xs hown ⟨b, off, none⟩ m c news hr.1 (fun j u hu => by rw [Addr.add_lit]; exact hc j u hu) h1 (by unfold maxLen; omega) hB2 hbase
    exact ⟨v', w', hrun, h2, h3, h5, (Below.refl _ _).grown h3 hbase fun k hk => (hown.lt k hk).1⟩

theorem wpList_app {w : World} {ops : Array Oper} {rest : List Oper} {o : Oper} {a : Act} {Q : Exit → Act → World → Prop} (hgd : o.guard = none) (s x : Operand) (t : TypeId)
    (ho : o.op = .call { callee := .builtin .append, args := #[s, x], argTypes := #[t, t] })
    (base : Nat) (e : TypeId) (z : Value) (size bytes : Nat) (T : SliceT P t e z size bytes) (v : Value) (n : Nat) (xs : List Value) (hs : a.eval s = v) (hown : w.ownsRow base e size v n xs)
    (B : Nat) (A : Option Addr) (m c : Nat) (news : List Value) (hx : a.eval x = .slice A m c) (hr : Reads w B size A m news) (h1 : ∀ u ∈ news, u.oneCell' = true)
    (hbytes : (n + m) * (bytes + 1) ≤ 140737488355328) (hbase : base ≤ w.heap.size)
    (h : ∀ v' w', w'.ownsRow base e size v' (n + m) (xs ++ news) → w.grownBy w' v.ownBlock → (v'.ownBlock = v.ownBlock ∨ v'.ownBlock = some w.heap.size) → Below base w w' → wpList P ops Q rest (a.put o.dst v') w') :
    wpList P ops Q (o :: rest) a w := by
  refine wpList_plain hgd fun K hK => ?_
  obtain ⟨v', w', hrun, h2, h3, h4, h5⟩ := run_app w base t o.type e z size bytes T v n xs hown B A m c news hr h1 hbytes hbase
  unfold Oper.wp execOp
  simp only [ho, resolve, invoke, builtin, Sem.run_bind, Sem.run_pure, Result.andThen_ok, List.map_toArray, List.map_cons, List.map_nil, hs, hx, hrun]
  exact hK _ _ (h v' w' h2 h3 h4 h5)

/-- The cells of a block that was just made. -/
theorem Reads.new (w : World) (cs : List Value) (t : TypeId) (size n : Nat) (h : cs.length = n * size) : Reads (w.alloc (.cells cs.toArray t)) (w.heap.size + 1) size (some ⟨w.heap.size, 0, none⟩) n cs :=
  ⟨h, fun _ => ⟨w.heap.size, 0, rfl, by omega, fun j u hu => by
    have h1 := heap_alloc_new w (.cells cs.toArray t)
    simp only [World.cell?, h1]
    simpa using hu⟩⟩
end
end Go.Proofs.Ythnhdeieimgfhaa

/-
  A region that draws its order, each of whose operations needs no more than what the operations before it (by its edges) have left: one obligation for each operation, whatever order is drawn. Conditions: what an operation leaves stays true while the others go on.
-/
namespace Go.Proofs.Ythnhdeieimgfhaa
open Go Go.RowKit

section
variable {P : Program} {Q : Exit → Act → World → Prop}

def dstOf (ops : Array Oper) (j : Nat) : Option Tmp := (ops[j]?).bind (·.dst)
/-- The operations that come before this one in every order. -/
def ahead (o : Oper) : List Nat := (o.after.toList.filter (Region.binds .any)).map (·.on)

/-- What the theorem asks of a region's form. -/
def regionOk (ops : Array Oper) (n : Nat) : Bool :=
  ops.toList.zipIdx.all fun x =>
    (ahead x.1).all (fun j => decide (j < x.2)) &&
    (match x.1.op with | .select .. => false | _ => true) &&
    (match x.1.dst with | some d => decide (d < n) && ops.toList.zipIdx.all (fun y => y.2 == x.2 || y.1.dst != some d) | none => true) &&
    (match x.1.guard with | some (j, _) => (ahead x.1).contains j && (dstOf ops j).isSome | none => true) &&
    ((x.1.looksAt ops).all fun t => ops.toList.zipIdx.all fun y => y.1.dst != some t || (y.2 != x.2 && ((ahead x.1).contains y.2 || (ahead y.1).contains x.2)))

/-- What an operand is when its operation comes up. -/
def rho (ops : Array Oper) (a0 : Act) (V : Nat → Value) (o : Oper) : Operand → Value
  | .tmp t => match (ahead o).find? (fun j => dstOf ops j == some t) with
    | some j => V j
    | none => a0.tmps.getD t undef
  | x => a0.eval x

def wants (V : Nat → Value) (o : Oper) : Bool :=
  match o.guard with
  | none => true
  | some (j, want) => match V j with
    | .bool b => b == want
    | _ => false

def upd (L : Nat → Bool) (i : Nat) : Nat → Bool := fun j => if j = i then true else L j

/-- What an operation's run must come to. -/
def Res (P : Program) (R : Value → World → Prop) : Result Next → Prop
  | .ok (.value v) w' => R v w'
  | .ok .skip w' => R undef w'
  | .ok (.enter f args) w' => Calls P f args w' fun e w'' => ∃ v, e = .returned v ∧ R v w''
  | _ => False

def updV (V : Nat → Value) (i : Nat) (v : Value) : Nat → Value := fun j => if j = i then v else V j
/-- What stands before an operation that is done is done. -/
def Closed (ops : Array Oper) (L : Nat → Bool) : Prop := (∀ j o, ops[j]? = some o → L j = true → ∀ k ∈ ahead o, L k = true) ∧ ∀ j, L j = true → j < ops.size

/-- What is owed for one operation. -/
def Owed (P : Program) (ops : Array Oper) (a0 : Act) (I : (Nat → Bool) → (Nat → Value) → World → Prop) (i : Nat) (o : Oper) : Prop :=
  ∀ (L : Nat → Bool) (V : Nat → Value) (w : World), L i = false → Closed ops L → (∀ k ∈ ahead o, L k = true) → I L V w →
    if wants V o = true then Res P (fun v w' => I (upd L i) (updV V i v) w') ((execOp (rho ops a0 V o) o).run P w) else I (upd L i) (updV V i undef) w

/-- The frame behind the region. -/
def putAll (V : Nat → Value) : List Oper → Nat → Act → Act
  | [], _, a => a
  | o :: r, k, a => putAll V r (k + 1) (a.put o.dst (V k))

structure Inv (ops : Array Oper) (a0 : Act) (I : (Nat → Bool) → (Nat → Value) → World → Prop) (L : Array Bool) (a : Act) (w : World) : Prop where
  size : L.size = ops.size
  closed : ∀ j o, ops[j]? = some o → L.getD j false = true → ∀ k ∈ ahead o, L.getD k false = true
  asz : a.tmps.size = a0.tmps.size
  adef : a.defers = a0.defers
  vals : ∃ V : Nat → Value, (∀ j d, L.getD j false = true → dstOf ops j = some d → a.tmps.getD d undef = V j) ∧
    (∀ t, (∀ j, L.getD j false = true → dstOf ops j ≠ some t) → a.tmps.getD t undef = a0.tmps.getD t undef) ∧ I (fun j => L.getD j false) V w

theorem regionOk_at {ops : Array Oper} {n : Nat} (h : regionOk ops n = true) {i : Nat} {o : Oper} (hi : ops[i]? = some o) :
    (∀ j ∈ ahead o, j < i) ∧ (∀ cs b, o.op ≠ .select cs b) ∧ (∀ d, o.dst = some d → d < n ∧ ∀ j p, ops[j]? = some p → j ≠ i → p.dst ≠ some d) ∧
    (∀ j want, o.guard = some (j, want) → j ∈ ahead o ∧ ∃ d, dstOf ops j = some d) ∧
    (∀ t ∈ o.looksAt ops, ∀ j p, ops[j]? = some p → p.dst = some t → j ≠ i ∧ (j ∈ ahead o ∨ i ∈ ahead p)) := by
  have mem : ∀ {j : Nat} {p : Oper}, ops[j]? = some p → (p, j) ∈ ops.toList.zipIdx := fun {j p} hj => List.mem_zipIdx_iff_getElem?.2 (by simpa using hj)
  have h1 := List.all_eq_true.1 h _ (mem hi)
  simp only [Bool.and_eq_true] at h1
  obtain ⟨⟨⟨⟨h1, h2⟩, h3⟩, h4⟩, h5⟩ := h1
  refine ⟨fun j hj => by simpa using List.all_eq_true.1 h1 j hj, ?_, ?_, ?_, ?_⟩
  · intro cs b he
    rw [he] at h2
    cases h2
  · intro d hd
    rw [hd] at h3
    simp only [Bool.and_eq_true, decide_eq_true_eq] at h3
    refine ⟨h3.1, fun j p hj hne => ?_⟩
    have := List.all_eq_true.1 h3.2 _ (mem hj)
    simp only [Bool.or_eq_true, beq_iff_eq, bne_iff_ne] at this
    exact this.resolve_left hne
  · intro j want hg
    rw [hg] at h4
    simp only [Bool.and_eq_true, List.contains_iff_mem] at h4
    exact ⟨h4.1, Option.isSome_iff_exists.1 h4.2⟩
  · intro t ht j p hj hd
    have := List.all_eq_true.1 (List.all_eq_true.1 h5 t ht) _ (mem hj)
    simp only [hd, Bool.or_eq_true, Bool.and_eq_true, bne_iff_ne, List.contains_iff_mem] at this
    rcases this with h | h
    · exact absurd rfl h
    · exact h

theorem dstOf_some {ops : Array Oper} {j : Nat} {d : Tmp} (h : dstOf ops j = some d) : ∃ p, ops[j]? = some p ∧ p.dst = some d := by
  unfold dstOf at h
  cases hp : ops[j]? with
  | none => rw [hp] at h; cases h
  | some p => rw [hp] at h; exact ⟨p, rfl, h⟩

theorem mem_ahead {o : Oper} {k : Nat} : k ∈ ahead o ↔ ∃ e ∈ o.after, Region.binds .any e = true ∧ e.on = k := by
  simp [ahead, and_assoc]

theorem eval_rho {ops : Array Oper} {a0 a : Act} {L : Array Bool} {V : Nat → Value} {i : Nat} {o : Oper}
    (hok : regionOk ops a0.tmps.size = true) (hi : ops[i]? = some o) (hl : L.getD i false = false) (hp : ∀ k ∈ ahead o, L.getD k false = true)
    (closed : ∀ j o, ops[j]? = some o → L.getD j false = true → ∀ k ∈ ahead o, L.getD k false = true)
    (h1 : ∀ j d, L.getD j false = true → dstOf ops j = some d → a.tmps.getD d undef = V j)
    (h2 : ∀ t, (∀ j, L.getD j false = true → dstOf ops j ≠ some t) → a.tmps.getD t undef = a0.tmps.getD t undef) :
    ∀ x ∈ o.op.operands, a.eval x = rho ops a0 V o x := by
  obtain ⟨k1, k2, k3, k4, k5⟩ := regionOk_at hok hi
  intro x hx
  cases x with
  | tmp t =>
    have ht : t ∈ o.looksAt ops := List.mem_append_left _ (List.mem_filterMap.2 ⟨.tmp t, by simpa using hx, rfl⟩)
    show a.tmps.getD t undef = rho ops a0 V o (.tmp t)
    cases hf : (ahead o).find? (fun j => dstOf ops j == some t) with
    | some j =>
      have hj := List.find?_some hf
      have hm := List.mem_of_find?_eq_some hf
      simp only [beq_iff_eq] at hj
      simp only [rho, hf]
      exact h1 j t (hp j hm) hj
    | none =>
      simp only [rho, hf]
      refine h2 t fun j hj hd => ?_
      obtain ⟨p, hpj, hpd⟩ := dstOf_some hd
      obtain ⟨hne, hor⟩ := k5 t ht j p hpj hpd
      rcases hor with hor | hor
      · have := List.find?_eq_none.1 hf j hor
        simp [hd] at this
      · have := closed j p hpj hj i hor
        rw [hl] at this
        cases this
  | const v => rfl
  | global g => rfl
  | func f => rfl

theorem wants_eq {ops : Array Oper} {a0 a : Act} {L : Array Bool} {V : Nat → Value} {i : Nat} {o : Oper}
    (hok : regionOk ops a0.tmps.size = true) (hi : ops[i]? = some o) (hp : ∀ k ∈ ahead o, L.getD k false = true) (hsz : a.tmps.size = a0.tmps.size)
    (h1 : ∀ j d, L.getD j false = true → dstOf ops j = some d → a.tmps.getD d undef = V j) :
    Region.wanted o (yielded ops a.tmps) = wants V o := by
  obtain ⟨k1, k2, k3, k4, k5⟩ := regionOk_at hok hi
  unfold Region.wanted wants
  cases hg : o.guard with
  | none => rfl
  | some gw =>
    obtain ⟨j, want⟩ := gw
    obtain ⟨hj, d, hd⟩ := k4 j want hg
    have hv := h1 j d (hp j hj) hd
    obtain ⟨p, hpj, hpd⟩ := dstOf_some hd
    have hlt : d < a.tmps.size := by rw [hsz]; exact ((regionOk_at hok hpj).2.2.1 d hpd).1
    have hy : yielded ops a.tmps j = match V j with | .bool b => some b | _ => none := by
      unfold yielded
      unfold dstOf at hd
      rw [hd]
      have : a.tmps[d]? = some (V j) := by rw [← hv]; simp [hlt]
      show (match a.tmps[d]? with | some (.bool b) => some b | _ => none) = _
      rw [this]
      cases V j <;> rfl
    simp only [hy]
    cases V j <;> simp

theorem inv_put {ops : Array Oper} {a0 a : Act} {I : (Nat → Bool) → (Nat → Value) → World → Prop} {L : Array Bool} {w' : World} {V : Nat → Value} {i : Nat} {o : Oper} {v : Value}
    (hok : regionOk ops a0.tmps.size = true) (hi : ops[i]? = some o) (hl : L.getD i false = false) (hp : ∀ k ∈ ahead o, L.getD k false = true)
    (hsz : L.size = ops.size) (closed : ∀ j o, ops[j]? = some o → L.getD j false = true → ∀ k ∈ ahead o, L.getD k false = true)
    (asz : a.tmps.size = a0.tmps.size) (adef : a.defers = a0.defers)
    (h1 : ∀ j d, L.getD j false = true → dstOf ops j = some d → a.tmps.getD d undef = V j)
    (h2 : ∀ t, (∀ j, L.getD j false = true → dstOf ops j ≠ some t) → a.tmps.getD t undef = a0.tmps.getD t undef)
    (hI : I (upd (fun j => L.getD j false) i) (updV V i v) w') :
    Inv ops a0 I (L.setIfInBounds i true) (a.put o.dst v) w' := by
  obtain ⟨k1, k2, k3, k4, k5⟩ := regionOk_at hok hi
  have hlt : i < L.size := by rw [hsz]; exact (Array.getElem?_eq_some_iff.1 hi).1
  have hL : ∀ j, (L.setIfInBounds i true).getD j false = upd (fun j => L.getD j false) i j := by
    intro j
    unfold upd
    by_cases hj : j = i
    · subst hj; simp [hlt]
    · rw [if_neg hj, getD_set_ne _ (fun e => hj e.symm)]
  have hL' : ∀ j, (L.setIfInBounds i true).getD j false = true → j = i ∨ L.getD j false = true := by
    intro j hj
    rw [hL j] at hj
    unfold upd at hj
    by_cases hji : j = i
    · exact .inl hji
    · rw [if_neg hji] at hj; exact .inr hj
  refine ⟨by simpa using hsz, ?_, ?_, ?_, ⟨fun j => if j = i then v else V j, ?_, ?_, ?_⟩⟩
  · intro j p hpj hj k hk
    rcases hL' j hj with rfl | hj
    · rw [hi] at hpj
      injection hpj with hpj
      subst hpj
      exact getD_set_true (hp k hk)
    · exact getD_set_true (closed j p hpj hj k hk)
  · rw [← asz]
    cases o.dst <;> simp [Act.put]
  · rw [← adef]
    cases o.dst <;> rfl
  · intro j d hj hd
    by_cases hji : j = i
    · subst hji
      obtain ⟨p, hpj, hpd⟩ := dstOf_some hd
      rw [hi] at hpj
      injection hpj with hpj
      subst hpj
      have := (k3 d hpd).1
      rw [hpd]
      simp [Act.put, asz, this]
    · show _ = if j = i then v else V j
      rw [if_neg hji]
      have hj2 := (hL' j hj).resolve_left hji
      rw [← h1 j d hj2 hd]
      cases ho : o.dst with
      | none => rfl
      | some e =>
        obtain ⟨p, hpj, hpd⟩ := dstOf_some hd
        have hne : e ≠ d := by
          rintro rfl
          exact (k3 e ho).2 j p hpj hji hpd
        simp [Act.put, Array.getElem?_setIfInBounds_ne hne]
  · intro t ht
    have hti : dstOf ops i ≠ some t := ht i (by rw [hL]; simp [upd])
    rw [← h2 t fun j hj => ht j (getD_set_true hj)]
    cases ho : o.dst with
    | none => rfl
    | some e =>
      have hne : e ≠ t := by
        rintro rfl
        exact hti (by unfold dstOf; rw [hi]; exact ho)
      simp [Act.put, Array.getElem?_setIfInBounds_ne hne]
  · have : (fun j => (L.setIfInBounds i true).getD j false) = upd (fun j => L.getD j false) i := funext hL
    rw [this]
    exact hI

theorem inv_step {ops : Array Oper} {a0 a : Act} {I : (Nat → Bool) → (Nat → Value) → World → Prop} {L : Array Bool} {w : World} {i : Nat}
    (hok : regionOk ops a0.tmps.size = true) (owed : ∀ i o, ops[i]? = some o → Owed P ops a0 I i o)
    (h : Inv ops a0 I L a w) (hr : i ∈ Region.ready .any ops L) : wpOp P ops Q i (Inv ops a0 I (L.setIfInBounds i true)) a w := by
  obtain ⟨hl0, o, hi, hp0⟩ := mem_ready.1 hr
  have hsz := h.size
  have hlt : i < L.size := by rw [hsz]; exact (Array.getElem?_eq_some_iff.1 hi).1
  have hl : L.getD i false = false := by simpa [hlt] using hl0
  have hp : ∀ k ∈ ahead o, L.getD k false = true := by
    intro k hk
    obtain ⟨e, he, hb, rfl⟩ := mem_ahead.1 hk
    exact hp0 e he hb
  obtain ⟨V, h1, h2, h3⟩ := h.vals
  have k2 := (regionOk_at hok hi).2.1
  have hev := eval_rho hok hi hl hp h.closed h1 h2
  have hw := wants_eq hok hi hp h.asz h1
  have hex : execOp a.eval o = execOp (rho ops a0 V o) o := execOp_congr o k2 hev
  have hlt2 : ∀ j, L.getD j false = true → j < ops.size := by
    intro j hj
    by_cases h5 : j < L.size
    · omega
    · simp [h5] at hj
  have ob := owed i o hi (fun j => L.getD j false) V w hl ⟨h.closed, hlt2⟩ hp h3
  unfold wpOp
  simp only [hi]
  rw [hw]
  by_cases hwt : wants V o = true
  · rw [if_pos hwt] at ob ⊢
    refine .inl ?_
    unfold Oper.wp
    rw [hex]
    generalize (execOp (rho ops a0 V o) o).run P w = r at *
    have put : ∀ v w', I (upd (fun j => L.getD j false) i) (updV V i v) w' → Inv ops a0 I (L.setIfInBounds i true) (a.put o.dst v) w' := fun v w' hv =>
      inv_put hok hi hl hp hsz h.closed h.asz h.adef h1 h2 hv
    cases r with
    | ok n w' =>
      cases n <;> simp only [Res] at ob <;> simp only [Oper.upon]
      case value v => exact put _ _ ob
      case skip => exact put _ _ ob
      case enter f args =>
        refine ob.mono ?_
        rintro e w'' ⟨v, rfl, hv⟩
        exact put _ _ hv
    | halt x w' => simp only [Res] at ob
  · rw [if_neg hwt] at ob ⊢
    exact inv_put hok hi hl hp hsz h.closed h.asz h.adef h1 h2 ob

theorem putAll_at (V : Nat → Value) : ∀ (l : List Oper) (k : Nat) (a : Act), (putAll V l k a).tmps.size = a.tmps.size ∧ (putAll V l k a).defers = a.defers ∧
    (∀ t, (∀ (j : Nat) (o : Oper), l[j]? = some o → o.dst ≠ some t) → (putAll V l k a).tmps.getD t undef = a.tmps.getD t undef) ∧
    (∀ (j : Nat) (o : Oper) (t : Tmp), l[j]? = some o → o.dst = some t → t < a.tmps.size → (∀ (j' : Nat) (o' : Oper), l[j']? = some o' → j' ≠ j → o'.dst ≠ some t) → (putAll V l k a).tmps.getD t undef = V (k + j)) := by
  intro l
  induction l with
  | nil => intro k a; exact ⟨rfl, rfl, fun _ _ => rfl, fun j o t h => by simp at h⟩
  | cons o r ih =>
    intro k a
    obtain ⟨i1, i2, i3, i4⟩ := ih (k + 1) (a.put o.dst (V k))
    have hs : (a.put o.dst (V k)).tmps.size = a.tmps.size := by cases o.dst <;> simp [Act.put]
    refine ⟨i1.trans hs, i2.trans (by cases o.dst <;> rfl), fun t ht => ?_, fun j p t hj hd hlt hu => ?_⟩
    · show (putAll V r (k + 1) (a.put o.dst (V k))).tmps.getD t undef = _
      rw [i3 t fun j p hj => ht (j + 1) p (by simpa using hj)]
      have h0 := ht 0 o (by simp)
      cases ho : o.dst with
      | none => rfl
      | some e =>
        have hne : e ≠ t := by rintro rfl; exact h0 ho
        simp [Act.put, Array.getElem?_setIfInBounds_ne hne]
    · show (putAll V r (k + 1) (a.put o.dst (V k))).tmps.getD t undef = _
      cases j with
      | zero =>
        simp at hj
        subst hj
        rw [i3 t fun j p hj => hu (j + 1) p (by simpa using hj) (by omega), hd]
        simp [Act.put, hlt]
      | succ j =>
        have := i4 j p t (by simpa using hj) hd (by rw [hs]; exact hlt) fun j' o' hj' hne => hu (j' + 1) o' (by simpa using hj') (by omega)
        rw [this]
        congr 1
        omega

theorem all_listed {ops : Array Oper} {n : Nat} {L : Array Bool} (hok : regionOk ops n = true) (hsz : L.size = ops.size) (hr : Region.ready .any ops L = []) : ∀ i, i < ops.size → L.getD i false = true := by
  intro i
  induction i using Nat.strongRecOn with
  | _ i ih =>
    intro hi
    by_cases h : L.getD i false = true
    · exact h
    · exfalso
      have ho : ops[i]? = some ops[i] := by simp [hi]
      have : i ∈ Region.ready .any ops L := by
        refine mem_ready.2 ⟨?_, _, ho, fun e he hb => ?_⟩
        · have hlt : i < L.size := by omega
          simpa [hlt] using h
        · have hk : e.on ∈ ahead ops[i] := mem_ahead.2 ⟨e, he, hb, rfl⟩
          have hlt := (regionOk_at hok ho).1 _ hk
          exact ih _ hlt (by omega)
      rw [hr] at this
      cases this

theorem inv_all {ops : Array Oper} {a0 : Act} {I : (Nat → Bool) → (Nat → Value) → World → Prop}
    (hok : regionOk ops a0.tmps.size = true) (owed : ∀ i o, ops[i]? = some o → Owed P ops a0 I i o)
    (fin : ∀ (V : Nat → Value) (w : World), I (fun j => decide (j < ops.size)) V w → Q .normal (putAll V ops.toList 0 a0) w) :
    ∀ (fuel : Nat) (L : Array Bool) (a : Act) (w : World), L.toList.count false ≤ fuel → Inv ops a0 I L a w → wpAny P .any ops Q fuel L a w := by
  have done : ∀ (L : Array Bool) (a : Act) (w : World), Inv ops a0 I L a w → Region.ready .any ops L = [] → Q .normal a w := by
    intro L a w h hr
    have hall := all_listed hok h.size hr
    obtain ⟨V, h1, h2, h3⟩ := h.vals
    have hLf : (fun j => L.getD j false) = fun j => decide (j < ops.size) := by
      funext j
      by_cases hj : j < ops.size
      · rw [hall j hj]; simp [hj]
      · have : ¬ j < L.size := by rw [h.size]; exact hj
        simp [hj, this]
    rw [hLf] at h3
    have hq := fin V w h3
    obtain ⟨p1, p2, p3, p4⟩ := putAll_at V ops.toList 0 a0
    have ha : a = putAll V ops.toList 0 a0 := by
      have e2 : a.defers = (putAll V ops.toList 0 a0).defers := h.adef.trans p2.symm
      have e1 : a.tmps = (putAll V ops.toList 0 a0).tmps := by
        apply Array.ext
        · rw [h.asz, p1]
        · intro t ht1 ht2
          have g1 : a.tmps[t] = a.tmps.getD t undef := by simp [ht1]
          have g2 : (putAll V ops.toList 0 a0).tmps[t] = (putAll V ops.toList 0 a0).tmps.getD t undef := by simp [ht2]
          rw [g1, g2]
          by_cases hex : ∃ j, j < ops.size ∧ dstOf ops j = some t
          · obtain ⟨j, hj, hd⟩ := hex
            obtain ⟨p, hpj, hpd⟩ := dstOf_some hd
            rw [h1 j t (hall j hj) hd]
            have h5 := p4 j p t (by simpa using hpj) hpd (by rw [← h.asz]; exact ht1) fun j' o' hj' hne hd' => (regionOk_at hok hpj).2.2.1 t hpd |>.2 j' o' (by simpa using hj') hne hd'
            rw [h5, Nat.zero_add]
          · rw [h2 t fun j hj hd => hex ⟨j, ?_, hd⟩, p3 t fun j o hj hd => hex ⟨j, ?_, ?_⟩]
            · have := (List.getElem?_eq_some_iff.1 hj).1
              simpa using this
            · unfold dstOf
              have hj' : ops[j]? = some o := by simpa using hj
              rw [hj']
              exact hd
            · obtain ⟨p, hpj, _⟩ := dstOf_some hd
              exact (Array.getElem?_eq_some_iff.1 hpj).1
      calc a = ⟨a.tmps, a.defers⟩ := rfl
        _ = _ := by rw [e1, e2]
    rw [ha]
    exact hq
  intro fuel
  induction fuel with
  | zero =>
    intro L a w hcnt h
    have hr : Region.ready .any ops L = [] := by
      apply List.eq_nil_iff_forall_not_mem.2
      intro i hi
      obtain ⟨hl0, o, ho, _⟩ := mem_ready.1 hi
      have hlt : i < L.size := by rw [h.size]; exact (Array.getElem?_eq_some_iff.1 ho).1
      have hf : L[i] = false := by simpa [hlt] using hl0
      have : false ∈ L.toList := by rw [← hf]; simp
      have := List.count_pos_iff.2 this
      omega
    exact ⟨hr, done L a w h hr⟩
  | succ fuel ih =>
    intro L a w hcnt h
    refine ⟨done L a w h, fun i hi => ?_⟩
    refine wpOp_mono (fun a' w' h' => ih _ a' w' ?_ h') (inv_step hok owed h hi)
    obtain ⟨hl0, o, ho, _⟩ := mem_ready.1 hi
    have hlt : i < L.size := by rw [h.size]; exact (Array.getElem?_eq_some_iff.1 ho).1
    have hf : L[i] = false := by simpa [hlt] using hl0
    have hpos : 0 < L.toList.count false := List.count_pos_iff.2 (by rw [← hf]; simp)
    rw [Array.toList_setIfInBounds, List.count_set (by simpa using hlt)]
    have e1 : (L.toList[i]'(by simpa using hlt) == false) = true := by simp [hf]
    rw [if_pos e1, if_neg (by decide)]
    omega

/-- **A region that draws its order, one obligation for each operation.** -/
theorem wp_region_inv {id : Nat} {ops : Array Oper} {a0 : Act} {w : World} (I : (Nat → Bool) → (Nat → Value) → World → Prop)
    (n : Nat) (hn : a0.tmps.size = n) (hm : P.follows .mixedOrders = true) (hok : regionOk ops n = true)
    (hI : I (fun _ => false) (fun _ => undef) w.drew) (owed : ∀ i o, ops[i]? = some o → Owed P ops a0 I i o)
    (fin : ∀ (V : Nat → Value) (w : World), I (fun j => decide (j < ops.size)) V w → Q .normal (putAll V ops.toList 0 a0) w) :
    (Code.region id ops true).wp P Q a0 w := by
  subst hn
  refine wp_region_any hm (inv_all hok owed fin _ _ _ _ ?_ ⟨by simp, ?_, rfl, rfl, ⟨fun _ => undef, ?_, fun _ _ => rfl, ?_⟩⟩)
  · refine Nat.le_trans List.count_le_length ?_
    simp
  · intro j o ho hj
    have hlt : j < ops.size := (Array.getElem?_eq_some_iff.1 ho).1
    simp [hlt] at hj
  · intro j d hj hd
    by_cases hlt : j < ops.size <;> simp [hlt] at hj
  · have : (fun j => (Array.replicate ops.size false).getD j false) = fun _ => false := by
      funext j
      by_cases hlt : j < ops.size <;> simp [hlt]
    rw [this]
    exact hI

/-- A region's facts, one for each operation. -/
def tab (l : List (Value → World → Prop)) (i : Nat) (v : Value) (w : World) : Prop := (l.getD i (fun _ _ => True)) v w
theorem tab_zero (f : Value → World → Prop) (l : List (Value → World → Prop)) (v : Value) (w : World) : tab (f :: l) 0 v w = f v w := rfl
theorem tab_succ (f : Value → World → Prop) (l : List (Value → World → Prop)) (n : Nat) (v : Value) (w : World) : tab (f :: l) (n + 1) v w = tab l n v w := rfl
theorem tab_stable {Le : World → World → Prop} {l : List (Value → World → Prop)} (h : ∀ f ∈ l, ∀ v w w', f v w → Le w w' → f v w') : ∀ j v w w', tab l j v w → Le w w' → tab l j v w' := by
  intro j v w w' hf hle
  unfold tab at *
  by_cases hj : j < l.length
  · simp only [List.getD_eq_getElem?_getD, List.getElem?_eq_getElem hj, Option.getD_some] at *
    exact h _ (List.getElem_mem hj) v w w' hf hle
  · simp only [List.getD_eq_getElem?_getD, List.getElem?_eq_none (Nat.le_of_not_lt hj), Option.getD_none]

/-- What an operand is, by the list of those slots that operations of the region have written: the slot, the operation. -/
def rhoP (rd : List (Nat × Nat)) (a0 : Act) (V : Nat → Value) : Operand → Value
  | .tmp t => match rd.lookup t with
    | some j => V j
    | none => a0.tmps.getD t undef
  | x => a0.eval x
def wantsG (V : Nat → Value) : Option (Nat × Bool) → Bool
  | none => true
  | some (j, want) => match V j with
    | .bool b => b == want
    | _ => false
def bareOp (op : Op) (ty : TypeId) : Oper := { dst := none, op := op, type := ty, pos := "", after := #[], guard := none }

/-- What is owed for one operation: 'al': the operations on whose facts it leans; 'rd': whose slots it reads. -/
def OwedE (P : Program) (ops : Array Oper) (a0 : Act) (I : (Nat → Bool) → (Nat → Value) → World → Prop) (k : Nat) (op : Op) (ty : TypeId) (gd : Option (Nat × Bool)) (al : List Nat) (rd : List (Nat × Nat)) : Prop :=
  ∀ (L : Nat → Bool) (V : Nat → Value) (w : World), L k = false → Closed ops L → (∀ j ∈ al, L j = true) → I L V w →
    if wantsG V gd = true then Res P (fun v w' => I (upd L k) (updV V k v) w') ((execOp (rhoP rd a0 V) (bareOp op ty)).run P w) else I (upd L k) (updV V k undef) w

def OwedP (P : Program) (ops : Array Oper) (a0 : Act) (I : (Nat → Bool) → (Nat → Value) → World → Prop) : Nat → List Oper → List (List Nat × List (Nat × Nat)) → Prop
  | _, [], _ => True
  | _, _ :: _, [] => False
  | k, o :: r, x :: xs => OwedE P ops a0 I k o.op o.type o.guard x.1 x.2 ∧ OwedP P ops a0 I (k + 1) r xs

def planOk (ops : Array Oper) (pl : List (List Nat × List (Nat × Nat))) : Bool :=
  ops.toList.zipIdx.all fun x => match pl[x.2]? with
    | none => false
    | some (al, rd) => al.all (fun j => (ahead x.1).contains j) &&
      (match x.1.op with | .select .. => false | _ => true) &&
      (x.1.op.operands.toList.all fun y => match y with
        | .tmp t => (ahead x.1).find? (fun j => dstOf ops j == some t) == rd.lookup t
        | _ => true)

theorem execOp_bare (ρ : Operand → Value) (o : Oper) : execOp ρ o = execOp ρ (bareOp o.op o.type) := by
  cases o with
  | mk dst op type pos after guard => cases op <;> rfl

theorem owed_plan {ops : Array Oper} {a0 : Act} {I : (Nat → Bool) → (Nat → Value) → World → Prop} (pl : List (List Nat × List (Nat × Nat)))
    (hok : planOk ops pl = true) (h : OwedP P ops a0 I 0 ops.toList pl) : ∀ i o, ops[i]? = some o → Owed P ops a0 I i o := by
  have key : ∀ (l : List Oper) (k : Nat) (q : List (List Nat × List (Nat × Nat))), OwedP P ops a0 I k l q → ∀ (i : Nat) (o : Oper), l[i]? = some o → ∃ x, q[i]? = some x ∧ OwedE P ops a0 I (k + i) o.op o.type o.guard x.1 x.2 := by
    intro l
    induction l with
    | nil => intro k q _ i o hi; simp at hi
    | cons p r ih =>
      intro k q hk i o hi
      cases q with
      | nil => exact False.elim hk
      | cons x xs =>
        cases i with
        | zero => simp at hi; subst hi; exact ⟨x, rfl, hk.1⟩
        | succ i =>
          obtain ⟨y, hy, he⟩ := ih (k + 1) xs hk.2 i o (by simpa using hi)
          exact ⟨y, by simpa using hy, by rwa [show k + (i + 1) = k + 1 + i by omega]⟩
  intro i o hi
  obtain ⟨⟨al, rd⟩, hx, he⟩ := key _ 0 pl h i o (by simpa using hi)
  rw [Nat.zero_add] at he
  have h1 := List.all_eq_true.1 hok (o, i) (List.mem_zipIdx_iff_getElem?.2 (by simpa using hi))
  simp only [hx, Bool.and_eq_true] at h1
  obtain ⟨⟨h1, h2⟩, h3⟩ := h1
  intro L V w hl hcl hL hc
  have hal : ∀ j ∈ al, j ∈ ahead o := fun j hj => by simpa using List.all_eq_true.1 h1 j hj
  have ob := he L V w hl hcl (fun j hj => hL j (hal j hj)) hc
  have hw : wants V o = wantsG V o.guard := by unfold wants wantsG; rfl
  have hex : execOp (rho ops a0 V o) o = execOp (rhoP rd a0 V) (bareOp o.op o.type) := by
    rw [← execOp_bare]
    refine execOp_congr o (fun cs b e => by rw [e] at h2; cases h2) fun y hy => ?_
    have h4 := List.all_eq_true.1 h3 y (by simpa using hy)
    cases y with
    | tmp t =>
      simp only [beq_iff_eq] at h4
      simp only [rho, rhoP, h4]
    | const v => rfl
    | global g => rfl
    | func f => rfl
  rw [hw, hex]
  exact ob

/-- What an operation's run must come to, where the region only makes memory. -/
def ResG (P : Program) (φ : Value → World → Prop) (w : World) : Result Next → Prop
  | .ok (.value v) w' => φ v w' ∧ Below w.heap.size w w'
  | .ok .skip w' => φ undef w' ∧ Below w.heap.size w w'
  | .ok (.enter f args) w' => Calls P f args w' fun e w'' => ∃ v, e = .returned v ∧ φ v w'' ∧ Below w.heap.size w w''
  | _ => False
def OwedG (P : Program) (a0 : Act) (C : World → Prop) (φ : Nat → Value → World → Prop) (k : Nat) (op : Op) (ty : TypeId) (gd : Option (Nat × Bool)) (al : List Nat) (rd : List (Nat × Nat)) : Prop :=
  ∀ (V : Nat → Value) (w : World), C w → (∀ j ∈ al, φ j (V j) w) → if wantsG V gd = true then ResG P (φ k) w ((execOp (rhoP rd a0 V) (bareOp op ty)).run P w) else φ k undef w
def OwedQ (P : Program) (a0 : Act) (C : World → Prop) (φ : Nat → Value → World → Prop) : Nat → List Oper → List (List Nat × List (Nat × Nat)) → Prop
  | _, [], _ => True
  | _, _ :: _, [] => False
  | k, o :: r, x :: xs => OwedG P a0 C φ k o.op o.type o.guard x.1 x.2 ∧ OwedQ P a0 C φ (k + 1) r xs

/-- What holds while a region that only makes memory goes on. -/
def GrowI (C : World → Prop) (l : List (Value → World → Prop)) (L : Nat → Bool) (V : Nat → Value) (w : World) : Prop := C w ∧ ∀ j, L j = true → tab l j (V j) w

theorem upd_true {L : Nat → Bool} {i j : Nat} (h : upd L i j = true) : j = i ∨ L j = true := by
  unfold upd at h
  by_cases hj : j = i
  · exact .inl hj
  · rw [if_neg hj] at h; exact .inr h

theorem OwedQ.toP {ops : Array Oper} {a0 : Act} {C : World → Prop} {t : List (Value → World → Prop)} (hg : ∀ W W', C W → Below W.heap.size W W' → C W')
    (st : ∀ f ∈ t, ∀ v w w', f v w → Below w.heap.size w w' → f v w') :
    ∀ (l : List Oper) (k : Nat) (pl : List (List Nat × List (Nat × Nat))), OwedQ P a0 C (tab t) k l pl → OwedP P ops a0 (GrowI C t) k l pl := by
  intro l
  induction l with
  | nil => intro k pl _; exact trivial
  | cons o r ih =>
    intro k pl h
    cases pl with
    | nil => exact False.elim h
    | cons x xs =>
      refine ⟨?_, ih _ _ h.2⟩
      intro L V w _ _ hal ⟨hc, hp⟩
      have ob := h.1 V w hc fun j hj => hp j (hal j hj)
      have next : ∀ v w', tab t k v w' → Below w.heap.size w w' → GrowI C t (upd L k) (updV V k v) w' := by
        intro v w' hv hb
        refine ⟨hg _ _ hc hb, fun j hj => ?_⟩
        unfold updV
        by_cases hjk : j = k
        · subst hjk; simpa using hv
        · rw [if_neg hjk]; exact tab_stable (Le := fun w w' => Below w.heap.size w w') st _ _ _ _ (hp j ((upd_true hj).resolve_left hjk)) hb
      by_cases hw : wantsG V o.guard = true
      · rw [if_pos hw] at ob ⊢
        generalize (execOp (rhoP x.2 a0 V) (bareOp o.op o.type)).run P w = q at *
        cases q with
        | ok n w' =>
          cases n <;> simp only [ResG] at ob <;> simp only [Res]
          case value v => exact next _ _ ob.1 ob.2
          case skip => exact next _ _ ob.1 ob.2
          case enter f args =>
            refine ob.mono ?_
            rintro e w'' ⟨v, rfl, hv, hb⟩
            exact ⟨v, rfl, next _ _ hv hb⟩
        | halt x w' => simp only [ResG] at ob
      · rw [if_neg hw] at ob ⊢
        exact next _ _ ob (Below.refl _ _)

/-- **A region that draws its order and only makes memory.** -/
theorem wp_region_grow {id : Nat} {ops : Array Oper} {a0 : Act} {w : World} (C : World → Prop) (l : List (Value → World → Prop)) (pl : List (List Nat × List (Nat × Nat)))
    (n : Nat) (hn : a0.tmps.size = n) (hm : P.follows .mixedOrders = true) (hok : regionOk ops n = true) (hpl : planOk ops pl = true)
    (hg : ∀ W W', C W → Below W.heap.size W W' → C W') (hC : C w.drew)
    (st : ∀ f ∈ l, ∀ v w w', f v w → Below w.heap.size w w' → f v w')
    (owed : OwedQ P a0 C (tab l) 0 ops.toList pl)
    (fin : ∀ (V : Nat → Value) (w : World), C w → (∀ j, j < ops.size → tab l j (V j) w) → Q .normal (putAll V ops.toList 0 a0) w) :
    (Code.region id ops true).wp P Q a0 w :=
  wp_region_inv (GrowI C l) n hn hm hok ⟨hC, fun _ h => by cases h⟩ (owed_plan pl hpl (OwedQ.toP hg st _ _ _ owed)) fun V w h => fin V w h.1 fun j hj => h.2 j (by simpa using hj)

/-- What an operation's run must come to, that may change memory and comes behind all those before it. -/
def ResZ (P : Program) (C : World → Prop) (φ : Value → World → Prop) : Result Next → Prop
  | .ok (.value v) w' => φ v w' ∧ C w'
  | .ok .skip w' => φ undef w' ∧ C w'
  | .ok (.enter f args) w' => Calls P f args w' fun e w'' => ∃ v, e = .returned v ∧ φ v w'' ∧ C w''
  | _ => False
def OwedZ (P : Program) (a0 : Act) (C : World → Prop) (φ : Nat → Value → World → Prop) (k : Nat) (op : Op) (ty : TypeId) (gd : Option (Nat × Bool)) (al : List Nat) (rd : List (Nat × Nat)) : Prop :=
  ∀ (V : Nat → Value) (w : World), C w → (∀ j ∈ al, φ j (V j) w) → if wantsG V gd = true then ResZ P C (φ k) ((execOp (rhoP rd a0 V) (bareOp op ty)).run P w) else φ k undef w
def OwedL (P : Program) (a0 : Act) (C : World → Prop) (φ : Nat → Value → World → Prop) (z : Nat) : Nat → List Oper → List (List Nat × List (Nat × Nat)) → Prop
  | _, [], _ => True
  | _, _ :: _, [] => False
  | k, o :: r, x :: xs => (if k = z then OwedZ P a0 C φ k o.op o.type o.guard x.1 x.2 else OwedG P a0 C φ k o.op o.type o.guard x.1 x.2) ∧ OwedL P a0 C φ z (k + 1) r xs
/-- The operation z comes behind all those before it, and ahead of those behind it. -/
def lastOk (ops : Array Oper) (z : Nat) (pl : List (List Nat × List (Nat × Nat))) : Bool :=
  decide (z < ops.size) &&
  ops.toList.zipIdx.all (fun x => if x.2 < z then ops.toList.zipIdx.any fun y => decide (x.2 < y.2) && decide (y.2 ≤ z) && (ahead y.1).contains x.2 else true) &&
  ops.toList.zipIdx.all (fun x => if z < x.2 then (ahead x.1).any (fun k => decide (z ≤ k)) && (pl.getD x.2 ([], [])).1.all (fun k => decide (z ≤ k)) && decide (∀ k ∈ ahead x.1, k < x.2) else true)
/-- What holds while such a region goes on. -/
def LastI (C : World → Prop) (l : List (Value → World → Prop)) (z : Nat) (L : Nat → Bool) (V : Nat → Value) (w : World) : Prop := C w ∧ ∀ j, L j = true → (L z = false ∨ z ≤ j) → tab l j (V j) w

theorem last_before {ops : Array Oper} {z : Nat} {pl : List (List Nat × List (Nat × Nat))} (h : lastOk ops z pl = true) {L : Nat → Bool} (hcl : Closed ops L) (hz : L z = true) : ∀ d j, j + d = z → L j = true := by
  intro d
  induction d using Nat.strongRecOn with
  | _ d ih =>
    intro j hj
    rcases Nat.eq_zero_or_pos d with h0 | h0
    · rw [show j = z by omega]; exact hz
    · simp only [lastOk, Bool.and_eq_true, decide_eq_true_eq] at h
      have hlt : j < ops.size := by omega
      have h1 := List.all_eq_true.1 h.1.2 (ops[j], j) (List.mem_zipIdx_iff_getElem?.2 (by simp [hlt]))
      simp only [show j < z by omega, if_true] at h1
      obtain ⟨⟨p, k⟩, hm, h2⟩ := List.any_eq_true.1 h1
      simp only [Bool.and_eq_true, decide_eq_true_eq, List.contains_iff_mem] at h2
      have hk := ih (z - k) (by omega) k (by omega)
      exact hcl.1 k p (by simpa using List.mem_zipIdx_iff_getElem?.1 hm) hk j h2.2
theorem last_behind {ops : Array Oper} {z : Nat} {pl : List (List Nat × List (Nat × Nat))} (h : lastOk ops z pl = true) {L : Nat → Bool} (hcl : Closed ops L) : ∀ j o, ops[j]? = some o → z < j → (∀ k ∈ ahead o, L k = true) → L z = true := by
  simp only [lastOk, Bool.and_eq_true, decide_eq_true_eq] at h
  intro j
  induction j using Nat.strongRecOn with
  | _ j ih =>
    intro o ho hzj hL
    have h1 := List.all_eq_true.1 h.2 (o, j) (List.mem_zipIdx_iff_getElem?.2 (by simpa using ho))
    simp only [hzj, if_true, Bool.and_eq_true, decide_eq_true_eq] at h1
    obtain ⟨k, hk, hzk⟩ := List.any_eq_true.1 h1.1.1
    simp only [decide_eq_true_eq] at hzk
    have hLk := hL k hk
    rcases Nat.eq_or_lt_of_le hzk with rfl | hzk
    · exact hLk
    · have hkj := h1.2 k hk
      have hko : k < ops.size := by have := (Array.getElem?_eq_some_iff.1 ho).1; omega
      exact ih k hkj ops[k] (by simp [hko]) hzk fun m hm => hcl.1 k ops[k] (by simp [hko]) hLk m hm

theorem OwedL.toP {ops : Array Oper} {a0 : Act} {C : World → Prop} {t : List (Value → World → Prop)} {z : Nat} (ql : List (List Nat × List (Nat × Nat))) (hlast : lastOk ops z ql = true) (hg : ∀ W W', C W → Below W.heap.size W W' → C W')
    (st : ∀ f ∈ t, ∀ v w w', f v w → Below w.heap.size w w' → f v w') :
    ∀ (l : List Oper) (k : Nat) (pl : List (List Nat × List (Nat × Nat))), (∀ i, l[i]? = ops[k + i]?) → (∀ i, pl[i]? = ql[k + i]?) → OwedL P a0 C (tab t) z k l pl → OwedP P ops a0 (LastI C t z) k l pl := by
  intro l
  induction l with
  | nil => intro k pl _ _ _; exact trivial
  | cons o r ih =>
    intro k pl hl hpl h
    cases pl with
    | nil => exact False.elim h
    | cons x xs =>
      have hko : ops[k]? = some o := by have := hl 0; simpa using this.symm
      have hkx : ql[k]? = some x := by have := hpl 0; simpa using this.symm
      refine ⟨?_, ih _ _ (fun i => by have := hl (i + 1); simpa [Nat.add_assoc, Nat.add_comm 1] using this) (fun i => by have := hpl (i + 1); simpa [Nat.add_assoc, Nat.add_comm 1] using this) h.2⟩
      intro L V w hLk hcl hal ⟨hc, hp⟩
      have hz1 : k < z → L z = false := by
        intro hkz
        cases hz : L z with
        | false => rfl
        | true => rw [last_before hlast hcl hz (z - k) k (by omega)] at hLk; cases hLk
      have hfacts : ∀ j ∈ x.1, tab t j (V j) w := by
        intro j hj
        refine hp j (hal j hj) ?_
        by_cases hkz : z < k
        · refine .inr ?_
          simp only [lastOk, Bool.and_eq_true] at hlast
          have h1 := List.all_eq_true.1 hlast.2 (o, k) (List.mem_zipIdx_iff_getElem?.2 (by simpa using hko))
          simp only [hkz, if_true, Bool.and_eq_true, List.getD_eq_getElem?_getD, hkx, Option.getD_some] at h1
          have := List.all_eq_true.1 h1.1.2 j hj
          simpa using this
        · by_cases hkz2 : k = z
          · subst hkz2; exact .inl hLk
          · exact .inl (hz1 (by omega))
      by_cases hkz : k = z
      · subst hkz
        have ob := h.1
        rw [if_pos rfl] at ob
        have ob := ob V w hc hfacts
        have next : ∀ v w', tab t k v w' → C w' → LastI C t k (upd L k) (updV V k v) w' := by
          intro v w' hv hc'
          refine ⟨hc', fun j hj hor => ?_⟩
          have hkk : upd L k k = true := by simp [upd]
          rw [hkk] at hor
          have hjk := hor.resolve_left (by simp)
          unfold updV
          rcases Nat.eq_or_lt_of_le hjk with rfl | hjk
          · simpa using hv
          · exfalso
            have hLj := (upd_true hj).resolve_left (by omega)
            have hjo := hcl.2 j hLj
            have := last_behind hlast hcl j ops[j] (by simp [hjo]) hjk fun m hm => hcl.1 j ops[j] (by simp [hjo]) hLj m hm
            rw [hLk] at this; cases this
        by_cases hw : wantsG V o.guard = true
        · rw [if_pos hw] at ob ⊢
          generalize (execOp (rhoP x.2 a0 V) (bareOp o.op o.type)).run P w = q at *
          cases q with
          | ok n w' =>
            cases n <;> simp only [ResZ] at ob <;> simp only [Res]
            case value v => exact next _ _ ob.1 ob.2
            case skip => exact next _ _ ob.1 ob.2
            case enter f args =>
              refine ob.mono ?_
              rintro e w'' ⟨v, rfl, hv, hb⟩
              exact ⟨v, rfl, next _ _ hv hb⟩
          | halt x w' => simp only [ResZ] at ob
        · rw [if_neg hw] at ob ⊢
          exact next _ _ ob hc
      · have ob := h.1
        rw [if_neg hkz] at ob
        have ob := ob V w hc hfacts
        have next : ∀ v w', tab t k v w' → Below w.heap.size w w' → LastI C t z (upd L k) (updV V k v) w' := by
          intro v w' hv hb
          refine ⟨hg _ _ hc hb, fun j hj hor => ?_⟩
          have hzz : upd L k z = L z := by simp [upd, Ne.symm hkz]
          rw [hzz] at hor
          unfold updV
          by_cases hjk : j = k
          · subst hjk; simpa using hv
          · rw [if_neg hjk]; exact tab_stable (Le := fun w w' => Below w.heap.size w w') st _ _ _ _ (hp j ((upd_true hj).resolve_left hjk) hor) hb
        by_cases hw : wantsG V o.guard = true
        · rw [if_pos hw] at ob ⊢
          generalize (execOp (rhoP x.2 a0 V) (bareOp o.op o.type)).run P w = q at *
          cases q with
          | ok n w' =>
            cases n <;> simp only [ResG] at ob <;> simp only [Res]
            case value v => exact next _ _ ob.1 ob.2
            case skip => exact next _ _ ob.1 ob.2
            case enter f args =>
              refine ob.mono ?_
              rintro e w'' ⟨v, rfl, hv, hb⟩
              exact ⟨v, rfl, next _ _ hv hb⟩
          | halt x w' => simp only [ResG] at ob
        · rw [if_neg hw] at ob ⊢
          exact next _ _ ob (Below.refl _ _)

/-- **A region that draws its order and only makes memory, but for one operation, z, that comes behind all those before it:** what these have left is not looked at behind it. -/
theorem wp_region_last {id : Nat} {ops : Array Oper} {a0 : Act} {w : World} (z : Nat) (C : World → Prop) (l : List (Value → World → Prop)) (pl : List (List Nat × List (Nat × Nat)))
    (n : Nat) (hn : a0.tmps.size = n) (hm : P.follows .mixedOrders = true) (hok : regionOk ops n = true) (hpl : planOk ops pl = true) (hz : lastOk ops z pl = true)
    (hg : ∀ W W', C W → Below W.heap.size W W' → C W') (hC : C w.drew)
    (st : ∀ f ∈ l, ∀ v w w', f v w → Below w.heap.size w w' → f v w')
    (owed : OwedL P a0 C (tab l) z 0 ops.toList pl)
    (fin : ∀ (V : Nat → Value) (w : World), C w → (∀ j, j < ops.size → z ≤ j → tab l j (V j) w) → Q .normal (putAll V ops.toList 0 a0) w) :
    (Code.region id ops true).wp P Q a0 w :=
  wp_region_inv (LastI C l z) n hn hm hok ⟨hC, fun _ h => by cases h⟩ (owed_plan pl hpl (OwedL.toP pl hz hg st _ _ _ (fun i => by simp) (fun i => by simp) owed)) fun V w h => fin V w h.1 fun j hj hzj => h.2 j (by simpa using hj) (.inr hzj)

/-- What the one operation's run must come to that may change memory. -/
def ResT (P : Program) (C D1 : World → Prop) (Le : World → World → Prop) (φ : Value → World → Prop) (w : World) : Result Next → Prop
  | .ok (.value v) w' => φ v w' ∧ C w' ∧ D1 w' ∧ Le w w'
  | .ok .skip w' => φ undef w' ∧ C w' ∧ D1 w' ∧ Le w w'
  | .ok (.enter f args) w' => Calls P f args w' fun e w'' => ∃ v, e = .returned v ∧ φ v w'' ∧ C w'' ∧ D1 w'' ∧ Le w w''
  | _ => False
def OwedT1 (P : Program) (a0 : Act) (C D0 D1 : World → Prop) (Le : World → World → Prop) (φ : Nat → Value → World → Prop) (k : Nat) (op : Op) (ty : TypeId) (gd : Option (Nat × Bool)) (al : List Nat) (rd : List (Nat × Nat)) : Prop :=
  gd = none ∧ ∀ (V : Nat → Value) (w : World), C w → D0 w → (∀ j ∈ al, φ j (V j) w) → ResT P C D1 Le (φ k) w ((execOp (rhoP rd a0 V) (bareOp op ty)).run P w)
def OwedT (P : Program) (a0 : Act) (C D0 D1 : World → Prop) (Le : World → World → Prop) (φ : Nat → Value → World → Prop) (z : Nat) : Nat → List Oper → List (List Nat × List (Nat × Nat)) → Prop
  | _, [], _ => True
  | _, _ :: _, [] => False
  | k, o :: r, x :: xs => (if k = z then OwedT1 P a0 C D0 D1 Le φ k o.op o.type o.guard x.1 x.2 else OwedG P a0 C φ k o.op o.type o.guard x.1 x.2) ∧ OwedT P a0 C D0 D1 Le φ z (k + 1) r xs
def TurnI (C D0 D1 : World → Prop) (l : List (Value → World → Prop)) (z : Nat) (L : Nat → Bool) (V : Nat → Value) (w : World) : Prop := C w ∧ (if L z = true then D1 w else D0 w) ∧ ∀ j, L j = true → tab l j (V j) w

theorem tab_but {Le : World → World → Prop} {l : List (Value → World → Prop)} {z : Nat} (h : ∀ f ∈ l.take z ++ l.drop (z + 1), ∀ v w w', f v w → Le w w' → f v w') : ∀ j v w w', j ≠ z → tab l j v w → Le w w' → tab l j v w' := by
  intro j v w w' hjz hf hle
  unfold tab at *
  by_cases hj : j < l.length
  · simp only [List.getD_eq_getElem?_getD, List.getElem?_eq_getElem hj, Option.getD_some] at *
    refine h _ ?_ v w w' hf hle
    rcases Nat.lt_or_gt_of_ne hjz with hlt | hgt
    · refine List.mem_append_left _ (List.mem_iff_getElem?.2 ⟨j, ?_⟩)
      rw [List.getElem?_take_of_lt hlt, List.getElem?_eq_getElem hj]
    · refine List.mem_append_right _ (List.mem_iff_getElem?.2 ⟨j - (z + 1), ?_⟩)
      rw [List.getElem?_drop, show z + 1 + (j - (z + 1)) = j by omega, List.getElem?_eq_getElem hj]
  · simp only [List.getD_eq_getElem?_getD, List.getElem?_eq_none (Nat.le_of_not_lt hj), Option.getD_none]

theorem OwedT.toP {ops : Array Oper} {a0 : Act} {C D0 D1 : World → Prop} {Le : World → World → Prop} {t : List (Value → World → Prop)} {z : Nat}
    (hg : ∀ W W', C W → Below W.heap.size W W' → C W') (hg0 : ∀ W W', D0 W → Below W.heap.size W W' → D0 W') (hg1 : ∀ W W', D1 W → Below W.heap.size W W' → D1 W')
    (st : ∀ f ∈ t, ∀ v w w', f v w → Below w.heap.size w w' → f v w') (st2 : ∀ f ∈ t.take z ++ t.drop (z + 1), ∀ v w w', f v w → Le w w' → f v w') :
    ∀ (l : List Oper) (k : Nat) (pl : List (List Nat × List (Nat × Nat))), OwedT P a0 C D0 D1 Le (tab t) z k l pl → OwedP P ops a0 (TurnI C D0 D1 t z) k l pl := by
  intro l
  induction l with
  | nil => intro k pl _; exact trivial
  | cons o r ih =>
    intro k pl h
    cases pl with
    | nil => exact False.elim h
    | cons x xs =>
      refine ⟨?_, ih _ _ h.2⟩
      intro L V w hLk _ hal ⟨hc, hd, hp⟩
      by_cases hkz : k = z
      · subst hkz
        have ob := h.1
        rw [if_pos rfl] at ob
        obtain ⟨hgd, ob⟩ := ob
        rw [hLk] at hd
        simp only [Bool.false_eq_true, if_false] at hd
        have ob := ob V w hc hd fun j hj => hp j (hal j hj)
        have next : ∀ v w', tab t k v w' → C w' → D1 w' → Le w w' → TurnI C D0 D1 t k (upd L k) (updV V k v) w' := by
          intro v w' hv hc' hd' hb
          have hkk : upd L k k = true := by simp [upd]
          refine ⟨hc', by rw [if_pos hkk]; exact hd', fun j hj => ?_⟩
          unfold updV
          by_cases hjk : j = k
          · subst hjk; simpa using hv
          · rw [if_neg hjk]; exact tab_but (Le := Le) st2 _ _ _ _ hjk (hp j ((upd_true hj).resolve_left hjk)) hb
        rw [hgd, if_pos (show wantsG V none = true from rfl)]
        generalize (execOp (rhoP x.2 a0 V) (bareOp o.op o.type)).run P w = q at *
        cases q with
        | ok n w' =>
          cases n <;> simp only [ResT] at ob <;> simp only [Res]
          case value v => exact next _ _ ob.1 ob.2.1 ob.2.2.1 ob.2.2.2
          case skip => exact next _ _ ob.1 ob.2.1 ob.2.2.1 ob.2.2.2
          case enter f args =>
            refine ob.mono ?_
            rintro e w'' ⟨v, rfl, hv, hc', hd', hb⟩
            exact ⟨v, rfl, next _ _ hv hc' hd' hb⟩
        | halt x w' => simp only [ResT] at ob
      · have ob := h.1
        rw [if_neg hkz] at ob
        have ob := ob V w hc fun j hj => hp j (hal j hj)
        have next : ∀ v w', tab t k v w' → Below w.heap.size w w' → TurnI C D0 D1 t z (upd L k) (updV V k v) w' := by
          intro v w' hv hb
          have hzz : upd L k z = L z := by simp [upd, Ne.symm hkz]
          refine ⟨hg _ _ hc hb, ?_, fun j hj => ?_⟩
          · rw [hzz]
            by_cases hz : L z = true
            · rw [if_pos hz] at hd ⊢; exact hg1 _ _ hd hb
            · rw [if_neg hz] at hd ⊢; exact hg0 _ _ hd hb
          · unfold updV
            by_cases hjk : j = k
            · subst hjk; simpa using hv
            · rw [if_neg hjk]; exact tab_stable (Le := fun w w' => Below w.heap.size w w') st _ _ _ _ (hp j ((upd_true hj).resolve_left hjk)) hb
        by_cases hw : wantsG V o.guard = true
        · rw [if_pos hw] at ob ⊢
          generalize (execOp (rhoP x.2 a0 V) (bareOp o.op o.type)).run P w = q at *
          cases q with
          | ok n w' =>
            cases n <;> simp only [ResG] at ob <;> simp only [Res]
            case value v => exact next _ _ ob.1 ob.2
            case skip => exact next _ _ ob.1 ob.2
            case enter f args =>
              refine ob.mono ?_
              rintro e w'' ⟨v, rfl, hv, hb⟩
              exact ⟨v, rfl, next _ _ hv hb⟩
          | halt x w' => simp only [ResG] at ob
        · rw [if_neg hw] at ob ⊢
          exact next _ _ ob (Below.refl _ _)

/-- **A region that draws its order and only makes memory, but for one operation, z, that changes what others of it do not look at** (D0 before it, D1 behind it, Le from before it to behind it). -/
theorem wp_region_turn {id : Nat} {ops : Array Oper} {a0 : Act} {w : World} (z : Nat) (C D0 D1 : World → Prop) (Le : World → World → Prop) (l : List (Value → World → Prop)) (pl : List (List Nat × List (Nat × Nat)))
    (n : Nat) (hn : a0.tmps.size = n) (hm : P.follows .mixedOrders = true) (hok : regionOk ops n = true) (hpl : planOk ops pl = true) (hz : z < ops.size)
    (hg : ∀ W W', C W → Below W.heap.size W W' → C W') (hg0 : ∀ W W', D0 W → Below W.heap.size W W' → D0 W') (hg1 : ∀ W W', D1 W → Below W.heap.size W W' → D1 W') (hC : C w.drew) (hD : D0 w.drew)
    (st : ∀ f ∈ l, ∀ v w w', f v w → Below w.heap.size w w' → f v w') (st2 : ∀ f ∈ l.take z ++ l.drop (z + 1), ∀ v w w', f v w → Le w w' → f v w')
    (owed : OwedT P a0 C D0 D1 Le (tab l) z 0 ops.toList pl)
    (fin : ∀ (V : Nat → Value) (w : World), C w → D1 w → (∀ j, j < ops.size → tab l j (V j) w) → Q .normal (putAll V ops.toList 0 a0) w) :
    (Code.region id ops true).wp P Q a0 w :=
  wp_region_inv (TurnI C D0 D1 l z) n hn hm hok ⟨hC, by simpa using hD, fun _ h => by cases h⟩ (owed_plan pl hpl (OwedT.toP hg hg0 hg1 st st2 _ _ _ owed)) fun V w h => fin V w h.1 (by have := h.2.1; simpa [hz] using this) fun j hj => h.2.2 j (by simpa using hj)

/-- The run of an append onto a row of the call's own. -/
theorem exec_app {ρ : Operand → Value} {w : World} (s x : Operand) (t ty e : TypeId) (base : Nat) (z : Value) (size bytes : Nat) (T : SliceT P t e z size bytes) (v : Value) (n : Nat) (xs : List Value) (hs : ρ s = v) (hown : w.ownsRow base e size v n xs)
    (B : Nat) (A : Option Addr) (m c : Nat) (news : List Value) (hx : ρ x = .slice A m c) (hr : Reads w B size A m news) (h1 : ∀ u ∈ news, u.oneCell' = true)
    (hbytes : (n + m) * (bytes + 1) ≤ 140737488355328) (hbase : base ≤ w.heap.size) :
    ∃ v' w', (execOp ρ (bareOp (.call { callee := .builtin .append, args := #[s, x], argTypes := #[t, t] }) ty)).run P w = .ok (.value v') w' ∧ w'.ownsRow base e size v' (n + m) (xs ++ news) ∧ Below base w w' := by
  obtain ⟨v', w', hrun, h2, h3, h4, h5⟩ := run_app w base t ty e z size bytes T v n xs hown B A m c news hr h1 hbytes hbase
  refine ⟨v', w', ?_, h2, h5⟩
  simp only [execOp, bareOp, resolve, invoke, builtin, Sem.run_bind, Sem.run_pure, Result.andThen_ok, List.map_toArray, List.map_cons, List.map_nil, hs, hx, hrun]

/-- The value is this one. -/
def isV (c : Value) (v : Value) (_ : World) : Prop := v = c
/-- Any value. -/
def anyV (_ : Value) (_ : World) : Prop := True
/-- A slice of these bytes. -/
def sl (l : List UInt8) (v : Value) (w : World) : Prop := ∃ A c, v = .slice A l.length c ∧ Reads w w.heap.size 1 A l.length (bys l)
theorem isV_st (c : Value) : ∀ v w w', isV c v w → Below w.heap.size w w' → isV c v w' := fun _ _ _ h _ => h
theorem anyV_st : ∀ v w w', anyV v w → Below w.heap.size w w' → anyV v w' := fun _ _ _ h _ => h
theorem sl_st (l : List UInt8) : ∀ v w w', sl l v w → Below w.heap.size w w' → sl l v w' := by
  rintro v w w' ⟨A, c, h, hr⟩ hb
  exact ⟨A, c, h, (hr.below hb (Nat.le_refl _)).more hb.size⟩
theorem sl_own {w : World} {base : Nat} {e : TypeId} {v : Value} {l : List UInt8} (h : Own w base e v l) : sl l v w := by
  obtain ⟨A, c, h1, h2⟩ := h.slice
  exact ⟨A, c, h1, h2⟩
theorem sl_new (w : World) (l : List UInt8) (t : TypeId) (n : Nat) (hn : l.length = n) (cs : Array Value) (hc : cs = (bys l).toArray) : sl l (.slice (some ⟨w.heap.size, 0, none⟩) n n) (w.alloc (.cells cs t)) := by
  subst hn hc
  refine ⟨_, _, rfl, ?_⟩
  have := Reads.new w (bys l) t 1 l.length (by simp)
  simpa using this
theorem run_sl {P : Program} {w : World} {v : Value} {l : List UInt8} (src dst e : TypeId) (hs : P.underlying src = some (.slice e)) (he : P.underlying e = some (.int .u8)) (hd : P.underlying dst = some .string)
    (h : sl l v w) : (convert src dst v).run P w = .ok (.string ⟨l.toArray⟩) w := by
  obtain ⟨A, c, rfl, hr⟩ := h
  exact run_str w src dst e hs he hd _ A _ c l hr
end
end Go.Proofs.Ythnhdeieimgfhaa

/-
  A region that draws its order, some of whose operations (appends) change what others have made: each such operation ends the facts that it does not leave. Conditions: what ends a fact comes behind all that leans on it.
-/
namespace Go.Proofs.Ythnhdeieimgfhaa
open Go Go.RowKit

section
variable {P : Program} {Q : Exit → Act → World → Prop}

/-- Whether the fact of an operation still stands: none of those that end it is done. -/
def live (kl : List (List Nat)) (L : Nat → Bool) (j : Nat) : Bool := (kl.getD j []).all fun k => !L k
def KillI (C : World → Prop) (t : List (Value → World → Prop)) (kl : List (List Nat)) (L : Nat → Bool) (V : Nat → Value) (w : World) : Prop := C w ∧ ∀ j, L j = true → live kl L j = true → tab t j (V j) w

/-- What an operation's run must come to: 'z': it may change memory, as M says. -/
def ResK (P : Program) (C : World → Prop) (M : World → World → Prop) (φ : Value → World → Prop) (w : World) : Result Next → Prop
  | .ok (.value v) w' => φ v w' ∧ C w' ∧ M w w'
  | .ok .skip w' => φ undef w' ∧ C w' ∧ M w w'
  | .ok (.enter f args) w' => Calls P f args w' fun e w'' => ∃ v, e = .returned v ∧ φ v w'' ∧ C w'' ∧ M w w''
  | _ => False
def OwedK1 (P : Program) (a0 : Act) (C : World → Prop) (M : World → World → Prop) (φ : Nat → Value → World → Prop) (k : Nat) (op : Op) (ty : TypeId) (gd : Option (Nat × Bool)) (al : List Nat) (rd : List (Nat × Nat)) : Prop :=
  ∀ (V : Nat → Value) (w : World), C w → (∀ j ∈ al, φ j (V j) w) → if wantsG V gd = true then ResK P C M (φ k) w ((execOp (rhoP rd a0 V) (bareOp op ty)).run P w) else φ k undef w
def OwedK (P : Program) (a0 : Act) (C : World → Prop) (M : Nat → World → World → Prop) (zs : List Nat) (φ : Nat → Value → World → Prop) : Nat → List Oper → List (List Nat × List (Nat × Nat)) → Prop
  | _, [], _ => True
  | _, _ :: _, [] => False
  | k, o :: r, x :: xs => (if zs.contains k = true then OwedK1 P a0 C (M k) φ k o.op o.type o.guard x.1 x.2 else OwedG P a0 C φ k o.op o.type o.guard x.1 x.2) ∧ OwedK P a0 C M zs φ (k + 1) r xs

/-- Whether an operation comes before another one in every order, by the plan. -/
def fore (pl : List (List Nat × List (Nat × Nat))) (z : Nat) : Nat → Nat → Bool
  | 0, _ => false
  | f + 1, j => match pl[j]? with
    | none => false
    | some y => y.1.contains z || y.1.any (fore pl z f)
/-- What ends a fact comes behind all that leans on it. -/
def killOk (pl : List (List Nat × List (Nat × Nat))) (kl : List (List Nat)) : Bool :=
  pl.zipIdx.all fun x => x.1.1.all fun j => (kl.getD j []).all fun k => k == x.2 || fore pl x.2 pl.length k

theorem fore_done {ops : Array Oper} {pl : List (List Nat × List (Nat × Nat))} (hpl : planOk ops pl = true) {L : Nat → Bool} (hcl : Closed ops L) {z : Nat} : ∀ (f j : Nat), fore pl z f j = true → L j = true → L z = true := by
  intro f
  induction f with
  | zero => intro j h _; cases h
  | succ f ih =>
    intro j h hL
    unfold fore at h
    cases hy : pl[j]? with
    | none => rw [hy] at h; cases h
    | some y =>
      rw [hy] at h
      simp only [Bool.or_eq_true, List.contains_iff_mem, List.any_eq_true] at h
      have hlt := hcl.2 j hL
      have ho : ops[j]? = some ops[j] := by simp [hlt]
      have h2 := List.all_eq_true.1 hpl (ops[j], j) (List.mem_zipIdx_iff_getElem?.2 (by rw [Array.getElem?_toList]; exact ho))
      simp only [hy, Bool.and_eq_true] at h2
      have hal : ∀ i ∈ y.1, L i = true := fun i hi => hcl.1 j _ ho hL i (by simpa using List.all_eq_true.1 h2.1.1 i hi)
      rcases h with h | ⟨i, hi, h⟩
      · exact hal z h
      · exact ih i h (hal i hi)

theorem OwedK.toP {ops : Array Oper} {a0 : Act} {C : World → Prop} {M : Nat → World → World → Prop} {zs : List Nat} {t : List (Value → World → Prop)} {kl : List (List Nat)} (ql : List (List Nat × List (Nat × Nat)))
    (hpl : planOk ops ql = true) (hk : killOk ql kl = true) (hg : ∀ W W', C W → Below W.heap.size W W' → C W')
    (st : ∀ f ∈ t, ∀ v w w', f v w → Below w.heap.size w w' → f v w')
    (sz : ∀ z ∈ zs, ∀ j, j ≠ z → (kl.getD j []).contains z = false → fore ql z ql.length j = false → ∀ v w w', tab t j v w → M z w w' → tab t j v w') :
    ∀ (l : List Oper) (k : Nat) (pl : List (List Nat × List (Nat × Nat))), (∀ i, ql[k + i]? = pl[i]?) → (∀ i, ops[k + i]? = l[i]?) → OwedK P a0 C M zs (tab t) k l pl → OwedP P ops a0 (KillI C t kl) k l pl := by
  intro l
  induction l with
  | nil => intro k pl _ _ _; exact trivial
  | cons o r ih =>
    intro k pl hq ho h
    cases pl with
    | nil => exact False.elim h
    | cons x xs =>
      refine ⟨?_, ih _ _ (fun i => by have := hq (i + 1); simpa [Nat.add_assoc, Nat.add_comm 1 i] using this) (fun i => by have := ho (i + 1); simpa [Nat.add_assoc, Nat.add_comm 1 i] using this) h.2⟩
      intro L V w hl hcl hal ⟨hc, hp⟩
      have hqk : ql[k]? = some x := hq 0
      -- the facts that this operation leans on still stand
      have hlive : ∀ j ∈ x.1, live kl L j = true := by
        intro j hj
        unfold live
        rw [List.all_eq_true]
        intro k' hk'
        have h1 := List.all_eq_true.1 (List.all_eq_true.1 (List.all_eq_true.1 hk (x, k) (List.mem_zipIdx_iff_getElem?.2 hqk)) j hj) k' hk'
        simp only [Bool.or_eq_true, beq_iff_eq] at h1
        rcases h1 with h1 | h1
        · rw [h1, hl]; rfl
        · cases hLk : L k' with
          | false => rfl
          | true =>
            have := fore_done hpl hcl _ _ h1 hLk
            rw [hl] at this; cases this
      have hp' : ∀ j ∈ x.1, tab t j (V j) w := fun j hj => hp j (hal j hj) (hlive j hj)
      have hup : ∀ j, live kl (upd L k) j = true → live kl L j = true ∧ (kl.getD j []).contains k = false := by
        intro j hj
        unfold live at *
        rw [List.all_eq_true] at hj
        refine ⟨?_, ?_⟩
        · rw [List.all_eq_true]
          intro k' hk'
          have := hj k' hk'
          unfold upd at this
          split at this
          · simp at this
          · exact this
        · cases hcn : (kl.getD j []).contains k with
          | false => rfl
          | true =>
            have := hj k (by simpa using hcn)
            simp [upd] at this
      have nextG : ∀ v w', tab t k v w' → Below w.heap.size w w' → KillI C t kl (upd L k) (updV V k v) w' := by
        intro v w' hv hb
        refine ⟨hg _ _ hc hb, fun j hj hjl => ?_⟩
        unfold updV
        by_cases hjk : j = k
        · subst hjk; simpa using hv
        · rw [if_neg hjk]; exact tab_stable (Le := fun w w' => Below w.heap.size w w') st _ _ _ _ (hp j ((upd_true hj).resolve_left hjk) (hup j hjl).1) hb
      have h1 := h.1
      by_cases hz : zs.contains k = true
      · rw [if_pos hz] at h1
        have ob := h1 V w hc hp'
        have nextZ : ∀ v w', tab t k v w' → C w' → M k w w' → KillI C t kl (upd L k) (updV V k v) w' := by
          intro v w' hv hc' hm
          refine ⟨hc', fun j hj hjl => ?_⟩
          unfold updV
          by_cases hjk : j = k
          · subst hjk; simpa using hv
          · rw [if_neg hjk]
            have hLj := (upd_true hj).resolve_left hjk
            refine sz k (by simpa using hz) j hjk (hup j hjl).2 ?_ _ _ _ (hp j hLj (hup j hjl).1) hm
            cases hf : fore ql k ql.length j with
            | false => rfl
            | true =>
              have := fore_done hpl hcl _ _ hf hLj
              rw [hl] at this; cases this
        by_cases hw : wantsG V o.guard = true
        · rw [if_pos hw] at ob ⊢
          generalize (execOp (rhoP x.2 a0 V) (bareOp o.op o.type)).run P w = q at *
          cases q with
          | ok n w' =>
            cases n <;> simp only [ResK] at ob <;> simp only [Res]
            case value v => exact nextZ _ _ ob.1 ob.2.1 ob.2.2
            case skip => exact nextZ _ _ ob.1 ob.2.1 ob.2.2
            case enter f args =>
              refine ob.mono ?_
              rintro e w'' ⟨v, rfl, hv, hb⟩
              exact ⟨v, rfl, nextZ _ _ hv hb.1 hb.2⟩
          | halt x w' => simp only [ResK] at ob
        · rw [if_neg hw] at ob ⊢
          exact nextG _ _ ob (Below.refl _ _)
      · rw [if_neg hz] at h1
        have ob := h1 V w hc hp'
        by_cases hw : wantsG V o.guard = true
        · rw [if_pos hw] at ob ⊢
          generalize (execOp (rhoP x.2 a0 V) (bareOp o.op o.type)).run P w = q at *
          cases q with
          | ok n w' =>
            cases n <;> simp only [ResG] at ob <;> simp only [Res]
            case value v => exact nextG _ _ ob.1 ob.2
            case skip => exact nextG _ _ ob.1 ob.2
            case enter f args =>
              refine ob.mono ?_
              rintro e w'' ⟨v, rfl, hv, hb⟩
              exact ⟨v, rfl, nextG _ _ hv hb⟩
          | halt x w' => simp only [ResG] at ob
        · rw [if_neg hw] at ob ⊢
          exact nextG _ _ ob (Below.refl _ _)

/-- **A region that draws its order, some of whose operations change what others have made.** 'zs': those; 'M': what each leaves; 'kl': for each operation, those that end its fact. -/
theorem wp_region_kill {id : Nat} {ops : Array Oper} {a0 : Act} {w : World} (C : World → Prop) (M : Nat → World → World → Prop) (zs : List Nat) (kl : List (List Nat)) (l : List (Value → World → Prop)) (pl : List (List Nat × List (Nat × Nat)))
    (n : Nat) (hn : a0.tmps.size = n) (hm : P.follows .mixedOrders = true) (hok : regionOk ops n = true) (hpl : planOk ops pl = true) (hk : killOk pl kl = true)
    (hg : ∀ W W', C W → Below W.heap.size W W' → C W') (hC : C w.drew)
    (st : ∀ f ∈ l, ∀ v w w', f v w → Below w.heap.size w w' → f v w')
    (sz : ∀ z ∈ zs, ∀ j, j ≠ z → (kl.getD j []).contains z = false → fore pl z pl.length j = false → ∀ v w w', tab l j v w → M z w w' → tab l j v w')
    (owed : OwedK P a0 C M zs (tab l) 0 ops.toList pl)
    (fin : ∀ (V : Nat → Value) (w : World), C w → (∀ j, j < ops.size → kl.getD j [] = [] → tab l j (V j) w) → Q .normal (putAll V ops.toList 0 a0) w) :
    (Code.region id ops true).wp P Q a0 w :=
  wp_region_inv (KillI C l kl) n hn hm hok ⟨hC, fun _ h => by cases h⟩ (owed_plan pl hpl (OwedK.toP pl hpl hk hg st sz _ _ _ (fun i => by simp) (fun i => by simp) owed)) fun V w h => fin V w h.1 fun j hj hkj => h.2 j (by simpa using hj) (by unfold live; rw [hkj]; rfl)

theorem kill_st {l : List (Value → World → Prop)} {kl : List (List Nat)} {zs : List Nat} {M : Nat → World → World → Prop} (pl : List (List Nat × List (Nat × Nat)))
    (h : ∀ z ∈ zs, ∀ x ∈ l.zipIdx, (x.2 == z || (kl.getD x.2 []).contains z || fore pl z pl.length x.2) = true ∨ ∀ v w w', x.1 v w → M z w w' → x.1 v w') :
    ∀ z ∈ zs, ∀ j, j ≠ z → (kl.getD j []).contains z = false → fore pl z pl.length j = false → ∀ v w w', tab l j v w → M z w w' → tab l j v w' := by
  intro z hz j hjz hk hf v w w' ht hm
  unfold tab at *
  cases hj : l[j]? with
  | none => simp [List.getD_eq_getElem?_getD, hj]
  | some f =>
    simp only [List.getD_eq_getElem?_getD, hj, Option.getD_some] at ht ⊢
    rcases h z hz (f, j) (List.mem_zipIdx_iff_getElem?.2 hj) with h1 | h1
    · simp only [Bool.or_eq_true, beq_iff_eq] at h1
      rcases h1 with (h2 | h2) | h2
      · exact absurd h2 hjz
      · rw [h2] at hk; cases hk
      · rw [h2] at hf; cases hf
    · exact h1 v w w' ht hm
theorem exec_app2 {ρ : Operand → Value} {w : World} (s x : Operand) (t ty e : TypeId) (base : Nat) (z : Value) (size bytes : Nat) (T : SliceT P t e z size bytes) (v : Value) (n : Nat) (xs : List Value) (hs : ρ s = v) (hown : w.ownsRow base e size v n xs)
    (B : Nat) (A : Option Addr) (m c : Nat) (news : List Value) (hx : ρ x = .slice A m c) (hr : Reads w B size A m news) (h1 : ∀ u ∈ news, u.oneCell' = true)
    (hbytes : (n + m) * (bytes + 1) ≤ 140737488355328) (hbase : base ≤ w.heap.size) :
    ∃ v' w', (execOp ρ (bareOp (.call { callee := .builtin .append, args := #[s, x], argTypes := #[t, t] }) ty)).run P w = .ok (.value v') w' ∧ w'.ownsRow base e size v' (n + m) (xs ++ news) ∧ Below base w w' ∧ w.grownBy w' v.ownBlock := by
  obtain ⟨v', w', hrun, h2, h3, h4, h5⟩ := run_app w base t ty e z size bytes T v n xs hown B A m c news hr h1 hbytes hbase
  refine ⟨v', w', ?_, h2, h5, h3⟩
  simp only [execOp, bareOp, resolve, invoke, builtin, Sem.run_bind, Sem.run_pure, Result.andThen_ok, List.map_toArray, List.map_cons, List.map_nil, hs, hx, hrun]
theorem resK_app {C : World → Prop} {M : World → World → Prop} {φ : Value → World → Prop} {ρ : Operand → Value} {w : World} {s x : Operand} {t ty : TypeId} (e : TypeId) (base : Nat) (z : Value) (size bytes : Nat) (T : SliceT P t e z size bytes) (v : Value) (n : Nat) (xs : List Value) (hs : ρ s = v) (hown : w.ownsRow base e size v n xs)
    (B : Nat) (A : Option Addr) (m c : Nat) (news : List Value) (hx : ρ x = .slice A m c) (hr : Reads w B size A m news) (h1 : ∀ u ∈ news, u.oneCell' = true)
    (hbytes : (n + m) * (bytes + 1) ≤ 140737488355328) (hbase : base ≤ w.heap.size)
    (h : ∀ v' w', w'.ownsRow base e size v' (n + m) (xs ++ news) → Below base w w' → w.grownBy w' v.ownBlock → φ v' w' ∧ C w' ∧ M w w') :
    ResK P C M φ w ((execOp ρ (bareOp (.call { callee := .builtin .append, args := #[s, x], argTypes := #[t, t] }) ty)).run P w) := by
  obtain ⟨v', w', hrun, h2, h5, h3⟩ := exec_app2 (ρ := ρ) s x t ty e base z size bytes T v n xs hs hown B A m c news hx hr h1 hbytes hbase
  rw [hrun]
  exact h v' w' h2 h5 h3
theorem isV_any (c : Value) (M : World → World → Prop) : ∀ v w w', isV c v w → M w w' → isV c v w' := fun _ _ _ h _ => h
end
end Go.Proofs.Ythnhdeieimgfhaa

/-
  A region that draws its order and makes memory, but for one operation that changes what was there (an append onto a row of the call's own): what comes behind it in every order need not stay while it goes on. Conditions: none.
-/
namespace Go.Proofs.Ythnhdeieimgfhaa
open Go Go.RowKit

section
variable {P : Program} {Q : Exit → Act → World → Prop}
theorem OwedT.toP2 {ops : Array Oper} {a0 : Act} {C D0 D1 : World → Prop} {Le : World → World → Prop} {t : List (Value → World → Prop)} {z : Nat} (ql : List (List Nat × List (Nat × Nat))) (hpl : planOk ops ql = true)
    (hg : ∀ W W', C W → Below W.heap.size W W' → C W') (hg0 : ∀ W W', D0 W → Below W.heap.size W W' → D0 W') (hg1 : ∀ W W', D1 W → Below W.heap.size W W' → D1 W')
    (st : ∀ f ∈ t, ∀ v w w', f v w → Below w.heap.size w w' → f v w') (st2 : ∀ j, j ≠ z → fore ql z ql.length j = false → ∀ v w w', tab t j v w → Le w w' → tab t j v w') :
    ∀ (l : List Oper) (k : Nat) (pl : List (List Nat × List (Nat × Nat))), OwedT P a0 C D0 D1 Le (tab t) z k l pl → OwedP P ops a0 (TurnI C D0 D1 t z) k l pl := by
  intro l
  induction l with
  | nil => intro k pl _; exact trivial
  | cons o r ih =>
    intro k pl h
    cases pl with
    | nil => exact False.elim h
    | cons x xs =>
      refine ⟨?_, ih _ _ h.2⟩
      intro L V w hLk hcl hal ⟨hc, hd, hp⟩
      by_cases hkz : k = z
      · subst hkz
        have ob := h.1
        rw [if_pos rfl] at ob
        obtain ⟨hgd, ob⟩ := ob
        rw [hLk] at hd
        simp only [Bool.false_eq_true, if_false] at hd
        have ob := ob V w hc hd fun j hj => hp j (hal j hj)
        have next : ∀ v w', tab t k v w' → C w' → D1 w' → Le w w' → TurnI C D0 D1 t k (upd L k) (updV V k v) w' := by
          intro v w' hv hc' hd' hb
          have hkk : upd L k k = true := by simp [upd]
          refine ⟨hc', by rw [if_pos hkk]; exact hd', fun j hj => ?_⟩
          unfold updV
          by_cases hjk : j = k
          · subst hjk; simpa using hv
          · rw [if_neg hjk]
            have hLj := (upd_true hj).resolve_left hjk
            refine st2 j hjk ?_ _ _ _ (hp j hLj) hb
            cases hf : fore ql k ql.length j with
            | false => rfl
            | true => rw [fore_done hpl hcl _ _ hf hLj] at hLk; cases hLk
        rw [hgd, if_pos (show wantsG V none = true from rfl)]
        generalize (execOp (rhoP x.2 a0 V) (bareOp o.op o.type)).run P w = q at *
        cases q with
        | ok n w' =>
          cases n <;> simp only [ResT] at ob <;> simp only [Res]
          case value v => exact next _ _ ob.1 ob.2.1 ob.2.2.1 ob.2.2.2
          case skip => exact next _ _ ob.1 ob.2.1 ob.2.2.1 ob.2.2.2
          case enter f args =>
            refine ob.mono ?_
            rintro e w'' ⟨v, rfl, hv, hc', hd', hb⟩
            exact ⟨v, rfl, next _ _ hv hc' hd' hb⟩
        | halt x w' => simp only [ResT] at ob
      · have ob := h.1
        rw [if_neg hkz] at ob
        have ob := ob V w hc fun j hj => hp j (hal j hj)
        have next : ∀ v w', tab t k v w' → Below w.heap.size w w' → TurnI C D0 D1 t z (upd L k) (updV V k v) w' := by
          intro v w' hv hb
          have hzz : upd L k z = L z := by simp [upd, Ne.symm hkz]
          refine ⟨hg _ _ hc hb, ?_, fun j hj => ?_⟩
          · rw [hzz]
            by_cases hz : L z = true
            · rw [if_pos hz] at hd ⊢; exact hg1 _ _ hd hb
            · rw [if_neg hz] at hd ⊢; exact hg0 _ _ hd hb
          · unfold updV
            by_cases hjk : j = k
            · subst hjk; simpa using hv
            · rw [if_neg hjk]; exact tab_stable (Le := fun w w' => Below w.heap.size w w') st _ _ _ _ (hp j ((upd_true hj).resolve_left hjk)) hb
        by_cases hw : wantsG V o.guard = true
        · rw [if_pos hw] at ob ⊢
          generalize (execOp (rhoP x.2 a0 V) (bareOp o.op o.type)).run P w = q at *
          cases q with
          | ok n w' =>
            cases n <;> simp only [ResG] at ob <;> simp only [Res]
            case value v => exact next _ _ ob.1 ob.2
            case skip => exact next _ _ ob.1 ob.2
            case enter f args =>
              refine ob.mono ?_
              rintro e w'' ⟨v, rfl, hv, hb⟩
              exact ⟨v, rfl, next _ _ hv hb⟩
          | halt x w' => simp only [ResG] at ob
        · rw [if_neg hw] at ob ⊢
          exact next _ _ ob (Below.refl _ _)

/-- **A region that draws its order and only makes memory, but for one operation, z** (D0 before it, D1 behind it, Le from before it to behind it; what comes behind it in every order is free of Le). -/
theorem wp_region_turn2 {id : Nat} {ops : Array Oper} {a0 : Act} {w : World} (z : Nat) (C D0 D1 : World → Prop) (Le : World → World → Prop) (l : List (Value → World → Prop)) (pl : List (List Nat × List (Nat × Nat)))
    (n : Nat) (hn : a0.tmps.size = n) (hm : P.follows .mixedOrders = true) (hok : regionOk ops n = true) (hpl : planOk ops pl = true) (hz : z < ops.size)
    (hg : ∀ W W', C W → Below W.heap.size W W' → C W') (hg0 : ∀ W W', D0 W → Below W.heap.size W W' → D0 W') (hg1 : ∀ W W', D1 W → Below W.heap.size W W' → D1 W') (hC : C w.drew) (hD : D0 w.drew)
    (st : ∀ f ∈ l, ∀ v w w', f v w → Below w.heap.size w w' → f v w') (st2 : ∀ x ∈ l.zipIdx, (x.2 == z || fore pl z pl.length x.2) = true ∨ ∀ v w w', x.1 v w → Le w w' → x.1 v w')
    (owed : OwedT P a0 C D0 D1 Le (tab l) z 0 ops.toList pl)
    (fin : ∀ (V : Nat → Value) (w : World), C w → D1 w → (∀ j, j < ops.size → tab l j (V j) w) → Q .normal (putAll V ops.toList 0 a0) w) :
    (Code.region id ops true).wp P Q a0 w := by
  have st2' : ∀ j, j ≠ z → fore pl z pl.length j = false → ∀ v w w', tab l j v w → Le w w' → tab l j v w' := by
    intro j hjz hf v w w' ht hm
    unfold tab at *
    cases hj : l[j]? with
    | none => simp [List.getD_eq_getElem?_getD, hj]
    | some f =>
      simp only [List.getD_eq_getElem?_getD, hj, Option.getD_some] at ht ⊢
      rcases st2 (f, j) (List.mem_zipIdx_iff_getElem?.2 hj) with h1 | h1
      · simp only [Bool.or_eq_true, beq_iff_eq] at h1
        rcases h1 with h2 | h2
        · exact absurd h2 hjz
        · rw [h2] at hf; cases hf
      · exact h1 v w w' ht hm
  exact wp_region_inv (TurnI C D0 D1 l z) n hn hm hok ⟨hC, by simpa using hD, fun _ h => by cases h⟩ (owed_plan pl hpl (OwedT.toP2 pl hpl hg hg0 hg1 st st2' _ _ _ owed)) fun V w h => fin V w h.1 (by have := h.2.1; simpa [hz] using this) fun j hj => h.2.2 j (by simpa using hj)
end
end Go.Proofs.Ythnhdeieimgfhaa

/-
  A region that draws its order and makes memory, but for two operations: one that changes what was there (an append onto a row of the call's own), and one that comes behind all others (a store). Conditions: none.
-/
namespace Go.Proofs.Ythnhdeieimgfhaa
open Go Go.RowKit

section
variable {P : Program} {Q : Exit → Act → World → Prop}
/-- What the last operation's run must come to. -/
def ResF (F : World → Prop) : Result Next → Prop
  | .ok (.value _) w' => F w'
  | .ok .skip w' => F w'
  | _ => False
def OwedF (P : Program) (a0 : Act) (C D1 F : World → Prop) (φ : Nat → Value → World → Prop) (op : Op) (ty : TypeId) (gd : Option (Nat × Bool)) (al : List Nat) (rd : List (Nat × Nat)) : Prop :=
  gd = none ∧ ∀ (V : Nat → Value) (w : World), C w → D1 w → (∀ j ∈ al, φ j (V j) w) → ResF F ((execOp (rhoP rd a0 V) (bareOp op ty)).run P w)
def OwedY (P : Program) (a0 : Act) (C D0 D1 : World → Prop) (Le : World → World → Prop) (F : World → Prop) (φ : Nat → Value → World → Prop) (z y : Nat) : Nat → List Oper → List (List Nat × List (Nat × Nat)) → Prop
  | _, [], _ => True
  | _, _ :: _, [] => False
  | k, o :: r, x :: xs => (if k = y then OwedF P a0 C D1 F φ o.op o.type o.guard x.1 x.2 else OwedT P a0 C D0 D1 Le φ z k [o] [x]) ∧ OwedY P a0 C D0 D1 Le F φ z y (k + 1) r xs
def TurnY (C D0 D1 : World → Prop) (t : List (Value → World → Prop)) (z y : Nat) (F : World → Prop) (L : Nat → Bool) (V : Nat → Value) (w : World) : Prop := if L y = true then F w else TurnI C D0 D1 t z L V w

theorem Res.imp {R R' : Value → World → Prop} (h : ∀ v w, R v w → R' v w) {q : Result Next} (hq : Res P R q) : Res P R' q := by
  cases q with
  | ok n w' =>
    cases n <;> simp only [Res] at hq ⊢
    case value v => exact h _ _ hq
    case skip => exact h _ _ hq
    case enter f args =>
      refine hq.mono ?_
      rintro e w'' ⟨v, rfl, hv⟩
      exact ⟨v, rfl, h _ _ hv⟩
  | halt x w' => simp only [Res] at hq
theorem OwedY.toP {ops : Array Oper} {a0 : Act} {C D0 D1 : World → Prop} {Le : World → World → Prop} {F : World → Prop} {t : List (Value → World → Prop)} {z y : Nat} (ql : List (List Nat × List (Nat × Nat))) (hpl : planOk ops ql = true)
    (hy : ∀ k, k < ops.size → k ≠ y → fore ql k ql.length y = true) (hzy : z ≠ y) (hz : z < ops.size)
    (hg : ∀ W W', C W → Below W.heap.size W W' → C W') (hg0 : ∀ W W', D0 W → Below W.heap.size W W' → D0 W') (hg1 : ∀ W W', D1 W → Below W.heap.size W W' → D1 W')
    (st : ∀ f ∈ t, ∀ v w w', f v w → Below w.heap.size w w' → f v w') (st2 : ∀ j, j ≠ z → fore ql z ql.length j = false → ∀ v w w', tab t j v w → Le w w' → tab t j v w') :
    ∀ (l : List Oper) (k : Nat) (pl : List (List Nat × List (Nat × Nat))), (∀ i, ops[k + i]? = l[i]?) → (∀ i, ql[k + i]? = pl[i]?) →
      OwedY P a0 C D0 D1 Le F (tab t) z y k l pl → OwedP P ops a0 (TurnY C D0 D1 t z y F) k l pl := by
  intro l
  induction l with
  | nil => intro k pl _ _ _; exact trivial
  | cons o r ih =>
    intro k pl ho hq h
    cases pl with
    | nil => exact False.elim h
    | cons x xs =>
      have hko : ops[k]? = some o := ho 0
      have hks : k < ops.size := (Array.getElem?_eq_some_iff.1 hko).1
      refine ⟨?_, ih _ _ (fun i => by have := ho (i + 1); simpa [Nat.add_assoc, Nat.add_comm 1 i] using this) (fun i => by have := hq (i + 1); simpa [Nat.add_assoc, Nat.add_comm 1 i] using this) h.2⟩
      intro L V w hLk hcl hal hI
      by_cases hky : k = y
      · subst hky
        have ob := h.1
        rw [if_pos rfl] at ob
        obtain ⟨hgd, ob⟩ := ob
        unfold TurnY at hI
        rw [hLk] at hI
        simp only [Bool.false_eq_true, if_false] at hI
        obtain ⟨hc, hd, hp⟩ := hI
        by_cases hLz : L z = true
        · rw [if_pos hLz] at hd
          have ob := ob V w hc hd fun j hj => hp j (hal j hj)
          rw [hgd, if_pos (show wantsG V none = true from rfl)]
          have hkk : upd L k k = true := by simp [upd]
          generalize (execOp (rhoP x.2 a0 V) (bareOp o.op o.type)).run P w = q at *
          cases q with
          | ok n w' =>
            cases n <;> simp only [ResF] at ob <;> simp only [Res]
            case value v => unfold TurnY; rw [if_pos hkk]; exact ob
            case skip => unfold TurnY; rw [if_pos hkk]; exact ob
          | halt x w' => simp only [ResF] at ob
        · exfalso
          have hf := hy z hz hzy
          -- what comes before k is done as soon as all that k leans on are
          have hxk : ql[k]? = some x := hq 0
          cases hn : ql.length with
          | zero => rw [hn] at hf; cases hf
          | succ n =>
            rw [hn] at hf
            unfold fore at hf
            rw [hxk] at hf
            simp only [Bool.or_eq_true, List.contains_iff_mem, List.any_eq_true] at hf
            rcases hf with hf | ⟨i, hi, hf⟩
            · exact hLz (hal z hf)
            · exact hLz (fore_done hpl hcl _ _ hf (hal i hi))
      · have hLy : L y = false := by
          cases hLy : L y with
          | false => rfl
          | true => rw [fore_done hpl hcl _ _ (hy k hks hky) hLy] at hLk; cases hLk
        have ob := h.1
        rw [if_neg hky] at ob
        have e := (OwedT.toP2 ql hpl hg hg0 hg1 st st2 [o] k [x] ob).1
        unfold TurnY at hI
        rw [hLy] at hI
        simp only [Bool.false_eq_true, if_false] at hI
        have e := e L V w hLk hcl hal hI
        have hup : upd L k y = false := by simp [upd, Ne.symm hky, hLy]
        have key : ∀ v w', TurnI C D0 D1 t z (upd L k) (updV V k v) w' → TurnY C D0 D1 t z y F (upd L k) (updV V k v) w' := by
          intro v w' h9
          unfold TurnY
          rw [hup]
          simpa using h9
        by_cases hw : wantsG V o.guard = true
        · rw [if_pos hw] at e ⊢
          exact Res.imp key e
        · rw [if_neg hw] at e ⊢
          exact key _ _ e

/-- **A region that draws its order and only makes memory, but for an operation z, and y, the last of all** (D0 before z, D1 behind it, F behind y). -/
theorem wp_region_turn3 {id : Nat} {ops : Array Oper} {a0 : Act} {w : World} (z y : Nat) (C D0 D1 : World → Prop) (Le : World → World → Prop) (F : World → Prop) (l : List (Value → World → Prop)) (pl : List (List Nat × List (Nat × Nat)))
    (n : Nat) (hn : a0.tmps.size = n) (hm : P.follows .mixedOrders = true) (hok : regionOk ops n = true) (hpl : planOk ops pl = true) (hz : z < ops.size) (hy : y < ops.size) (hzy : z ≠ y)
    (hlast : (List.range ops.size).all (fun k => k == y || fore pl k pl.length y) = true)
    (hg : ∀ W W', C W → Below W.heap.size W W' → C W') (hg0 : ∀ W W', D0 W → Below W.heap.size W W' → D0 W') (hg1 : ∀ W W', D1 W → Below W.heap.size W W' → D1 W') (hC : C w.drew) (hD : D0 w.drew)
    (st : ∀ f ∈ l, ∀ v w w', f v w → Below w.heap.size w w' → f v w') (st2 : ∀ x ∈ l.zipIdx, (x.2 == z || fore pl z pl.length x.2) = true ∨ ∀ v w w', x.1 v w → Le w w' → x.1 v w')
    (owed : OwedY P a0 C D0 D1 Le F (tab l) z y 0 ops.toList pl)
    (fin : ∀ (V : Nat → Value) (w : World), F w → Q .normal (putAll V ops.toList 0 a0) w) :
    (Code.region id ops true).wp P Q a0 w := by
  have st2' : ∀ j, j ≠ z → fore pl z pl.length j = false → ∀ v w w', tab l j v w → Le w w' → tab l j v w' := by
    intro j hjz hf v w w' ht hm
    unfold tab at *
    cases hj : l[j]? with
    | none => simp [List.getD_eq_getElem?_getD, hj]
    | some f =>
      simp only [List.getD_eq_getElem?_getD, hj, Option.getD_some] at ht ⊢
      rcases st2 (f, j) (List.mem_zipIdx_iff_getElem?.2 hj) with h1 | h1
      · simp only [Bool.or_eq_true, beq_iff_eq] at h1
        rcases h1 with h2 | h2
        · exact absurd h2 hjz
        · rw [h2] at hf; cases hf
      · exact h1 v w w' ht hm
  have hy' : ∀ k, k < ops.size → k ≠ y → fore pl k pl.length y = true := by
    intro k hk hne
    have := List.all_eq_true.1 hlast k (List.mem_range.2 hk)
    simp only [Bool.or_eq_true, beq_iff_eq] at this
    exact this.resolve_left hne
  refine wp_region_inv (TurnY C D0 D1 l z y F) n hn hm hok ?_ (owed_plan pl hpl (OwedY.toP pl hpl hy' hzy hz hg hg0 hg1 st st2' _ _ _ (fun i => by simp) (fun i => by simp) owed)) fun V w h => fin V w ?_
  · unfold TurnY; simp only [Bool.false_eq_true, if_false]; exact ⟨hC, by simpa using hD, fun _ h => by cases h⟩
  · unfold TurnY at h; simpa [hy] using h
end
end Go.Proofs.Ythnhdeieimgfhaa
