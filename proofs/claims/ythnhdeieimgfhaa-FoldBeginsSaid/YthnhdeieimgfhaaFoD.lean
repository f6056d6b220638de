/-
  A state of the call's own in memory, and how its lists grow (layer 16). Conditions: none.
-/
import Derived.Test.YthnhdeieimgfhaaFoC
set_option maxRecDepth 100000
namespace Go.Proofs.Ythnhdeieimgfhaa
open Go Go.RowKit

section
variable {α : Type} {S : Shp α}
/-- An element as a value: it stays while what lies from gb on stays. -/
def elF (S : Shp α) (gb : Nat) (x : α) (v : Value) (W : World) : Prop := (∃ arr, v = .agg arr) ∧ (v.cells.toList.length = S.size) ∧ ∀ W', UpB gb none W W' → S.rel x v.cells.toList W'
/-- A row of one element, just made. -/
def rowS (S : Shp α) (gb : Nat) (T : TypeId) (x : α) (v : Value) (W : World) : Prop := ∃ g' cs, v = .slice (some ⟨g', 0, none⟩) 1 1 ∧ gb ≤ g' ∧ Blk W g' T cs ∧ cs.toList.length = S.size ∧ ∀ W', UpB gb none W W' → S.rel x cs.toList W'
/-- Behind an append of an element onto a row. -/
def appS (S : Shp α) (base gb : Nat) (T : TypeId) (row : Option Nat) (n : Nat) (xs : List Value) (x : α) (v : Value) (W : World) : Prop :=
  ∃ cs, W.ownsRow base T S.size v (n + 1) (xs ++ cs) ∧ (v.ownBlock = row ∨ ∀ b, v.ownBlock = some b → gb ≤ b) ∧ ∀ W', UpN (fun k => k < gb ∨ v.ownBlock = some k) W W' → S.rel x cs W'
theorem elF_st (gb : Nat) (x : α) : ∀ v w w', elF S gb x v w → Below w.heap.size w w' → elF S gb x v w' := by
  rintro v w w' ⟨ha, hl, h⟩ k
  exact ⟨ha, hl, fun W' u => h W' ((UpB.of_k k _ _).tr u)⟩
theorem elF_row {gb : Nat} {x : α} {row : Option Nat} (hr : ∀ b, row = some b → b < gb) : ∀ v w w', elF S gb x v w → w.grownBy w' row → elF S gb x v w' := by
  rintro v w w' ⟨ha, hl, h⟩ k
  exact ⟨ha, hl, fun W' u => h W' ((UpB.row k hr).tr u)⟩
theorem rowS_st (gb : Nat) (T : TypeId) (x : α) : ∀ v w w', rowS S gb T x v w → Below w.heap.size w w' → rowS S gb T x v w' := by
  rintro v w w' ⟨g', cs, e, hg, hb, hl, h⟩ k
  exact ⟨g', cs, e, hg, hb.below k hb.lt, hl, fun W' u => h W' ((UpB.of_k k _ _).tr u)⟩
theorem rowS_row {gb : Nat} {T : TypeId} {x : α} {row : Option Nat} (hr : ∀ b, row = some b → b < gb) : ∀ v w w', rowS S gb T x v w → w.grownBy w' row → rowS S gb T x v w' := by
  rintro v w w' ⟨g', cs, e, hg, hb, hl, h⟩ k
  exact ⟨g', cs, e, hg, hb.grown k (fun e => by have := hr g' e.symm; omega), hl, fun W' u => h W' ((UpB.row k hr).tr u)⟩
theorem appS_st (base gb : Nat) (T : TypeId) (row : Option Nat) (n : Nat) (xs : List Value) (x : α) : ∀ v w w', appS S base gb T row n xs x v w → Below w.heap.size w w' → appS S base gb T row n xs x v w' := by
  rintro v w w' ⟨cs, h1, h2, h3⟩ k
  exact ⟨cs, row_below h1 k, h2, fun W' u => h3 W' ((UpN.of_k k _).tr u)⟩
/-- The append itself. -/
theorem exec_appS {P : Program} {ρ : Operand → Value} {w : World} (s x : Operand) (t ty e : TypeId) (base : Nat) (z : Value) (bytes n : Nat) (xs : List Value) (T : SliceT P t e z S.size bytes) (u : Value) (hs : ρ s = u) (ho : w.ownsRow base e S.size u n xs)
    (gb : Nat) (hg : base ≤ gb) (hgw : ∀ b, u.ownBlock = some b → b < gb) (hgz : gb ≤ w.heap.size) (a : α) (v : Value) (hx : ρ x = v) (hr : rowS S gb e a v w)
    (hbytes : (n + 1) * (bytes + 1) ≤ 140737488355328) :
    ∃ v' w', (execOp ρ (bareOp (.call { callee := .builtin .append, args := #[s, x], argTypes := #[t, t] }) ty)).run P w = .ok (.value v') w' ∧ appS S base gb e u.ownBlock n xs a v' w' ∧ Below base w w' ∧ w.grownBy w' u.ownBlock := by
  obtain ⟨g', cs, rfl, hg', hb, hl, hF⟩ := hr
  have hR : Reads w w.heap.size S.size (some ⟨g', 0, none⟩) 1 cs.toList := ⟨by omega, fun _ => ⟨g', 0, rfl, hb.lt, fun j u hu => by
    rw [Nat.zero_add, hb.cell j]; simpa using hu⟩⟩
  obtain ⟨v', w', hrun, h2, h3, h4, h5⟩ := run_app w base t ty e z S.size bytes T u n xs ho w.heap.size _ 1 1 _ hR (S.one (hF w (UpB.rf _ _ _))) hbytes (by omega)
  refine ⟨v', w', ?_, ⟨cs.toList, h2, h4.imp id (fun h => ?_), fun W' up => ?_⟩, h5, h3⟩
  · simp only [execOp, bareOp, resolve, invoke, builtin, Sem.run_bind, Sem.run_pure, Result.andThen_ok, List.map_toArray, List.map_cons, List.map_nil, hs, hx, hrun]
  · intro b hb'
    rw [h] at hb'
    injection hb' with hb'
    omega
  · refine hF W' ⟨up.os.trans h3.os, up.tape.trans h3.tape, up.output.trans h3.output, Nat.le_trans h3.size up.size, fun k h1 h2' h3' => ?_⟩
    have hv' : v'.ownBlock ≠ some k := by
      rcases h4 with h | h <;> rw [h]
      · intro e; have := hgw k e; omega
      · intro e; injection e with e; omega
    have hu : some k ≠ u.ownBlock := by
      intro e; have := hgw k e.symm; omega
    exact (up.block k (Nat.lt_of_lt_of_le h2' h3.size) (fun h => h.elim (fun h => by omega) (fun h => hv' h))).trans (h3.block k h2' hu)
end

theorem infoEn : (Try.prog.info? 58).map (fun i => (i.zero, i.size, i.bytes)) = some (some (.agg zEnt), 8, 96) := by kernel_rfl
theorem TEn : SliceT Try.prog 25 58 (.agg zEnt) 8 96 := ⟨Try.underlying25, infoEn, rfl, by decide⟩
theorem infoId : (Try.prog.info? 53).map (fun i => (i.zero, i.size, i.bytes)) = some (some (.agg #[.int .i64 0, .int .u64 0, .int .u64 0]), 3, 24) := by kernel_rfl
theorem TId : SliceT Try.prog 26 53 (.agg #[.int .i64 0, .int .u64 0, .int .u64 0]) 3 24 := ⟨Try.underlying26, infoId, rfl, by decide⟩

abbrev stA (s : Stt) (vl vp va : Value) : Array Value := #[.int .u64 (s.life : Int), vl, vp, va]
def stv (s : Stt) (v : Value) (w : World) : Prop := ∃ vl vp va, v = .agg (stA s vl vp va) ∧ lst enS s.list vl w ∧ lst enS s.prom vp w ∧ lst idS s.ab va w
theorem stv_st {s : Stt} {v : Value} {w w' : World} (h : stv s v w) (k : K w w') : stv s v w' := by
  obtain ⟨vl, vp, va, e, h1, h2, h3⟩ := h
  exact ⟨vl, vp, va, e, lst_st h1 k, lst_st h2 k, lst_st h3 k⟩

/-- The blocks that change while a state in block g goes on. -/
def StoX (base g : Nat) (vl vp va : Value) (k : Nat) : Prop := k < base ∨ k = g ∨ vl.ownBlock = some k ∨ vp.ownBlock = some k ∨ va.ownBlock = some k
/-- A state of the call's own in block g: its rows are the call's own, its entries lie elsewhere. -/
structure StoV (base g : Nat) (s : Stt) (vl vp va : Value) (c1 c2 : List (List Value)) (W : World) : Prop where
  blk : Blk W g 43 (stA s vl vp va)
  low : base ≤ g
  l : W.ownsRow base 58 8 vl s.list.length c1.flatten
  p : W.ownsRow base 58 8 vp s.prom.length c2.flatten
  a : W.ownsRow base 53 3 va s.ab.length (s.ab.flatMap idc)
  ne : ∀ b, vl.ownBlock = some b → vp.ownBlock ≠ some b
  len1 : c1.length = s.list.length
  len2 : c2.length = s.prom.length
  el : ∀ W', UpN (StoX base g vl vp va) W W' → Each enS s.list c1 W' ∧ Each enS s.prom c2 W'
def Sto (base g : Nat) (s : Stt) (W : World) : Prop := ∃ vl vp va c1 c2, StoV base g s vl vp va c1 c2 W

section
variable {base g : Nat} {s : Stt} {vl vp va : Value} {c1 c2 : List (List Value)} {W W' : World}
theorem StoV.st (h : StoV base g s vl vp va c1 c2 W) (k : K W W') : StoV base g s vl vp va c1 c2 W' :=
  ⟨h.blk.below k h.blk.lt, h.low, row_below h.l k, row_below h.p k, row_below h.a k, h.ne, h.len1, h.len2, fun W'' u => h.el W'' ((UpN.of_k k _).tr u)⟩
theorem Sto.st (h : Sto base g s W) (k : K W W') : Sto base g s W' := by
  obtain ⟨vl, vp, va, c1, c2, h⟩ := h
  exact ⟨vl, vp, va, c1, c2, h.st k⟩
theorem flat_ids (l : List Idn) : (l.map idc).flatten = l.flatMap idc := by rw [List.flatMap_def]
theorem each_ids (l : List Idn) (W : World) : Each idS l (l.map idc) W := ⟨by simp, fun i h h' => by simp [idS]⟩
theorem StoV.stv (h : StoV base g s vl vp va c1 c2 W) : stv s (.agg (stA s vl vp va)) W := by
  obtain ⟨e1, e2⟩ := h.el W (UpN.rf _ _)
  exact ⟨vl, vp, va, rfl, lst_of_own h.l e1, lst_of_own h.p e2, lst_of_own (by rw [flat_ids]; exact h.a) (each_ids _ _)⟩
/-- The rows are not of the state's block, nor of one another. -/
theorem StoV.rowl (h : StoV base g s vl vp va c1 c2 W) {b : Nat} (hb : vl.ownBlock = some b) : base ≤ b ∧ b < W.heap.size ∧ b ≠ g ∧ vp.ownBlock ≠ some b ∧ va.ownBlock ≠ some b := by
  obtain ⟨cur, h1⟩ := row_blk h.l hb
  have := h.l.lt b hb
  refine ⟨this.1, this.2, ?_, h.ne b hb, ?_⟩
  · rintro rfl; exact absurd (h1.unlike h.blk) (by decide)
  · intro e; obtain ⟨cur2, h2⟩ := row_blk h.a e; exact absurd (h1.unlike h2) (by decide)
theorem StoV.rowp (h : StoV base g s vl vp va c1 c2 W) {b : Nat} (hb : vp.ownBlock = some b) : base ≤ b ∧ b < W.heap.size ∧ b ≠ g ∧ vl.ownBlock ≠ some b ∧ va.ownBlock ≠ some b := by
  obtain ⟨cur, h1⟩ := row_blk h.p hb
  have := h.p.lt b hb
  refine ⟨this.1, this.2, ?_, fun e => h.ne b e hb, ?_⟩
  · rintro rfl; exact absurd (h1.unlike h.blk) (by decide)
  · intro e; obtain ⟨cur2, h2⟩ := row_blk h.a e; exact absurd (h1.unlike h2) (by decide)
theorem StoV.rowa (h : StoV base g s vl vp va c1 c2 W) {b : Nat} (hb : va.ownBlock = some b) : base ≤ b ∧ b < W.heap.size ∧ b ≠ g ∧ vl.ownBlock ≠ some b ∧ vp.ownBlock ≠ some b := by
  obtain ⟨cur, h1⟩ := row_blk h.a hb
  have := h.a.lt b hb
  refine ⟨this.1, this.2, ?_, fun e => ?_, fun e => ?_⟩
  · rintro rfl; exact absurd (h1.unlike h.blk) (by decide)
  · obtain ⟨cur2, h2⟩ := row_blk h.l e; exact absurd (h1.unlike h2) (by decide)
  · obtain ⟨cur2, h2⟩ := row_blk h.p e; exact absurd (h1.unlike h2) (by decide)
theorem UpN.setF {X : Nat → Prop} {g i : Nat} (hX : X g) (w : World) (u : Value) : UpN X w (w.setCell ⟨g, i, none⟩ u) := UpN.sets hX [u] i w
theorem UpN.more {X Y : Nat → Prop} (h : UpN X W W') (hX : ∀ k, X k → Y k) : UpN Y W W' := ⟨h.os, h.tape, h.output, h.size, fun i h1 h2 => h.block i h1 fun h => h2 (hX i h)⟩
theorem row_upn {X : Nat → Prop} {e : TypeId} {size n : Nat} {v : Value} {xs : List Value} (h : W.ownsRow base e size v n xs) (u : UpN X W W') (hX : ∀ b, v.ownBlock = some b → ¬ X b) : W'.ownsRow base e size v n xs :=
  row_keep h fun b _ h2 h3 => u.block b h2 (hX b h3)

/-- A number of the state that is written. -/
theorem StoV.setLife (h : StoV base g s vl vp va c1 c2 W) (n : Nat) : StoV base g ⟨n, s.list, s.prom, s.ab⟩ vl vp va c1 c2 (W.setCell ⟨g, 0, none⟩ (.int .u64 (n : Int))) := by
  have u : UpN (fun k => k = g) W (W.setCell ⟨g, 0, none⟩ (.int .u64 (n : Int))) := UpN.setF (X := fun k => k = g) rfl _ _
  refine ⟨h.blk.set_ 0 _, h.low, row_upn h.l u fun b hb => (h.rowl hb).2.2.1, row_upn h.p u fun b hb => (h.rowp hb).2.2.1, row_upn h.a u fun b hb => (h.rowa hb).2.2.1, h.ne, h.len1, h.len2, fun W'' u' => h.el W'' ((u.more fun k e => ?_).tr u')⟩
  exact .inr (.inl e)


theorem grow_upn {X Y : Nat → Prop} {row : Option Nat} {i : Nat} {v : Value} (u : UpB 0 row W W') {W'' : World} (u' : UpN X (W'.setCell ⟨g, i, none⟩ v) W'') (hY : ∀ k, k < W.heap.size → k = g ∨ some k = row ∨ X k → Y k) : UpN Y W W'' := by
  have us : UpN (fun k => k = g) W' (W'.setCell ⟨g, i, none⟩ v) := UpN.setF (X := fun k => k = g) rfl _ _
  refine ⟨u'.os.trans (us.os.trans u.os), u'.tape.trans (us.tape.trans u.tape), u'.output.trans (us.output.trans u.output), Nat.le_trans u.size (Nat.le_trans us.size u'.size), fun k h1 h2 => ?_⟩
  have hy := fun e => h2 (hY k h1 e)
  exact (u'.block k (Nat.lt_of_lt_of_le (Nat.lt_of_lt_of_le h1 u.size) us.size) (fun e => hy (.inr (.inr e)))).trans ((us.block k (Nat.lt_of_lt_of_le h1 u.size) (fun e => hy (.inl e))).trans (u.block k (Nat.zero_le _) h1 (fun e => hy (.inr (.inl e)))))
theorem store_upn {X Y : Nat → Prop} {i : Nat} {v : Value} {W'' : World} (u' : UpN X (W.setCell ⟨g, i, none⟩ v) W'') (hY : ∀ k, k = g ∨ X k → Y k) : UpN Y W W'' := by
  have us : UpN (fun k => k = g) W (W.setCell ⟨g, i, none⟩ v) := UpN.setF (X := fun k => k = g) rfl _ _
  exact (us.more fun k e => hY k (.inl e)).tr (u'.more fun k e => hY k (.inr e))

/-- An entry more in the list: an append, and a store of the row. -/
theorem StoV.pushL (h : StoV base g s vl vp va c1 c2 W) (hbg : base ≤ W.heap.size) (u : UpB 0 vl.ownBlock W W') {x : Ent} {v' : Value} (ha : appS enS base W.heap.size 58 vl.ownBlock s.list.length c1.flatten x v' W') :
    Sto base g ⟨s.life, s.list ++ [x], s.prom, s.ab⟩ (W'.setCell ⟨g, 1, none⟩ v') := by
  obtain ⟨cs, ho, hr, hF⟩ := ha
  have hg := h.blk.lt
  have hv : ∀ b, v'.ownBlock = some b → vl.ownBlock = some b ∨ W.heap.size ≤ b := fun b hb => hr.elim (fun e => .inl (by rw [← e]; exact hb)) (fun e => .inr (e b hb))
  have hvg : v'.ownBlock ≠ some g := fun e => (hv g e).elim (fun e => (h.rowl e).2.2.1 rfl) (fun e => by omega)
  have u1 : UpN (fun k => vl.ownBlock = some k) W W' := u.upN (fun k hk => hk.elim (fun h => by omega) (fun h => h.symm))
  have us : UpN (fun k => k = g) W' (W'.setCell ⟨g, 1, none⟩ v') := UpN.setF (X := fun k => k = g) rfl _ _
  have hbl : Blk W' g 43 (stA s vl vp va) := (u1.block g h.blk.lt (fun e => (h.rowl e).2.2.1 rfl)).trans h.blk
  refine ⟨v', vp, va, c1 ++ [cs], c2, hbl.set_ 1 _, h.low, ?_, ?_, ?_, ?_, by simp [h.len1], h.len2, fun W'' u' => ?_⟩
  · have := row_upn ho us (fun b hb e => hvg (by rw [hb, e]))
    simpa [show enS.size = 8 from rfl] using this
  · exact row_upn (row_upn h.p u1 fun b hb e => h.ne b e hb) us fun b hb => (h.rowp hb).2.2.1
  · exact row_upn (row_upn h.a u1 fun b hb => (h.rowa hb).2.2.2.1) us fun b hb => (h.rowa hb).2.2.1
  · intro b hb hp
    rcases hv b hb with e | e
    · exact h.ne b e hp
    · have := (h.rowp hp).2.1; omega
  · have uW : UpN (StoX base g vl vp va) W W'' := grow_upn u u' fun k hk e => by
      rcases e with e | e | e | e | e | e | e
      · exact .inr (.inl e)
      · exact .inr (.inr (.inl e.symm))
      · exact .inl e
      · exact .inr (.inl e)
      · exact (hv k e).elim (fun e => .inr (.inr (.inl e))) (fun e => by omega)
      · exact .inr (.inr (.inr (.inl e)))
      · exact .inr (.inr (.inr (.inr e)))
    obtain ⟨e1, e2⟩ := h.el W'' uW
    refine ⟨e1.snoc (hF W'' (store_upn u' fun k e => ?_)), e2⟩
    rcases e with rfl | e | rfl | e | e | e
    · exact .inl hg
    · exact .inl (by omega)
    · exact .inl hg
    · exact .inr e
    · exact .inl (h.rowp e).2.1
    · exact .inl (h.rowa e).2.1
/-- A promise more. -/
theorem StoV.pushP (h : StoV base g s vl vp va c1 c2 W) (hbg : base ≤ W.heap.size) (u : UpB 0 vp.ownBlock W W') {x : Ent} {v' : Value} (ha : appS enS base W.heap.size 58 vp.ownBlock s.prom.length c2.flatten x v' W') :
    Sto base g ⟨s.life, s.list, s.prom ++ [x], s.ab⟩ (W'.setCell ⟨g, 2, none⟩ v') := by
  obtain ⟨cs, ho, hr, hF⟩ := ha
  have hg := h.blk.lt
  have hv : ∀ b, v'.ownBlock = some b → vp.ownBlock = some b ∨ W.heap.size ≤ b := fun b hb => hr.elim (fun e => .inl (by rw [← e]; exact hb)) (fun e => .inr (e b hb))
  have hvg : v'.ownBlock ≠ some g := fun e => (hv g e).elim (fun e => (h.rowp e).2.2.1 rfl) (fun e => by omega)
  have u1 : UpN (fun k => vp.ownBlock = some k) W W' := u.upN (fun k hk => hk.elim (fun h => by omega) (fun h => h.symm))
  have us : UpN (fun k => k = g) W' (W'.setCell ⟨g, 2, none⟩ v') := UpN.setF (X := fun k => k = g) rfl _ _
  have hbl : Blk W' g 43 (stA s vl vp va) := (u1.block g h.blk.lt (fun e => (h.rowp e).2.2.1 rfl)).trans h.blk
  refine ⟨vl, v', va, c1, c2 ++ [cs], hbl.set_ 2 _, h.low, ?_, ?_, ?_, ?_, h.len1, by simp [h.len2], fun W'' u' => ?_⟩
  · exact row_upn (row_upn h.l u1 fun b hb e => h.ne b hb e) us fun b hb => (h.rowl hb).2.2.1
  · have := row_upn ho us (fun b hb e => hvg (by rw [hb, e]))
    simpa [show enS.size = 8 from rfl] using this
  · exact row_upn (row_upn h.a u1 fun b hb => (h.rowa hb).2.2.2.2) us fun b hb => (h.rowa hb).2.2.1
  · intro b hb hp
    rcases hv b hp with e | e
    · exact h.ne b hb e
    · have := (h.rowl hb).2.1; omega
  · have uW : UpN (StoX base g vl vp va) W W'' := grow_upn u u' fun k hk e => by
      rcases e with e | e | e | e | e | e | e
      · exact .inr (.inl e)
      · exact .inr (.inr (.inr (.inl e.symm)))
      · exact .inl e
      · exact .inr (.inl e)
      · exact .inr (.inr (.inl e))
      · exact (hv k e).elim (fun e => .inr (.inr (.inr (.inl e)))) (fun e => by omega)
      · exact .inr (.inr (.inr (.inr e)))
    obtain ⟨e1, e2⟩ := h.el W'' uW
    refine ⟨e1, e2.snoc (hF W'' (store_upn u' fun k e => ?_))⟩
    rcases e with rfl | e | rfl | e | e | e
    · exact .inl hg
    · exact .inl (by omega)
    · exact .inl hg
    · exact .inl (h.rowl e).2.1
    · exact .inr e
    · exact .inl (h.rowa e).2.1
/-- An ID more that is aborted. -/
theorem StoV.pushA (h : StoV base g s vl vp va c1 c2 W) (_ : base ≤ W.heap.size) (u : UpB 0 va.ownBlock W W') {x : Idn} {v' : Value} (ha : appS idS base W.heap.size 53 va.ownBlock s.ab.length (s.ab.flatMap idc) x v' W') :
    Sto base g ⟨s.life, s.list, s.prom, s.ab ++ [x]⟩ (W'.setCell ⟨g, 3, none⟩ v') := by
  obtain ⟨cs, ho, hr, hF⟩ := ha
  have hg := h.blk.lt
  obtain rfl : cs = idc x := hF W' (UpN.rf _ _)
  have hv : ∀ b, v'.ownBlock = some b → va.ownBlock = some b ∨ W.heap.size ≤ b := fun b hb => hr.elim (fun e => .inl (by rw [← e]; exact hb)) (fun e => .inr (e b hb))
  have hvg : v'.ownBlock ≠ some g := fun e => (hv g e).elim (fun e => (h.rowa e).2.2.1 rfl) (fun e => by omega)
  have u1 : UpN (fun k => va.ownBlock = some k) W W' := u.upN (fun k hk => hk.elim (fun h => by omega) (fun h => h.symm))
  have us : UpN (fun k => k = g) W' (W'.setCell ⟨g, 3, none⟩ v') := UpN.setF (X := fun k => k = g) rfl _ _
  have hbl : Blk W' g 43 (stA s vl vp va) := (u1.block g h.blk.lt (fun e => (h.rowa e).2.2.1 rfl)).trans h.blk
  refine ⟨vl, vp, v', c1, c2, hbl.set_ 3 _, h.low, ?_, ?_, ?_, h.ne, h.len1, h.len2, fun W'' u' => ?_⟩
  · exact row_upn (row_upn h.l u1 fun b hb => (h.rowl hb).2.2.2.2) us fun b hb => (h.rowl hb).2.2.1
  · exact row_upn (row_upn h.p u1 fun b hb => (h.rowp hb).2.2.2.2) us fun b hb => (h.rowp hb).2.2.1
  · have := row_upn ho us (fun b hb e => hvg (by rw [hb, e]))
    simpa [show idS.size = 3 from rfl] using this
  · exact h.el W'' (grow_upn u u' fun k hk e => by
      rcases e with e | e | e | e | e | e | e
      · exact .inr (.inl e)
      · exact .inr (.inr (.inr (.inr e.symm)))
      · exact .inl e
      · exact .inr (.inl e)
      · exact .inr (.inr (.inl e))
      · exact .inr (.inr (.inr (.inl e)))
      · exact (hv k e).elim (fun e => .inr (.inr (.inr (.inr e)))) (fun e => by omega))
end
end Go.Proofs.Ythnhdeieimgfhaa
