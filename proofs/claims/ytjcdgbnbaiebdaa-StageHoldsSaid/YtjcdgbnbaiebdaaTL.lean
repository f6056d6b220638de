/-
  What the walk of stage.Publish leans on: rows that stay while other blocks change, rows of which several cells are written (layer 17). Conditions: none.
-/
import Derived.Test.YtjcdgbnbaiebdaaTG
import Derived.Test.YtjcdgbnbaiebdaaMA
import Derived.Test.YtjcdgbnbaiebdaaTA
import Derived.Test.YtjcdgbnbaiebdaaNA
set_option maxRecDepth 100000
namespace Go.Proofs.Ytjcdgbnbaiebdaa
open Go Go.RowKit

/-- All but the blocks of X are as they were. -/
structure UpN (X : Nat → Prop) (w w' : World) : Prop where
  os : w'.os = w.os
  tape : w'.tape = w.tape
  output : w'.output = w.output
  size : w.heap.size ≤ w'.heap.size
  block : ∀ k, k < w.heap.size → ¬ X k → w'.heap[k]? = w.heap[k]?
section
variable {X : Nat → Prop} {a b c w w' : World}
theorem UpN.rf (X : Nat → Prop) (w : World) : UpN X w w := ⟨rfl, rfl, rfl, Nat.le_refl _, fun _ _ _ => rfl⟩
theorem UpN.tr (h : UpN X a b) (k : UpN X b c) : UpN X a c :=
  ⟨k.os.trans h.os, k.tape.trans h.tape, k.output.trans h.output, Nat.le_trans h.size k.size, fun i h1 h2 => (k.block i (Nat.lt_of_lt_of_le h1 h.size) h2).trans (h.block i h1 h2)⟩
theorem UpN.of_k (h : K w w') (X : Nat → Prop) : UpN X w w' := ⟨h.os, h.tape, h.output, h.size, fun i h2 _ => h.block i h2⟩
theorem UpN.of_mut {row : Option Nat} (h : w.grownBy w' row) (hX : ∀ g, row = some g → X g) : UpN X w w' :=
  ⟨h.os, h.tape, h.output, h.size, fun i h1 h2 => h.block i h1 (fun e => h2 (hX i e.symm))⟩
theorem UpN.upB {lo : Nat} {row : Option Nat} (h : UpN X w w') (hX : ∀ k, lo ≤ k → k < w.heap.size → some k ≠ row → ¬ X k) : UpB lo row w w' :=
  ⟨h.os, h.tape, h.output, h.size, fun i h1 h2 h3 => h.block i h2 (hX i h1 h2 h3)⟩
theorem UpB.upN {lo : Nat} {row : Option Nat} (h : UpB lo row w w') (hX : ∀ k, k < lo ∨ some k = row → X k) : UpN X w w' :=
  ⟨h.os, h.tape, h.output, h.size, fun i h1 h2 => h.block i (Nat.le_of_not_lt fun hl => h2 (hX i (.inl hl))) h1 (fun e => h2 (hX i (.inr e)))⟩

/-- An own row whose block is as it was. -/
theorem row_keep {base : Nat} {e : TypeId} {size n : Nat} {v : Value} {xs : List Value} (h : w.ownsRow base e size v n xs) (k : ∀ g, base ≤ g → g < w.heap.size → v.ownBlock = some g → w'.heap[g]? = w.heap[g]?) : w'.ownsRow base e size v n xs := by
  refine ⟨h.1, h.2.imp id ?_⟩
  rintro ⟨g, cap, cur, rfl, g2, g3, g4⟩
  exact ⟨g, cap, cur, rfl, g2, (k g g2 (Array.getElem?_eq_some_iff.1 g3).1 rfl).trans g3, g4⟩
theorem row_blk {base : Nat} {e : TypeId} {size n : Nat} {v : Value} {xs : List Value} (h : w.ownsRow base e size v n xs) {g : Nat} (hg : v.ownBlock = some g) : ∃ cur, Blk w g e cur := by
  rcases h.2 with ⟨rfl, _⟩ | ⟨g', cap, cur, rfl, _, g3, _⟩
  · cases hg
  · injection hg with hg
    subst hg
    exact ⟨cur, g3⟩
/-- Blocks of unlike types are unlike. -/
theorem Blk.unlike {g : Nat} {t t' : TypeId} {cs cs' : Array Value} (h : Blk w g t cs) (h' : Blk w g t' cs') : t = t' := by
  unfold Blk at h h'
  rw [h] at h'
  injection h' with h'
  injection h'
theorem lst_of_own {α : Type} {S : Shp α} {l : List α} {v : Value} {base : Nat} {e : TypeId} {css : List (List Value)} (h1 : w.ownsRow base e S.size v l.length css.flatten) (he : Each S l css w) : lst S l v w := by
  have h1' := h1
  rcases h1.2 with ⟨rfl, h0⟩ | ⟨g, cap, cur, rfl, _, _, hn, _⟩
  · obtain rfl : l = [] := List.eq_nil_of_length_eq_zero h0
    exact lst_nil _ _
  · exact ⟨_, _, rfl, ⟨css, he, Reads.of_own h1'⟩, hn⟩

/-- Cells that are written one after another. -/
def setsL : List Value → Nat → List Value → List Value
  | xs, _, [] => xs
  | xs, q, u :: us => setsL (xs.set q u) (q + 1) us
def setsW : World → Nat → Nat → List Value → World
  | w, _, _, [] => w
  | w, g, q, u :: us => setsW (w.setCell ⟨g, q, none⟩ u) g (q + 1) us
theorem setsL_len : ∀ (us xs : List Value) (q : Nat), (setsL xs q us).length = xs.length
  | [], _, _ => rfl
  | u :: us, xs, q => by simp only [setsL]; rw [setsL_len us]; simp
theorem own_sets {base g n cap : Nat} {e : TypeId} {size : Nat} : ∀ (us xs : List Value) (q : Nat) (w : World), w.ownsRow base e size (.slice (some ⟨g, 0, none⟩) n cap) n xs → q + us.length ≤ xs.length →
    (setsW w g q us).ownsRow base e size (.slice (some ⟨g, 0, none⟩) n cap) n (setsL xs q us)
  | [], _, _, _, h, _ => h
  | u :: us, xs, q, w, h, hl => by
    simp only [setsW, setsL]
    simp only [List.length_cons] at hl
    exact own_sets us _ _ _ (own_set h (by omega) u) (by simp; omega)
theorem flatten_sets (n : Nat) : ∀ (us : List Value) (css : List (List Value)), (∀ cs ∈ css, cs.length = n) → ∀ (k j : Nat) (hk : k < css.length), j + us.length ≤ n → setsL css.flatten (k * n + j) us = (css.set k (setsL (css[k]) j us)).flatten
  | [], css, h, k, j, hk, hj => by simp [setsL]
  | u :: us, css, h, k, j, hk, hj => by
    simp only [List.length_cons] at hj
    simp only [setsL]
    rw [flatten_set n u css h k j hk (by omega)]
    have hl : ∀ cs ∈ css.set k ((css[k]).set j u), cs.length = n := by
      intro cs hcs
      rcases List.mem_or_eq_of_mem_set hcs with h1 | rfl
      · exact h cs h1
      · simp; exact h _ (List.getElem_mem hk)
    have ih := flatten_sets n us (css.set k ((css[k]).set j u)) hl k (j + 1) (by simpa using hk) (by omega)
    rw [show k * n + j + 1 = k * n + (j + 1) by omega, ih]
    simp
theorem UpN.sets {g : Nat} (hX : X g) : ∀ (us : List Value) (q : Nat) (w : World), UpN X w (setsW w g q us)
  | [], _, _ => UpN.rf _ _
  | u :: us, q, w => by
    simp only [setsW]
    refine UpN.tr (b := w.setCell ⟨g, q, none⟩ u) ⟨rfl, rfl, rfl, by simp [World.setCell], fun i _ h => Below.heap_setCell w ⟨g, q, none⟩ u i (by rintro rfl; exact h hX)⟩ (UpN.sets hX us _ _)
end
def evF (g : Nat) (e : List Att) (v : Value) (W : World) : Prop := ∀ W', UpB g none W W' → evt e v W'
def evR (g : Nat) (T : TypeId) (e : List Att) (v : Value) (W : World) : Prop := ∃ g' u, v = .slice (some ⟨g', 0, none⟩) 1 1 ∧ g ≤ g' ∧ Blk W g' T #[u] ∧ ∀ W', UpB g none W W' → evt e u W'
theorem evF_st (g : Nat) (e : List Att) : ∀ v w w', evF g e v w → Below w.heap.size w w' → evF g e v w' := by
  rintro v w w' h k
  exact fun W' u => h W' ((UpB.of_k k _ _).tr u)
theorem evF_row {g : Nat} {e : List Att} {row : Option Nat} (hr : ∀ b, row = some b → b < g) : ∀ v w w', evF g e v w → w.grownBy w' row → evF g e v w' := by
  rintro v w w' h k
  exact fun W' u => h W' ((UpB.row k hr).tr u)
theorem evR_st (g : Nat) (T : TypeId) (e : List Att) : ∀ v w w', evR g T e v w → Below w.heap.size w w' → evR g T e v w' := by
  rintro v w w' ⟨g', u, e0, hg, hb, h⟩ k
  exact ⟨g', u, e0, hg, hb.below k hb.lt, fun W' u => h W' ((UpB.of_k k _ _).tr u)⟩
theorem evR_row {g : Nat} {T : TypeId} {e : List Att} {row : Option Nat} (hr : ∀ b, row = some b → b < g) : ∀ v w w', evR g T e v w → w.grownBy w' row → evR g T e v w' := by
  rintro v w w' ⟨g', u, e0, hg, hb, h⟩ k
  exact ⟨g', u, e0, hg, hb.grown k (fun e => by have := hr g' e.symm; omega), fun W' u => h W' ((UpB.row k hr).tr u)⟩
/-- A row of the call's own, and an event more behind it. -/
def evQ (g B : Nat) (T : TypeId) (n : Nat) (xs : List Value) (e : List Att) (v : Value) (W : World) : Prop := ∃ u, W.ownsRow B T 1 v (n + 1) (xs ++ [u]) ∧ ∀ W', UpB g none W W' → evt e u W'
theorem evQ_st (g B : Nat) (T : TypeId) (n : Nat) (xs : List Value) (e : List Att) : ∀ v w w', evQ g B T n xs e v w → Below w.heap.size w w' → evQ g B T n xs e v w' := by
  rintro v w w' ⟨u, h1, h⟩ k
  exact ⟨u, row_below h1 k, fun W' u => h W' ((UpB.of_k k _ _).tr u)⟩
theorem infoEnt : (Try.prog.info? 32).map (·.size) = some 1 := by kernel_rfl
theorem infoEn8 : (Try.prog.info? 34).map (·.size) = some 8 := by kernel_rfl
end Go.Proofs.Ytjcdgbnbaiebdaa

/-
  The walk of stage.Publish (layer 17). Conditions: lists of at most a million.
-/
set_option maxRecDepth 100000
namespace Go.Proofs.Ytjcdgbnbaiebdaa
open Go Go.RowKit

set_option maxHeartbeats 4000000 in
theorem Publish_own (l : List Txn) (a : Idn) (ev : List Att) (v u : Value) (w : World) (h : lst txS l v w) (hu : evt ev u w) (hl : ∀ s ∈ l, smallEn s.e) (hlf : ∀ s ∈ l, fitEn s.e) (hev : ev.length ≤ 1000000) (hevf : ∀ x ∈ ev, fitA x) (hlen : l.length ≤ 1000000) :
    Calls Try.prog 22 #[v, idv a, u] w fun e w' => ∃ v', e = .returned (.tuple #[v', .int .i64 (publishT l a ev).2]) ∧ (∀ W, UpB w.heap.size none w' W → lst txS (publishT l a ev).1 v' W) ∧ K w w' := by
  have C1 := Lib.hid fun W (kW : K w W) => Copied_calls l v W (lst_st h kW) hl hlen
  have C2 := Lib.hid fun W (kW : K w W) => Open_calls l a v W (lst_st h kW) hlen
  have C3 := Lib.hid fun W (kW : K w W) => ECheck_evt (evt_st _ _ _ _ hu kW)
  obtain ⟨A, d, rfl, hlr, -⟩ := h
  have HU : Hid (∀ W, K w W → evt ev u W) := Lib.hid fun W k => evt_st _ _ _ _ hu k
  obtain ⟨Ae, ce, rfl⟩ := evt_slice hu
  clear hu
  have hx := Blk.new w 26 #[.int .i64 a.1, .int .u64 (a.2.1 : Int), .int .u64 (a.2.2 : Int)]
  have k1 : K w (w.alloc (.cells #[.int .i64 a.1, .int .u64 (a.2.1 : Int), .int .u64 (a.2.2 : Int)] 26)) := (K.rf w).al _
  have HI : Hid (openI l a = match openT l a with | some k => (k : Int) | none => -1) := Lib.hid rfl
  have HC : Hid (publishT l a ev = match openT l a with | none => (l, 170) | some k => match l[k]? with | none => (l, 170) | some t => if okE ev = false then (l, 40) else if 8 ≤ t.e.es.length then (l, 171) else if bigE (moreE t.e ev) then (l, 172) else (l.set k ⟨moreE t.e ev, t.asked⟩, 0)) := Lib.hid rfl
  have HO := Lib.hid fun k h => @openT_some l a k h
  have HEV := Lib.hid hevf
  clear hevf
  generalize publishT l a ev = R at *
  have q := hx.cells
  go_enter Try.func22, Try.ntmps22
  go_wp2
  go_step3
  go_wp2_with fail
  generalize w.alloc _ = w1 at *
  refine (C1.out w1 k1).mono ?_
  rintro e w2 ⟨u8, rfl, hO, k2⟩
  have k02 := k1.tr k2
  generalize openI l a = I at *
  replace q := hx.below k2 hx.lt
  replace q := Blk.cell q
  go_wp2_with fail
  refine (C2.out w2 k02).mono ?_
  rintro e w3 ⟨rfl, k3⟩
  replace k02 := k02.tr k3
  replace hO := hO.st k3
  have hzw := k1.size
  have HUP := Lib.hid fun (W W' : World) (h : OwnL w1.heap.size w1.heap.size 39 txS l u8 W) (u : UpB w.heap.size none W W') => (h.up (Nat.le_refl _) (u.more hzw (fun k _ h => h))).lst
  clear C1 C2 k3 k2 hx q
  cases ho : openT l a with
  | none =>
    obtain rfl : I = -1 := by rw [HI.out, ho]
    have HQ : Hid (R = (l, 170)) := Lib.hid (by rw [HC.out, ho])
    have HW := Lib.hid fun W u => HUP.out _ W hO u
    clear hO ho HI HC HO
    go_wp2
    go_step3
    go_wp2
    try rw [Exit.noGoto_ret]
    go_ret2
    exact ⟨_, by rw [HQ.out]; rfl, by rw [HQ.out]; exact HW.out, k02⟩
  | some k =>
    obtain rfl : I = (k : Int) := by rw [HI.out, ho]
    obtain ⟨t, h1, -⟩ := HO.out k ho
    have HR : Hid (R = if okE ev = false then (l, 40) else if 8 ≤ t.e.es.length then (l, 171) else if bigE (moreE t.e ev) then (l, 172) else (l.set k ⟨moreE t.e ev, t.asked⟩, 0)) := Lib.hid (by rw [HC.out, ho]; simp only [h1])
    obtain ⟨hk, hkt⟩ := List.getElem?_eq_some_iff.1 h1
    have hki : (k : Int) < (l.length : Int) := by omega
    have hk0 : ¬ (k : Int) < 0 := by omega
    have hk00 : (0 : Int) ≤ (k : Int) := by omega
    clear ho HI HC HO h1
    go_wp2
    go_step3
    go_wp2_with fail
    refine (C3.out w3 k02).mono ?_
    rintro e w4 ⟨rfl, k4⟩
    replace hO := hO.st k4
    replace k02 := k02.tr k4
    cases hok : okE ev
    · have HQ : Hid (R = (l, 40)) := Lib.hid (by rw [HR.out, if_pos hok])
      have HW := Lib.hid fun W u => HUP.out _ W hO u
      have hc40 : chkE ev = 40 := by unfold chkE; rw [hok]; rfl
      rw [hc40]
      clear hO HR
      go_wp2
      try rw [Exit.noGoto_ret]
      go_ret2
      exact ⟨_, by rw [HQ.out]; rfl, by rw [HQ.out]; exact HW.out, k02⟩
    have hc0 : chkE ev = 0 := by unfold chkE; rw [hok]; rfl
    rw [hc0]
    have HR2 : Hid (R = if 8 ≤ t.e.es.length then (l, 171) else if bigE (moreE t.e ev) then (l, 172) else (l.set k ⟨moreE t.e ev, t.asked⟩, 0)) := Lib.hid (by rw [HR.out, if_neg (by rw [hok]; decide)])
    clear HR
    obtain ⟨b1, off, cs, rfl, hcl, hrl, d0, d⟩ := lsr_cells hlr k hk (by decide)
    have hst := hl _ (List.getElem_mem hk)
    have hft := hlf _ (List.getElem_mem hk)
    rw [hkt] at hrl hst hft
    obtain ⟨vf, ve, rfl, hf, he⟩ := hrl w (K.rf w)
    have HE : Hid (∀ W, K w W → ent t.e (.agg (entA t.e vf ve)) W) := Lib.hid fun W k => ⟨_, _, rfl, flt_st _ _ _ _ hf k, lst_st he k⟩
    have d0 : ∀ W, K w W → W.cell? ⟨b1, off + k * 9, none⟩ = some (.int .i64 t.e.kind) := d0
    have d : ∀ W, K w W → ∀ i, i < 9 → W.cell? ⟨b1, off + k * 9 + i, none⟩ = (txA t vf ve)[i]? := fun W kk i hi => (d W kk i hi).trans Array.getElem?_toList
    clear hrl hcl hf he
    have q0 := d0 _ k02
    have q := d _ k02
    have hqs : ∀ i, i < 9 → i < txS.size := fun i h => h
    go_wp2_with fail
    refine (Whole_calls t.e _ w4 (HE.out _ k02) hst).mono ?_
    rintro e w5 ⟨v5, rfl, ho5, k5⟩
    obtain ⟨vf5, ve5, rfl, hoF, hoE⟩ := ho5
    obtain ⟨A5, c5, rfl, -⟩ := hoF.slice
    obtain ⟨D5, d5, rfl, -⟩ := hoE.slice
    have hx5 := Blk.new w5 34 (entA t.e (.slice A5 t.e.f.length c5) (.slice D5 t.e.es.length d5))
    have k6 : K w5 (w5.alloc (.cells (entA t.e (.slice A5 t.e.f.length c5) (.slice D5 t.e.es.length d5)) 34)) := (K.rf w5).al _
    go_upto_region 8 with (fail)
    generalize w5.alloc _ = w6 at *
    have k46 := k5.tr k6
    have k04 := k02
    replace k02 := k02.tr k46
    have q6 := hx5.cell
    clear q q0
    by_cases h8 : 8 ≤ t.e.es.length
    · have h8' : (8 : Int) ≤ (t.e.es.length : Int) := by omega
      have HQ : Hid (R = (l, 171)) := Lib.hid (by rw [HR2.out, if_pos h8])
      have HW := Lib.hid fun W u => HUP.out _ W (hO.st k46) u
      clear hO HR2 hoF hoE
      go_wp2
      try rw [Exit.noGoto_ret]
      go_ret2
      exact ⟨_, by rw [HQ.out]; rfl, by rw [HQ.out]; exact HW.out, k02⟩
    have h8' : ¬ (8 : Int) ≤ (t.e.es.length : Int) := by omega
    have HR3 : Hid (R = if bigE (moreE t.e ev) then (l, 172) else (l.set k ⟨moreE t.e ev, t.asked⟩, 0)) := Lib.hid (by rw [HR2.out, if_neg h8])
    clear HR2
    go_upto_region 10 with (fail)
    obtain ⟨css, hown, hcl5, hE5⟩ := hoE
    have hown6 := row_below hown k6
    have hsz5 := k5.size
    obtain ⟨g5, hg5⟩ : ∃ g5, g5 = w5.heap.size := ⟨_, rfl⟩
    rw [← hg5] at hx5 q6 ⊢
    have hg56 := hx5.lt
    obtain ⟨gb, hgb⟩ : ∃ gb, gb = w6.heap.size := ⟨_, rfl⟩
    have hrow5 : ∀ b, (Value.slice D5 t.e.es.length d5).ownBlock = some b → w4.heap.size ≤ b ∧ b < g5 := fun b hb => by have := hown.lt b hb; omega
    have hrow : ∀ b, (Value.slice D5 t.e.es.length d5).ownBlock = some b → b < gb := fun b hb => by have := hrow5 b hb; omega
    have hnF : ∀ b, (Value.slice A5 t.e.f.length c5).ownBlock = some b → (Value.slice D5 t.e.es.length d5).ownBlock ≠ some b := by
      intro b hb hb2
      obtain ⟨cur, h1⟩ := row_blk hoF hb
      obtain ⟨cur2, h2⟩ := row_blk hown hb2
      exact absurd (h1.unlike h2) (by decide)
    generalize hve : Value.slice D5 t.e.es.length d5 = ve5 at *
    generalize hvf : Value.slice A5 t.e.f.length c5 = vf5 at *
    have HX : Hid (∀ W' , UpB w4.heap.size ve5.ownBlock w5 W' → flt t.e.f vf5 W' ∧ Each evS t.e.es css W') := Lib.hid fun W' u => ⟨flt_own (row_keep hoF fun g h1 h2 h3 => u.block g h1 h2 (fun e => hnF g h3 e.symm)), hE5 W' u⟩
    obtain ⟨C, hC⟩ : ∃ C : World → Prop, C = fun W => K w4 W ∧ gb ≤ W.heap.size ∧ Blk W g5 34 (entA t.e vf5 ve5) ∧ UpB 0 ve5.ownBlock w5 W := ⟨_, rfl⟩
    have hg : ∀ W W', C W → Below W.heap.size W W' → C W' := by
      subst hC
      rintro W W' ⟨h1, h0, h2, h3⟩ hb
      exact ⟨h1.tr hb, Nat.le_trans h0 hb.size, h2.below hb h2.lt, h3.tr (UpB.of_k hb _ _)⟩
    have hc0 : C w6 := by rw [hC]; exact ⟨k46, by omega, hx5, UpB.of_k k6 _ _⟩
    have kw04 : Hid (∀ W, K w4 W → K w W) := Lib.hid fun W k => k04.tr k
    obtain ⟨F, hF⟩ : ∃ F : World → Prop, F = fun W => ∃ D9 c9, K w4 W ∧ Blk W g5 34 (entA (moreE t.e ev) vf5 (.slice D9 (t.e.es.length + 1) c9)) ∧ ∀ W', UpN (fun k => k < w4.heap.size ∨ k = g5) W W' → flt t.e.f vf5 W' ∧ lst evS (t.e.es ++ [ev]) (.slice D9 (t.e.es.length + 1) c9) W' := ⟨_, rfl⟩
    refine wp_region_turn3 5 7 C (fun W => W.ownsRow w4.heap.size 29 1 ve5 t.e.es.length css.flatten) (fun _ => True) (fun W W' => W.grownBy W' ve5.ownBlock) F [isV (.pointer (some ⟨g5, 7, none⟩)),
        isV ve5,
        isV (.slice Ae ev.length ce),
        evF gb ev,
        evR gb 29 ev,
        evQ gb w4.heap.size 29 t.e.es.length css.flatten ev,
        isV (.pointer (some ⟨g5, 7, none⟩)),
        anyV]
      [([], []), ([0], [(34, 0)]), ([], []), ([2], [(36, 2)]), ([3], [(37, 3)]), ([1, 4], [(35, 1), (38, 4)]), ([5], []), ([6, 5], [(40, 6), (39, 5)])] 50 rfl (by kernel_rfl) (by kernel_rfl) (by kernel_rfl) (by decide) (by decide) (by decide) (by kernel_rfl) hg (fun W W' h k => row_below h k) (fun _ _ h _ => h) (by exact hg _ _ hc0 (Below.drew (Below.refl _ _))) (row_below hown6 (Below.drew (Below.refl _ _))) ?st ?st2 ?ow ?_
    case st =>
      simp only [List.forall_mem_cons]
      and_intros
      all_goals first | exact isV_st _ | exact anyV_st | exact evF_st _ _ | exact evR_st _ _ _ | exact evQ_st _ _ _ _ _ _ | simp
    case st2 =>
      simp only [List.zipIdx_cons, List.zipIdx_nil, List.forall_mem_cons, Nat.zero_add, Nat.reduceAdd]
      and_intros
      all_goals first | exact .inl rfl | exact .inr (fun _ _ _ h _ => h) | exact .inr (evF_row hrow) | exact .inr (evR_row hrow) | simp
    case ow =>
      simp only [OwedY, OwedT]
      and_intros
      all_goals try trivial
      all_goals
        simp only [Nat.reduceEqDiff, if_false, Nat.reduceAdd]
      all_goals
        first
        | (intro V w' hc hD hp
           have hD2 : w'.ownsRow w4.heap.size 29 1 ve5 t.e.es.length css.flatten ∨ True := by first | exact .inl hD | exact .inr trivial
           simp only [List.forall_mem_cons, tab_zero, tab_succ, isV] at hp
           rw [hC] at hc
           obtain ⟨kw, hgw, hbx, hu⟩ := hc)
        | (intro V w' hc hp
           rw [hC] at hc
           obtain ⟨kw, hgw, hbx, hu⟩ := hc
           have q := hbx.cell
           try simp only [List.forall_mem_cons, tab_zero, tab_succ, isV] at hp
           try (simp [wantsG, rhoP, List.lookup, hp, tab_zero, tab_succ, ResG, execOp, bareOp, isV, undef, Below.refl, q, go_sem]; done))
        | skip
      · obtain ⟨h2, -⟩ := hp
        rw [if_pos (show wantsG V none = true from rfl)]
        obtain ⟨Ae2, ce2, e2, hr2⟩ := HU.out w' (kw04.out _ kw)
        rw [e2] at h2
        obtain ⟨v', w'', hrun, h1, h5, h3⟩ := exec_app2 (P := Try.prog) (ρ := rhoP [(36, 2)] _ V) (.const (.slice none 0 0)) (.tmp 36) 29 29 79 w'.heap.size _ 4 48 TE (.slice none 0 0) 0 [] rfl (World.ownsRow_nil _ _ _ _) w'.heap.size Ae2 ev.length ce2 (ev.flatMap attc) h2 hr2 (atts_one ev) (by omega) (Nat.le_refl _)
        rw [hrun]
        have ho : OwnE w'' w'.heap.size v' ev := by simpa using h1
        exact ⟨fun W' u => by
          obtain ⟨v2, e3, h9⟩ := OwnE.rel ho W' (u.more hgw (fun _ _ _ => by simp))
          injection e3 with e3
          rw [e3]; exact h9, h5⟩
      · obtain ⟨h3, -⟩ := hp
        obtain ⟨A3, c3, e3⟩ := evt_slice (h3 w' (UpB.rf _ _ _))
        simp [wantsG, rhoP, List.lookup, e3, tab_zero, tab_succ, ResG, execOp, bareOp, undef, go_sem]
        exact ⟨⟨w'.heap.size, _, rfl, hgw, Blk.new _ _ _, fun W' u => by rw [← e3]; exact h3 W' ((UpB.of_k ((K.rf w').al _) _ _).tr u)⟩, (K.rf w').al _⟩
      · obtain ⟨h1, ⟨g', u, h4, hg', hb, hF'⟩, -⟩ := hp
        have hR : Reads w' w'.heap.size 1 (some ⟨g', 0, none⟩) 1 [u] := ⟨rfl, fun _ => ⟨g', 0, rfl, hb.lt, fun j u' hu' => by
          rw [Nat.zero_add, hb.cell j]; simpa using hu'⟩⟩
        have h1u : ∀ x ∈ [u], x.oneCell' = true := by
          obtain ⟨A3, c3, e3⟩ := evt_slice (hF' w' (UpB.rf _ _ _))
          intro x hx
          simp at hx
          subst hx
          rw [e3]
          rfl
        obtain ⟨v', w'', hrun, h7, h5, h3⟩ := exec_app2 (P := Try.prog) (ρ := rhoP [(35, 1), (38, 4)] _ V) (.tmp 35) (.tmp 38) 32 32 29 w4.heap.size _ 1 24 TEv ve5 t.e.es.length css.flatten h1 hD w'.heap.size (some ⟨g', 0, none⟩) 1 1 [u] h4 hR h1u (by omega) (by omega)
        rw [hrun]
        refine ⟨⟨u, h7, fun W' up => hF' W' ((UpB.row h3 hrow).tr up)⟩, ?_, trivial, h3⟩
        rw [hC]
        exact ⟨kw.trans h5, by have := h3.size; omega, hbx.grown h3 (fun e => by have := hrow5 g5 e.symm; omega), hu.tr (UpB.of_mut h3 0)⟩
      · obtain ⟨h6, ⟨u, hown9, hF'⟩, -⟩ := hp
        have hgt : ∀ b, (V 5).ownBlock = some b → b ≠ g5 := by
          intro b hb e
          subst e
          obtain ⟨cur, h1⟩ := row_blk hown9 hb
          exact absurd (h1.unlike hbx) (by decide)
        have hbase : ∀ b, (V 5).ownBlock = some b → w4.heap.size ≤ b := fun b hb => (hown9.lt b hb).1
        have hown9' := hown9
        rcases hown9.2 with ⟨-, h0⟩ | ⟨g9, c9, cur9, e9, -⟩
        · omega
        have z := hbx.frozen
        have q := hbx.cell
        generalize hA : rhoP [(40, 6), (39, 5)] _ V = ρ9
        have es4 : ρ9 (.tmp 40) = .pointer (some ⟨g5, 7, none⟩) := by rw [← hA]; exact h6
        have ex4 : ρ9 (.tmp 39) = .slice (some ⟨g9, 0, none⟩) (t.e.es.length + 1) c9 := by rw [← hA]; exact e9
        have hs7 : (execOp ρ9 (bareOp (.store 32 (.tmp 40) (.tmp 39)) 0)).run Try.prog w' = .ok .skip (w'.setCell ⟨g5, 7, none⟩ (.slice (some ⟨g9, 0, none⟩) (t.e.es.length + 1) c9)) := by
          simp [es4, ex4, execOp, bareOp, q, z, go_sem]
        rw [hs7]
        have hb9 := hbx.set_ 7 (.slice (some ⟨g9, 0, none⟩) (t.e.es.length + 1) c9)
        have us : UpN (fun k => k = g5) w' (w'.setCell ⟨g5, 7, none⟩ (.slice (some ⟨g9, 0, none⟩) (t.e.es.length + 1) c9)) := UpN.sets (X := fun k => k = g5) (g := g5) rfl [_] 7 w'
        generalize w'.setCell _ _ = w'' at *
        show F w''
        rw [hF]
        refine ⟨some ⟨g9, 0, none⟩, c9, ?_, hb9, fun W' up => ?_⟩
        · exact UpB.k (us.upB (lo := 0) (row := some g5) (fun k _ _ h e => h (by rw [e]))) kw (by rintro b e; cases e; omega)
        · have key : ∀ k, w4.heap.size ≤ k → k < w'.heap.size → k ≠ g5 → W'.heap[k]? = w'.heap[k]? := fun k h1 h2 h3 => (up.block k (Nat.lt_of_lt_of_le h2 us.size) (by omega)).trans (us.block k h2 h3)
          have u5 : UpB w4.heap.size ve5.ownBlock w5 W' := ⟨(up.os.trans us.os).trans hu.os, (up.tape.trans us.tape).trans hu.tape, (up.output.trans us.output).trans hu.output, Nat.le_trans hu.size (Nat.le_trans us.size up.size), fun k h1 h2 h3 => (key k h1 (Nat.lt_of_lt_of_le h2 hu.size) (by omega)).trans (hu.block k (Nat.zero_le _) h2 h3)⟩
          have ub : UpB gb none w' W' := ⟨up.os.trans us.os, up.tape.trans us.tape, up.output.trans us.output, Nat.le_trans us.size up.size, fun k h1 h2 _ => key k (by omega) h2 (by omega)⟩
          obtain ⟨hf9, he9⟩ := HX.out W' u5
          refine ⟨hf9, ?_⟩
          have hrow9 := row_keep (w' := W') hown9' (fun g h1 h2 h3 => key g h1 h2 (hgt g h3))
          rw [e9] at hrow9
          have hev9 : evS.rel ev [u] W' := ⟨u, rfl, hF' W' ub⟩
          have := he9.snoc hev9
          have hl : (t.e.es ++ [ev]).length = t.e.es.length + 1 := by simp
          rw [← hl] at hrow9 ⊢
          exact lst_of_own (S := evS) (css := css ++ [[u]]) (by have h0 := hrow9; simp only [List.length_append, List.length_cons, List.length_nil, Nat.zero_add, List.flatten_append, List.flatten_cons, List.flatten_nil, List.append_nil] at h0 ⊢; exact h0) this
    intro V W hFW
    rw [hF] at hFW
    obtain ⟨D9, c9, kW4, hb9, hN⟩ := hFW
    have kW := kw04.out _ kW4
    have q := hb9.cell
    have hmf : fitEn (moreE t.e ev) := ⟨hft.1, hft.2.1, hft.2.2.1, hft.2.2.2.1, hft.2.2.2.2.1, hft.2.2.2.2.2.1, hft.2.2.2.2.2.2.1, fun e he => by
      rcases List.mem_append.1 he with h1 | h1
      · exact hft.2.2.2.2.2.2.2 e h1
      · simp at h1; subst h1; exact HEV.out⟩
    have C4 := Lib.hid (Big_calls (moreE t.e ev) (.agg (entA (moreE t.e ev) vf5 (.slice D9 (t.e.es.length + 1) c9))) W ⟨_, _, rfl, (hN W (UpN.rf _ _)).1, (hN W (UpN.rf _ _)).2⟩ hmf)
    have HN := Lib.hid hN
    have HOW := Lib.hid (hO.st kW4)
    have hgo4' := Lib.hid fun g h => (hO.blk g h).2
    have hw4 := Lib.hid (show w.heap.size ≤ w4.heap.size from k04.size)
    clear hF hC hg hc0 HX hnF hrow hrow5 hown hown6 hE5 hcl5 hO hN hoF hft hst hmf hg5 hgb
    simp only [putAll, Act.put, List.setIfInBounds_toArray, List.set_cons_succ, List.set_cons_zero]
    subst hvf
    go_wp2_with fail
    refine C4.out.mono ?_
    rintro e w8 ⟨rfl, k8⟩
    have HO8 := Lib.hid (HOW.out.st k8)
    have kw8 := kW.tr k8
    have hb8 := hb9.below k8 hb9.lt
    clear q hb9
    cases hbig : bigE (moreE t.e ev)
    rotate_left
    · have HQ : Hid (R = (l, 172)) := Lib.hid (by rw [HR3.out, hbig]; rfl)
      have HW := Lib.hid fun W u => HUP.out _ W HO8.out u
      clear hbig HR3 HO8 HOW
      go_wp2
      try rw [Exit.noGoto_ret]
      go_ret2
      exact ⟨_, by rw [HQ.out]; rfl, by rw [HQ.out]; exact HW.out, kw8⟩
    have HQ : Hid (R = (l.set k ⟨moreE t.e ev, t.asked⟩, 0)) := Lib.hid (by rw [HR3.out, hbig]; rfl)
    have hO := HO8.out
    have hkb := hO.blk
    obtain ⟨cssO, hownO, hclO, hEO⟩ := hO
    have heO := hEO w8 (UpB.rf _ _ _)
    have hlens := heO.lens
    have hkc : k < cssO.length := by omega
    have hfl := heO.flen
    obtain ⟨vfo, veo, hcs, -, -⟩ := heO.2 k hk hkc
    rw [hkt] at hcs
    rcases hownO.2 with ⟨h0, h00⟩ | ⟨go, cap, cur, rfl, -⟩
    · omega
    have hgo := (hkb go rfl).1
    have hgo4 : go < w4.heap.size := hgo4'.out go rfl
    have hqO : k * 9 + 9 ≤ cssO.flatten.length := by rw [hfl]; show k * 9 + 9 ≤ l.length * 9; omega
    obtain ⟨hcell, hfz⟩ := own_cells hownO
    have dO : ∀ i, i < 9 → w8.cell? ⟨go, k * 9 + i, none⟩ = (txA t vfo veo)[i]? := fun i hi => by
      rw [hcell _ (by omega), show k * 9 + i = k * txS.size + i from rfl, flatten_at txS.size cssO hlens k i hkc hi, List.getElem?_eq_getElem hkc, Option.getD_some, hcs]
      exact Array.getElem?_toList
    have dO0 : w8.cell? ⟨go, k * 9, none⟩ = some (.int .i64 t.e.kind) := dO 0 (by omega)
    have zO := fun i => hfz (k * 9 + i)
    have zO0 := hfz (k * 9)
    have q := hb8.cell
    obtain ⟨vals, hvals⟩ : ∃ vals : List Value, vals = (entA (moreE t.e ev) (.slice A5 t.e.f.length c5) (.slice D9 (t.e.es.length + 1) c9)).toList := ⟨_, rfl⟩
    have hvl : vals.length = 8 := by rw [hvals]; rfl
    have hown9 := own_sets vals _ (k * 9) w8 hownO (by rw [hvl]; omega)
    have e9 := flatten_sets txS.size vals cssO hlens k 0 hkc (by rw [hvl]; decide)
    rw [show k * txS.size + 0 = k * 9 from rfl] at e9
    rw [e9, hcs] at hown9
    have e10 : setsL (txA t vfo veo).toList 0 vals = (txA ⟨moreE t.e ev, t.asked⟩ (.slice A5 t.e.f.length c5) (.slice D9 (t.e.es.length + 1) c9)).toList := by rw [hvals]; rfl
    rw [e10] at hown9
    have uG : UpN (fun k => k = go) w8 (setsW w8 go (k * 9) vals) := UpN.sets (X := fun k => k = go) (g := go) rfl vals (k * 9) w8
    have uX : UpN (fun k => k < w4.heap.size ∨ k = g5) w8 (setsW w8 go (k * 9) vals) := UpN.sets (X := fun k => k < w4.heap.size ∨ k = g5) (g := go) (.inl hgo4) vals (k * 9) w8
    have HK : Hid (K w (setsW w8 go (k * 9) vals)) := Lib.hid (UpB.k (uG.upB (lo := 0) (row := some go) (fun k _ _ h e => h (by rw [e]))) kw8 (by rintro b e; cases e; omega))
    have hz4 := hw4.out
    have HW : Hid (∀ W', UpB w.heap.size none (setsW w8 go (k * 9) vals) W' → lst txS (l.set k ⟨moreE t.e ev, t.asked⟩) (.slice (some ⟨go, 0, none⟩) l.length cap) W') := Lib.hid fun W' u => by
      have h9 := HN.out _ (((UpN.of_k k8 _).tr uX).tr (UpB.upN u (fun k hk => by rcases hk with hk | hk; exact .inl (by omega); cases hk)))
      have hE9 := (hEO _ ((uG.upB (fun k _ _ h e => h (by rw [e]; rfl))).tr (u.more hzw (fun k _ _ => by simp)))).set k (x := ⟨moreE t.e ev, t.asked⟩) (cs := (txA ⟨moreE t.e ev, t.asked⟩ (.slice A5 t.e.f.length c5) (.slice D9 (t.e.es.length + 1) c9)).toList) ⟨_, _, rfl, h9.1, h9.2⟩
      exact lst_of_own (S := txS) (row_keep (by rw [List.length_set]; exact hown9) fun g h1 h2 _ => u.block g (by omega) h2 (by simp)) hE9
    rw [hvals] at HW HK
    clear hcell hfz hownO hown9 hEO hlens hfl hkb HN uG uX e9 e10 hvl hvals heO hcs hclO hqO HO8 HOW HR3 hbig hkt HU
    go_wp2
    try rw [Exit.noGoto_ret]
    go_ret2
    exact ⟨_, by rw [HQ.out]; rfl, by rw [HQ.out]; exact HW.out, HK.out⟩
theorem Publish_calls (l : List Txn) (a : Idn) (ev : List Att) (v u : Value) (w : World) (h : lst txS l v w) (hu : evt ev u w) (hl : ∀ s ∈ l, smallEn s.e) (hlf : ∀ s ∈ l, fitEn s.e) (hev : ev.length ≤ 1000000) (hevf : ∀ x ∈ ev, fitA x) (hlen : l.length ≤ 1000000) :
    Calls Try.prog 22 #[v, idv a, u] w fun e w' => ∃ v', e = .returned (.tuple #[v', .int .i64 (publishT l a ev).2]) ∧ lst txS (publishT l a ev).1 v' w' ∧ K w w' :=
  (Publish_own l a ev v u w h hu hl hlf hev hevf hlen).mono (by rintro e w' ⟨v', h1, h2, h3⟩; exact ⟨v', h1, h2 _ (UpB.rf _ _ _), h3⟩)
end Go.Proofs.Ytjcdgbnbaiebdaa

/-
  The walks of small and next of the statements of layer 17. Conditions: lists that calls made.
-/
set_option maxRecDepth 100000
namespace Go.Proofs.Ytjcdgbnbaiebdaa
open Go Go.RowKit

theorem okE_len {l : List Att} (h : okE l = true) : l.length ≤ 1000000 := by
  simp only [okE, Bool.and_eq_true, decide_eq_true_eq] at h
  omega
theorem okEn_small {x : Ent} (h : okEn x = true) : smallEn x := by
  obtain ⟨kd, b, l, s, cl, u, f, es⟩ := x
  simp only [okEn, Bool.and_eq_true] at h
  obtain ⟨-, h⟩ := h
  unfold smallEn
  simp only
  split at h
  · simp only [Bool.and_eq_true, decide_eq_true_eq, List.isEmpty_iff, List.all_eq_true] at h
    obtain ⟨⟨⟨-, rfl⟩, h1⟩, h2⟩ := h
    exact ⟨by simp, by omega, fun e he => okE_len (h2 e he)⟩
  · split at h
    · simp only [Bool.and_eq_true, List.isEmpty_iff] at h
      obtain ⟨rfl, rfl⟩ := h
      exact ⟨by simp, by simp, by simp⟩
    · split at h
      · simp only [Bool.and_eq_true, List.isEmpty_iff, okF, decide_eq_true_eq] at h
        obtain ⟨rfl, h1, -⟩ := h
        exact ⟨by omega, by simp, by simp⟩
      · cases h
theorem OkT.small {l : List Txn} (h : OkT l) : ∀ s ∈ l, smallEn s.e := fun s hs => okEn_small (h.each s hs).1
theorem OkT.fit {l : List Txn} (h : OkT l) : ∀ s ∈ l, fitEn s.e := fun s hs => (h.each s hs).2.1
theorem OkT.mil {l : List Txn} (h : OkT l) : l.length ≤ 1000000 := by have := h.len; omega
def smallC (c : CallT) : Bool := fewE c.e && fewEn c.x

set_option maxHeartbeats 1000000 in
theorem SmallC_calls (c : CallT) (u : Value) (w : World) (h : callv c u w) :
    Calls Try.prog 15 #[u] w fun e w' => e = .returned (.bool (smallC c)) ∧ K w w' := by
  obtain ⟨v, vf, ve, rfl, h1, h2, h3⟩ := h
  obtain ⟨A, a, rfl⟩ := evt_slice h1
  obtain ⟨B, b, rfl⟩ := flt_slice h2
  obtain ⟨D, d, rfl⟩ := lst_slice h3
  have hx := Blk.new w 36 (callA c (.slice A c.e.length a) (.slice B c.x.f.length b) (.slice D c.x.es.length d))
  have k1 : K w (w.alloc (.cells (callA c (.slice A c.e.length a) (.slice B c.x.f.length b) (.slice D c.x.es.length d)) 36)) := (K.rf w).al _
  have C1 := Lib.hid fun W (kW : K w W) => Few_evt (evt_st _ _ _ _ h1 kW)
  have C2 := Lib.hid fun W (kW : K w W) => EFew_calls c.x _ W ⟨_, _, rfl, flt_st _ _ _ _ h2 kW, lst_st h3 kW⟩
  clear h1 h2 h3
  have HR : Hid (smallC c = (fewE c.e && fewEn c.x)) := Lib.hid rfl
  generalize smallC c = R at *
  go_enter Try.func15, Try.ntmps15
  go_upto_region 1 with (fail)
  generalize w.alloc _ = w1 at *
  have qx := hx.cells
  have kk := K.rf w1
  generalize w.heap.size = g at *
  go_wp2_with fail
  refine (C1.out w1 k1).mono ?_
  rintro e w2 ⟨rfl, rfl⟩
  go_wp2_with fail
  refine (C2.out w1 k1).mono ?_
  rintro e w3 ⟨rfl, k3⟩
  have kW := k1.tr k3
  generalize fewE c.e = x at *
  generalize fewEn c.x = y at *
  cases x
  · go_wp2
    go_ret
    exact ⟨by rw [HR.out]; rfl, kW⟩
  · go_wp2
    go_ret
    exact ⟨by rw [HR.out]; simp, kW⟩

set_option maxHeartbeats 4000000 in
theorem Next_calls (l : List Txn) (c : CallT) (v u : Value) (w : World) (h : lst txS l v w) (hc : callv c u w) (hl : OkT l) (fc : fitC c) (hsm : smallC c = true) :
    Calls Try.prog 17 #[v, u] w fun e w' => ∃ v', e = .returned (.tuple #[v', .int .i64 (nextT l c).2]) ∧ lst txS (nextT l c).1 v' w' ∧ K w w' := by
  obtain ⟨va, vf, ve, rfl, h1, h2, h3⟩ := hc
  simp only [smallC, Bool.and_eq_true] at hsm
  obtain ⟨hs1, hs2⟩ := hsm
  have hs1 := (few_fit hs1).1
  have hs2 := fewEn_small hs2
  obtain ⟨A, a, rfl⟩ := evt_slice h1
  obtain ⟨B, b, rfl⟩ := flt_slice h2
  obtain ⟨D, d, rfl⟩ := lst_slice h3
  have hx := Blk.new w 36 (callA c (.slice A c.e.length a) (.slice B c.x.f.length b) (.slice D c.x.es.length d))
  have k1 : K w (w.alloc (.cells (callA c (.slice A c.e.length a) (.slice B c.x.f.length b) (.slice D c.x.es.length d)) 36)) := (K.rf w).al _
  obtain ⟨f1, f2, f3, f4, f5⟩ := fc
  have C1 := Lib.hid fun W (kW : K w W) => Begin_calls l c.id c.cl v W (lst_st h kW) f2 f3 hl.small hl.mil
  have C2 := Lib.hid fun W (kW : K w W) => Publish_calls l c.id c.e v _ W (lst_st h kW) (evt_st _ _ _ _ h1 kW) hl.small hl.fit hs1 f4 hl.mil
  have C3 := Lib.hid fun W (kW : K w W) => Commit_calls l c.id v W (lst_st h kW) hl.small hl.mil
  have C4 := Lib.hid fun W (kW : K w W) => Abort_calls l c.id v W (lst_st h kW) hl.small hl.mil
  have C5 := Lib.hid fun W (kW : K w W) => Ask_calls l c.x v _ W (lst_st h kW) ⟨_, _, rfl, flt_st _ _ _ _ h2 kW, lst_st h3 kW⟩ f5 hs2 hl.small hl.mil
  have C6 := Lib.hid fun W (kW : K w W) => Settle_calls l c.id v W (lst_st h kW) hl.small hl.mil
  have HV := Lib.hid fun W (kW : K w W) => lst_st h kW
  have HN : Hid (nextT l c = if c.kind = 1 then beginT l c.id c.cl else if c.kind = 2 then publishT l c.id c.e else if c.kind = 3 then commitT l c.id else if c.kind = 4 then abortT l c.id
    else if c.kind = 5 then askT l c.x else if c.kind = 6 then (settleT l c.id, 0) else (l, 0)) := Lib.hid rfl
  obtain ⟨Al, cl, rfl⟩ := lst_slice h
  clear h h1 h2 h3 f1 f2 f3 f4 f5 hs1 hs2 hl
  generalize nextT l c = R at *
  generalize beginT l c.id c.cl = R1 at *
  generalize publishT l c.id c.e = R2 at *
  generalize commitT l c.id = R3 at *
  generalize abortT l c.id = R4 at *
  generalize askT l c.x = R5 at *
  generalize settleT l c.id = R6 at *
  go_enter Try.func17, Try.ntmps17
  go_upto_region 1 with (fail)
  generalize w.alloc _ = w1 at *
  have qx := hx.cells
  have kk := K.rf w1
  generalize w.heap.size = g at *
  clear hx
  by_cases e1 : c.kind = 1
  · have HQ : Hid (R = R1) := Lib.hid (by rw [HN.out, if_pos e1])
    clear HN C2 C3 C4 C5 C6
    go_wp2_with fail
    refine (C1.out w1 k1).mono ?_
    rintro e w3 ⟨v3, rfl, hO, k3⟩
    have HW := Lib.hid hO.lst
    clear hO
    go_wp2
    go_ret2
    exact ⟨_, by rw [HQ.out]; rfl, by rw [HQ.out]; exact HW.out, k1.tr k3⟩
  by_cases e2 : c.kind = 2
  · have HQ : Hid (R = R2) := Lib.hid (by rw [HN.out, if_neg e1, if_pos e2])
    clear HN C1 C3 C4 C5 C6 e1
    go_wp2_with fail
    refine (C2.out w1 k1).mono ?_
    rintro e w3 ⟨v3, rfl, hO, k3⟩
    have HW := Lib.hid hO
    clear hO
    go_wp2
    go_ret2
    exact ⟨_, by rw [HQ.out]; rfl, by rw [HQ.out]; exact HW.out, k1.tr k3⟩
  by_cases e3 : c.kind = 3
  · have HQ : Hid (R = R3) := Lib.hid (by rw [HN.out, if_neg e1, if_neg e2, if_pos e3])
    clear HN C1 C2 C4 C5 C6 e1 e2
    go_wp2_with fail
    refine (C3.out w1 k1).mono ?_
    rintro e w3 ⟨v3, rfl, hO, k3⟩
    have HW := Lib.hid hO
    clear hO
    go_wp2
    go_ret2
    exact ⟨_, by rw [HQ.out]; rfl, by rw [HQ.out]; exact HW.out, k1.tr k3⟩
  by_cases e4 : c.kind = 4
  · have HQ : Hid (R = R4) := Lib.hid (by rw [HN.out, if_neg e1, if_neg e2, if_neg e3, if_pos e4])
    clear HN C1 C2 C3 C5 C6 e1 e2 e3
    go_wp2_with fail
    refine (C4.out w1 k1).mono ?_
    rintro e w3 ⟨v3, rfl, hO, k3⟩
    have HW := Lib.hid hO
    clear hO
    go_wp2
    go_ret2
    exact ⟨_, by rw [HQ.out]; rfl, by rw [HQ.out]; exact HW.out, k1.tr k3⟩
  by_cases e5 : c.kind = 5
  · have HQ : Hid (R = R5) := Lib.hid (by rw [HN.out, if_neg e1, if_neg e2, if_neg e3, if_neg e4, if_pos e5])
    clear HN C1 C2 C3 C4 C6 e1 e2 e3 e4
    go_wp2_with fail
    refine (C5.out w1 k1).mono ?_
    rintro e w3 ⟨v3, rfl, hO, k3⟩
    have HW := Lib.hid hO.lst
    clear hO
    go_wp2
    go_ret2
    exact ⟨_, by rw [HQ.out]; rfl, by rw [HQ.out]; exact HW.out, k1.tr k3⟩
  by_cases e6 : c.kind = 6
  · have HQ : Hid (R = (R6, 0)) := Lib.hid (by rw [HN.out, if_neg e1, if_neg e2, if_neg e3, if_neg e4, if_neg e5, if_pos e6])
    clear HN C1 C2 C3 C4 C5 e1 e2 e3 e4 e5
    go_wp2_with fail
    refine (C6.out w1 k1).mono ?_
    rintro e w3 ⟨v3, rfl, hO, k3⟩
    have HW := Lib.hid hO
    clear hO
    go_wp2
    go_ret2
    exact ⟨_, by rw [HQ.out]; rfl, by rw [HQ.out]; exact HW.out, k1.tr k3⟩
  · have HQ : Hid (R = (l, 0)) := Lib.hid (by rw [HN.out, if_neg e1, if_neg e2, if_neg e3, if_neg e4, if_neg e5, if_neg e6])
    have HW := Lib.hid (HV.out _ k1)
    clear HN C1 C2 C3 C4 C5 C6
    go_wp2
    go_ret2
    exact ⟨_, by rw [HQ.out]; rfl, by rw [HQ.out]; exact HW.out, k1⟩
end Go.Proofs.Ytjcdgbnbaiebdaa

/-
  The walk of Same of the document's answer of layer 17: whether two lists of transactions are the same. Conditions: the first list's are small.
-/
set_option maxRecDepth 100000
namespace Go.Proofs.Ytjcdgbnbaiebdaa
open Go Go.RowKit

set_option maxHeartbeats 4000000 in
theorem TSame_calls (la lb : List Txn) (v u : Value) (w : World) (h : lst txS la v w) (k : lst txS lb u w) (hs : ∀ s ∈ la, smallEn s.e) (hlen : la.length ≤ 1000000) :
    Calls Try.prog 24 #[v, u] w fun e w' => e = .returned (.bool (decide (la = lb))) ∧ K w w' := by
  obtain ⟨D1, d1, rfl, he1, hd1⟩ := h
  obtain ⟨D2, d2, rfl, he2, hd2⟩ := k
  have HS := Lib.hid hs
  clear hs
  obtain ⟨R, hR0⟩ : ∃ R, R = decide (la = lb) := ⟨_, rfl⟩
  rw [← hR0]
  have HI : Hid (R = decide (la = lb)) := Lib.hid hR0
  clear hR0
  go_enter Try.func24, Try.ntmps24
  by_cases hle : la.length = lb.length
  rotate_left
  · have HR : Hid (R = false) := Lib.hid (by rw [HI.out]; simp; exact fun e => hle (by rw [e]))
    have hle' : ((la.length : Int) != (lb.length : Int)) = true := by simp; omega
    go_wp2
    go_ret
    exact ⟨by rw [HR.out]; rfl, K.rf w⟩
  have hle' : ((la.length : Int) != (lb.length : Int)) = false := by simp; omega
  have HLE := Lib.hid hle
  have kk := K.rf w
  clear hle
  go_wp2_with fail
  go_loopw [5, 6] (fun i _ wr => ∃ j : Nat, j ≤ la.length ∧ i = .int .i64 (j : Int) ∧ Hid (la.take j = lb.take j) ∧ K w wr) (fun i _ _ => la.length - (intOf i).toNat)
  case atStart => exact ⟨0, by omega, rfl, Lib.hid (by simp), kk⟩
  case round =>
    clear kk
    obtain ⟨j, hj, rfl, HT, kr⟩ := hrel
    by_cases hlt : j < la.length
    · have hji : (j : Int) < (la.length : Int) := by omega
      have hlt2 : j < lb.length := by have := HLE.out; omega
      have hlt2i : (j : Int) < (lb.length : Int) := by omega
      have HB := Lib.hid (take_eq_succ' la lb j hlt hlt2 HT.out)
      have hsz := HS.out _ (List.getElem_mem hlt)
      obtain ⟨b1, o1, cs1, rfl, hcl1, hr1, d0, d⟩ := lsr_cells he1 j hlt (by decide)
      obtain ⟨b2, o2, cs2, rfl, hcl2, hr2, f0, f⟩ := lsr_cells he2 j hlt2 (by decide)
      generalize la[j] = x at *
      generalize lb[j] = y at *
      obtain ⟨vf1, ve1, rfl, hf1, hv1⟩ := hr1 w (K.rf w)
      obtain ⟨vf2, ve2, rfl, hf2, hv2⟩ := hr2 w (K.rf w)
      have p10 : ∀ W, K wr W → W.cell? ⟨b1, o1 + j * 9, none⟩ = some (.int .i64 x.e.kind) := fun W kW => d0 W (kr.tr kW)
      have p1 : ∀ W, K wr W → ∀ i, i < 9 → W.cell? ⟨b1, o1 + j * 9 + i, none⟩ = (txA x vf1 ve1)[i]? := fun W kW i hi => (d W (kr.tr kW) i hi).trans Array.getElem?_toList
      have p20 : ∀ W, K wr W → W.cell? ⟨b2, o2 + j * 9, none⟩ = some (.int .i64 y.e.kind) := fun W kW => f0 W (kr.tr kW)
      have p2 : ∀ W, K wr W → ∀ i, i < 9 → W.cell? ⟨b2, o2 + j * 9 + i, none⟩ = (txA y vf2 ve2)[i]? := fun W kW i hi => (f W (kr.tr kW) i hi).trans Array.getElem?_toList
      have CS := Lib.hid fun W (kW : K w W) => ESame_calls x.e y.e (.agg (entA x.e vf1 ve1)) (.agg (entA y.e vf2 ve2)) W ⟨_, _, rfl, flt_st _ _ _ _ hf1 kW, lst_st hv1 kW⟩ ⟨_, _, rfl, flt_st _ _ _ _ hf2 kW, lst_st hv2 kW⟩ hsz
      clear hcl1 hcl2 hr1 hr2 d0 d f0 f hf1 hv1 hf2 hv2
      go_upto_region 6 with (fail)
      refine wp_region_K [isV (.slice (some ⟨b1, o1, none⟩) la.length d1),
          isV (.int .i64 ((j : Int))),
          isV (.pointer (some ⟨b1, o1 + j * 9, none⟩)),
          isV (.pointer (some ⟨b1, o1 + j * 9, none⟩)),
          isV (.agg (entA x.e vf1 ve1)),
          isV (.slice (some ⟨b2, o2, none⟩) lb.length d2),
          isV (.int .i64 ((j : Int))),
          isV (.pointer (some ⟨b2, o2 + j * 9, none⟩)),
          isV (.pointer (some ⟨b2, o2 + j * 9, none⟩)),
          isV (.agg (entA y.e vf2 ve2)),
          isV (.bool (decide (x.e = y.e))),
          isV (.bool (decide (x.e = y.e)))]
        [([], []), ([], []), ([0, 1], [(18, 0), (19, 1)]), ([2], [(20, 2)]), ([3], [(21, 3)]), ([], []), ([], []), ([5, 6], [(23, 5), (24, 6)]), ([7], [(25, 7)]), ([8], [(26, 8)]), ([4, 9], [(22, 4), (27, 9)]), ([10], [(28, 10)])] 44 rfl (by kernel_rfl) (by kernel_rfl) (by kernel_rfl) ?st6 ?ow6 ?_
      case st6 =>
        simp only [List.forall_mem_cons]
        and_intros
        all_goals first | exact isV_st _ | exact sl_st _ | exact anyV_st | simp
      case ow6 =>
        simp only [OwedQ]
        and_intros
        all_goals try trivial
        all_goals
          intro V W kW hp
          try simp only [List.forall_mem_cons, tab_zero, tab_succ, isV] at hp
          try simp [wantsG, rhoP, List.lookup, hp, tab_zero, tab_succ, ResG, execOp, bareOp, isV, Below.refl, kW, p10, p1, p20, p2, hji, hlt2i, go_sem]
        refine (CS.out _ (kr.tr kW)).mono ?_
        rintro e w'' ⟨rfl, hb⟩
        exact ⟨_, rfl, rfl, hb⟩
      intro V W kW hp
      have h11 := hp 11 (by simp)
      simp only [tab_zero, tab_succ, isV] at h11
      clear hp CS
      simp only [putAll, Act.put, List.setIfInBounds_toArray, List.set_cons_succ, List.set_cons_zero, h11]
      have krW := kr.tr kW
      have hxy : (x = y) ↔ (x.e = y.e ∧ x.asked = y.asked) := by
        obtain ⟨xe, xa⟩ := x
        obtain ⟨ye, ya⟩ := y
        simp
      have HXY := Lib.hid hxy
      clear hxy
      generalize hq : decide (x.e = y.e) = q at *
      have HQ := Lib.hid hq
      clear hq h11
      have bad : Hid (x ≠ y → R = false) := Lib.hid (by
        intro hn
        rw [HI.out]
        simp only [decide_eq_false_iff_not]
        rintro rfl
        have h1 := HB.out.1 rfl
        exact hn h1)
      have s10 := p10 W kW
      have s1 := p1 W kW
      have s20 := p20 W kW
      have s2 := p2 W kW
      clear p10 p1 p20 p2
      cases q
      · have HR : Hid (R = false) := Lib.hid (bad.out (fun e => by have := (HXY.out.1 e).1; exact (of_decide_eq_false HQ.out) this))
        go_wp2_with (go_quiet (fail))
        go_ret
        exact ⟨by rw [HR.out]; rfl, below_drewN krW _⟩
      · cases hab : (x.asked != y.asked)
        · have hxa : x.asked = y.asked := by simpa using hab
          have HT2 : Hid (la.take (j + 1) = lb.take (j + 1)) := Lib.hid (HB.out.2 (HXY.out.2 ⟨of_decide_eq_true HQ.out, hxa⟩))
          go_wp2_with (go_quiet (fail))
          go_roundw
          case rel => exact ⟨j + 1, by omega, by go_num, HT2, below_drewN krW _⟩
          case measure => simp [intOf]; omega
        · have HR : Hid (R = false) := Lib.hid (bad.out (fun e => by have := (HXY.out.1 e).2; simp [this] at hab))
          have hxa : (x.asked == y.asked) = false := by simpa using hab
          go_wp2_with (go_quiet (fail))
          go_ret
          exact ⟨by rw [HR.out]; rfl, below_drewN krW _⟩
    · have hji : ¬ (j : Int) < (la.length : Int) := by omega
      have HR : Hid (R = true) := Lib.hid (by
        have h1 := HT.out
        have h2 := HLE.out
        rw [List.take_of_length_le (by omega), List.take_of_length_le (by omega)] at h1
        rw [HI.out, h1]; simp)
      go_wp2
      go_ret
      exact ⟨by rw [HR.out]; rfl, kr⟩
end Go.Proofs.Ytjcdgbnbaiebdaa
