/-
  The walks of stage.Begin, Ask and Commit (layer 17). Conditions: lists of at most a million.
-/
import Derived.Test.YtjcdgbnbaiebdaaTC
import Derived.Deep.RegionLaw
import Derived.Lib.SlicesDelete
set_option maxRecDepth 100000
namespace Go.Proofs.Ytjcdgbnbaiebdaa
open Go Go.RowKit

theorem nil_txv (t : Txn) (hf : t.e.f = []) (he : t.e.es = []) (w : World) : txv t (.agg (txA t (.slice none 0 0) (.slice none 0 0))) w :=
  ⟨_, _, rfl, by rw [hf]; exact ⟨none, 0, rfl, Reads.nil _ _ _ _⟩, by rw [he]; exact lst_nil _ _⟩
theorem pubE_fit {a : Idn} {c : Int} (fa : fitI a) (hc : i64ok c) : fitEn (pubE a c) := ⟨by simp [pubE, i64ok], fa.1, hc, fa.2.1, fa.2.2, by simp [pubE], by simp [pubE], by simp [pubE]⟩
set_option maxHeartbeats 400000 in
theorem Begin_calls (l : List Txn) (a : Idn) (c : Int) (v : Value) (w : World) (h : lst txS l v w) (fa : fitI a) (hc : i64ok c) (hl : ∀ s ∈ l, smallEn s.e) (hlen : l.length ≤ 1000000) :
    Calls Try.prog 20 #[v, idv a, .int .i64 c] w fun e w' => ∃ v', e = .returned (.tuple #[v', .int .i64 (beginT l a c).2]) ∧ OwnL w.heap.size w.heap.size 39 txS (beginT l a c).1 v' w' ∧ K w w' := by
  have HV := Lib.hid (lst_al h)
  have C1 := Lib.hid fun W (kW : K w W) => Add_calls l ⟨pubE a c, false⟩ v _ W (lst_st h kW) (nil_txv ⟨pubE a c, false⟩ rfl rfl W) (pubE_fit fa hc) (by simp [smallEn, pubE]) hl hlen
  obtain ⟨A, d, rfl⟩ := lst_slice h
  clear h
  have k1 : K w (w.alloc (.cells #[.int .i64 a.1, .int .u64 (a.2.1 : Int), .int .u64 (a.2.2 : Int)] 26)) := (K.rf w).al _
  unfold beginT
  generalize addT l ⟨pubE a c, false⟩ = R at *
  go_enter Try.func20, Try.ntmps20
  go_wp2_with fail
  generalize w.alloc _ = w1 at *
  refine (C1.out w1 k1).mono ?_
  rintro e w2 ⟨v2, rfl, hO, k2⟩
  have HW := Lib.hid (OwnL.low (OwnL.floor hO k1.size) k1.size)
  clear hO
  go_wp2
  go_ret2
  exact ⟨_, rfl, HW.out, k1.tr k2⟩
set_option maxHeartbeats 400000 in
theorem Ask_calls (l : List Txn) (x : Ent) (v u : Value) (w : World) (h : lst txS l v w) (hx : ent x u w) (hf : fitEn x) (hs : smallEn x) (hl : ∀ s ∈ l, smallEn s.e) (hlen : l.length ≤ 1000000) :
    Calls Try.prog 37 #[v, u] w fun e w' => ∃ v', e = .returned (.tuple #[v', .int .i64 (askT l x).2]) ∧ OwnL w.heap.size w.heap.size 39 txS (askT l x).1 v' w' ∧ K w w' := by
  obtain ⟨vf, ve, rfl, hfl, he⟩ := hx
  have C1 := Lib.hid fun W (kW : K w W) => Add_calls l ⟨x, true⟩ v (.agg (txA ⟨x, true⟩ vf ve)) W (lst_st h kW) ⟨vf, ve, rfl, flt_st _ _ _ _ hfl kW, lst_st he kW⟩ hf hs hl hlen
  obtain ⟨A, d, rfl⟩ := lst_slice h
  clear h hfl he
  have k1 : K w (w.alloc (.cells (entA x vf ve) 34)) := (K.rf w).al _
  unfold askT
  generalize addT l ⟨x, true⟩ = R at *
  go_enter Try.func37, Try.ntmps37
  go_wp2_with fail
  generalize w.alloc _ = w1 at *
  refine (C1.out w1 k1).mono ?_
  rintro e w2 ⟨v2, rfl, hO, k2⟩
  have HW := Lib.hid (OwnL.low (OwnL.floor hO k1.size) k1.size)
  clear hO
  go_wp2
  go_ret2
  exact ⟨_, rfl, HW.out, k1.tr k2⟩

/-- A cell of an own row that is written. -/
theorem own_set {w : World} {base g n cap q : Nat} {e : TypeId} {size : Nat} {xs : List Value} (h : w.ownsRow base e size (.slice (some ⟨g, 0, none⟩) n cap) n xs) (_ : q < xs.length) (u : Value) :
    (w.setCell ⟨g, q, none⟩ u).ownsRow base e size (.slice (some ⟨g, 0, none⟩) n cap) n (xs.set q u) := by
  refine ⟨by simpa using h.1, .inr ?_⟩
  rcases h.2 with ⟨h0, _⟩ | ⟨g', cap', cur, e0, g1, g2, g3, g4, g5, g6⟩
  · cases h0
  · injection e0 with e1 _ e3
    injection e1 with e1
    injection e1 with e1
    subst e1 e3
    refine ⟨g, cap, cur.setIfInBounds q u, rfl, g1, (show Blk w g e cur from g2).set_ q u, g3, g4, by simpa using g5, ?_⟩
    rw [Array.toList_setIfInBounds, ← g6, List.take_set]
theorem own_cells {w : World} {base g n cap : Nat} {e : TypeId} {size : Nat} {xs : List Value} (h : w.ownsRow base e size (.slice (some ⟨g, 0, none⟩) n cap) n xs) : (∀ q, q < xs.length → w.cell? ⟨g, q, none⟩ = xs[q]?) ∧ ∀ q, w.frozen? ⟨g, q, none⟩ = false := by
  rcases h.2 with ⟨h0, _⟩ | ⟨g', cap', cur, e0, g1, g2, g3, g4, g5, g6⟩
  · cases h0
  · injection e0 with e1 _ e3
    injection e1 with e1
    injection e1 with e1
    subst e1 e3
    refine ⟨fun q hq => ?_, fun q => (show Blk w g e cur from g2).frozen q⟩
    rw [(show Blk w g e cur from g2).cell q, ← g6]
    rw [← g6] at hq
    have : q < n * size := by simp at hq; omega
    rw [List.getElem?_take_of_lt this, Array.getElem?_toList]
theorem flatten_set {α : Type} (n : Nat) (u : α) : ∀ (css : List (List α)), (∀ cs ∈ css, cs.length = n) → ∀ (k j : Nat) (hk : k < css.length), j < n → css.flatten.set (k * n + j) u = (css.set k ((css[k]).set j u)).flatten
  | [], _, k, j, hk, _ => by simp at hk
  | c :: css, h, 0, j, hk, hj => by
    have hc := h c (by simp)
    simp only [Nat.zero_mul, Nat.zero_add, List.flatten_cons, List.set_cons_zero, List.getElem_cons_zero]
    rw [List.set_append, if_pos (by omega)]
  | c :: css, h, k + 1, j, hk, hj => by
    have hc := h c (by simp)
    have ih := flatten_set n u css (fun x hx => h x (by simp [hx])) k j (by simpa using hk) hj
    simp only [List.flatten_cons, List.set_cons_succ, List.getElem_cons_succ]
    rw [List.set_append, if_neg (by rw [hc, Nat.succ_mul]; omega), ← ih]
    congr 2
    rw [hc, Nat.succ_mul]; omega
theorem Each.set {α : Type} {S : Shp α} {l : List α} {css : List (List Value)} {w : World} (h : Each S l css w) (k : Nat) {x : α} {cs : List Value} (hx : S.rel x cs w) : Each S (l.set k x) (css.set k cs) w := by
  refine ⟨by simp [h.1], fun i hi hi' => ?_⟩
  by_cases hik : k = i
  · subst hik
    simpa using hx
  · rw [List.getElem_set_ne hik, List.getElem_set_ne hik]
    exact h.2 i (by simpa using hi) (by simpa using hi')

set_option maxHeartbeats 2000000 in
theorem Commit_calls (l : List Txn) (a : Idn) (v : Value) (w : World) (h : lst txS l v w) (hl : ∀ s ∈ l, smallEn s.e) (hlen : l.length ≤ 1000000) :
    Calls Try.prog 35 #[v, idv a] w fun e w' => ∃ v', e = .returned (.tuple #[v', .int .i64 (commitT l a).2]) ∧ lst txS (commitT l a).1 v' w' ∧ K w w' := by
  have C1 := Lib.hid fun W (kW : K w W) => Copied_calls l v W (lst_st h kW) hl hlen
  have C2 := Lib.hid fun W (kW : K w W) => Open_calls l a v W (lst_st h kW) hlen
  obtain ⟨A, d, rfl⟩ := lst_slice h
  clear h
  have hx := Blk.new w 26 #[.int .i64 a.1, .int .u64 (a.2.1 : Int), .int .u64 (a.2.2 : Int)]
  have k1 : K w (w.alloc (.cells #[.int .i64 a.1, .int .u64 (a.2.1 : Int), .int .u64 (a.2.2 : Int)] 26)) := (K.rf w).al _
  have HI : Hid (openI l a = match openT l a with | some k => (k : Int) | none => -1) := Lib.hid rfl
  have HC : Hid (commitT l a = match openT l a with | none => (l, 170) | some k => match l[k]? with | none => (l, 170) | some t => (l.set k ⟨t.e, true⟩, 0)) := Lib.hid rfl
  have HO := Lib.hid fun k h => @openT_some l a k h
  generalize commitT l a = R at *
  generalize openI l a = I at *
  go_enter Try.func35, Try.ntmps35
  go_wp2_with fail
  generalize w.alloc _ = w1 at *
  generalize w.heap.size = g at hx ⊢
  have qx := hx.cells
  refine (C1.out w1 k1).mono ?_
  rintro e w2 ⟨v2, rfl, hO, k2⟩
  have k02 := k1.tr k2
  go_wp2_with fail
  refine (C2.out w2 k02).mono ?_
  rintro e w3 ⟨rfl, k3⟩
  replace k02 := k02.tr k3
  replace hO := hO.st k3
  clear C1 C2 k3
  cases ho : openT l a with
  | none =>
    obtain rfl : I = -1 := by rw [HI.out, ho]
    have HQ : Hid (R = (l, 170)) := Lib.hid (by rw [HC.out, ho])
    have HW := Lib.hid hO.lst
    clear hO ho HI HC HO
    go_wp2
    go_ret2
    exact ⟨_, by rw [HQ.out]; rfl, by rw [HQ.out]; exact HW.out, k02⟩
  | some k =>
    obtain rfl : I = (k : Int) := by rw [HI.out, ho]
    obtain ⟨t, h1, -, -, -⟩ := HO.out k ho
    have HQ : Hid (R = (l.set k ⟨t.e, true⟩, 0)) := Lib.hid (by rw [HC.out, ho]; simp only [h1])
    obtain ⟨hk, hkt⟩ := List.getElem?_eq_some_iff.1 h1
    have hki : (k : Int) < (l.length : Int) := by omega
    have hk0 : ¬ (k : Int) < 0 := by omega
    have hkb := hO.blk
    obtain ⟨css, hown, hcl, hE⟩ := hO
    have hlens := (hE w3 (UpB.rf _ _ _)).lens
    have hkc : k < css.length := by omega
    have hfl := (hE w3 (UpB.rf _ _ _)).flen
    have hq : k * 9 + 8 < css.flatten.length := by
      rw [hfl]; show k * 9 + 8 < l.length * 9; omega
    rcases hown.2 with ⟨h0, h00⟩ | ⟨go, cap, cur, rfl, -⟩
    · omega
    obtain ⟨hcell, hfz⟩ := own_cells hown
    have d8 : w3.cell? ⟨go, k * 9 + 8, none⟩ = css.flatten[k * 9 + 8]? := hcell _ hq
    rw [List.getElem?_eq_getElem hq] at d8
    have z8 := hfz (k * 9 + 8)
    have hown2 := own_set hown hq (.bool true)
    have e9 : css.flatten.set (k * 9 + 8) (.bool true) = (css.set k ((css[k]).set 8 (.bool true))).flatten := by
      rw [show k * 9 + 8 = k * txS.size + 8 from rfl]
      exact flatten_set txS.size (.bool true) css hlens k 8 hkc (by decide)
    rw [e9] at hown2
    have hgo := (hkb go rfl).1
    have k4 : K w (w3.setCell ⟨go, k * 9 + 8, none⟩ (.bool true)) := k02.setCell (by have := k1.size; simp; omega) _
    have HW : Hid (lst txS (l.set k ⟨t.e, true⟩) (.slice (some ⟨go, 0, none⟩) l.length cap) (w3.setCell ⟨go, k * 9 + 8, none⟩ (.bool true))) := by
      refine Lib.hid (OwnL.lst (base := w1.heap.size) (lo := w1.heap.size) (e := 39) ⟨css.set k ((css[k]).set 8 (.bool true)), by rw [List.length_set]; exact hown2, by simp [hcl], fun w' u => ?_⟩)
      have u3 : UpB w1.heap.size (some go) w3 w' := UpB.tr (a := w3) (b := w3.setCell ⟨go, k * 9 + 8, none⟩ (.bool true)) ⟨rfl, rfl, rfl, by simp [World.setCell], fun i _ _ h3 => Below.heap_setCell w3 ⟨go, k * 9 + 8, none⟩ (.bool true) i (by rintro rfl; exact h3 rfl)⟩ u
      have hEw := hE w' u3
      refine hEw.set k ?_
      obtain ⟨vf, ve, hcs, hf, he⟩ := hEw.2 k hk hkc
      rw [hkt] at hcs hf he
      exact ⟨vf, ve, by rw [hcs]; rfl, hf, he⟩
    clear hcell hfz hown hown2 hE hlens hfl hkb HI HC HO h1 ho
    go_wp2
    go_ret2
    exact ⟨_, by rw [HQ.out]; rfl, by rw [HQ.out]; exact HW.out, k4⟩
end Go.Proofs.Ytjcdgbnbaiebdaa

/-
  The walk of slices.Delete on transactions of the call's own (layer 17). Conditions: none.
-/
set_option maxRecDepth 100000
namespace Go.Proofs.Ytjcdgbnbaiebdaa
open Go Go.RowKit

theorem flatten_take_n {α : Type} (n : Nat) : ∀ (css : List (List α)), (∀ cs ∈ css, cs.length = n) → ∀ k, (css.take k).flatten = css.flatten.take (k * n)
  | [], _, k => by simp
  | c :: css, h, 0 => by simp
  | c :: css, h, k + 1 => by
    have hc := h c (by simp)
    have ih := flatten_take_n n css (fun x hx => h x (by simp [hx])) k
    rw [List.take_succ_cons, List.flatten_cons, List.flatten_cons, ih, List.take_append, List.take_of_length_le (l := c) (by rw [hc, Nat.succ_mul]; omega), hc, show (k + 1) * n - n = k * n by rw [Nat.succ_mul]; omega]
theorem flatten_drop_n {α : Type} (n : Nat) : ∀ (css : List (List α)), (∀ cs ∈ css, cs.length = n) → ∀ k, (css.drop k).flatten = css.flatten.drop (k * n)
  | [], _, k => by simp
  | c :: css, h, 0 => by simp
  | c :: css, h, k + 1 => by
    have hc := h c (by simp)
    have ih := flatten_drop_n n css (fun x hx => h x (by simp [hx])) k
    rw [List.drop_succ_cons, List.flatten_cons, ih, List.drop_append, show List.drop ((k + 1) * n) c = [] from List.drop_eq_nil_of_le (by rw [hc, Nat.succ_mul]; omega), hc, show (k + 1) * n - n = k * n by rw [Nat.succ_mul]; omega, List.nil_append]
theorem Blk.cells_ : ∀ (vs : List Value) {w : World} {g o : Nat} {e : TypeId} {cur : Array Value}, Blk w g e cur → Blk (w.setCells g o vs) g e (Lib.lay cur o vs)
  | [], _, _, _, _, _, h => h
  | v :: r, _, _, o, _, _, h => Blk.cells_ r (o := o + 1) (h.set_ o v)
theorem grown_cells (g : Nat) : ∀ (vs : List Value) (o : Nat) (w : World), w.grownBy (w.setCells g o vs) (some g)
  | [], _, w => ⟨rfl, rfl, rfl, Nat.le_refl _, fun _ _ _ => rfl⟩
  | v :: r, o, w => by
    have h := grown_cells g r (o + 1) (w.setCell ⟨g, o, none⟩ v)
    exact ⟨h.os, h.tape, h.output, by have h2 := h.size; rw [show (w.setCell ⟨g, o, none⟩ v).heap.size = w.heap.size by simp] at h2; exact h2, fun k hk hne => (h.block k (by simpa using hk) hne).trans (Below.heap_setCell w ⟨g, o, none⟩ v k (by rintro rfl; exact hne rfl))⟩
/-- A clear of one element. -/
theorem run_clear_one {P : Program} {w : World} {t e : TypeId} {z : Value} {cur : Array Value} (ht : P.underlying t = some (.slice e)) (hv : ∀ w, (zeroValue e).run P w = .ok z w) (g o : Nat) (hb : Blk w g e cur) (hl : o + z.cells.size ≤ cur.size) (h1 : ∀ u ∈ z.cells.toList, u.oneCell' = true) :
    ∃ w', (∀ ty c, (Builtin.clear_ #[t] ty #[.slice (some ⟨g, o, none⟩) 1 c]).run P w = .ok (.tuple #[]) w') ∧ Blk w' g e (cur.toList.take o ++ z.cells.toList ++ cur.toList.drop (o + z.cells.size)).toArray ∧ w.grownBy w' (some g) := by
  have hst := run_storeCells_at P g o e z.cells.toList 0 cur w hb (by simpa using hl) h1
  simp only [Nat.add_zero, Array.length_toList] at hst
  have hzc : (Builtin.zeroCells z.cells 1).toList = z.cells.toList := by
    simp [Builtin.zeroCells]
    apply List.ext_getElem
    · simp
    · intro i h1 h2
      simp at h1 h2
      simp [Nat.mod_eq_of_lt h2, getElem!_pos, h2]
  refine ⟨_, fun ty c => ?_, setRow_heap w g cur _ e _ hb, ⟨rfl, rfl, rfl, by simp, fun k hk hne => setRow_other w g k _ (fun e => hne (by simp [e]))⟩⟩
  simp [Builtin.clear_, run_underlying ht, hv, hzc, hst]
theorem zeroTx (W : World) : (zeroValue 39).run Try.prog W = .ok (.agg (txA txn0 (.slice none 0 0) (.slice none 0 0))) W := by kernel_rfl

set_option maxHeartbeats 4000000 in
theorem Delete_calls (l : List Txn) (base k j : Nat) (hj : j = k + 1) (v : Value) (w : World) (h : OwnL base base 39 txS l v w) (hk : k < l.length) (hlen : l.length ≤ 1000000) :
    Calls Try.prog 67 #[v, .int .i64 k, .int .i64 j] w fun e w' => ∃ v', e = .returned v' ∧ OwnL base base 39 txS (l.eraseIdx k) v' w' ∧ w.grownBy w' v.ownBlock := by
  obtain ⟨css, hown, hcl, hE⟩ := h
  have hlens : ∀ cs ∈ css, cs.length = 9 := (hE w (UpB.rf _ _ _)).lens
  have hones := (hE w (UpB.rf _ _ _)).ones
  rcases hown.2 with ⟨h0, h00⟩ | ⟨g, cap, cur, rfl, g1, g2, g3, g4, g5, g6⟩
  · omega
  have g5 : cur.size = cap * 9 := g5
  have g6 : cur.toList.take (l.length * 9) = css.flatten := g6
  have hb : Blk w g 39 cur := g2
  have hfl : css.flatten.length = l.length * 9 := hown.1
  obtain ⟨news, hnews⟩ : ∃ news, news = css.flatten.drop (j * 9) := ⟨_, rfl⟩
  obtain ⟨m, hm⟩ : ∃ m, m = l.length - j := ⟨_, rfl⟩
  have hnl : news.length = m * 9 := by rw [hnews, List.length_drop, hfl]; omega
  have hget : ∀ t u, news[t]? = some u → cur[j * 9 + t]? = some u := by
    intro t u hu
    rw [hnews, List.getElem?_drop] at hu
    have := (List.getElem?_eq_some_iff.1 hu).1
    rw [← g6, List.getElem?_take_of_lt (by omega), Array.getElem?_toList] at hu
    exact hu
  obtain ⟨A, hA, hsrc⟩ : ∃ A : Addr, (if cap = j then (some ⟨g, 0, none⟩ : Option Addr) else some ⟨g, j * 9, none⟩) = some A ∧ Hid (∀ t u, news[t]? = some u → w.drew.cell? (A.add t) = some u) := by
    by_cases h : cap = j
    · refine ⟨⟨g, 0, none⟩, by simp [h], fun t u hu => ?_⟩
      have h0 : news.length = 0 := by omega
      rw [List.length_eq_zero_iff.1 h0] at hu
      simp at hu
    · refine ⟨⟨g, j * 9, none⟩, by simp [h], fun t u hu => ?_⟩
      rw [Addr.add_lit]
      exact (hb.cell _).trans (hget t u hu)
  have s1 : Hid (news.length = m * 9) := hnl
  have s2 : Hid (∀ u ∈ news, u.oneCell' = true) := fun u hu => hones u (List.mem_of_mem_drop (by rw [← hnews]; exact hu))
  have s3 : Hid (∀ t, t < news.length → (w.drew.cell? ⟨g, 0 + k * 9 + t, none⟩).isSome = true ∧ w.drew.frozen? ⟨g, 0 + k * 9 + t, none⟩ = false) := by
    intro t ht
    refine ⟨?_, hb.frozen _⟩
    show (w.cell? _).isSome = true
    rw [hb.cell, Array.getElem?_eq_getElem (by omega)]
    rfl
  obtain ⟨W1, hW1⟩ : ∃ W1, W1 = w.drew.setCells g (0 + k * 9) news := ⟨_, rfl⟩
  have hb1 : Blk W1 g 39 (Lib.lay cur (0 + k * 9) news) := by rw [hW1]; exact Blk.cells_ news hb.drew
  have hg1 : w.drew.grownBy W1 (some g) := by rw [hW1]; exact grown_cells g news _ _
  have hls : (Lib.lay cur (0 + k * 9) news).size = cap * 9 := by rw [Lib.lay_size, g5]
  obtain ⟨W2, hclr, hb2, hg2⟩ := run_clear_one (P := Try.prog) (w := W1) (t := 27) (e := 39) Try.underlying27 zeroTx g ((l.length - 1) * 9) hb1 (by rw [hls]; show (l.length - 1) * 9 + 9 ≤ _; omega) (by intro u hu; exact txS.one (x := txn0) (w := w) ⟨_, _, rfl, ⟨none, 0, rfl, Reads.nil _ _ _ _⟩, lst_nil _ _⟩ u hu)
  have HW : Hid (OwnL base base 39 txS (l.eraseIdx k) (.slice (some ⟨g, 0, none⟩) (l.length - 1) cap) W2 ∧ w.grownBy W2 (some g)) := by
    have hgw : w.grownBy W2 (some g) := ⟨hg2.os.trans hg1.os, hg2.tape.trans hg1.tape, hg2.output.trans hg1.output, Nat.le_trans hg1.size hg2.size, fun k hk hne => (hg2.block k (Nat.lt_of_lt_of_le hk hg1.size) hne).trans (hg1.block k hk hne)⟩
    have hel : (l.eraseIdx k).length = l.length - 1 := by rw [List.length_eraseIdx, if_pos hk]
    have hec : (css.eraseIdx k).length = l.length - 1 := by rw [List.length_eraseIdx, if_pos (by omega)]; omega
    refine ⟨⟨css.eraseIdx k, ⟨?_, .inr ⟨g, cap, _, by rw [hel], g1, hb2, by omega, g4, ?_, ?_⟩⟩, by rw [hec, hel], fun w' u => ?_⟩, hgw⟩
    · rw [hel, flatten_len 9 _ (fun cs h => hlens cs (List.mem_of_mem_eraseIdx h)), hec]; rfl
    · have h9 : (Value.agg (txA txn0 (.slice none 0 0) (.slice none 0 0))).cells.size = 9 := rfl
      simp only [List.size_toArray, List.length_append, List.length_take, List.length_drop, Array.length_toList, hls, h9]
      show _ = cap * 9
      omega
    · show List.take ((l.eraseIdx k).length * 9) _ = _
      rw [hel, List.append_assoc, List.take_append_of_le_length (by rw [List.length_take, show (Lib.lay cur (0 + k * 9) news).toList.length = cap * 9 from hls]; omega), List.take_take, Nat.min_self, List.eraseIdx_eq_take_drop_succ, List.flatten_append, flatten_take_n 9 css hlens, flatten_drop_n 9 css hlens, ← hj, ← hnews]
      apply List.ext_getElem?
      intro t
      by_cases ht : t < (l.length - 1) * 9
      · rw [List.getElem?_take_of_lt ht, Array.getElem?_toList, Lib.lay_get? _ _ _ _ (by omega)]
        by_cases h1 : t < k * 9
        · rw [if_neg (by omega), List.getElem?_append_left (by rw [List.length_take]; omega), List.getElem?_take_of_lt h1, ← g6, List.getElem?_take_of_lt (by omega), Array.getElem?_toList]
        · rw [if_pos (by omega), List.getElem?_append_right (by rw [List.length_take]; omega), List.length_take]
          congr 1
          omega
      · rw [List.getElem?_eq_none (by rw [List.length_take]; omega), List.getElem?_eq_none (by rw [List.length_append, List.length_take]; omega)]
    · have hEw := hE w' (UpB.tr (UpB.of_mut hgw base) u)
      rw [List.eraseIdx_eq_take_drop_succ, List.eraseIdx_eq_take_drop_succ]
      exact (hEw.take k).append (hEw.drop (k + 1))
  have hW : Hid (W1 = w.drew.setCells g (0 + k * 9) news) := hW1
  obtain ⟨i0, hi0, hz0⟩ := Option.map_eq_some_iff.1 infoTx
  have hz1 : i0.size = 9 := by injection hz0 with _ h; injection h
  have hlm : k + m = l.length - 1 := by omega
  have hkc : k ≤ cap := by omega
  have hkc1 : j ≤ cap := by omega
  have hki : (k : Int) < (l.length : Int) := by omega
  have hkj : k ≠ j := by omega
  have hkj2 : k ≤ j := by omega
  have hjl : j ≤ l.length := by omega
  have hcm : cap ≤ 9223372036854775807 := g4
  have hmj : l.length - j = m := hm.symm
  have h11 : l.length - (l.length - 1) = 1 := by omega
  have hne1 : ¬ (k : Int) = (j : Int) := by omega
  clear hm hj
  clear hW1 hcl hE hlens hones hown g6 hb hfl hnews hnl hget hb1 hg1 hls hb2 hg2 g2
  go_enter Try.func67, Try.ntmps67
  go_wp2_with fail
  go_region_law (refine step_append_room rfl (.tmp 22) (.tmp 25) 27 rfl 39 i0 9 Try.underlying27 hi0 hz1 g 0 k cap (by simp [Act.eval, Act.put]) A m (cap - j) news (by simp [Act.eval, Act.put]) s1.out hsrc.out s2.out (by omega) s3.out ?_; rw [← hW.out])
  go_wp2
  go_ret
  exact ⟨_, rfl, HW.out.1, HW.out.2⟩
end Go.Proofs.Ytjcdgbnbaiebdaa

/-
  The walks of stage.Settle and Abort (layer 17). Conditions: lists of at most a million.
-/
set_option maxRecDepth 100000
namespace Go.Proofs.Ytjcdgbnbaiebdaa
open Go Go.RowKit

set_option maxHeartbeats 2000000 in
theorem Settle_calls (l : List Txn) (a : Idn) (v : Value) (w : World) (h : lst txS l v w) (hl : ∀ s ∈ l, smallEn s.e) (hlen : l.length ≤ 1000000) :
    Calls Try.prog 38 #[v, idv a] w fun e w' => ∃ v', e = .returned v' ∧ lst txS (settleT l a) v' w' ∧ K w w' := by
  have C1 := Lib.hid fun W (kW : K w W) => Copied_calls l v W (lst_st h kW) hl hlen
  have C2 := Lib.hid fun W (kW : K w W) => Seek_calls l a v W (lst_st h kW) hlen
  obtain ⟨A, d, rfl⟩ := lst_slice h
  clear h
  have hx := Blk.new w 26 #[.int .i64 a.1, .int .u64 (a.2.1 : Int), .int .u64 (a.2.2 : Int)]
  have k1 : K w (w.alloc (.cells #[.int .i64 a.1, .int .u64 (a.2.1 : Int), .int .u64 (a.2.2 : Int)] 26)) := (K.rf w).al _
  have HI : Hid (seekI l a = match seekT l a with | some k => (k : Int) | none => -1) := Lib.hid rfl
  have HC : Hid (settleT l a = match seekT l a with | none => l | some k => l.eraseIdx k) := Lib.hid rfl
  have HO := Lib.hid fun k h => @seekT_some l a k h
  generalize settleT l a = R at *
  go_enter Try.func38, Try.ntmps38
  go_wp2_with fail
  generalize w.alloc _ = w1 at *
  refine (C1.out w1 k1).mono ?_
  rintro e w2 ⟨u5, rfl, hO, k2⟩
  have q := hx.cells
  have hx2 := hx.below k2 hx.lt
  have k02 := k1.tr k2
  generalize seekI l a = I at *
  clear hx
  go_wp2_with fail
  refine (C2.out w2 k02).mono ?_
  rintro e w3 ⟨rfl, k3⟩
  replace k02 := k02.tr k3
  have k13 := k2.tr k3
  replace hO := hO.st k3
  clear C1 C2 k3
  cases ho : seekT l a with
  | none =>
    obtain rfl : I = -1 := by rw [HI.out, ho]
    have HQ : Hid (R = l) := Lib.hid (by rw [HC.out, ho])
    have HW := Lib.hid hO.lst
    clear hO ho HI HC HO
    go_wp2
    go_ret
    exact ⟨_, rfl, by rw [HQ.out]; exact HW.out, k02⟩
  | some k =>
    obtain rfl : I = (k : Int) := by rw [HI.out, ho]
    have HQ : Hid (R = l.eraseIdx k) := Lib.hid (by rw [HC.out, ho])
    obtain ⟨t, h1, -⟩ := HO.out k ho
    obtain ⟨hk, -⟩ := List.getElem?_eq_some_iff.1 h1
    have HD0 := Delete_calls l w1.heap.size k (k + 1) rfl u5 w3 hO hk hlen
    rw [show ((k + 1 : Nat) : Int) = (k : Int) + 1 by omega] at HD0
    have HD := Lib.hid HD0
    clear HD0
    have hb := hO.blk
    have hk0 : ¬ (k : Int) < 0 := by omega
    have hzw := k1.size
    have HB : Hid (∀ g, u5.ownBlock = some g → w.heap.size ≤ g) := Lib.hid fun g h => Nat.le_trans hzw (hb g h).1
    have hki : (k : Int) < 1000000 := by omega
    clear hO ho HI HC HO h1 hb
    go_wp2_with fail
    refine HD.out.mono ?_
    rintro e w4 ⟨v4, rfl, hO4, hg4⟩
    have HW := Lib.hid hO4.lst
    have k4 : K w w4 := (UpB.of_mut hg4 0).k k02 HB.out
    clear hO4 hg4
    go_wp2
    go_ret
    exact ⟨_, rfl, by rw [HQ.out]; exact HW.out, k4⟩
set_option maxHeartbeats 2000000 in
theorem Abort_calls (l : List Txn) (a : Idn) (v : Value) (w : World) (h : lst txS l v w) (hl : ∀ s ∈ l, smallEn s.e) (hlen : l.length ≤ 1000000) :
    Calls Try.prog 36 #[v, idv a] w fun e w' => ∃ v', e = .returned (.tuple #[v', .int .i64 (abortT l a).2]) ∧ lst txS (abortT l a).1 v' w' ∧ K w w' := by
  have C1 := Lib.hid fun W (kW : K w W) => Copied_calls l v W (lst_st h kW) hl hlen
  have C2 := Lib.hid fun W (kW : K w W) => Open_calls l a v W (lst_st h kW) hlen
  have C3 := Lib.hid fun W (kW : K w W) => Settle_calls l a v W (lst_st h kW) hl hlen
  obtain ⟨A, d, rfl⟩ := lst_slice h
  clear h
  have hx := Blk.new w 26 #[.int .i64 a.1, .int .u64 (a.2.1 : Int), .int .u64 (a.2.2 : Int)]
  have k1 : K w (w.alloc (.cells #[.int .i64 a.1, .int .u64 (a.2.1 : Int), .int .u64 (a.2.2 : Int)] 26)) := (K.rf w).al _
  have HI : Hid (openI l a = match openT l a with | some k => (k : Int) | none => -1) := Lib.hid rfl
  have HC : Hid (abortT l a = if (openT l a).isSome then (settleT l a, 0) else (l, 170)) := Lib.hid rfl
  generalize abortT l a = R at *
  have q := hx.cells
  go_enter Try.func36, Try.ntmps36
  go_wp2_with fail
  generalize w.alloc _ = w1 at *
  refine (C2.out w1 k1).mono ?_
  rintro e w2 ⟨rfl, k2⟩
  have k02 := k1.tr k2
  generalize openI l a = I at *
  cases ho : openT l a with
  | none =>
    obtain rfl : I = -1 := by rw [HI.out, ho]
    have HQ : Hid (R = (l, 170)) := Lib.hid (by rw [HC.out, ho]; rfl)
    clear ho HI HC
    go_wp2_with fail
    refine (C1.out w2 k02).mono ?_
    rintro e w3 ⟨v3, rfl, hO, k3⟩
    have HW := Lib.hid hO.lst
    replace k02 := k02.tr k3
    clear hO C1 C2 C3
    go_wp2
    go_ret2
    exact ⟨_, by rw [HQ.out]; rfl, by rw [HQ.out]; exact HW.out, k02⟩
  | some k =>
    obtain rfl : I = (k : Int) := by rw [HI.out, ho]
    have HQ : Hid (R = (settleT l a, 0)) := Lib.hid (by rw [HC.out, ho]; rfl)
    have hk0 : ¬ (k : Int) < 0 := by omega
    clear ho HI HC
    generalize settleT l a = T at *
    go_wp2_with fail
    refine (C3.out w2 k02).mono ?_
    rintro e w3 ⟨v3, rfl, hO, k3⟩
    have HW := Lib.hid hO
    replace k02 := k02.tr k3
    clear hO C1 C2 C3
    go_wp2
    go_ret2
    exact ⟨_, by rw [HQ.out]; rfl, by rw [HQ.out]; exact HW.out, k02⟩
end Go.Proofs.Ytjcdgbnbaiebdaa

/-
  The walk of stage.Asks (layer 17). Conditions: lists of at most a million.
-/
set_option maxRecDepth 100000
namespace Go.Proofs.Ytjcdgbnbaiebdaa
open Go Go.RowKit

theorem asks_step (l : List Txn) (t : Txn) : asksT (l ++ [t]) = if t.asked = true ∧ (asksT l).length < 4 then asksT l ++ [t.e] else asksT l := by
  unfold asksT
  rw [List.filter_append, List.map_append, List.take_append]
  generalize ((l.filter Txn.asked).map Txn.e) = X
  rcases t with ⟨e, b⟩
  cases b
  · simp
  · simp only [List.length_take, true_and, List.filter_cons, if_true, List.filter_nil, List.map_cons, List.map_nil]
    split
    · rename_i h
      rw [List.take_of_length_le (l := [e]) (by simp; omega)]
    · rename_i h
      rw [show 4 - X.length = 0 by omega, List.take_zero, List.append_nil]
theorem infoEn : (Try.prog.info? 34).map (fun i => (i.zero, i.size, i.bytes)) = some (some (.agg zEnt), 8, 96) := by kernel_rfl
theorem TEn : SliceT Try.prog 57 34 (.agg zEnt) 8 96 := ⟨Try.underlying57, infoEn, rfl, by decide⟩

set_option maxHeartbeats 4000000 in
theorem Asks_calls (l : List Txn) (v : Value) (w : World) (h : lst txS l v w) (hs : ∀ t ∈ l, smallEn t.e) (hn : l.length ≤ 1000000) :
    Calls Try.prog 25 #[v] w fun e w' => ∃ v', e = .returned v' ∧ OwnL w.heap.size w.heap.size 34 enS (asksT l) v' w' ∧ K w w' := by
  obtain ⟨A, c, rfl, hl, hc⟩ := h
  have HS := Lib.hid hs
  clear hs
  have kk := K.rf w
  go_enter Try.func25, Try.ntmps25
  go_wp2_with fail
  go_loopw [3, 5, 8] (fun o _ i W => ∃ j : Nat, j ≤ l.length ∧ i = .int .i64 (j : Int) ∧ OwnL w.heap.size w.heap.size 34 enS (asksT (l.take j)) o W ∧ K w W) (fun _ _ i _ => l.length - (intOf i).toNat)
  case atStart => exact ⟨0, by omega, rfl, by simpa [asksT] using OwnL.nil _ _ _ _ _, kk⟩
  case round =>
    clear kk
    obtain ⟨j, hj, rfl, hO, kr⟩ := hrel
    by_cases hlt : j < l.length
    · have hji : (j : Int) < (l.length : Int) := by omega
      obtain ⟨b1, off, cs, rfl, hcl, hrl, d0, d⟩ := lsr_cells hl j hlt (by decide)
      have HT : Hid (asksT (l.take (j + 1)) = if l[j].asked = true ∧ (asksT (l.take j)).length < 4 then asksT (l.take j) ++ [l[j].e] else asksT (l.take j)) := Lib.hid (by rw [List.take_succ_eq_append_getElem hlt, asks_step])
      have hst := HS.out _ (List.getElem_mem hlt)
      generalize l[j] = t at *
      obtain ⟨vf, ve, rfl, hf, he⟩ := hrl w (K.rf w)
      obtain ⟨Af, cf, rfl⟩ := flt_slice hf
      obtain ⟨Ae, ce, rfl⟩ := lst_slice he
      have HE : Hid (∀ W, K w W → ent t.e (.agg (entA t.e (.slice Af t.e.f.length cf) (.slice Ae t.e.es.length ce))) W) := Lib.hid fun W k => ⟨_, _, rfl, flt_st _ _ _ _ hf k, lst_st he k⟩
      have d0 : ∀ W, K w W → W.cell? ⟨b1, off + j * 9, none⟩ = some (.int .i64 t.e.kind) := d0
      have d : ∀ W, K w W → ∀ i, i < 9 → W.cell? ⟨b1, off + j * 9 + i, none⟩ = (txA t (.slice Af t.e.f.length cf) (.slice Ae t.e.es.length ce))[i]? := fun W k i hi => (d W k i hi).trans Array.getElem?_toList
      have htl : (asksT (l.take j)).length ≤ 4 := by unfold asksT; rw [List.length_take]; omega
      clear hrl hcl hf he
      generalize asksT (l.take j) = L at *
      obtain ⟨Ao, co, rfl, -⟩ := hO.slice
      have hx := Blk.new wr 39 (txA t (.slice Af t.e.f.length cf) (.slice Ae t.e.es.length ce))
      have kA : K wr (wr.alloc (.cells (txA t (.slice Af t.e.f.length cf) (.slice Ae t.e.es.length ce)) 39)) := (K.rf wr).al _
      go_upto_region 5 with (fail)
      have hO5 := hO.st kA
      generalize wr.alloc _ = w5 at *
      generalize wr.heap.size = g5 at hx ⊢
      generalize Value.slice Af t.e.f.length cf = vf at *
      generalize Value.slice Ae t.e.es.length ce = ve at *
      have k5 := kr.tr kA
      have q := hx.cell
      clear d d0 hO kA
      clear d d0
      have hvc := hO5.blk
      have hg3 := hx.lt
      rcases t with ⟨te, ta⟩
      cases ta
      · have HQ : Hid (asksT (l.take (j + 1)) = L) := Lib.hid (by rw [HT.out]; simp)
        have HO := Lib.hid hO5
        clear HT hO5
        go_wp2
        go_roundw
        case rel => exact ⟨j + 1, by omega, by go_num, by rw [HQ.out]; exact HO.out, k5⟩
        case measure => simp [intOf]; omega
      · by_cases h4 : L.length < 4
        rotate_left
        · have h4i : ¬ (L.length : Int) < 4 := by omega
          have HQ : Hid (asksT (l.take (j + 1)) = L) := Lib.hid (by rw [HT.out, if_neg (fun h => h4 h.2)])
          have HO := Lib.hid hO5
          clear HT hO5 hvc
          go_wp2
          go_roundw
          case rel => exact ⟨j + 1, by omega, by go_num, by rw [HQ.out]; exact HO.out, k5⟩
          case measure => simp [intOf]; omega
        · have h4i : (L.length : Int) < 4 := by omega
          have HQ : Hid (asksT (l.take (j + 1)) = L ++ [te]) := Lib.hid (by rw [HT.out, if_pos ⟨rfl, h4⟩])
          clear HT
          go_wp2_with fail
          refine (Whole_calls te _ w5 (HE.out _ k5) hst).mono ?_
          rintro e w6 ⟨v6, rfl, ho, k6⟩
          have hO6 := hO5.st k6
          obtain ⟨vf2, ve2, rfl, hF, hV⟩ := ho
          have kr6 := k5.tr k6
          obtain ⟨css, hown, hcl, hEa⟩ := hO6
          have hz6 := k6.size
          have hz5 := k5.size
          have HF : Hid (∀ w', UpB w5.heap.size none w6 w' → flt te.f vf2 w' ∧ lst evS te.es ve2 w') := Lib.hid fun w' u => ⟨flt_own (hF.up u), (hV.up (Nat.le_refl _) u).lst⟩
          obtain ⟨Af2, cf2, rfl⟩ := flt_slice (flt_own hF)
          obtain ⟨Ae2, ce2, rfl⟩ := lst_slice hV.lst
          have kB : K w6 (w6.alloc (.cells (entA te (.slice Af2 te.f.length cf2) (.slice Ae2 te.es.length ce2)) 34)) := (K.rf w6).al _
          have hbase : w.heap.size ≤ (w6.alloc (.cells (entA te (.slice Af2 te.f.length cf2) (.slice Ae2 te.es.length ce2)) 34)).heap.size := by have := kB.size; omega
          have hA6 : (L.length + 1) * 97 ≤ 140737488355328 := by omega
          clear hO5 hF hV
          go_wp2_with (at_builtin; refine wpList_app rfl _ _ 57 rfl w.heap.size 34 _ 8 96 TEn _ _ _ rfl (World.ownsRow.alloc hown _) (w6.heap.size + 1) _ 1 1 (entc te (.slice Af2 te.f.length cf2) (.slice Ae2 te.es.length ce2)) rfl ?c1 ?c2 ?c3 hbase ?_)
          case c1 => exact Reads.new w6 (entc te (.slice Af2 te.f.length cf2) (.slice Ae2 te.es.length ce2)) 34 8 1 rfl
          case c2 => have h0 := HF.out w6 (UpB.rf _ _ _); exact enS.one (x := te) (w := w6) ⟨_, _, rfl, h0.1, h0.2⟩
          case c3 => omega
          intro v9 w9 hown9 hg9 hat9 hb9
          have k9 := (kr6.tr kB).trans hb9
          have hO9 : Hid (OwnL w.heap.size w.heap.size 34 enS (asksT (l.take (j + 1))) v9 w9) := by
            rw [HQ.out]
            exact OwnL.snoc hcl (fun w' u => hEa w' (UpB.tr (UpB.of_k kB _ _) u)) hown9 hg9 (by rw [World.size_alloc]; exact hat9)
              (fun w' u => by
                have := HF.out w' ((UpB.tr (UpB.of_k kB _ _) u).more (by omega) (fun k hk _ e => by have := (hvc k e.symm).2; omega))
                exact ⟨_, _, rfl, this.1, this.2⟩)
          clear hown9 hg9 hat9 hb9 hown hEa
          go_wp2
          go_roundw
          case rel => exact ⟨j + 1, by omega, by go_num, hO9.out, k9⟩
          case measure => simp [intOf]; omega
    · have hji : ¬ (j : Int) < (l.length : Int) := by omega
      rw [List.take_of_length_le (by omega)] at hO
      have HO := Lib.hid hO
      clear hO
      go_wp2
      go_ret
      exact ⟨_, rfl, HO.out, kr⟩
end Go.Proofs.Ytjcdgbnbaiebdaa

/-
  The walk of stage.Find (layer 17). Conditions: lists of at most a million.
-/
set_option maxRecDepth 100000
namespace Go.Proofs.Ytjcdgbnbaiebdaa
open Go Go.RowKit

/-- A store of a struct into cells. -/
theorem exec_store {P : Program} {ρ : Operand → Value} {w : World} (s x : Operand) (T ty t : TypeId) (g o : Nat) (cur cells : Array Value) (hs : ρ s = .pointer (some ⟨g, o, none⟩)) (hx : ρ x = .agg cells) (hb : Blk w g t cur)
    (hi : (P.info? T).map (·.size) = some cells.size) (hl : o + cells.size ≤ cur.size) (h1 : ∀ u ∈ cells.toList, u.oneCell' = true) :
    ∃ w', (execOp ρ (bareOp (.store T s x) ty)).run P w = .ok .skip w' ∧ Blk w' g t (cur.toList.take o ++ cells.toList ++ cur.toList.drop (o + cells.size)).toArray ∧ w.grownBy w' (some g) := by
  have hst := run_storeCells_at P g o t cells.toList 0 cur w hb (by simpa using hl) h1
  simp only [Nat.add_zero, Array.length_toList] at hst
  refine ⟨_, ?_, setRow_heap w g cur _ t _ hb, ⟨rfl, rfl, rfl, by simp, fun k hk hne => setRow_other w g k _ (fun e => hne (by simp [e]))⟩⟩
  cases hq : P.info? T with
  | none => simp [hq] at hi
  | some i =>
    have hz : cells.size = i.size := by simp [hq] at hi; omega
    simp [execOp, bareOp, hs, hx, Instr.storeAt, Instr.sureAddr, storeVar, sizeOf, typeInfo, hq, Value.cells, hz]
    rw [← hz, hst]
    simp [Result.andThen]
theorem find_seek (l : List Txn) (a : Idn) : findT l a = match seekT l a with | none => (txn0, false) | some k => match l[k]? with | some t => (t, true) | none => (txn0, false) := by
  cases h : seekT l a with
  | none => exact find_false (seekT_none h)
  | some k =>
    obtain ⟨t, h1, h2, h3⟩ := seekT_some h
    obtain ⟨hk, hkt⟩ := List.getElem?_eq_some_iff.1 h1
    have : l.find? (isId a) = some t := by
      rw [List.find?_eq_some_iff_getElem]
      exact ⟨by simp [isId, h2], k, hk, hkt, fun j hj => by
        have := h3 j hj l[j] (List.getElem?_eq_getElem _)
        simp [isId, this]⟩
    unfold findT
    rw [this]
    simp only [h1]

abbrev zTx : Array Value := #[.int .i64 0, .int .i64 0, .int .u64 0, .int .u64 0, .int .i64 0, .int .u64 0, .slice none 0 0, .slice none 0 0, .bool false]
set_option maxHeartbeats 4000000 in
theorem Find_calls (l : List Txn) (a : Idn) (v : Value) (w : World) (h : lst txS l v w) (hs : ∀ s ∈ l, smallEn s.e) (hlen : l.length ≤ 1000000) :
    Calls Try.prog 16 #[v, idv a] w fun e w' => ∃ u, e = .returned (.tuple #[u, .bool (findT l a).2]) ∧ txv (findT l a).1 u w' ∧ K w w' := by
  have C2 := Lib.hid fun W (kW : K w W) => Seek_calls l a v W (lst_st h kW) hlen
  obtain ⟨A, c, rfl, hl, hc⟩ := h
  have hx := (Blk.new w 26 #[.int .i64 a.1, .int .u64 (a.2.1 : Int), .int .u64 (a.2.2 : Int)]).alloc (.cells zTx 39)
  have hr := Blk.new (w.alloc (.cells #[.int .i64 a.1, .int .u64 (a.2.1 : Int), .int .u64 (a.2.2 : Int)] 26)) 39 zTx
  have k1 : K w ((w.alloc (.cells #[.int .i64 a.1, .int .u64 (a.2.1 : Int), .int .u64 (a.2.2 : Int)] 26)).alloc (.cells zTx 39)) := ((K.rf w).al _).al _
  have hz : (w.alloc (.cells #[.int .i64 a.1, .int .u64 (a.2.1 : Int), .int .u64 (a.2.2 : Int)] 26)).heap.size = w.heap.size + 1 := by simp
  rw [hz] at hr
  clear hz
  have HI : Hid (seekI l a = match seekT l a with | some k => (k : Int) | none => -1) := Lib.hid rfl
  have HC := Lib.hid (find_seek l a)
  have HO := Lib.hid fun k h => @seekT_some l a k h
  generalize findT l a = R at *
  go_enter Try.func16, Try.ntmps16
  go_upto_region 1 with (fail)
  generalize World.alloc (World.alloc w _) _ = w1 at *
  have q := hx.cell
  go_wp2_with fail
  clear q
  refine (C2.out w1 k1).mono ?_
  rintro e w2 ⟨rfl, k2⟩
  have k02 := k1.tr k2
  have hr2 := hr.below k2 hr.lt
  have hrg : w.heap.size ≤ w.heap.size + 1 := by omega
  generalize w.heap.size + 1 = g4 at *
  generalize seekI l a = I at *
  clear hx hr C2
  cases ho : seekT l a with
  | none =>
    obtain rfl : I = -1 := by rw [HI.out, ho]
    have HQ : Hid (R = (txn0, false)) := Lib.hid (by rw [HC.out, ho])
    clear ho HI HC HO
    have q := hr2.cell
    have z := hr2.frozen
    go_wp2
    have hr9 := ((((((((hr2.set_ 0 (.int .i64 0)).set_ 1 (.int .i64 0)).set_ 2 (.int .u64 0)).set_ 3 (.int .u64 0)).set_ 4 (.int .i64 0)).set_ 5 (.int .u64 0)).set_ 6 (.slice none 0 0)).set_ 7 (.slice none 0 0)).set_ 8 (.bool false)
    have e9 := hr9.cell
    refine bodyPost_ret (v := .tuple #[.agg zTx, .bool false]) (by simp [results, Try.results16, go_sem, e9]) rfl ?_
    refine ⟨.agg zTx, by rw [HQ.out], by rw [HQ.out]; exact nil_txv txn0 rfl rfl _, ?_⟩
    exact ((((((((k02.setCell (by exact hrg) _).setCell (by exact hrg) _).setCell (by exact hrg) _).setCell (by exact hrg) _).setCell (by exact hrg) _).setCell (by exact hrg) _).setCell (by exact hrg) _).setCell (by exact hrg) _).setCell (by exact hrg) _
  | some k =>
    obtain rfl : I = (k : Int) := by rw [HI.out, ho]
    obtain ⟨t, h1, -⟩ := HO.out k ho
    have HQ : Hid (R = (t, true)) := Lib.hid (by rw [HC.out, ho]; simp only [h1])
    obtain ⟨hk, hkt⟩ := List.getElem?_eq_some_iff.1 h1
    have hki : (k : Int) < (l.length : Int) := by omega
    have hk0 : ¬ (k : Int) < 0 := by omega
    obtain ⟨b1, off, cs, rfl, hcl, hrl, d0, d⟩ := lsr_cells hl k hk (by decide)
    have hst := hs _ (List.getElem_mem hk)
    rw [hkt] at hrl hst
    obtain ⟨vf, ve, rfl, hf, he⟩ := hrl w (K.rf w)
    have HE : Hid (∀ W, K w W → ent t.e (.agg (entA t.e vf ve)) W) := Lib.hid fun W k => ⟨_, _, rfl, flt_st _ _ _ _ hf k, lst_st he k⟩
    have d0 : ∀ W, K w W → W.cell? ⟨b1, off + k * 9, none⟩ = some (.int .i64 t.e.kind) := d0
    have d : ∀ W, K w W → ∀ i, i < 9 → W.cell? ⟨b1, off + k * 9 + i, none⟩ = (txA t vf ve)[i]? := fun W kk i hi => (d W kk i hi).trans Array.getElem?_toList
    clear hrl hcl hf he ho HI HC HO h1 hkt
    go_upto_region 4 with (fail)
    obtain ⟨gb, hgb⟩ : ∃ gb, gb = w2.heap.size := ⟨_, rfl⟩
    have hg4 : g4 < gb := by rw [hgb]; exact hr2.lt
    obtain ⟨C, hC⟩ : ∃ C : World → Prop, C = fun W => K w W ∧ gb ≤ W.heap.size := ⟨_, rfl⟩
    have hg : ∀ W W', C W → Below W.heap.size W W' → C W' := by
      subst hC
      rintro W W' ⟨h1, h0⟩ hb
      exact ⟨h1.tr hb, Nat.le_trans h0 hb.size⟩
    have hc0 : C w2 := by rw [hC]; exact ⟨k02, by omega⟩
    have hrow : ∀ b, some g4 = some b → b < gb := by rintro b e; cases e; exact hg4
    refine wp_region_turn2 12 C (fun W => Blk W g4 39 zTx) (fun W => ∃ vf ve, Blk W g4 39 (txA t vf ve) ∧ flt t.e.f vf W ∧ lst evS t.e.es ve W) (fun W W' => W.grownBy W' (some g4)) [isV (.slice (some ⟨b1, off, none⟩) l.length c),
        isV (.int .i64 k),
        isV (.pointer (some ⟨b1, off + k * 9, none⟩)),
        isV (.pointer (some ⟨b1, off + k * 9, none⟩)),
        isV (.agg (entA t.e vf ve)),
        entF gb t.e,
        isV (.slice (some ⟨b1, off, none⟩) l.length c),
        isV (.int .i64 k),
        isV (.pointer (some ⟨b1, off + k * 9, none⟩)),
        isV (.pointer (some ⟨b1, off + k * 9 + 8, none⟩)),
        isV (.bool t.asked),
        txF gb t,
        anyV,
        isV (.bool true)]
      [([], []), ([], []), ([0, 1], [(13, 0), (14, 1)]), ([2], [(15, 2)]), ([3], [(16, 3)]), ([4], [(17, 4)]), ([], []), ([], []), ([6, 7], [(19, 6), (20, 7)]), ([8], [(21, 8)]), ([9], [(22, 9)]), ([5, 10], [(18, 5), (23, 10)]), ([11], [(24, 11)]), ([], [])] 25 rfl (by kernel_rfl) (by kernel_rfl) (by kernel_rfl) (by decide) hg (fun W W' h k => h.below k h.lt) (fun W W' h k => by obtain ⟨vf, ve, h1, h2, h3⟩ := h; exact ⟨vf, ve, h1.below k h1.lt, flt_st _ _ _ _ h2 k, lst_st h3 k⟩) (by exact hg _ _ hc0 (Below.drew (Below.refl _ _))) hr2.drew ?st ?st2 ?ow ?_
    case st =>
      simp only [List.forall_mem_cons]
      and_intros
      all_goals first | exact isV_st _ | exact anyV_st | exact entF_st _ _ | exact txF_st _ _ | simp
    case st2 =>
      simp only [List.zipIdx_cons, List.zipIdx_nil, List.forall_mem_cons, Nat.zero_add, Nat.reduceAdd]
      and_intros
      all_goals first | exact .inl rfl | exact .inr (fun _ _ _ h _ => h) | exact .inr (entF_row hrow) | exact .inr (txF_row hrow) | simp
    case ow =>
      simp only [OwedT]
      and_intros
      all_goals try trivial
      all_goals
        simp only [Nat.reduceEqDiff, if_false, Nat.reduceAdd]
      all_goals
        first
        | (intro V w' hc hD hp
           have hD2 : Blk w' g4 39 zTx := hD
           simp only [List.forall_mem_cons, tab_zero, tab_succ] at hp
           rw [hC] at hc
           obtain ⟨kw, hgw⟩ := hc)
        | (intro V w' hc hp
           rw [hC] at hc
           obtain ⟨kw, hgw⟩ := hc
           have q0 := d0 w' kw
           have q := d w' kw
           try simp only [List.forall_mem_cons, tab_zero, tab_succ, isV] at hp
           try simp [wantsG, rhoP, List.lookup, hp, tab_zero, tab_succ, ResG, execOp, bareOp, isV, undef, Below.refl, q, q0, hki, go_sem])
        | skip
      · refine (Whole_calls t.e _ w' (HE.out _ kw) hst).mono ?_
        rintro e w'' ⟨v, rfl, ho, hb⟩
        exact ⟨v, rfl, entO_entF (by omega) ho, hb⟩
      · obtain ⟨⟨vf3, ve3, e3, hF⟩, h5, -⟩ := hp
        simp [e3, go_sem]
        exact ⟨⟨vf3, ve3, rfl, hF⟩, Below.refl _ _⟩
      · obtain ⟨⟨vf3, ve3, e3, hF⟩, -⟩ := hp
        have h0 := hF w' (UpB.rf _ _ _)
        generalize hA : rhoP [(24, 11)] _ V = ρ9
        have es4 : ρ9 (.tmp 4) = .pointer (some ⟨g4, 0, none⟩) := by rw [← hA]; rfl
        have ex4 : ρ9 (.tmp 24) = .agg (txA t vf3 ve3) := by rw [← hA]; exact e3
        obtain ⟨w'', hrun, hb2, hg2⟩ := exec_store (P := Try.prog) (ρ := ρ9) (.tmp 4) (.tmp 24) 39 0 39 g4 0 zTx (txA t vf3 ve3) es4 ex4 hD2 (by have := infoTx; cases hq : Try.prog.info? 39 with
          | none => rw [hq] at this; cases this
          | some i => rw [hq] at this; simp at this; simp [this.2.1]) (by simp) (txS.one (x := t) (w := w') ⟨vf3, ve3, rfl, h0.1, h0.2⟩)
        rw [hrun]
        have h9 := hF w'' (UpB.row hg2 hrow)
        refine ⟨trivial, ?_, ⟨vf3, ve3, hb2, h9.1, h9.2⟩, hg2⟩
        rw [hC]
        exact ⟨(UpB.of_mut hg2 0).k kw (by rintro b e; cases e; exact hrg), Nat.le_trans hgw hg2.size⟩
    intro V W hc hD1 hp
    have h13 := hp 13 (by simp)
    simp only [tab_zero, tab_succ, isV] at h13
    rw [hC] at hc
    have kW := hc.1
    obtain ⟨vf9, ve9, hb9, hf9, he9⟩ := hD1
    have HW : Hid (txv t (.agg (txA t vf9 ve9)) W) := Lib.hid ⟨vf9, ve9, rfl, hf9, he9⟩
    have e9 := hb9.cell
    clear hp hc hg hc0 hC hf9 he9
    simp only [putAll, Act.put, List.setIfInBounds_toArray, List.set_cons_succ, List.set_cons_zero]
    go_wp2
    refine bodyPost_ret (v := .tuple #[.agg (txA t vf9 ve9), .bool true]) (by simp [results, Try.results16, go_sem, e9, h13]) rfl ?_
    exact ⟨_, by rw [HQ.out], by rw [HQ.out]; exact HW.out, kW⟩
end Go.Proofs.Ytjcdgbnbaiebdaa
