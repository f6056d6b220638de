/-
  The walks of entry.number, small, readID and may (layer 11). Conditions: none.
-/
import Derived.Test.YtjcdgbnbaiebdaaEnC
set_option maxRecDepth 100000
namespace Go.Proofs.Ytjcdgbnbaiebdaa
open Go Go.RowKit

/-- A region that draws its order and only makes memory, seen from the world at its head. -/
theorem wp_region_K {P : Program} {Q : Exit → Act → World → Prop} {id : Nat} {ops : Array Oper} {a0 : Act} {w : World} (l : List (Value → World → Prop)) (pl : List (List Nat × List (Nat × Nat)))
    (n : Nat) (hn : a0.tmps.size = n) (hm : P.follows .mixedOrders = true) (hok : regionOk ops n = true) (hpl : planOk ops pl = true)
    (st : ∀ f ∈ l, ∀ v w w', f v w → Below w.heap.size w w' → f v w')
    (owed : OwedQ P a0 (K w) (tab l) 0 ops.toList pl)
    (fin : ∀ (V : Nat → Value) (W : World), K w W → (∀ j, j < ops.size → tab l j (V j) W) → Q .normal (putAll V ops.toList 0 a0) W) :
    (Code.region id ops true).wp P Q a0 w :=
  wp_region_grow (K w) l pl n hn hm hok hpl (fun _ _ h k => h.tr k) (K.rf w).drew st owed fin

/-- An ID's bytes. -/
def encId (a : Idn) : List UInt8 := packN (kindN a.1) ++ (packN a.2.1 ++ packN a.2.2)
set_option maxHeartbeats 1000000 in
theorem Nnumber_calls (l : List UInt8) (v : Value) (a : Idn) (w : World) (h : sl l v w) (hl : l.length ≤ 900000000) (hf : fitI a) :
    Calls Try.prog 43 #[v, idv a] w fun e w' => ∃ v', e = .returned v' ∧ Own w' w.heap.size 5 v' (l ++ encId a) ∧ K w w' := by
  obtain ⟨A, c, rfl, hR⟩ := h
  obtain ⟨b, li, se⟩ := a
  obtain ⟨h0, h1, h2⟩ := hf
  simp only at h0 h1 h2
  have p0 := packN_len (kindN b) (kindN_lt b)
  have p1 := packN_len li h1
  have p2 := packN_len se h2
  have hx := Blk.new w 26 #[.int .i64 b, .int .u64 (li : Int), .int .u64 (se : Int)]
  have k1 : K w (w.alloc (.cells #[.int .i64 b, .int .u64 (li : Int), .int .u64 (se : Int)] 26)) := (K.rf w).al _
  have hR1 := (hR.below k1 (Nat.le_refl _)).more k1.size
  go_enter Try.func43, Try.ntmps43
  go_wp2_with fail
  generalize w.alloc _ = w1 at *
  have qx := hx.cells
  rw [u64_wrap b]
  refine (Number_calls A _ c l (kindN b) (kindN_lt b) w1 _ hR1 (Nat.le_refl _) (by omega)).mono ?_
  rintro e w2 ⟨v2, rfl, ho2, k2⟩
  obtain ⟨A2, c2, rfl, hR2⟩ := (sl_own ho2)
  have hl2 : (l ++ packN (kindN b)).length ≤ 900000009 := by simp; omega
  generalize hm2 : (l ++ packN (kindN b)).length = m2 at *
  clear hm2
  go_wp2_with fail
  refine (Number_calls A2 m2 c2 _ li h1 w2 _ hR2 (Nat.le_refl _) (by omega)).mono ?_
  rintro e w3 ⟨v3, rfl, ho3, k3⟩
  replace k2 := k2.tr k3
  obtain ⟨A3, c3, rfl, hR3⟩ := (sl_own ho3)
  have hl3 : (l ++ packN (kindN b) ++ packN li).length ≤ 900000018 := by simp; omega
  generalize hm3 : (l ++ packN (kindN b) ++ packN li).length = m3 at *
  clear hm3
  go_wp2_with fail
  refine (Number_calls A3 m3 c3 _ se h2 w3 _ hR3 (Nat.le_refl _) (by omega)).mono ?_
  rintro e w4 ⟨v4, rfl, ho4, k4⟩
  have kk := k1.tr (k2.tr k4)
  go_wp2
  go_ret
  refine ⟨_, rfl, own_base ?_ ho4 (by simp [encId]), kk⟩
  exact Nat.le_trans k1.size k2.size

set_option maxHeartbeats 400000 in
theorem Small_calls (g : Nat) (l : List UInt8) (wr : Bool) (n : Nat) (w : World) (h : Rd w g l wr) (hn : n ≤ 1000000) :
    Calls Try.prog 56 #[.pointer (some ⟨g, 0, none⟩), .int .i64 (n : Int)] w fun e w' => e = .returned (.int .i64 ((min (rdN l wr).1 n : Nat) : Int)) ∧ Went g (rdN l wr).2.1 (rdN l wr).2.2 w w' := by
  have C1 := Lib.hid (RNumber_calls g l wr w h)
  have hlt := rdN_lt l wr
  clear h
  generalize rdN l wr = a at *
  obtain ⟨x, l1, wr1⟩ := a
  simp only at C1 hlt ⊢
  by_cases hx : n < x
  · have hx' : (n : Int) < (x : Int) := by omega
    rw [show min x n = n by omega]
    go_enter Try.func56, Try.ntmps56
    go_wp2_with fail
    refine C1.out.mono ?_
    rintro e w1 ⟨rfl, hw⟩
    go_wp2
    go_ret
    exact ⟨rfl, hw⟩
  · have hx' : ¬ (n : Int) < (x : Int) := by omega
    rw [show min x n = x by omega]
    go_enter Try.func56, Try.ntmps56
    go_wp2_with fail
    refine C1.out.mono ?_
    rintro e w1 ⟨rfl, hw⟩
    go_wp2
    go_ret
    exact ⟨rfl, hw⟩

theorem Blk.went {w w' : World} {g b : Nat} {t : TypeId} {cs : Array Value} {l : List UInt8} {wr : Bool} (h : Blk w b t cs) (k : Went g l wr w w') (hne : b ≠ g) : Blk w' b t cs := h.grown k.2 (by simpa using hne)
theorem Rd.al {w : World} {g : Nat} {l : List UInt8} {wr : Bool} (h : Rd w g l wr) (o : Obj) : Rd (w.alloc o) g l wr := h.below ((K.rf w).al o) h.lt
theorem Rd.set {w : World} {g b : Nat} {l : List UInt8} {wr : Bool} (h : Rd w g l wr) (hb : g < b) (i : Nat) (u : Value) : Rd (w.setCell ⟨b, i, none⟩ u) g l wr := h.below (Below.setCell (Below.refl b w) (Nat.le_refl _) u) hb
/-- An ID as a reader reads it. -/
def rdId : Rdr Idn := fun l wr =>
  (((min (rdN l wr).1 16 : Nat), (rdN (rdN l wr).2.1 (rdN l wr).2.2).1, (rdN (rdN (rdN l wr).2.1 (rdN l wr).2.2).2.1 (rdN (rdN l wr).2.1 (rdN l wr).2.2).2.2).1),
    (rdN (rdN (rdN l wr).2.1 (rdN l wr).2.2).2.1 (rdN (rdN l wr).2.1 (rdN l wr).2.2).2.2).2)
set_option maxHeartbeats 1000000 in
theorem ReadID_calls (g : Nat) (l : List UInt8) (wr : Bool) (w : World) (h : Rd w g l wr) :
    Calls Try.prog 57 #[.pointer (some ⟨g, 0, none⟩)] w fun e w' => e = .returned (idv (rdId l wr).1) ∧ Went g (rdId l wr).2.1 (rdId l wr).2.2 w w' := by
  have hgl := h.lt
  have hr0 := Blk.new w 26 #[.int .i64 0, .int .u64 0, .int .u64 0]
  have hm0 : w.grownBy (w.alloc (.cells #[.int .i64 0, .int .u64 0, .int .u64 0] 26)) (some g) := mut_alloc (mut_refl w _) _
  have h0 := h.al (.cells #[.int .i64 0, .int .u64 0, .int .u64 0] 26)
  have hz1 : w.heap.size < (w.alloc (.cells #[.int .i64 0, .int .u64 0, .int .u64 0] 26)).heap.size := by simp
  have C1 := fun W hW => Small_calls g l wr 16 W hW (by omega)
  unfold rdId
  generalize rdN l wr = a at *
  obtain ⟨x, l1, wr1⟩ := a
  simp only at C1 ⊢
  have C2 := RNumber_calls g l1 wr1
  generalize rdN l1 wr1 = a at *
  obtain ⟨y, l2, wr2⟩ := a
  simp only at C2 ⊢
  have C3 := RNumber_calls g l2 wr2
  generalize rdN l2 wr2 = a at *
  obtain ⟨z, l3, wr3⟩ := a
  simp only at C3 ⊢
  replace C1 := Lib.hid C1
  replace C2 := Lib.hid C2
  replace C3 := Lib.hid C3
  go_enter Try.func57, Try.ntmps57
  go_wp2_with fail
  generalize w.alloc _ = w1 at *
  refine (C1.out w1 h0).mono ?_
  rintro e w2 ⟨rfl, hw2⟩
  have hr2 := hr0.went hw2 (by omega)
  have hm2 := mut_trans hm0 hw2.2
  have hz2 := hw2.2.size
  have hn2 := hw2.1
  clear hw2 hr0 hm0 h0 h
  go_wp2_with fail
  have hx3 := Blk.new w2 26 #[.int .i64 ((min x 16 : Nat) : Int), .int .u64 0, .int .u64 0]
  have hr3 := hr2.alloc (.cells #[.int .i64 ((min x 16 : Nat) : Int), .int .u64 0, .int .u64 0] 26)
  have hn3 := hn2.al (.cells #[.int .i64 ((min x 16 : Nat) : Int), .int .u64 0, .int .u64 0] 26)
  have hm3 := mut_alloc hm2 (.cells #[.int .i64 ((min x 16 : Nat) : Int), .int .u64 0, .int .u64 0] 26)
  have hz3 : w2.heap.size < (w2.alloc (.cells #[.int .i64 ((min x 16 : Nat) : Int), .int .u64 0, .int .u64 0] 26)).heap.size := by simp
  clear hn2 hr2 hm2
  generalize w2.alloc _ = w3 at *
  generalize hh : w2.heap.size = h at *
  clear hh
  refine (C2.out w3 hn3).mono ?_
  rintro e w4 ⟨rfl, hw4⟩
  have hx4 := hx3.went hw4 (by omega)
  have hr4 := hr3.went hw4 (by omega)
  have hm4 := mut_trans hm3 hw4.2
  have hn4 := hw4.1
  have hz4 := hw4.2.size
  have q1 := hx4.cell 1
  have z1 := hx4.frozen 1
  simp at q1
  clear hw4 hx3 hr3 hm3 hn3
  go_upto_region 3 with (fail)
  have hx5 := hx4.set_ 1 (.int .u64 (y : Int))
  have hr5 := hr4.far (p := ⟨h, 1, none⟩) (by simp; omega) (.int .u64 (y : Int))
  have hm5 := mut_new hm4 (p := ⟨h, 1, none⟩) (by simp; omega) (.int .u64 (y : Int))
  have hn5 := hn4.set (b := h) (by omega) 1 (.int .u64 (y : Int))
  have hz5 : w4.heap.size ≤ (w4.setCell ⟨h, 1, none⟩ (.int .u64 (y : Int))).heap.size := by simp [World.setCell]
  clear hx4 hr4 hm4 hn4 q1 z1
  generalize w4.setCell _ _ = w5 at *
  go_wp2_with fail
  refine (C3.out w5 hn5).mono ?_
  rintro e w6 ⟨rfl, hw6⟩
  have hx6 := hx5.went hw6 (by omega)
  have hr6 := hr5.went hw6 (by omega)
  have hm6 := mut_trans hm5 hw6.2
  have hn6 := hw6.1
  have hz6 := hw6.2.size
  have q0 := hx6.cell 0
  have q1 := hx6.cell 1
  have q2 := hx6.cell 2
  have z2 := hx6.frozen 2
  simp at q0 q1 q2
  clear hw6 hx5 hr5 hm5 hn5
  go_upto_region 4 with (fail)
  have hx7 := hx6.set_ 2 (.int .u64 (z : Int))
  have hr7 := hr6.far (p := ⟨h, 2, none⟩) (by simp; omega) (.int .u64 (z : Int))
  have hm7 := mut_new hm6 (p := ⟨h, 2, none⟩) (by simp; omega) (.int .u64 (z : Int))
  have hn7 := hn6.set (b := h) (by omega) 2 (.int .u64 (z : Int))
  have hz7 : w6.heap.size ≤ (w6.setCell ⟨h, 2, none⟩ (.int .u64 (z : Int))).heap.size := by simp [World.setCell]
  clear hx6 hr6 hm6 hn6 q0 q1 q2 z2
  generalize w6.setCell _ _ = w7 at *
  have q0 := hx7.cell 0
  have q1 := hx7.cell 1
  have q2 := hx7.cell 2
  simp at q0 q1 q2
  have r0 := hr7.cell 0
  have r1 := hr7.cell 1
  have r2 := hr7.cell 2
  have y0 := hr7.frozen 0
  have y1 := hr7.frozen 1
  have y2 := hr7.frozen 2
  simp at r0 r1 r2
  go_wp2
  have hr8 := ((hr7.set_ 0 (.int .i64 ((min x 16 : Nat) : Int))).set_ 1 (.int .u64 (y : Int))).set_ 2 (.int .u64 (z : Int))
  have e0 := hr8.cell 0
  have e1 := hr8.cell 1
  have e2 := hr8.cell 2
  simp at e0 e1 e2
  refine bodyPost_ret (v := idv ((min x 16 : Nat), y, z)) (by simp [results, Try.results57, go_sem, e0, e1, e2]) rfl ?_
  refine ⟨rfl, ?_, ?_⟩
  · exact ((hn7.set (by omega) _ _).set (by omega) _ _).set (by omega) _ _
  · exact mut_new (mut_new (mut_new hm7 (by simp) _) (by simp) _) (by simp) _
end Go.Proofs.Ytjcdgbnbaiebdaa
