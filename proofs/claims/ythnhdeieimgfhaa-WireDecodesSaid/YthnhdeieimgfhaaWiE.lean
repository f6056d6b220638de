/-
  The walks of wire's reader: below, readID, readVote (layer 13). Conditions: none.
-/
import Derived.Test.YthnhdeieimgfhaaWiB
import Derived.Test.YthnhdeieimgfhaaRegion5
import Derived.Test.YthnhdeieimgfhaaNG
set_option maxRecDepth 100000
namespace Go.Proofs.Ythnhdeieimgfhaa
open Go Go.RowKit

/-- A reader of a message: its block gw, that of its bytes g. -/
def RW (gw g : Nat) (n : Int) (l : List UInt8) (wr bd : Bool) (W : World) : Prop := Blk W gw 94 #[.pointer (some ⟨g, 0, none⟩), .int .i64 n, .bool bd] ∧ Rd W g l wr ∧ g < gw
abbrev XW (gw g : Nat) : Nat → Prop := fun k => k = g ∨ k = gw
section
variable {gw g : Nat} {n : Int} {l l' : List UInt8} {wr bd wr' bd' : Bool} {W W' : World} {X : Nat → Prop}
theorem RW.st (h : RW gw g n l wr bd W) (k : K W W') : RW gw g n l wr bd W' := ⟨h.1.below k h.1.lt, h.2.1.below k h.2.1.lt, h.2.2⟩
theorem RW.lt (h : RW gw g n l wr bd W) : gw < W.heap.size := h.1.lt
theorem Blk.upn {b : Nat} {t : TypeId} {cs : Array Value} (h : Blk W b t cs) (u : UpN X W W') (hb : ¬ X b) : Blk W' b t cs := (u.block b h.lt hb).trans h
theorem UpN.went (H : Went g l' wr' W W') (hX : X g) : UpN X W W' := UpN.of_mut H.2 (by rintro k e; cases e; exact hX)
theorem RW.went (h : RW gw g n l wr bd W) (H : Went g l' wr' W W') : RW gw g n l' wr' bd W' := ⟨h.1.went H (by have := h.2.2; omega), H.1, h.2.2⟩
theorem UpN.set1 {b : Nat} (hX : X b) (i : Nat) (u : Value) : UpN X W (W.setCell ⟨b, i, none⟩ u) := UpN.sets hX [u] i W
theorem RW.bad (h : RW gw g n l wr bd W) : RW gw g n l wr true (W.setCell ⟨gw, 2, none⟩ (.bool true)) :=
  ⟨h.1.set_ 2 _, h.2.1.set h.2.2 2 _, h.2.2⟩
theorem RW.far (h : RW gw g n l wr bd W) {b : Nat} (hb : gw < b) (i : Nat) (u : Value) : RW gw g n l wr bd (W.setCell ⟨b, i, none⟩ u) :=
  ⟨h.1.far (by simp; omega) u, h.2.1.set (by have := h.2.2; omega) i u, h.2.2⟩
theorem UpN.al (X : Nat → Prop) (W : World) (o : Obj) : UpN X W (W.alloc o) := UpN.of_k ((K.rf W).al o) X
/-- Cells of a block that was made since then. -/
theorem UpN.fresh {a : World} (u : UpN X a W) {b : Nat} (hb : a.heap.size ≤ b) (i : Nat) (v : Value) : UpN X a (W.setCell ⟨b, i, none⟩ v) :=
  ⟨u.os, u.tape, u.output, by simpa [World.setCell] using u.size, fun k hk hx => (Below.heap_setCell W ⟨b, i, none⟩ v k (by simp; omega)).trans (u.block k hk hx)⟩
end

set_option maxHeartbeats 1000000 in
theorem Below_calls (gw g : Nat) (n : Int) (l : List UInt8) (wr bd : Bool) (lim : Nat) (w : World) (h : RW gw g n l wr bd w) (_ : lim < 18446744073709551616) :
    Calls Try.prog 54 #[.pointer (some ⟨gw, 0, none⟩), .int .u64 (lim : Int)] w fun e w' =>
      e = .returned (.int .u64 ((rdBe lim l wr bd).1 : Int)) ∧ RW gw g n (rdBe lim l wr bd).2.1 (rdBe lim l wr bd).2.2.1 (rdBe lim l wr bd).2.2.2 w' ∧ UpN (XW gw g) w w' := by
  have C1 := Lib.hid (RNumber_calls g l wr w h.2.1)
  unfold rdBe
  generalize rdN l wr = a at *
  obtain ⟨x, l1, wr1⟩ := a
  simp only at C1 ⊢
  have q := h.1.cell
  by_cases hx : x < lim
  · have hx' : ¬ (lim : Int) ≤ (x : Int) := by omega
    rw [if_pos hx]
    simp only
    go_enter Try.func54, Try.ntmps54
    go_wp2_with fail
    refine C1.out.mono ?_
    rintro e w1 ⟨rfl, hw⟩
    have h1 := h.went hw
    have u1 := UpN.went (X := XW gw g) hw (.inl rfl)
    clear q
    go_wp2
    go_ret
    exact ⟨rfl, h1, u1⟩
  · have hx' : (lim : Int) ≤ (x : Int) := by omega
    rw [if_neg hx]
    simp only
    go_enter Try.func54, Try.ntmps54
    go_wp2_with fail
    refine C1.out.mono ?_
    rintro e w1 ⟨rfl, hw⟩
    have h1 := h.went hw
    have u1 := UpN.went (X := XW gw g) hw (.inl rfl)
    have q := h1.1.cell
    have z := h1.1.frozen
    go_wp2
    go_ret
    exact ⟨rfl, h1.bad, u1.tr (UpN.set1 (X := XW gw g) (.inr rfl) 2 _)⟩

set_option maxHeartbeats 2000000 in
theorem WReadID_calls (gw g : Nat) (n : Int) (l : List UInt8) (wr bd : Bool) (w : World) (h : RW gw g n l wr bd w) :
    Calls Try.prog 61 #[.pointer (some ⟨gw, 0, none⟩)] w fun e w' =>
      e = .returned (.agg (idA (rdId3 l wr bd).1)) ∧ RW gw g n (rdId3 l wr bd).2.1 (rdId3 l wr bd).2.2.1 (rdId3 l wr bd).2.2.2 w' ∧ UpN (XW gw g) w w' := by
  have C1 := fun W hW => Below_calls gw g n l wr bd 16 W hW (by omega)
  have hlt := rdBe_lt 16 (by omega) l wr bd
  unfold rdId3 rdMap rdTwo rdNu
  generalize rdBe 16 l wr bd = a at *
  obtain ⟨x, l1, wr1, bd1⟩ := a
  simp only at C1 hlt ⊢
  have C2 := RNumber_calls g l1 wr1
  generalize rdN l1 wr1 = a at *
  obtain ⟨y, l2, wr2⟩ := a
  simp only at C2 ⊢
  have C3 := RNumber_calls g l2 wr2
  generalize rdN l2 wr2 = a at *
  obtain ⟨z, l3, wr3⟩ := a
  simp only at C3 ⊢
  rw [show ((16 : Nat) : Int) = 16 from rfl] at C1
  replace C1 := Lib.hid C1
  replace C2 := Lib.hid C2
  replace C3 := Lib.hid C3
  have hwx : IntKind.i64.wrap (x : Int) = (x : Int) := by rw [IntKind.wrap_i64]; omega
  have hr0 := Blk.new w 53 #[.int .i64 0, .int .u64 0, .int .u64 0]
  have h0 := h.st ((K.rf w).al (.cells #[.int .i64 0, .int .u64 0, .int .u64 0] 53))
  have u0 := UpN.al (XW gw g) w (.cells #[.int .i64 0, .int .u64 0, .int .u64 0] 53)
  have hgw := h.lt
  have hgg := h.2.2
  clear h
  go_enter Try.func61, Try.ntmps61
  go_wp2_with fail
  generalize w.alloc _ = w1 at *
  refine (C1.out w1 h0).mono ?_
  rintro e w2 ⟨rfl, h2, u2⟩
  have hz1 : w.heap.size < w1.heap.size := hr0.lt
  have hr2 := hr0.upn u2 (by rintro (e | e) <;> omega)
  have u02 := u0.tr u2
  have hz2 := u2.size
  have hx3 := Blk.new w2 53 #[.int .i64 (x : Int), .int .u64 0, .int .u64 0]
  have hr3 := hr2.alloc (.cells #[.int .i64 (x : Int), .int .u64 0, .int .u64 0] 53)
  have h3 := h2.st ((K.rf w2).al (.cells #[.int .i64 (x : Int), .int .u64 0, .int .u64 0] 53))
  have u03 := u02.tr (UpN.al (XW gw g) w2 (.cells #[.int .i64 (x : Int), .int .u64 0, .int .u64 0] 53))
  clear h0 hr0 u0 hr2 h2 u2 u02 C1
  go_upto_region 2 with (fail)
  generalize w2.alloc _ = w3 at *
  have hz3 : w2.heap.size < w3.heap.size := hx3.lt
  generalize w2.heap.size = gi at *
  have q := h3.1.cell
  go_wp2_with fail
  refine (C2.out w3 h3.2.1).mono ?_
  rintro e w4 ⟨rfl, hw4⟩
  have h4 := h3.went hw4
  have hr4 := hr3.went hw4 (by omega)
  have hx4 := hx3.went hw4 (by omega)
  have u04 := u03.tr (UpN.went (X := XW gw g) hw4 (.inl rfl))
  clear q h3 hr3 hx3 u03 hw4 C2
  have q := hx4.cell
  have z1 := hx4.frozen
  go_upto_region 3 with (fail)
  have hx5 : Blk (w4.setCell ⟨gi, 1, none⟩ (.int .u64 (y : Int))) gi 53 #[.int .i64 (x : Int), .int .u64 (y : Int), .int .u64 0] := hx4.set_ 1 _
  have h5 := h4.far (b := gi) (by omega) 1 (.int .u64 (y : Int))
  have hr5 := hr4.far (p := ⟨gi, 1, none⟩) (by simp; omega) (.int .u64 (y : Int))
  have u05 := u04.fresh (b := gi) (by omega) 1 (.int .u64 (y : Int))
  clear q z1 hx4 h4 hr4 u04
  generalize w4.setCell _ _ = w5 at *
  have q := h5.1.cell
  go_wp2_with fail
  refine (C3.out w5 h5.2.1).mono ?_
  rintro e w6 ⟨rfl, hw6⟩
  have h6 := h5.went hw6
  have hr6 := hr5.went hw6 (by omega)
  have hx6 := hx5.went hw6 (by omega)
  have u06 := u05.tr (UpN.went (X := XW gw g) hw6 (.inl rfl))
  clear q h5 hr5 hx5 u05 hw6 C3
  have q := hx6.cell
  have z1 := hx6.frozen
  go_upto_region 4 with (fail)
  have hx7 : Blk (w6.setCell ⟨gi, 2, none⟩ (.int .u64 (z : Int))) gi 53 #[.int .i64 (x : Int), .int .u64 (y : Int), .int .u64 (z : Int)] := hx6.set_ 2 _
  have h7 := h6.far (b := gi) (by omega) 2 (.int .u64 (z : Int))
  have hr7 := hr6.far (p := ⟨gi, 2, none⟩) (by simp; omega) (.int .u64 (z : Int))
  have u07 := u06.fresh (b := gi) (by omega) 2 (.int .u64 (z : Int))
  clear q z1 hx6 h6 hr6 u06
  generalize w6.setCell _ _ = w7 at *
  have q := hx7.cell
  have y1 := hr7.cell
  have z1 := hr7.frozen
  go_wp2
  have hr9 := ((hr7.set_ 0 (.int .i64 (x : Int))).set_ 1 (.int .u64 (y : Int))).set_ 2 (.int .u64 (z : Int))
  have h9 := ((h7.far (b := w.heap.size) hgw 0 (.int .i64 (x : Int))).far (b := w.heap.size) hgw 1 (.int .u64 (y : Int))).far (b := w.heap.size) hgw 2 (.int .u64 (z : Int))
  have u09 := ((u07.fresh (b := w.heap.size) (Nat.le_refl _) 0 (.int .i64 (x : Int))).fresh (b := w.heap.size) (Nat.le_refl _) 1 (.int .u64 (y : Int))).fresh (b := w.heap.size) (Nat.le_refl _) 2 (.int .u64 (z : Int))
  have e9 := hr9.cell
  refine bodyPost_ret (v := .agg #[.int .i64 (x : Int), .int .u64 (y : Int), .int .u64 (z : Int)]) (by simp [results, Try.results61, go_sem, e9]) rfl ?_
  exact ⟨rfl, h9, u09⟩

set_option maxHeartbeats 2000000 in
theorem WReadVote_calls (gw g : Nat) (n : Int) (l : List UInt8) (wr bd : Bool) (w : World) (h : RW gw g n l wr bd w) :
    Calls Try.prog 57 #[.pointer (some ⟨gw, 0, none⟩)] w fun e w' =>
      e = .returned (.agg (voA (rdVo l wr bd).1)) ∧ RW gw g n (rdVo l wr bd).2.1 (rdVo l wr bd).2.2.1 (rdVo l wr bd).2.2.2 w' ∧ UpN (XW gw g) w w' := by
  have C1 := fun W hW => WReadID_calls gw g n l wr bd W hW
  unfold rdVo rdMap rdTwo
  generalize rdId3 l wr bd = a at *
  obtain ⟨x, l1, wr1, bd1⟩ := a
  simp only at C1 ⊢
  have C2 := fun W hW => Below_calls gw g n l1 wr1 bd1 2 W hW (by omega)
  have hlt := rdBe_lt 2 (by omega) l1 wr1 bd1
  generalize rdBe 2 l1 wr1 bd1 = a at *
  obtain ⟨y, l2, wr2, bd2⟩ := a
  simp only at C2 hlt ⊢
  rw [show ((2 : Nat) : Int) = 2 from rfl] at C2
  replace C1 := Lib.hid C1
  replace C2 := Lib.hid C2
  obtain ⟨b, hb⟩ : ∃ b : Bool, b = decide (y = 1) := ⟨_, rfl⟩
  have hyb : ((y : Int) == 1) = b := by rw [hb, Bool.eq_iff_iff]; simp; omega
  rw [← hb]
  clear hb
  have hr0 := Blk.new w 71 #[.int .i64 0, .int .u64 0, .int .u64 0, .bool false]
  have h0 := h.st ((K.rf w).al (.cells #[.int .i64 0, .int .u64 0, .int .u64 0, .bool false] 71))
  have u0 := UpN.al (XW gw g) w (.cells #[.int .i64 0, .int .u64 0, .int .u64 0, .bool false] 71)
  have hgw := h.lt
  have hgg := h.2.2
  clear h
  obtain ⟨x0, x1, x2⟩ := x
  go_enter Try.func57, Try.ntmps57
  go_wp2_with fail
  generalize w.alloc _ = w1 at *
  refine (C1.out w1 h0).mono ?_
  rintro e w2 ⟨rfl, h2, u2⟩
  have hz1 : w.heap.size < w1.heap.size := hr0.lt
  have hr2 := hr0.upn u2 (by rintro (e | e) <;> omega)
  have u02 := u0.tr u2
  have hz2 := u2.size
  have hx3 := Blk.new w2 71 #[.int .i64 x0, .int .u64 (x1 : Int), .int .u64 (x2 : Int), .bool false]
  have hr3 := hr2.alloc (.cells #[.int .i64 x0, .int .u64 (x1 : Int), .int .u64 (x2 : Int), .bool false] 71)
  have h3 := h2.st ((K.rf w2).al (.cells #[.int .i64 x0, .int .u64 (x1 : Int), .int .u64 (x2 : Int), .bool false] 71))
  have u03 := u02.tr (UpN.al (XW gw g) w2 (.cells #[.int .i64 x0, .int .u64 (x1 : Int), .int .u64 (x2 : Int), .bool false] 71))
  clear h0 hr0 u0 hr2 h2 u2 u02 C1
  go_upto_region 2 with (fail)
  generalize w2.alloc _ = w3 at *
  have hz3 : w2.heap.size < w3.heap.size := hx3.lt
  generalize w2.heap.size = gi at *
  go_wp2_with fail
  refine (C2.out w3 h3).mono ?_
  rintro e w4 ⟨rfl, h4, u4⟩
  have hr4 := hr3.upn u4 (by rintro (e | e) <;> omega)
  have hx4 := hx3.upn u4 (by rintro (e | e) <;> omega)
  have u04 := u03.tr u4
  clear h3 hr3 hx3 u03 u4 C2
  have q := hx4.cell
  have z1 := hx4.frozen
  go_upto_region 3 with (fail)
  have hx5 : Blk (w4.setCell ⟨gi, 3, none⟩ (.bool b)) gi 71 #[.int .i64 x0, .int .u64 (x1 : Int), .int .u64 (x2 : Int), .bool b] := hx4.set_ 3 _
  have h5 := h4.far (b := gi) (by omega) 3 (.bool b)
  have hr5 := hr4.far (p := ⟨gi, 3, none⟩) (by simp; omega) (.bool b)
  have u05 := u04.fresh (b := gi) (by omega) 3 (.bool b)
  clear q z1 hx4 h4 hr4 u04
  generalize w4.setCell _ _ = w5 at *
  have q := hx5.cell
  have y1 := hr5.cell
  have z1 := hr5.frozen
  go_wp2
  have hr9 := (((hr5.set_ 0 (.int .i64 x0)).set_ 1 (.int .u64 (x1 : Int))).set_ 2 (.int .u64 (x2 : Int))).set_ 3 (.bool b)
  have h9 := (((h5.far (b := w.heap.size) hgw 0 (.int .i64 x0)).far (b := w.heap.size) hgw 1 (.int .u64 (x1 : Int))).far (b := w.heap.size) hgw 2 (.int .u64 (x2 : Int))).far (b := w.heap.size) hgw 3 (.bool b)
  have u09 := (((u05.fresh (b := w.heap.size) (Nat.le_refl _) 0 (.int .i64 x0)).fresh (b := w.heap.size) (Nat.le_refl _) 1 (.int .u64 (x1 : Int))).fresh (b := w.heap.size) (Nat.le_refl _) 2 (.int .u64 (x2 : Int))).fresh (b := w.heap.size) (Nat.le_refl _) 3 (.bool b)
  have e9 := hr9.cell
  refine bodyPost_ret (v := .agg #[.int .i64 x0, .int .u64 (x1 : Int), .int .u64 (x2 : Int), .bool b]) (by simp [results, Try.results57, go_sem, e9]) rfl ?_
  exact ⟨rfl, h9, u09⟩
end Go.Proofs.Ythnhdeieimgfhaa
