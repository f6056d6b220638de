/-
  The walks of wire.list (layer 13). Conditions: at most a milliard bytes.
-/
import Derived.Test.YthnhdeieimgfhaaWiF
set_option maxRecDepth 100000
namespace Go.Proofs.Ythnhdeieimgfhaa
open Go Go.RowKit

theorem infoVo : (Try.prog.info? 71).map (fun i => (i.zero, i.size, i.bytes)) = some (some (.agg #[.int .i64 0, .int .u64 0, .int .u64 0, .bool false]), 4, 32) := by kernel_rfl
theorem TVote : SliceT Try.prog 24 71 (.agg #[.int .i64 0, .int .u64 0, .int .u64 0, .bool false]) 4 32 := ⟨Try.underlying24, infoVo, rfl, by decide⟩
theorem infoIdn : (Try.prog.info? 53).map (fun i => (i.zero, i.size, i.bytes)) = some (some (.agg #[.int .i64 0, .int .u64 0, .int .u64 0]), 3, 24) := by kernel_rfl
theorem TID : SliceT Try.prog 26 53 (.agg #[.int .i64 0, .int .u64 0, .int .u64 0]) 3 24 := ⟨Try.underlying26, infoIdn, rfl, by decide⟩
theorem infoEnt9 : (Try.prog.info? 58).map (fun i => (i.zero, i.size, i.bytes)) = some (some (.agg zEnt), 8, 96) := by kernel_rfl
theorem TEntry : SliceT Try.prog 25 58 (.agg zEnt) 8 96 := ⟨Try.underlying25, infoEnt9, rfl, by decide⟩
/-- A list that stays while what lies below a block changes. -/
def lstW {α : Type} (S : Shp α) (gb : Nat) (l : List α) (v : Value) (W : World) : Prop := ∀ W', UpN (fun k => k < gb) W W' → lst S l v W'

set_option maxHeartbeats 4000000 in
theorem WListVote_calls (gw g : Nat) (n : Int) (l : List UInt8) (wr0 bd0 : Bool) (w : World) (h : RW gw g n l wr0 bd0 w) (_ : l.length ≤ 1000000000) (_ : 0 ≤ n) (_ : n ≤ 1000000000) :
    Calls Try.prog 56 #[.pointer (some ⟨gw, 0, none⟩), .func (Fn.func 57) #[] #[]] w fun e w' =>
      ∃ v, e = .returned v ∧ lstW voS w.heap.size (rdLi rdVo l wr0 bd0).1 v w' ∧ RW gw g n (rdLi rdVo l wr0 bd0).2.1 (rdLi rdVo l wr0 bd0).2.2.1 (rdLi rdVo l wr0 bd0).2.2.2 w' ∧ UpN (XW gw g) w w' := by
  have C1 := Below_calls gw g n l wr0 bd0 17 w h (by omega)
  have hlt := rdBe_lt 17 (by omega) l wr0 bd0
  have hl1 := (rdBe_codec 17 (by omega)).len l wr0 bd0
  unfold rdLi
  generalize rdBe 17 l wr0 bd0 = a at *
  obtain ⟨M, l1, wr1, bd1⟩ := a
  simp only at C1 hlt hl1 ⊢
  rw [show ((17 : Nat) : Int) = 17 from rfl] at C1
  have C1 := Lib.hid C1
  have hgw := h.lt
  have hgg := h.2.2
  have HQ := Lib.hid (fun k => rdL3_len rdVo_codec k l1 wr1 bd1)
  clear h
  have HR : Hid (rdL3 rdVo M l1 wr1 bd1 = rdL3 rdVo M l1 wr1 bd1) := Lib.hid rfl
  generalize hRR : rdL3 rdVo M l1 wr1 bd1 = R at HR ⊢
  have HRR := Lib.hid hRR
  clear hRR HR
  go_enter Try.func56, Try.ntmps56
  go_wp2_with fail
  refine C1.out.mono ?_
  rintro e w1 ⟨rfl, h1, u1⟩
  have hz1 := u1.size
  go_wp2_with fail
  go_loopw [5, 8] (fun o i W => ∃ j : Nat, j ≤ M ∧ i = .int .u64 (j : Int) ∧ ∃ es lj wrj bdj, Hid (rdL3 rdVo j l1 wr1 bd1 = (es, lj, wrj, bdj)) ∧ RW gw g n lj wrj bdj W ∧ Hid (OwnL w.heap.size w.heap.size 71 voS es o W) ∧ UpN (XW gw g) w W) (fun _ i _ => M - (intOf i).toNat)
  case atStart => exact ⟨0, by omega, rfl, [], l1, wr1, bd1, Lib.hid rfl, h1, Lib.hid (OwnL.nil _ _ _ _ _), u1⟩
  case round =>
    clear h1 u1
    obtain ⟨j, hj, rfl, es, lj, wrj, bdj, HJ, hRW, HO, uj⟩ := hrel
    have hq := HQ.out j
    rw [HJ.out] at hq
    simp only at hq
    obtain ⟨hq1, hq2⟩ := hq
    have HQ2 := Lib.hid hq2
    have hes17 : es.length ≤ 17 := by omega
    clear hq2
    have hzj := uj.size
    by_cases hlt2 : j < M
    · have hji : (j : Int) < (M : Int) := by omega
      have HJ1 : Hid (rdL3 rdVo (j + 1) l1 wr1 bd1 = (es ++ [(rdVo lj wrj bdj).1], (rdVo lj wrj bdj).2)) := Lib.hid (by simp only [rdL3]; rw [HJ.out])
      go_wp2_with fail
      refine (WReadVote_calls gw g n lj wrj bdj wr hRW).mono ?_
      rintro e w4 ⟨rfl, hRW4, u4⟩
      generalize hX : rdVo lj wrj bdj = X at *
      obtain ⟨x, lk, wrk, bdk⟩ := X
      simp only at hRW4
      have HJ2 : Hid (rdL3 rdVo (j + 1) l1 wr1 bd1 = (es ++ [x], lk, wrk, bdk)) := Lib.hid (by have := HJ1.out; rw [this])
      have hO4 := HO.out.up (Nat.le_refl _) (u4.upB (lo := w.heap.size) (row := none) (fun k h1 _ _ hx => by rcases hx with hx | hx <;> omega))
      have hvc := HO.out.blk
      have hz4 := u4.size
      obtain ⟨css, hown, hcl, hEa⟩ := hO4
      have kA : K w4 (w4.alloc (.cells (voA x) 71)) := (K.rf w4).al _
      have hbase : w.heap.size ≤ (w4.alloc (.cells (voA x) 71)).heap.size := by have := kA.size; omega
      clear HO HJ HJ1 hX
      go_wp2_with (at_builtin; refine wpList_app rfl _ _ 24 rfl w.heap.size 71 _ 4 32 TVote _ _ _ rfl (World.ownsRow.alloc hown _) (w4.heap.size + 1) _ 1 1 (voA x).toList rfl ?c1 ?c2 ?c3 hbase ?_)
      case c1 => exact Reads.new w4 (voA x).toList 71 4 1 rfl
      case c2 => and_intros <;> rfl
      case c3 => omega
      intro v9 w9 hown9 hg9 hat9 hb9
      have hbel : Below w.heap.size (w4.alloc (.cells (voA x) 71)) w9 := hb9
      have hRW9 : RW gw g n lk wrk bdk w9 := by
        have h0 := hRW4.st kA
        exact ⟨h0.1.below hbel hgw, h0.2.1.below hbel (by omega), h0.2.2⟩
      have u9 : UpN (XW gw g) w w9 := by
        have u0 := (uj.tr u4).tr (UpN.of_k kA _)
        exact ⟨hbel.os.trans u0.os, hbel.tape.trans u0.tape, hbel.output.trans u0.output, Nat.le_trans u0.size hbel.size, fun k hk hx => (hbel.block k hk).trans (u0.block k hk hx)⟩
      have HO9 : Hid (OwnL w.heap.size w.heap.size 71 voS (es ++ [x]) v9 w9) := Lib.hid (OwnL.snoc (cs := (voA x).toList) hcl (fun w' u => hEa w' (UpB.tr (UpB.of_k kA _ _) u)) hown9 hg9 (by rw [World.size_alloc]; exact hat9) (fun w' u => rfl))
      clear hown9 hg9 hat9 hb9 hown hEa hRW hRW4
      go_wp2
      go_roundw
      case rel => exact ⟨j + 1, by omega, by go_num, es ++ [x], lk, wrk, bdk, HJ2, hRW9, HO9, u9⟩
      case measure => simp [intOf]; omega
    · have hji : ¬ (j : Int) < (M : Int) := by omega
      obtain rfl : j = M := by omega
      have hR := HJ.out.symm.trans HRR.out
      obtain rfl := hR
      have HL : Hid (lstW voS w.heap.size es u5 wr) := Lib.hid fun W' u => (HO.out.up (Nat.le_refl _) (u.upB (lo := w.heap.size) (row := none) (fun k h1 _ _ hx => by omega))).lst
      clear HO HJ HRR HQ
      go_wp2
      go_ret
      exact ⟨_, rfl, HL.out, hRW, uj⟩

set_option maxHeartbeats 4000000 in
theorem WListID_calls (gw g : Nat) (n : Int) (l : List UInt8) (wr0 bd0 : Bool) (w : World) (h : RW gw g n l wr0 bd0 w) (_ : l.length ≤ 1000000000) (_ : 0 ≤ n) (_ : n ≤ 1000000000) :
    Calls Try.prog 60 #[.pointer (some ⟨gw, 0, none⟩), .func (Fn.func 61) #[] #[]] w fun e w' =>
      ∃ v, e = .returned v ∧ lstW idS w.heap.size (rdLi rdId3 l wr0 bd0).1 v w' ∧ RW gw g n (rdLi rdId3 l wr0 bd0).2.1 (rdLi rdId3 l wr0 bd0).2.2.1 (rdLi rdId3 l wr0 bd0).2.2.2 w' ∧ UpN (XW gw g) w w' := by
  have C1 := Below_calls gw g n l wr0 bd0 17 w h (by omega)
  have hlt := rdBe_lt 17 (by omega) l wr0 bd0
  have hl1 := (rdBe_codec 17 (by omega)).len l wr0 bd0
  unfold rdLi
  generalize rdBe 17 l wr0 bd0 = a at *
  obtain ⟨M, l1, wr1, bd1⟩ := a
  simp only at C1 hlt hl1 ⊢
  rw [show ((17 : Nat) : Int) = 17 from rfl] at C1
  have C1 := Lib.hid C1
  have hgw := h.lt
  have hgg := h.2.2
  have HQ := Lib.hid (fun k => rdL3_len rdId3_codec k l1 wr1 bd1)
  clear h
  have HR : Hid (rdL3 rdId3 M l1 wr1 bd1 = rdL3 rdId3 M l1 wr1 bd1) := Lib.hid rfl
  generalize hRR : rdL3 rdId3 M l1 wr1 bd1 = R at HR ⊢
  have HRR := Lib.hid hRR
  clear hRR HR
  go_enter Try.func60, Try.ntmps60
  go_wp2_with fail
  refine C1.out.mono ?_
  rintro e w1 ⟨rfl, h1, u1⟩
  have hz1 := u1.size
  go_wp2_with fail
  go_loopw [5, 8] (fun o i W => ∃ j : Nat, j ≤ M ∧ i = .int .u64 (j : Int) ∧ ∃ es lj wrj bdj, Hid (rdL3 rdId3 j l1 wr1 bd1 = (es, lj, wrj, bdj)) ∧ RW gw g n lj wrj bdj W ∧ Hid (OwnL w.heap.size w.heap.size 53 idS es o W) ∧ UpN (XW gw g) w W) (fun _ i _ => M - (intOf i).toNat)
  case atStart => exact ⟨0, by omega, rfl, [], l1, wr1, bd1, Lib.hid rfl, h1, Lib.hid (OwnL.nil _ _ _ _ _), u1⟩
  case round =>
    clear h1 u1
    obtain ⟨j, hj, rfl, es, lj, wrj, bdj, HJ, hRW, HO, uj⟩ := hrel
    have hq := HQ.out j
    rw [HJ.out] at hq
    simp only at hq
    obtain ⟨hq1, hq2⟩ := hq
    have HQ2 := Lib.hid hq2
    have hes17 : es.length ≤ 17 := by omega
    clear hq2
    have hzj := uj.size
    by_cases hlt2 : j < M
    · have hji : (j : Int) < (M : Int) := by omega
      have HJ1 : Hid (rdL3 rdId3 (j + 1) l1 wr1 bd1 = (es ++ [(rdId3 lj wrj bdj).1], (rdId3 lj wrj bdj).2)) := Lib.hid (by simp only [rdL3]; rw [HJ.out])
      go_wp2_with fail
      refine (WReadID_calls gw g n lj wrj bdj wr hRW).mono ?_
      rintro e w4 ⟨rfl, hRW4, u4⟩
      generalize hX : rdId3 lj wrj bdj = X at *
      obtain ⟨x, lk, wrk, bdk⟩ := X
      simp only at hRW4
      have HJ2 : Hid (rdL3 rdId3 (j + 1) l1 wr1 bd1 = (es ++ [x], lk, wrk, bdk)) := Lib.hid (by have := HJ1.out; rw [this])
      have hO4 := HO.out.up (Nat.le_refl _) (u4.upB (lo := w.heap.size) (row := none) (fun k h1 _ _ hx => by rcases hx with hx | hx <;> omega))
      have hvc := HO.out.blk
      have hz4 := u4.size
      obtain ⟨css, hown, hcl, hEa⟩ := hO4
      have kA : K w4 (w4.alloc (.cells (idA x) 53)) := (K.rf w4).al _
      have hbase : w.heap.size ≤ (w4.alloc (.cells (idA x) 53)).heap.size := by have := kA.size; omega
      clear HO HJ HJ1 hX
      go_wp2_with (at_builtin; refine wpList_app rfl _ _ 26 rfl w.heap.size 53 _ 3 24 TID _ _ _ rfl (World.ownsRow.alloc hown _) (w4.heap.size + 1) _ 1 1 (idA x).toList rfl ?c1 ?c2 ?c3 hbase ?_)
      case c1 => exact Reads.new w4 (idA x).toList 53 3 1 rfl
      case c2 => and_intros <;> rfl
      case c3 => omega
      intro v9 w9 hown9 hg9 hat9 hb9
      have hbel : Below w.heap.size (w4.alloc (.cells (idA x) 53)) w9 := hb9
      have hRW9 : RW gw g n lk wrk bdk w9 := by
        have h0 := hRW4.st kA
        exact ⟨h0.1.below hbel hgw, h0.2.1.below hbel (by omega), h0.2.2⟩
      have u9 : UpN (XW gw g) w w9 := by
        have u0 := (uj.tr u4).tr (UpN.of_k kA _)
        exact ⟨hbel.os.trans u0.os, hbel.tape.trans u0.tape, hbel.output.trans u0.output, Nat.le_trans u0.size hbel.size, fun k hk hx => (hbel.block k hk).trans (u0.block k hk hx)⟩
      have HO9 : Hid (OwnL w.heap.size w.heap.size 53 idS (es ++ [x]) v9 w9) := Lib.hid (OwnL.snoc (cs := (idA x).toList) hcl (fun w' u => hEa w' (UpB.tr (UpB.of_k kA _ _) u)) hown9 hg9 (by rw [World.size_alloc]; exact hat9) (fun w' u => rfl))
      clear hown9 hg9 hat9 hb9 hown hEa hRW hRW4
      go_wp2
      go_roundw
      case rel => exact ⟨j + 1, by omega, by go_num, es ++ [x], lk, wrk, bdk, HJ2, hRW9, HO9, u9⟩
      case measure => simp [intOf]; omega
    · have hji : ¬ (j : Int) < (M : Int) := by omega
      obtain rfl : j = M := by omega
      have hR := HJ.out.symm.trans HRR.out
      obtain rfl := hR
      have HL : Hid (lstW idS w.heap.size es u5 wr) := Lib.hid fun W' u => (HO.out.up (Nat.le_refl _) (u.upB (lo := w.heap.size) (row := none) (fun k h1 _ _ hx => by omega))).lst
      clear HO HJ HRR HQ
      go_wp2
      go_ret
      exact ⟨_, rfl, HL.out, hRW, uj⟩

set_option maxHeartbeats 4000000 in
theorem WListEntry_calls (gw g : Nat) (n : Int) (l : List UInt8) (wr0 bd0 : Bool) (w : World) (h : RW gw g n l wr0 bd0 w) (hl : l.length ≤ 1000000000) (hn0 : 0 ≤ n) (hn1 : n ≤ 1000000000) :
    Calls Try.prog 58 #[.pointer (some ⟨gw, 0, none⟩), .func (Fn.func 59) #[] #[]] w fun e w' =>
      ∃ v, e = .returned v ∧ lstW enS w.heap.size (rdLi (rdEb n) l wr0 bd0).1 v w' ∧ RW gw g n (rdLi (rdEb n) l wr0 bd0).2.1 (rdLi (rdEb n) l wr0 bd0).2.2.1 (rdLi (rdEb n) l wr0 bd0).2.2.2 w' ∧ UpN (XW gw g) w w' := by
  have C1 := Below_calls gw g n l wr0 bd0 17 w h (by omega)
  have hlt := rdBe_lt 17 (by omega) l wr0 bd0
  have hl1 := (rdBe_codec 17 (by omega)).len l wr0 bd0
  unfold rdLi
  generalize rdBe 17 l wr0 bd0 = a at *
  obtain ⟨M, l1, wr1, bd1⟩ := a
  simp only at C1 hlt hl1 ⊢
  rw [show ((17 : Nat) : Int) = 17 from rfl] at C1
  have C1 := Lib.hid C1
  have hgw := h.lt
  have hgg := h.2.2
  have HQ := Lib.hid (fun k => rdL3_len (rdEb_codec n) k l1 wr1 bd1)
  clear h
  have HR : Hid (rdL3 (rdEb n) M l1 wr1 bd1 = rdL3 (rdEb n) M l1 wr1 bd1) := Lib.hid rfl
  generalize hRR : rdL3 (rdEb n) M l1 wr1 bd1 = R at HR ⊢
  have HRR := Lib.hid hRR
  clear hRR HR
  go_enter Try.func58, Try.ntmps58
  go_wp2_with fail
  refine C1.out.mono ?_
  rintro e w1 ⟨rfl, h1, u1⟩
  have hz1 := u1.size
  go_wp2_with fail
  go_loopw [5, 8] (fun o i W => ∃ j : Nat, j ≤ M ∧ i = .int .u64 (j : Int) ∧ ∃ es lj wrj bdj, Hid (rdL3 (rdEb n) j l1 wr1 bd1 = (es, lj, wrj, bdj)) ∧ RW gw g n lj wrj bdj W ∧ Hid (OwnL w.heap.size w.heap.size 58 enS es o W) ∧ UpN (XW gw g) w W) (fun _ i _ => M - (intOf i).toNat)
  case atStart => exact ⟨0, by omega, rfl, [], l1, wr1, bd1, Lib.hid rfl, h1, Lib.hid (OwnL.nil _ _ _ _ _), u1⟩
  case round =>
    clear h1 u1
    obtain ⟨j, hj, rfl, es, lj, wrj, bdj, HJ, hRW, HO, uj⟩ := hrel
    have hq := HQ.out j
    rw [HJ.out] at hq
    simp only at hq
    obtain ⟨hq1, hq2⟩ := hq
    have HQ2 := Lib.hid hq2
    have hes17 : es.length ≤ 17 := by omega
    clear hq2
    have hzj := uj.size
    by_cases hlt2 : j < M
    · have hji : (j : Int) < (M : Int) := by omega
      have HJ1 : Hid (rdL3 (rdEb n) (j + 1) l1 wr1 bd1 = (es ++ [((rdEb n) lj wrj bdj).1], ((rdEb n) lj wrj bdj).2)) := Lib.hid (by simp only [rdL3]; rw [HJ.out])
      go_wp2_with fail
      refine (WReadEntry_calls gw g n lj wrj bdj wr hRW (by omega) hn0 hn1).mono ?_
      rintro e w4 ⟨v4, rfl, hent, hRW4, u4⟩
      generalize hX : rdEb n lj wrj bdj = X at *
      obtain ⟨x, lk, wrk, bdk⟩ := X
      simp only at hent hRW4
      obtain ⟨vf, ve, rfl, hf, he⟩ := hent w4 (UpN.rf _ _)
      obtain ⟨Af, cf, rfl⟩ := flt_slice hf
      obtain ⟨Ae, ce, rfl⟩ := lst_slice he
      have HEN := Lib.hid hent
      clear hent hf he
      have HJ2 : Hid (rdL3 (rdEb n) (j + 1) l1 wr1 bd1 = (es ++ [x], lk, wrk, bdk)) := Lib.hid (by have := HJ1.out; rw [this])
      have hO4 := HO.out.up (Nat.le_refl _) (u4.upB (lo := w.heap.size) (row := none) (fun k h1 _ _ hx => by rcases hx with hx | hx <;> omega))
      have hvc := HO.out.blk
      have hz4 := u4.size
      obtain ⟨css, hown, hcl, hEa⟩ := hO4
      have kA : K w4 (w4.alloc (.cells (entA x (.slice Af x.f.length cf) (.slice Ae x.es.length ce)) 58)) := (K.rf w4).al _
      have hbase : w.heap.size ≤ (w4.alloc (.cells (entA x (.slice Af x.f.length cf) (.slice Ae x.es.length ce)) 58)).heap.size := by have := kA.size; omega
      clear HO HJ HJ1 hX
      go_wp2_with (at_builtin; refine wpList_app rfl _ _ 25 rfl w.heap.size 58 _ 8 96 TEntry _ _ _ rfl (World.ownsRow.alloc hown _) (w4.heap.size + 1) _ 1 1 (entA x (.slice Af x.f.length cf) (.slice Ae x.es.length ce)).toList rfl ?c1 ?c2 ?c3 hbase ?_)
      case c1 => exact Reads.new w4 (entA x (.slice Af x.f.length cf) (.slice Ae x.es.length ce)).toList 58 8 1 rfl
      case c2 => and_intros <;> rfl
      case c3 => omega
      intro v9 w9 hown9 hg9 hat9 hb9
      have hbel : Below w.heap.size (w4.alloc (.cells (entA x (.slice Af x.f.length cf) (.slice Ae x.es.length ce)) 58)) w9 := hb9
      have hRW9 : RW gw g n lk wrk bdk w9 := by
        have h0 := hRW4.st kA
        exact ⟨h0.1.below hbel hgw, h0.2.1.below hbel (by omega), h0.2.2⟩
      have u9 : UpN (XW gw g) w w9 := by
        have u0 := (uj.tr u4).tr (UpN.of_k kA _)
        exact ⟨hbel.os.trans u0.os, hbel.tape.trans u0.tape, hbel.output.trans u0.output, Nat.le_trans u0.size hbel.size, fun k hk hx => (hbel.block k hk).trans (u0.block k hk hx)⟩
      have HO9 : Hid (OwnL w.heap.size w.heap.size 58 enS (es ++ [x]) v9 w9) := Lib.hid (OwnL.snoc (cs := (entA x (.slice Af x.f.length cf) (.slice Ae x.es.length ce)).toList) hcl (fun w' u => hEa w' (UpB.tr (UpB.of_k kA _ _) u)) hown9 hg9 (by rw [World.size_alloc]; exact hat9) (fun w' u => by
          obtain ⟨vf, ve, e9, h1, h2⟩ := HEN.out w' ⟨u.os, u.tape, u.output, Nat.le_trans kA.size u.size, fun k hk hx => (u.block k (by omega) (Nat.lt_of_lt_of_le hk kA.size) (by intro e; have := hvc k e.symm; omega)).trans (kA.block k hk)⟩
          simp only [Value.agg.injEq, Array.mk.injEq, List.cons.injEq, and_true, true_and] at e9
          obtain ⟨rfl, rfl⟩ := e9
          exact ⟨_, _, rfl, h1, h2⟩))
      clear hown9 hg9 hat9 hb9 hown hEa hRW hRW4
      go_wp2
      go_roundw
      case rel => exact ⟨j + 1, by omega, by go_num, es ++ [x], lk, wrk, bdk, HJ2, hRW9, HO9, u9⟩
      case measure => simp [intOf]; omega
    · have hji : ¬ (j : Int) < (M : Int) := by omega
      obtain rfl : j = M := by omega
      have hR := HJ.out.symm.trans HRR.out
      obtain rfl := hR
      have HL : Hid (lstW enS w.heap.size es u5 wr) := Lib.hid fun W' u => (HO.out.up (Nat.le_refl _) (u.upB (lo := w.heap.size) (row := none) (fun k h1 _ _ hx => by omega))).lst
      clear HO HJ HRR HQ
      go_wp2
      go_ret
      exact ⟨_, rfl, HL.out, hRW, uj⟩
end Go.Proofs.Ythnhdeieimgfhaa
