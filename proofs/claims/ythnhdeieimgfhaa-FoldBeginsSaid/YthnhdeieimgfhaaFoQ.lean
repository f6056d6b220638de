/-
  The walk of fold.Records (layer 16). Conditions: the state's records may be.
-/
import Derived.Test.YthnhdeieimgfhaaFoP
set_option maxRecDepth 100000
namespace Go.Proofs.Ythnhdeieimgfhaa
open Go Go.RowKit

/-- The fewest records that make a state. -/
def recL (l : List Ent) : List Rec := l.zipIdx.map fun p => ⟨2, p.2, p.1, 0, 0, 0⟩
def recP (l : List Ent) : List Rec := l.map fun x => ⟨3, 0, x, 0, 0, 0⟩
def recB (l : List Idn) : List Rec := l.map fun a => ⟨4, 0, ent0, a.1, a.2.1, a.2.2⟩
def rec1 (n : Nat) : List Rec := if n = 0 then [] else [⟨1, n, ent0, 0, 0, 0⟩]
def recsS (s : Stt) : List Rec := rec1 s.life ++ recL s.list ++ recP s.prom ++ recB s.ab
theorem recL_snoc (l : List Ent) (j : Nat) (h : j < l.length) : recL (l.take (j + 1)) = recL (l.take j) ++ [⟨2, j, l[j], 0, 0, 0⟩] := by
  unfold recL
  rw [List.take_succ_eq_append_getElem h, List.zipIdx_append, List.map_append]
  simp [List.length_take, Nat.min_eq_left (Nat.le_of_lt h)]
theorem recP_snoc (l : List Ent) (j : Nat) (h : j < l.length) : recP (l.take (j + 1)) = recP (l.take j) ++ [⟨3, 0, l[j], 0, 0, 0⟩] := by
  unfold recP
  rw [List.take_succ_eq_append_getElem h, List.map_append]; rfl
theorem recB_snoc (l : List Idn) (j : Nat) (h : j < l.length) : recB (l.take (j + 1)) = recB (l.take j) ++ [⟨4, 0, ent0, l[j].1, l[j].2.1, l[j].2.2⟩] := by
  unfold recB
  rw [List.take_succ_eq_append_getElem h, List.map_append]; rfl
theorem rec1_len (n : Nat) : (rec1 n).length ≤ 1 := by unfold rec1; split <;> simp
theorem recL_len (l : List Ent) : (recL l).length = l.length := by simp [recL]
theorem recP_len (l : List Ent) : (recP l).length = l.length := by simp [recP]
theorem recB_len (l : List Idn) : (recB l).length = l.length := by simp [recB]
theorem infoRec : (Try.prog.info? 60).map (fun i => (i.zero, i.size, i.bytes)) = some (some (.agg zRec), 13, 136) := by kernel_rfl
theorem TRec : SliceT Try.prog 41 60 (.agg zRec) 13 136 := ⟨Try.underlying41, infoRec, rfl, by decide⟩
theorem infoBy : (Try.prog.info? 30).map (fun i => (i.zero, i.size, i.bytes)) = some (some (.slice none 0 0), 1, 24) := by kernel_rfl
theorem TBy : SliceT Try.prog 45 30 (.slice none 0 0) 1 24 := ⟨Try.underlying45, infoBy, rfl, by decide⟩
/-- A record of an entry as it lies. -/
theorem rcd_of {k : Int} {n : Nat} {x : Ent} {a : Idn} {vf ve : Value} {W : World} (h : ent x (.agg (entA x vf ve)) W) : recS.rel ⟨k, n, x, a.1, a.2.1, a.2.2⟩ (recA ⟨k, n, x, a.1, a.2.1, a.2.2⟩ vf ve).toList W := by
  obtain ⟨vf', ve', e, h1, h2⟩ := h
  simp at e
  obtain ⟨rfl, rfl⟩ := e
  exact ⟨_, _, rfl, h1, h2⟩

set_option maxHeartbeats 16000000 in
theorem Records_calls (s : Stt) (v : Value) (w : World) (h : stv s v w) (hz : s.list.length ≤ 100000 ∧ s.prom.length ≤ 100000 ∧ s.ab.length ≤ 100000) (hok : ∀ r ∈ recsS s, okRec r = true ∧ fitRec r) :
    Calls Try.prog 24 #[v] w fun e w' => ∃ v', e = .returned (.tuple #[v', .int .i64 0]) ∧ lst byS ((recsS s).map encRec) v' w' ∧ K w w' := by
  obtain ⟨vl, vp, va, rfl, hl, hp, ha⟩ := h
  obtain ⟨Al, cl, rfl, hl, -⟩ := hl
  obtain ⟨Ap, cp, rfl, hp, -⟩ := hp
  obtain ⟨Aa, ca, rfl, ha, -⟩ := ha
  have hx0 := Blk.new w 43 (stA s (.slice Al s.list.length cl) (.slice Ap s.prom.length cp) (.slice Aa s.ab.length ca))
  have k1 : K w (w.alloc (.cells (stA s (.slice Al s.list.length cl) (.slice Ap s.prom.length cp) (.slice Aa s.ab.length ca)) 43)) := (K.rf w).al _
  have HL := Lib.hid hl
  have HP := Lib.hid hp
  have HA := Lib.hid ha
  have HOK := Lib.hid hok
  have H1L := rec1_len s.life
  obtain ⟨R1, hR1⟩ : ∃ R, R = rec1 s.life := ⟨_, rfl⟩
  have hS : recsS s = R1 ++ recL s.list ++ recP s.prom ++ recB s.ab := by rw [hR1]; rfl
  generalize recsS s = RS at *
  have HS := Lib.hid hS
  have HR1 := Lib.hid hR1
  rw [← hR1] at H1L
  clear hl hp ha hok hR1 hS
  go_enter Try.func24, Try.ntmps24
  go_upto_region 2 with (fail)
  generalize w.alloc _ = w1 at *
  generalize hgp : w.heap.size = gp at hx0 ⊢
  obtain ⟨base, hbase⟩ : ∃ b, Hid (b = w1.heap.size) := ⟨_, Lib.hid rfl⟩
  have qp := hx0.cells
  have kk := K.rf w1
  have qz := hx0.cell
  clear hx0
  go_upto_if 18 with (fail)
  go_cut [4] from 18 to 24 (fun v4 W => Hid (OwnL base 0 60 recS R1 v4 W) ∧ K w1 W)
  case first =>
    by_cases h0 : s.life = 0
    · have HQ : Hid (R1 = []) := Lib.hid (by rw [HR1.out, rec1, if_pos h0])
      have h0i : ((s.life : Int) != 0) = false := by rw [h0]; rfl
      clear h0
      go_wp2
      go_meet
      case rel => exact ⟨Lib.hid (by rw [HQ.out]; exact OwnL.nil _ _ _ _ _), kk⟩
    · have HQ : Hid (R1 = [⟨1, s.life, ent0, 0, 0, 0⟩]) := Lib.hid (by rw [HR1.out, rec1, if_neg h0])
      have h0i : ((s.life : Int) != 0) = true := by simp; omega
      have kA : K w1 (w1.alloc (.cells (recA ⟨1, s.life, ent0, 0, 0, 0⟩ (.slice none 0 0) (.slice none 0 0)) 60)) := (K.rf w1).al _
      have hbase2 : base ≤ (w1.alloc (.cells (recA ⟨1, s.life, ent0, 0, 0, 0⟩ (.slice none 0 0) (.slice none 0 0)) 60)).heap.size := by rw [hbase.out]; exact kA.size
      clear h0
      go_wp2_with (at_builtin; refine wpList_app rfl _ _ 41 rfl base 60 _ 13 136 TRec (.slice none 0 0) 0 [] rfl (World.ownsRow_nil _ _ _ _) (w1.heap.size + 1) _ 1 1 (recA ⟨1, s.life, ent0, 0, 0, 0⟩ (.slice none 0 0) (.slice none 0 0)).toList rfl ?c1 ?c2 ?c3 hbase2 ?_)
      case c1 => exact Reads.new w1 (recA ⟨1, s.life, ent0, 0, 0, 0⟩ (.slice none 0 0) (.slice none 0 0)).toList 60 13 1 rfl
      case c2 => and_intros <;> rfl
      case c3 => omega
      intro v9 w9 hown9 hg9 hat9 hb9
      have k9 : K w1 w9 := kA.trans (hb9.mono (by rw [hbase.out]; exact Nat.le_refl _))
      have hO9 : OwnL base 0 60 recS R1 v9 w9 := by
        rw [HQ.out]
        exact OwnL.snoc (S := recS) (l := []) (css := []) (lo := 0) rfl (fun w' u => Each.nil _ _) hown9 hg9 (by rw [World.size_alloc]; exact hat9) (fun w' u => ⟨_, _, rfl, ⟨none, 0, rfl, Reads.nil _ _ _ _⟩, lst_nil _ _⟩)
      have HO9 := Lib.hid hO9
      clear hown9 hg9 hat9 hb9 hO9 hbase2 kA
      go_wp2
      go_meet
      case rel => exact ⟨HO9, k9⟩
  case rest =>
  obtain ⟨HO0, kk⟩ := hcut
  clear qz
  go_wp2_with fail
  go_loopw [4, 5, 6, 28] (fun v4 _ _ i W => ∃ j : Nat, j ≤ s.list.length ∧ i = .int .i64 (j : Int) ∧ Hid (OwnL base 0 60 recS (R1 ++ recL (s.list.take j)) v4 W) ∧ K w1 W) (fun _ _ _ i _ => s.list.length - (intOf i).toNat)
  case atStart => exact ⟨0, by omega, rfl, Lib.hid (by simpa [recL] using HO0.out), kk⟩
  case round =>
    clear kk HO0
    obtain ⟨j, hj, rfl, HOj, kr⟩ := hrel
    by_cases hlt : j < s.list.length
    · have hji : (j : Int) < (s.list.length : Int) := by omega
      obtain ⟨b1, off, cs, rfl, hcl1, hrl, d0, d⟩ := lsr_cells HL.out j hlt (by decide)
      have HT := Lib.hid (recL_snoc s.list j hlt)
      have HLN : Hid ((R1 ++ recL (s.list.take j)).length ≤ 300001) := Lib.hid (by simp only [List.length_append, recL_len, List.length_take]; omega)
      generalize s.list[j] = x at *
      have kwr := k1.tr kr
      obtain ⟨vf, ve, rfl, hf, he⟩ := hrl w (K.rf w)
      have HEN : Hid (∀ W, K w W → ent x (.agg (entA x vf ve)) W) := Lib.hid fun W k => by
        obtain ⟨vf', ve', e, h1, h2⟩ := hrl W k
        simp at e
        obtain ⟨rfl, rfl⟩ := e
        exact ⟨_, _, rfl, h1, h2⟩
      have d0 : wr.cell? ⟨b1, off + j * 8, none⟩ = some (.int .i64 x.kind) := d0 wr kwr
      have d : ∀ i, i < 8 → wr.cell? ⟨b1, off + j * 8 + i, none⟩ = (entA x vf ve)[i]? := fun i hi => (d wr kwr i hi).trans Array.getElem?_toList
      obtain ⟨Af, cf, rfl⟩ := flt_slice hf
      obtain ⟨Ae, ce, rfl⟩ := lst_slice he
      have he5 := Blk.new wr 58 (entA x (.slice Af x.f.length cf) (.slice Ae x.es.length ce))
      have k5 : K wr (wr.alloc (.cells (entA x (.slice Af x.f.length cf) (.slice Ae x.es.length ce)) 58)) := (K.rf wr).al _
      clear hrl hcl1 hf he
      go_upto_region 7 with (fail)
      clear d d0
      have hO5 := HOj.out.st k5
      generalize wr.alloc _ = w5 at *
      generalize wr.heap.size = ge at he5 ⊢
      replace kr := kr.tr k5
      have kw5 := k1.tr kr
      have q5 := he5.cell
      have hvc := hO5.blk
      obtain ⟨css, hown, hcl, hEa⟩ := hO5
      have hln := HLN.out
      generalize hRJ : R1 ++ recL (s.list.take j) = RJ at *
      have hRJ := Lib.hid hRJ
      have kA : K w5 (w5.alloc (.cells (recA ⟨2, j, x, 0, 0, 0⟩ (.slice Af x.f.length cf) (.slice Ae x.es.length ce)) 60)) := (K.rf w5).al _
      have hbase2 : base ≤ (w5.alloc (.cells (recA ⟨2, j, x, 0, 0, 0⟩ (.slice Af x.f.length cf) (.slice Ae x.es.length ce)) 60)).heap.size := by rw [hbase.out]; exact Nat.le_trans kr.size kA.size
      have hvc2 := fun k e => (hvc k e).1
      simp only [hbase.out] at hvc2
      have hrb := Lib.hid fun k e => Nat.le_trans k1.size (hvc2 k e)
      clear HOj k5 he5 hvc hvc2
      go_wp2_with (at_builtin; refine wpList_app rfl _ _ 41 rfl base 60 _ 13 136 TRec _ _ _ rfl (World.ownsRow.alloc hown _) (w5.heap.size + 1) _ 1 1 (recA ⟨2, j, x, 0, 0, 0⟩ (.slice Af x.f.length cf) (.slice Ae x.es.length ce)).toList rfl ?c1 ?c2 ?c3 hbase2 ?_)
      case c1 => exact Reads.new w5 (recA ⟨2, j, x, 0, 0, 0⟩ (.slice Af x.f.length cf) (.slice Ae x.es.length ce)).toList 60 13 1 rfl
      case c2 => and_intros <;> rfl
      case c3 => omega
      intro v9 w9 hown9 hg9 hat9 hb9
      have k9 : K w1 w9 := (kr.tr kA).trans (hb9.mono (by rw [hbase.out]; exact Nat.le_refl _))
      have HO9 : Hid (OwnL base 0 60 recS (R1 ++ recL (s.list.take (j + 1))) v9 w9) := Lib.hid (by
        rw [HT.out, ← List.append_assoc, hRJ.out]
        exact OwnL.snoc (S := recS) (lo := 0) hcl (fun w' u => hEa w' (UpB.tr (UpB.of_k kA _ _) u)) hown9 hg9 (by rw [World.size_alloc]; exact hat9) (fun w' u => rcd_of (k := 2) (n := j) (a := (0, 0, 0)) (HEN.out w' ((UpB.tr (UpB.of_k kA _ _) u).k kw5 hrb.out))))
      clear hown9 hg9 hat9 hb9 hown hEa hbase2 kA q5
      go_wp2
      go_roundw
      case rel => exact ⟨j + 1, by omega, by go_num, HO9, k9⟩
      case measure => simp [intOf]; omega
    · have hji : ¬ (j : Int) < (s.list.length : Int) := by omega
      rw [List.take_of_length_le (by omega)] at HOj
      have HO0 := HOj
      have kk := kr
      clear HOj kr hj hlt
      go_wp2_with fail
      clear hji
      go_loopw [4, 8, 44] (fun v4 _ i W => ∃ j : Nat, j ≤ s.prom.length ∧ i = .int .i64 (j : Int) ∧ Hid (OwnL base 0 60 recS (R1 ++ recL s.list ++ recP (s.prom.take j)) v4 W) ∧ K w1 W) (fun _ _ i _ => s.prom.length - (intOf i).toNat)
      case atStart => exact ⟨0, by omega, rfl, Lib.hid (by simpa [recP] using HO0.out), kk⟩
      case round =>
        clear kk HO0
        obtain ⟨j, hj, rfl, HOj, kr⟩ := hrel
        by_cases hlt : j < s.prom.length
        · have hji : (j : Int) < (s.prom.length : Int) := by omega
          obtain ⟨b1, off, cs, rfl, hcl1, hrl, d0, d⟩ := lsr_cells HP.out j hlt (by decide)
          have HT := Lib.hid (recP_snoc s.prom j hlt)
          have HLN : Hid ((R1 ++ recL s.list ++ recP (s.prom.take j)).length ≤ 300001) := Lib.hid (by simp only [List.length_append, recL_len, recP_len, List.length_take]; omega)
          generalize s.prom[j] = x at *
          have kwr := k1.tr kr
          obtain ⟨vf, ve, rfl, hf, he⟩ := hrl w (K.rf w)
          have HEN : Hid (∀ W, K w W → ent x (.agg (entA x vf ve)) W) := Lib.hid fun W k => by
            obtain ⟨vf', ve', e, h1, h2⟩ := hrl W k
            simp at e
            obtain ⟨rfl, rfl⟩ := e
            exact ⟨_, _, rfl, h1, h2⟩
          have d0 : wr.cell? ⟨b1, off + j * 8, none⟩ = some (.int .i64 x.kind) := d0 wr kwr
          have d : ∀ i, i < 8 → wr.cell? ⟨b1, off + j * 8 + i, none⟩ = (entA x vf ve)[i]? := fun i hi => (d wr kwr i hi).trans Array.getElem?_toList
          obtain ⟨Af, cf, rfl⟩ := flt_slice hf
          obtain ⟨Ae, ce, rfl⟩ := lst_slice he
          have he5 := Blk.new wr 58 (entA x (.slice Af x.f.length cf) (.slice Ae x.es.length ce))
          have k5 : K wr (wr.alloc (.cells (entA x (.slice Af x.f.length cf) (.slice Ae x.es.length ce)) 58)) := (K.rf wr).al _
          clear hrl hcl1 hf he
          go_upto_region 12 with (fail)
          clear d d0
          have hO5 := HOj.out.st k5
          generalize wr.alloc _ = w5 at *
          generalize wr.heap.size = ge at he5 ⊢
          replace kr := kr.tr k5
          have kw5 := k1.tr kr
          have q5 := he5.cell
          have hvc := hO5.blk
          obtain ⟨css, hown, hcl, hEa⟩ := hO5
          have hln := HLN.out
          generalize hRJ : R1 ++ recL s.list ++ recP (s.prom.take j) = RJ at *
          have hRJ := Lib.hid hRJ
          have kA : K w5 (w5.alloc (.cells (recA ⟨3, 0, x, 0, 0, 0⟩ (.slice Af x.f.length cf) (.slice Ae x.es.length ce)) 60)) := (K.rf w5).al _
          have hbase2 : base ≤ (w5.alloc (.cells (recA ⟨3, 0, x, 0, 0, 0⟩ (.slice Af x.f.length cf) (.slice Ae x.es.length ce)) 60)).heap.size := by rw [hbase.out]; exact Nat.le_trans kr.size kA.size
          have hvc2 := fun k e => (hvc k e).1
          simp only [hbase.out] at hvc2
          have hrb := Lib.hid fun k e => Nat.le_trans k1.size (hvc2 k e)
          clear HOj k5 he5 hvc hvc2
          go_wp2_with (at_builtin; refine wpList_app rfl _ _ 41 rfl base 60 _ 13 136 TRec _ _ _ rfl (World.ownsRow.alloc hown _) (w5.heap.size + 1) _ 1 1 (recA ⟨3, 0, x, 0, 0, 0⟩ (.slice Af x.f.length cf) (.slice Ae x.es.length ce)).toList rfl ?c1 ?c2 ?c3 hbase2 ?_)
          case c1 => exact Reads.new w5 (recA ⟨3, 0, x, 0, 0, 0⟩ (.slice Af x.f.length cf) (.slice Ae x.es.length ce)).toList 60 13 1 rfl
          case c2 => and_intros <;> rfl
          case c3 => omega
          intro v9 w9 hown9 hg9 hat9 hb9
          have k9 : K w1 w9 := (kr.tr kA).trans (hb9.mono (by rw [hbase.out]; exact Nat.le_refl _))
          have HO9 : Hid (OwnL base 0 60 recS (R1 ++ recL s.list ++ recP (s.prom.take (j + 1))) v9 w9) := Lib.hid (by
            rw [HT.out, ← List.append_assoc, hRJ.out]
            exact OwnL.snoc (S := recS) (lo := 0) hcl (fun w' u => hEa w' (UpB.tr (UpB.of_k kA _ _) u)) hown9 hg9 (by rw [World.size_alloc]; exact hat9) (fun w' u => rcd_of (k := 3) (n := 0) (a := (0, 0, 0)) (HEN.out w' ((UpB.tr (UpB.of_k kA _ _) u).k kw5 hrb.out))))
          clear hown9 hg9 hat9 hb9 hown hEa hbase2 kA q5
          go_wp2
          go_roundw
          case rel => exact ⟨j + 1, by omega, by go_num, HO9, k9⟩
          case measure => simp [intOf]; omega
        · have hji : ¬ (j : Int) < (s.prom.length : Int) := by omega
          rw [List.take_of_length_le (by omega)] at HOj
          have HO0 := HOj
          have kk := kr
          clear HOj kr hj hlt
          go_wp2_with fail
          clear hji
          go_loopw [4, 10, 57] (fun v4 _ i W => ∃ j : Nat, j ≤ s.ab.length ∧ i = .int .i64 (j : Int) ∧ Hid (OwnL base 0 60 recS (R1 ++ recL s.list ++ recP s.prom ++ recB (s.ab.take j)) v4 W) ∧ K w1 W) (fun _ _ i _ => s.ab.length - (intOf i).toNat)
          case atStart => exact ⟨0, by omega, rfl, Lib.hid (by simpa [recB] using HO0.out), kk⟩
          case round =>
            clear kk HO0
            obtain ⟨j, hj, rfl, HOj, kr⟩ := hrel
            by_cases hlt : j < s.ab.length
            · have hji : (j : Int) < (s.ab.length : Int) := by omega
              obtain ⟨b1, off, cs, rfl, hcl1, hrl, d0, d⟩ := lsr_cells HA.out j hlt (by decide)
              have HT := Lib.hid (recB_snoc s.ab j hlt)
              have HLN : Hid ((R1 ++ recL s.list ++ recP s.prom ++ recB (s.ab.take j)).length ≤ 300001) := Lib.hid (by simp only [List.length_append, recL_len, recP_len, recB_len, List.length_take]; omega)
              generalize s.ab[j] = x at *
              have kwr := k1.tr kr
              obtain rfl := hrl w (K.rf w)
              have d0 : wr.cell? ⟨b1, off + j * 3, none⟩ = some (.int .i64 x.1) := d0 wr kwr
              have d : ∀ i, i < 3 → wr.cell? ⟨b1, off + j * 3 + i, none⟩ = (#[.int .i64 x.1, .int .u64 (x.2.1 : Int), .int .u64 (x.2.2 : Int)] : Array Value)[i]? := fun i hi => (d wr kwr i hi).trans Array.getElem?_toList
              have he5 := Blk.new wr 53 #[.int .i64 x.1, .int .u64 (x.2.1 : Int), .int .u64 (x.2.2 : Int)]
              have k5 : K wr (wr.alloc (.cells #[.int .i64 x.1, .int .u64 (x.2.1 : Int), .int .u64 (x.2.2 : Int)] 53)) := (K.rf wr).al _
              clear hrl hcl1
              go_upto_region 17 with (fail)
              clear d d0
              have hO5 := HOj.out.st k5
              generalize wr.alloc _ = w5 at *
              generalize wr.heap.size = ge at he5 ⊢
              replace kr := kr.tr k5
              have kw5 := k1.tr kr
              have q5 := he5.cell
              have hvc := hO5.blk
              obtain ⟨css, hown, hcl, hEa⟩ := hO5
              have hln := HLN.out
              generalize hRJ : R1 ++ recL s.list ++ recP s.prom ++ recB (s.ab.take j) = RJ at *
              have hRJ := Lib.hid hRJ
              have kA : K w5 (w5.alloc (.cells (recA ⟨4, 0, ent0, x.1, x.2.1, x.2.2⟩ (.slice none 0 0) (.slice none 0 0)) 60)) := (K.rf w5).al _
              have hbase2 : base ≤ (w5.alloc (.cells (recA ⟨4, 0, ent0, x.1, x.2.1, x.2.2⟩ (.slice none 0 0) (.slice none 0 0)) 60)).heap.size := by rw [hbase.out]; exact Nat.le_trans kr.size kA.size
              have hvc2 := fun k e => (hvc k e).1
              simp only [hbase.out] at hvc2
              have hrb := Lib.hid fun k e => Nat.le_trans k1.size (hvc2 k e)
              clear HOj k5 he5 hvc hvc2
              go_wp2_with (at_builtin; refine wpList_app rfl _ _ 41 rfl base 60 _ 13 136 TRec _ _ _ rfl (World.ownsRow.alloc hown _) (w5.heap.size + 1) _ 1 1 (recA ⟨4, 0, ent0, x.1, x.2.1, x.2.2⟩ (.slice none 0 0) (.slice none 0 0)).toList rfl ?c1 ?c2 ?c3 hbase2 ?_)
              case c1 => exact Reads.new w5 (recA ⟨4, 0, ent0, x.1, x.2.1, x.2.2⟩ (.slice none 0 0) (.slice none 0 0)).toList 60 13 1 rfl
              case c2 => and_intros <;> rfl
              case c3 => omega
              intro v9 w9 hown9 hg9 hat9 hb9
              have k9 : K w1 w9 := (kr.tr kA).trans (hb9.mono (by rw [hbase.out]; exact Nat.le_refl _))
              have HO9 : Hid (OwnL base 0 60 recS (R1 ++ recL s.list ++ recP s.prom ++ recB (s.ab.take (j + 1))) v9 w9) := Lib.hid (by
                rw [HT.out, ← List.append_assoc, hRJ.out]
                exact OwnL.snoc (S := recS) (lo := 0) hcl (fun w' u => hEa w' (UpB.tr (UpB.of_k kA _ _) u)) hown9 hg9 (by rw [World.size_alloc]; exact hat9) (fun w' u => ⟨_, _, rfl, ⟨none, 0, rfl, Reads.nil _ _ _ _⟩, lst_nil _ _⟩))
              clear hown9 hg9 hat9 hb9 hown hEa hbase2 kA q5
              go_wp2
              go_roundw
              case rel => exact ⟨j + 1, by omega, by go_num, HO9, k9⟩
              case measure => simp [intOf]; omega
            · have hji : ¬ (j : Int) < (s.ab.length : Int) := by omega
              rw [List.take_of_length_le (by omega)] at HOj
              have HO0 := HOj
              have kk := kr
              clear HOj kr hj hlt
              rw [← HS.out] at HO0
              have hln : RS.length ≤ 300001 := by rw [HS.out]; simp only [List.length_append, recL_len, recP_len, recB_len]; omega
              obtain ⟨A4, c4, rfl, hls, -⟩ := HO0.out.lst
              have HR := Lib.hid hls
              clear HO0 hls HL HP HA
              generalize wr = w2 at *
              have k2 := kk
              obtain ⟨b2, hb2⟩ : ∃ b, Hid (b = w2.heap.size) := ⟨_, Lib.hid rfl⟩
              have HB0 : Hid (OwnL b2 0 30 byS ([] : List (List UInt8)) (.slice none 0 0) w2) := Lib.hid (OwnL.nil _ _ _ _ _)
              go_wp2_with fail
              clear hji
              go_loopw [11, 13, 14, 15, 69] (fun o _ _ _ i W => ∃ j : Nat, j ≤ RS.length ∧ i = .int .i64 (j : Int) ∧ Hid (OwnL b2 0 30 byS ((RS.take j).map encRec) o W) ∧ K w2 W) (fun _ _ _ _ i _ => RS.length - (intOf i).toNat)
              case atStart => exact ⟨0, by omega, rfl, HB0, K.rf _⟩
              case round =>
                clear kk HB0
                obtain ⟨j, hj, rfl, HOj, kr⟩ := hrel
                by_cases hlt : j < RS.length
                · have hji : (j : Int) < (RS.length : Int) := by omega
                  obtain ⟨b1, off, cs, rfl, hcl1, hrl, d0, d⟩ := lsr_cells HR.out j hlt (by decide)
                  have HT : Hid ((RS.take (j + 1)).map encRec = (RS.take j).map encRec ++ [encRec RS[j]]) := Lib.hid (by rw [List.take_succ_eq_append_getElem hlt, List.map_append]; rfl)
                  have HLN : Hid (((RS.take j).map encRec).length ≤ 300001) := Lib.hid (by simp only [List.length_map, List.length_take]; omega)
                  obtain ⟨hok, hfit⟩ := HOK.out _ (List.getElem_mem hlt)
                  generalize RS[j] = r at *
                  obtain ⟨vf, ve, rfl, hf, he⟩ := hrl w2 (K.rf w2)
                  have HRC : Hid (∀ W, K w2 W → rcd r (.agg (recA r vf ve)) W) := Lib.hid fun W k => by
                    obtain ⟨vf', ve', e, h1, h2⟩ := hrl W k
                    simp at e
                    obtain ⟨rfl, rfl⟩ := e
                    exact ⟨_, _, rfl, h1, h2⟩
                  have d0 : wr.cell? ⟨b1, off + j * 13, none⟩ = some (.int .i64 r.kind) := d0 wr kr
                  have d : ∀ i, i < 13 → wr.cell? ⟨b1, off + j * 13 + i, none⟩ = (recA r vf ve)[i]? := fun i hi => (d wr kr i hi).trans Array.getElem?_toList
                  obtain ⟨Af, cf, rfl⟩ := flt_slice hf
                  obtain ⟨Ae, ce, rfl⟩ := lst_slice he
                  have he5 := Blk.new wr 60 (recA r (.slice Af r.e.f.length cf) (.slice Ae r.e.es.length ce))
                  have k5 : K wr (wr.alloc (.cells (recA r (.slice Af r.e.f.length cf) (.slice Ae r.e.es.length ce)) 60)) := (K.rf wr).al _
                  have hc : chkRec r = 0 := by simp [chkRec, hok]
                  have hE : encRecR r = encRec r := by simp [encRecR, hok]
                  have C1 := Lib.hid fun W (kW : K w2 W) => Pack_own r _ W (HRC.out W kW) hfit
                  simp only [hc, hE] at C1
                  clear hrl hcl1 hf he hok hfit hc hE
                  go_upto_region 23 with (fail)
                  clear d d0
                  have hO5 := HOj.out.st k5
                  generalize wr.alloc _ = w5 at *
                  generalize wr.heap.size = ge at he5 ⊢
                  replace kr := kr.tr k5
                  have q5 := he5.cell
                  clear HOj k5 he5
                  have HO5 := Lib.hid hO5
                  clear hO5
                  go_wp2_with fail
                  refine (C1.out w5 kr).mono ?_
                  rintro e w6 ⟨vb, rfl, hob, k6⟩
                  have hO6 := HO5.out.st k6
                  replace kr := kr.tr k6
                  obtain ⟨Ab, cb, rfl⟩ : ∃ A c, vb = .slice A (encRec r).length c := by obtain ⟨A, c, h, _⟩ := owA_sl hob; exact ⟨A, c, h⟩
                  have hvc := hO6.blk
                  obtain ⟨css, hown, hcl, hEa⟩ := hO6
                  have hln2 := HLN.out
                  have HOB := Lib.hid hob
                  have hwn := fun k e => row_blk hown (g := k) e
                  generalize (RS.take j).map encRec = RJ at *
                  have kA : K w6 (w6.alloc (.cells #[.slice Ab (encRec r).length cb] 30)) := (K.rf w6).al _
                  have hbase2 : b2 ≤ (w6.alloc (.cells #[.slice Ab (encRec r).length cb] 30)).heap.size := by rw [hb2.out]; exact Nat.le_trans kr.size kA.size
                  have HWN := Lib.hid hwn
                  clear hvc C1 HO5 hob hwn
                  go_wp2_with (at_builtin; refine wpList_app rfl _ _ 45 rfl b2 30 _ 1 24 TBy _ _ _ rfl (World.ownsRow.alloc hown _) (w6.heap.size + 1) _ 1 1 [.slice Ab (encRec r).length cb] rfl ?c1 ?c2 ?c3 hbase2 ?_)
                  case c1 => exact Reads.new w6 [.slice Ab (encRec r).length cb] 30 1 1 rfl
                  case c2 => intro u hu; simp at hu; subst hu; rfl
                  case c3 => omega
                  intro v9 w9 hown9 hg9 hat9 hb9
                  have k9 : K w2 w9 := (kr.tr kA).trans (hb9.mono (by rw [hb2.out]; exact Nat.le_refl _))
                  have HO9 : Hid (OwnL b2 0 30 byS ((RS.take (j + 1)).map encRec) v9 w9) := Lib.hid (by
                    rw [HT.out]
                    exact OwnL.snoc (S := byS) (lo := 0) hcl (fun w' u => hEa w' (UpB.tr (UpB.of_k kA _ _) u)) hown9 hg9 (by rw [World.size_alloc]; exact hat9) (fun w' u => by
                          obtain ⟨B, ho⟩ := HOB.out
                          have u' := (UpB.of_k kA 0 _).tr u
                          exact ⟨_, rfl, sl_own (row_keep ho fun k _ h2 h3 => u'.block k (Nat.zero_le _) h2 (fun e => by
                            obtain ⟨c1, b1⟩ := HWN.out k e.symm
                            obtain ⟨c2, b2⟩ := row_blk ho h3
                            exact absurd (b1.unlike b2) (by decide)))⟩))
                  clear hown9 hg9 hat9 hb9 hown hEa hbase2 kA q5
                  go_wp2
                  go_roundw
                  case rel => exact ⟨j + 1, by omega, by go_num, HO9, k9⟩
                  case measure => simp [intOf]; omega
                · have hji : ¬ (j : Int) < (RS.length : Int) := by omega
                  rw [List.take_of_length_le (by omega)] at HOj
                  have HOF := Lib.hid HOj.out.lst
                  have kF := k1.tr (k2.tr kr)
                  clear HOj hlt hj HR
                  go_wp2
                  go_ret2
                  exact ⟨_, rfl, HOF.out, kF⟩
end Go.Proofs.Ythnhdeieimgfhaa
