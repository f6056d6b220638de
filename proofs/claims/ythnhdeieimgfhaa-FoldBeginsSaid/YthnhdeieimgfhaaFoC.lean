/-
  The walk of fold.whole (layer 16): an entry in memory of its own. Conditions: lists of at most a million.
-/
import Derived.Test.YthnhdeieimgfhaaLstB
import Derived.Test.YthnhdeieimgfhaaFoA
import Derived.Test.YthnhdeieimgfhaaNG
import Derived.Test.YthnhdeieimgfhaaNA
set_option maxRecDepth 100000
namespace Go.Proofs.Ythnhdeieimgfhaa
open Go Go.RowKit

/-- An entry that a call made: its lists are the call's own. -/
def entO (B : Nat) (x : Ent) (v : Value) (w : World) : Prop := ∃ vf ve, v = .agg (entA x vf ve) ∧ OwnF w B vf x.f ∧ OwnL B B 124 evS x.es ve w
theorem entO_up {B : Nat} {x : Ent} {v : Value} {w : World} (h : entO B x v w) : ∀ w', UpB B none w w' → entO B x v w' := by
  obtain ⟨vf, ve, e, h1, h2⟩ := h
  exact fun w' u => ⟨vf, ve, e, h1.up u, h2.up (Nat.le_refl _) u⟩
theorem entO_ent {B : Nat} {x : Ent} {v : Value} {w : World} (h : entO B x v w) : ent x v w := by
  obtain ⟨vf, ve, e, h1, h2⟩ := h
  exact ⟨vf, ve, e, flt_own h1, h2.lst⟩

set_option maxHeartbeats 4000000 in
theorem Whole_calls (x : Ent) (v : Value) (w : World) (h : ent x v w) (hs : smallEn x) :
    Calls Try.prog 103 #[v] w fun e w' => ∃ v', e = .returned v' ∧ entO w.heap.size x v' w' ∧ K w w' := by
  obtain ⟨vf, ve, rfl, hf, he⟩ := h
  obtain ⟨A, c, e0, hfr⟩ := hf
  obtain rfl := e0
  obtain ⟨D, d, e0, he, hd⟩ := he
  obtain rfl := e0
  obtain ⟨hs1, hs2, hs3⟩ := hs
  obtain ⟨k, b, l, s, cl, u, f, es⟩ := x
  simp only at hfr he hd hs1 hs2 hs3 ⊢
  have hx := (Blk.new w 58 (entA ⟨k, b, l, s, cl, u, f, es⟩ (.slice A f.length c) (.slice D es.length d))).alloc (.cells zEnt 58)
  have hr := Blk.new (w.alloc (.cells (entA ⟨k, b, l, s, cl, u, f, es⟩ (.slice A f.length c) (.slice D es.length d)) 58)) 58 zEnt
  have k1 : K w ((w.alloc (.cells (entA ⟨k, b, l, s, cl, u, f, es⟩ (.slice A f.length c) (.slice D es.length d)) 58)).alloc (.cells zEnt 58)) := ((K.rf w).al _).al _
  have hz : (w.alloc (.cells (entA ⟨k, b, l, s, cl, u, f, es⟩ (.slice A f.length c) (.slice D es.length d)) 58)).heap.size = w.heap.size + 1 := by simp
  rw [hz] at hr
  clear hz
  have HS3 := Lib.hid hs3
  clear hs3
  go_enter Try.func103, Try.ntmps103
  go_upto_region 1 with (fail)
  generalize World.alloc (World.alloc w _) _ = w1 at *
  have hfr1 := (hfr.below k1 (Nat.le_refl _)).more k1.size
  have hr1 := hr.lt
  clear hfr
  have q := hx.cell
  have z := hx.frozen
  go_wp2_with (at_builtin; refine wpList_app rfl _ _ 55 rfl w1.heap.size 162 _ 5 56 TF _ 0 [] rfl (World.ownsRow_nil _ _ _ _) _ A f.length c (f.flatMap tstc) rfl hfr1 (tsts_one' f) ?p1 (Nat.le_refl _) ?_)
  case p1 => omega
  intro v1 w2 ho1 _ _ hb1
  have hx2 := hx.below hb1 hx.lt
  have hr2 := hr.below hb1 hr.lt
  have k2 := k1.tr hb1
  obtain ⟨A1, c1, rfl, -⟩ := (show OwnF w2 w1.heap.size v1 f from ho1).slice
  clear q z hx hr
  have q := hx2.cell
  have z := hx2.frozen
  have hz12 := hb1.size
  clear hb1
  go_upto_region 3 with (fail)
  have hx3 : Blk (w2.setCell ⟨w.heap.size, 6, none⟩ (.slice A1 f.length c1)) w.heap.size 58 #[.int .i64 k, .int .i64 b, .int .u64 (l : Int), .int .u64 (s : Int), .int .i64 cl, .int .u64 (u : Int), .slice A1 f.length c1, .slice D es.length d] := hx2.set_ 6 (.slice A1 f.length c1)
  have hr3 := hr2.far (p := ⟨w.heap.size, 6, none⟩) (by simp) (.slice A1 f.length c1)
  have k3 : K w (w2.setCell ⟨w.heap.size, 6, none⟩ (.slice A1 f.length c1)) := K.set k2 (Nat.le_refl _) 6 _
  have ho3 : OwnF (w2.setCell ⟨w.heap.size, 6, none⟩ (.slice A1 f.length c1)) w1.heap.size (.slice A1 f.length c1) f := OwnF.up ho1 (UpB.set (by omega) 6 _)
  have hgz : w.heap.size + 1 < (w2.setCell ⟨w.heap.size, 6, none⟩ (.slice A1 f.length c1)).heap.size := by simp [World.setCell]; omega
  clear hx2 hr2 k2 ho1 q z
  generalize w2.setCell _ _ = w3 at *
  have TOK := K.rf w3
  have q := hx3.cell
  go_wp2_with fail
  clear q
  go_loopw [3, 5, 13] (fun o _ i W => ∃ j : Nat, j ≤ es.length ∧ i = .int .i64 (j : Int) ∧ OwnL w3.heap.size w3.heap.size 124 evS (es.take j) o W ∧ K w3 W) (fun _ _ i _ => es.length - (intOf i).toNat)
  case atStart => exact ⟨0, by omega, rfl, by simpa using OwnL.nil _ _ _ _ _, TOK⟩
  case round =>
    clear TOK
    obtain ⟨j, hj, rfl, hO, kr⟩ := hrel
    have kwr := k3.tr kr
    by_cases hlt : j < es.length
    · have hji : (j : Int) < (es.length : Int) := by omega
      obtain ⟨b1, off, cs, rfl, hb1, hcl, ⟨ve, rfl, hev⟩, hcell⟩ := lsr_at he j hlt (by decide)
      have d0 : wr.cell? ⟨b1, off + j, none⟩ = some ve := by
        have := hcell 0 (by decide)
        rw [kwr.cell (by simpa using hb1)]
        simpa [evS] using this
      have HT : Hid (es.take (j + 1) = es.take j ++ [es[j]]) := Lib.hid (by rw [List.take_succ_eq_append_getElem hlt])
      have hej := HS3.out _ (List.getElem_mem hlt)
      have hevr := evt_st _ _ _ _ hev kwr
      generalize es[j] = ej at *
      obtain ⟨Ae, ce, rfl, hRe⟩ := hevr
      have htl : (es.take j).length ≤ 1000000 := by simp; omega
      have hbs := kr.size
      clear hcell hev
      go_wp2_with (at_builtin; refine wpList_app rfl _ _ 124 rfl wr.heap.size 158 _ 4 48 TE _ 0 [] rfl (World.ownsRow_nil _ _ _ _) _ Ae ej.length ce (ej.flatMap attc) rfl hRe (atts_one ej) ?p1 (Nat.le_refl _) ?_)
      case p1 => omega
      intro v2 w4 ho2 _ _ hb2
      have HEv := Lib.hid (OwnE.rel (show OwnE w4 wr.heap.size v2 ej from ho2))
      obtain ⟨A2, c2, rfl, -⟩ := (show OwnE w4 wr.heap.size v2 ej from ho2).slice
      have hvc := hO.blk
      have hO4 := hO.st hb2
      have kr4 := kr.tr hb2
      obtain ⟨css, hown, hcl, hEa⟩ := hO4
      have hz4 := hb2.size
      clear hO hb2 ho2
      have kA : K w4 (w4.alloc (.cells #[.slice A2 ej.length c2] 124)) := (K.rf w4).al _
      have hbase : w3.heap.size ≤ (w4.alloc (.cells #[.slice A2 ej.length c2] 124)).heap.size := by have := kA.size; omega
      go_wp2_with (at_builtin; refine wpList_app rfl _ _ 56 rfl w3.heap.size 124 _ 1 24 TEv _ _ _ rfl (World.ownsRow.alloc hown _) (w4.heap.size + 1) _ 1 1 [.slice A2 ej.length c2] rfl ?c1 ?c2 ?c3 hbase ?_)
      case c1 => exact Reads.new w4 [.slice A2 ej.length c2] 124 1 1 rfl
      case c2 => intro u hu; simp at hu; subst hu; rfl
      case c3 => omega
      intro v9 w9 hown9 hg9 hat9 hb9
      have k9 := (kr4.tr kA).trans hb9
      have hO9 : OwnL w3.heap.size w3.heap.size 124 evS (es.take (j + 1)) v9 w9 := by
        rw [HT.out]
        exact OwnL.snoc hcl (fun w' u => hEa w' (UpB.tr (UpB.of_k kA _ _) u)) (by rw [List.length_take_of_le (show j ≤ es.length by omega)]; exact hown9) hg9 (by rw [World.size_alloc]; exact hat9)
          (fun w' u => HEv.out w' ((UpB.tr (UpB.of_k kA _ _) u).more (by omega) (fun k hk _ e => by have := (hvc k e.symm).2; omega)))
      clear hown9 hg9 hat9 hb9 hown hEa
      go_wp2
      go_roundw
      case rel => exact ⟨j + 1, by omega, by go_num, hO9, k9⟩
      case measure => simp [intOf]; omega
    · have hji : ¬ (j : Int) < (es.length : Int) := by omega
      rw [List.take_of_length_le (by omega)] at hO
      have hxr := hx3.below kr hx3.lt
      have hrr := hr3.below kr hr3.lt
      have hor : OwnF wr w1.heap.size (.slice A1 f.length c1) f := row_below ho3 kr
      obtain ⟨Ao, co, rfl, -⟩ := hO.slice
      have q := hxr.cell
      have z := hxr.frozen
      have hzz := kr.size
      go_upto_region 9 with (fail)
      have hx5 : Blk (wr.setCell ⟨w.heap.size, 7, none⟩ (.slice Ao es.length co)) w.heap.size 58 #[.int .i64 k, .int .i64 b, .int .u64 (l : Int), .int .u64 (s : Int), .int .i64 cl, .int .u64 (u : Int), .slice A1 f.length c1, .slice Ao es.length co] := hxr.set_ 7 _
      have hr5 := hrr.far (p := ⟨w.heap.size, 7, none⟩) (by simp) (.slice Ao es.length co)
      have k5 : K w (wr.setCell ⟨w.heap.size, 7, none⟩ (.slice Ao es.length co)) := K.set kwr (Nat.le_refl _) 7 _
      have ho5 := OwnF.up hor (w' := wr.setCell ⟨w.heap.size, 7, none⟩ (.slice Ao es.length co)) (UpB.set (by omega) 7 _)
      have hO5 := hO.up (w' := wr.setCell ⟨w.heap.size, 7, none⟩ (.slice Ao es.length co)) (Nat.le_refl _) (UpB.set (by omega) 7 _)
      clear hxr hrr hor hO q z
      generalize wr.setCell _ _ = w5 at *
      have q := hx5.cell
      have y := hr5.cell
      have z := hr5.frozen
      go_wp2
      have hr9 : Blk (World.setCell w5 _ _) (w.heap.size + 1) 58 #[.int .i64 k, .int .i64 0, .int .u64 0, .int .u64 0, .int .i64 0, .int .u64 0, .slice none 0 0, .slice none 0 0] := (hr5).set_ 0 (.int .i64 k)
      have hr9 : Blk (World.setCell (World.setCell w5 _ _) _ _) (w.heap.size + 1) 58 #[.int .i64 k, .int .i64 b, .int .u64 0, .int .u64 0, .int .i64 0, .int .u64 0, .slice none 0 0, .slice none 0 0] := (hr9).set_ 1 (.int .i64 b)
      have hr9 : Blk (World.setCell (World.setCell (World.setCell w5 _ _) _ _) _ _) (w.heap.size + 1) 58 #[.int .i64 k, .int .i64 b, .int .u64 (l : Int), .int .u64 0, .int .i64 0, .int .u64 0, .slice none 0 0, .slice none 0 0] := (hr9).set_ 2 (.int .u64 (l : Int))
      have hr9 : Blk (World.setCell (World.setCell (World.setCell (World.setCell w5 _ _) _ _) _ _) _ _) (w.heap.size + 1) 58 #[.int .i64 k, .int .i64 b, .int .u64 (l : Int), .int .u64 (s : Int), .int .i64 0, .int .u64 0, .slice none 0 0, .slice none 0 0] := (hr9).set_ 3 (.int .u64 (s : Int))
      have hr9 : Blk (World.setCell (World.setCell (World.setCell (World.setCell (World.setCell w5 _ _) _ _) _ _) _ _) _ _) (w.heap.size + 1) 58 #[.int .i64 k, .int .i64 b, .int .u64 (l : Int), .int .u64 (s : Int), .int .i64 cl, .int .u64 0, .slice none 0 0, .slice none 0 0] := (hr9).set_ 4 (.int .i64 cl)
      have hr9 : Blk (World.setCell (World.setCell (World.setCell (World.setCell (World.setCell (World.setCell w5 _ _) _ _) _ _) _ _) _ _) _ _) (w.heap.size + 1) 58 #[.int .i64 k, .int .i64 b, .int .u64 (l : Int), .int .u64 (s : Int), .int .i64 cl, .int .u64 (u : Int), .slice none 0 0, .slice none 0 0] := (hr9).set_ 5 (.int .u64 (u : Int))
      have hr9 : Blk (World.setCell (World.setCell (World.setCell (World.setCell (World.setCell (World.setCell (World.setCell w5 _ _) _ _) _ _) _ _) _ _) _ _) _ _) (w.heap.size + 1) 58 #[.int .i64 k, .int .i64 b, .int .u64 (l : Int), .int .u64 (s : Int), .int .i64 cl, .int .u64 (u : Int), .slice A1 f.length c1, .slice none 0 0] := (hr9).set_ 6 (.slice A1 f.length c1)
      have hr9 : Blk (World.setCell (World.setCell (World.setCell (World.setCell (World.setCell (World.setCell (World.setCell (World.setCell w5 _ _) _ _) _ _) _ _) _ _) _ _) _ _) _ _) (w.heap.size + 1) 58 #[.int .i64 k, .int .i64 b, .int .u64 (l : Int), .int .u64 (s : Int), .int .i64 cl, .int .u64 (u : Int), .slice A1 f.length c1, .slice Ao es.length co] := (hr9).set_ 7 (.slice Ao es.length co)
      have U9 := ((((((((UpB.rf (w.heap.size + 1 + 1) none w5).tr (UpB.set (b := w.heap.size + 1) (by omega) 0 (.int .i64 k))).tr (UpB.set (b := w.heap.size + 1) (by omega) 1 (.int .i64 b))).tr (UpB.set (b := w.heap.size + 1) (by omega) 2 (.int .u64 (l : Int)))).tr (UpB.set (b := w.heap.size + 1) (by omega) 3 (.int .u64 (s : Int)))).tr (UpB.set (b := w.heap.size + 1) (by omega) 4 (.int .i64 cl))).tr (UpB.set (b := w.heap.size + 1) (by omega) 5 (.int .u64 (u : Int)))).tr (UpB.set (b := w.heap.size + 1) (by omega) 6 (.slice A1 f.length c1))).tr (UpB.set (b := w.heap.size + 1) (by omega) 7 (.slice Ao es.length co))
      have K9 := (K.set (K.set (K.set (K.set (K.set (K.set (K.set (K.set k5 (r := w.heap.size + 1) (by omega) 0 (.int .i64 k)) (r := w.heap.size + 1) (by omega) 1 (.int .i64 b)) (r := w.heap.size + 1) (by omega) 2 (.int .u64 (l : Int))) (r := w.heap.size + 1) (by omega) 3 (.int .u64 (s : Int))) (r := w.heap.size + 1) (by omega) 4 (.int .i64 cl)) (r := w.heap.size + 1) (by omega) 5 (.int .u64 (u : Int))) (r := w.heap.size + 1) (by omega) 6 (.slice A1 f.length c1)) (r := w.heap.size + 1) (by omega) 7 (.slice Ao es.length co))
      clear q y z
      generalize (World.setCell (World.setCell (World.setCell (World.setCell (World.setCell (World.setCell (World.setCell (World.setCell w5 _ _) _ _) _ _) _ _) _ _) _ _) _ _) _ _) = W9 at *
      have e9 := hr9.cell
      refine bodyPost_ret (v := .agg #[.int .i64 k, .int .i64 b, .int .u64 (l : Int), .int .u64 (s : Int), .int .i64 cl, .int .u64 (u : Int), .slice A1 f.length c1, .slice Ao es.length co]) (by simp [results, Try.results103, go_sem, e9]) rfl ?_
      exact ⟨_, rfl, ⟨_, _, rfl, row_base (by omega) (OwnF.up ho5 (U9.more (by omega) (fun _ _ _ => by simp))), (OwnL.low (OwnL.floor (hO5.up (Nat.le_refl _) (U9.more (by omega) (fun _ _ _ => by simp))) (by omega)) (by omega))⟩, K9⟩
end Go.Proofs.Ythnhdeieimgfhaa
