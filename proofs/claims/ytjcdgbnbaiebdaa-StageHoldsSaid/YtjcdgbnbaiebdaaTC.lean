/-
  The walk of stage.whole (layer 17): an entry in memory of its own. Conditions: lists of at most a million.
-/
import Derived.Test.YtjcdgbnbaiebdaaTA
import Derived.Test.YtjcdgbnbaiebdaaNG
import Derived.Test.YtjcdgbnbaiebdaaNA
import Derived.Test.YtjcdgbnbaiebdaaMA
set_option maxRecDepth 100000
namespace Go.Proofs.Ytjcdgbnbaiebdaa
open Go Go.RowKit

theorem OwnL.floor {α : Type} {S : Shp α} {l : List α} {v : Value} {w : World} {base lo lo' : Nat} {e : TypeId} (h : OwnL base lo e S l v w) (hl : lo' ≤ lo) : OwnL base lo' e S l v w := by
  obtain ⟨css, h1, h2, h3⟩ := h
  exact ⟨css, h1, h2, fun w' u => h3 w' (u.more hl (fun _ _ h => h))⟩
theorem OwnF.up {w w' : World} {B : Nat} {v : Value} {l : List Tst} (h : OwnF w B v l) (u : UpB B none w w') : OwnF w' B v l := by
  refine ⟨h.1, h.2.imp id ?_⟩
  rintro ⟨g, cap, cur, g1, g2, g3, g4⟩
  exact ⟨g, cap, cur, g1, g2, (u.block g g2 (Array.getElem?_eq_some_iff.1 g3).1 (by simp)).trans g3, g4⟩
theorem atts_one (l : List Att) : ∀ u ∈ l.flatMap attc, u.oneCell' = true := by
  intro u hu
  obtain ⟨x, _, hx⟩ := List.mem_flatMap.1 hu
  exact attc_one x u hx
theorem tsts_one' (l : List Tst) : ∀ u ∈ l.flatMap tstc, u.oneCell' = true := by
  intro u hu
  obtain ⟨x, _, hx⟩ := List.mem_flatMap.1 hu
  simp at hx
  rcases hx with rfl | rfl | rfl | rfl | rfl <;> rfl
/-- An entry that a call made: its lists are the call's own. -/
def entO (B : Nat) (x : Ent) (v : Value) (w : World) : Prop := ∃ vf ve, v = .agg (entA x vf ve) ∧ OwnF w B vf x.f ∧ OwnL B B 29 evS x.es ve w
theorem entO_up {B : Nat} {x : Ent} {v : Value} {w : World} (h : entO B x v w) : ∀ w', UpB B none w w' → entO B x v w' := by
  obtain ⟨vf, ve, e, h1, h2⟩ := h
  exact fun w' u => ⟨vf, ve, e, h1.up u, h2.up (Nat.le_refl _) u⟩
theorem entO_ent {B : Nat} {x : Ent} {v : Value} {w : World} (h : entO B x v w) : ent x v w := by
  obtain ⟨vf, ve, e, h1, h2⟩ := h
  exact ⟨vf, ve, e, flt_own h1, h2.lst⟩

set_option maxHeartbeats 4000000 in
theorem Whole_calls (x : Ent) (v : Value) (w : World) (h : ent x v w) (hs : smallEn x) :
    Calls Try.prog 40 #[v] w fun e w' => ∃ v', e = .returned v' ∧ entO w.heap.size x v' w' ∧ K w w' := by
  obtain ⟨vf, ve, rfl, hf, he⟩ := h
  obtain ⟨A, c, e0, hfr⟩ := hf
  obtain rfl := e0
  obtain ⟨D, d, e0, he, hd⟩ := he
  obtain rfl := e0
  obtain ⟨hs1, hs2, hs3⟩ := hs
  obtain ⟨k, b, l, s, cl, u, f, es⟩ := x
  simp only at hfr he hd hs1 hs2 hs3 ⊢
  have hx := (Blk.new w 34 (entA ⟨k, b, l, s, cl, u, f, es⟩ (.slice A f.length c) (.slice D es.length d))).alloc (.cells zEnt 34)
  have hr := Blk.new (w.alloc (.cells (entA ⟨k, b, l, s, cl, u, f, es⟩ (.slice A f.length c) (.slice D es.length d)) 34)) 34 zEnt
  have k1 : K w ((w.alloc (.cells (entA ⟨k, b, l, s, cl, u, f, es⟩ (.slice A f.length c) (.slice D es.length d)) 34)).alloc (.cells zEnt 34)) := ((K.rf w).al _).al _
  have hz : (w.alloc (.cells (entA ⟨k, b, l, s, cl, u, f, es⟩ (.slice A f.length c) (.slice D es.length d)) 34)).heap.size = w.heap.size + 1 := by simp
  rw [hz] at hr
  clear hz
  have HS3 := Lib.hid hs3
  clear hs3
  go_enter Try.func40, Try.ntmps40
  go_upto_region 1 with (fail)
  generalize World.alloc (World.alloc w _) _ = w1 at *
  have hfr1 := (hfr.below k1 (Nat.le_refl _)).more k1.size
  have hr1 := hr.lt
  clear hfr
  have q := hx.cell
  have z := hx.frozen
  go_wp2_with (at_builtin; refine wpList_app rfl _ _ 31 rfl w1.heap.size 116 _ 5 56 TF _ 0 [] rfl (World.ownsRow_nil _ _ _ _) _ A f.length c (f.flatMap tstc) rfl hfr1 (tsts_one' f) ?p1 (Nat.le_refl _) ?_)
  case p1 => omega
  intro v1 w2 ho1 _ _ hb1
  have hx2 := hx.below hb1 hx.lt
  have hr2 := hr.below hb1 hr.lt
  have k2 := k1.tr hb1
  obtain ⟨A1, c1, rfl, -⟩ := (show OwnF w2 w1.heap.size v1 f from ho1).slice
  clear q z hx hr
  have q := hx2.cell
  have z := hx2.frozen
  have hz12 := hb1.size
  clear hb1
  go_upto_region 3 with (fail)
  have hx3 : Blk (w2.setCell ⟨w.heap.size, 6, none⟩ (.slice A1 f.length c1)) w.heap.size 34 #[.int .i64 k, .int .i64 b, .int .u64 (l : Int), .int .u64 (s : Int), .int .i64 cl, .int .u64 (u : Int), .slice A1 f.length c1, .slice D es.length d] := hx2.set_ 6 (.slice A1 f.length c1)
  have hr3 := hr2.far (p := ⟨w.heap.size, 6, none⟩) (by simp) (.slice A1 f.length c1)
  have k3 : K w (w2.setCell ⟨w.heap.size, 6, none⟩ (.slice A1 f.length c1)) := K.set k2 (Nat.le_refl _) 6 _
  have ho3 : OwnF (w2.setCell ⟨w.heap.size, 6, none⟩ (.slice A1 f.length c1)) w1.heap.size (.slice A1 f.length c1) f := OwnF.up ho1 (UpB.set (by omega) 6 _)
  have hgz : w.heap.size + 1 < (w2.setCell ⟨w.heap.size, 6, none⟩ (.slice A1 f.length c1)).heap.size := by simp [World.setCell]; omega
  clear hx2 hr2 k2 ho1 q z
  generalize w2.setCell _ _ = w3 at *
  have TOK := K.rf w3
  have q := hx3.cell
  go_wp2_with fail
  clear q
  go_loopw [3, 5, 13] (fun o _ i W => ∃ j : Nat, j ≤ es.length ∧ i = .int .i64 (j : Int) ∧ OwnL w3.heap.size w3.heap.size 29 evS (es.take j) o W ∧ K w3 W) (fun _ _ i _ => es.length - (intOf i).toNat)
  case atStart => exact ⟨0, by omega, rfl, by simpa using OwnL.nil _ _ _ _ _, TOK⟩
  case round =>
    clear TOK
    obtain ⟨j, hj, rfl, hO, kr⟩ := hrel
    have kwr := k3.tr kr
    by_cases hlt : j < es.length
    · have hji : (j : Int) < (es.length : Int) := by omega
      obtain ⟨b1, off, cs, rfl, hb1, hcl, ⟨ve, rfl, hev⟩, hcell⟩ := lsr_at he j hlt (by decide)
      have d0 : wr.cell? ⟨b1, off + j, none⟩ = some ve := by
        have := hcell 0 (by decide)
        rw [kwr.cell (by simpa using hb1)]
        simpa [evS] using this
      have HT : Hid (es.take (j + 1) = es.take j ++ [es[j]]) := Lib.hid (by rw [List.take_succ_eq_append_getElem hlt])
      have hej := HS3.out _ (List.getElem_mem hlt)
      have hevr := evt_st _ _ _ _ hev kwr
      generalize es[j] = ej at *
      obtain ⟨Ae, ce, rfl, hRe⟩ := hevr
      have htl : (es.take j).length ≤ 1000000 := by simp; omega
      have hbs := kr.size
      clear hcell hev
      go_wp2_with (at_builtin; refine wpList_app rfl _ _ 29 rfl wr.heap.size 79 _ 4 48 TE _ 0 [] rfl (World.ownsRow_nil _ _ _ _) _ Ae ej.length ce (ej.flatMap attc) rfl hRe (atts_one ej) ?p1 (Nat.le_refl _) ?_)
      case p1 => omega
      intro v2 w4 ho2 _ _ hb2
      have HEv := Lib.hid (OwnE.rel (show OwnE w4 wr.heap.size v2 ej from ho2))
      obtain ⟨A2, c2, rfl, -⟩ := (show OwnE w4 wr.heap.size v2 ej from ho2).slice
      have hvc := hO.blk
      have hO4 := hO.st hb2
      have kr4 := kr.tr hb2
      obtain ⟨css, hown, hcl, hEa⟩ := hO4
      have hz4 := hb2.size
      clear hO hb2 ho2
      have kA : K w4 (w4.alloc (.cells #[.slice A2 ej.length c2] 29)) := (K.rf w4).al _
      have hbase : w3.heap.size ≤ (w4.alloc (.cells #[.slice A2 ej.length c2] 29)).heap.size := by have := kA.size; omega
      go_wp2_with (at_builtin; refine wpList_app rfl _ _ 32 rfl w3.heap.size 29 _ 1 24 TEv _ _ _ rfl (World.ownsRow.alloc hown _) (w4.heap.size + 1) _ 1 1 [.slice A2 ej.length c2] rfl ?c1 ?c2 ?c3 hbase ?_)
      case c1 => exact Reads.new w4 [.slice A2 ej.length c2] 29 1 1 rfl
      case c2 => intro u hu; simp at hu; subst hu; rfl
      case c3 => omega
      intro v9 w9 hown9 hg9 hat9 hb9
      have k9 := (kr4.tr kA).trans hb9
      have hO9 : OwnL w3.heap.size w3.heap.size 29 evS (es.take (j + 1)) v9 w9 := by
        rw [HT.out]
        exact OwnL.snoc hcl (fun w' u => hEa w' (UpB.tr (UpB.of_k kA _ _) u)) (by rw [List.length_take_of_le (show j ≤ es.length by omega)]; exact hown9) hg9 (by rw [World.size_alloc]; exact hat9)
          (fun w' u => HEv.out w' ((UpB.tr (UpB.of_k kA _ _) u).more (by omega) (fun k hk _ e => by have := (hvc k e.symm).2; omega)))
      clear hown9 hg9 hat9 hb9 hown hEa
      go_wp2
      go_roundw
      case rel => exact ⟨j + 1, by omega, by go_num, hO9, k9⟩
      case measure => simp [intOf]; omega
    · have hji : ¬ (j : Int) < (es.length : Int) := by omega
      rw [List.take_of_length_le (by omega)] at hO
      have hxr := hx3.below kr hx3.lt
      have hrr := hr3.below kr hr3.lt
      have hor : OwnF wr w1.heap.size (.slice A1 f.length c1) f := row_below ho3 kr
      obtain ⟨Ao, co, rfl, -⟩ := hO.slice
      have q := hxr.cell
      have z := hxr.frozen
      have hzz := kr.size
      go_upto_region 9 with (fail)
      have hx5 : Blk (wr.setCell ⟨w.heap.size, 7, none⟩ (.slice Ao es.length co)) w.heap.size 34 #[.int .i64 k, .int .i64 b, .int .u64 (l : Int), .int .u64 (s : Int), .int .i64 cl, .int .u64 (u : Int), .slice A1 f.length c1, .slice Ao es.length co] := hxr.set_ 7 _
      have hr5 := hrr.far (p := ⟨w.heap.size, 7, none⟩) (by simp) (.slice Ao es.length co)
      have k5 : K w (wr.setCell ⟨w.heap.size, 7, none⟩ (.slice Ao es.length co)) := K.set kwr (Nat.le_refl _) 7 _
      have ho5 := OwnF.up hor (w' := wr.setCell ⟨w.heap.size, 7, none⟩ (.slice Ao es.length co)) (UpB.set (by omega) 7 _)
      have hO5 := hO.up (w' := wr.setCell ⟨w.heap.size, 7, none⟩ (.slice Ao es.length co)) (Nat.le_refl _) (UpB.set (by omega) 7 _)
      clear hxr hrr hor hO q z
      generalize wr.setCell _ _ = w5 at *
      have q := hx5.cell
      have y := hr5.cell
      have z := hr5.frozen
      go_wp2
      have hr9 : Blk (World.setCell w5 _ _) (w.heap.size + 1) 34 #[.int .i64 k, .int .i64 0, .int .u64 0, .int .u64 0, .int .i64 0, .int .u64 0, .slice none 0 0, .slice none 0 0] := (hr5).set_ 0 (.int .i64 k)
      have hr9 : Blk (World.setCell (World.setCell w5 _ _) _ _) (w.heap.size + 1) 34 #[.int .i64 k, .int .i64 b, .int .u64 0, .int .u64 0, .int .i64 0, .int .u64 0, .slice none 0 0, .slice none 0 0] := (hr9).set_ 1 (.int .i64 b)
      have hr9 : Blk (World.setCell (World.setCell (World.setCell w5 _ _) _ _) _ _) (w.heap.size + 1) 34 #[.int .i64 k, .int .i64 b, .int .u64 (l : Int), .int .u64 0, .int .i64 0, .int .u64 0, .slice none 0 0, .slice none 0 0] := (hr9).set_ 2 (.int .u64 (l : Int))
      have hr9 : Blk (World.setCell (World.setCell (World.setCell (World.setCell w5 _ _) _ _) _ _) _ _) (w.heap.size + 1) 34 #[.int .i64 k, .int .i64 b, .int .u64 (l : Int), .int .u64 (s : Int), .int .i64 0, .int .u64 0, .slice none 0 0, .slice none 0 0] := (hr9).set_ 3 (.int .u64 (s : Int))
      have hr9 : Blk (World.setCell (World.setCell (World.setCell (World.setCell (World.setCell w5 _ _) _ _) _ _) _ _) _ _) (w.heap.size + 1) 34 #[.int .i64 k, .int .i64 b, .int .u64 (l : Int), .int .u64 (s : Int), .int .i64 cl, .int .u64 0, .slice none 0 0, .slice none 0 0] := (hr9).set_ 4 (.int .i64 cl)
      have hr9 : Blk (World.setCell (World.setCell (World.setCell (World.setCell (World.setCell (World.setCell w5 _ _) _ _) _ _) _ _) _ _) _ _) (w.heap.size + 1) 34 #[.int .i64 k, .int .i64 b, .int .u64 (l : Int), .int .u64 (s : Int), .int .i64 cl, .int .u64 (u : Int), .slice none 0 0, .slice none 0 0] := (hr9).set_ 5 (.int .u64 (u : Int))
      have hr9 : Blk (World.setCell (World.setCell (World.setCell (World.setCell (World.setCell (World.setCell (World.setCell w5 _ _) _ _) _ _) _ _) _ _) _ _) _ _) (w.heap.size + 1) 34 #[.int .i64 k, .int .i64 b, .int .u64 (l : Int), .int .u64 (s : Int), .int .i64 cl, .int .u64 (u : Int), .slice A1 f.length c1, .slice none 0 0] := (hr9).set_ 6 (.slice A1 f.length c1)
      have hr9 : Blk (World.setCell (World.setCell (World.setCell (World.setCell (World.setCell (World.setCell (World.setCell (World.setCell w5 _ _) _ _) _ _) _ _) _ _) _ _) _ _) _ _) (w.heap.size + 1) 34 #[.int .i64 k, .int .i64 b, .int .u64 (l : Int), .int .u64 (s : Int), .int .i64 cl, .int .u64 (u : Int), .slice A1 f.length c1, .slice Ao es.length co] := (hr9).set_ 7 (.slice Ao es.length co)
      have U9 := ((((((((UpB.rf (w.heap.size + 1 + 1) none w5).tr (UpB.set (b := w.heap.size + 1) (by omega) 0 (.int .i64 k))).tr (UpB.set (b := w.heap.size + 1) (by omega) 1 (.int .i64 b))).tr (UpB.set (b := w.heap.size + 1) (by omega) 2 (.int .u64 (l : Int)))).tr (UpB.set (b := w.heap.size + 1) (by omega) 3 (.int .u64 (s : Int)))).tr (UpB.set (b := w.heap.size + 1) (by omega) 4 (.int .i64 cl))).tr (UpB.set (b := w.heap.size + 1) (by omega) 5 (.int .u64 (u : Int)))).tr (UpB.set (b := w.heap.size + 1) (by omega) 6 (.slice A1 f.length c1))).tr (UpB.set (b := w.heap.size + 1) (by omega) 7 (.slice Ao es.length co))
      have K9 := (K.set (K.set (K.set (K.set (K.set (K.set (K.set (K.set k5 (r := w.heap.size + 1) (by omega) 0 (.int .i64 k)) (r := w.heap.size + 1) (by omega) 1 (.int .i64 b)) (r := w.heap.size + 1) (by omega) 2 (.int .u64 (l : Int))) (r := w.heap.size + 1) (by omega) 3 (.int .u64 (s : Int))) (r := w.heap.size + 1) (by omega) 4 (.int .i64 cl)) (r := w.heap.size + 1) (by omega) 5 (.int .u64 (u : Int))) (r := w.heap.size + 1) (by omega) 6 (.slice A1 f.length c1)) (r := w.heap.size + 1) (by omega) 7 (.slice Ao es.length co))
      clear q y z
      generalize (World.setCell (World.setCell (World.setCell (World.setCell (World.setCell (World.setCell (World.setCell (World.setCell w5 _ _) _ _) _ _) _ _) _ _) _ _) _ _) _ _) = W9 at *
      have e9 := hr9.cell
      refine bodyPost_ret (v := .agg #[.int .i64 k, .int .i64 b, .int .u64 (l : Int), .int .u64 (s : Int), .int .i64 cl, .int .u64 (u : Int), .slice A1 f.length c1, .slice Ao es.length co]) (by simp [results, Try.results40, go_sem, e9]) rfl ?_
      exact ⟨_, rfl, ⟨_, _, rfl, row_base (by omega) (OwnF.up ho5 (U9.more (by omega) (fun _ _ _ => by simp))), (OwnL.low (OwnL.floor (hO5.up (Nat.le_refl _) (U9.more (by omega) (fun _ _ _ => by simp))) (by omega)) (by omega))⟩, K9⟩
end Go.Proofs.Ytjcdgbnbaiebdaa

/-
  The walk of stage.copied (layer 17): transactions in memory of their own. Conditions: lists of at most a million.
-/
set_option maxRecDepth 100000
namespace Go.Proofs.Ytjcdgbnbaiebdaa
open Go Go.RowKit

/-- An element's cells, read from a world that only grew. -/
theorem lsr_cells {α : Type} {S : Shp α} {l : List α} {A : Option Addr} {w : World} (h : lsr S l A w) (i : Nat) (hi : i < l.length) (hs : 0 < S.size) :
    ∃ b off cs, A = some ⟨b, off, none⟩ ∧ cs.length = S.size ∧ (∀ W, K w W → S.rel l[i] cs W) ∧ (∀ W, K w W → W.cell? ⟨b, off + i * S.size, none⟩ = cs[0]?) ∧ ∀ W, K w W → ∀ j, j < S.size → W.cell? ⟨b, off + i * S.size + j, none⟩ = cs[j]? := by
  obtain ⟨b, off, cs, e, hb, hl, hr, hc⟩ := lsr_at h i hi hs
  have key : ∀ W, K w W → ∀ j, j < S.size → W.cell? ⟨b, off + i * S.size + j, none⟩ = cs[j]? := fun W k j hj => (k.cell (p := ⟨b, off + i * S.size + j, none⟩) hb).trans (hc j hj)
  exact ⟨b, off, cs, e, hl, fun W k => S.st hr k, fun W k => key W k 0 hs, key⟩
/-- Values whose memory lies from block g on. -/
def entF (g : Nat) (x : Ent) (v : Value) (W : World) : Prop := ∃ vf ve, v = .agg (entA x vf ve) ∧ ∀ W', UpB g none W W' → flt x.f vf W' ∧ lst evS x.es ve W'
def txF (g : Nat) (t : Txn) (v : Value) (W : World) : Prop := ∃ vf ve, v = .agg (txA t vf ve) ∧ ∀ W', UpB g none W W' → flt t.e.f vf W' ∧ lst evS t.e.es ve W'
def rowF (g : Nat) (T : TypeId) (t : Txn) (v : Value) (W : World) : Prop := ∃ g' vf ve, v = .slice (some ⟨g', 0, none⟩) 1 1 ∧ g ≤ g' ∧ Blk W g' T (txA t vf ve) ∧ ∀ W', UpB g none W W' → flt t.e.f vf W' ∧ lst evS t.e.es ve W'
def ownF8 (B : Nat) (T : TypeId) (l : List Txn) (v : Value) (W : World) : Prop := OwnL B B T txS l v W
theorem entF_st (g : Nat) (x : Ent) : ∀ v w w', entF g x v w → Below w.heap.size w w' → entF g x v w' := by
  rintro v w w' ⟨vf, ve, e, h⟩ k
  exact ⟨vf, ve, e, fun W' u => h W' ((UpB.of_k k _ _).tr u)⟩
theorem txF_st (g : Nat) (x : Txn) : ∀ v w w', txF g x v w → Below w.heap.size w w' → txF g x v w' := by
  rintro v w w' ⟨vf, ve, e, h⟩ k
  exact ⟨vf, ve, e, fun W' u => h W' ((UpB.of_k k _ _).tr u)⟩
theorem rowF_st (g : Nat) (T : TypeId) (x : Txn) : ∀ v w w', rowF g T x v w → Below w.heap.size w w' → rowF g T x v w' := by
  rintro v w w' ⟨g', vf, ve, e, hg, hb, h⟩ k
  exact ⟨g', vf, ve, e, hg, hb.below k hb.lt, fun W' u => h W' ((UpB.of_k k _ _).tr u)⟩
theorem ownF8_st (B : Nat) (T : TypeId) (l : List Txn) : ∀ v w w', ownF8 B T l v w → Below w.heap.size w w' → ownF8 B T l v w' := by
  rintro v w w' h k
  exact OwnL.st h k
theorem UpB.row {w w' : World} {g : Nat} {row : Option Nat} (h : w.grownBy w' row) (hr : ∀ b, row = some b → b < g) : UpB g none w w' :=
  (UpB.of_mut h g).more (Nat.le_refl _) (fun k hk _ e => by have := hr k e.symm; omega)
theorem entF_row {g : Nat} {x : Ent} {row : Option Nat} (hr : ∀ b, row = some b → b < g) : ∀ v w w', entF g x v w → w.grownBy w' row → entF g x v w' := by
  rintro v w w' ⟨vf, ve, e, h⟩ k
  exact ⟨vf, ve, e, fun W' u => h W' ((UpB.row k hr).tr u)⟩
theorem txF_row {g : Nat} {x : Txn} {row : Option Nat} (hr : ∀ b, row = some b → b < g) : ∀ v w w', txF g x v w → w.grownBy w' row → txF g x v w' := by
  rintro v w w' ⟨vf, ve, e, h⟩ k
  exact ⟨vf, ve, e, fun W' u => h W' ((UpB.row k hr).tr u)⟩
theorem rowF_row {g : Nat} {T : TypeId} {x : Txn} {row : Option Nat} (hr : ∀ b, row = some b → b < g) : ∀ v w w', rowF g T x v w → w.grownBy w' row → rowF g T x v w' := by
  rintro v w w' ⟨g', vf, ve, e, hg, hb, h⟩ k
  exact ⟨g', vf, ve, e, hg, hb.grown k (fun e => by have := hr g' e.symm; omega), fun W' u => h W' ((UpB.row k hr).tr u)⟩
theorem entO_entF {B g : Nat} (hg : g ≤ B) {x : Ent} {v : Value} {w : World} (h : entO B x v w) : entF g x v w := by
  obtain ⟨vf, ve, e, h1, h2⟩ := h
  exact ⟨vf, ve, e, fun W' u => ⟨flt_own (h1.up (u.more hg (fun _ _ _ => by simp))), (h2.up (Nat.le_refl _) (u.more hg (fun _ _ _ => by simp))).lst⟩⟩
theorem infoTx : (Try.prog.info? 39).map (fun i => (i.zero, i.size, i.bytes)) = some (some (.agg (txA txn0 (.slice none 0 0) (.slice none 0 0))), 9, 104) := by kernel_rfl
theorem TTx : SliceT Try.prog 27 39 (.agg (txA txn0 (.slice none 0 0) (.slice none 0 0))) 9 104 := ⟨Try.underlying27, infoTx, rfl, by decide⟩
/-- An append of one, at an operation of a region. -/
theorem exec_one {P : Program} {ρ : Operand → Value} {w : World} (s x : Operand) (t ty e : TypeId) (base : Nat) (z : Value) (bytes : Nat) (l : List Txn) (T : SliceT P t e z 9 bytes) (u : Value) (hs : ρ s = u) (ho : OwnL base base e txS l u w)
    (g : Nat) (hg : base ≤ g) (hgw : ∀ b, u.ownBlock = some b → b < g) (tx : Txn) (v : Value) (hx : ρ x = v) (hr : rowF g e tx v w)
    (hbytes : (l.length + 1) * (bytes + 1) ≤ 140737488355328) (hbase : base ≤ w.heap.size) :
    ∃ v' w', (execOp ρ (bareOp (.call { callee := .builtin .append, args := #[s, x], argTypes := #[t, t] }) ty)).run P w = .ok (.value v') w' ∧ OwnL base base e txS (l ++ [tx]) v' w' ∧ Below base w w' ∧ w.grownBy w' u.ownBlock := by
  obtain ⟨css, hown, hcl, hE⟩ := ho
  obtain ⟨g', vf, ve, rfl, -, hb, hF⟩ := hr
  have hR : Reads w w.heap.size 9 (some ⟨g', 0, none⟩) 1 (txA tx vf ve).toList := ⟨rfl, fun _ => ⟨g', 0, rfl, hb.lt, fun j u hu => by
    rw [Nat.zero_add, hb.cell j]; simpa using hu⟩⟩
  have hone : ∀ u ∈ (txA tx vf ve).toList, u.oneCell' = true := by
    have h0 := hF w (UpB.rf _ _ _)
    exact txS.one (x := tx) (w := w) ⟨vf, ve, rfl, h0.1, h0.2⟩
  obtain ⟨v', w', hrun, h2, h3, h4, h5⟩ := run_app w base t ty e z 9 bytes T u l.length css.flatten hown w.heap.size _ 1 1 _ hR hone hbytes hbase
  refine ⟨v', w', ?_, OwnL.snoc hcl hE h2 h3 h4 (fun W' up => ?_), h5, h3⟩
  · simp only [execOp, bareOp, resolve, invoke, builtin, Sem.run_bind, Sem.run_pure, Result.andThen_ok, List.map_toArray, List.map_cons, List.map_nil, hs, hx, hrun]
  · have := hF W' (up.more hg (fun k hk _ e => by have := hgw k e.symm; omega))
    exact ⟨vf, ve, rfl, this.1, this.2⟩

set_option maxHeartbeats 4000000 in
theorem Copied_calls (l : List Txn) (v : Value) (w : World) (h : lst txS l v w) (hs : ∀ t ∈ l, smallEn t.e) (hn : l.length ≤ 1000000) :
    Calls Try.prog 49 #[v] w fun e w' => ∃ v', e = .returned v' ∧ OwnL w.heap.size w.heap.size 39 txS l v' w' ∧ K w w' := by
  obtain ⟨A, c, rfl, hl, hc⟩ := h
  have HS := Lib.hid hs
  clear hs
  have kk := K.rf w
  go_enter Try.func49, Try.ntmps49
  go_wp2_with fail
  go_loopw [3, 5, 8] (fun o _ i W => ∃ j : Nat, j ≤ l.length ∧ i = .int .i64 (j : Int) ∧ OwnL w.heap.size w.heap.size 39 txS (l.take j) o W ∧ K w W) (fun _ _ i _ => l.length - (intOf i).toNat)
  case atStart => exact ⟨0, by omega, rfl, by simpa using OwnL.nil _ _ _ _ _, kk⟩
  case round =>
    clear kk
    obtain ⟨j, hj, rfl, hO, kr⟩ := hrel
    by_cases hlt : j < l.length
    · have hji : (j : Int) < (l.length : Int) := by omega
      obtain ⟨b1, off, cs, rfl, hcl, hrl, d0, d⟩ := lsr_cells hl j hlt (by decide)
      have HT : Hid (l.take (j + 1) = l.take j ++ [l[j]]) := Lib.hid (by rw [List.take_succ_eq_append_getElem hlt])
      have hst := HS.out _ (List.getElem_mem hlt)
      generalize l[j] = t at *
      obtain ⟨vf, ve, rfl, hf, he⟩ := hrl w (K.rf w)
      obtain ⟨Af, cf, rfl⟩ := flt_slice hf
      obtain ⟨Ae, ce, rfl⟩ := lst_slice he
      have HE : Hid (∀ W, K w W → ent t.e (.agg (entA t.e (.slice Af t.e.f.length cf) (.slice Ae t.e.es.length ce))) W) := Lib.hid fun W k => ⟨_, _, rfl, flt_st _ _ _ _ hf k, lst_st he k⟩
      have d0 : ∀ W, K w W → W.cell? ⟨b1, off + j * 9, none⟩ = some (.int .i64 t.e.kind) := d0
      have d : ∀ W, K w W → ∀ i, i < 9 → W.cell? ⟨b1, off + j * 9 + i, none⟩ = (txA t (.slice Af t.e.f.length cf) (.slice Ae t.e.es.length ce))[i]? := fun W k i hi => (d W k i hi).trans Array.getElem?_toList
      have htl : (l.take j).length ≤ 1000000 := by simp; omega
      have hvc := hO.blk
      clear hrl hcl hf he
      have hx := Blk.new wr 39 (txA t (.slice Af t.e.f.length cf) (.slice Ae t.e.es.length ce))
      have kA : K wr (wr.alloc (.cells (txA t (.slice Af t.e.f.length cf) (.slice Ae t.e.es.length ce)) 39)) := (K.rf wr).al _
      have hg5 : wr.heap.size < (wr.alloc (.cells (txA t (.slice Af t.e.f.length cf) (.slice Ae t.e.es.length ce)) 39)).heap.size := by simp
      go_upto_region 5 with (fail)
      have hO5 := hO.st kA
      generalize wr.alloc _ = w5 at *
      have hz5 := kr.size
      generalize wr.heap.size = g5 at hx hg5 hz5 hvc ⊢
      generalize Value.slice Af t.e.f.length cf = vf at *
      generalize Value.slice Ae t.e.es.length ce = ve at *
      have k5 := kr.tr kA
      obtain ⟨C, hC⟩ : ∃ C : World → Prop, C = fun W => K w W ∧ g5 < W.heap.size ∧ Blk W g5 39 (txA t vf ve) := ⟨_, rfl⟩
      have hg : ∀ W W', C W → Below W.heap.size W W' → C W' := by
        subst hC
        rintro W W' ⟨h1, h0, h2⟩ hb
        exact ⟨h1.tr hb, Nat.lt_of_lt_of_le h0 hb.size, h2.below hb h2.lt⟩
      have hc0 : C w5 := by rw [hC]; exact ⟨k5, hx.lt, hx⟩
      have hvc5 : ∀ b, u3.ownBlock = some b → b < g5 := fun b hb => (hvc b hb).2
      clear d d0
      refine wp_region_turn2 8 C (fun W => OwnL w.heap.size w.heap.size 39 txS (l.take j) u3 W) (fun _ => True) (fun W W' => W.grownBy W' u3.ownBlock) [isV u3,
          isV (.pointer (some ⟨g5, 0, none⟩)),
          isV (.agg (entA t.e vf ve)),
          entF g5 t.e,
          isV (.pointer (some ⟨g5, 8, none⟩)),
          isV (.bool t.asked),
          txF g5 t,
          rowF g5 39 t,
          ownF8 w.heap.size 39 (l.take j ++ [t]),
          ownF8 w.heap.size 39 (l.take j ++ [t])]
        [([], []), ([], []), ([1], [(13, 1)]), ([2], [(14, 2)]), ([], []), ([4], [(16, 4)]), ([3, 5], [(15, 3), (17, 5)]), ([6], [(18, 6)]), ([0, 7], [(12, 0), (19, 7)]), ([8], [(20, 8)])] 23 rfl (by kernel_rfl) (by kernel_rfl) (by kernel_rfl) (by decide) hg (fun W W' h k => h.st k) (fun _ _ h _ => h) (by exact hg _ _ hc0 (Below.drew (Below.refl _ _))) (hO5.st (Below.drew (Below.refl _ _))) ?st ?st2 ?ow ?_
      case st =>
        simp only [List.forall_mem_cons]
        and_intros
        all_goals first | exact isV_st _ | exact entF_st _ _ | exact txF_st _ _ | exact rowF_st _ _ _ | exact ownF8_st _ _ _ | simp
      case st2 =>
        simp only [List.zipIdx_cons, List.zipIdx_nil, List.forall_mem_cons, Nat.zero_add, Nat.reduceAdd]
        and_intros
        all_goals first | exact .inl rfl | exact .inr (fun _ _ _ h _ => h) | exact .inr (entF_row hvc5) | exact .inr (txF_row hvc5) | exact .inr (rowF_row hvc5) | simp
      case ow =>
        simp only [OwedT]
        and_intros
        all_goals try trivial
        all_goals
          simp only [Nat.reduceEqDiff, if_false, Nat.reduceAdd]
        all_goals
          first
          | (intro V w' hc hD hp
             have hD2 : OwnL w.heap.size w.heap.size 39 txS (l.take j) u3 w' := hD
             simp only [List.forall_mem_cons, tab_zero, tab_succ, isV] at hp
             rw [hC] at hc
             obtain ⟨kw, hgw, hbx⟩ := hc)
          | (intro V w' hc hp
             rw [hC] at hc
             obtain ⟨kw, hgw, hbx⟩ := hc
             have q := hbx.cell
             try simp only [List.forall_mem_cons, tab_zero, tab_succ, isV] at hp
             try simp [wantsG, rhoP, List.lookup, hp, tab_zero, tab_succ, ResG, execOp, bareOp, isV, undef, Below.refl, q, go_sem])
          | skip
        · refine (Whole_calls t.e _ w' (HE.out _ kw) hst).mono ?_
          rintro e w'' ⟨v, rfl, ho, hb⟩
          exact ⟨v, rfl, entO_entF (by omega) ho, hb⟩
        · obtain ⟨⟨vf3, ve3, e3, hF⟩, h5, -⟩ := hp
          simp [e3, go_sem]
          exact ⟨⟨vf3, ve3, rfl, hF⟩, Below.refl _ _⟩
        · obtain ⟨⟨vf3, ve3, e3, hF⟩, -⟩ := hp
          have hA := hF _ (UpB.rf _ _ _)
          obtain ⟨A3, c3, rfl⟩ := flt_slice hA.1
          obtain ⟨D3, d3, rfl⟩ := lst_slice hA.2
          simp [e3, go_sem]
          exact ⟨⟨w'.heap.size, _, _, rfl, by omega, Blk.new _ _ _, fun W' u => hF W' ((UpB.of_k ((K.rf w').al _) _ _).tr u)⟩, (K.rf w').al _⟩
        · obtain ⟨h0, hr7, -⟩ := hp
          obtain ⟨v', w'', hrun, h1, h2, h3⟩ := exec_one (P := Try.prog) (ρ := rhoP [(12, 0), (19, 7)] _ V) (.tmp 12) (.tmp 19) 27 27 39 w.heap.size _ 104 (l.take j) TTx u3 h0 hD2 g5 hz5 hvc5 t (V 7) rfl hr7 (by omega) (by omega)
          rw [hrun]
          refine ⟨h1, ?_, trivial, h3⟩
          rw [hC]
          exact ⟨kw.trans h2, by have := h3.size; omega, hbx.grown h3 (fun e => by have := hvc5 g5 e.symm; omega)⟩
      intro V W hc _ hp
      have h9 := hp 9 (by simp)
      simp only [tab_zero, tab_succ] at h9
      rw [hC] at hc
      have kW := hc.1
      have h9' : OwnL w.heap.size w.heap.size 39 txS (l.take (j + 1)) (V 9) W := by rw [HT.out]; exact h9
      clear hp hc hg hc0 hC h9 hO5 hO hx
      simp only [putAll, Act.put, List.setIfInBounds_toArray, List.set_cons_succ, List.set_cons_zero]
      generalize V 9 = v9 at *
      go_wp2
      go_roundw
      case rel => exact ⟨j + 1, by omega, by go_num, h9', kW⟩
      case measure => simp [intOf]; omega
    · have hji : ¬ (j : Int) < (l.length : Int) := by omega
      rw [List.take_of_length_le (by omega)] at hO
      have HO := Lib.hid hO
      clear hO
      go_wp2
      go_ret
      exact ⟨_, rfl, HO.out, kr⟩
end Go.Proofs.Ytjcdgbnbaiebdaa

/-
  The walks of stage.seek, open and big (layer 17). Conditions: lists of at most a million.
-/
set_option maxRecDepth 100000
namespace Go.Proofs.Ytjcdgbnbaiebdaa
open Go Go.RowKit

theorem seekT_hit {l : List Txn} {a : Idn} {k : Nat} (hk : k < l.length) (h : isId a l[k] = true) (ha : ∀ t ∈ l.take k, isId a t = false) : seekT l a = some k := by
  unfold seekT
  rw [List.findIdx?_eq_some_iff_getElem]
  exact ⟨hk, h, fun j hj => by
    have := ha l[j] (List.mem_take_iff_getElem.2 ⟨j, by omega, rfl⟩)
    simp [this]⟩
theorem seekT_miss {l : List Txn} {a : Idn} (ha : ∀ t ∈ l, isId a t = false) : seekT l a = none := by
  unfold seekT
  rw [List.findIdx?_eq_none_iff]
  exact ha
theorem seekI_hit {l : List Txn} {a : Idn} {k : Nat} (h : seekT l a = some k) : seekI l a = (k : Int) := by unfold seekI; rw [h]
theorem seekI_miss {l : List Txn} {a : Idn} (h : seekT l a = none) : seekI l a = -1 := by unfold seekI; rw [h]
theorem isId_iff (a : Idn) (t : Txn) : isId a t = (decide (t.e.br = a.1) && decide (t.e.life = a.2.1) && decide (t.e.ser = a.2.2)) := by
  obtain ⟨a0, a1, a2⟩ := a
  unfold isId idOf
  rw [Bool.eq_iff_iff]
  simp [and_assoc]

set_option maxHeartbeats 1000000 in
theorem SeekC_calls (t : Txn) (a : Idn) (v : Value) (g : Nat) (w : World) (h : txv t v w) (hg : Blk w g 26 #[.int .i64 a.1, .int .u64 (a.2.1 : Int), .int .u64 (a.2.2 : Int)]) :
    Calls Try.prog 69 #[v, .pointer (some ⟨g, 0, none⟩)] w fun e w' => e = .returned (.bool (isId a t)) ∧ K w w' := by
  obtain ⟨vf, ve, rfl, hf, he⟩ := h
  obtain ⟨A, c, rfl⟩ := flt_slice hf
  obtain ⟨D, d, rfl⟩ := lst_slice he
  clear hf he
  have HI := Lib.hid (isId_iff a t)
  have q := hg.cells
  have ka := fun o => (K.rf w).al o
  obtain ⟨a0, a1, a2⟩ := a
  obtain ⟨⟨k, b, l, s, cl, u, f, es⟩, asked⟩ := t
  simp only at q HI ⊢
  generalize isId (a0, a1, a2) ⟨⟨k, b, l, s, cl, u, f, es⟩, asked⟩ = R at *
  go_enter Try.func69, Try.ntmps69
  go_wp2
  all_goals
    go_ret
    refine ⟨?_, (K.rf w).al _⟩
    rw [HI.out]
    show Ending.returned (.bool _) = Ending.returned (.bool _)
    clear q ka
    first | (simp_all; done) | (simp_all; omega) | (congr 2; rw [Bool.eq_iff_iff]; simp_all; omega)

set_option maxHeartbeats 2000000 in
theorem SIndexFunc_calls (A : Option Addr) (c : Nat) (l : List Txn) (a : Idn) (g : Nat) (w : World) (h : lsr txS l A w) (hlen : l.length ≤ 1000000) (hg : Blk w g 26 #[.int .i64 a.1, .int .u64 (a.2.1 : Int), .int .u64 (a.2.2 : Int)]) :
    Calls Try.prog 68 #[.slice A l.length c, .func (Fn.func 69) #[] #[.pointer (some ⟨g, 0, none⟩)]] w fun e w' => e = .returned (.int .i64 (seekI l a)) ∧ K w w' := by
  have kk := K.rf w
  go_enter Try.func68, Try.ntmps68
  go_wp2_with fail
  go_loopw [5, 8] (fun _ i wr => ∃ k : Nat, k ≤ l.length ∧ i = .int .i64 (k : Int) ∧ Hid (∀ t ∈ l.take k, isId a t = false) ∧ K w wr) (fun _ i _ => l.length - (intOf i).toNat)
  case atStart => exact ⟨0, by omega, rfl, Lib.hid (by simp), kk⟩
  case round =>
    clear kk
    obtain ⟨k, hk, rfl, hall, kr⟩ := hrel
    by_cases hlt : k < l.length
    · have hki : (k : Int) < (l.length : Int) := by omega
      obtain ⟨b1, off, cs, rfl, hcl, hrl, d0, d⟩ := lsr_cells h k hlt (by decide)
      have HT : Hid (isId a l[k] = false → ∀ t ∈ l.take (k + 1), isId a t = false) := by
        refine Lib.hid fun h x hx => ?_
        rw [List.take_succ_eq_append_getElem hlt] at hx
        rcases List.mem_append.1 hx with hx | hx
        · exact hall.out x hx
        · simp at hx; rw [hx]; exact h
      have HK : Hid (isId a l[k] = true → seekI l a = (k : Int)) := Lib.hid fun h => seekI_hit (seekT_hit hlt h hall.out)
      generalize l[k] = t at *
      obtain ⟨vf, ve, rfl, hf, he⟩ := hrl wr kr
      have d0 : ∀ W, K w W → W.cell? ⟨b1, off + k * 9, none⟩ = some (.int .i64 t.e.kind) := d0
      have d : ∀ W, K w W → ∀ i, i < 9 → W.cell? ⟨b1, off + k * 9 + i, none⟩ = (txA t vf ve)[i]? := fun W j hj => fun hi => (d W j hj hi).trans Array.getElem?_toList
      clear hrl hcl
      go_wp2_with fail
      refine (SeekC_calls t a _ g wr ⟨vf, ve, rfl, hf, he⟩ (hg.below kr hg.lt)).mono ?_
      rintro e w2 ⟨rfl, k2⟩
      have kW := kr.tr k2
      clear d d0 hf he
      cases hx : isId a t
      · have hrr := Lib.hid (HT.out hx)
        go_wp2
        go_roundw
        case rel => exact ⟨k + 1, by omega, by go_num, hrr, kW⟩
        case measure => simp [intOf]; omega
      · have HE := Lib.hid (HK.out hx)
        go_wp2
        go_ret
        exact ⟨by rw [HE.out]; rfl, kW⟩
    · have hki : ¬ (k : Int) < (l.length : Int) := by omega
      have HE : Hid (seekI l a = -1) := Lib.hid (by
        have := hall.out
        rw [List.take_of_length_le (by omega)] at this
        exact seekI_miss (seekT_miss this))
      go_wp2
      go_ret
      exact ⟨by rw [HE.out]; rfl, kr⟩

set_option maxHeartbeats 400000 in
theorem Seek_calls (l : List Txn) (a : Idn) (v : Value) (w : World) (h : lst txS l v w) (hlen : l.length ≤ 1000000) :
    Calls Try.prog 39 #[v, idv a] w fun e w' => e = .returned (.int .i64 (seekI l a)) ∧ K w w' := by
  obtain ⟨A, c, rfl, hl, -⟩ := h
  have hx := Blk.new w 26 #[.int .i64 a.1, .int .u64 (a.2.1 : Int), .int .u64 (a.2.2 : Int)]
  have k1 : K w (w.alloc (.cells #[.int .i64 a.1, .int .u64 (a.2.1 : Int), .int .u64 (a.2.2 : Int)] 26)) := (K.rf w).al _
  have hl1 := lsr_st hl k1
  go_enter Try.func39, Try.ntmps39
  go_wp2_with fail
  generalize w.alloc _ = w1 at *
  refine (SIndexFunc_calls A c l a _ w1 hl1 hlen hx).mono ?_
  rintro e w2 ⟨rfl, k2⟩
  go_wp2
  go_ret
  exact ⟨rfl, k1.tr k2⟩

theorem openI_eq (l : List Txn) (a : Idn) : openI l a = match seekT l a with | none => -1 | some k => if (l[k]?.map Txn.asked) = some true then -1 else (k : Int) := by
  unfold openI openT
  cases seekT l a with
  | none => rfl
  | some k =>
    by_cases h : (l[k]?.map Txn.asked) = some true
    · simp [h]
    · simp [h]
set_option maxHeartbeats 1000000 in
theorem Open_calls (l : List Txn) (a : Idn) (v : Value) (w : World) (h : lst txS l v w) (hlen : l.length ≤ 1000000) :
    Calls Try.prog 50 #[v, idv a] w fun e w' => e = .returned (.int .i64 (openI l a)) ∧ K w w' := by
  have h' := h
  obtain ⟨A, c, rfl, hl, -⟩ := h
  have hx := Blk.new w 26 #[.int .i64 a.1, .int .u64 (a.2.1 : Int), .int .u64 (a.2.2 : Int)]
  have k1 : K w (w.alloc (.cells #[.int .i64 a.1, .int .u64 (a.2.1 : Int), .int .u64 (a.2.2 : Int)] 26)) := (K.rf w).al _
  have HO := Lib.hid (openI_eq l a)
  have C1 := Lib.hid fun W (kW : K w W) => Seek_calls l a _ W (lst_st h' kW) hlen
  have HS : Hid (seekI l a = match seekT l a with | none => -1 | some k => (k : Int)) := Lib.hid (by unfold seekI; cases seekT l a <;> rfl)
  have HL := Lib.hid fun k h => @seekT_some l a k h
  generalize openI l a = R at *
  generalize seekI l a = I at *
  clear h'
  go_enter Try.func50, Try.ntmps50
  go_wp2_with fail
  generalize w.alloc _ = w1 at *
  refine (C1.out w1 k1).mono ?_
  rintro e w2 ⟨rfl, k2⟩
  have kW := k1.tr k2
  cases hs : seekT l a with
  | none =>
    obtain rfl : I = -1 := by rw [HS.out, hs]
    obtain rfl : R = -1 := by rw [HO.out, hs]
    go_wp2
    go_ret
    exact ⟨rfl, kW⟩
  | some k =>
    obtain rfl : I = (k : Int) := by rw [HS.out, hs]
    obtain ⟨t, h1, -, -⟩ := HL.out k hs
    obtain ⟨hk, h2⟩ := List.getElem?_eq_some_iff.1 h1
    have HR : Hid (R = if t.asked = true then -1 else (k : Int)) := Lib.hid (by rw [HO.out, hs]; simp [h1])
    obtain ⟨b1, off, cs, rfl, hcl, hrl, d0, d⟩ := lsr_cells hl k hk (by decide)
    rw [h2] at hrl
    obtain ⟨vf, ve, rfl, -, -⟩ := hrl w2 kW
    have d8 : w2.cell? ⟨b1, off + k * 9 + 8, none⟩ = some (.bool t.asked) := d w2 kW 8 (by decide)
    have hki : (k : Int) < (l.length : Int) := by omega
    have hk0 : (0 : Int) ≤ (k : Int) := by omega
    clear d d0 hrl hcl h1 h2 hs HO HS HL
    cases ha : t.asked
    · obtain rfl : R = (k : Int) := by rw [HR.out, ha]; rfl
      rw [ha] at d8
      go_wp2
      go_ret
      exact ⟨rfl, kW⟩
    · obtain rfl : R = -1 := by rw [HR.out, ha]; rfl
      rw [ha] at d8
      go_wp2
      go_ret
      exact ⟨rfl, kW⟩

set_option maxHeartbeats 400000 in
theorem Big_calls (x : Ent) (v : Value) (w : World) (h : ent x v w) (hf : fitEn x) :
    Calls Try.prog 51 #[v] w fun e w' => e = .returned (.bool (bigE x)) ∧ K w w' := by
  have C1 := Lib.hid fun W (kW : K w W) => NEncode_calls x v W (ent_st h kW) hf
  have HB : Hid (bigE x = decide (3000 < ((encEnR x).length : Int))) := Lib.hid (by
    unfold bigE encOf encEnR
    rw [decide_eq_decide]; omega)
  obtain ⟨vf, ve, rfl, -, -⟩ := h
  have k1 : K w (w.alloc (.cells (entA x vf ve) 34)) := (K.rf w).al _
  go_enter Try.func51, Try.ntmps51
  go_wp2_with fail
  generalize w.alloc _ = w1 at *
  refine (C1.out w1 k1).mono ?_
  rintro e w2 ⟨v2, rfl, ho, k2⟩
  obtain ⟨A2, c2, rfl, -⟩ := sl_own ho
  clear ho
  go_wp2
  go_ret
  exact ⟨by rw [HB.out]; rfl, k1.tr k2⟩
end Go.Proofs.Ytjcdgbnbaiebdaa

/-
  The walk of stage.add (layer 17). Conditions: lists of at most a million.
-/
set_option maxRecDepth 100000
namespace Go.Proofs.Ytjcdgbnbaiebdaa
open Go Go.RowKit

set_option maxHeartbeats 4000000 in
theorem Add_calls (l : List Txn) (t : Txn) (v u : Value) (w : World) (h : lst txS l v w) (ht : txv t u w) (hfit : fitEn t.e) (hs : smallEn t.e) (hl : ∀ s ∈ l, smallEn s.e) (hlen : l.length ≤ 1000000) :
    Calls Try.prog 48 #[v, u] w fun e w' => ∃ v', e = .returned (.tuple #[v', .int .i64 (addT l t).2]) ∧ OwnL w.heap.size w.heap.size 39 txS (addT l t).1 v' w' ∧ K w w' := by
  obtain ⟨vf, ve, rfl, hf, he⟩ := ht
  obtain ⟨Af, cf, rfl⟩ := flt_slice hf
  obtain ⟨Ae, ce, rfl⟩ := lst_slice he
  have HE : Hid (∀ W, K w W → ent t.e (.agg (entA t.e (.slice Af t.e.f.length cf) (.slice Ae t.e.es.length ce))) W) := Lib.hid fun W k => ⟨_, _, rfl, flt_st _ _ _ _ hf k, lst_st he k⟩
  have HV := Lib.hid (lst_al h)
  obtain ⟨A, c, rfl⟩ := lst_slice h
  clear hf he h
  have HR : Hid (addT l t = if seekI l (idOf t.e) < 0 then (if okEn t.e = false then (l, 110) else if 8 ≤ l.length then (l, 171) else if bigE t.e then (l, 172) else (l ++ [t], 0)) else (l, 170)) := Lib.hid (by
    unfold addT seekI
    cases seekT l (idOf t.e) with
    | none => simp
    | some k =>
      simp only [Option.isSome_some, if_true]
      rw [if_neg (by omega)])
  generalize addT l t = R at *
  have HS := Lib.hid hs
  have HL := Lib.hid hl
  have HF := Lib.hid hfit
  clear hs hl hfit
  have hx := Blk.new w 39 (txA t (.slice Af t.e.f.length cf) (.slice Ae t.e.es.length ce))
  have k1 : K w (w.alloc (.cells (txA t (.slice Af t.e.f.length cf) (.slice Ae t.e.es.length ce)) 39)) := (K.rf w).al _
  go_enter Try.func48, Try.ntmps48
  go_wp2
  go_step3
  go_wp2_with fail
  generalize w.alloc _ = w1 at *
  have hg3w : w.heap.size ≤ w.heap.size := Nat.le_refl _
  generalize w.heap.size = g3 at hx ⊢
  generalize Value.slice Af t.e.f.length cf = vf at *
  generalize Value.slice Ae t.e.es.length ce = ve at *
  have qx := hx.cells
  refine (Copied_calls l _ w1 (HV.out _ k1) HL.out hlen).mono ?_
  rintro e w2 ⟨u6, rfl, hO, k2⟩
  have k02 := k1.tr k2
  go_wp2_with fail
  go_step3
  go_wp2_with fail
  refine (Seek_calls l (idOf t.e) _ w2 (HV.out _ k02) hlen).mono ?_
  rintro e w3 ⟨rfl, k3⟩
  have hzw := k1.size
  replace hO := hO.st k3
  replace k02 := k02.tr k3
  have k23 := k2.tr k3
  have HW : Hid (OwnL w.heap.size w.heap.size 39 txS l u6 w3) := Lib.hid (OwnL.low (OwnL.floor hO hzw) hzw)
  generalize hI : seekI l (idOf t.e) = I at HR ⊢
  clear hI
  by_cases hneg : I < 0
  rotate_left
  · have HQ : Hid (R = (l, 170)) := Lib.hid (by rw [HR.out, if_neg hneg])
    clear hO
    go_wp2
    try rw [Exit.noGoto_ret]
    go_ret2
    exact ⟨_, by rw [HQ.out]; rfl, by rw [HQ.out]; exact HW.out, k02⟩
  have HR2 : Hid (R = if okEn t.e = false then (l, 110) else if 8 ≤ l.length then (l, 171) else if bigE t.e then (l, 172) else (l ++ [t], 0)) := Lib.hid (by rw [HR.out, if_pos hneg])
  clear HR
  go_wp2_with fail
  refine (NCheck_calls t.e _ w3 (HE.out _ k02)).mono ?_
  rintro e w4 ⟨rfl, k4⟩
  replace hO := hO.st k4
  replace k02 := k02.tr k4
  replace k23 := k23.tr k4
  cases hok : okEn t.e
  · have HQ : Hid (R = (l, 110)) := Lib.hid (by rw [HR2.out, if_pos hok])
    have HW : Hid (OwnL w.heap.size w.heap.size 39 txS l u6 w4) := Lib.hid (OwnL.low (OwnL.floor hO hzw) hzw)
    have hne : (chkEn t.e != 0) = true := by rw [chkEn_bad hok]; rfl
    rw [chkEn_bad hok]
    clear hO
    go_wp2
    try rw [Exit.noGoto_ret]
    go_ret2
    exact ⟨_, by rw [HQ.out]; rfl, by rw [HQ.out]; exact HW.out, k02⟩
  rw [chkEn_good hok]
  by_cases h8 : 8 ≤ l.length
  · have h8' : (8 : Int) ≤ (l.length : Int) := by omega
    have HQ : Hid (R = (l, 171)) := Lib.hid (by rw [HR2.out, if_neg (by rw [hok]; decide), if_pos h8])
    have HW : Hid (OwnL w.heap.size w.heap.size 39 txS l u6 w4) := Lib.hid (OwnL.low (OwnL.floor hO hzw) hzw)
    clear hO
    go_wp2
    try rw [Exit.noGoto_ret]
    go_ret2
    exact ⟨_, by rw [HQ.out]; rfl, by rw [HQ.out]; exact HW.out, k02⟩
  have h8' : ¬ (8 : Int) ≤ (l.length : Int) := by omega
  go_wp2_with fail
  refine (Big_calls t.e _ w4 (HE.out _ k02) HF.out).mono ?_
  rintro e w5 ⟨rfl, k5⟩
  replace hO := hO.st k5
  replace k02 := k02.tr k5
  replace k23 := k23.tr k5
  cases hb : bigE t.e
  rotate_left
  · have HQ : Hid (R = (l, 172)) := Lib.hid (by rw [HR2.out, if_neg (by rw [hok]; decide), if_neg h8, hb]; rfl)
    have HW : Hid (OwnL w.heap.size w.heap.size 39 txS l u6 w5) := Lib.hid (OwnL.low (OwnL.floor hO hzw) hzw)
    clear hO
    go_wp2
    try rw [Exit.noGoto_ret]
    go_ret2
    exact ⟨_, by rw [HQ.out]; rfl, by rw [HQ.out]; exact HW.out, k02⟩
  have HQ : Hid (R = (l ++ [t], 0)) := Lib.hid (by rw [HR2.out, if_neg (by rw [hok]; decide), if_neg h8, hb]; rfl)
  go_upto_region 10 with (fail)
  have hx5 := hx.below k23 hx.lt
  have hvc := hO.blk
  have hz5 := k23.size
  have hgb := Nat.le_refl w5.heap.size
  have hg3 := hx.lt
  obtain ⟨gb, hgbe⟩ : ∃ gb, gb = w5.heap.size := ⟨_, rfl⟩
  rw [← hgbe] at hvc hz5 hgb
  have hgb5 : gb ≤ w5.heap.size := by omega
  clear hgbe hgb
  obtain ⟨C, hC⟩ : ∃ C : World → Prop, C = fun W => K w W ∧ gb ≤ W.heap.size ∧ Blk W g3 39 (txA t vf ve) := ⟨_, rfl⟩
  have hg : ∀ W W', C W → Below W.heap.size W W' → C W' := by
    subst hC
    rintro W W' ⟨h1, h0, h2⟩ hb
    exact ⟨h1.tr hb, Nat.le_trans h0 hb.size, h2.below hb h2.lt⟩
  have hc0 : C w5 := by rw [hC]; exact ⟨k02, hgb5, hx5⟩
  have hvc5 : ∀ b, u6.ownBlock = some b → b < gb := fun b hb => (hvc b hb).2
  have hO5 := hO
  refine wp_region_turn2 8 C (fun W => OwnL w1.heap.size w1.heap.size 39 txS l u6 W) (fun _ => True) (fun W W' => W.grownBy W' u6.ownBlock) [isV (u6),
      isV (.pointer (some ⟨g3, 0, none⟩)),
      isV (.agg (entA t.e vf ve)),
      entF gb t.e,
      isV (.pointer (some ⟨g3, 8, none⟩)),
      isV (.bool t.asked),
      txF gb t,
      rowF gb 39 t,
      ownF8 w1.heap.size 39 (l ++ [t]),
      ownF8 w1.heap.size 39 (l ++ [t])]
    [([], []), ([], []), ([1], [(29, 1)]), ([2], [(30, 2)]), ([], []), ([4], [(32, 4)]), ([3, 5], [(31, 3), (33, 5)]), ([6], [(34, 6)]), ([0, 7], [(28, 0), (35, 7)]), ([8], [(36, 8)])] 39 rfl (by kernel_rfl) (by kernel_rfl) (by kernel_rfl) (by decide) hg (fun W W' h k => h.st k) (fun _ _ h _ => h) (by exact hg _ _ hc0 (Below.drew (Below.refl _ _))) (hO5.st (Below.drew (Below.refl _ _))) ?st ?st2 ?ow ?_
  case st =>
    simp only [List.forall_mem_cons]
    and_intros
    all_goals first | exact isV_st _ | exact entF_st _ _ | exact txF_st _ _ | exact rowF_st _ _ _ | exact ownF8_st _ _ _ | simp
  case st2 =>
    simp only [List.zipIdx_cons, List.zipIdx_nil, List.forall_mem_cons, Nat.zero_add, Nat.reduceAdd]
    and_intros
    all_goals first | exact .inl rfl | exact .inr (fun _ _ _ h _ => h) | exact .inr (entF_row hvc5) | exact .inr (txF_row hvc5) | exact .inr (rowF_row hvc5) | simp
  case ow =>
    simp only [OwedT]
    and_intros
    all_goals try trivial
    all_goals
      simp only [Nat.reduceEqDiff, if_false, Nat.reduceAdd]
    all_goals
      first
      | (intro V w' hc hD hp
         have hD2 : OwnL w1.heap.size w1.heap.size 39 txS l u6 w' := hD
         simp only [List.forall_mem_cons, tab_zero, tab_succ, isV] at hp
         rw [hC] at hc
         obtain ⟨kw, hgw, hbx⟩ := hc)
      | (intro V w' hc hp
         rw [hC] at hc
         obtain ⟨kw, hgw, hbx⟩ := hc
         have q := hbx.cell
         try simp only [List.forall_mem_cons, tab_zero, tab_succ, isV] at hp
         try simp [wantsG, rhoP, List.lookup, hp, tab_zero, tab_succ, ResG, execOp, bareOp, isV, undef, Below.refl, q, go_sem])
      | skip
    · refine (Whole_calls t.e _ w' (HE.out _ kw) HS.out).mono ?_
      rintro e w'' ⟨v, rfl, ho, hb⟩
      exact ⟨v, rfl, entO_entF (by omega) ho, hb⟩
    · obtain ⟨⟨vf3, ve3, e3, hF⟩, h5, -⟩ := hp
      simp [e3, go_sem]
      exact ⟨⟨vf3, ve3, rfl, hF⟩, Below.refl _ _⟩
    · obtain ⟨⟨vf3, ve3, e3, hF⟩, -⟩ := hp
      have hA := hF _ (UpB.rf _ _ _)
      obtain ⟨A3, c3, rfl⟩ := flt_slice hA.1
      obtain ⟨D3, d3, rfl⟩ := lst_slice hA.2
      simp [e3, go_sem]
      exact ⟨⟨w'.heap.size, _, _, rfl, by omega, Blk.new _ _ _, fun W' u => hF W' ((UpB.of_k ((K.rf w').al _) _ _).tr u)⟩, (K.rf w').al _⟩
    · obtain ⟨h0, hr7, -⟩ := hp
      obtain ⟨v', w'', hrun, h1, h2, h3⟩ := exec_one (P := Try.prog) (ρ := rhoP [(28, 0), (35, 7)] _ V) (.tmp 28) (.tmp 35) 27 27 39 w1.heap.size _ 104 l TTx u6 h0 hD2 gb hz5 hvc5 t (V 7) rfl hr7 (by omega) (by omega)
      rw [hrun]
      refine ⟨h1, ?_, trivial, h3⟩
      rw [hC]
      exact ⟨kw.trans (h2.mono hzw), by have := h3.size; omega, hbx.grown h3 (fun e => by have := hvc g3 e.symm; omega)⟩
  intro V W hc _ hp
  have h9 := hp 9 (by simp)
  simp only [tab_zero, tab_succ] at h9
  rw [hC] at hc
  have kW := hc.1
  have HW : Hid (OwnL w.heap.size w.heap.size 39 txS (l ++ [t]) (V 9) W) := Lib.hid (OwnL.low (OwnL.floor h9 hzw) hzw)
  clear hp hc hg hc0 hC h9 hO5 hO hx qx hx5
  simp only [putAll, Act.put, List.setIfInBounds_toArray, List.set_cons_succ, List.set_cons_zero]
  generalize V 9 = v9 at *
  go_wp2
  try rw [Exit.noGoto_ret]
  go_ret2
  exact ⟨_, by rw [HQ.out]; rfl, by rw [HQ.out]; exact HW.out, kW⟩
end Go.Proofs.Ytjcdgbnbaiebdaa
