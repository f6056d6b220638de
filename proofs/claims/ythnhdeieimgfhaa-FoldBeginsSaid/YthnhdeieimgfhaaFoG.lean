/-
  The walk of fold.forget (layer 16). Conditions: lists of at most a million.
-/
import Derived.Test.YthnhdeieimgfhaaFoF
set_option maxRecDepth 100000
namespace Go.Proofs.Ythnhdeieimgfhaa
open Go Go.RowKit

/-- Promises fewer: another row of the same block, and a store of it. -/
theorem StoV.dropP {base g : Nat} {s : Stt} {vl vp va : Value} {c1 c2 : List (List Value)} {W W' : World} (h : StoV base g s vl vp va c1 c2 W) (u : W.grownBy W' vp.ownBlock) {l : List Ent} {css : List (List Value)} {v' : Value} (ho : W'.ownsRow base 58 8 v' l.length css.flatten) (hcl : css.length = l.length) (hv : v'.ownBlock = vp.ownBlock) (hE : ∀ W, Each enS s.prom c2 W → Each enS l css W) :
    StoV base g ⟨s.life, s.list, l, s.ab⟩ vl v' va c1 css (W'.setCell ⟨g, 2, none⟩ v') := by
  have u0 : UpB 0 vp.ownBlock W W' := UpB.of_mut u 0
  have hg := h.blk.lt
  have hvg : v'.ownBlock ≠ some g := fun e => (h.rowp (by rw [← hv]; exact e)).2.2.1 rfl
  have u1 : UpN (fun k => vp.ownBlock = some k) W W' := u0.upN (fun k hk => hk.elim (fun h => by omega) (fun h => h.symm))
  have us : UpN (fun k => k = g) W' (W'.setCell ⟨g, 2, none⟩ v') := UpN.setF (X := fun k => k = g) rfl _ _
  have hbl : Blk W' g 43 (stA s vl vp va) := (u1.block g h.blk.lt (fun e => (h.rowp e).2.2.1 rfl)).trans h.blk
  refine ⟨hbl.set_ 2 _, h.low, ?_, ?_, ?_, ?_, h.len1, hcl, fun W'' u' => ?_⟩
  · exact row_upn (row_upn h.l u1 fun b hb e => h.ne b hb e) us fun b hb => (h.rowl hb).2.2.1
  · exact row_upn ho us (fun b hb e => hvg (by rw [hb, e]))
  · exact row_upn (row_upn h.a u1 fun b hb => (h.rowa hb).2.2.2.2) us fun b hb => (h.rowa hb).2.2.1
  · intro b hb
    rw [hv]
    exact h.ne b hb
  · have uW : UpN (StoX base g vl vp va) W W'' := grow_upn u0 u' fun k hk e => by
      rcases e with e | e | e | e | e | e | e
      · exact .inr (.inl e)
      · exact .inr (.inr (.inr (.inl e.symm)))
      · exact .inl e
      · exact .inr (.inl e)
      · exact .inr (.inr (.inl e))
      · exact .inr (.inr (.inr (.inl (by rw [← hv]; exact e))))
      · exact .inr (.inr (.inr (.inr e)))
    obtain ⟨e1, e2⟩ := h.el W'' uW
    exact ⟨e1, hE _ e2⟩

set_option maxHeartbeats 1000000 in
theorem Forget_calls (s : Stt) (a : Idn) (base g : Nat) (w : World) (h : Sto base g s w) (hlen : s.prom.length ≤ 1000000) (hb0 : base ≤ w.heap.size) :
    Calls Try.prog 104 #[.pointer (some ⟨g, 0, none⟩), idv a] w fun e w' => e = .returned (.tuple #[]) ∧ Sto base g ⟨s.life, s.list, dropE s.prom a, s.ab⟩ w' ∧ Below base w w' := by
  obtain ⟨vl, vp, va, c1, c2, h⟩ := h
  have hx := Blk.new w 53 #[.int .i64 a.1, .int .u64 (a.2.1 : Int), .int .u64 (a.2.2 : Int)]
  have k1 : K w (w.alloc (.cells #[.int .i64 a.1, .int .u64 (a.2.1 : Int), .int .u64 (a.2.2 : Int)] 53)) := (K.rf w).al _
  go_enter Try.func104, Try.ntmps104
  go_upto_region 1 with (fail)
  have h1 := h.st k1
  generalize w.alloc _ = w1 at *
  generalize w.heap.size = g0 at hx ⊢
  have q := h1.blk.cell
  have z := h1.blk.frozen
  have C1 := Lib.hid (EDeleteFunc_calls s.prom a g0 base vp c2 w1 h1.p h1.len2 (fun W u => (h1.el W (u.more fun k e => .inr (.inr (.inr (.inl e))))).2) hx hlen)
  have H1 := Lib.hid h1
  have hgb := h1.low
  clear h h1 hx
  go_wp2_with fail
  refine C1.out.mono ?_
  rintro e w2 ⟨v', css', rfl, ho, hcl, hv, hg2, hE⟩
  have h2 := StoV.dropP H1.out hg2 ho hcl hv hE
  have hrp := fun b hb => (H1.out.rowp (b := b) hb)
  have hq2 : Blk w2 g 43 (stA s vl vp va) := H1.out.blk.grown hg2 (fun e => (hrp g e.symm).2.2.1 rfl)
  have hbz : base ≤ w1.heap.size := Nat.le_trans hb0 k1.size
  have kb : Below base w (w2.setCell ⟨g, 2, none⟩ v') := by
    have e1 : Below base w w1 := k1.mono hb0
    have e2 : Below base w1 w2 := (Below.refl _ _).grown hg2 hbz fun k hk => (hrp k hk).1
    exact (e1.trans e2).setCell hgb _
  clear q z
  have q := hq2.cell
  have z := hq2.frozen
  have HH := Lib.hid h2
  clear h2 ho hcl hg2 hE hq2 hrp
  obtain ⟨A', n', c', rfl⟩ : ∃ A n c, v' = .slice A n c := by
    rcases HH.out.p.2 with ⟨h, _⟩ | ⟨g, cap, cur, h, _⟩
    · exact ⟨_, _, _, h⟩
    · exact ⟨_, _, _, h⟩
  go_wp2
  go_end0
  exact ⟨rfl, ⟨_, _, _, _, _, HH.out⟩, kb⟩
end Go.Proofs.Ythnhdeieimgfhaa
