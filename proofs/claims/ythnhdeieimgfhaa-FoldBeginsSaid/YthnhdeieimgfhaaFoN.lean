/-
  The walk of fold.Step (layer 16). Conditions: lists of at most a million.
-/
import Derived.Test.YthnhdeieimgfhaaFoM
set_option maxRecDepth 100000
namespace Go.Proofs.Ythnhdeieimgfhaa
open Go Go.RowKit

theorem StoR.stv {base : Nat} {s : Stt} {vl vp va : Value} {c1 c2 : List (List Value)} {W : World} (h : StoR base s vl vp va c1 c2 W) : stv s (.agg (stA s vl vp va)) W := by
  obtain ⟨e1, e2⟩ := h.el W (UpN.rf _ _)
  exact ⟨vl, vp, va, rfl, lst_of_own h.l e1, lst_of_own h.p e2, lst_of_own (by rw [flat_ids]; exact h.a) (each_ids _ _)⟩

set_option maxHeartbeats 4000000 in
theorem Step_own (s : Stt) (r : Rec) (v u : Value) (w : World) (h : stv s v w) (hr : rcd r u w) (hfit : fitRec r) (hsmr : smallEn r.e) (hsm : ∀ x ∈ s.list, smallEn x) (hsp : ∀ x ∈ s.prom, smallEn x) (hz : s.list.length ≤ 900000 ∧ s.prom.length ≤ 900000 ∧ s.ab.length ≤ 900000) :
    Calls Try.prog 28 #[v, u] w fun e w' => ∃ B vl vp va c1 c2, e = .returned (.tuple #[.agg (stA (stepS s r).1 vl vp va), .int .i64 (stepS s r).2]) ∧ w.heap.size ≤ B ∧ StoR B (stepS s r).1 vl vp va c1 c2 w' ∧ K w w' := by
  have C1 := Lib.hid fun W (k : K w W) => Copied_calls s v W (stv_st h k) hsm hsp hz
  obtain ⟨vl, vp, va, rfl, hl, hp, ha⟩ := h
  obtain ⟨Al, cl, rfl⟩ := lst_slice hl
  obtain ⟨Ap, cp, rfl⟩ := lst_slice hp
  obtain ⟨Aa, ca, rfl⟩ := lst_slice ha
  have HRC := Lib.hid (fun W (k : K w W) => rcd_st hr k)
  obtain ⟨vf, ve, rfl, hf, he⟩ := hr
  obtain ⟨Af, cf, rfl⟩ := flt_slice hf
  obtain ⟨Ae, ce, rfl⟩ := lst_slice he
  have HF := Lib.hid hfit
  generalize ho : stepS s r = o
  have HO := Lib.hid ho
  obtain ⟨s', e'⟩ := o
  clear ho
  have HM := Lib.hid hsmr
  clear hf he hl hp ha hsm hsp hfit hsmr
  have hx0 := ((Blk.new w 43 (stA s (.slice Al s.list.length cl) (.slice Ap s.prom.length cp) (.slice Aa s.ab.length ca))).alloc (.cells (recA r (.slice Af r.e.f.length cf) (.slice Ae r.e.es.length ce)) 60)).alloc (.cells zSt 43)
  have hb0 := (Blk.new (w.alloc (.cells (stA s (.slice Al s.list.length cl) (.slice Ap s.prom.length cp) (.slice Aa s.ab.length ca)) 43)) 60 (recA r (.slice Af r.e.f.length cf) (.slice Ae r.e.es.length ce))).alloc (.cells zSt 43)
  have hr0 := Blk.new ((w.alloc (.cells (stA s (.slice Al s.list.length cl) (.slice Ap s.prom.length cp) (.slice Aa s.ab.length ca)) 43)).alloc (.cells (recA r (.slice Af r.e.f.length cf) (.slice Ae r.e.es.length ce)) 60)) 43 zSt
  have k0 : K w (((w.alloc (.cells (stA s (.slice Al s.list.length cl) (.slice Ap s.prom.length cp) (.slice Aa s.ab.length ca)) 43)).alloc (.cells (recA r (.slice Af r.e.f.length cf) (.slice Ae r.e.es.length ce)) 60)).alloc (.cells zSt 43)) := (((K.rf w).al _).al _).al _
  simp only [World.size_alloc] at hb0 hr0
  go_enter Try.func28, Try.ntmps28
  go_wp2_with fail
  generalize World.alloc (World.alloc (World.alloc w _) _) _ = w0 at *
  generalize hgp : w.heap.size = gp at hx0 hb0 hr0 ⊢
  refine (C1.out w0 k0).mono ?_
  rintro e w1 ⟨B, vl1, vp1, va1, c1, c2, rfl, hB1, hB2, hS, k1⟩
  have hV := hS.v hB2
  obtain ⟨⟨Bl, dl, rfl⟩, ⟨Bp, dp, rfl⟩, Ba, da, rfl⟩ := hV.slices
  have kA : K w1 (w1.alloc (.cells (stA s (.slice Bl s.list.length dl) (.slice Bp s.prom.length dp) (.slice Ba s.ab.length da)) 43)) := (K.rf w1).al _
  have k02 := k1.tr kA
  have q2 := (hb0.below k02 hb0.lt).cell
  have HV := Lib.hid hV
  have hg1 := k1.size
  have hgr := hr0.lt
  clear hS hV C1 hx0
  go_wp2_with fail
  generalize World.alloc w1 _ = w2 at *
  generalize w1.heap.size = g at *
  have kw2 := k0.tr k02
  have hOn : OnH B g s r (.slice Bl s.list.length dl) (.slice Bp s.prom.length dp) (.slice Ba s.ab.length da) (.agg (recA r (.slice Af r.e.f.length cf) (.slice Ae r.e.es.length ce))) c1 c2 w2 :=
    ⟨HV.out, fun W' u' => HRC.out W' (u'.k kw2 fun k e => by
      have hz0 := k0.size
      rcases e with e | e | e | e
      · omega
      · have := (HV.out.rowl e).1; omega
      · have := (HV.out.rowp e).1; omega
      · have := (HV.out.rowa e).1; omega), by have := HV.out.blk.lt; omega, hz, HM.out, HF.out⟩
  have C2 := On_calls w2 hOn
  rw [HO.out] at C2
  have C2 := Lib.hid C2
  clear q2 hOn
  refine C2.out.mono ?_
  rintro e w3 ⟨rfl, hS3, hb3⟩
  obtain ⟨vl, vp, va, c1', c2', hS4⟩ := hS3
  simp only at hS4 ⊢
  obtain ⟨⟨El, fl, rfl⟩, ⟨Ep, fp, rfl⟩, Ea, fa, rfl⟩ := hS4.slices
  have q := hS4.blk.cell
  have hr9 := (hr0.below k02 hr0.lt).below hb3 (by have := k0.size; omega)
  have z := hr9.frozen
  have qz := hr9.cell
  have HR := Lib.hid hS4.r
  have kw3 := kw2.trans (hb3.mono (by have := k0.size; omega))
  have hgb : gp + 2 < B := by omega
  clear hS4 hr0 C2 k02 kA k1
  go_wp2
  have hr91 : Blk (World.setCell (World.setCell (World.setCell (World.setCell w3 _ _) _ _) _ _) _ _) (gp + 2) 43 (stA s' (.slice El s'.list.length fl) (.slice Ep s'.prom.length fp) (.slice Ea s'.ab.length fa)) := (((hr9.set_ 0 (.int .u64 (s'.life : Int))).set_ 1 (.slice El s'.list.length fl)).set_ 2 (.slice Ep s'.prom.length fp)).set_ 3 (.slice Ea s'.ab.length fa)
  have kS := K.set (K.set (K.set (K.set kw3 (r := gp + 2) (by omega) 0 (.int .u64 (s'.life : Int))) (r := gp + 2) (by omega) 1 (.slice El s'.list.length fl)) (r := gp + 2) (by omega) 2 (.slice Ep s'.prom.length fp)) (r := gp + 2) (by omega) 3 (.slice Ea s'.ab.length fa)
  have uS := (((UpN.setF (X := fun k => k < B) (g := gp + 2) (i := 0) (by omega) w3 (.int .u64 (s'.life : Int))).tr (UpN.setF (X := fun k => k < B) (g := gp + 2) (i := 1) (by omega) _ (.slice El s'.list.length fl))).tr (UpN.setF (X := fun k => k < B) (g := gp + 2) (i := 2) (by omega) _ (.slice Ep s'.prom.length fp))).tr (UpN.setF (X := fun k => k < B) (g := gp + 2) (i := 3) (by omega) _ (.slice Ea s'.ab.length fa))
  clear q z qz hr9
  generalize World.setCell (World.setCell (World.setCell (World.setCell w3 _ _) _ _) _ _) _ _ = W9 at *
  have e9 := hr91.cell
  refine bodyPost_ret (v := .tuple #[.agg (stA s' (.slice El s'.list.length fl) (.slice Ep s'.prom.length fp) (.slice Ea s'.ab.length fa)), .int .i64 e']) (by simp [results, Try.results28, go_sem, e9]) rfl ?_
  exact ⟨B, _, _, _, rfl, by omega, ⟨_, _, HR.out.low uS⟩, kS⟩
theorem Step_calls (s : Stt) (r : Rec) (v u : Value) (w : World) (h : stv s v w) (hr : rcd r u w) (hfit : fitRec r) (hsmr : smallEn r.e) (hsm : ∀ x ∈ s.list, smallEn x) (hsp : ∀ x ∈ s.prom, smallEn x) (hz : s.list.length ≤ 900000 ∧ s.prom.length ≤ 900000 ∧ s.ab.length ≤ 900000) :
    Calls Try.prog 28 #[v, u] w fun e w' => ∃ v', e = .returned (.tuple #[v', .int .i64 (stepS s r).2]) ∧ stv (stepS s r).1 v' w' ∧ K w w' := by
  refine (Step_own s r v u w h hr hfit hsmr hsm hsp hz).mono ?_
  rintro e w' ⟨B, vl, vp, va, c1, c2, rfl, -, h, k⟩
  exact ⟨_, rfl, h.stv, k⟩
end Go.Proofs.Ythnhdeieimgfhaa
