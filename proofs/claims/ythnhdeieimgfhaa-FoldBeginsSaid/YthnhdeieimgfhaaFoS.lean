/-
  The walk of Same of the document's answer of layer 16. Conditions: the first state is small.
-/
import Derived.Test.YthnhdeieimgfhaaWiLa
import Derived.Test.YthnhdeieimgfhaaFoD
set_option maxRecDepth 100000
namespace Go.Proofs.Ythnhdeieimgfhaa
open Go Go.RowKit

deriving instance DecidableEq for Stt
theorem stt_eq {s t : Stt} : s = t ↔ s.list = t.list ∧ s.prom = t.prom ∧ s.ab = t.ab ∧ s.life = t.life := by
  constructor
  · rintro rfl; exact ⟨rfl, rfl, rfl, rfl⟩
  · intro ⟨h1, h2, h3, h4⟩
    cases s; cases t
    simp only at h1 h2 h3 h4
    rw [h1, h2, h3, h4]
theorem same_st (s t : Stt) : decide (s = t) = (decide (s.list = t.list) && decide (s.prom = t.prom) && decide (s.ab = t.ab) && ((s.life : Int) == (t.life : Int))) := by
  rw [Bool.eq_iff_iff]
  simp [stt_eq, and_assoc]
  intros
  omega

set_option maxHeartbeats 4000000 in
theorem SSame_calls (s t : Stt) (v u : Value) (w : World) (h : stv s v w) (k : stv t u w) (hsl : ∀ x ∈ s.list, smallEn x) (hsp : ∀ x ∈ s.prom, smallEn x) (hz : s.list.length ≤ 1000000 ∧ s.prom.length ≤ 1000000 ∧ s.ab.length ≤ 1000000) :
    Calls Try.prog 26 #[v, u] w fun e w' => e = .returned (.bool (decide (s = t))) ∧ K w w' := by
  obtain ⟨vl, vp, va, rfl, hl, hp, ha⟩ := h
  obtain ⟨ul, up, ua, rfl, gl, gp, ga⟩ := k
  have C1 := Lib.hid fun W (kW : K w W) => WSameEntries_calls s.list t.list _ _ W (lst_st hl kW) (lst_st gl kW) hsl hz.1
  have C2 := Lib.hid fun W (kW : K w W) => WSameEntries_calls s.prom t.prom _ _ W (lst_st hp kW) (lst_st gp kW) hsp hz.2.1
  have C3 := Lib.hid fun W (kW : K w W) => WSameIDs_calls s.ab t.ab _ _ W (lst_st ha kW) (lst_st ga kW) hz.2.2
  have HR := Lib.hid (same_st s t)
  generalize decide (s = t) = R at *
  generalize decide (s.list = t.list) = B1 at *
  generalize decide (s.prom = t.prom) = B2 at *
  generalize decide (s.ab = t.ab) = B3 at *
  have hx0 := (Blk.new w 43 (stA s vl vp va)).alloc (.cells (stA t ul up ua) 43)
  have hy0 := Blk.new (w.alloc (.cells (stA s vl vp va) 43)) 43 (stA t ul up ua)
  have k0 : K w ((w.alloc (.cells (stA s vl vp va) 43)).alloc (.cells (stA t ul up ua) 43)) := ((K.rf w).al _).al _
  rw [World.size_alloc] at hy0
  clear hl hp ha gl gp ga hsl hsp
  go_enter Try.func26, Try.ntmps26
  go_upto_region 1 with (fail)
  generalize World.alloc (World.alloc w _) _ = w0 at *
  generalize hgp : w.heap.size = g at hx0 hy0 ⊢
  have qx := hx0.cells
  have qy := hy0.cells
  have kk := K.rf w0
  clear hx0 hy0
  go_wp2_with fail
  refine (C1.out w0 k0).mono ?_
  rintro e w1 ⟨rfl, k1⟩
  replace k0 := k0.tr k1
  replace kk := kk.tr k1
  go_wp2_with fail
  refine (C2.out w1 k0).mono ?_
  rintro e w2 ⟨rfl, k2⟩
  replace k0 := k0.tr k2
  replace kk := kk.tr k2
  go_wp2_with fail
  refine (C3.out w2 k0).mono ?_
  rintro e w3 ⟨rfl, k3⟩
  replace k0 := k0.tr k3
  replace kk := kk.tr k3
  clear C1 C2 C3 k1 k2 k3
  cases B1 <;> cases B2 <;> cases B3
  all_goals
    go_wp2
    go_ret
    exact ⟨by rw [HR.out]; simp, k0⟩
end Go.Proofs.Ythnhdeieimgfhaa
