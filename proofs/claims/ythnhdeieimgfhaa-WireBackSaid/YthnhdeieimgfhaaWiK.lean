/-
  The walk of WireLess (layer 13). Conditions: none.
-/
import Derived.Test.YthnhdeieimgfhaaWiJ
import Derived.Test.YthnhdeieimgfhaaWiOp
set_option maxRecDepth 100000
namespace Go.Proofs.Ythnhdeieimgfhaa
open Go Go.RowKit

theorem flatten_takeW {α : Type} (n : Nat) : ∀ (css : List (List α)), (∀ cs ∈ css, cs.length = n) → ∀ k, (css.take k).flatten = css.flatten.take (k * n)
  | [], _, k => by simp
  | c :: css, h, 0 => by simp
  | c :: css, h, k + 1 => by
    have hc := h c (by simp)
    have ih := flatten_takeW n css (fun x hx => h x (by simp [hx])) k
    rw [List.take_succ_cons, List.flatten_cons, List.flatten_cons, ih, List.take_append, List.take_of_length_le (l := c) (by rw [hc, Nat.succ_mul]; omega), hc, show (k + 1) * n - n = k * n by rw [Nat.succ_mul]; omega]
theorem lst_take {α : Type} {S : Shp α} {l : List α} {A : Option Addr} {c : Nat} {w : World} (h : lst S l (.slice A l.length c) w) (r : Nat) (hr : r ≤ l.length) : lst S (l.take r) (.slice A r c) w := by
  obtain ⟨A', c', e, ⟨css, hE, hR⟩, hc⟩ := h
  injection e with e1 _ e3
  subst e1 e3
  have hl : (l.take r).length = r := by simp; omega
  refine ⟨A, c, by rw [hl], ⟨css.take r, hE.take r, ?_⟩, by rw [hl]; omega⟩
  rw [hl, flatten_takeW S.size css hE.lens r]
  have hfl := hE.flen
  refine ⟨by rw [List.length_take, hfl]; exact Nat.min_eq_left (Nat.mul_le_mul_right _ hr), fun h0 => ?_⟩
  obtain ⟨g, off, e, hg, hcell⟩ := hR.2 (by rw [List.length_take] at h0; omega)
  refine ⟨g, off, e, hg, fun j u hj => hcell j u ?_⟩
  rw [List.getElem?_take] at hj
  split at hj
  · exact hj
  · cases hj
def lessM (m : Msg) (k : Nat) : Msg := ⟨m.kind, m.got, m.votes.take (min k m.votes.length), m.asks.take (min k m.asks.length), m.entries.take (min k m.entries.length), m.prepares.take (min k m.prepares.length), m.aborts.take (min k m.aborts.length), m.ends.take (min k m.ends.length)⟩
theorem okLs_take {α : Type} {p : α → Bool} {l : List α} (h : okLs p l = true) (k : Nat) : okLs p (l.take k) = true := by
  rw [okLs_iff] at h ⊢
  exact ⟨by simp; omega, fun x hx => h.2 x (List.mem_of_mem_take hx)⟩
theorem okM_less {m : Msg} (h : okM m = true) (k : Nat) : okM (lessM m k) = true := by
  have h0 := (okM_parts h).1
  simp only [okM, Bool.and_eq_true] at h ⊢
  obtain ⟨⟨⟨⟨⟨⟨-, h1⟩, h2⟩, h3⟩, h4⟩, h5⟩, h6⟩ := h
  refine ⟨⟨⟨⟨⟨⟨?_, okLs_take h1 _⟩, okLs_take h2 _⟩, okLs_take h3 _⟩, okLs_take h4 _⟩, okLs_take h5 _⟩, okLs_take h6 _⟩
  rcases h0 with ⟨hk, e1, e2, e3, e4⟩ | ⟨hk, e1, e2⟩
  · rw [okKd_1 (show (lessM m k).kind = 1 from hk)]
    simp [lessM, e1, e2, e3, e4]
  · rw [okKd_2 (show (lessM m k).kind = 2 from hk)]
    simp [lessM, e1, e2]
theorem okM_bare {m : Msg} (h : okM m = true) : okM ⟨m.kind, 0, [], [], [], [], [], []⟩ = true := by
  have h0 := (okM_parts h).1
  have : okKd ⟨m.kind, 0, [], [], [], [], [], []⟩ = true := by
    rcases h0 with ⟨hk, _⟩ | ⟨hk, _⟩
    · rw [okKd_1 (by exact hk)]; rfl
    · rw [okKd_2 (by exact hk)]; rfl
  simp [okM, this, okLs]

set_option maxHeartbeats 8000000 in
theorem WireLess_walk (v0 v1 : Value) (w : World) (r0 : repMsg w v0) (r1 : repU8 w v1) :
    Calls Try.prog 8 #[v0, v1] w fun e w' => e = .returned (.bool true) ∧ Below w.heap.size w w' := by
  obtain ⟨m, hm, hfit⟩ := r0
  obtain ⟨k8, rfl⟩ := r1
  have hk8 : k8.toNat < 256 := k8.toNat_lt
  generalize k8.toNat = k at *
  obtain ⟨u1, u2, u3, u4, u5, u6, rfl, h1, h2, h3, h4, h5, h6⟩ := hm
  obtain ⟨A1, c1, rfl⟩ := lst_slice h1
  obtain ⟨A2, c2, rfl⟩ := lst_slice h2
  obtain ⟨A3, c3, rfl⟩ := lst_slice h3
  obtain ⟨A4, c4, rfl⟩ := lst_slice h4
  obtain ⟨A5, c5, rfl⟩ := lst_slice h5
  obtain ⟨A6, c6, rfl⟩ := lst_slice h6
  have HM := Lib.hid fun W (kW : K w W) => (⟨_, _, _, _, _, _, rfl, lst_st h1 kW, lst_st h2 kW, lst_st h3 kW, lst_st h4 kW, lst_st h5 kW, lst_st h6 kW⟩ : msv m (.agg (msA m (.slice A1 m.votes.length c1) (.slice A2 m.asks.length c2) (.slice A3 m.entries.length c3) (.slice A4 m.prepares.length c4) (.slice A5 m.aborts.length c5) (.slice A6 m.ends.length c6))) W)
  have HL := Lib.hid fun W (kW : K w W) (k : Nat) => (⟨_, _, _, _, _, _, rfl, lst_take (lst_st h1 kW) (min k m.votes.length) (Nat.min_le_right _ _), lst_take (lst_st h2 kW) (min k m.asks.length) (Nat.min_le_right _ _), lst_take (lst_st h3 kW) (min k m.entries.length) (Nat.min_le_right _ _), lst_take (lst_st h4 kW) (min k m.prepares.length) (Nat.min_le_right _ _), lst_take (lst_st h5 kW) (min k m.aborts.length) (Nat.min_le_right _ _), lst_take (lst_st h6 kW) (min k m.ends.length) (Nat.min_le_right _ _)⟩ : msv (lessM m k) (.agg (msA (lessM m k) (.slice A1 (min k m.votes.length) c1) (.slice A2 (min k m.asks.length) c2) (.slice A3 (min k m.entries.length) c3) (.slice A4 (min k m.prepares.length) c4) (.slice A5 (min k m.aborts.length) c5) (.slice A6 (min k m.ends.length) c6))) W)
  have hcc : m.votes.length ≤ c1 ∧ m.asks.length ≤ c2 ∧ m.entries.length ≤ c3 ∧ m.prepares.length ≤ c4 ∧ m.aborts.length ≤ c5 ∧ m.ends.length ≤ c6 := by
    obtain ⟨_, _, e1, _, g1⟩ := h1
    obtain ⟨_, _, e2, _, g2⟩ := h2
    obtain ⟨_, _, e3, _, g3⟩ := h3
    obtain ⟨_, _, e4, _, g4⟩ := h4
    obtain ⟨_, _, e5, _, g5⟩ := h5
    obtain ⟨_, _, e6, _, g6⟩ := h6
    injection e1 with _ _ e1; injection e2 with _ _ e2; injection e3 with _ _ e3; injection e4 with _ _ e4; injection e5 with _ _ e5; injection e6 with _ _ e6
    omega
  obtain ⟨g1, g2, g3, g4, g5, g6⟩ := hcc
  clear h1 h2 h3 h4 h5 h6
  have hx := Blk.new w 28 (msA m (.slice A1 m.votes.length c1) (.slice A2 m.asks.length c2) (.slice A3 m.entries.length c3) (.slice A4 m.prepares.length c4) (.slice A5 m.aborts.length c5) (.slice A6 m.ends.length c6))
  have k1 : K w (w.alloc (.cells (msA m (.slice A1 m.votes.length c1) (.slice A2 m.asks.length c2) (.slice A3 m.entries.length c3) (.slice A4 m.prepares.length c4) (.slice A5 m.aborts.length c5) (.slice A6 m.ends.length c6)) 28)) := (K.rf w).al _
  go_enter Try.func8, Try.ntmps8
  go_upto_region 1 with (fail)
  generalize w.alloc _ = w1 at *
  have qx := hx.cells
  have kk := K.rf w1
  generalize w.heap.size = g at *
  clear hx
  go_wp2_with fail
  refine (awakeW_calls w1).mono ?_
  rintro e w2 ⟨rfl, j2⟩
  replace kk := kk.tr j2
  have k2 := k1.tr j2
  go_wp2_with fail
  refine (WFew_calls m _ w2 (HM.out _ k2)).mono ?_
  rintro e w3 ⟨rfl, j3⟩
  replace kk := kk.tr j3
  have k3 := k2.tr j3
  cases hfew : fewM m
  · go_wp2
    go_ret
    exact ⟨rfl, k3⟩
  go_wp2_with fail
  refine (WCheck_calls m _ w3 (HM.out _ k3)).mono ?_
  rintro e w4 ⟨rfl, j4⟩
  replace kk := kk.tr j4
  have k4 := k3.tr j4
  have hck : chkM m = if okM m then 0 else 130 := rfl
  cases hok : okM m
  · rw [show chkM m = 130 from by rw [hck, hok]; rfl]
    clear hck
    go_wp2
    go_ret
    exact ⟨rfl, k4⟩
  rw [show chkM m = 0 from by rw [hck, hok]; rfl]
  have HOK := Lib.hid hok
  clear hck hok hfew j2 j3 j4
  have HK1 := Lib.hid k1
  go_upto_region 6 with (fail)
  have hx := Blk.new w4 28 (msA m (.slice A1 m.votes.length c1) (.slice A2 m.asks.length c2) (.slice A3 m.entries.length c3) (.slice A4 m.prepares.length c4) (.slice A5 m.aborts.length c5) (.slice A6 m.ends.length c6))
  have kA : K w4 (w4.alloc (.cells (msA m (.slice A1 m.votes.length c1) (.slice A2 m.asks.length c2) (.slice A3 m.entries.length c3) (.slice A4 m.prepares.length c4) (.slice A5 m.aborts.length c5) (.slice A6 m.ends.length c6)) 28)) := (K.rf w4).al _
  have k5 := k4.tr kA
  have kk5 := kk.tr kA
  generalize w4.alloc _ = w5 at *
  have hgl : w.heap.size ≤ w4.heap.size := k4.size
  have hgl1 : w1.heap.size ≤ w4.heap.size := kk.size
  generalize w4.heap.size = h at *
  have qg := fun W (kW : K w1 W) => qx W kW
  clear kk
  have kk := kk5
  have hm1 : (if m.votes.length < k then (m.votes.length : Int) else (k : Int)) = ((min k m.votes.length : Nat) : Int) := by split <;> omega
  have b1 : min k m.votes.length ≤ c1 := by omega
  have hm2 : (if m.asks.length < k then (m.asks.length : Int) else (k : Int)) = ((min k m.asks.length : Nat) : Int) := by split <;> omega
  have b2 : min k m.asks.length ≤ c2 := by omega
  have hm3 : (if m.entries.length < k then (m.entries.length : Int) else (k : Int)) = ((min k m.entries.length : Nat) : Int) := by split <;> omega
  have b3 : min k m.entries.length ≤ c3 := by omega
  have hm4 : (if m.prepares.length < k then (m.prepares.length : Int) else (k : Int)) = ((min k m.prepares.length : Nat) : Int) := by split <;> omega
  have b4 : min k m.prepares.length ≤ c4 := by omega
  have hm5 : (if m.aborts.length < k then (m.aborts.length : Int) else (k : Int)) = ((min k m.aborts.length : Nat) : Int) := by split <;> omega
  have b5 : min k m.aborts.length ≤ c5 := by omega
  have hm6 : (if m.ends.length < k then (m.ends.length : Int) else (k : Int)) = ((min k m.ends.length : Nat) : Int) := by split <;> omega
  have b6 : min k m.ends.length ≤ c6 := by omega
  have HLL : Hid (∀ W, K w W → msv (lessM m k) (.agg (msA (lessM m k) (.slice A1 (min k m.votes.length) c1) (.slice A2 (min k m.asks.length) c2) (.slice A3 (min k m.entries.length) c3) (.slice A4 (min k m.prepares.length) c4) (.slice A5 (min k m.aborts.length) c5) (.slice A6 (min k m.ends.length) c6))) W) := Lib.hid fun W kW => HL.out W kW k
  clear HL
  generalize min k m.votes.length = r1 at *
  generalize min k m.asks.length = r2 at *
  generalize min k m.entries.length = r3 at *
  generalize min k m.prepares.length = r4 at *
  generalize min k m.aborts.length = r5 at *
  generalize min k m.ends.length = r6 at *
  have q := hx.cell
  have z := hx.frozen
  go_upto_region 7 with (fail)
  clear q z
  have hx : Blk (w5.setCell ⟨h, 2, none⟩ (.slice A1 r1 c1)) h 28 #[.int .i64 m.kind, .int .u64 (m.got : Int), .slice A1 r1 c1, .slice A2 m.asks.length c2, .slice A3 m.entries.length c3, .slice A4 m.prepares.length c4, .slice A5 m.aborts.length c5, .slice A6 m.ends.length c6] := hx.set_ 2 _
  have k5 := K.set k5 hgl 2 (.slice A1 r1 c1)
  have kk := K.set kk hgl1 2 (.slice A1 r1 c1)
  generalize w5.setCell _ _ = w6 at *
  have q := hx.cell
  have z := hx.frozen
  go_upto_region 8 with (fail)
  clear q z
  have hx : Blk (w6.setCell ⟨h, 3, none⟩ (.slice A2 r2 c2)) h 28 #[.int .i64 m.kind, .int .u64 (m.got : Int), .slice A1 r1 c1, .slice A2 r2 c2, .slice A3 m.entries.length c3, .slice A4 m.prepares.length c4, .slice A5 m.aborts.length c5, .slice A6 m.ends.length c6] := hx.set_ 3 _
  have k5 := K.set k5 hgl 3 (.slice A2 r2 c2)
  have kk := K.set kk hgl1 3 (.slice A2 r2 c2)
  generalize w6.setCell _ _ = w7 at *
  have q := hx.cell
  have z := hx.frozen
  go_upto_region 9 with (fail)
  clear q z
  have hx : Blk (w7.setCell ⟨h, 4, none⟩ (.slice A3 r3 c3)) h 28 #[.int .i64 m.kind, .int .u64 (m.got : Int), .slice A1 r1 c1, .slice A2 r2 c2, .slice A3 r3 c3, .slice A4 m.prepares.length c4, .slice A5 m.aborts.length c5, .slice A6 m.ends.length c6] := hx.set_ 4 _
  have k5 := K.set k5 hgl 4 (.slice A3 r3 c3)
  have kk := K.set kk hgl1 4 (.slice A3 r3 c3)
  generalize w7.setCell _ _ = w8 at *
  have q := hx.cell
  have z := hx.frozen
  go_upto_region 10 with (fail)
  clear q z
  have hx : Blk (w8.setCell ⟨h, 5, none⟩ (.slice A4 r4 c4)) h 28 #[.int .i64 m.kind, .int .u64 (m.got : Int), .slice A1 r1 c1, .slice A2 r2 c2, .slice A3 r3 c3, .slice A4 r4 c4, .slice A5 m.aborts.length c5, .slice A6 m.ends.length c6] := hx.set_ 5 _
  have k5 := K.set k5 hgl 5 (.slice A4 r4 c4)
  have kk := K.set kk hgl1 5 (.slice A4 r4 c4)
  generalize w8.setCell _ _ = w9 at *
  have q := hx.cell
  have z := hx.frozen
  go_upto_region 11 with (fail)
  clear q z
  have hx : Blk (w9.setCell ⟨h, 6, none⟩ (.slice A5 r5 c5)) h 28 #[.int .i64 m.kind, .int .u64 (m.got : Int), .slice A1 r1 c1, .slice A2 r2 c2, .slice A3 r3 c3, .slice A4 r4 c4, .slice A5 r5 c5, .slice A6 m.ends.length c6] := hx.set_ 6 _
  have k5 := K.set k5 hgl 6 (.slice A5 r5 c5)
  have kk := K.set kk hgl1 6 (.slice A5 r5 c5)
  generalize w9.setCell _ _ = w10 at *
  have q := hx.cell
  have z := hx.frozen
  go_upto_region 12 with (fail)
  clear q z
  have hx : Blk (w10.setCell ⟨h, 7, none⟩ (.slice A6 r6 c6)) h 28 #[.int .i64 m.kind, .int .u64 (m.got : Int), .slice A1 r1 c1, .slice A2 r2 c2, .slice A3 r3 c3, .slice A4 r4 c4, .slice A5 r5 c5, .slice A6 r6 c6] := hx.set_ 7 _
  have k5 := K.set k5 hgl 7 (.slice A6 r6 c6)
  have kk := K.set kk hgl1 7 (.slice A6 r6 c6)
  generalize w10.setCell _ _ = w11 at *
  have q := hx.cell
  go_wp2_with fail
  refine (WCheck_calls (lessM m k) _ w11 (HLL.out _ k5)).mono ?_
  rintro e wy ⟨rfl, jy⟩
  have hck : chkM (lessM m k) = 0 := by unfold chkM; rw [okM_less HOK.out k]; rfl
  rw [hck]
  have kk := kk.tr jy
  have k6 := k5.tr jy
  clear hck q
  go_wp2_with fail
  refine (WCheck_calls ⟨m.kind, 0, [], [], [], [], [], []⟩ (.agg (msA ⟨m.kind, 0, [], [], [], [], [], []⟩ (.slice none 0 0) (.slice none 0 0) (.slice none 0 0) (.slice none 0 0) (.slice none 0 0) (.slice none 0 0))) wy (msv_nil _ (by simp) _)).mono ?_
  rintro e wz ⟨rfl, jz⟩
  have hck : chkM ⟨m.kind, 0, [], [], [], [], [], []⟩ = 0 := by unfold chkM; rw [okM_bare HOK.out]; rfl
  rw [hck]
  go_wp2
  go_ret
  exact ⟨by simp, k6.tr jz⟩
end Go.Proofs.Ythnhdeieimgfhaa
