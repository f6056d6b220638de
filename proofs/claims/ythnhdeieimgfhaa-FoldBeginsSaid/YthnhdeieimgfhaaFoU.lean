/-
  The walk of awake (layer 16). Conditions: none.
-/
import Derived.Test.YthnhdeieimgfhaaFoT
import Derived.Test.YthnhdeieimgfhaaFoS
set_option maxRecDepth 100000
namespace Go.Proofs.Ythnhdeieimgfhaa
open Go Go.RowKit

theorem encRec_len {r : Rec} (h : okRec r = true) (hf : fitRec r) : (encRec r).length ≤ 100000 := by
  obtain ⟨h1, h2, h3, h4, h5, h6⟩ := hf
  have p1 := packN_len (kindN r.kind) (kindN_lt _)
  have p2 := packN_len r.n h2
  have p3 := packN_len (kindN r.br) (kindN_lt _)
  have p4 := packN_len r.life h5
  have p5 := packN_len r.ser h6
  unfold encRec
  rw [List.length_append, List.length_append]
  split
  · rename_i hk
    have ho : okEn r.e = true := by
      rcases okRec_kind h with ⟨g, _⟩ | ⟨_, g, _⟩ | ⟨g, _⟩
      · omega
      · exact g
      · omega
    have p6 := encEn_len ho h3
    have p7 := packN_len (encEn r.e).length (by omega)
    simp only [packB, List.length_append]
    omega
  · split
    · simp only [List.length_append]; omega
    · simp only [List.length_nil]; omega
def xE : Ent := ⟨3, 1, 1, 1, 0, 0, [], []⟩
def r1X : Rec := ⟨1, 1, ent0, 0, 0, 0⟩
def r2X : Rec := ⟨3, 0, xE, 0, 0, 0⟩
def r3X : Rec := ⟨2, 0, xE, 0, 0, 0⟩
def s1X : Stt := ⟨1, [], [], []⟩
def s2X : Stt := ⟨1, [], [xE], []⟩
def s3X : Stt := ⟨1, [xE], [], []⟩
theorem okX : okEn xE = true := by simp [okEn, xE, homeB]
theorem fitX : fitEn xE := by simp [fitEn, xE, i64ok]
theorem fit1X : fitRec r1X := ⟨by simp [r1X, i64ok], by simp [r1X], fit_ent0, by simp [r1X, i64ok], by simp [r1X], by simp [r1X]⟩
theorem fit2X : fitRec r2X := ⟨by simp [r2X, i64ok], by simp [r2X], fitX, by simp [r2X, i64ok], by simp [r2X], by simp [r2X]⟩
theorem fit3X : fitRec r3X := ⟨by simp [r3X, i64ok], by simp [r3X], fitX, by simp [r3X, i64ok], by simp [r3X], by simp [r3X]⟩
theorem step1X : stepS st0 r1X = (s1X, 0) := by simp [stepS, r1X, okRec, noId, onS, on1, st0, s1X]
theorem step2X : stepS s1X r2X = (s2X, 0) := by simp [stepS, r2X, okRec, noId, okX, onS, on3, s1X, s2X, hasE, hasI]
theorem step3X : stepS s2X r3X = (s3X, 0) := by simp [stepS, r3X, okRec, noId, okX, onS, on2, s3X, s2X, hasE, hasI, dropE]
theorem step4X : stepS s3X r3X = (s3X, 160) := by simp [stepS, r3X, okRec, noId, okX, onS, on2, s3X]
theorem inv3X : InvS s3X := by
  have h1 := InvS.zero.step fit1X
  rw [step1X] at h1
  have h2 := h1.step fit2X
  rw [step2X] at h2
  have h3 := h2.step fit3X
  rw [step3X] at h3
  exact h3
theorem small_xE : smallEn xE := okEn_small okX

set_option maxHeartbeats 8000000 in
theorem FAwake_calls (w : World) :
    Calls Try.prog 22 #[] w fun e w' => e = .returned (.bool true) ∧ K w w' := by
  have D1 : Hid (∀ W u, rcd r1X u W → Calls Try.prog 28 #[.agg zSt, u] W fun e w' => ∃ v', e = .returned (.tuple #[v', .int .i64 0]) ∧ stv s1X v' w' ∧ K W w') := Lib.hid fun W u hu => by
    have := Step_calls st0 r1X (.agg zSt) u W (stv_0 W) hu fit1X small_ent0 (by simp [st0]) (by simp [st0]) (by simp [st0])
    rw [step1X] at this
    exact this
  have D2 : Hid (∀ W v u, stv s1X v W → rcd r2X u W → Calls Try.prog 28 #[v, u] W fun e w' => ∃ v', e = .returned (.tuple #[v', .int .i64 0]) ∧ stv s2X v' w' ∧ K W w') := Lib.hid fun W v u hv hu => by
    have := Step_calls s1X r2X v u W hv hu fit2X small_xE (by simp [s1X]) (by simp [s1X]) (by simp [s1X])
    rw [step2X] at this
    exact this
  have D3 : Hid (∀ W v u, stv s2X v W → rcd r3X u W → Calls Try.prog 28 #[v, u] W fun e w' => ∃ v', e = .returned (.tuple #[v', .int .i64 0]) ∧ stv s3X v' w' ∧ K W w') := Lib.hid fun W v u hv hu => by
    have := Step_calls s2X r3X v u W hv hu fit3X small_xE (by simp [s2X]) (by simp [s2X, small_xE]) (by simp [s2X])
    rw [step3X] at this
    exact this
  have D4 : Hid (∀ W v u, stv s3X v W → rcd r3X u W → Calls Try.prog 28 #[v, u] W fun e w' => ∃ v', e = .returned (.tuple #[v', .int .i64 160]) ∧ stv s3X v' w' ∧ K W w') := Lib.hid fun W v u hv hu => by
    have := Step_calls s3X r3X v u W hv hu fit3X small_xE (by simp [s3X, small_xE]) (by simp [s3X]) (by simp [s3X])
    rw [step4X] at this
    exact this
  have hro := recs_ok inv3X (by simp [s3X])
  have D5 : Hid (∀ W v, stv s3X v W → Calls Try.prog 24 #[v] W fun e w' => ∃ v', e = .returned (.tuple #[v', .int .i64 0]) ∧ lst byS ((recsS s3X).map encRec) v' w' ∧ K W w') := Lib.hid fun W v hv =>
    Records_calls s3X v W hv (by simp [s3X]) hro
  have D6 : Hid (∀ W v, lst byS ((recsS s3X).map encRec) v W → Calls Try.prog 25 #[v] W fun e w' => ∃ v', e = .returned (.tuple #[v', .int .i64 0]) ∧ stv s3X v' w' ∧ K W w') := Lib.hid fun W v hv => by
    have := All_calls _ v W hv (by simp [recsS, s3X, rec1, recL, recP, recB]) (fun b hb => by
      obtain ⟨r, hr, rfl⟩ := List.mem_map.1 hb
      have := encRec_len (hro r hr).1 (hro r hr).2
      omega)
    rw [back_recs inv3X (by simp [s3X])] at this
    exact this
  have D7 : Hid (∀ W v, stv s3X v W → Calls Try.prog 68 #[v, idv (1, 1, 1)] W fun e w' => e = .returned (.bool true) ∧ K W w') := Lib.hid fun W v hv => by
    have := Has_calls s3X (1, 1, 1) v W hv (by simp [s3X])
    rw [show hasE s3X.list (1, 1, 1) = true by simp [s3X, hasE, idE, xE]] at this
    exact this
  have D8 : Hid (∀ W v, stv s2X v W → Calls Try.prog 69 #[v, idv (1, 1, 1)] W fun e w' => e = .returned (.bool true) ∧ K W w') := Lib.hid fun W v hv => by
    have := Promised_calls s2X (1, 1, 1) v W hv (by simp [s2X])
    rw [show hasE s2X.prom (1, 1, 1) = true by simp [s2X, hasE, idE, xE]] at this
    exact this
  have D9 : Hid (∀ W v, stv s3X v W → Calls Try.prog 69 #[v, idv (1, 1, 1)] W fun e w' => e = .returned (.bool false) ∧ K W w') := Lib.hid fun W v hv => by
    have := Promised_calls s3X (1, 1, 1) v W hv (by simp [s3X])
    rw [show hasE s3X.prom (1, 1, 1) = false by simp [s3X, hasE]] at this
    exact this
  have D10 : Hid (∀ W v, stv s3X v W → Calls Try.prog 70 #[v, idv (1, 1, 1)] W fun e w' => e = .returned (.bool false) ∧ K W w') := Lib.hid fun W v hv => by
    have := Aborted_calls s3X (1, 1, 1) v W hv (by simp [s3X])
    rw [show hasI s3X.ab (1, 1, 1) = false by simp [s3X, hasI]] at this
    exact this
  clear hro
  have HRR : Hid (((recsS s3X).map encRec).length = 2) := Lib.hid (by simp [recsS, s3X, rec1, recL, recP, recB])
  generalize (recsS s3X).map encRec = RR at *
  have hR1 : ∀ W, rcd r1X (.agg #[.int .i64 1, .int .u64 1, .int .i64 0, .int .i64 0, .int .u64 0, .int .u64 0, .int .i64 0, .int .u64 0, .slice none 0 0, .slice none 0 0, .int .i64 0, .int .u64 0, .int .u64 0]) W := fun W => ⟨_, _, rfl, ⟨none, 0, rfl, Reads.nil _ _ _ _⟩, lst_nil _ _⟩
  have hR2 : ∀ W, rcd r2X (.agg #[.int .i64 3, .int .u64 0, .int .i64 3, .int .i64 1, .int .u64 1, .int .u64 1, .int .i64 0, .int .u64 0, .slice none 0 0, .slice none 0 0, .int .i64 0, .int .u64 0, .int .u64 0]) W := fun W => ⟨_, _, rfl, ⟨none, 0, rfl, Reads.nil _ _ _ _⟩, lst_nil _ _⟩
  have hR3 : ∀ W, rcd r3X (.agg #[.int .i64 2, .int .u64 0, .int .i64 3, .int .i64 1, .int .u64 1, .int .u64 1, .int .i64 0, .int .u64 0, .slice none 0 0, .slice none 0 0, .int .i64 0, .int .u64 0, .int .u64 0]) W := fun W => ⟨_, _, rfl, ⟨none, 0, rfl, Reads.nil _ _ _ _⟩, lst_nil _ _⟩
  have HR1 := Lib.hid hR1
  have HR2 := Lib.hid hR2
  have HR3 := Lib.hid hR3
  have hx := Blk.new w 58 #[.int .i64 3, .int .i64 1, .int .u64 1, .int .u64 1, .int .i64 0, .int .u64 0, .slice none 0 0, .slice none 0 0]
  have k1 : K w (w.alloc (.cells #[.int .i64 3, .int .i64 1, .int .u64 1, .int .u64 1, .int .i64 0, .int .u64 0, .slice none 0 0, .slice none 0 0] 58)) := (K.rf w).al _
  clear hR1 hR2 hR3
  go_enter Try.func22, Try.ntmps22
  go_upto_region 2 with (fail)
  generalize w.alloc _ = w1 at *
  generalize w.heap.size = gx at hx ⊢
  have qx := hx.cell
  go_wp2_with fail
  refine (D1.out w1 _ (HR1.out w1)).mono ?_
  rintro e w2 ⟨v, rfl, hs, kc⟩
  obtain ⟨vl1, vp1, va1, rfl, hl, hp, ha⟩ := hs
  obtain ⟨Al1, cl1, rfl⟩ := lst_slice hl
  obtain ⟨Ap1, cp1, rfl⟩ := lst_slice hp
  obtain ⟨Aa1, ca1, rfl⟩ := lst_slice ha
  rw [show Value.agg (stA s1X (.slice Al1 s1X.list.length cl1) (.slice Ap1 s1X.prom.length cp1) (.slice Aa1 s1X.ab.length ca1)) = .agg #[.int .u64 1, .slice Al1 0 cl1, .slice Ap1 0 cp1, .slice Aa1 0 ca1] from rfl]
  have hst : stv s1X (.agg #[.int .u64 1, .slice Al1 0 cl1, .slice Ap1 0 cp1, .slice Aa1 0 ca1]) w2 := ⟨_, _, _, rfl, hl, hp, ha⟩
  have hb := Blk.new w2 43 #[.int .u64 1, .slice Al1 0 cl1, .slice Ap1 0 cp1, .slice Aa1 0 ca1]
  have ka : K w2 (w2.alloc (.cells #[.int .u64 1, .slice Al1 0 cl1, .slice Ap1 0 cp1, .slice Aa1 0 ca1] 43)) := (K.rf _).al _
  have HV1 := Lib.hid fun W (k : K (w2.alloc (.cells #[.int .u64 1, .slice Al1 0 cl1, .slice Ap1 0 cp1, .slice Aa1 0 ca1] 43)) W) => stv_st (stv_st hst ka) k
  have q1 := hb.cells
  have kk := kc.tr ka
  replace k1 := k1.tr kk
  replace hx := hx.below kk hx.lt
  replace qx := hx.cell
  have p1 := q1 _ (K.rf _)
  clear hl hp ha hst hb ka kk kc
  go_wp2_with fail
  generalize w2.alloc _ = w3 at *
  generalize w2.heap.size = g1 at *
  refine (D2.out w3 _ _ (HV1.out _ (K.rf _)) (HR2.out w3)).mono ?_
  rintro e w4 ⟨v, rfl, hs, kc⟩
  obtain ⟨vl2, vp2, va2, rfl, hl, hp, ha⟩ := hs
  obtain ⟨Al2, cl2, rfl⟩ := lst_slice hl
  obtain ⟨Ap2, cp2, rfl⟩ := lst_slice hp
  obtain ⟨Aa2, ca2, rfl⟩ := lst_slice ha
  rw [show Value.agg (stA s2X (.slice Al2 s2X.list.length cl2) (.slice Ap2 s2X.prom.length cp2) (.slice Aa2 s2X.ab.length ca2)) = .agg #[.int .u64 1, .slice Al2 0 cl2, .slice Ap2 1 cp2, .slice Aa2 0 ca2] from rfl]
  have hst : stv s2X (.agg #[.int .u64 1, .slice Al2 0 cl2, .slice Ap2 1 cp2, .slice Aa2 0 ca2]) w4 := ⟨_, _, _, rfl, hl, hp, ha⟩
  have hb := Blk.new w4 43 #[.int .u64 1, .slice Al2 0 cl2, .slice Ap2 1 cp2, .slice Aa2 0 ca2]
  have ka : K w4 (w4.alloc (.cells #[.int .u64 1, .slice Al2 0 cl2, .slice Ap2 1 cp2, .slice Aa2 0 ca2] 43)) := (K.rf _).al _
  have HV2 := Lib.hid fun W (k : K (w4.alloc (.cells #[.int .u64 1, .slice Al2 0 cl2, .slice Ap2 1 cp2, .slice Aa2 0 ca2] 43)) W) => stv_st (stv_st hst ka) k
  have q2 := hb.cells
  have kk := kc.tr ka
  replace k1 := k1.tr kk
  replace hx := hx.below kk hx.lt
  replace qx := hx.cell
  replace q1 := fun W k => q1 W (kk.tr k)
  replace HV1 := Lib.hid fun W k => HV1.out W (kk.tr k)
  have p1 := q1 _ (K.rf _)
  have p2 := q2 _ (K.rf _)
  clear hl hp ha hst hb ka kk kc
  go_wp2_with fail
  generalize w4.alloc _ = w5 at *
  generalize w4.heap.size = g2 at *
  refine (D3.out w5 _ _ (HV2.out _ (K.rf _)) (HR3.out w5)).mono ?_
  rintro e w6 ⟨v, rfl, hs, kc⟩
  obtain ⟨vl3, vp3, va3, rfl, hl, hp, ha⟩ := hs
  obtain ⟨Al3, cl3, rfl⟩ := lst_slice hl
  obtain ⟨Ap3, cp3, rfl⟩ := lst_slice hp
  obtain ⟨Aa3, ca3, rfl⟩ := lst_slice ha
  rw [show Value.agg (stA s3X (.slice Al3 s3X.list.length cl3) (.slice Ap3 s3X.prom.length cp3) (.slice Aa3 s3X.ab.length ca3)) = .agg #[.int .u64 1, .slice Al3 1 cl3, .slice Ap3 0 cp3, .slice Aa3 0 ca3] from rfl]
  have hst : stv s3X (.agg #[.int .u64 1, .slice Al3 1 cl3, .slice Ap3 0 cp3, .slice Aa3 0 ca3]) w6 := ⟨_, _, _, rfl, hl, hp, ha⟩
  have hb := Blk.new w6 43 #[.int .u64 1, .slice Al3 1 cl3, .slice Ap3 0 cp3, .slice Aa3 0 ca3]
  have ka : K w6 (w6.alloc (.cells #[.int .u64 1, .slice Al3 1 cl3, .slice Ap3 0 cp3, .slice Aa3 0 ca3] 43)) := (K.rf _).al _
  have HV3 := Lib.hid fun W (k : K (w6.alloc (.cells #[.int .u64 1, .slice Al3 1 cl3, .slice Ap3 0 cp3, .slice Aa3 0 ca3] 43)) W) => stv_st (stv_st hst ka) k
  have q3 := hb.cells
  have kk := kc.tr ka
  replace k1 := k1.tr kk
  replace hx := hx.below kk hx.lt
  replace qx := hx.cell
  replace q1 := fun W k => q1 W (kk.tr k)
  replace HV1 := Lib.hid fun W k => HV1.out W (kk.tr k)
  replace q2 := fun W k => q2 W (kk.tr k)
  replace HV2 := Lib.hid fun W k => HV2.out W (kk.tr k)
  have p1 := q1 _ (K.rf _)
  have p2 := q2 _ (K.rf _)
  have p3 := q3 _ (K.rf _)
  clear hl hp ha hst hb ka kk kc
  go_wp2_with fail
  generalize w6.alloc _ = w7 at *
  generalize w6.heap.size = g3 at *
  refine (D4.out w7 _ _ (HV3.out _ (K.rf _)) (HR3.out w7)).mono ?_
  rintro e w8 ⟨v, rfl, hs, kc⟩
  obtain ⟨vl4, vp4, va4, rfl, hl, hp, ha⟩ := hs
  obtain ⟨Al4, cl4, rfl⟩ := lst_slice hl
  obtain ⟨Ap4, cp4, rfl⟩ := lst_slice hp
  obtain ⟨Aa4, ca4, rfl⟩ := lst_slice ha
  rw [show Value.agg (stA s3X (.slice Al4 s3X.list.length cl4) (.slice Ap4 s3X.prom.length cp4) (.slice Aa4 s3X.ab.length ca4)) = .agg #[.int .u64 1, .slice Al4 1 cl4, .slice Ap4 0 cp4, .slice Aa4 0 ca4] from rfl]
  have hst : stv s3X (.agg #[.int .u64 1, .slice Al4 1 cl4, .slice Ap4 0 cp4, .slice Aa4 0 ca4]) w8 := ⟨_, _, _, rfl, hl, hp, ha⟩
  have hb := Blk.new w8 43 #[.int .u64 1, .slice Al4 1 cl4, .slice Ap4 0 cp4, .slice Aa4 0 ca4]
  have ka : K w8 (w8.alloc (.cells #[.int .u64 1, .slice Al4 1 cl4, .slice Ap4 0 cp4, .slice Aa4 0 ca4] 43)) := (K.rf _).al _
  have HV4 := Lib.hid fun W (k : K (w8.alloc (.cells #[.int .u64 1, .slice Al4 1 cl4, .slice Ap4 0 cp4, .slice Aa4 0 ca4] 43)) W) => stv_st (stv_st hst ka) k
  have q4 := hb.cells
  have kk := kc.tr ka
  replace k1 := k1.tr kk
  replace hx := hx.below kk hx.lt
  replace qx := hx.cell
  replace q1 := fun W k => q1 W (kk.tr k)
  replace HV1 := Lib.hid fun W k => HV1.out W (kk.tr k)
  replace q2 := fun W k => q2 W (kk.tr k)
  replace HV2 := Lib.hid fun W k => HV2.out W (kk.tr k)
  replace q3 := fun W k => q3 W (kk.tr k)
  replace HV3 := Lib.hid fun W k => HV3.out W (kk.tr k)
  have p1 := q1 _ (K.rf _)
  have p2 := q2 _ (K.rf _)
  have p3 := q3 _ (K.rf _)
  have p4 := q4 _ (K.rf _)
  clear hl hp ha hst hb ka kk kc
  go_wp2_with fail
  generalize w8.alloc _ = w9 at *
  generalize w8.heap.size = g4 at *
  refine (D5.out w9 _ (HV3.out _ (K.rf _))).mono ?_
  rintro e w10 ⟨v, rfl, hl10, kc⟩
  obtain ⟨A10, c10, rfl⟩ := lst_slice hl10
  rw [HRR.out] at hl10 ⊢
  have HL10 := Lib.hid hl10
  replace k1 := k1.tr kc
  replace hx := hx.below kc hx.lt
  replace qx := hx.cell
  replace q2 := fun W k => q2 W (kc.tr k)
  replace HV2 := Lib.hid fun W k => HV2.out W (kc.tr k)
  replace q3 := fun W k => q3 W (kc.tr k)
  replace HV3 := Lib.hid fun W k => HV3.out W (kc.tr k)
  clear hl10 kc p1 p2 p3 p4 q1 q4 HV1 HV4
  go_wp2_with fail
  refine (D6.out w10 _ HL10.out).mono ?_
  rintro e w11 ⟨v, rfl, hs, kc⟩
  obtain ⟨vl5, vp5, va5, rfl, hl, hp, ha⟩ := hs
  obtain ⟨Al5, cl5, rfl⟩ := lst_slice hl
  obtain ⟨Ap5, cp5, rfl⟩ := lst_slice hp
  obtain ⟨Aa5, ca5, rfl⟩ := lst_slice ha
  rw [show Value.agg (stA s3X (.slice Al5 s3X.list.length cl5) (.slice Ap5 s3X.prom.length cp5) (.slice Aa5 s3X.ab.length ca5)) = .agg #[.int .u64 1, .slice Al5 1 cl5, .slice Ap5 0 cp5, .slice Aa5 0 ca5] from rfl]
  have hb := Blk.new w11 43 #[.int .u64 1, .slice Al5 1 cl5, .slice Ap5 0 cp5, .slice Aa5 0 ca5]
  have ka : K w11 (w11.alloc (.cells #[.int .u64 1, .slice Al5 1 cl5, .slice Ap5 0 cp5, .slice Aa5 0 ca5] 43)) := (K.rf _).al _
  have q5 := hb.cells
  have kk := kc.tr ka
  replace k1 := k1.tr kk
  replace hx := hx.below kk hx.lt
  replace qx := hx.cells
  have q2' : ∀ W, K (w11.alloc (.cells #[.int .u64 1, .slice Al5 1 cl5, .slice Ap5 0 cp5, .slice Aa5 0 ca5] 43)) W → ∀ i, W.cell? ⟨g2, i, none⟩ = (#[.int .u64 1, .slice Al2 0 cl2, .slice Ap2 1 cp2, .slice Aa2 0 ca2] : Array Value)[i]? := fun W k => q2 W (kk.tr k)
  have q3' : ∀ W, K (w11.alloc (.cells #[.int .u64 1, .slice Al5 1 cl5, .slice Ap5 0 cp5, .slice Aa5 0 ca5] 43)) W → ∀ i, W.cell? ⟨g3, i, none⟩ = (#[.int .u64 1, .slice Al3 1 cl3, .slice Ap3 0 cp3, .slice Aa3 0 ca3] : Array Value)[i]? := fun W k => q3 W (kk.tr k)
  have HV2' := Lib.hid fun W k => HV2.out W (kk.tr k)
  have HV3' := Lib.hid fun W k => HV3.out W (kk.tr k)
  have ks := K.rf (w11.alloc (.cells #[.int .u64 1, .slice Al5 1 cl5, .slice Ap5 0 cp5, .slice Aa5 0 ca5] 43))
  clear hl hp ha hb ka kk kc q2 q3 HV2 HV3 D1 D2 D3 D4 D5 D6 hx
  go_wp2_with fail
  generalize w11.alloc _ = w13 at *
  refine (D7.out w13 _ (HV3'.out _ ks)).mono ?_
  rintro e w14 ⟨rfl, k⟩
  replace ks := ks.tr k
  clear k
  go_wp2_with fail
  refine (D8.out w14 _ (HV2'.out _ ks)).mono ?_
  rintro e w15 ⟨rfl, k⟩
  replace ks := ks.tr k
  clear k
  go_wp2_with fail
  refine (D9.out w15 _ (HV3'.out _ ks)).mono ?_
  rintro e w16 ⟨rfl, k⟩
  replace ks := ks.tr k
  clear k
  go_wp2_with fail
  refine (D10.out w16 _ (HV3'.out _ ks)).mono ?_
  rintro e w17 ⟨rfl, k⟩
  replace ks := ks.tr k
  have kF := k1.tr ks
  clear k
  go_wp2
  go_ret
  exact ⟨rfl, kF⟩
end Go.Proofs.Ythnhdeieimgfhaa
