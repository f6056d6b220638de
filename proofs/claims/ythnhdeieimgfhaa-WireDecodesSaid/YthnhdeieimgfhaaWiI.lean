/-
  The walk of 'awake' of the statements of layer 13, and that of WireNames. Conditions: none.
-/
import Derived.Test.YthnhdeieimgfhaaWiH
import Derived.Test.YthnhdeieimgfhaaWiD
set_option maxRecDepth 100000
namespace Go.Proofs.Ythnhdeieimgfhaa
open Go Go.RowKit

def mA : Msg := ⟨1, 5, [], [], [], [], [], []⟩
abbrev encA9 : List UInt8 := [1, 1, 1, 5, 0, 0]
theorem okM_a : okM mA = true := by simp [okM, okKd, okLs, mA]
theorem fitM_a : fitM mA := by simp [fitM, mA, i64ok]
theorem encM_a : encM mA = encA9 := by
  simp [encM, mA, layL, packN, kindN, longN, be]
theorem encMR_a : encMR mA = encA9 := by unfold encMR; rw [okM_a]; exact encM_a
theorem dec_m : decM encA9 = some mA := by rw [← encM_a]; exact decM_enc mA okM_a fitM_a
theorem decMC_a : decMC encA9 = 0 := by unfold decMC; rw [dec_m]; rfl
theorem decMX_a : decMX encA9 = mA := by unfold decMX; rw [dec_m]; rfl
theorem decMC_b : decMC (encA9 ++ [0]) = 130 := by
  unfold decMC
  rw [← encM_a, decM_more mA okM_a fitM_a [0] (by simp)]
  rfl
theorem chkM_a : chkM mA = 0 := by unfold chkM; rw [okM_a]; rfl
theorem chkM_0 : chkM msg0 = 130 := by simp [chkM, okM, okKd, msg0]
theorem msv_nil (m : Msg) (h : m.votes = [] ∧ m.asks = [] ∧ m.entries = [] ∧ m.prepares = [] ∧ m.aborts = [] ∧ m.ends = []) (w : World) : msv m (.agg (msA m (.slice none 0 0) (.slice none 0 0) (.slice none 0 0) (.slice none 0 0) (.slice none 0 0) (.slice none 0 0))) w := by
  obtain ⟨h1, h2, h3, h4, h5, h6⟩ := h
  refine ⟨_, _, _, _, _, _, rfl, ?_, ?_, ?_, ?_, ?_, ?_⟩
  · rw [h1]; exact lst_nil _ _
  · rw [h2]; exact lst_nil _ _
  · rw [h3]; exact lst_nil _ _
  · rw [h4]; exact lst_nil _ _
  · rw [h5]; exact lst_nil _ _
  · rw [h6]; exact lst_nil _ _

theorem own_emptyW (w : World) (base : Nat) (hb : base ≤ w.heap.size) : Own (w.alloc (.cells #[] 5)) base 5 (.slice (some ⟨w.heap.size, 0, none⟩) 0 0) [] :=
  own_of_block (rest := []) hb (heap_alloc_new w _) rfl rfl (by unfold maxLen; omega)
set_option maxHeartbeats 8000000 in
theorem awakeW_calls (w : World) :
    Calls Try.prog 13 #[] w fun e w' => e = .returned (.bool true) ∧ K w w' := by
  have kk := K.rf w
  have C1 := WEncode_calls mA _ w (msv_nil mA (by simp [mA]) w) fitM_a
  rw [encMR_a, chkM_a] at C1
  have C1 := Lib.hid C1
  go_enter Try.func13, Try.ntmps13
  go_wp2_with fail
  refine C1.out.mono ?_
  rintro e w1 ⟨v1, rfl, hs, k1⟩
  have S1 := Lib.hid fun W (kW : K w1 W) => sl_st _ _ _ _ hs kW
  obtain ⟨A1, c1, rfl, -⟩ := hs
  have C2 := Lib.hid fun W (kW : K w1 W) => WDecode_calls encA9 _ W (S1.out W kW) (by simp)
  rw [decMC_a, decMX_a] at C2
  clear C1 kk
  have kk := K.rf w1
  go_wp2_with fail
  refine (C2.out w1 (K.rf _)).mono ?_
  rintro e w2 ⟨v2, rfl, hm, k2⟩
  obtain ⟨B1, B2, B3, B4, B5, B6, rfl, h1, h2, h3, h4, h5, h6⟩ := hm
  obtain ⟨X1, d1, rfl⟩ := lst_slice h1
  obtain ⟨X2, d2, rfl⟩ := lst_slice h2
  obtain ⟨X3, d3, rfl⟩ := lst_slice h3
  obtain ⟨X4, d4, rfl⟩ := lst_slice h4
  obtain ⟨X5, d5, rfl⟩ := lst_slice h5
  obtain ⟨X6, d6, rfl⟩ := lst_slice h6
  have HM := Lib.hid fun W (kW : K w2 W) => (⟨_, _, _, _, _, _, rfl, lst_st h1 kW, lst_st h2 kW, lst_st h3 kW, lst_st h4 kW, lst_st h5 kW, lst_st h6 kW⟩ : msv mA (.agg (msA mA (.slice X1 mA.votes.length d1) (.slice X2 mA.asks.length d2) (.slice X3 mA.entries.length d3) (.slice X4 mA.prepares.length d4) (.slice X5 mA.aborts.length d5) (.slice X6 mA.ends.length d6))) W)
  have hx := Blk.new w2 28 (msA mA (.slice X1 mA.votes.length d1) (.slice X2 mA.asks.length d2) (.slice X3 mA.entries.length d3) (.slice X4 mA.prepares.length d4) (.slice X5 mA.aborts.length d5) (.slice X6 mA.ends.length d6))
  have kx : K w2 (w2.alloc (.cells (msA mA (.slice X1 mA.votes.length d1) (.slice X2 mA.asks.length d2) (.slice X3 mA.entries.length d3) (.slice X4 mA.prepares.length d4) (.slice X5 mA.aborts.length d5) (.slice X6 mA.ends.length d6)) 28)) := (K.rf w2).al _
  clear h1 h2 h3 h4 h5 h6 C2
  go_upto_region 3 with (fail)
  have k3 := k2.tr kx
  have HM3 := Lib.hid fun W (kW : K (w2.alloc _) W) => HM.out W (kx.tr kW)
  generalize w2.alloc _ = w3 at *
  generalize w2.heap.size = g2 at *
  have q3 := hx.cells
  have k13 := k1.tr k3
  clear HM kx hx kk k2
  have hown := own_emptyW w3 w1.heap.size k3.size
  have kE : K w3 (w3.alloc (.cells #[] 5)) := (K.rf w3).al _
  have s9 := S1.out _ (k3.tr kE)
  obtain ⟨A0, c0, e0, hR0⟩ := s9
  injection e0 with e0a _ e0b
  subst e0a e0b
  have hbz : w1.heap.size ≤ (w3.alloc (.cells #[] 5)).heap.size := Nat.le_trans k3.size kE.size
  go_wp2_with (at_builtin; refine wpList_app rfl _ _ 30 rfl w1.heap.size 5 _ 1 1 TB _ 0 [] rfl hown _ _ encA9.length _ (bys encA9) rfl hR0 (bys_one _) ?p1 hbz ?_)
  intro va wa hoa hga hata hba
  have k1a := (k3.tr kE).trans hba
  have k3a : K w3 wa := ⟨hba.os, hba.tape, hba.output, Nat.le_trans kE.size hba.size, fun k hk => (hga.block k (Nat.lt_of_lt_of_le hk kE.size) (by intro e; injection e with e; have e' : k = w3.heap.size := e; omega)).trans (kE.block k hk)⟩
  have hbza : w1.heap.size ≤ (wa.alloc (.cells #[.int .u8 0] 5)).heap.size := by have := k1a.size; simp; omega
  have hva : ∀ b, va.ownBlock = some b → w3.heap.size ≤ b := by
    intro b hb
    rcases hata with h | h
    · rw [h] at hb; injection hb with hb; have e' : w3.heap.size = b := hb; omega
    · rw [h] at hb; injection hb with hb; have e' : w3.heap.size + 1 = b := hb; omega
  clear hga hata hba hown hR0
  go_wp2_with (at_builtin; refine wpList_app rfl _ _ 30 rfl w1.heap.size 5 _ 1 1 TB _ _ _ rfl (World.ownsRow.alloc hoa _) (wa.heap.size + 1) _ 1 1 (bys [0]) rfl ?p2 (bys_one _) ?p3 hbza ?_)
  case p2 => exact Reads.new wa (bys [0]) 5 1 1 rfl
  case p3 => omega
  intro vb wb hob hgb hatb hbb
  have k3b : K w3 wb := by
    have kz := k3a.al (.cells #[.int .u8 0] 5)
    exact ⟨hbb.os.trans kz.os, hbb.tape.trans kz.tape, hbb.output.trans kz.output, Nat.le_trans kz.size hbb.size, fun k hk => (hgb.block k (Nat.lt_of_lt_of_le hk kz.size) (by intro e; have := hva k e.symm; omega)).trans (kz.block k hk)⟩
  have hob2 : Own wb w1.heap.size 5 vb (encA9 ++ [0]) := by
    unfold Own
    rw [bys_append]
    simpa using hob
  have sb := sl_own hob2
  have C4 := Lib.hid (WDecode_calls (encA9 ++ [0]) _ wb sb (by simp))
  obtain ⟨Ab, cb, rfl, -⟩ := sb
  clear hob hob2 hgb hatb hbb hoa hva k1a k3a hbza hbz
  have kk := K.rf wb
  go_wp2_with fail
  refine C4.out.mono ?_
  rintro e wc ⟨v9, rfl, hm9, kc⟩
  rw [decMC_b]
  obtain ⟨E1, E2, E3, E4, E5, E6, rfl, h1, h2, h3, h4, h5, h6⟩ := hm9
  obtain ⟨X7, d7, rfl⟩ := lst_slice h1
  obtain ⟨X8, d8, rfl⟩ := lst_slice h2
  obtain ⟨X9, d9, rfl⟩ := lst_slice h3
  obtain ⟨Xa, da, rfl⟩ := lst_slice h4
  obtain ⟨Xb, db, rfl⟩ := lst_slice h5
  obtain ⟨Xc, dc, rfl⟩ := lst_slice h6
  generalize decMX (encA9 ++ [0]) = mz at *
  have kx : K wc (wc.alloc (.cells (msA mz (.slice X7 mz.votes.length d7) (.slice X8 mz.asks.length d8) (.slice X9 mz.entries.length d9) (.slice Xa mz.prepares.length da) (.slice Xb mz.aborts.length db) (.slice Xc mz.ends.length dc)) 28)) := (K.rf wc).al _
  clear h1 h2 h3 h4 h5 h6 C4 kk
  go_upto_region 4 with (fail)
  have k3d := k3b.tr (kc.tr kx)
  generalize wc.alloc _ = wd at *
  have k1d := k1.tr (k3.tr k3d)
  have s1d : sl encA9 (.slice A1 6 c1) wd := S1.out wd (k3.tr k3d)
  have q3d := fun W (kW : K wd W) => q3 W (k3d.tr kW)
  clear kx kc k3b q3
  have kk := K.rf wd
  have hst := str s1d
  have hs5 : sl encA9 (.slice (some ⟨wd.heap.size, 0, none⟩) 6 6) (wd.alloc (.cells #[.int .u8 1, .int .u8 1, .int .u8 1, .int .u8 5, .int .u8 0, .int .u8 0] 5)) := ⟨_, _, rfl, (Reads.new wd (bys encA9) 5 1 6 rfl).more (by simp)⟩
  have hst2 := str hs5
  have kA : K wd (wd.alloc (.cells #[.int .u8 1, .int .u8 1, .int .u8 1, .int .u8 5, .int .u8 0, .int .u8 0] 5)) := (K.rf wd).al _
  clear hs5 s1d
  go_wp2_with fail
  clear hst hst2
  have kk := kA
  generalize wd.alloc (.cells #[.int .u8 1, .int .u8 1, .int .u8 1, .int .u8 5, .int .u8 0, .int .u8 0] 5) = we at *
  refine (WCheck_calls msg0 _ we (msv_zero we)).mono ?_
  rintro e wf ⟨rfl, kf⟩
  rw [chkM_0]
  have kk := kA.tr kf
  go_wp2_with fail
  refine (WCheck_calls mA _ wf (HM3.out _ (k3d.tr kk))).mono ?_
  rintro e wg ⟨rfl, kg⟩
  rw [chkM_a]
  go_wp2
  go_ret
  exact ⟨by simp, k1d.tr (kk.tr kg)⟩

set_option maxHeartbeats 400000 in
theorem WireNames_walk (w : World) :
    Calls Try.prog 3 #[] w fun e w' => e = .returned (.bool true) ∧ Below w.heap.size w w' := by
  go_enter Try.func3, Try.ntmps3
  go_wp2_with fail
  refine (awakeW_calls w).mono ?_
  rintro e w1 ⟨rfl, hb⟩
  go_wp2
  go_ret
  exact ⟨rfl, hb⟩
end Go.Proofs.Ythnhdeieimgfhaa
