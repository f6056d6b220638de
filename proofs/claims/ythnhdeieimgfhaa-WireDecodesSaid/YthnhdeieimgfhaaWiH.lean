/-
  The walk of wire.Decode (layer 13). Conditions: at most a milliard bytes.
-/
import Derived.Test.YthnhdeieimgfhaaWiG
set_option maxRecDepth 100000
namespace Go.Proofs.Ythnhdeieimgfhaa
open Go Go.RowKit

abbrev zMsg : Array Value := #[.int .i64 0, .int .u64 0, .slice none 0 0, .slice none 0 0, .slice none 0 0, .slice none 0 0, .slice none 0 0, .slice none 0 0]
theorem msv_zero (w : World) : msv msg0 (.agg zMsg) w := ⟨_, _, _, _, _, _, rfl, lst_nil _ _, lst_nil _ _, lst_nil _ _, lst_nil _ _, lst_nil _ _, lst_nil _ _⟩
/-- What Decode holds: its result's block r, a reader, the message's block h. -/
structure DM (w0 : World) (r g gw h : Nat) (n : Int) (l : List UInt8) (wr bd : Bool) (cs : Array Value) (W : World) : Prop where
  rw : RW gw g n l wr bd W
  x : Blk W h 28 cs
  rv : Blk W r 28 zMsg
  k : K w0 W
  o : w0.heap.size ≤ r ∧ r < g ∧ g < gw ∧ gw < h
section
variable {w0 W W' : World} {r g gw h : Nat} {n : Int} {l l' : List UInt8} {wr bd wr' bd' : Bool} {cs : Array Value}
theorem DM.upn (D : DM w0 r g gw h n l wr bd cs W) (u : UpN (XW gw g) W W') (hR : RW gw g n l' wr' bd' W') : DM w0 r g gw h n l' wr' bd' cs W' := by
  have o := D.o
  have k := D.k
  exact ⟨hR, D.x.upn u (by rintro (e | e) <;> omega), D.rv.upn u (by rintro (e | e) <;> omega),
    ⟨u.os.trans k.os, u.tape.trans k.tape, u.output.trans k.output, Nat.le_trans k.size u.size, fun i hi => (u.block i (Nat.lt_of_lt_of_le hi k.size) (by rintro (e | e) <;> omega)).trans (k.block i hi)⟩, o⟩
theorem DM.set (D : DM w0 r g gw h n l wr bd cs W) (i : Nat) (u : Value) : DM w0 r g gw h n l wr bd (cs.setIfInBounds i u) (W.setCell ⟨h, i, none⟩ u) := by
  have o := D.o
  exact ⟨D.rw.far o.2.2.2 i u, D.x.set_ i u, D.rv.far (by simp; omega) u, D.k.setCell (by simp; omega) u, o⟩
theorem DM.st (D : DM w0 r g gw h n l wr bd cs W) (k : K W W') : DM w0 r g gw h n l wr bd cs W' := ⟨D.rw.st k, D.x.below k D.x.lt, D.rv.below k D.rv.lt, D.k.tr k, D.o⟩
theorem UpN.mono {X X' : Nat → Prop} (h : UpN X W W') (hX : ∀ k, X k → X' k) : UpN X' W W' := ⟨h.os, h.tape, h.output, h.size, fun k h1 h2 => h.block k h1 (fun h3 => h2 (hX k h3))⟩
theorem lstW.less {α : Type} {S : Shp α} {gb gb' : Nat} {x : List α} {v : Value} (hl : lstW S gb x v W) (hg : gb' ≤ gb) : lstW S gb' x v W := fun W' u => hl W' (u.mono (fun k hk => by omega))
theorem lstW.mv {α : Type} {S : Shp α} {gb : Nat} {x : List α} {v : Value} (hl : lstW S gb x v W) (u : UpN (fun k => k < gb) W W') : lstW S gb x v W' := fun W'' u' => hl W'' (u.tr u')
theorem lstW.up {α : Type} {S : Shp α} {gb : Nat} {x : List α} {v : Value} (hl : lstW S gb x v W) (u : UpN (XW gw g) W W') (hg : gw < gb ∧ g < gb) : lstW S gb x v W' := hl.mv (u.mono (fun k hk => by rcases hk with hk | hk <;> omega))
theorem lstW.sl {α : Type} {S : Shp α} {gb : Nat} {x : List α} {v : Value} (hl : lstW S gb x v W) : ∃ A c, v = .slice A x.length c := lst_slice (hl W (UpN.rf _ _))
theorem lstW.set1 {α : Type} {S : Shp α} {gb b : Nat} {x : List α} {v : Value} (hl : lstW S gb x v W) (hb : b < gb) (i : Nat) (u : Value) : lstW S gb x v (W.setCell ⟨b, i, none⟩ u) := hl.mv (UpN.set1 (X := fun k => k < gb) hb i u)
theorem lstW_nil {α : Type} (S : Shp α) (gb : Nat) (W : World) : lstW S gb [] (.slice none 0 0) W := fun _ _ => lst_nil _ _
end

set_option maxHeartbeats 8000000 in
theorem WDecode_calls (b : List UInt8) (v : Value) (w : World) (hb : sl b v w) (hn : b.length ≤ 1000000000) :
    Calls Try.prog 19 #[v] w fun e w' => ∃ v', e = .returned (.tuple #[v', .int .i64 (decMC b)]) ∧ msv (decMX b) v' w' ∧ K w w' := by
  obtain ⟨A, c, rfl, hR⟩ := hb
  have hr0 := Blk.new w 28 zMsg
  have k0 : K w (w.alloc (.cells zMsg 28)) := (K.rf w).al _
  have hR0 := (hR.below k0 (Nat.le_refl _)).more k0.size
  obtain ⟨n, hnn⟩ : ∃ n : Int, n = (b.length : Int) := ⟨_, rfl⟩
  have hn0 : 0 ≤ n := by omega
  have hn1 : n ≤ 1000000000 := by omega
  obtain ⟨k, l1, wr1, bd1, hA1⟩ : ∃ k l1 wr1 bd1, rdBe 3 b false false = (k, l1, wr1, bd1) := ⟨_, _, _, _, rfl⟩
  obtain ⟨got, l2, wr2, hA2⟩ : ∃ got l2 wr2, rdN l1 wr1 = (got, l2, wr2) := ⟨_, _, _, rfl⟩
  have hHd : rdHd b false false = ((k, got), l2, wr2, bd1) := by
    simp only [rdHd, rdTwo, rdNu, hA1, hA2]
  have hk3 : k < 3 := by have := rdBe_lt 3 (by omega) b false false; rw [hA1] at this; exact this
  have hl2 : l2.length ≤ b.length := by
    have g1 := (rdBe_codec 3 (by omega)).len b false false
    have g2 := rdN_len l1 wr1
    rw [hA1] at g1; rw [hA2] at g2
    simp only at g1 g2
    omega
  have hwk : IntKind.i64.wrap (k : Int) = (k : Int) := by rw [IntKind.wrap_i64]; omega
  have C1 := fun gw g W h => Below_calls gw g n b false false 3 W h (by omega)
  have C2 := fun g W h => RNumber_calls g l1 wr1 W h
  simp only [hA1, hA2] at C1 C2
  rw [show ((3 : Nat) : Int) = 3 from rfl] at C1
  have HDec : Hid (decM b = if !(rdM n b false false).2.2.2 && (!(rdM n b false false).2.2.1 && (rdM n b false false).2.1.isEmpty) && okM (rdM n b false false).1 then some (rdM n b false false).1 else none) := Lib.hid (by rw [hnn]; rfl)
  have HHd := Lib.hid hHd
  have C1 := Lib.hid C1
  have C2 := Lib.hid C2
  have HCK : Hid (decMC b = if (decM b).isSome then 0 else 130) := Lib.hid rfl
  have HMX : Hid (decMX b = (decM b).getD msg0) := Lib.hid rfl
  generalize decMC b = CK at *
  generalize decMX b = MX at *
  have hzz : w.heap.size < (w.alloc (.cells zMsg 28)).heap.size := by simp
  clear hHd hA1 hA2 hR
  go_enter Try.func19, Try.ntmps19
  go_wp2_with fail
  generalize w.alloc _ = w1 at *
  refine (New_calls A _ c b w1 _ hR0 (Nat.le_refl _) hn).mono ?_
  rintro e w2 ⟨g, rfl, hg, hrd, k2⟩
  have hr2 := hr0.below k2 hr0.lt
  have hrg : w.heap.size < g := Nat.lt_of_lt_of_le hzz hg
  replace k0 := k0.tr k2
  have hgl := hrd.lt
  clear hR0 k2 hr0 hzz hg
  have hw3 : RW w2.heap.size g n b false false (w2.alloc (.cells #[.pointer (some ⟨g, 0, none⟩), .int .i64 (b.length : Int), .bool false] 94)) := by
    rw [← hnn]
    exact ⟨Blk.new _ _ _, hrd.al _, hgl⟩
  have kA : K w2 (w2.alloc (.cells #[.pointer (some ⟨g, 0, none⟩), .int .i64 (b.length : Int), .bool false] 94)) := (K.rf w2).al _
  go_upto_region 2 with (fail)
  generalize w2.alloc _ = w3 at *
  have hr3 := hr2.below kA hr2.lt
  have k3 := k0.tr kA
  generalize hgw : w2.heap.size = gw at *
  have hgwl := hw3.lt
  clear kA hr2 k0 hrd hgw
  go_wp2_with fail
  refine (C1.out gw g w3 hw3).mono ?_
  rintro e w4 ⟨rfl, h4, u4⟩
  have hr4 := hr3.upn u4 (by rintro (e | e) <;> omega)
  have hz4 := h4.lt
  have D : DM w w.heap.size g gw w4.heap.size n l1 wr1 bd1 #[.int .i64 (k : Int), .int .u64 0, .slice none 0 0, .slice none 0 0, .slice none 0 0, .slice none 0 0, .slice none 0 0, .slice none 0 0]
      (w4.alloc (.cells #[.int .i64 (k : Int), .int .u64 0, .slice none 0 0, .slice none 0 0, .slice none 0 0, .slice none 0 0, .slice none 0 0, .slice none 0 0] 28)) := by
    have kA := (K.rf w4).al (.cells #[.int .i64 (k : Int), .int .u64 0, .slice none 0 0, .slice none 0 0, .slice none 0 0, .slice none 0 0, .slice none 0 0, .slice none 0 0] 28)
    refine ⟨h4.st kA, Blk.new _ _ _, hr4.below kA hr4.lt, Below.tr ?_ kA, Nat.le_refl _, hrg, hgl, hz4⟩
    exact ⟨u4.os.trans k3.os, u4.tape.trans k3.tape, u4.output.trans k3.output, Nat.le_trans k3.size u4.size, fun i hi => (u4.block i (Nat.lt_of_lt_of_le hi k3.size) (by rintro (e | e) <;> omega)).trans (k3.block i hi)⟩
  clear hw3 hr3 k3 h4 u4 hr4 C1
  go_upto_region 3 with (fail)
  generalize w4.alloc _ = w5 at *
  generalize w4.heap.size = h at *
  have q := D.rw.1.cell
  go_wp2_with fail
  refine (C2.out g w5 D.rw.2.1).mono ?_
  rintro e w6 ⟨rfl, hw6⟩
  replace D := D.upn (UpN.went (X := XW gw g) hw6 (.inl rfl)) (D.rw.went hw6)
  clear q hw6 C2
  have q := D.x.cell
  have z := D.x.frozen
  go_upto_region 4 with (fail)
  replace D : DM w w.heap.size g gw h n l2 wr2 bd1 #[.int .i64 (k : Int), .int .u64 (got : Int), .slice none 0 0, .slice none 0 0, .slice none 0 0, .slice none 0 0, .slice none 0 0, .slice none 0 0] (w6.setCell ⟨h, 1, none⟩ (.int .u64 (got : Int))) := D.set 1 _
  clear q z
  generalize w6.setCell _ _ = w7 at *
  have o := D.o
  have hhl := D.x.lt
  clear hnn C1 hgwl hz4
  by_cases hk1 : k = 1
  · subst hk1
    have HD0 := HDec.out
    rw [rdM_one HHd.out] at HD0
    obtain ⟨x1, l3, wr3, bd3, hB3⟩ : ∃ x l w c, rdLi rdVo l2 wr2 bd1 = (x, l, w, c) := ⟨_, _, _, _, rfl⟩
    have hl3 : l3.length ≤ b.length := by
      have := (rdLi_codec rdVo_codec).len l2 wr2 bd1
      rw [hB3] at this
      simp only at this
      omega
    have L3 := fun W hW => WListVote_calls gw g n l2 wr2 bd1 W hW (by omega) hn0 hn1
    simp only [hB3] at L3
    have L3 := Lib.hid L3
    obtain ⟨x2, l4, wr4, bd4, hB4⟩ : ∃ x l w c, rdLi (rdEb n) l3 wr3 bd3 = (x, l, w, c) := ⟨_, _, _, _, rfl⟩
    have hl4 : l4.length ≤ b.length := by
      have := (rdLi_codec (rdEb_codec n)).len l3 wr3 bd3
      rw [hB4] at this
      simp only at this
      omega
    have L4 := fun W hW => WListEntry_calls gw g n l3 wr3 bd3 W hW (by omega) hn0 hn1
    simp only [hB4] at L4
    have L4 := Lib.hid L4
    simp only [rdM1, rdTwo, hB3, hB4] at HD0
    clear HDec HHd hwk hB3 hB4
    replace D : DM w w.heap.size g gw h n l2 wr2 bd1 #[.int .i64 (1 : Int), .int .u64 (got : Int), .slice none 0 0, .slice none 0 0, .slice none 0 0, .slice none 0 0, .slice none 0 0, .slice none 0 0] w7 := D
    have qm := D.x.cell
    go_wp2_with fail
    clear qm
    refine (L3.out w7 D.rw).mono ?_
    rintro e wa3 ⟨v3, rfl, hv3, hR, u⟩
    replace hv3 := hv3.less (show h + 1 ≤ w7.heap.size from D.x.lt)
    obtain ⟨A3, c3, rfl⟩ := hv3.sl
    replace D := D.upn u hR
    clear u hR L3
    have qm := D.x.cell
    have zm := D.x.frozen
    go_upto_region 7 with (fail)
    replace D : DM w w.heap.size g gw h n l3 wr3 bd3 #[.int .i64 (1 : Int), .int .u64 (got : Int), .slice A3 x1.length c3, .slice none 0 0, .slice none 0 0, .slice none 0 0, .slice none 0 0, .slice none 0 0] (wa3.setCell ⟨h, 2, none⟩ (.slice A3 x1.length c3)) := D.set 2 _
    replace hv3 := hv3.set1 (b := h) (by omega) 2 (.slice A3 x1.length c3)
    clear qm zm
    generalize wa3.setCell _ _ = wb3 at *
    have qm := D.x.cell
    go_wp2_with fail
    clear qm
    refine (L4.out wb3 D.rw).mono ?_
    rintro e wa4 ⟨v4, rfl, hv4, hR, u⟩
    replace hv4 := hv4.less (show h + 1 ≤ wb3.heap.size from D.x.lt)
    obtain ⟨A4, c4, rfl⟩ := hv4.sl
    replace D := D.upn u hR
    replace hv3 := hv3.up u (by omega)
    clear u hR L4
    have qm := D.x.cell
    have zm := D.x.frozen
    go_upto_region 13 with (fail)
    replace D : DM w w.heap.size g gw h n l4 wr4 bd4 #[.int .i64 (1 : Int), .int .u64 (got : Int), .slice A3 x1.length c3, .slice A4 x2.length c4, .slice none 0 0, .slice none 0 0, .slice none 0 0, .slice none 0 0] (wa4.setCell ⟨h, 3, none⟩ (.slice A4 x2.length c4)) := D.set 3 _
    replace hv3 := hv3.set1 (b := h) (by omega) 3 (.slice A4 x2.length c4)
    replace hv4 := hv4.set1 (b := h) (by omega) 3 (.slice A4 x2.length c4)
    clear qm zm
    generalize wa4.setCell _ _ = wb4 at *
    have HMS : Hid (∀ W, UpN (fun k => k < h + 1) wb4 W → msv (⟨1, got, x1, x2, [], [], [], []⟩ : Msg) (.agg (msA (⟨1, got, x1, x2, [], [], [], []⟩ : Msg) (.slice A3 x1.length c3) (.slice A4 x2.length c4) (.slice none 0 0) (.slice none 0 0) (.slice none 0 0) (.slice none 0 0))) W) := Lib.hid fun W u => ⟨_, _, _, _, _, _, rfl, hv3 W u, hv4 W u, lst_nil _ _, lst_nil _ _, lst_nil _ _, lst_nil _ _⟩
    clear hv3 hv4
    obtain ⟨dn, hdn⟩ : ∃ dn, dn = (!wr4 && l4.isEmpty) := ⟨_, rfl⟩
    obtain ⟨ok, hok⟩ : ∃ ok, ok = okM (⟨1, got, x1, x2, [], [], [], []⟩ : Msg) := ⟨_, rfl⟩
    rw [← hdn, ← hok] at HD0
    have HDN := Lib.hid hdn
    have HOK := Lib.hid hok
    have HD := Lib.hid HD0
    clear HD0 hdn hok
    have qw := D.rw.1.cell
    cases bd4
    rotate_left
    · have q := D.rv.cell
      have z := D.rv.frozen
      have HNone : Hid (decM b = none) := Lib.hid (by rw [HD.out]; simp)
      obtain rfl : CK = 130 := by rw [HCK.out, HNone.out]; rfl
      obtain rfl : MX = msg0 := by rw [HMX.out, HNone.out]; rfl
      go_wp2
      have hr9 := ((((((((D.rv).set_ 0 (.int .i64 0)).set_ 1 (.int .u64 0)).set_ 2 (.slice none 0 0)).set_ 3 (.slice none 0 0)).set_ 4 (.slice none 0 0)).set_ 5 (.slice none 0 0)).set_ 6 (.slice none 0 0)).set_ 7 (.slice none 0 0)
      have e9 := hr9.cell
      refine bodyPost_ret (v := .tuple #[.agg zMsg, .int .i64 130]) (by simp [results, Try.results19, go_sem, e9]) rfl ?_
      exact ⟨.agg zMsg, rfl, msv_zero _, (((((((D.k.setCell (by simp) _).setCell (by simp) _).setCell (by simp) _).setCell (by simp) _).setCell (by simp) _).setCell (by simp) _).setCell (by simp) _).setCell (by simp) _⟩
    go_wp2_with fail
    refine (Done_calls g _ _ _ D.rw.2.1).mono ?_
    rintro e w8 ⟨rfl, rfl⟩
    rw [← HDN.out]
    cases dn
    · have q := D.rv.cell
      have z := D.rv.frozen
      have HNone : Hid (decM b = none) := Lib.hid (by rw [HD.out]; simp)
      obtain rfl : CK = 130 := by rw [HCK.out, HNone.out]; rfl
      obtain rfl : MX = msg0 := by rw [HMX.out, HNone.out]; rfl
      go_wp2
      have hr9 := ((((((((D.rv).set_ 0 (.int .i64 0)).set_ 1 (.int .u64 0)).set_ 2 (.slice none 0 0)).set_ 3 (.slice none 0 0)).set_ 4 (.slice none 0 0)).set_ 5 (.slice none 0 0)).set_ 6 (.slice none 0 0)).set_ 7 (.slice none 0 0)
      have e9 := hr9.cell
      refine bodyPost_ret (v := .tuple #[.agg zMsg, .int .i64 130]) (by simp [results, Try.results19, go_sem, e9]) rfl ?_
      exact ⟨.agg zMsg, rfl, msv_zero _, (((((((D.k.setCell (by simp) _).setCell (by simp) _).setCell (by simp) _).setCell (by simp) _).setCell (by simp) _).setCell (by simp) _).setCell (by simp) _).setCell (by simp) _⟩
    have kk := K.rf wb4
    have qm := D.x.cell
    go_wp2_with fail
    refine (WCheck_calls (⟨1, got, x1, x2, [], [], [], []⟩ : Msg) (.agg (msA (⟨1, got, x1, x2, [], [], [], []⟩ : Msg) (.slice A3 x1.length c3) (.slice A4 x2.length c4) (.slice none 0 0) (.slice none 0 0) (.slice none 0 0) (.slice none 0 0))) wb4 (HMS.out _ (UpN.rf _ _))).mono ?_
    rintro e w9 ⟨rfl, k9⟩
    replace D := D.st k9
    clear qw qm kk
    cases ok
    · have hck : chkM (⟨1, got, x1, x2, [], [], [], []⟩ : Msg) = 130 := by unfold chkM; rw [← HOK.out]; rfl
      rw [hck]
      clear hck
      have q := D.rv.cell
      have z := D.rv.frozen
      have HNone : Hid (decM b = none) := Lib.hid (by rw [HD.out]; simp)
      obtain rfl : CK = 130 := by rw [HCK.out, HNone.out]; rfl
      obtain rfl : MX = msg0 := by rw [HMX.out, HNone.out]; rfl
      go_wp2
      have hr9 := ((((((((D.rv).set_ 0 (.int .i64 0)).set_ 1 (.int .u64 0)).set_ 2 (.slice none 0 0)).set_ 3 (.slice none 0 0)).set_ 4 (.slice none 0 0)).set_ 5 (.slice none 0 0)).set_ 6 (.slice none 0 0)).set_ 7 (.slice none 0 0)
      have e9 := hr9.cell
      refine bodyPost_ret (v := .tuple #[.agg zMsg, .int .i64 130]) (by simp [results, Try.results19, go_sem, e9]) rfl ?_
      exact ⟨.agg zMsg, rfl, msv_zero _, (((((((D.k.setCell (by simp) _).setCell (by simp) _).setCell (by simp) _).setCell (by simp) _).setCell (by simp) _).setCell (by simp) _).setCell (by simp) _).setCell (by simp) _⟩
    have hck : chkM (⟨1, got, x1, x2, [], [], [], []⟩ : Msg) = 0 := by unfold chkM; rw [← HOK.out]; rfl
    rw [hck]
    clear hck
    have q := D.rv.cell
    have q2 := D.x.cell
    have z := D.rv.frozen
    have HSome : Hid (decM b = some (⟨1, got, x1, x2, [], [], [], []⟩ : Msg)) := Lib.hid (by rw [HD.out]; simp)
    obtain rfl : CK = 0 := by rw [HCK.out, HSome.out]; rfl
    obtain rfl : MX = (⟨1, got, x1, x2, [], [], [], []⟩ : Msg) := by rw [HMX.out, HSome.out]; rfl
    go_wp2
    have hr9 := ((((((((D.rv).set_ 0 (.int .i64 (1 : Int))).set_ 1 (.int .u64 (got : Int))).set_ 2 (.slice A3 x1.length c3)).set_ 3 (.slice A4 x2.length c4)).set_ 4 (.slice none 0 0)).set_ 5 (.slice none 0 0)).set_ 6 (.slice none 0 0)).set_ 7 (.slice none 0 0)
    have e9 := hr9.cell
    have u9 := UpN.sets (X := fun k => k < h + 1) (g := w.heap.size) (by omega) [.int .i64 (1 : Int), .int .u64 (got : Int), .slice A3 x1.length c3, .slice A4 x2.length c4, .slice none 0 0, .slice none 0 0, .slice none 0 0, .slice none 0 0] 0 w9
    have hms9 := HMS.out _ ((UpN.of_k k9 _).tr u9)
    refine bodyPost_ret (v := .tuple #[.agg #[.int .i64 (1 : Int), .int .u64 (got : Int), .slice A3 x1.length c3, .slice A4 x2.length c4, .slice none 0 0, .slice none 0 0, .slice none 0 0, .slice none 0 0], .int .i64 0]) (by simp [results, Try.results19, go_sem, e9]) rfl ?_
    exact ⟨_, rfl, hms9, (((((((D.k.setCell (by simp) _).setCell (by simp) _).setCell (by simp) _).setCell (by simp) _).setCell (by simp) _).setCell (by simp) _).setCell (by simp) _).setCell (by simp) _⟩
  by_cases hk2 : k = 2
  · subst hk2
    have HD0 := HDec.out
    rw [rdM_two HHd.out] at HD0
    obtain ⟨x1, l3, wr3, bd3, hB3⟩ : ∃ x l w c, rdLi (rdEb n) l2 wr2 bd1 = (x, l, w, c) := ⟨_, _, _, _, rfl⟩
    have hl3 : l3.length ≤ b.length := by
      have := (rdLi_codec (rdEb_codec n)).len l2 wr2 bd1
      rw [hB3] at this
      simp only at this
      omega
    have L3 := fun W hW => WListEntry_calls gw g n l2 wr2 bd1 W hW (by omega) hn0 hn1
    simp only [hB3] at L3
    have L3 := Lib.hid L3
    obtain ⟨x2, l4, wr4, bd4, hB4⟩ : ∃ x l w c, rdLi (rdEb n) l3 wr3 bd3 = (x, l, w, c) := ⟨_, _, _, _, rfl⟩
    have hl4 : l4.length ≤ b.length := by
      have := (rdLi_codec (rdEb_codec n)).len l3 wr3 bd3
      rw [hB4] at this
      simp only at this
      omega
    have L4 := fun W hW => WListEntry_calls gw g n l3 wr3 bd3 W hW (by omega) hn0 hn1
    simp only [hB4] at L4
    have L4 := Lib.hid L4
    obtain ⟨x3, l5, wr5, bd5, hB5⟩ : ∃ x l w c, rdLi rdId3 l4 wr4 bd4 = (x, l, w, c) := ⟨_, _, _, _, rfl⟩
    have hl5 : l5.length ≤ b.length := by
      have := (rdLi_codec rdId3_codec).len l4 wr4 bd4
      rw [hB5] at this
      simp only at this
      omega
    have L5 := fun W hW => WListID_calls gw g n l4 wr4 bd4 W hW (by omega) hn0 hn1
    simp only [hB5] at L5
    have L5 := Lib.hid L5
    obtain ⟨x4, l6, wr6, bd6, hB6⟩ : ∃ x l w c, rdLi rdId3 l5 wr5 bd5 = (x, l, w, c) := ⟨_, _, _, _, rfl⟩
    have hl6 : l6.length ≤ b.length := by
      have := (rdLi_codec rdId3_codec).len l5 wr5 bd5
      rw [hB6] at this
      simp only at this
      omega
    have L6 := fun W hW => WListID_calls gw g n l5 wr5 bd5 W hW (by omega) hn0 hn1
    simp only [hB6] at L6
    have L6 := Lib.hid L6
    simp only [rdM2, rdTwo, hB3, hB4, hB5, hB6] at HD0
    clear HDec HHd hwk hB3 hB4 hB5 hB6
    replace D : DM w w.heap.size g gw h n l2 wr2 bd1 #[.int .i64 (2 : Int), .int .u64 (got : Int), .slice none 0 0, .slice none 0 0, .slice none 0 0, .slice none 0 0, .slice none 0 0, .slice none 0 0] w7 := D
    have qm := D.x.cell
    go_wp2_with fail
    clear qm
    refine (L3.out w7 D.rw).mono ?_
    rintro e wa3 ⟨v3, rfl, hv3, hR, u⟩
    replace hv3 := hv3.less (show h + 1 ≤ w7.heap.size from D.x.lt)
    obtain ⟨A3, c3, rfl⟩ := hv3.sl
    replace D := D.upn u hR
    clear u hR L3
    have qm := D.x.cell
    have zm := D.x.frozen
    go_upto_region 10 with (fail)
    replace D : DM w w.heap.size g gw h n l3 wr3 bd3 #[.int .i64 (2 : Int), .int .u64 (got : Int), .slice none 0 0, .slice none 0 0, .slice A3 x1.length c3, .slice none 0 0, .slice none 0 0, .slice none 0 0] (wa3.setCell ⟨h, 4, none⟩ (.slice A3 x1.length c3)) := D.set 4 _
    replace hv3 := hv3.set1 (b := h) (by omega) 4 (.slice A3 x1.length c3)
    clear qm zm
    generalize wa3.setCell _ _ = wb3 at *
    have qm := D.x.cell
    go_wp2_with fail
    clear qm
    refine (L4.out wb3 D.rw).mono ?_
    rintro e wa4 ⟨v4, rfl, hv4, hR, u⟩
    replace hv4 := hv4.less (show h + 1 ≤ wb3.heap.size from D.x.lt)
    obtain ⟨A4, c4, rfl⟩ := hv4.sl
    replace D := D.upn u hR
    replace hv3 := hv3.up u (by omega)
    clear u hR L4
    have qm := D.x.cell
    have zm := D.x.frozen
    go_upto_region 11 with (fail)
    replace D : DM w w.heap.size g gw h n l4 wr4 bd4 #[.int .i64 (2 : Int), .int .u64 (got : Int), .slice none 0 0, .slice none 0 0, .slice A3 x1.length c3, .slice A4 x2.length c4, .slice none 0 0, .slice none 0 0] (wa4.setCell ⟨h, 5, none⟩ (.slice A4 x2.length c4)) := D.set 5 _
    replace hv3 := hv3.set1 (b := h) (by omega) 5 (.slice A4 x2.length c4)
    replace hv4 := hv4.set1 (b := h) (by omega) 5 (.slice A4 x2.length c4)
    clear qm zm
    generalize wa4.setCell _ _ = wb4 at *
    have qm := D.x.cell
    go_wp2_with fail
    clear qm
    refine (L5.out wb4 D.rw).mono ?_
    rintro e wa5 ⟨v5, rfl, hv5, hR, u⟩
    replace hv5 := hv5.less (show h + 1 ≤ wb4.heap.size from D.x.lt)
    obtain ⟨A5, c5, rfl⟩ := hv5.sl
    replace D := D.upn u hR
    replace hv3 := hv3.up u (by omega)
    replace hv4 := hv4.up u (by omega)
    clear u hR L5
    have qm := D.x.cell
    have zm := D.x.frozen
    go_upto_region 12 with (fail)
    replace D : DM w w.heap.size g gw h n l5 wr5 bd5 #[.int .i64 (2 : Int), .int .u64 (got : Int), .slice none 0 0, .slice none 0 0, .slice A3 x1.length c3, .slice A4 x2.length c4, .slice A5 x3.length c5, .slice none 0 0] (wa5.setCell ⟨h, 6, none⟩ (.slice A5 x3.length c5)) := D.set 6 _
    replace hv3 := hv3.set1 (b := h) (by omega) 6 (.slice A5 x3.length c5)
    replace hv4 := hv4.set1 (b := h) (by omega) 6 (.slice A5 x3.length c5)
    replace hv5 := hv5.set1 (b := h) (by omega) 6 (.slice A5 x3.length c5)
    clear qm zm
    generalize wa5.setCell _ _ = wb5 at *
    have qm := D.x.cell
    go_wp2_with fail
    clear qm
    refine (L6.out wb5 D.rw).mono ?_
    rintro e wa6 ⟨v6, rfl, hv6, hR, u⟩
    replace hv6 := hv6.less (show h + 1 ≤ wb5.heap.size from D.x.lt)
    obtain ⟨A6, c6, rfl⟩ := hv6.sl
    replace D := D.upn u hR
    replace hv3 := hv3.up u (by omega)
    replace hv4 := hv4.up u (by omega)
    replace hv5 := hv5.up u (by omega)
    clear u hR L6
    have qm := D.x.cell
    have zm := D.x.frozen
    go_upto_region 13 with (fail)
    replace D : DM w w.heap.size g gw h n l6 wr6 bd6 #[.int .i64 (2 : Int), .int .u64 (got : Int), .slice none 0 0, .slice none 0 0, .slice A3 x1.length c3, .slice A4 x2.length c4, .slice A5 x3.length c5, .slice A6 x4.length c6] (wa6.setCell ⟨h, 7, none⟩ (.slice A6 x4.length c6)) := D.set 7 _
    replace hv3 := hv3.set1 (b := h) (by omega) 7 (.slice A6 x4.length c6)
    replace hv4 := hv4.set1 (b := h) (by omega) 7 (.slice A6 x4.length c6)
    replace hv5 := hv5.set1 (b := h) (by omega) 7 (.slice A6 x4.length c6)
    replace hv6 := hv6.set1 (b := h) (by omega) 7 (.slice A6 x4.length c6)
    clear qm zm
    generalize wa6.setCell _ _ = wb6 at *
    have HMS : Hid (∀ W, UpN (fun k => k < h + 1) wb6 W → msv (⟨2, got, [], [], x1, x2, x3, x4⟩ : Msg) (.agg (msA (⟨2, got, [], [], x1, x2, x3, x4⟩ : Msg) (.slice none 0 0) (.slice none 0 0) (.slice A3 x1.length c3) (.slice A4 x2.length c4) (.slice A5 x3.length c5) (.slice A6 x4.length c6))) W) := Lib.hid fun W u => ⟨_, _, _, _, _, _, rfl, lst_nil _ _, lst_nil _ _, hv3 W u, hv4 W u, hv5 W u, hv6 W u⟩
    clear hv3 hv4 hv5 hv6
    obtain ⟨dn, hdn⟩ : ∃ dn, dn = (!wr6 && l6.isEmpty) := ⟨_, rfl⟩
    obtain ⟨ok, hok⟩ : ∃ ok, ok = okM (⟨2, got, [], [], x1, x2, x3, x4⟩ : Msg) := ⟨_, rfl⟩
    rw [← hdn, ← hok] at HD0
    have HDN := Lib.hid hdn
    have HOK := Lib.hid hok
    have HD := Lib.hid HD0
    clear HD0 hdn hok
    have qw := D.rw.1.cell
    cases bd6
    rotate_left
    · have q := D.rv.cell
      have z := D.rv.frozen
      have HNone : Hid (decM b = none) := Lib.hid (by rw [HD.out]; simp)
      obtain rfl : CK = 130 := by rw [HCK.out, HNone.out]; rfl
      obtain rfl : MX = msg0 := by rw [HMX.out, HNone.out]; rfl
      go_wp2
      have hr9 := ((((((((D.rv).set_ 0 (.int .i64 0)).set_ 1 (.int .u64 0)).set_ 2 (.slice none 0 0)).set_ 3 (.slice none 0 0)).set_ 4 (.slice none 0 0)).set_ 5 (.slice none 0 0)).set_ 6 (.slice none 0 0)).set_ 7 (.slice none 0 0)
      have e9 := hr9.cell
      refine bodyPost_ret (v := .tuple #[.agg zMsg, .int .i64 130]) (by simp [results, Try.results19, go_sem, e9]) rfl ?_
      exact ⟨.agg zMsg, rfl, msv_zero _, (((((((D.k.setCell (by simp) _).setCell (by simp) _).setCell (by simp) _).setCell (by simp) _).setCell (by simp) _).setCell (by simp) _).setCell (by simp) _).setCell (by simp) _⟩
    go_wp2_with fail
    refine (Done_calls g _ _ _ D.rw.2.1).mono ?_
    rintro e w8 ⟨rfl, rfl⟩
    rw [← HDN.out]
    cases dn
    · have q := D.rv.cell
      have z := D.rv.frozen
      have HNone : Hid (decM b = none) := Lib.hid (by rw [HD.out]; simp)
      obtain rfl : CK = 130 := by rw [HCK.out, HNone.out]; rfl
      obtain rfl : MX = msg0 := by rw [HMX.out, HNone.out]; rfl
      go_wp2
      have hr9 := ((((((((D.rv).set_ 0 (.int .i64 0)).set_ 1 (.int .u64 0)).set_ 2 (.slice none 0 0)).set_ 3 (.slice none 0 0)).set_ 4 (.slice none 0 0)).set_ 5 (.slice none 0 0)).set_ 6 (.slice none 0 0)).set_ 7 (.slice none 0 0)
      have e9 := hr9.cell
      refine bodyPost_ret (v := .tuple #[.agg zMsg, .int .i64 130]) (by simp [results, Try.results19, go_sem, e9]) rfl ?_
      exact ⟨.agg zMsg, rfl, msv_zero _, (((((((D.k.setCell (by simp) _).setCell (by simp) _).setCell (by simp) _).setCell (by simp) _).setCell (by simp) _).setCell (by simp) _).setCell (by simp) _).setCell (by simp) _⟩
    have kk := K.rf wb6
    have qm := D.x.cell
    go_wp2_with fail
    refine (WCheck_calls (⟨2, got, [], [], x1, x2, x3, x4⟩ : Msg) (.agg (msA (⟨2, got, [], [], x1, x2, x3, x4⟩ : Msg) (.slice none 0 0) (.slice none 0 0) (.slice A3 x1.length c3) (.slice A4 x2.length c4) (.slice A5 x3.length c5) (.slice A6 x4.length c6))) wb6 (HMS.out _ (UpN.rf _ _))).mono ?_
    rintro e w9 ⟨rfl, k9⟩
    replace D := D.st k9
    clear qw qm kk
    cases ok
    · have hck : chkM (⟨2, got, [], [], x1, x2, x3, x4⟩ : Msg) = 130 := by unfold chkM; rw [← HOK.out]; rfl
      rw [hck]
      clear hck
      have q := D.rv.cell
      have z := D.rv.frozen
      have HNone : Hid (decM b = none) := Lib.hid (by rw [HD.out]; simp)
      obtain rfl : CK = 130 := by rw [HCK.out, HNone.out]; rfl
      obtain rfl : MX = msg0 := by rw [HMX.out, HNone.out]; rfl
      go_wp2
      have hr9 := ((((((((D.rv).set_ 0 (.int .i64 0)).set_ 1 (.int .u64 0)).set_ 2 (.slice none 0 0)).set_ 3 (.slice none 0 0)).set_ 4 (.slice none 0 0)).set_ 5 (.slice none 0 0)).set_ 6 (.slice none 0 0)).set_ 7 (.slice none 0 0)
      have e9 := hr9.cell
      refine bodyPost_ret (v := .tuple #[.agg zMsg, .int .i64 130]) (by simp [results, Try.results19, go_sem, e9]) rfl ?_
      exact ⟨.agg zMsg, rfl, msv_zero _, (((((((D.k.setCell (by simp) _).setCell (by simp) _).setCell (by simp) _).setCell (by simp) _).setCell (by simp) _).setCell (by simp) _).setCell (by simp) _).setCell (by simp) _⟩
    have hck : chkM (⟨2, got, [], [], x1, x2, x3, x4⟩ : Msg) = 0 := by unfold chkM; rw [← HOK.out]; rfl
    rw [hck]
    clear hck
    have q := D.rv.cell
    have q2 := D.x.cell
    have z := D.rv.frozen
    have HSome : Hid (decM b = some (⟨2, got, [], [], x1, x2, x3, x4⟩ : Msg)) := Lib.hid (by rw [HD.out]; simp)
    obtain rfl : CK = 0 := by rw [HCK.out, HSome.out]; rfl
    obtain rfl : MX = (⟨2, got, [], [], x1, x2, x3, x4⟩ : Msg) := by rw [HMX.out, HSome.out]; rfl
    go_wp2
    have hr9 := ((((((((D.rv).set_ 0 (.int .i64 (2 : Int))).set_ 1 (.int .u64 (got : Int))).set_ 2 (.slice none 0 0)).set_ 3 (.slice none 0 0)).set_ 4 (.slice A3 x1.length c3)).set_ 5 (.slice A4 x2.length c4)).set_ 6 (.slice A5 x3.length c5)).set_ 7 (.slice A6 x4.length c6)
    have e9 := hr9.cell
    have u9 := UpN.sets (X := fun k => k < h + 1) (g := w.heap.size) (by omega) [.int .i64 (2 : Int), .int .u64 (got : Int), .slice none 0 0, .slice none 0 0, .slice A3 x1.length c3, .slice A4 x2.length c4, .slice A5 x3.length c5, .slice A6 x4.length c6] 0 w9
    have hms9 := HMS.out _ ((UpN.of_k k9 _).tr u9)
    refine bodyPost_ret (v := .tuple #[.agg #[.int .i64 (2 : Int), .int .u64 (got : Int), .slice none 0 0, .slice none 0 0, .slice A3 x1.length c3, .slice A4 x2.length c4, .slice A5 x3.length c5, .slice A6 x4.length c6], .int .i64 0]) (by simp [results, Try.results19, go_sem, e9]) rfl ?_
    exact ⟨_, rfl, hms9, (((((((D.k.setCell (by simp) _).setCell (by simp) _).setCell (by simp) _).setCell (by simp) _).setCell (by simp) _).setCell (by simp) _).setCell (by simp) _).setCell (by simp) _⟩
  have HD0 := HDec.out
  rw [rdM_no HHd.out hk1 hk2] at HD0
  have hkk : ¬ (k : Int) = 1 := by omega
  have hkk2 : ¬ (k : Int) = 2 := by omega
  clear HDec HHd hk1 hk2 hwk
  have HMS : Hid (∀ W, UpN (fun k => k < h + 1) w7 W → msv (⟨(k : Int), got, [], [], [], [], [], []⟩ : Msg) (.agg (msA (⟨(k : Int), got, [], [], [], [], [], []⟩ : Msg) (.slice none 0 0) (.slice none 0 0) (.slice none 0 0) (.slice none 0 0) (.slice none 0 0) (.slice none 0 0))) W) := Lib.hid fun W u => ⟨_, _, _, _, _, _, rfl, lst_nil _ _, lst_nil _ _, lst_nil _ _, lst_nil _ _, lst_nil _ _, lst_nil _ _⟩
  have qm := D.x.cell
  go_upto_region 13 with (fail)
  clear qm hkk hkk2
  obtain ⟨dn, hdn⟩ : ∃ dn, dn = (!wr2 && l2.isEmpty) := ⟨_, rfl⟩
  obtain ⟨ok, hok⟩ : ∃ ok, ok = okM (⟨(k : Int), got, [], [], [], [], [], []⟩ : Msg) := ⟨_, rfl⟩
  rw [← hdn, ← hok] at HD0
  have HDN := Lib.hid hdn
  have HOK := Lib.hid hok
  have HD := Lib.hid HD0
  clear HD0 hdn hok
  have qw := D.rw.1.cell
  cases bd1
  rotate_left
  · have q := D.rv.cell
    have z := D.rv.frozen
    have HNone : Hid (decM b = none) := Lib.hid (by rw [HD.out]; simp)
    obtain rfl : CK = 130 := by rw [HCK.out, HNone.out]; rfl
    obtain rfl : MX = msg0 := by rw [HMX.out, HNone.out]; rfl
    go_wp2
    have hr9 := ((((((((D.rv).set_ 0 (.int .i64 0)).set_ 1 (.int .u64 0)).set_ 2 (.slice none 0 0)).set_ 3 (.slice none 0 0)).set_ 4 (.slice none 0 0)).set_ 5 (.slice none 0 0)).set_ 6 (.slice none 0 0)).set_ 7 (.slice none 0 0)
    have e9 := hr9.cell
    refine bodyPost_ret (v := .tuple #[.agg zMsg, .int .i64 130]) (by simp [results, Try.results19, go_sem, e9]) rfl ?_
    exact ⟨.agg zMsg, rfl, msv_zero _, (((((((D.k.setCell (by simp) _).setCell (by simp) _).setCell (by simp) _).setCell (by simp) _).setCell (by simp) _).setCell (by simp) _).setCell (by simp) _).setCell (by simp) _⟩
  go_wp2_with fail
  refine (Done_calls g _ _ _ D.rw.2.1).mono ?_
  rintro e w8 ⟨rfl, rfl⟩
  rw [← HDN.out]
  cases dn
  · have q := D.rv.cell
    have z := D.rv.frozen
    have HNone : Hid (decM b = none) := Lib.hid (by rw [HD.out]; simp)
    obtain rfl : CK = 130 := by rw [HCK.out, HNone.out]; rfl
    obtain rfl : MX = msg0 := by rw [HMX.out, HNone.out]; rfl
    go_wp2
    have hr9 := ((((((((D.rv).set_ 0 (.int .i64 0)).set_ 1 (.int .u64 0)).set_ 2 (.slice none 0 0)).set_ 3 (.slice none 0 0)).set_ 4 (.slice none 0 0)).set_ 5 (.slice none 0 0)).set_ 6 (.slice none 0 0)).set_ 7 (.slice none 0 0)
    have e9 := hr9.cell
    refine bodyPost_ret (v := .tuple #[.agg zMsg, .int .i64 130]) (by simp [results, Try.results19, go_sem, e9]) rfl ?_
    exact ⟨.agg zMsg, rfl, msv_zero _, (((((((D.k.setCell (by simp) _).setCell (by simp) _).setCell (by simp) _).setCell (by simp) _).setCell (by simp) _).setCell (by simp) _).setCell (by simp) _).setCell (by simp) _⟩
  have kk := K.rf w7
  have qm := D.x.cell
  go_wp2_with fail
  refine (WCheck_calls (⟨(k : Int), got, [], [], [], [], [], []⟩ : Msg) (.agg (msA (⟨(k : Int), got, [], [], [], [], [], []⟩ : Msg) (.slice none 0 0) (.slice none 0 0) (.slice none 0 0) (.slice none 0 0) (.slice none 0 0) (.slice none 0 0))) w7 (HMS.out _ (UpN.rf _ _))).mono ?_
  rintro e w9 ⟨rfl, k9⟩
  replace D := D.st k9
  clear qw qm kk
  cases ok
  · have hck : chkM (⟨(k : Int), got, [], [], [], [], [], []⟩ : Msg) = 130 := by unfold chkM; rw [← HOK.out]; rfl
    rw [hck]
    clear hck
    have q := D.rv.cell
    have z := D.rv.frozen
    have HNone : Hid (decM b = none) := Lib.hid (by rw [HD.out]; simp)
    obtain rfl : CK = 130 := by rw [HCK.out, HNone.out]; rfl
    obtain rfl : MX = msg0 := by rw [HMX.out, HNone.out]; rfl
    go_wp2
    have hr9 := ((((((((D.rv).set_ 0 (.int .i64 0)).set_ 1 (.int .u64 0)).set_ 2 (.slice none 0 0)).set_ 3 (.slice none 0 0)).set_ 4 (.slice none 0 0)).set_ 5 (.slice none 0 0)).set_ 6 (.slice none 0 0)).set_ 7 (.slice none 0 0)
    have e9 := hr9.cell
    refine bodyPost_ret (v := .tuple #[.agg zMsg, .int .i64 130]) (by simp [results, Try.results19, go_sem, e9]) rfl ?_
    exact ⟨.agg zMsg, rfl, msv_zero _, (((((((D.k.setCell (by simp) _).setCell (by simp) _).setCell (by simp) _).setCell (by simp) _).setCell (by simp) _).setCell (by simp) _).setCell (by simp) _).setCell (by simp) _⟩
  have hck : chkM (⟨(k : Int), got, [], [], [], [], [], []⟩ : Msg) = 0 := by unfold chkM; rw [← HOK.out]; rfl
  rw [hck]
  clear hck
  have q := D.rv.cell
  have q2 := D.x.cell
  have z := D.rv.frozen
  have HSome : Hid (decM b = some (⟨(k : Int), got, [], [], [], [], [], []⟩ : Msg)) := Lib.hid (by rw [HD.out]; simp)
  obtain rfl : CK = 0 := by rw [HCK.out, HSome.out]; rfl
  obtain rfl : MX = (⟨(k : Int), got, [], [], [], [], [], []⟩ : Msg) := by rw [HMX.out, HSome.out]; rfl
  go_wp2
  have hr9 := ((((((((D.rv).set_ 0 (.int .i64 (k : Int))).set_ 1 (.int .u64 (got : Int))).set_ 2 (.slice none 0 0)).set_ 3 (.slice none 0 0)).set_ 4 (.slice none 0 0)).set_ 5 (.slice none 0 0)).set_ 6 (.slice none 0 0)).set_ 7 (.slice none 0 0)
  have e9 := hr9.cell
  have u9 := UpN.sets (X := fun k => k < h + 1) (g := w.heap.size) (by omega) [.int .i64 (k : Int), .int .u64 (got : Int), .slice none 0 0, .slice none 0 0, .slice none 0 0, .slice none 0 0, .slice none 0 0, .slice none 0 0] 0 w9
  have hms9 := HMS.out _ ((UpN.of_k k9 _).tr u9)
  refine bodyPost_ret (v := .tuple #[.agg #[.int .i64 (k : Int), .int .u64 (got : Int), .slice none 0 0, .slice none 0 0, .slice none 0 0, .slice none 0 0, .slice none 0 0, .slice none 0 0], .int .i64 0]) (by simp [results, Try.results19, go_sem, e9]) rfl ?_
  exact ⟨_, rfl, hms9, (((((((D.k.setCell (by simp) _).setCell (by simp) _).setCell (by simp) _).setCell (by simp) _).setCell (by simp) _).setCell (by simp) _).setCell (by simp) _).setCell (by simp) _⟩
end Go.Proofs.Ythnhdeieimgfhaa
