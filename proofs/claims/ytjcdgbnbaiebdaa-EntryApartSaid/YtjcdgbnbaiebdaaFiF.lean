/-
  The walk of filter.Encode (layer 5). Conditions: none.
-/
import Derived.Test.YtjcdgbnbaiebdaaFiC
import Derived.Test.YtjcdgbnbaiebdaaEvE
set_option maxRecDepth 100000
namespace Go.Proofs.Ytjcdgbnbaiebdaa
open Go Go.RowKit

theorem packV_len {k n : Int} {s : ByteArray} (h0 : -9223372036854775808 ≤ n) (h1 : n ≤ 9223372036854775807) (hs : s.size ≤ 40) : (packV k n s).length ≤ 67 := by
  have h1 := packN_len (kindN k) (kindN_lt _)
  have h2 := packN_len (numV k n) (numV_lt _ _ h0 (by assumption))
  have h3 := packN_len s.size (by omega)
  have h4 : s.data.size ≤ 40 := hs
  simp [packV]; omega
/-- A test's last bytes: the value, if it asks one. -/
def encTV (t : Tst) : List UInt8 := if t.2.1 == 8 then [] else packV t.2.2.1 t.2.2.2.1 t.2.2.2.2
theorem okT_x {t : Tst} (h : okT t = true) : t.2.2.2.2.size ≤ 40 := by
  obtain ⟨_, _, _, h8, hn⟩ := okT_parts h
  by_cases e : t.2.1 = 8
  · have := h8 e
    rw [this]; decide
  · exact (okV_kind (hn e)).2
theorem encTV_len {t : Tst} (h : okT t = true) (hf : fitT t) : (encTV t).length ≤ 67 := by
  have hx := okT_x h
  unfold encTV
  split
  · simp
  · exact packV_len hf.2.2.1 hf.2.2.2 hx
theorem encT_ln {t : Tst} (h : okT t = true) (hf : fitT t) : (encT t).length ≤ 101 := by
  obtain ⟨hs, _, _, _, _⟩ := okT_parts h
  have h1 := encTV_len h hf
  have h2 := packN_len t.1.size (by omega)
  have h3 := packN_len (kindN t.2.1) (kindN_lt _)
  have e1 : t.1.data.size ≤ 16 := hs
  unfold encT
  unfold encTV at h1
  simp only [List.length_append]
  simp only [byt, Array.length_toList]
  omega
theorem encTs_len (l : List Tst) (hk : ∀ x ∈ l, (encT x).length ≤ 101) : (l.flatMap encT).length ≤ 101 * l.length := by
  induction l with
  | nil => simp
  | cons y l ih =>
    have h1 := ih fun x hx => hk x (by simp [hx])
    have h2 := hk y (by simp)
    simp only [List.flatMap_cons, List.length_append, List.length_cons]
    omega
theorem encFP_len (l : List Tst) (k : Nat) (hl : okF l = true) (hi : ∀ x ∈ l, fitT x) : (packN l.length ++ (l.take k).flatMap encT).length ≤ 1000 := by
  obtain ⟨h2, h3⟩ := okF_parts hl
  have h4 := packN_len l.length (by omega)
  have h5 := encTs_len (l.take k) fun x hx => encT_ln (h3 x (List.mem_of_mem_take hx)) (hi x (List.mem_of_mem_take hx))
  have h6 : (l.take k).length ≤ 8 := by simp; omega
  simp only [List.length_append]; omega
theorem encFP_succ (l : List Tst) (k : Nat) (h : k < l.length) : packN l.length ++ (l.take (k + 1)).flatMap encT = packN l.length ++ (l.take k).flatMap encT ++ (packN l[k].1.size ++ byt l[k].1) ++ packN (kindN l[k].2.1) ++ encTV l[k] := by
  rw [List.take_succ_eq_append_getElem h, List.flatMap_append, List.flatMap_cons, List.flatMap_nil, List.append_nil]
  simp only [encT, encTV, List.append_assoc]

set_option maxHeartbeats 4000000 in
set_option maxRecDepth 100000 in
theorem FEncode_calls (A : Option Addr) (c : Nat) (l : List Tst) (w : World) (B : Nat) (hR : Reads w B 5 A l.length (l.flatMap tstc)) (hB : B ≤ w.heap.size) (hi : ∀ x ∈ l, fitT x) :
    Calls Try.prog 47 #[.slice A l.length c] w fun e w' =>
      ∃ v', e = .returned (.tuple #[v', .int .i64 (chkF l)]) ∧ Own w' w.heap.size 5 v' (encFR l) ∧ Below w.heap.size w w' := by
  have hch := Lib.hid (FCheck_calls A c l w B hR hB)
  cases hok : okF l
  · have HE : Hid (chkF l = 50) := Lib.hid (by simp [chkF, hok])
    have HR : Hid (encFR l = []) := Lib.hid (by simp [encFR, hok])
    clear hok
    have hne : (chkF l != 0) = true := by rw [HE.out]; rfl
    go_enter Try.func47, Try.ntmps47
    go_wp2_with fail
    refine hch.out.mono ?_
    rintro e w1 ⟨rfl, hb1⟩
    go_wp2
    go_ret2
    exact ⟨_, rfl, by rw [HR.out]; exact World.ownsRow_nil _ _ _ _, hb1⟩
  · have HE : Hid (chkF l = 0) := Lib.hid (by simp [chkF, hok])
    have HR : Hid (encFR l = encF l) := Lib.hid (by simp [encFR, hok])
    have hne : (chkF l != 0) = false := by rw [HE.out]; rfl
    obtain ⟨h8, hL⟩ := okF_parts hok
    have HLN := Lib.hid fun k => encFP_len l k hok hi
    have HA := Lib.hid hL
    have HI := Lib.hid hi
    have HS := Lib.hid (encFP_succ l)
    have HRd := Lib.hid hR
    clear hok hL hi hR
    go_enter Try.func47, Try.ntmps47
    go_wp2_with fail
    refine hch.out.mono ?_
    rintro e w1 ⟨rfl, hb1⟩
    go_wp2_with fail
    refine (Number_calls none 0 0 [] l.length (by omega) w1 0 (Reads.nil _ _ _ _) (by omega) (by omega)).mono ?_
    rintro e w2 ⟨v2, rfl, ho2, hb2⟩
    have hb12 := hb1.trans (hb2.mono hb1.size)
    rw [List.nil_append] at ho2
    have ho := own_base hb1.size ho2 rfl
    clear ho2 hb1 hb2
    go_wp2_with fail
    go_loopw [5, 19] (fun o i wr => ∃ k : Nat, k ≤ l.length ∧ i = .int .i64 (k : Int) ∧ Own wr w.heap.size 5 o (packN l.length ++ (l.take k).flatMap encT) ∧ Below w.heap.size w wr) (fun _ i _ => l.length - (intOf i).toNat)
    case atStart => exact ⟨0, by omega, rfl, by simpa using ho, hb12⟩
    case round =>
      obtain ⟨k, hk, rfl, hok, hb⟩ := hrel
      by_cases hlt : k < l.length
      · have hki : (k : Int) < (l.length : Int) := by omega
        obtain ⟨b, off, rfl, hbB, hcell⟩ := HRd.out.tsts (by omega)
        obtain ⟨e0, e1, e2, e3, e4⟩ := hcell k hlt
        have d0 := (hb.cell (p := ⟨b, off + k * 5, none⟩) (Nat.lt_of_lt_of_le hbB hB)).trans e0
        have d1 := (hb.cell (p := ⟨b, off + k * 5 + 1, none⟩) (Nat.lt_of_lt_of_le hbB hB)).trans e1
        have d2 := (hb.cell (p := ⟨b, off + k * 5 + 2, none⟩) (Nat.lt_of_lt_of_le hbB hB)).trans e2
        have d3 := (hb.cell (p := ⟨b, off + k * 5 + 3, none⟩) (Nat.lt_of_lt_of_le hbB hB)).trans e3
        have d4 := (hb.cell (p := ⟨b, off + k * 5 + 4, none⟩) (Nat.lt_of_lt_of_le hbB hB)).trans e4
        clear e0 e1 e2 e3 e4 hcell
        have hz := hb.size
        have hokt := HA.out _ (List.getElem_mem hlt)
        have hpt := okT_parts hokt
        have hx40 := okT_x hokt
        have hii := (HI.out _ (List.getElem_mem hlt)).2
        have HVL := Lib.hid (encTV_len hokt (HI.out _ (List.getElem_mem hlt)))
        have HSk := Lib.hid (HS.out k hlt)
        have hlk := HLN.out k
        clear hokt
        generalize l[k] = x at *
        obtain ⟨s, op, vk, vn, vs⟩ := x
        simp only at d0 d1 d2 d3 d4 hpt hx40 hii HSk
        obtain ⟨hs16, ho1, ho8, -, -⟩ := hpt
        generalize (l.take k).flatMap encT = T at *
        obtain ⟨A1, c1, rfl, hR1⟩ := hok.slice
        have hlm : (packN l.length ++ T).length ≤ 1000 := hlk
        generalize hm1 : (packN l.length ++ T).length = m1 at hR1 hlk ⊢
        clear hm1 hok
        have hcv := fun W => run_bytes_of_string (P := Try.prog) W 9 46 5 s Try.underlying9 Try.underlying46 Try.underlying5
        go_wp2_with fail
        have hx0 := Blk.new wr 116 #[.string s, .int .i64 op, .int .i64 vk, .int .i64 vn, .string vs]
        have hbx : Below wr.heap.size wr ((wr.alloc (.cells #[.string s, .int .i64 op, .int .i64 vk, .int .i64 vn, .string vs] 116)).alloc (.cells (bytesRow s (grownCap (wr.alloc (.cells #[.string s, .int .i64 op, .int .i64 vk, .int .i64 vn, .string vs] 116)) s.size 0 5)) 5 ((bytesRow s (grownCap (wr.alloc (.cells #[.string s, .int .i64 op, .int .i64 vk, .int .i64 vn, .string vs] 116)) s.size 0 5)).size, (bytesRow s (grownCap (wr.alloc (.cells #[.string s, .int .i64 op, .int .i64 vk, .int .i64 vn, .string vs] 116)) s.size 0 5)).size + 1))).drew := (((Below.refl _ _).alloc (Nat.le_refl _) _).alloc (by simp) _).drew
        have hR2 := (hR1.below hbx (Nat.le_refl _)).more (B' := wr.heap.size + 1 + 1) (by omega)
        refine (Bytes_calls A1 _ m1 c1 s.size _ _ (byt s) _ (wr.heap.size + 1 + 1) hR2 (Reads.conv' _ s _ _ _ (wr.heap.size + 1) (by simp)) (by simp) (by omega) (by omega)).mono ?_
        rintro e w3 ⟨v3, rfl, ho3, hb3⟩
        have hx1 := ((hx0.alloc (.cells (bytesRow s (grownCap (wr.alloc (.cells #[.string s, .int .i64 op, .int .i64 vk, .int .i64 vn, .string vs] 116)) s.size 0 5)) 5 ((bytesRow s (grownCap (wr.alloc (.cells #[.string s, .int .i64 op, .int .i64 vk, .int .i64 vn, .string vs] 116)) s.size 0 5)).size, (bytesRow s (grownCap (wr.alloc (.cells #[.string s, .int .i64 op, .int .i64 vk, .int .i64 vn, .string vs] 116)) s.size 0 5)).size + 1))).drew).below hb3 (by simp; omega)
        have hbw : Below wr.heap.size wr w3 := hbx.trans (hb3.mono (by simp; omega))
        have hgt : wr.heap.size < w3.heap.size := Nat.lt_of_lt_of_le (by simp; omega) hb3.size
        have q1 := hx1.cell 1
        have q2 := hx1.cell 2
        have q3 := hx1.cell 3
        have q4 := hx1.cell 4
        simp at q1 q2 q3 q4
        clear hbx hb3 hR1 hR2 hx0 hcv
        have ho3 : Own w3 wr.heap.size 5 v3 (packN l.length ++ T ++ (packN s.size ++ byt s)) := own_base (by simp; omega) ho3 (by rw [show (byt s).length = s.size from by simp, List.append_assoc (packN l.length ++ T)])
        obtain ⟨A3, c3, rfl, hR3⟩ := ho3.slice
        have hpl := packN_len s.size (by omega)
        have hss : s.data.size ≤ 16 := hs16
        have hm3 : (packN l.length ++ T ++ (packN s.size ++ byt s)).length ≤ 1100 := by
          simp only [List.length_append] at hlm ⊢
          simp; omega
        have hm4 : (packN l.length ++ T ++ (packN s.size ++ byt s) ++ packN (kindN op)).length ≤ 1200 := by
          have := packN_len (kindN op) (kindN_lt op)
          simp only [List.length_append] at hm3 ⊢
          omega
        generalize (packN l.length ++ T ++ (packN s.size ++ byt s)).length = m3 at hR3 hm3 ⊢
        clear ho3
        have hz3 := hbw.size
        go_wp2_with fail
        have hN := Number_calls A3 m3 c3 _ (kindN op) (kindN_lt op) w3 w3.heap.size hR3 (Nat.le_refl _) (by omega)
        rw [show ((kindN op : Nat) : Int) = op by unfold kindN; omega] at hN
        refine hN.mono ?_
        rintro e w4 ⟨v4, rfl, ho4, hb4⟩
        have hx2 := hx1.below hb4 hgt
        have r1 := hx2.cell 1
        have r2 := hx2.cell 2
        have r3 := hx2.cell 3
        have r4 := hx2.cell 4
        simp at r1 r2 r3 r4
        clear q1 q2 q3 q4 hx1 hx2 hR3
        have hbn : Below w.heap.size w w4 := (hb.trans (hbw.mono hz)).trans (hb4.mono (Nat.le_trans hz hbw.size))
        have hz4 := hbn.size
        have ho4 := own_base (Nat.le_trans hz hbw.size) ho4 rfl
        by_cases hop : op = 8
        · subst hop
          have ho4 : Own w4 w.heap.size 5 v4 (packN l.length ++ (l.take (k + 1)).flatMap encT) := by
            rw [HSk.out]; simpa [encTV] using ho4
          go_wp2
          go_roundw
          case rel => exact ⟨k + 1, by omega, by go_num, ho4, hbn⟩
          case measure => simp [intOf]; omega
        · obtain ⟨A4, c4, rfl, hR4⟩ := ho4.slice
          generalize (packN l.length ++ T ++ (packN s.size ++ byt s) ++ packN (kindN op)).length = m4 at hR4 hm4 ⊢
          clear ho4
          go_wp2_with fail
          refine (Value_calls A4 m4 c4 _ vk vn vs w4 w4.heap.size hR4 (Nat.le_refl _) (by omega) (by omega) hii.2.1 hii.2.2).mono ?_
          rintro e w5 ⟨v5, rfl, ho5, hb5⟩
          have hbn5 : Below w.heap.size w w5 := hbn.trans (hb5.mono hz4)
          have ho5 := own_base hz4 ho5 rfl
          have ho5 : Own w5 w.heap.size 5 v5 (packN l.length ++ (l.take (k + 1)).flatMap encT) := by
            rw [HSk.out]; simpa [encTV, hop] using ho5
          go_wp2
          go_roundw
          case rel => exact ⟨k + 1, by omega, by go_num, ho5, hbn5⟩
          case measure => simp [intOf]; omega
      · have hki : ¬ (k : Int) < (l.length : Int) := by omega
        have ho : Own wr w.heap.size 5 u5 (encFR l) := by
          rw [HR.out]; unfold encF
          rwa [List.take_of_length_le (by omega)] at hok
        clear hok
        go_wp2
        go_ret2
        exact ⟨_, by rw [HE.out]; rfl, ho, hb⟩
theorem FEncode_flt {l : List Tst} {v : Value} {w : World} (h : flt l v w) (hi : ∀ x ∈ l, fitT x) : Calls Try.prog 47 #[v] w fun e w' =>
    ∃ v', e = .returned (.tuple #[v', .int .i64 (chkF l)]) ∧ Own w' w.heap.size 5 v' (encFR l) ∧ Below w.heap.size w w' := by
  obtain ⟨A, c, rfl, hR⟩ := h
  exact FEncode_calls A c l w _ hR (Nat.le_refl _) hi
end Go.Proofs.Ytjcdgbnbaiebdaa
