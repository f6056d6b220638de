/-
  The walk of the document's Encode of filters (layer 5). Conditions: none.
-/
import Derived.Test.YthnhdeieimgfhaaFA
import Derived.Test.YthnhdeieimgfhaaRfC
namespace Go.Proofs.Ythnhdeieimgfhaa
open Go Go.RowKit

set_option maxHeartbeats 4000000 in
set_option maxRecDepth 100000 in
theorem RefFEncode_calls (A : Option Addr) (c : Nat) (l : List Tst) (w : World) (B : Nat) (hR : Reads w B 5 A l.length (l.flatMap tstc)) (hB : B ≤ w.heap.size) (hlen : l.length ≤ 1000000) (hsz : ∀ x ∈ l, x.1.size ≤ 1000000000) (hi : ∀ x ∈ l, fitT x) :
    Calls Try.prog 117 #[.slice A l.length c] w fun e w' =>
      ∃ v', e = .returned (.tuple #[v', .int .i64 (chkF l)]) ∧ Own w' w.heap.size 5 v' (encFR l) ∧ Below w.heap.size w w' := by
  have hch := Lib.hid (RefFCheck_calls A c l w B hR hB hlen hsz)
  cases hok : okF l
  · have HE : Hid (chkF l = 50) := Lib.hid (by simp [chkF, hok])
    have HR : Hid (encFR l = []) := Lib.hid (by simp [encFR, hok])
    clear hok
    have hne : (chkF l != 0) = true := by rw [HE.out]; rfl
    go_enter Try.func117, Try.ntmps117
    go_wp2_with fail
    refine hch.out.mono ?_
    rintro e w1 ⟨rfl, hb1⟩
    go_wp2
    go_ret2
    exact ⟨_, by rw [HE.out]; rfl, by rw [HR.out]; exact World.ownsRow_nil _ _ _ _, hb1⟩
  · have HE : Hid (chkF l = 0) := Lib.hid (by simp [chkF, hok])
    have HR : Hid (encFR l = encF l) := Lib.hid (by simp [encFR, hok])
    have hne : (chkF l != 0) = false := by rw [HE.out]; rfl
    obtain ⟨h8, hL⟩ := okF_parts hok
    have HLN := Lib.hid fun k => encFP_len l k hok hi
    have HA := Lib.hid hL
    have HI := Lib.hid hi
    have HS := Lib.hid (encFP_succ l)
    have HRd := Lib.hid hR
    clear hok hL hi hR hsz
    go_enter Try.func117, Try.ntmps117
    go_wp2_with fail
    refine hch.out.mono ?_
    rintro e w1 ⟨rfl, hb1⟩
    go_wp2_with fail
    refine (RefNumber_calls l.length (by omega) w1).mono ?_
    rintro e w2 ⟨v2, rfl, ho2, hb2⟩
    have hb12 := hb1.trans (hb2.mono hb1.size)
    have ho := own_base hb1.size ho2 rfl
    clear ho2 hb1 hb2
    go_wp2_with fail
    go_loopw [4, 5] (fun o i wr => ∃ k : Nat, k ≤ l.length ∧ i = .int .i64 (k : Int) ∧ Own wr w.heap.size 5 o (packN l.length ++ (l.take k).flatMap encT) ∧ Below w.heap.size w wr) (fun _ i _ => l.length - (intOf i).toNat)
    case atStart => exact ⟨0, by omega, rfl, by simpa using ho, hb12⟩
    case round =>
      obtain ⟨k, hk, rfl, hok, hb⟩ := hrel
      by_cases hlt : k < l.length
      · have hki : (k : Int) < (l.length : Int) := by omega
        obtain ⟨b, off, rfl, hbB, hcell⟩ := HRd.out.tsts (by omega)
        obtain ⟨e0, e1, e2, e3, e4⟩ := hcell k hlt
        have hbw : b < w.heap.size := Nat.lt_of_lt_of_le hbB hB
        have d0 := (hb.cell (p := ⟨b, off + k * 5, none⟩) hbw).trans e0
        clear hcell
        have hz := hb.size
        have hokt := HA.out _ (List.getElem_mem hlt)
        have hpt := okT_parts hokt
        have hx40 := okT_x hokt
        have hii := (HI.out _ (List.getElem_mem hlt)).2
        have HSk := Lib.hid (HS.out k hlt)
        have hlk := HLN.out k
        clear hokt
        generalize l[k] = x at *
        obtain ⟨s, op, vk, vn, vs⟩ := x
        simp only at d0 e1 e2 e3 e4 hpt hx40 hii HSk
        obtain ⟨hs16, ho1, ho8, -, -⟩ := hpt
        generalize (l.take k).flatMap encT = T at *
        have E1 := Lib.hid e1
        have E2 := Lib.hid e2
        have E3 := Lib.hid e3
        have E4 := Lib.hid e4
        clear e0 e1 e2 e3 e4
        have hcv := fun W => run_bytes_of_string (P := Try.prog) W 9 30 5 s Try.underlying9 Try.underlying30 Try.underlying5
        have hbx : Below wr.heap.size wr (wr.drew.alloc (.cells (bytesRow s (grownCap wr s.size 0 5)) 5 ((bytesRow s (grownCap wr s.size 0 5)).size, (bytesRow s (grownCap wr s.size 0 5)).size + 1))) := ((Below.refl _ wr).drew).alloc (Nat.le_refl _) _
        go_wp2_with fail
        refine (RefBytes_calls _ s.size _ (byt s) _ (wr.heap.size + 1) (Reads.conv wr.drew s _ _ _) (by simp) (by omega)).mono ?_
        rintro e w3 ⟨v3, rfl, ho3, hb3⟩
        have hb3w : Below wr.heap.size wr w3 := hbx.trans (hb3.mono (by simp))
        have hor := own_below (Nat.le_refl _) hok hb3w
        have hbl : (byt s).length = s.size := by simp
        rw [hbl] at ho3
        clear hbl hbx hb3 hok
        obtain ⟨A3, c3, rfl, hR3⟩ := ho3.slice
        have hpl := packN_len s.size (by omega)
        have hss : s.data.size ≤ 16 := hs16
        have hm3 : (packN s.size ++ byt s).length ≤ 25 := by
          simp only [List.length_append]
          simp; omega
        have hlm : (packN l.length ++ T).length ≤ 1000 := hlk
        generalize hm1 : (packN s.size ++ byt s).length = m3 at *
        have HM1 := Lib.hid hm1
        clear hm1 ho3 hcv
        have hz3 := hb3w.size
        go_wp2_with (at_builtin; refine wpList_app rfl _ _ 30 rfl w.heap.size 5 _ 1 1 TB _ _ _ rfl hor w3.heap.size A3 m3 c3 (bys (packN s.size ++ byt s)) rfl hR3 (bys_one _) ?d3 (by omega) ?_)
        case d3 => omega
        intro v4 w4 ho4 hg4 hat4 hb4
        have hbn : Below w.heap.size w w4 := (hb.trans (hb3w.mono hz)).trans hb4
        have ho4' : Own w4 w.heap.size 5 v4 (packN l.length ++ T ++ (packN s.size ++ byt s)) := by
          unfold Own
          rw [bys_append, List.length_append, HM1.out]
          simpa [Nat.add_assoc] using ho4
        have hz4 := hbn.size
        have d1 := (hbn.cell (p := ⟨b, off + k * 5 + 1, none⟩) hbw).trans E1.out
        clear ho4 hg4 hat4 hb4 hor hR3
        have hN := RefNumber_calls (kindN op) (kindN_lt op) w4
        rw [show ((kindN op : Nat) : Int) = op by unfold kindN; omega] at hN
        go_wp2_with fail
        refine hN.mono ?_
        rintro e w5 ⟨v5, rfl, ho5, hb5⟩
        have hor := own_below (Nat.le_refl _) ho4' hb5
        have hb5n := hbn.trans (hb5.mono hz4)
        have hz5 := hb5n.size
        obtain ⟨A5, c5, rfl, hR5⟩ := ho5.slice
        have hp5 := packN_len (kindN op) (kindN_lt op)
        have hl5 : (packN l.length ++ T ++ (packN s.size ++ byt s)).length ≤ 1030 := by
          rw [List.length_append, HM1.out]; omega
        generalize hm5 : (packN (kindN op)).length = m5 at *
        have HM5 := Lib.hid hm5
        clear hm5 ho5 ho4' hN
        go_wp2_with (at_builtin; refine wpList_app rfl _ _ 30 rfl w.heap.size 5 _ 1 1 TB _ _ _ rfl hor w5.heap.size A5 m5 c5 (bys (packN (kindN op))) rfl hR5 (bys_one _) ?d5 hz5 ?_)
        case d5 => omega
        intro v6 w6 ho6 hg6 hat6 hb6
        have hbn6 := hb5n.trans hb6
        have ho6' : Own w6 w.heap.size 5 v6 (packN l.length ++ T ++ (packN s.size ++ byt s) ++ packN (kindN op)) := by
          unfold Own
          rw [bys_append, List.length_append, HM5.out]
          simpa [Nat.add_assoc] using ho6
        have hz6 := hbn6.size
        have d1' := (hbn6.cell (p := ⟨b, off + k * 5 + 1, none⟩) hbw).trans E1.out
        have d2 := (hbn6.cell (p := ⟨b, off + k * 5 + 2, none⟩) hbw).trans E2.out
        have d3 := (hbn6.cell (p := ⟨b, off + k * 5 + 3, none⟩) hbw).trans E3.out
        have d4 := (hbn6.cell (p := ⟨b, off + k * 5 + 4, none⟩) hbw).trans E4.out
        clear ho6 hg6 hat6 hb6 hor hR5 d1
        by_cases hop : op = 8
        · subst hop
          have ho7 : Own w6 w.heap.size 5 v6 (packN l.length ++ (l.take (k + 1)).flatMap encT) := by
            rw [HSk.out]; simpa [encTV] using ho6'
          clear ho6'
          go_wp2
          go_roundw
          case rel => exact ⟨k + 1, by omega, by go_num, ho7, hbn6⟩
          case measure => simp [intOf]; omega
        · go_wp2_with fail
          refine (RefValue_calls vk vn vs w6 (by omega) hii.2.1 hii.2.2).mono ?_
          rintro e w7 ⟨v7, rfl, ho7, hb7⟩
          have hor := own_below (Nat.le_refl _) ho6' hb7
          have hb7n := hbn6.trans (hb7.mono hz6)
          have hz7 := hb7n.size
          obtain ⟨A7, c7, rfl, hR7⟩ := ho7.slice
          have hp7 : (packV vk vn vs).length ≤ 67 := packV_len hii.2.1 hii.2.2 hx40
          have hl7 : (packN l.length ++ T ++ (packN s.size ++ byt s) ++ packN (kindN op)).length ≤ 1040 := by
            rw [List.length_append, HM5.out]; omega
          generalize hm7 : (packV vk vn vs).length = m7 at *
          have HM7 := Lib.hid hm7
          clear hm7 ho7 ho6'
          go_wp2_with (at_builtin; refine wpList_app rfl _ _ 30 rfl w.heap.size 5 _ 1 1 TB _ _ _ rfl hor w7.heap.size A7 m7 c7 (bys (packV vk vn vs)) rfl hR7 (bys_one _) ?d7 hz7 ?_)
          case d7 => omega
          intro v8 w8 ho8' hg8 hat8 hb8
          have hbn8 := hb7n.trans hb8
          have ho9 : Own w8 w.heap.size 5 v8 (packN l.length ++ (l.take (k + 1)).flatMap encT) := by
            rw [HSk.out]
            simp only [encTV, show ((op : Int) == 8) = false by simp [hop], Bool.false_eq_true, if_false]
            unfold Own
            rw [bys_append, List.length_append, HM7.out]
            simpa [Nat.add_assoc] using ho8'
          clear ho8' hg8 hat8 hb8 hor hR7
          go_wp2
          go_roundw
          case rel => exact ⟨k + 1, by omega, by go_num, ho9, hbn8⟩
          case measure => simp [intOf]; omega
      · have hki : ¬ (k : Int) < (l.length : Int) := by omega
        have ho : Own wr w.heap.size 5 u4 (encFR l) := by
          rw [HR.out]; unfold encF
          rwa [List.take_of_length_le (by omega)] at hok
        clear hok
        go_wp2
        go_ret2
        exact ⟨_, by rw [HE.out]; rfl, ho, hb⟩
theorem RefFEncode_flt {l : List Tst} {v : Value} {w : World} (h : flt l v w) (hlen : l.length ≤ 1000000) (hsz : ∀ x ∈ l, x.1.size ≤ 1000000000) (hi : ∀ x ∈ l, fitT x) : Calls Try.prog 117 #[v] w fun e w' =>
    ∃ v', e = .returned (.tuple #[v', .int .i64 (chkF l)]) ∧ Own w' w.heap.size 5 v' (encFR l) ∧ Below w.heap.size w w' := by
  obtain ⟨A, c, rfl, hR⟩ := h
  exact RefFEncode_calls A c l w _ hR (Nat.le_refl _) hlen hsz hi
end Go.Proofs.Ythnhdeieimgfhaa
