/-
  The walk of the document's Encode of events (layer 4). Conditions: none.
-/
import Derived.Test.YthnhdeieimgfhaaVA
import Derived.Test.YthnhdeieimgfhaaRevC
import Derived.Test.YthnhdeieimgfhaaRefA
set_option maxRecDepth 100000
namespace Go.Proofs.Ythnhdeieimgfhaa
open Go Go.RowKit

set_option maxHeartbeats 4000000 in
theorem RefEncode_calls (A : Option Addr) (c : Nat) (l : List Att) (w : World) (B : Nat) (hR : Reads w B 4 A l.length (l.flatMap attc)) (hB : B ≤ w.heap.size) (hlen : l.length ≤ 1000000) (hsz : ∀ x ∈ l, x.1.size ≤ 1000000000) (hi : ∀ x ∈ l, i64ok x.2.1 ∧ i64ok x.2.2.1) :
    Calls Try.prog 116 #[.slice A l.length c] w fun e w' =>
      ∃ v', e = .returned (.tuple #[v', .int .i64 (chkE l)]) ∧ Own w' w.heap.size 5 v' (encR l) ∧ Below w.heap.size w w' := by
  have hch := Lib.hid (RefECheck_calls A c l w B hR hB hlen hsz)
  cases hok : okE l
  · have HE : Hid (chkE l = 40) := Lib.hid (by simp [chkE, hok])
    have HR : Hid (encR l = []) := Lib.hid (by simp [encR, hok])
    clear hok
    have hne : (chkE l != 0) = true := by rw [HE.out]; rfl
    go_enter Try.func116, Try.ntmps116
    go_wp2_with fail
    refine hch.out.mono ?_
    rintro e w1 ⟨rfl, hb1⟩
    go_wp2
    go_ret2
    exact ⟨_, by rw [HE.out]; rfl, by rw [HR.out]; exact World.ownsRow_nil _ _ _ _, hb1⟩
  · have HE : Hid (chkE l = 0) := Lib.hid (by simp [chkE, hok])
    have HR : Hid (encR l = encE l) := Lib.hid (by simp [encR, hok])
    have hne : (chkE l != 0) = false := by rw [HE.out]; rfl
    obtain ⟨h1, h16, hL⟩ := okE_parts hok
    have HLN := Lib.hid fun k => encP_len l k hok hi
    have HA := Lib.hid (okL_all hL)
    have HI := Lib.hid hi
    have HS := Lib.hid (encP_succ l)
    have HRd := Lib.hid hR
    clear hok hL hi hR hsz
    go_enter Try.func116, Try.ntmps116
    go_wp2_with fail
    refine hch.out.mono ?_
    rintro e w1 ⟨rfl, hb1⟩
    go_wp2_with fail
    refine (RefNumber_calls l.length (by omega) w1).mono ?_
    rintro e w2 ⟨v2, rfl, ho2, hb2⟩
    have hb12 := hb1.trans (hb2.mono hb1.size)
    have ho := own_base hb1.size ho2 rfl
    clear ho2 hb1 hb2
    go_wp2_with fail
    go_loopw [4, 5] (fun o i wr => ∃ k : Nat, k ≤ l.length ∧ i = .int .i64 (k : Int) ∧ Own wr w.heap.size 5 o (packN l.length ++ (l.take k).flatMap encA) ∧ Below w.heap.size w wr) (fun _ i _ => l.length - (intOf i).toNat)
    case atStart => exact ⟨0, by omega, rfl, by simpa using ho, hb12⟩
    case round =>
      obtain ⟨k, hk, rfl, hok, hb⟩ := hrel
      by_cases hlt : k < l.length
      · have hki : (k : Int) < (l.length : Int) := by omega
        obtain ⟨b, off, rfl, hbB, hcell⟩ := HRd.out.atts (by omega)
        obtain ⟨e0, e1, e2, e3⟩ := hcell k hlt
        have hbw : b < w.heap.size := Nat.lt_of_lt_of_le hbB hB
        have d0 := (hb.cell (p := ⟨b, off + k * 4, none⟩) hbw).trans e0
        clear hcell
        have hz := hb.size
        have hsz := okA_sizes (HA.out _ (List.getElem_mem hlt))
        have hii := (HI.out _ (List.getElem_mem hlt)).2
        have HSk := Lib.hid (HS.out k hlt)
        have hlk := HLN.out k
        generalize l[k] = x at *
        obtain ⟨s, vk, vn, vs⟩ := x
        simp only at d0 e1 e2 e3 hsz hii HSk
        obtain ⟨hs16, hs40⟩ := hsz
        generalize (l.take k).flatMap encA = T at *
        have E1 := Lib.hid e1
        have E2 := Lib.hid e2
        have E3 := Lib.hid e3
        clear e0 e1 e2 e3
        have hcv := fun W => run_bytes_of_string (P := Try.prog) W 9 30 5 s Try.underlying9 Try.underlying30 Try.underlying5
        have hbx : Below wr.heap.size wr (wr.drew.alloc (.cells (bytesRow s (grownCap wr s.size 0 5)) 5 ((bytesRow s (grownCap wr s.size 0 5)).size, (bytesRow s (grownCap wr s.size 0 5)).size + 1))) := ((Below.refl _ wr).drew).alloc (Nat.le_refl _) _
        go_wp2_with fail
        refine (RefBytes_calls _ s.size _ (byt s) _ (wr.heap.size + 1) (Reads.conv wr.drew s _ _ _) (by simp) (by omega)).mono ?_
        rintro e w3 ⟨v3, rfl, ho3, hb3⟩
        have hb3w : Below wr.heap.size wr w3 := hbx.trans (hb3.mono (by simp))
        have hor := own_below (Nat.le_refl _) hok hb3w
        have hbl : (byt s).length = s.size := by simp
        rw [hbl] at ho3
        clear hbl hbx hb3 hok
        obtain ⟨A3, c3, rfl, hR3⟩ := ho3.slice
        have hpl := packN_len s.size (by omega)
        have hss : s.data.size ≤ 16 := hs16
        have hm3 : (packN s.size ++ byt s).length ≤ 25 := by
          simp only [List.length_append]
          simp; omega
        have hlm : (packN l.length ++ T).length ≤ 2000 := hlk
        generalize hm1 : (packN s.size ++ byt s).length = m3 at *
        have HM1 := Lib.hid hm1
        clear hm1 ho3 hcv
        have hz3 := hb3w.size
        go_wp2_with (at_builtin; refine wpList_app rfl _ _ 30 rfl w.heap.size 5 _ 1 1 TB _ _ _ rfl hor w3.heap.size A3 m3 c3 (bys (packN s.size ++ byt s)) rfl hR3 (bys_one _) ?d3 (by omega) ?_)
        case d3 => omega
        intro v4 w4 ho4 hg4 hat4 hb4
        have hbn : Below w.heap.size w w4 := (hb.trans (hb3w.mono hz)).trans hb4
        have ho4' : Own w4 w.heap.size 5 v4 (packN l.length ++ T ++ (packN s.size ++ byt s)) := by
          unfold Own
          rw [bys_append, List.length_append, HM1.out]
          simpa [Nat.add_assoc] using ho4
        have hz4 := hbn.size
        have d1 := (hbn.cell (p := ⟨b, off + k * 4 + 1, none⟩) hbw).trans E1.out
        have d2 := (hbn.cell (p := ⟨b, off + k * 4 + 2, none⟩) hbw).trans E2.out
        have d3 := (hbn.cell (p := ⟨b, off + k * 4 + 3, none⟩) hbw).trans E3.out
        clear ho4 hg4 hat4 hb4 hor hR3
        go_wp2_with fail
        refine (RefValue_calls vk vn vs w4 (by omega) hii.1 hii.2).mono ?_
        rintro e w5 ⟨v5, rfl, ho5, hb5⟩
        have hor := own_below (Nat.le_refl _) ho4' hb5
        have hb5n := hbn.trans (hb5.mono hz4)
        have hz5 := hb5n.size
        obtain ⟨A5, c5, rfl, hR5⟩ := ho5.slice
        have hp5 : (packV vk vn vs).length ≤ 67 := by
          have h1 := packN_len (kindN vk) (kindN_lt _)
          have h2 := packN_len (numV vk vn) (numV_lt _ _ hii.1 hii.2)
          have h3 := packN_len vs.size (by omega)
          have h4 : vs.data.size ≤ 40 := hs40
          simp [packV]; omega
        have hl5 : (packN l.length ++ T ++ (packN s.size ++ byt s)).length ≤ 2030 := by
          rw [List.length_append, HM1.out]; omega
        generalize hm5 : (packV vk vn vs).length = m5 at *
        have HM5 := Lib.hid hm5
        clear hm5 ho5 ho4'
        go_wp2_with (at_builtin; refine wpList_app rfl _ _ 30 rfl w.heap.size 5 _ 1 1 TB _ _ _ rfl hor w5.heap.size A5 m5 c5 (bys (packV vk vn vs)) rfl hR5 (bys_one _) ?d5 hz5 ?_)
        case d5 => omega
        intro v6 w6 ho6 hg6 hat6 hb6
        have hbn6 := hb5n.trans hb6
        have ho6' : Own w6 w.heap.size 5 v6 (packN l.length ++ (l.take (k + 1)).flatMap encA) := by
          rw [HSk.out]
          unfold Own
          rw [bys_append, List.length_append, HM5.out]
          simpa [Nat.add_assoc] using ho6
        clear ho6 hg6 hat6 hb6 hor hR5
        go_wp2
        go_roundw
        case rel => exact ⟨k + 1, by omega, by go_num, ho6', hbn6⟩
        case measure => simp [intOf]; omega
      · have hki : ¬ (k : Int) < (l.length : Int) := by omega
        have ho : Own wr w.heap.size 5 u4 (encR l) := by
          rw [HR.out]; unfold encE
          rwa [List.take_of_length_le (by omega)] at hok
        clear hok
        go_wp2
        go_ret2
        exact ⟨_, by rw [HE.out]; rfl, ho, hb⟩
section
variable {l la lb : List Att} {b : List UInt8} {v va vb : Value} {w : World}
theorem RefEncode_evt (h : evt l v w) (hlen : l.length ≤ 1000000) (hsz : ∀ x ∈ l, x.1.size ≤ 1000000000) (hi : ∀ x ∈ l, i64ok x.2.1 ∧ i64ok x.2.2.1) : Calls Try.prog 116 #[v] w fun e w' =>
    ∃ v', e = .returned (.tuple #[v', .int .i64 (chkE l)]) ∧ Own w' w.heap.size 5 v' (encR l) ∧ Below w.heap.size w w' := by
  obtain ⟨A, c, rfl, hR⟩ := h
  exact RefEncode_calls A c l w _ hR (Nat.le_refl _) hlen hsz hi
end
end Go.Proofs.Ythnhdeieimgfhaa
