/-
  The walk of event.Encode (layer 4). Conditions: none.
-/
import Derived.Test.YtjcdgbnbaiebdaaEvE
import Derived.Test.YtjcdgbnbaiebdaaEvBc
set_option maxRecDepth 100000
namespace Go.Proofs.Ytjcdgbnbaiebdaa
open Go Go.RowKit

set_option maxHeartbeats 4000000 in
theorem Encode_calls (A : Option Addr) (c : Nat) (l : List Att) (w : World) (B : Nat) (hR : Reads w B 4 A l.length (l.flatMap attc)) (hB : B ≤ w.heap.size) (hi : ∀ x ∈ l, i64ok x.2.1 ∧ i64ok x.2.2.1) :
    Calls Try.prog 45 #[.slice A l.length c] w fun e w' =>
      ∃ v', e = .returned (.tuple #[v', .int .i64 (chkE l)]) ∧ Own w' w.heap.size 5 v' (encR l) ∧ Below w.heap.size w w' := by
  have hch := Lib.hid (ECheck_calls A c l w B hR hB)
  cases hok : okE l
  · have HE : Hid (chkE l = 40) := Lib.hid (by simp [chkE, hok])
    have HR : Hid (encR l = []) := Lib.hid (by simp [encR, hok])
    clear hok
    have hne : (chkE l != 0) = true := by rw [HE.out]; rfl
    go_enter Try.func45, Try.ntmps45
    go_wp2_with fail
    refine hch.out.mono ?_
    rintro e w1 ⟨rfl, hb1⟩
    go_wp2
    go_ret2
    exact ⟨_, rfl, by rw [HR.out]; exact World.ownsRow_nil _ _ _ _, hb1⟩
  · have HE : Hid (chkE l = 0) := Lib.hid (by simp [chkE, hok])
    have HR : Hid (encR l = encE l) := Lib.hid (by simp [encR, hok])
    have hne : (chkE l != 0) = false := by rw [HE.out]; rfl
    obtain ⟨h1, h16, hL⟩ := okE_parts hok
    have HLN := Lib.hid fun k => encP_len l k hok hi
    have HA := Lib.hid (okL_all hL)
    have HI := Lib.hid hi
    have HS := Lib.hid (encP_succ l)
    have HRd := Lib.hid hR
    clear hok hL hi hR
    go_enter Try.func45, Try.ntmps45
    go_wp2_with fail
    refine hch.out.mono ?_
    rintro e w1 ⟨rfl, hb1⟩
    go_wp2_with fail
    refine (Number_calls none 0 0 [] l.length (by omega) w1 0 (Reads.nil _ _ _ _) (by omega) (by omega)).mono ?_
    rintro e w2 ⟨v2, rfl, ho2, hb2⟩
    have hb12 := hb1.trans (hb2.mono hb1.size)
    rw [List.nil_append] at ho2
    have ho := own_base hb1.size ho2 rfl
    clear ho2 hb1 hb2
    go_wp2_with fail
    go_loopw [5, 19] (fun o i wr => ∃ k : Nat, k ≤ l.length ∧ i = .int .i64 (k : Int) ∧ Own wr w.heap.size 5 o (packN l.length ++ (l.take k).flatMap encA) ∧ Below w.heap.size w wr) (fun _ i _ => l.length - (intOf i).toNat)
    case atStart => exact ⟨0, by omega, rfl, by simpa using ho, hb12⟩
    case round =>
      obtain ⟨k, hk, rfl, hok, hb⟩ := hrel
      by_cases hlt : k < l.length
      · have hki : (k : Int) < (l.length : Int) := by omega
        obtain ⟨b, off, rfl, hbB, hcell⟩ := HRd.out.atts (by omega)
        obtain ⟨e0, e1, e2, e3⟩ := hcell k hlt
        have d0 := (hb.cell (p := ⟨b, off + k * 4, none⟩) (Nat.lt_of_lt_of_le hbB hB)).trans e0
        have d1 := (hb.cell (p := ⟨b, off + k * 4 + 1, none⟩) (Nat.lt_of_lt_of_le hbB hB)).trans e1
        have d2 := (hb.cell (p := ⟨b, off + k * 4 + 2, none⟩) (Nat.lt_of_lt_of_le hbB hB)).trans e2
        have d3 := (hb.cell (p := ⟨b, off + k * 4 + 3, none⟩) (Nat.lt_of_lt_of_le hbB hB)).trans e3
        clear e0 e1 e2 e3 hcell
        have hz := hb.size
        have hsz := okA_sizes (HA.out _ (List.getElem_mem hlt))
        have hii := (HI.out _ (List.getElem_mem hlt)).2
        have HSk := Lib.hid (HS.out k hlt)
        have hlk := HLN.out k
        generalize l[k] = x at *
        obtain ⟨s, vk, vn, vs⟩ := x
        simp only at d0 d1 d2 d3 hsz hii HSk
        obtain ⟨hs16, hs40⟩ := hsz
        generalize (l.take k).flatMap encA = T at *
        obtain ⟨A1, c1, rfl, hR1⟩ := hok.slice
        have hlm : (packN l.length ++ T).length ≤ 2000 := hlk
        generalize hm1 : (packN l.length ++ T).length = m1 at hR1 hlk ⊢
        clear hm1 hok
        have hcv := fun W => run_bytes_of_string (P := Try.prog) W 9 46 5 s Try.underlying9 Try.underlying46 Try.underlying5
        go_wp2_with fail
        have hx0 := Blk.new wr 79 #[.string s, .int .i64 vk, .int .i64 vn, .string vs]
        have hbx : Below wr.heap.size wr ((wr.alloc (.cells #[.string s, .int .i64 vk, .int .i64 vn, .string vs] 79)).alloc (.cells (bytesRow s (grownCap (wr.alloc (.cells #[.string s, .int .i64 vk, .int .i64 vn, .string vs] 79)) s.size 0 5)) 5 ((bytesRow s (grownCap (wr.alloc (.cells #[.string s, .int .i64 vk, .int .i64 vn, .string vs] 79)) s.size 0 5)).size, (bytesRow s (grownCap (wr.alloc (.cells #[.string s, .int .i64 vk, .int .i64 vn, .string vs] 79)) s.size 0 5)).size + 1))).drew := (((Below.refl _ _).alloc (Nat.le_refl _) _).alloc (by simp) _).drew
        have hR2 := (hR1.below hbx (Nat.le_refl _)).more (B' := wr.heap.size + 1 + 1) (by omega)
        refine (Bytes_calls A1 _ m1 c1 s.size _ _ (byt s) _ (wr.heap.size + 1 + 1) hR2 (Reads.conv' _ s _ _ _ (wr.heap.size + 1) (by simp)) (by simp) (by omega) (by omega)).mono ?_
        rintro e w3 ⟨v3, rfl, ho3, hb3⟩
        have hx1 := ((hx0.alloc (.cells (bytesRow s (grownCap (wr.alloc (.cells #[.string s, .int .i64 vk, .int .i64 vn, .string vs] 79)) s.size 0 5)) 5 ((bytesRow s (grownCap (wr.alloc (.cells #[.string s, .int .i64 vk, .int .i64 vn, .string vs] 79)) s.size 0 5)).size, (bytesRow s (grownCap (wr.alloc (.cells #[.string s, .int .i64 vk, .int .i64 vn, .string vs] 79)) s.size 0 5)).size + 1))).drew).below hb3 (by simp; omega)
        have hbw : Below wr.heap.size wr w3 := hbx.trans (hb3.mono (by simp; omega))
        have q1 := hx1.cell 1
        have q2 := hx1.cell 2
        have q3 := hx1.cell 3
        simp at q1 q2 q3
        clear hbx hb3 hR1 hR2 hx0 hcv
        have ho3 : Own w3 wr.heap.size 5 v3 (packN l.length ++ T ++ (packN s.size ++ byt s)) := own_base (by simp; omega) ho3 (by rw [show (byt s).length = s.size from by simp, List.append_assoc (packN l.length ++ T)])
        obtain ⟨A3, c3, rfl, hR3⟩ := ho3.slice
        have hpl := packN_len s.size (by omega)
        have hss : s.data.size ≤ 16 := hs16
        have hHm := Lib.hid (rfl : (packN l.length ++ T ++ (packN s.size ++ byt s)).length = (packN l.length ++ T ++ (packN s.size ++ byt s)).length)
        have hm3 : (packN l.length ++ T ++ (packN s.size ++ byt s)).length ≤ 3000 := by
          simp only [List.length_append] at hlm ⊢
          simp; omega
        generalize (packN l.length ++ T ++ (packN s.size ++ byt s)).length = m3 at *
        clear ho3
        go_wp2_with fail
        refine (Value_calls A3 m3 c3 _ vk vn vs w3 w3.heap.size hR3 (Nat.le_refl _) (by omega) (by omega) hii.1 hii.2).mono ?_
        rintro e w4 ⟨v4, rfl, ho4, hb4⟩
        have hbn : Below w.heap.size w w4 := (hb.trans (hbw.mono hz)).trans (hb4.mono (Nat.le_trans hz hbw.size))
        have ho4 := own_base (Nat.le_trans hz hbw.size) ho4 rfl
        rw [← HSk.out] at ho4
        go_wp2
        go_roundw
        case rel => exact ⟨k + 1, by omega, by go_num, ho4, hbn⟩
        case measure => simp [intOf]; omega
      · have hki : ¬ (k : Int) < (l.length : Int) := by omega
        have ho : Own wr w.heap.size 5 u5 (encR l) := by
          rw [HR.out]; unfold encE
          rwa [List.take_of_length_le (by omega)] at hok
        clear hok
        go_wp2
        go_ret2
        exact ⟨_, by rw [HE.out]; rfl, ho, hb⟩
section
variable {l la lb : List Att} {b : List UInt8} {v va vb : Value} {w : World}
theorem Encode_evt (h : evt l v w) (hi : ∀ x ∈ l, i64ok x.2.1 ∧ i64ok x.2.2.1) : Calls Try.prog 45 #[v] w fun e w' =>
    ∃ v', e = .returned (.tuple #[v', .int .i64 (chkE l)]) ∧ Own w' w.heap.size 5 v' (encR l) ∧ Below w.heap.size w w' := by
  obtain ⟨A, c, rfl, hR⟩ := h
  exact Encode_calls A c l w _ hR (Nat.le_refl _) hi
end
end Go.Proofs.Ytjcdgbnbaiebdaa
