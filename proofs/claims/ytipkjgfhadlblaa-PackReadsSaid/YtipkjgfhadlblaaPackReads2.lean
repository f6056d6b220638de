/-
  postilionlaw02.PackReads: the walk: whatever is asked of any bytes, what is unpacked is what the document's answer unpacks. Conditions: none.
-/
import Derived.Test.YtipkjgfhadlblaaPackReads
import Derived.Test.YtipkjgfhadlblaaPackOpen
import Derived.Deep.LoopGhost
namespace Go.Proofs.Ytipkjgfhadlblaa
open Go Go.RowKit

theorem asks_at (vs : List (Int × Int)) (k : Nat) (hk : k < vs.length) : ∀ j, (hj : j < 2) → (vs.flatMap askc)[k * 2 + j]? = some ((askc vs[k])[j]'hj) := by
  intro j hj
  rw [List.flatMap_def, flatten_at 2 _ (by intro cs hcs; obtain ⟨y, _, rfl⟩ := List.mem_map.1 hcs; rfl) k j (by simpa using hk) hj]
  simp [hk]

set_option maxHeartbeats 4000000 in
set_option maxRecDepth 100000 in
theorem PackReads_walk (v0 v1 : Value) (w : World) (r0 : repBytes w v0) (r1 : repAsks w v1) :
    Calls Try.prog 6 #[v0, v1] w fun e w' => e = .returned (.bool true) ∧ Below w.heap.size w w' := by
  obtain ⟨A0, c0, l, rfl, hR, hlc, hcm⟩ := r0
  obtain ⟨A1, c1, vs, rfl, hV, hv, hc1, hm1⟩ := r1
  unfold maxLen at hcm hm1
  have HL := Lib.hid (rfl : l.length = l.length)
  go_enter Try.func6, Try.ntmps6
  go_wp2_with fail
  refine (awake_calls w).mono ?_
  rintro e w1 ⟨rfl, hb1⟩
  by_cases hl5 : l.length ≤ 500
  rotate_left
  · have hl5' : (500 : Int) < (l.length : Int) := by omega
    go_wp2
    go_ret
    exact ⟨rfl, hb1⟩
  have hl5' : ¬ (500 : Int) < (l.length : Int) := by omega
  go_wp2_with fail
  refine (New_calls A0 l.length c0 l w1 w.heap.size (hR.below hb1 (Nat.le_refl _)) hb1.size (by omega)).mono ?_
  rintro e w2 ⟨g, rfl, hgw1, hrd, hb2⟩
  have hbw2 := hb1.trans (hb2.mono hb1.size)
  have hgw : w.heap.size ≤ g := Nat.le_trans hb1.size hgw1
  have hR2 := (hR.below hbw2 (Nat.le_refl _)).more hgw
  clear hb1 hb2 hgw1
  go_wp2_with fail
  go_loopw [7, 8, 9] (fun s b i wr => ∃ (k : Nat) (xs l' : List UInt8) (A : Option Addr) (c : Nat) (D : Bool), k ≤ 30 ∧ i = .int .i64 (k : Int) ∧ b = .bool D ∧ s = .slice A xs.length c ∧ Reads wr g 1 A xs.length (bys xs) ∧ xs.length ≤ c ∧ xs.length ≤ 500 ∧ l'.length ≤ 500 ∧ (D = false → xs = l') ∧ Rd wr g l' D ∧ Below w.heap.size w wr) (fun _ _ i _ => 30 - (intOf i).toNat)
  case atStart => exact ⟨0, l, l, A0, c0, false, by omega, rfl, rfl, rfl, hR2, hlc, hl5, hl5, fun _ => rfl, hrd, hbw2⟩
  case round =>
    clear hrd hR2 hbw2
    obtain ⟨k, xs, l', A, c, D, hk, rfl, rfl, rfl, hX, hxc, hx5, hl'5, hxl, hrd, hb⟩ := hrel
    have hz := hb.size
    by_cases hkn : k < vs.length
    rotate_left
    · have hkn' : ¬ (k : Int) < (vs.length : Int) := by omega
      go_wp2
      go_ret
      exact ⟨rfl, hb⟩
    have hkn' : (k : Int) < (vs.length : Int) := by omega
    by_cases hk30 : k < 30
    rotate_left
    · have hk30' : ¬ (k : Int) < 30 := by omega
      go_wp2
      go_ret
      exact ⟨rfl, hb⟩
    have hk30' : (k : Int) < 30 := by omega
    obtain ⟨b, off, rfl, hbb, hcell⟩ := hV.2 (by rw [hV.1]; omega)
    have hvk := asks_at vs k hkn
    have h0 := hcell (k * 2) _ (hvk 0 (by decide))
    have h1 := hcell (k * 2 + 1) _ (hvk 1 (by decide))
    simp only [askc, List.getElem_cons_zero, List.getElem_cons_succ] at h0 h1
    have e0 : wr.cell? ⟨b, off + k * 2, none⟩ = _ := (hb.cell hbb).trans h0
    have e1 : wr.cell? ⟨b, off + k * 2 + 1, none⟩ = _ := (hb.cell hbb).trans h1
    have hvb := hv vs[k] (List.getElem_mem hkn)
    clear hcell hvk
    generalize vs[k] = x at *
    obtain ⟨kind, most⟩ := x
    simp only at *
    go_wp2_with fail
    refine (read_calls g l' xs D A xs.length c kind most wr hrd hX hxc (by omega) (by omega) hxl hvb.2.1 hvb.2.2).mono ?_
    rintro e w3 ⟨q, l2, D2, rfl, ⟨hr3, hm3⟩, hqn, hl2, hin, hout⟩
    have hb3 := hb.trans (below_of_mut hm3 hgw hz)
    have hz3 := hb3.size
    have hX3 := hX.below (below_of_mut hm3 (Nat.le_refl g) (Nat.le_of_lt hrd.lt)) (Nat.le_refl _)
    have f0 : w3.cell? ⟨b, off + k * 2, none⟩ = _ := (hb3.cell hbb).trans h0
    have HH := Lib.hid hin
    have HO := Lib.hid hout
    have HXL := Lib.hid hxl
    clear h0 h1 e0 e1 hin hout hX hrd hb hz hm3 hxl
    by_cases hin3 : kind = 1 ∨ kind = 2 ∨ kind = 3
    · have hk1 : 1 ≤ kind := by omega
      have hk3 : kind ≤ 3 := by omega
      go_upto_if 57 with (fail)
      go_cut [7, 8] from 21 to 65 (fun s b wc => (∃ (A2 : Option Addr) (c2 : Nat) (ys : List UInt8), s = .slice A2 ys.length c2 ∧ Reads wc g 1 A2 ys.length (bys ys) ∧ ys.length ≤ c2 ∧ ys.length ≤ 500 ∧ (D2 = false → ys = l2)) ∧ b = .bool D2 ∧ wc = w3)
      case first =>
        have hD := HH.out hin3
        have hY := hX3.post (A' := if c = q then A else A.map (·.add q)) q (by intro h; rw [if_neg (by omega)])
        have hyl : (xs.drop q).length = xs.length - q := by simp
        rw [← hyl] at hY
        have HD := Lib.hid hD
        clear hD HH HO
        cases D
        all_goals
          by_cases hcq : c = q
          all_goals
            first | rw [if_pos hcq] at hY | rw [if_neg hcq] at hY
            go_wp2
            go_meet
            case rel => exact ⟨⟨_, c - q, xs.drop q, by first | (rw [hyl]; done) | (rw [hyl]; simp [hcq]), hY, by rw [hyl]; omega, by rw [hyl]; omega, fun h => ((HD.out).2 h).symm⟩, by rw [(HD.out).1]; first | rfl | (simp; done) | (simp; exact Bool.eq_iff_iff.2 (by simp)), rfl⟩
      case rest =>
      obtain ⟨⟨A2, c2, ys, rfl, hY, hyc, hy5, hyl⟩, rfl, rfl⟩ := hcut
      clear HH HO hX3 f0
      have hy0 := len0 ys
      go_wp2_with fail
      refine (Wrong_calls g l2 D2 wc hr3).mono ?_
      rintro e w' ⟨rfl, rfl⟩
      go_wp2_with fail
      refine (Done_calls g l2 D2 wc hr3).mono ?_
      rintro e w' ⟨rfl, rfl⟩
      cases D2 with
      | false =>
        obtain rfl := hyl rfl
        go_wp2
        go_roundw
        case rel => exact ⟨k + 1, ys, ys, A2, c2, false, by omega, by go_num, rfl, rfl, hY, hyc, hy5, by omega, fun _ => rfl, hr3, hb3⟩
        case measure => simp [intOf]; omega
      | true =>
        go_wp2
        go_roundw
        case rel => exact ⟨k + 1, ys, l2, A2, c2, true, by omega, by go_num, rfl, rfl, hY, hyc, hy5, by omega, (fun h => by cases h), hr3, hb3⟩
        case measure => simp [intOf]; omega
    · by_cases hk1 : 1 ≤ kind
      · have hk3 : ¬ kind ≤ 3 := by omega
        go_upto_if 57 with (fail)
        go_cut [7, 8] from 21 to 65 (fun s b wc => (∃ (A2 : Option Addr) (c2 : Nat) (ys : List UInt8), s = .slice A2 ys.length c2 ∧ Reads wc g 1 A2 ys.length (bys ys) ∧ ys.length ≤ c2 ∧ ys.length ≤ 500 ∧ (D2 = false → ys = l2)) ∧ b = .bool D2 ∧ wc = w3)
        case first =>
          have H2 := Lib.hid (HO.out hin3)
          go_wp2
          go_meet
          case rel => exact ⟨⟨A, c, xs, rfl, hX3, hxc, hx5, fun h => by rw [H2.out.2.1]; exact HXL.out (by rw [← H2.out.2.2]; exact h)⟩, by rw [H2.out.2.2], rfl⟩
        case rest =>
        obtain ⟨⟨A2, c2, ys, rfl, hY, hyc, hy5, hyl⟩, rfl, rfl⟩ := hcut
        clear HH HO hX3 f0
        have hy0 := len0 ys
        go_wp2_with fail
        refine (Wrong_calls g l2 D2 wc hr3).mono ?_
        rintro e w' ⟨rfl, rfl⟩
        go_wp2_with fail
        refine (Done_calls g l2 D2 wc hr3).mono ?_
        rintro e w' ⟨rfl, rfl⟩
        cases D2 with
        | false =>
          obtain rfl := hyl rfl
          go_wp2
          go_roundw
          case rel => exact ⟨k + 1, ys, ys, A2, c2, false, by omega, by go_num, rfl, rfl, hY, hyc, hy5, by omega, fun _ => rfl, hr3, hb3⟩
          case measure => simp [intOf]; omega
        | true =>
          go_wp2
          go_roundw
          case rel => exact ⟨k + 1, ys, l2, A2, c2, true, by omega, by go_num, rfl, rfl, hY, hyc, hy5, by omega, (fun h => by cases h), hr3, hb3⟩
          case measure => simp [intOf]; omega
      · go_upto_if 57 with (fail)
        go_cut [7, 8] from 21 to 65 (fun s b wc => (∃ (A2 : Option Addr) (c2 : Nat) (ys : List UInt8), s = .slice A2 ys.length c2 ∧ Reads wc g 1 A2 ys.length (bys ys) ∧ ys.length ≤ c2 ∧ ys.length ≤ 500 ∧ (D2 = false → ys = l2)) ∧ b = .bool D2 ∧ wc = w3)
        case first =>
          have H2 := Lib.hid (HO.out hin3)
          go_wp2
          go_meet
          case rel => exact ⟨⟨A, c, xs, rfl, hX3, hxc, hx5, fun h => by rw [H2.out.2.1]; exact HXL.out (by rw [← H2.out.2.2]; exact h)⟩, by rw [H2.out.2.2], rfl⟩
        case rest =>
        obtain ⟨⟨A2, c2, ys, rfl, hY, hyc, hy5, hyl⟩, rfl, rfl⟩ := hcut
        clear HH HO hX3 f0
        have hy0 := len0 ys
        go_wp2_with fail
        refine (Wrong_calls g l2 D2 wc hr3).mono ?_
        rintro e w' ⟨rfl, rfl⟩
        go_wp2_with fail
        refine (Done_calls g l2 D2 wc hr3).mono ?_
        rintro e w' ⟨rfl, rfl⟩
        cases D2 with
        | false =>
          obtain rfl := hyl rfl
          go_wp2
          go_roundw
          case rel => exact ⟨k + 1, ys, ys, A2, c2, false, by omega, by go_num, rfl, rfl, hY, hyc, hy5, by omega, fun _ => rfl, hr3, hb3⟩
          case measure => simp [intOf]; omega
        | true =>
          go_wp2
          go_roundw
          case rel => exact ⟨k + 1, ys, l2, A2, c2, true, by omega, by go_num, rfl, rfl, hY, hyc, hy5, by omega, (fun h => by cases h), hr3, hb3⟩
          case measure => simp [intOf]; omega
end Go.Proofs.Ytipkjgfhadlblaa
