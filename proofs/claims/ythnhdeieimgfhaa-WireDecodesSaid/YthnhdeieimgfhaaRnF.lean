/-
  The walks of entries, ids and voted of the document's answer of layer 13. Conditions: the loads are of a bounded size.
-/
import Derived.Test.YthnhdeieimgfhaaRnB
import Derived.Test.YthnhdeieimgfhaaWiB
set_option maxRecDepth 100000
namespace Go.Proofs.Ythnhdeieimgfhaa
open Go Go.RowKit

set_option maxHeartbeats 2000000 in
theorem R13Entries_calls (l : List Ent) (v : Value) (w : World) (h : lst enS l v w) (hlen : l.length ≤ 1000000) (hs : ∀ x ∈ l, litEn x) :
    Calls Try.prog 50 #[v] w fun e w' => e = .returned (.bool (okLs okEn l)) ∧ K w w' := by
  obtain ⟨D, d, rfl, hl, -⟩ := h
  have HL := Lib.hid hl
  have HS := Lib.hid hs
  have HR : Hid (okLs okEn l = (decide (l.length ≤ 16) && l.all okEn)) := Lib.hid rfl
  generalize okLs okEn l = R at *
  have kk := K.rf w
  clear hl hs
  go_enter Try.func50, Try.ntmps50
  go_wp2_with fail
  go_loopw [3] (fun i wr => ∃ j : Nat, j ≤ l.length ∧ i = .int .i64 (j : Int) ∧ Hid ((l.take j).all okEn = true) ∧ K w wr) (fun i _ => l.length - (intOf i).toNat)
  case atStart => exact ⟨0, by omega, rfl, Lib.hid (by simp), kk⟩
  case round =>
    clear kk
    obtain ⟨j, hj, rfl, HA, kr⟩ := hrel
    by_cases hlt : j < l.length
    · have hji : (j : Int) < (l.length : Int) := by omega
      obtain ⟨b1, off, cs, rfl, hcl, hrl, d0, d⟩ := lsr_cells HL.out j hlt (by decide)
      have HB := Lib.hid (all_no okEn l j hlt)
      have HN := Lib.hid (all_take_ok okEn l j hlt HA.out)
      have hsx := HS.out _ (List.getElem_mem hlt)
      generalize l[j] = x at *
      obtain ⟨vf, ve, rfl, hf, he⟩ := hrl wr kr
      have d0 : wr.cell? ⟨b1, off + j * 8, none⟩ = some (.int .i64 x.kind) := d0 wr kr
      have d : ∀ i, i < 8 → wr.cell? ⟨b1, off + j * 8 + i, none⟩ = (entA x vf ve)[i]? := fun i hi => (d wr kr i hi).trans Array.getElem?_toList
      have C1 := Lib.hid (REChk_calls x (.agg (entA x vf ve)) wr ⟨vf, ve, rfl, hf, he⟩ hsx)
      obtain ⟨Af, cf, rfl⟩ := flt_slice hf
      obtain ⟨Ae, ce, rfl⟩ := lst_slice he
      clear hrl hcl hsx hf he
      go_wp2_with fail
      refine C1.out.mono ?_
      rintro e w2 ⟨rfl, k2⟩
      have kr2 := kr.tr k2
      clear C1 d0 d
      cases ho : okEn x
      · have hc : chkEn x = 110 := by simp [chkEn, ho]
        have HQ : Hid (R = false) := Lib.hid (by rw [HR.out, HB.out ho, Bool.and_false])
        rw [hc]
        go_wp2
        go_ret
        exact ⟨by rw [HQ.out]; rfl, kr2⟩
      · have hc : chkEn x = 0 := by simp [chkEn, ho]
        have HA2 := Lib.hid (HN.out ho)
        rw [hc]
        clear hc ho
        go_wp2
        go_roundw
        case rel => exact ⟨j + 1, by omega, by go_num, HA2, kr2⟩
        case measure => simp [intOf]; omega
    · have hji : ¬ (j : Int) < (l.length : Int) := by omega
      have h1 := HA.out
      rw [List.take_of_length_le (by omega)] at h1
      have HQ : Hid (R = decide ((l.length : Int) ≤ 16)) := Lib.hid (by rw [HR.out, h1, Bool.and_true, Bool.eq_iff_iff]; simp; omega)
      clear h1
      go_wp2
      go_ret
      exact ⟨by rw [HQ.out]; rfl, kr⟩

set_option maxHeartbeats 2000000 in
theorem R13Ids_calls (l : List Idn) (v : Value) (w : World) (h : lst idS l v w) (hlen : l.length ≤ 1000000) :
    Calls Try.prog 51 #[v] w fun e w' => e = .returned (.bool (okLs okId l)) ∧ K w w' := by
  obtain ⟨D, d, rfl, hl, -⟩ := h
  have HL := Lib.hid hl
  have HR : Hid (okLs okId l = (decide (l.length ≤ 16) && l.all okId)) := Lib.hid rfl
  generalize okLs okId l = R at *
  have kk := K.rf w
  clear hl
  go_enter Try.func51, Try.ntmps51
  go_wp2_with fail
  go_loopw [3] (fun i wr => ∃ j : Nat, j ≤ l.length ∧ i = .int .i64 (j : Int) ∧ Hid ((l.take j).all okId = true) ∧ K w wr) (fun i _ => l.length - (intOf i).toNat)
  case atStart => exact ⟨0, by omega, rfl, Lib.hid (by simp), kk⟩
  case round =>
    clear kk
    obtain ⟨j, hj, rfl, HA, kr⟩ := hrel
    by_cases hlt : j < l.length
    · have hji : (j : Int) < (l.length : Int) := by omega
      obtain ⟨b1, off, cs, rfl, hcl, hrl, d0, -⟩ := lsr_cells HL.out j hlt (by decide)
      have HB := Lib.hid (all_no okId l j hlt)
      have HN := Lib.hid (all_take_ok okId l j hlt HA.out)
      generalize l[j] = x at *
      obtain rfl := hrl wr kr
      have d0 : wr.cell? ⟨b1, off + j * 3, none⟩ = some (.int .i64 x.1) := d0 wr kr
      have HO : Hid (okId x = (decide (0 ≤ x.1) && decide (x.1 < 16))) := Lib.hid rfl
      clear hrl hcl
      by_cases h0 : x.1 < 0
      · have ho : okId x = false := by rw [HO.out]; simp; omega
        have HQ : Hid (R = false) := Lib.hid (by rw [HR.out, HB.out ho, Bool.and_false])
        clear ho
        go_wp2
        go_ret
        exact ⟨by rw [HQ.out]; rfl, kr⟩
      · by_cases h15 : 15 < x.1
        · have ho : okId x = false := by rw [HO.out]; simp; omega
          have HQ : Hid (R = false) := Lib.hid (by rw [HR.out, HB.out ho, Bool.and_false])
          clear ho
          go_wp2
          go_ret
          exact ⟨by rw [HQ.out]; rfl, kr⟩
        · have ho : okId x = true := by rw [HO.out]; simp; omega
          have HA2 := Lib.hid (HN.out ho)
          clear ho
          go_wp2
          go_roundw
          case rel => exact ⟨j + 1, by omega, by go_num, HA2, kr⟩
          case measure => simp [intOf]; omega
    · have hji : ¬ (j : Int) < (l.length : Int) := by omega
      have h1 := HA.out
      rw [List.take_of_length_le (by omega)] at h1
      have HQ : Hid (R = decide ((l.length : Int) ≤ 16)) := Lib.hid (by rw [HR.out, h1, Bool.and_true, Bool.eq_iff_iff]; simp; omega)
      clear h1
      go_wp2
      go_ret
      exact ⟨by rw [HQ.out]; rfl, kr⟩

theorem infoId3 : (Try.prog.info? 53).map (fun i => (i.zero, i.size, i.bytes)) = some (some (.agg #[.int .i64 0, .int .u64 0, .int .u64 0]), 3, 24) := by kernel_rfl
theorem TId3 : SliceT Try.prog 26 53 (.agg #[.int .i64 0, .int .u64 0, .int .u64 0]) 3 24 := ⟨Try.underlying26, infoId3, rfl, by decide⟩
set_option maxHeartbeats 4000000 in
theorem R13Voted_calls (l : List Vot) (v : Value) (w : World) (h : lst voS l v w) (hlen : l.length ≤ 1000000) :
    Calls Try.prog 52 #[v] w fun e w' => ∃ v', e = .returned v' ∧ lst idS (l.map (·.id)) v' w' ∧ K w w' := by
  obtain ⟨D, d, rfl, hl, -⟩ := h
  have HL := Lib.hid hl
  have kk := K.rf w
  have HO0 : Hid (OwnL w.heap.size 0 53 idS ((l.take 0).map (·.id)) (.slice none 0 0) w) := Lib.hid (by simpa using OwnL.nil _ _ _ _ _)
  clear hl
  go_enter Try.func52, Try.ntmps52
  go_wp2_with fail
  go_loopw [3, 4] (fun o i wr => ∃ j : Nat, j ≤ l.length ∧ i = .int .i64 (j : Int) ∧ Hid (OwnL w.heap.size 0 53 idS ((l.take j).map (·.id)) o wr) ∧ K w wr) (fun _ i _ => l.length - (intOf i).toNat)
  case atStart => exact ⟨0, by omega, rfl, HO0, kk⟩
  case round =>
    clear kk HO0
    obtain ⟨j, hj, rfl, HO, kr⟩ := hrel
    by_cases hlt : j < l.length
    · have hji : (j : Int) < (l.length : Int) := by omega
      obtain ⟨b1, off, cs, rfl, hcl, hrl, d0, d⟩ := lsr_cells HL.out j hlt (by decide)
      have HT : Hid ((l.take (j + 1)).map (·.id) = (l.take j).map (·.id) ++ [l[j].id]) := Lib.hid (by rw [List.take_succ_eq_append_getElem hlt, List.map_append]; rfl)
      have hlj : ((l.take j).map (·.id)).length ≤ 1000000 := by simp; omega
      generalize l[j] = x at *
      generalize (l.take j).map (·.id) = T at *
      obtain rfl := hrl wr kr
      have d0 : wr.cell? ⟨b1, off + j * 4, none⟩ = some (.int .i64 x.id.1) := d0 wr kr
      have d : ∀ i, i < 4 → wr.cell? ⟨b1, off + j * 4 + i, none⟩ = (voA x)[i]? := fun i hi => (d wr kr i hi).trans Array.getElem?_toList
      have hvc := HO.out.blk
      obtain ⟨css, hown, hcl2, hEa⟩ := HO.out
      have kA : K wr (wr.alloc (.cells #[.int .i64 x.id.1, .int .u64 (x.id.2.1 : Int), .int .u64 (x.id.2.2 : Int)] 53)) := (K.rf wr).al _
      have hbase2 : w.heap.size ≤ (wr.alloc (.cells #[.int .i64 x.id.1, .int .u64 (x.id.2.1 : Int), .int .u64 (x.id.2.2 : Int)] 53)).heap.size := Nat.le_trans kr.size kA.size
      clear hrl hcl HO hvc
      go_wp2_with (at_builtin; refine wpList_app rfl _ _ 26 rfl w.heap.size 53 _ 3 24 TId3 _ _ _ rfl (World.ownsRow.alloc hown _) (wr.heap.size + 1) _ 1 1 [.int .i64 x.id.1, .int .u64 (x.id.2.1 : Int), .int .u64 (x.id.2.2 : Int)] rfl ?c1 ?c2 ?c3 hbase2 ?_)
      case c1 => exact Reads.new wr [.int .i64 x.id.1, .int .u64 (x.id.2.1 : Int), .int .u64 (x.id.2.2 : Int)] 53 3 1 rfl
      case c2 => and_intros <;> rfl
      case c3 => omega
      intro v9 w9 hown9 hg9 hat9 hb9
      have k9 : K w w9 := (kr.tr kA).trans hb9
      have HO9 : Hid (OwnL w.heap.size 0 53 idS ((l.take (j + 1)).map (·.id)) v9 w9) := Lib.hid (by
        rw [HT.out]
        exact OwnL.snoc (S := idS) (lo := 0) hcl2 (fun w' u => hEa w' (UpB.tr (UpB.of_k kA _ _) u)) hown9 hg9 (by rw [World.size_alloc]; exact hat9) (fun w' u => rfl))
      clear hown9 hg9 hat9 hb9 hown hEa hbase2 kA d d0
      go_wp2
      go_roundw
      case rel => exact ⟨j + 1, by omega, by go_num, HO9, k9⟩
      case measure => simp [intOf]; omega
    · have hji : ¬ (j : Int) < (l.length : Int) := by omega
      rw [List.take_of_length_le (by omega)] at HO
      have HQ := Lib.hid HO.out.lst
      clear HO
      go_wp2
      go_ret
      exact ⟨_, rfl, HQ.out, kr⟩

theorem okVo_ids (l : List Vot) : okLs okId (l.map (·.id)) = okLs okVo l := by
  unfold okLs
  rw [List.length_map, List.all_map]
  rfl
end Go.Proofs.Ythnhdeieimgfhaa
