/-
  The walk of votes of the document's answer of layer 13's source. Conditions: at most four thousand bytes.
-/
import Derived.Test.YthnhdeieimgfhaaDcG
set_option maxRecDepth 100000
namespace Go.Proofs.Ythnhdeieimgfhaa
open Go Go.RowKit

theorem Sr.setok {g : Nat} {l : List UInt8} {ok : Bool} {W : World} (h : Sr g l ok W) (b : Bool) : Sr g l b (W.setCell ⟨g, 1, none⟩ (.bool b)) := by
  obtain ⟨A, c, hx, hR, h1, h2⟩ := h
  exact ⟨A, c, hx.set_ 1 (.bool b), hR.below (Below.setCell (Below.refl _ _) (by simp) _) (Nat.le_refl _), h1, h2⟩

set_option maxHeartbeats 4000000 in
theorem SVotes_calls (g : Nat) (l : List UInt8) (ok : Bool) (w : World) (h : Sr g l ok w) :
    Calls Try.prog 64 #[.pointer (some ⟨g, 0, none⟩)] w fun e w' => SL voS (rdLi rdVo) g l ok w e w' := by
  have hgw := h.lt
  have S : Hid (Stk rdVo) := Lib.hid (Stk.of rdVo_codec)
  go_enter Try.func64, Try.ntmps64
  go_wp2_with fail
  refine (SCount_calls g l ok w h).mono ?_
  rintro e w1 ⟨n, l1, ok1, rfl, h1, m1, hn16, hf⟩
  have HF := Lib.hid hf
  clear hf h
  go_wp2_with fail
  go_loopw [3, 5] (fun o i W => ∃ j : Nat, j ≤ n ∧ i = .int .i64 (j : Int) ∧ ∃ xs lj okj, Hid (Sr g lj okj W) ∧ Hid (xs.length = j) ∧ Hid (OwnL w.heap.size w.heap.size 71 voS xs o W) ∧ w.grownBy W (some g) ∧ Hid (Fit (rdL3 rdVo j) l1 ok1 xs lj okj)) (fun _ i _ => n - (intOf i).toNat)
  case atStart =>
    refine ⟨0, by omega, rfl, [], l1, ok1, Lib.hid h1, Lib.hid rfl, Lib.hid (OwnL.nil _ _ _ _ _), m1, Lib.hid ?_⟩
    cases ok1
    · exact .inr ⟨rfl, .inl rfl⟩
    · exact .inl ⟨rfl, rfl, rfl⟩
  case round =>
    clear h1 m1
    obtain ⟨j, hj, rfl, xs, lj, okj, HS, hxl, HO, mj, HFj⟩ := hrel
    have hzj := mj.size
    have hx16 : xs.length ≤ 16 := by have := hxl.out; omega
    obtain ⟨A, c, hx, -, -, -⟩ := HS.out
    have q := hx.cell
    have z := hx.frozen
    clear hx
    by_cases hlt : j < n
    · have hji : (j : Int) < (n : Int) := by omega
      cases okj
      · have HFE := Lib.hid (Fit.li S.out HF.out (Fit.l3up S.out HFj.out hj))
        have HL : Hid (∀ W', W' = wr → lstW voS w.heap.size xs u3 W') := Lib.hid fun W' e W'' u => by
          subst e
          exact (HO.out.up (Nat.le_refl _) (u.upB (lo := w.heap.size) (row := none) (fun k h1 _ _ hx => by omega))).lst
        go_wp2
        go_ret
        unfold SL; exact ⟨_, xs, lj, false, rfl, HL.out _ rfl, HS.out, mj, HFE.out⟩
      · go_wp2_with fail
        clear q z
        refine (SId_calls g lj true wr HS.out).mono ?_
        rintro e w4 ⟨a, lk, okk, rfl, h4, m4, hf4⟩
        have HF4 := Lib.hid hf4
        have hO4 := HO.out.up (Nat.le_refl _) (upB_g m4 hgw)
        have m5 := mut_trans mj m4
        have hz4 := m4.size
        have hv4 := hO4.blk
        have kA : K w4 (w4.alloc (.cells (idA a) 53)) := (K.rf w4).al _
        have h5 := h4.st kA
        have hO5 := hO4.st kA
        have m6 : w.grownBy (w4.alloc (.cells (idA a) 53)) (some g) := mut_alloc m5 _
        have hxi := Blk.new w4 53 (idA a)
        have hgb : g < w4.heap.size := by omega
        clear HO HS h4 hf4 m4 mj hO4 m5 kA
        go_wp2_with fail
        generalize w4.alloc _ = w5 at *
        generalize w4.heap.size = gi at *
        refine (SNum_calls g lk okk w5 h5).mono ?_
        rintro e w6 ⟨y, l6, ok6, rfl, h6, m7, hy64, hf6⟩
        have HBE := Lib.hid (hf6.be 2)
        have hO6 := hO5.up (Nat.le_refl _) (upB_g m7 hgw)
        have m8 := mut_trans m6 m7
        have hx6 := hxi.grown m7 (by simp; omega)
        have hz7 := m7.size
        clear h5 hO5 m6 m7 hf6 hxi
        go_upto_region 8 with (fail)
        obtain ⟨ok7, hok7⟩ : ∃ b, b = (ok6 && decide (y ≤ 1)) := ⟨_, rfl⟩
        have HE2 : Hid (Fit (rdBe 2) lk okk y l6 ok7) := Lib.hid (by
          by_cases hy : y < 2
          · have e : ok7 = ok6 := by rw [hok7, show decide (y ≤ 1) = true by simp; omega, Bool.and_true]
            rw [e]; exact HBE.out.1 hy
          · have e : ok7 = false := by rw [hok7, show decide (y ≤ 1) = false by simp; omega, Bool.and_false]
            rw [e]; exact HBE.out.2 hy y)
        have HOK := Lib.hid hok7
        have hs7 : Sr g l6 ok7 (w6.setCell ⟨g, 1, none⟩ (.bool ok7)) := Sr.setok h6 ok7
        have m9 : w.grownBy (w6.setCell ⟨g, 1, none⟩ (.bool ok7)) (some g) := mut_set m8 rfl _
        have hO7 := hO6.up (Nat.le_refl _) (UpB.set (lo := w.heap.size) (W := w6) hgw 1 (.bool ok7))
        have hx7 : Blk (w6.setCell ⟨g, 1, none⟩ (.bool ok7)) gi 53 (idA a) := hx6.far (by simp; omega) _
        clear HBE hok7 m8 hO6 hx6
        obtain ⟨A6, c6, hxg, -, -, -⟩ := h6
        have q := hxg.cell
        have z := hxg.frozen
        clear hxg
        go_cut [7] from 25 to 35 (fun v W => v = .int .u64 (y : Int) ∧ w6.setCell ⟨g, 1, none⟩ (.bool ok7) = W)
        case first =>
          clear hs7 m9 hO7 hx7
          cases ok6
          · have HOK : Hid (ok7 = false) := Lib.hid HOK.out
            go_wp2
            go_meet
            case rel => exact ⟨rfl, by rw [HOK.out]⟩
          · by_cases hy : y ≤ 1
            · have hyi : (y : Int) ≤ 1 := by omega
              have HOK : Hid (ok7 = true) := Lib.hid (by rw [HOK.out]; simp [hy])
              go_wp2
              go_meet
              case rel => exact ⟨rfl, by rw [HOK.out]⟩
            · have hyi : ¬ (y : Int) ≤ 1 := by omega
              have HOK : Hid (ok7 = false) := Lib.hid (by rw [HOK.out]; simp; omega)
              go_wp2
              go_meet
              case rel => exact ⟨rfl, by rw [HOK.out]⟩
        case rest =>
        obtain ⟨rfl, rfl⟩ := hcut
        clear q z
        obtain ⟨yb, hyb⟩ : ∃ b, b = decide (y = 1) := ⟨_, rfl⟩
        have HYB := Lib.hid hyb
        have hy2 : ((y : Int) == 1) = yb := by rw [hyb, Bool.eq_iff_iff]; simp; omega
        clear hyb HOK
        have HF5 : Hid (Fit (rdL3 rdVo (j + 1)) l1 ok1 (xs ++ [(⟨a, yb⟩ : Vot)]) l6 ok7) := Lib.hid (Fit.l3s S.out HFj.out (by
          have := Fit.map (fun x : Idn × Nat => (⟨x.1, decide (x.2 = 1)⟩ : Vot)) (HF4.out.two (Stk.of (rdBe_codec 2 (by decide))) HE2.out)
          rw [HYB.out]; exact this))
        clear HF4 HE2 HYB HFj
        generalize w6.setCell _ _ = w7 at *
        have hvc := hO7.blk
        have hz7 := m9.size
        obtain ⟨css, hown, hcl, hEa⟩ := hO7
        have kA : K w7 (w7.alloc (.cells (voA ⟨a, yb⟩) 71)) := (K.rf w7).al _
        have hbase : w.heap.size ≤ (w7.alloc (.cells (voA ⟨a, yb⟩) 71)).heap.size := by have := kA.size; omega
        have q := hx7.cell
        go_wp2_with (at_builtin; refine wpList_app rfl _ _ 24 rfl w.heap.size 71 _ 4 32 TVote _ _ _ rfl (World.ownsRow.alloc hown _) (w7.heap.size + 1) _ 1 1 (voA ⟨a, yb⟩).toList rfl ?c1 ?c2 ?c3 hbase ?_)
        case c1 => exact Reads.new w7 (voA ⟨a, yb⟩).toList 71 4 1 rfl
        case c2 => and_intros <;> rfl
        case c3 => omega
        intro v9 w9 hown9 hg9 hat9 hb9
        have hbel : Below w.heap.size (w7.alloc (.cells (voA ⟨a, yb⟩) 71)) w9 := hb9
        have HS9 : Hid (Sr g l6 ok7 w9) := Lib.hid ((hs7.st kA).far (hbel.mono (by omega)))
        have m10 : w.grownBy w9 (some g) := by
          have m6 : w.grownBy (w7.alloc (.cells (voA ⟨a, yb⟩) 71)) (some g) := mut_alloc m9 _
          exact ⟨hbel.os.trans m6.os, hbel.tape.trans m6.tape, hbel.output.trans m6.output, Nat.le_trans m6.size hbel.size, fun k hk hx => (hbel.block k hk).trans (m6.block k hk hx)⟩
        have HO9 : Hid (OwnL w.heap.size w.heap.size 71 voS (xs ++ [⟨a, yb⟩]) v9 w9) := Lib.hid (OwnL.snoc (cs := (voA ⟨a, yb⟩).toList) hcl (fun w' u => hEa w' (UpB.tr (UpB.of_k kA _ _) u)) hown9 hg9 (by rw [World.size_alloc]; exact hat9) (fun w' u => rfl))
        clear hown9 hg9 hat9 hb9 hown hEa m9 kA hbel hs7 hx7 q
        go_wp2
        go_roundw
        case rel => exact ⟨j + 1, by omega, by go_num, xs ++ [⟨a, yb⟩], l6, ok7, HS9, Lib.hid (by have := hxl.out; simp [this]), HO9, m10, HF5⟩
        case measure => simp [intOf]; omega
    · have hji : ¬ (j : Int) < (n : Int) := by omega
      obtain rfl : j = n := by omega
      have HFE := Lib.hid (Fit.li S.out HF.out HFj.out)
      have HL : Hid (∀ W', W' = wr → lstW voS w.heap.size xs u3 W') := Lib.hid fun W' e W'' u => by
        subst e
        exact (HO.out.up (Nat.le_refl _) (u.upB (lo := w.heap.size) (row := none) (fun k h1 _ _ hx => by omega))).lst
      go_wp2
      go_ret
      unfold SL; exact ⟨_, xs, lj, okj, rfl, HL.out _ rfl, HS.out, mj, HFE.out⟩
end Go.Proofs.Ythnhdeieimgfhaa
