/-
  The walk of ids of the document's answer of layer 13's source, and how what is read of lists fits. Conditions: at most four thousand bytes.
-/
import Derived.Test.YthnhdeieimgfhaaDcF
import Derived.Test.YthnhdeieimgfhaaWiG
set_option maxRecDepth 100000
namespace Go.Proofs.Ythnhdeieimgfhaa
open Go Go.RowKit

section
variable {α : Type} {rd : Rd3 α} {l l1 lj lk : List UInt8} {ok ok1 okj okk : Bool} {x : α} {xs : List α}
theorem Stk.l3 (S : Stk rd) : ∀ k, Stk (rdL3 rd k)
  | 0 => fun l wr bd h1 h2 => ⟨h1, h2⟩
  | k + 1 => fun l wr bd h1 h2 => by
    simp only [rdL3] at h1 h2
    obtain ⟨e1, e2⟩ := S _ _ _ h1 h2
    exact Stk.l3 S k _ _ _ e1 e2
theorem l3_more (S : Stk rd) {j : Nat} (h : ((rdL3 rd j l false false).2.2.1 || (rdL3 rd j l false false).2.2.2) = true) : ∀ d, ((rdL3 rd (j + d) l false false).2.2.1 || (rdL3 rd (j + d) l false false).2.2.2) = true
  | 0 => h
  | d + 1 => by
    have := l3_more S h d
    rw [← Nat.add_assoc]
    simp only [rdL3]
    exact S.or _ _ _ this
theorem Fit.l3s (S : Stk rd) {j : Nat} (h : Fit (rdL3 rd j) l1 ok1 xs lj okj) (k : Fit rd lj okj x lk okk) : Fit (rdL3 rd (j + 1)) l1 ok1 (xs ++ [x]) lk okk := by
  rcases k with ⟨k1, k2, k3⟩ | ⟨k1, k2⟩
  · rcases h with ⟨h1, h2, h3⟩ | ⟨h1, h2⟩
    · exact .inl ⟨k1, h2, by simp only [rdL3, h3, k3]⟩
    · rw [h1] at k2; cases k2
  · refine .inr ⟨k1, ?_⟩
    rcases h with ⟨h1, h2, h3⟩ | ⟨h1, h2⟩
    · rcases k2 with k2 | k2
      · rw [h1] at k2; cases k2
      · exact .inr (by simp only [rdL3, h3]; exact k2)
    · exact h2.imp id fun h3 => by simp only [rdL3]; exact S.or _ _ _ h3
theorem Fit.l3up (S : Stk rd) {j n : Nat} (h : Fit (rdL3 rd j) l1 ok1 xs lj false) (hj : j ≤ n) : Fit (rdL3 rd n) l1 ok1 xs lj false := by
  rcases h with ⟨h1, -⟩ | ⟨-, h2⟩
  · cases h1
  · refine .inr ⟨rfl, h2.imp id fun h3 => ?_⟩
    have := l3_more S h3 (n - j)
    rwa [show j + (n - j) = n by omega] at this
theorem Fit.li (S : Stk rd) {n : Nat} (h : Fit (rdBe 17) l ok n l1 ok1) (k : Fit (rdL3 rd n) l1 ok1 xs lj okj) : Fit (rdLi rd) l ok xs lj okj := by
  rcases k with ⟨k1, k2, k3⟩ | ⟨k1, k2⟩
  · rcases h with ⟨h1, h2, h3⟩ | ⟨h1, h2⟩
    · exact .inl ⟨k1, h2, by simp only [rdLi, h3, k3]⟩
    · rw [h1] at k2; cases k2
  · refine .inr ⟨k1, ?_⟩
    rcases h with ⟨h1, h2, h3⟩ | ⟨h1, h2⟩
    · rcases k2 with k2 | k2
      · rw [h1] at k2; cases k2
      · exact .inr (by simp only [rdLi, h3]; exact k2)
    · exact h2.imp id fun h3 => by simp only [rdLi]; exact (S.l3 _).or _ _ _ h3
end
theorem upB_g {g lo : Nat} {W W' : World} (m : W.grownBy W' (some g)) (hg : g < lo) : UpB lo none W W' := (UpB.of_mut m lo).more (Nat.le_refl _) (fun k hk _ => by simp; omega)

/-- What a call tells that reads a list from a source. -/
def SL {α : Type} (S : Shp α) (R : Rd3 (List α)) (g : Nat) (l : List UInt8) (ok : Bool) (w : World) (e : Ending) (w' : World) : Prop :=
  ∃ v xs l' ok', e = .returned v ∧ lstW S w.heap.size xs v w' ∧ Sr g l' ok' w' ∧ w.grownBy w' (some g) ∧ Fit R l ok xs l' ok'

set_option maxHeartbeats 4000000 in
theorem SIds_calls (g : Nat) (l : List UInt8) (ok : Bool) (w : World) (h : Sr g l ok w) :
    Calls Try.prog 66 #[.pointer (some ⟨g, 0, none⟩)] w fun e w' => SL idS (rdLi rdId3) g l ok w e w' := by
  have hgw := h.lt
  have S : Hid (Stk rdId3) := Lib.hid (Stk.of rdId3_codec)
  go_enter Try.func66, Try.ntmps66
  go_wp2_with fail
  refine (SCount_calls g l ok w h).mono ?_
  rintro e w1 ⟨n, l1, ok1, rfl, h1, m1, hn16, hf⟩
  have HF := Lib.hid hf
  clear hf h
  go_wp2_with fail
  go_loopw [3, 5] (fun o i W => ∃ j : Nat, j ≤ n ∧ i = .int .i64 (j : Int) ∧ ∃ xs lj okj, Hid (Sr g lj okj W) ∧ Hid (xs.length = j) ∧ Hid (OwnL w.heap.size w.heap.size 53 idS xs o W) ∧ w.grownBy W (some g) ∧ Hid (Fit (rdL3 rdId3 j) l1 ok1 xs lj okj)) (fun _ i _ => n - (intOf i).toNat)
  case atStart =>
    refine ⟨0, by omega, rfl, [], l1, ok1, Lib.hid h1, Lib.hid rfl, Lib.hid (OwnL.nil _ _ _ _ _), m1, Lib.hid ?_⟩
    cases ok1
    · exact .inr ⟨rfl, .inl rfl⟩
    · exact .inl ⟨rfl, rfl, rfl⟩
  case round =>
    clear h1 m1
    obtain ⟨j, hj, rfl, xs, lj, okj, HS, hxl, HO, mj, HFj⟩ := hrel
    have hzj := mj.size
    have hx16 : xs.length ≤ 16 := by have := hxl.out; omega
    obtain ⟨A, c, hx, -, -, -⟩ := HS.out
    have q := hx.cell
    have z := hx.frozen
    clear hx
    by_cases hlt : j < n
    · have hji : (j : Int) < (n : Int) := by omega
      cases okj
      · have HFE := Lib.hid (Fit.li S.out HF.out (Fit.l3up S.out HFj.out hj))
        have HL : Hid (∀ W', W' = wr → lstW idS w.heap.size xs u3 W') := Lib.hid fun W' e W'' u => by
          subst e
          exact (HO.out.up (Nat.le_refl _) (u.upB (lo := w.heap.size) (row := none) (fun k h1 _ _ hx => by omega))).lst
        go_wp2
        go_ret
        unfold SL; exact ⟨_, xs, lj, false, rfl, HL.out _ rfl, HS.out, mj, HFE.out⟩
      · go_wp2_with fail
        clear q z
        refine (SId_calls g lj true wr HS.out).mono ?_
        rintro e w4 ⟨a, lk, okk, rfl, h4, m4, hf4⟩
        have HS4 := Lib.hid h4
        have HF4 := Lib.hid (Fit.l3s S.out HFj.out hf4)
        have m5 := mut_trans mj m4
        have hO4 := HO.out.up (Nat.le_refl _) (upB_g m4 hgw)
        have hvc := HO.out.blk
        have hz4 := m4.size
        obtain ⟨css, hown, hcl, hEa⟩ := hO4
        have kA : K w4 (w4.alloc (.cells (idA a) 53)) := (K.rf w4).al _
        have hbase : w.heap.size ≤ (w4.alloc (.cells (idA a) 53)).heap.size := by have := kA.size; omega
        clear HO HS HFj h4 hf4 m4 mj
        go_wp2_with (at_builtin; refine wpList_app rfl _ _ 26 rfl w.heap.size 53 _ 3 24 TID _ _ _ rfl (World.ownsRow.alloc hown _) (w4.heap.size + 1) _ 1 1 (idA a).toList rfl ?c1 ?c2 ?c3 hbase ?_)
        case c1 => exact Reads.new w4 (idA a).toList 53 3 1 rfl
        case c2 => and_intros <;> rfl
        case c3 => omega
        intro v9 w9 hown9 hg9 hat9 hb9
        have hbel : Below w.heap.size (w4.alloc (.cells (idA a) 53)) w9 := hb9
        have HS9 : Hid (Sr g lk okk w9) := Lib.hid ((HS4.out.st kA).far (hbel.mono (by omega)))
        have m9 : w.grownBy w9 (some g) := by
          have m6 : w.grownBy (w4.alloc (.cells (idA a) 53)) (some g) := mut_alloc m5 _
          exact ⟨hbel.os.trans m6.os, hbel.tape.trans m6.tape, hbel.output.trans m6.output, Nat.le_trans m6.size hbel.size, fun k hk hx => (hbel.block k hk).trans (m6.block k hk hx)⟩
        have HO9 : Hid (OwnL w.heap.size w.heap.size 53 idS (xs ++ [a]) v9 w9) := Lib.hid (OwnL.snoc (cs := (idA a).toList) hcl (fun w' u => hEa w' (UpB.tr (UpB.of_k kA _ _) u)) hown9 hg9 (by rw [World.size_alloc]; exact hat9) (fun w' u => rfl))
        clear hown9 hg9 hat9 hb9 hown hEa m5 kA hbel HS4
        go_wp2
        go_roundw
        case rel => exact ⟨j + 1, by omega, by go_num, xs ++ [a], lk, okk, HS9, Lib.hid (by have := hxl.out; simp [this]), HO9, m9, HF4⟩
        case measure => simp [intOf]; omega
    · have hji : ¬ (j : Int) < (n : Int) := by omega
      obtain rfl : j = n := by omega
      have HFE := Lib.hid (Fit.li S.out HF.out HFj.out)
      have HL : Hid (∀ W', W' = wr → lstW idS w.heap.size xs u3 W') := Lib.hid fun W' e W'' u => by
        subst e
        exact (HO.out.up (Nat.le_refl _) (u.upB (lo := w.heap.size) (row := none) (fun k h1 _ _ hx => by omega))).lst
      go_wp2
      go_ret
      unfold SL; exact ⟨_, xs, lj, okj, rfl, HL.out _ rfl, HS.out, mj, HFE.out⟩
end Go.Proofs.Ythnhdeieimgfhaa
