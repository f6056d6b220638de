/-
  The walks of events and Check of the document's answer of layer 11. Conditions: the loads are of a bounded size.
-/
import Derived.Test.YthnhdeieimgfhaaNA
import Derived.Test.YthnhdeieimgfhaaLstB
import Derived.Test.YthnhdeieimgfhaaRevC
import Derived.Test.YthnhdeieimgfhaaRfC
set_option maxRecDepth 100000
namespace Go.Proofs.Ythnhdeieimgfhaa
open Go Go.RowKit

/-- Loads whose texts are of a bounded size. -/
def litE (e : List Att) : Prop := e.length ≤ 1000000 ∧ ∀ x ∈ e, x.1.size ≤ 1000000000
def litEn (x : Ent) : Prop := x.f.length ≤ 1000000 ∧ (∀ t ∈ x.f, t.1.size ≤ 1000000000) ∧ x.es.length ≤ 1000000 ∧ ∀ e ∈ x.es, litE e
theorem all_take_ok {α : Type} (p : α → Bool) (l : List α) (j : Nat) (hj : j < l.length) (h : (l.take j).all p = true) (h1 : p l[j] = true) : (l.take (j + 1)).all p = true := by
  rw [List.take_succ_eq_append_getElem hj, List.all_append, h]; simp [h1]
theorem all_no {α : Type} (p : α → Bool) (l : List α) (j : Nat) (hj : j < l.length) (h1 : p l[j] = false) : l.all p = false := by
  rw [List.all_eq_false]
  exact ⟨l[j], List.getElem_mem hj, by simp [h1]⟩

set_option maxHeartbeats 2000000 in
theorem REvents_calls (l : List (List Att)) (v : Value) (w : World) (h : lst evS l v w) (hlen : l.length ≤ 1000000) (hs : ∀ e ∈ l, litE e) :
    Calls Try.prog 121 #[v] w fun e w' => e = .returned (.bool (l.all okE && decide (l.length ≤ 8))) ∧ K w w' := by
  obtain ⟨D, d, rfl, hl, -⟩ := h
  have HL := Lib.hid hl
  have HS := Lib.hid hs
  generalize hR : (l.all okE && decide (l.length ≤ 8)) = R
  have HR := Lib.hid hR
  have kk := K.rf w
  clear hl hs hR
  go_enter Try.func121, Try.ntmps121
  go_wp2_with fail
  go_loopw [3] (fun i wr => ∃ j : Nat, j ≤ l.length ∧ i = .int .i64 (j : Int) ∧ Hid ((l.take j).all okE = true) ∧ K w wr) (fun i _ => l.length - (intOf i).toNat)
  case atStart => exact ⟨0, by omega, rfl, Lib.hid (by simp), kk⟩
  case round =>
    clear kk
    obtain ⟨j, hj, rfl, HA, kr⟩ := hrel
    by_cases hlt : j < l.length
    · have hji : (j : Int) < (l.length : Int) := by omega
      obtain ⟨b1, off, cs, rfl, hcl, hrl, d0, -⟩ := lsr_cells HL.out j hlt (by decide)
      have HB := Lib.hid (all_no okE l j hlt)
      have HN := Lib.hid (all_take_ok okE l j hlt HA.out)
      obtain ⟨hs1, hs2⟩ := HS.out _ (List.getElem_mem hlt)
      generalize l[j] = ej at *
      obtain ⟨ve, rfl, hev⟩ := hrl wr kr
      have d0 : wr.cell? ⟨b1, off + j, none⟩ = some ve := by
        have := d0 wr kr
        simpa [evS] using this
      obtain ⟨Ae, ce, rfl, hRe⟩ := hev
      have C1 := Lib.hid (RefECheck_calls Ae ce ej wr _ hRe (Nat.le_refl _) hs1 hs2)
      clear hrl hcl hs1 hs2 hRe
      go_wp2_with fail
      refine C1.out.mono ?_
      rintro e w2 ⟨rfl, k2⟩
      have kr2 := kr.tr k2
      clear C1 d0
      cases ho : okE ej
      · have hc : chkE ej = 40 := by simp [chkE, ho]
        have HQ : Hid (R = false) := Lib.hid (by rw [← HR.out, HB.out ho]; rfl)
        rw [hc]
        go_wp2
        go_ret
        exact ⟨by rw [HQ.out]; rfl, kr2⟩
      · have hc : chkE ej = 0 := by simp [chkE, ho]
        have HA2 := Lib.hid (HN.out ho)
        rw [hc]
        clear hc ho
        go_wp2
        go_roundw
        case rel => exact ⟨j + 1, by omega, by go_num, HA2, kr2⟩
        case measure => simp [intOf]; omega
    · have hji : ¬ (j : Int) < (l.length : Int) := by omega
      have h1 := HA.out
      rw [List.take_of_length_le (by omega)] at h1
      have HQ : Hid (R = decide ((l.length : Int) ≤ 8)) := Lib.hid (by rw [← HR.out, h1, Bool.true_and, Bool.eq_iff_iff]; simp; omega)
      clear h1
      go_wp2
      go_ret
      exact ⟨by rw [HQ.out]; rfl, kr⟩
end Go.Proofs.Ythnhdeieimgfhaa
