/-
  The walks of number, count and id of the document's answer of layer 13's source. Conditions: at most four thousand bytes.
-/
import Derived.Test.YthnhdeieimgfhaaDcD
import Derived.Test.YthnhdeieimgfhaaWiA
set_option maxRecDepth 100000
namespace Go.Proofs.Ythnhdeieimgfhaa
open Go Go.RowKit

/-- A source in memory: its bytes lie below it. -/
def Sr (g : Nat) (l : List UInt8) (ok : Bool) (W : World) : Prop := ∃ A c, Blk W g 105 #[.slice A l.length c, .bool ok] ∧ Reads W g 1 A l.length (bys l) ∧ l.length ≤ c ∧ l.length ≤ 4000
/-- What was read from a source fits what a reader reads: well, or both are bad. -/
def Fit {α : Type} (R : Rd3 α) (l : List UInt8) (ok : Bool) (x : α) (l' : List UInt8) (ok' : Bool) : Prop :=
  (ok' = true ∧ ok = true ∧ R l false false = (x, l', false, false)) ∨ (ok' = false ∧ (ok = false ∨ ((R l false false).2.2.1 || (R l false false).2.2.2) = true))
theorem Sr.lt {g : Nat} {l : List UInt8} {ok : Bool} {W : World} (h : Sr g l ok W) : g < W.heap.size := by obtain ⟨A, c, hx, -⟩ := h; exact hx.lt
theorem Sr.far {g : Nat} {l : List UInt8} {ok : Bool} {W W' : World} (h : Sr g l ok W) (k : Below (g + 1) W W') : Sr g l ok W' := by
  obtain ⟨A, c, hx, hR, h1, h2⟩ := h
  exact ⟨A, c, hx.below k (by omega), hR.below (k.mono (by omega)) (Nat.le_refl _), h1, h2⟩
theorem Sr.st {g : Nat} {l : List UInt8} {ok : Bool} {W W' : World} (h : Sr g l ok W) (k : K W W') : Sr g l ok W' := h.far (k.mono h.lt)
theorem Sr.bad {g : Nat} {l : List UInt8} {ok : Bool} {W : World} (h : Sr g l ok W) : Sr g l false (W.setCell ⟨g, 1, none⟩ (.bool false)) := by
  obtain ⟨A, c, hx, hR, h1, h2⟩ := h
  exact ⟨A, c, hx.set_ 1 (.bool false), hR.below (Below.setCell (Below.refl _ _) (by simp) _) (Nat.le_refl _), h1, h2⟩

set_option maxHeartbeats 4000000 in
theorem SNum_calls (g : Nat) (l : List UInt8) (ok : Bool) (w : World) (h : Sr g l ok w) :
    Calls Try.prog 63 #[.pointer (some ⟨g, 0, none⟩)] w fun e w' => ∃ n l' ok', e = .returned (.int .u64 ((n : Nat) : Int)) ∧ Sr g l' ok' w' ∧ w.grownBy w' (some g) ∧ n < 18446744073709551616 ∧ Fit rdNu l ok n l' ok' := by
  obtain ⟨A, c, hx, hR, hc, hl⟩ := h
  have hgz := hx.lt
  have CG := Lib.hid (Get_calls A l.length c l w g hR (by omega) (by omega) hc)
  have HBK := Lib.hid (@getK_bad l)
  have HGK := Lib.hid (@getK_good l)
  have hK := getK_le l
  have hlt64 := rdN_lt l false
  have HFB : Hid (getK l = 0 → Fit rdNu l ok 0 [] false) := Lib.hid fun hk => .inr ⟨rfl, .inr (by simp [rdNu, getK_bad hk])⟩
  have HFG : Hid (getK l ≠ 0 → Fit rdNu l ok (rdN l false).1 (l.drop (getK l)) ok) := Lib.hid fun hk => by
    have hg := getK_good hk
    cases ok
    · exact .inr ⟨rfl, .inl rfl⟩
    · exact .inl ⟨rfl, rfl, by
        have h1 : (rdN l false).2 = (l.drop (getK l), false) := by rw [hg]
        simp only [rdNu, h1]⟩
  have q := hx.cell
  go_enter Try.func63, Try.ntmps63
  go_wp2_with fail
  clear q
  refine CG.out.mono ?_
  rintro e w1 ⟨rfl, k1⟩
  have hx1 := hx.below k1 hgz
  have hR1 := hR.below k1 (by omega)
  have m1 := mut_of_below k1 (some g)
  have hg1 := hx1.lt
  clear CG hx hR k1
  have q := hx1.cell
  have z := hx1.frozen
  by_cases hk : getK l = 0
  · have hki : ((getK l : Int) == 0) = true := by simp [hk]
    have HF := Lib.hid (HFB.out hk)
    clear hk HFG HFB HGK HBK
    generalize (rdN l false).1 = x at *
    generalize getK l = K1 at *
    go_wp2
    go_ret
    exact ⟨0, [], false, rfl, ⟨none, 0, (hx1.set_ 1 (.bool false)).set_ 0 (.slice none 0 0), Reads.nil _ _ _ _, Nat.le_refl _, by simp⟩, mut_set (mut_set m1 rfl _) rfl _, by decide, HF.out⟩
  · have hki : ((getK l : Int) == 0) = false := by simp [hk]
    have HF := Lib.hid (HFG.out hk)
    have hRp := hR1.post (A' := if c = getK l then A else A.map (·.add (getK l))) (getK l) (by intro h; rw [if_neg (by omega)])
    have HFIN : Hid (∀ A' c', A' = (if c = getK l then A else A.map (·.add (getK l))) → c' = c - getK l → Sr g (l.drop (getK l)) ok (w1.setCell ⟨g, 0, none⟩ (.slice A' (l.length - getK l) c'))) := Lib.hid fun A' c' h1 h2 => by
      have e : (l.drop (getK l)).length = l.length - getK l := by simp
      refine ⟨A', c', ?_, ?_, by rw [e]; omega, by rw [e]; omega⟩
      · rw [e]; exact hx1.set_ 0 _
      · rw [e, h1]; exact hRp.below (Below.setCell (Below.refl _ _) (by simp) _) (Nat.le_refl _)
    clear hk HFG HFB HGK HBK hRp
    generalize l.drop (getK l) = l1 at *
    generalize (rdN l false).1 = x at *
    generalize getK l = K1 at *
    by_cases hcK : c = K1
    all_goals
      go_wp2
      go_ret
      exact ⟨x, l1, ok, rfl, HFIN.out _ _ (by first | rw [if_pos hcK] | rw [if_neg hcK]) (by omega), mut_set m1 rfl _, hlt64, HF.out⟩

set_option maxHeartbeats 4000000 in
theorem SCount_calls (g : Nat) (l : List UInt8) (ok : Bool) (w : World) (h : Sr g l ok w) :
    Calls Try.prog 91 #[.pointer (some ⟨g, 0, none⟩)] w fun e w' => ∃ n l' ok', e = .returned (.int .i64 ((n : Nat) : Int)) ∧ Sr g l' ok' w' ∧ w.grownBy w' (some g) ∧ n ≤ 16 ∧ Fit (rdBe 17) l ok n l' ok' := by
  go_enter Try.func91, Try.ntmps91
  go_wp2_with fail
  refine (SNum_calls g l ok w h).mono ?_
  rintro e w1 ⟨n, l1, ok1, rfl, hs, m1, hn, hf⟩
  have HF := Lib.hid hf
  have HS := Lib.hid hs
  obtain ⟨A, c, hx, hR, hc, hl⟩ := hs
  have q := hx.cell
  have z := hx.frozen
  clear hf hR h
  by_cases h16 : n ≤ 16
  · have h1 : ¬ (16 : Int) < (n : Int) := by omega
    go_wp2
    go_ret
    refine ⟨n, l1, ok1, rfl, HS.out, m1, h16, ?_⟩
    rcases HF.out with ⟨h1, h2, h3⟩ | ⟨h1, h2⟩
    · refine .inl ⟨h1, h2, ?_⟩
      simp only [rdNu, Prod.mk.injEq] at h3
      obtain ⟨e1, e2, e3, -⟩ := h3
      simp only [rdBe, e1, e2, e3]
      rw [if_pos (by omega)]
    · refine .inr ⟨h1, h2.imp id fun h3 => ?_⟩
      simp only [rdNu, Bool.or_false] at h3
      simp only [rdBe]
      split <;> simp [h3]
  · have h1 : (16 : Int) < (n : Int) := by omega
    have HB := Lib.hid (Sr.bad HS.out)
    go_wp2
    go_ret
    refine ⟨0, l1, false, rfl, HB.out, mut_set m1 rfl _, by omega, .inr ⟨rfl, ?_⟩⟩
    rcases HF.out with ⟨h1, h2, h3⟩ | ⟨h1, h2⟩
    · simp only [rdNu, Prod.mk.injEq] at h3
      obtain ⟨e1, e2, e3, -⟩ := h3
      refine .inr ?_
      simp only [rdBe, e1]
      rw [if_neg (by omega)]
      simp
    · refine h2.imp id fun h3 => ?_
      simp only [rdNu, Bool.or_false] at h3
      simp only [rdBe]
      split <;> simp [h3]
end Go.Proofs.Ythnhdeieimgfhaa
