/-
  The walk of id of the document's answer of layer 13's source. Conditions: at most four thousand bytes.
-/
import Derived.Test.YthnhdeieimgfhaaDcE
import Derived.Test.YthnhdeieimgfhaaWiE
set_option maxRecDepth 100000
namespace Go.Proofs.Ythnhdeieimgfhaa
open Go Go.RowKit

/-- A reader to which what is bad stays bad. -/
def Stk {α : Type} (R : Rd3 α) : Prop := ∀ l wr bd, (R l wr bd).2.2.1 = false → (R l wr bd).2.2.2 = false → wr = false ∧ bd = false
section
variable {α β : Type} {a : Rd3 α} {b : Rd3 β} {l l1 l2 : List UInt8} {ok ok1 ok2 : Bool} {x : α} {y : β}
theorem Stk.of {enc : α → List UInt8} {okp : α → Prop} (C : Cod3 enc okp a) : Stk a := fun l wr bd h1 h2 => (C.back l wr bd h1 h2).2
theorem Stk.or (S : Stk a) (l : List UInt8) (wr bd : Bool) (h : (wr || bd) = true) : ((a l wr bd).2.2.1 || (a l wr bd).2.2.2) = true := by
  cases h1 : (a l wr bd).2.2.1
  · cases h2 : (a l wr bd).2.2.2
    · obtain ⟨e1, e2⟩ := S l wr bd h1 h2
      subst e1 e2
      cases h
    · rfl
  · rfl
theorem Fit.two (S : Stk b) (h : Fit a l ok x l1 ok1) (k : Fit b l1 ok1 y l2 ok2) : Fit (rdTwo a b) l ok (x, y) l2 ok2 := by
  rcases k with ⟨k1, k2, k3⟩ | ⟨k1, k2⟩
  · rcases h with ⟨h1, h2, h3⟩ | ⟨h1, h2⟩
    · exact .inl ⟨k1, h2, by simp only [rdTwo, h3, k3]⟩
    · rw [h1] at k2; cases k2
  · refine .inr ⟨k1, ?_⟩
    rcases h with ⟨h1, h2, h3⟩ | ⟨h1, h2⟩
    · rcases k2 with k2 | k2
      · rw [h1] at k2; cases k2
      · exact .inr (by simp only [rdTwo, h3]; exact k2)
    · exact h2.imp id fun h3 => S.or _ _ _ h3
theorem Fit.map (f : α → β) (h : Fit a l ok x l1 ok1) : Fit (rdMap f a) l ok (f x) l1 ok1 := by
  rcases h with ⟨h1, h2, h3⟩ | ⟨h1, h2⟩
  · exact .inl ⟨h1, h2, by simp only [rdMap, h3]⟩
  · exact .inr ⟨h1, h2⟩
theorem Fit.be {n : Nat} (lim : Nat) (h : Fit rdNu l ok n l1 ok1) : (n < lim → Fit (rdBe lim) l ok n l1 ok1) ∧ (¬ n < lim → ∀ y, Fit (rdBe lim) l ok y l1 false) := by
  rcases h with ⟨h1, h2, h3⟩ | ⟨h1, h2⟩
  · simp only [rdNu, Prod.mk.injEq] at h3
    obtain ⟨e1, e2, e3, -⟩ := h3
    refine ⟨fun hn => .inl ⟨h1, h2, ?_⟩, fun hn y => .inr ⟨rfl, .inr ?_⟩⟩
    · simp only [rdBe, e1, e2, e3]
      rw [if_pos hn]
    · simp only [rdBe, e1]
      rw [if_neg hn]
      simp
  · have key : ok = false ∨ ((rdBe lim l false false).2.2.1 || (rdBe lim l false false).2.2.2) = true := h2.imp id fun h3 => by
      simp only [rdNu, Bool.or_false] at h3
      simp only [rdBe]
      split <;> simp [h3]
    exact ⟨fun _ => .inr ⟨h1, key⟩, fun _ y => .inr ⟨rfl, key⟩⟩
theorem Fit.worse (h : Fit a l ok x l1 ok1) (hb : ok1 = false) (y : α) (l2 : List UInt8) : Fit a l ok y l2 false := by
  rcases h with ⟨h1, -⟩ | ⟨h1, h2⟩
  · rw [h1] at hb; cases hb
  · exact .inr ⟨rfl, h2⟩
end
abbrev zId : Array Value := #[.int .i64 0, .int .u64 0, .int .u64 0]

set_option maxHeartbeats 4000000 in
theorem SId_calls (g : Nat) (l : List UInt8) (ok : Bool) (w : World) (h : Sr g l ok w) :
    Calls Try.prog 92 #[.pointer (some ⟨g, 0, none⟩)] w fun e w' => ∃ a l' ok', e = .returned (idv a) ∧ Sr g l' ok' w' ∧ w.grownBy w' (some g) ∧ Fit rdId3 l ok a l' ok' := by
  have hr0 := Blk.new w 53 zId
  have h0 : Sr g l ok (w.alloc (.cells zId 53)) := h.st ((K.rf w).al _)
  have m0 : w.grownBy (w.alloc (.cells zId 53)) (some g) := mut_alloc (mut_refl w _) _
  have hgw := h.lt
  obtain ⟨r, hr⟩ : ∃ r, r = w.heap.size := ⟨_, rfl⟩
  have HR := Lib.hid hr
  clear h
  go_enter Try.func92, Try.ntmps92
  go_wp2_with fail
  rw [← hr] at hr0 hgw ⊢
  clear hr
  generalize w.alloc _ = w0 at *
  refine (SNum_calls g l ok w0 h0).mono ?_
  rintro e w1 ⟨n, l1, ok1, rfl, h1, m1, hn, hf⟩
  have hr1 := hr0.grown m1 (by simp; omega)
  have m2 := mut_trans m0 m1
  have HFB := Lib.hid (hf.be 16)
  clear h0 hr0 m0 m1 hf
  go_upto_region 2 with (fail)
  have HH := Lib.hid h1
  obtain ⟨A, c, hx, hR, hc, hl⟩ := h1
  have q := hx.cell
  have z := hx.frozen
  by_cases h15 : n ≤ 15
  · have c2 : ¬ (15 : Int) < (n : Int) := by omega
    have HF3 := Lib.hid (HFB.out.1 (by omega))
    have h3 := HH.out
    have m3 := m2
    have hr3 := hr1
    have hn' : n < 16 := by omega
    clear m2 hr1 HH HFB
    go_wp2_with fail
    clear q z hx hR hc hl
    skip
    refine (SNum_calls g l1 _ _ h3).mono ?_
    rintro e w4 ⟨n4, l4, ok4, rfl, h4, m4, hn4, hf4⟩
    have hr4 := hr3.grown m4 (by simp; omega)
    have m5 := mut_trans m3 m4
    have HF4 := Lib.hid hf4
    clear hf4 h3 m3 hr3 m4
    go_wp2_with fail
    refine (SNum_calls g l4 ok4 w4 h4).mono ?_
    rintro e w6 ⟨n6, l6, ok6, rfl, h6, m6, hn6, hf6⟩
    have hr6 := hr4.grown m6 (by simp; omega)
    have m7 := mut_trans m5 m6
    have HF6 := Lib.hid hf6
    clear hf6 h4 m5 hr4 m6
    have q := hr6.cell
    have z := hr6.frozen
    go_wp2
    have hr9 := ((hr6.set_ 0 (.int .i64 ((n : Int)))).set_ 1 (.int .u64 (n4 : Int))).set_ 2 (.int .u64 (n6 : Int))
    have e9 := hr9.cell
    refine bodyPost_ret (v := idv ((n : Int), n4, n6)) (by simp [results, Try.results92, go_sem, e9]) rfl ?_
    have hrz := HR.out
    refine ⟨((n : Int), n4, n6), l6, ok6, rfl, ((h6.far (Below.setCell (Below.refl _ _) (by simp; omega) _)).far (Below.setCell (Below.refl _ _) (by simp; omega) _)).far (Below.setCell (Below.refl _ _) (by simp; omega) _),
      mut_new (mut_new (mut_new m7 (by simp; omega) _) (by simp; omega) _) (by simp; omega) _, ?_⟩
    exact Fit.map (fun x : Nat × Nat × Nat => ((x.1 : Int), x.2.1, x.2.2)) (HF3.out.two (Stk.of (two_codec rdNu_codec rdNu_codec)) (HF4.out.two (Stk.of rdNu_codec) HF6.out))
  · have c2 : (15 : Int) < (n : Int) := by omega
    have HF3 := Lib.hid (HFB.out.2 (by omega) 0)
    have h3 := Sr.bad HH.out
    have m3 := mut_set (p := ⟨g, 1, none⟩) m2 rfl (.bool false)
    have hr3 := hr1.far (p := ⟨g, 1, none⟩) (by simp; omega) (.bool false)
    have hn' : (0 : Nat) < 16 := by omega
    clear m2 hr1 HH HFB
    go_wp2_with fail
    clear q z hx hR hc hl
    generalize w1.setCell _ _ = w2 at *
    refine (SNum_calls g l1 _ _ h3).mono ?_
    rintro e w4 ⟨n4, l4, ok4, rfl, h4, m4, hn4, hf4⟩
    have hr4 := hr3.grown m4 (by simp; omega)
    have m5 := mut_trans m3 m4
    have HF4 := Lib.hid hf4
    clear hf4 h3 m3 hr3 m4
    go_wp2_with fail
    refine (SNum_calls g l4 ok4 w4 h4).mono ?_
    rintro e w6 ⟨n6, l6, ok6, rfl, h6, m6, hn6, hf6⟩
    have hr6 := hr4.grown m6 (by simp; omega)
    have m7 := mut_trans m5 m6
    have HF6 := Lib.hid hf6
    clear hf6 h4 m5 hr4 m6
    have q := hr6.cell
    have z := hr6.frozen
    go_wp2
    have hr9 := ((hr6.set_ 0 (.int .i64 ((0 : Int)))).set_ 1 (.int .u64 (n4 : Int))).set_ 2 (.int .u64 (n6 : Int))
    have e9 := hr9.cell
    refine bodyPost_ret (v := idv ((0 : Int), n4, n6)) (by simp [results, Try.results92, go_sem, e9]) rfl ?_
    have hrz := HR.out
    refine ⟨((0 : Int), n4, n6), l6, ok6, rfl, ((h6.far (Below.setCell (Below.refl _ _) (by simp; omega) _)).far (Below.setCell (Below.refl _ _) (by simp; omega) _)).far (Below.setCell (Below.refl _ _) (by simp; omega) _),
      mut_new (mut_new (mut_new m7 (by simp; omega) _) (by simp; omega) _) (by simp; omega) _, ?_⟩
    exact Fit.map (fun x : Nat × Nat × Nat => ((x.1 : Int), x.2.1, x.2.2)) (HF3.out.two (Stk.of (two_codec rdNu_codec rdNu_codec)) (HF4.out.two (Stk.of rdNu_codec) HF6.out))
end Go.Proofs.Ythnhdeieimgfhaa
