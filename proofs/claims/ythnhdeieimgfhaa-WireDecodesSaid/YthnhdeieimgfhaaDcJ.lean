/-
  Plain laws of what the document's answer of layer 13 decodes. Conditions: at most four thousand bytes.
-/
import Derived.Test.YthnhdeieimgfhaaDcI
set_option maxRecDepth 100000
namespace Go.Proofs.Ythnhdeieimgfhaa
open Go Go.RowKit

theorem rdEb_eq {a b : Int} (ha : 0 ≤ a) (hb : 0 ≤ b) (l : List UInt8) (wr bd : Bool) (h1 : (l.length : Int) ≤ a) (h2 : (l.length : Int) ≤ b) : rdEb a l wr bd = rdEb b l wr bd := by
  unfold rdEb; rw [rdB_eq ha hb l wr h1 h2]
theorem rdLEb_eq {a b : Int} (ha : 0 ≤ a) (hb : 0 ≤ b) (l : List UInt8) (wr bd : Bool) (h1 : (l.length : Int) ≤ a) (h2 : (l.length : Int) ≤ b) (k : Nat) : rdL3 (rdEb a) k l wr bd = rdL3 (rdEb b) k l wr bd := by
  induction k with
  | zero => rfl
  | succ k ih =>
    have := (rdL3_len (rdEb_codec b) k l wr bd).1
    simp only [rdL3]
    rw [ih, rdEb_eq ha hb _ _ _ (by omega) (by omega)]
theorem rdLiEb_eq {a b : Int} (ha : 0 ≤ a) (hb : 0 ≤ b) (l : List UInt8) (wr bd : Bool) (h1 : (l.length : Int) ≤ a) (h2 : (l.length : Int) ≤ b) : rdLi (rdEb a) l wr bd = rdLi (rdEb b) l wr bd := by
  have := (rdBe_codec 17 (by decide)).len l wr bd
  simp only [rdLi]
  rw [rdLEb_eq ha hb _ _ _ (by omega) (by omega)]
theorem Fit.conv {n : Int} {l l' : List UInt8} {ok ok' : Bool} {x : List Ent} (h : Fit (rdLi (rdEb 65536)) l ok x l' ok') (hn : 0 ≤ n) (hl : ok = true → (l.length : Int) ≤ n ∧ l.length ≤ 65536) : Fit (rdLi (rdEb n)) l ok x l' ok' := by
  cases ok
  · rcases h with ⟨-, h2, -⟩ | ⟨h1, -⟩
    · cases h2
    · exact .inr ⟨h1, .inl rfl⟩
  · have hq := hl rfl
    have e := rdLiEb_eq (a := 65536) (b := n) (by decide) hn l false false (by omega) hq.1
    unfold Fit at h ⊢
    rw [← e]
    exact h
theorem Fit.len {α : Type} {R : Rd3 α} {enc : α → List UInt8} {okp : α → Prop} (C : Cod3 enc okp R) {l l' : List UInt8} {ok ok' : Bool} {x : α} (h : Fit R l ok x l' ok') : ok' = true → l'.length ≤ l.length ∧ ok = true := by
  intro e
  rcases h with ⟨h1, h2, h3⟩ | ⟨h1, -⟩
  · have := C.len l false false
    rw [h3] at this
    exact ⟨this, h2⟩
  · rw [h1] at e; cases e
def finM (ok : Bool) (l : List UInt8) (m : Msg) : Option Msg := if ok && (l.isEmpty && okM m) then some m else none
theorem Fit.fin {b l : List UInt8} {ok : Bool} {m : Msg} (h : Fit (rdM b.length) b true m l ok) : decM b = finM ok l m := by
  unfold decM finM
  rcases h with ⟨h1, h2, h3⟩ | ⟨h1, h2⟩
  · rw [h3, h1]
    simp only [Bool.not_false, Bool.true_and]
  · rw [h1]
    rcases h2 with h2 | h2
    · cases h2
    · rw [Bool.or_eq_true] at h2
      rcases h2 with h2 | h2 <;> simp [h2]
theorem stk_li {α : Type} {rd : Rd3 α} (S : Stk rd) : Stk (rdLi rd) := fun l wr bd h1 h2 => by
  simp only [rdLi] at h1 h2
  obtain ⟨e1, e2⟩ := S.l3 _ _ _ _ h1 h2
  exact (rdBe_codec 17 (by decide)).back l wr bd e1 e2 |>.2
theorem stk_two {α β : Type} {a : Rd3 α} {b : Rd3 β} (A : Stk a) (B : Stk b) : Stk (rdTwo a b) := fun l wr bd h1 h2 => by
  simp only [rdTwo] at h1 h2
  obtain ⟨e1, e2⟩ := B _ _ _ h1 h2
  exact A _ _ _ e1 e2
theorem stk_vo : Stk rdVo := Stk.of rdVo_codec
theorem stk_id : Stk rdId3 := Stk.of rdId3_codec
theorem stk_eb (n : Int) : Stk (rdEb n) := Stk.of (rdEb_codec n)
theorem stk_m1 (n : Int) : Stk (rdM1 n) := stk_two (stk_li stk_vo) (stk_li (stk_eb n))
theorem stk_m2 (n : Int) : Stk (rdM2 n) := stk_two (stk_li (stk_eb n)) (stk_two (stk_li (stk_eb n)) (stk_two (stk_li stk_id) (stk_li stk_id)))
theorem rdM_bad (n : Int) (l : List UInt8) (h : ((rdHd l false false).2.2.1 || (rdHd l false false).2.2.2) = true) : ((rdM n l false false).2.2.1 || (rdM n l false false).2.2.2) = true := by
  obtain ⟨k, g, l1, w1, b1, hh⟩ : ∃ k g l1 w1 b1, rdHd l false false = ((k, g), l1, w1, b1) := ⟨_, _, _, _, _, rfl⟩
  rw [hh] at h
  replace h : (w1 || b1) = true := h
  by_cases h1 : k = 1
  · subst h1
    have e2 : (rdM n l false false).2 = (rdM1 n l1 w1 b1).2 := by rw [rdM_one hh]
    rw [e2]
    exact (stk_m1 n).or l1 w1 b1 h
  · by_cases h2 : k = 2
    · subst h2
      have e2 : (rdM n l false false).2 = (rdM2 n l1 w1 b1).2 := by rw [rdM_two hh]
      rw [e2]
      exact (stk_m2 n).or l1 w1 b1 h
    · have e2 : (rdM n l false false).2 = (l1, w1, b1) := by rw [rdM_no hh h1 h2]
      rw [e2]
      exact h
theorem Fit.one {n : Int} {b l2 l4 : List UInt8} {ok2 ok4 : Bool} {got : Nat} {vs : List Vot} {aks : List Ent} (h : Fit rdHd b true (1, got) l2 ok2) (k : Fit (rdM1 n) l2 ok2 (vs, aks) l4 ok4) :
    Fit (rdM n) b true ⟨1, got, vs, aks, [], [], [], []⟩ l4 ok4 := by
  rcases k with ⟨k1, k2, k3⟩ | ⟨k1, k2⟩
  · rcases h with ⟨h1, h2, h3⟩ | ⟨h1, h2⟩
    · exact .inl ⟨k1, rfl, by rw [rdM_one h3, k3]⟩
    · rw [h1] at k2; cases k2
  · refine .inr ⟨k1, .inr ?_⟩
    rcases h with ⟨h1, h2, h3⟩ | ⟨h1, h2⟩
    · rcases k2 with k2 | k2
      · rw [h1] at k2; cases k2
      · have e2 : (rdM n b false false).2 = (rdM1 n l2 false false).2 := by rw [rdM_one h3]
        rw [e2]
        exact k2
    · rcases h2 with h2 | h2
      · cases h2
      · exact rdM_bad n b h2
theorem Fit.twoM {n : Int} {b l2 l4 : List UInt8} {ok2 ok4 : Bool} {got : Nat} {es ps : List Ent} {abs ends : List Idn} (h : Fit rdHd b true (2, got) l2 ok2) (k : Fit (rdM2 n) l2 ok2 (es, ps, abs, ends) l4 ok4) :
    Fit (rdM n) b true ⟨2, got, [], [], es, ps, abs, ends⟩ l4 ok4 := by
  rcases k with ⟨k1, k2, k3⟩ | ⟨k1, k2⟩
  · rcases h with ⟨h1, h2, h3⟩ | ⟨h1, h2⟩
    · exact .inl ⟨k1, rfl, by rw [rdM_two h3, k3]⟩
    · rw [h1] at k2; cases k2
  · refine .inr ⟨k1, .inr ?_⟩
    rcases h with ⟨h1, h2, h3⟩ | ⟨h1, h2⟩
    · rcases k2 with k2 | k2
      · rw [h1] at k2; cases k2
      · have e2 : (rdM n b false false).2 = (rdM2 n l2 false false).2 := by rw [rdM_two h3]
        rw [e2]
        exact k2
    · rcases h2 with h2 | h2
      · cases h2
      · exact rdM_bad n b h2
theorem okM_no {m : Msg} (h1 : m.kind ≠ 1) (h2 : m.kind ≠ 2) : okM m = false := by
  unfold okM okKd
  rw [if_neg h1, if_neg h2]
  rfl
theorem decM_else {b l1 l2 : List UInt8} {ok1 ok2 : Bool} {k got : Nat} (h : Fit rdNu b true k l1 ok1) (h2 : Fit rdNu l1 ok1 got l2 ok2) (hk1 : k ≠ 1) (hk2 : k ≠ 2) : decM b = none := by
  have key : ∀ x l ok, Fit (rdM b.length) b true x l ok → okM x = false ∨ ok = false → decM b = none := by
    intro x l ok hf ho
    rw [hf.fin, finM]
    rcases ho with ho | ho <;> simp [ho]
  by_cases hk : k < 3
  · have hH : Fit rdHd b true (k, got) l2 ok2 := ((h.be 3).1 hk).two (Stk.of rdNu_codec) h2
    rcases hH with ⟨e1, e2, e3⟩ | ⟨e1, e2⟩
    · exact key ⟨(k : Int), got, [], [], [], [], [], []⟩ l2 true (.inl ⟨rfl, rfl, by rw [rdM_no e3 hk1 hk2]⟩) (.inl (okM_no (by simp only; omega) (by simp only; omega)))
    · rcases e2 with e2 | e2
      · cases e2
      · exact key msg0 [] false (.inr ⟨rfl, .inr (rdM_bad _ b e2)⟩) (.inr rfl)
  · have hH : Fit rdHd b true (0, got) l2 false := by
      have hb := (h.be 3).2 hk 0
      exact hb.two (Stk.of rdNu_codec) (.inr ⟨rfl, .inl rfl⟩)
    rcases hH with ⟨e1, e2, e3⟩ | ⟨e1, e2⟩
    · cases e1
    · rcases e2 with e2 | e2
      · cases e2
      · exact key msg0 [] false (.inr ⟨rfl, .inr (rdM_bad _ b e2)⟩) (.inr rfl)
theorem rdFi_lit (n : Int) (l : List UInt8) (wr : Bool) : (rdFi n l wr).1.length ≤ 8 ∧ ∀ t ∈ (rdFi n l wr).1, t.1.size ≤ 16 := by
  cases hd : decF8 (rdB n l wr).1 with
  | none => simp [rdFi, hd]
  | some f =>
    rw [rdFi_some hd]
    have e := (decF_some' hd).2
    have h1 := decFL_len (rdB n l wr).1
    have h2 := decFL_fit (rdB n l wr).1
    rw [e] at h1 h2
    exact ⟨h1, fun t ht => (h2 t ht).2⟩
theorem rdEn_lit (n : Int) (l : List UInt8) (wr : Bool) : litEn (rdEn n l wr).1 := by
  unfold rdEn
  split
  · refine ⟨by simp [hdEn], by simp [hdEn], ?_, ?_⟩
    · have := (rdL_len (rdEv_codec n) (min (rdN (rd6 l wr).2.1 (rd6 l wr).2.2).1 9) (rdN (rd6 l wr).2.1 (rd6 l wr).2.2).2.1 (rdN (rd6 l wr).2.1 (rd6 l wr).2.2).2.2).2
      simp only
      omega
    · exact rdL_all litE (fun l wr => rdEv_lit n l wr) _ _ _
  · split
    · have := rdFi_lit n (rd6 l wr).2.1 (rd6 l wr).2.2
      exact ⟨by simp only; omega, fun t ht => by have := this.2 t ht; omega, by simp [hdEn], by simp [hdEn]⟩
    · exact ⟨by simp [hdEn], by simp [hdEn], by simp [hdEn], by simp [hdEn]⟩
theorem decEnX_lit (b : List UInt8) : litEn (decEnX b) := by
  cases hd : decEn b with
  | none => rw [(decEn_none hd).2]; simp [litEn, ent0]
  | some x =>
    rw [(decEn_some hd).2]
    unfold decEn at hd
    split at hd
    · injection hd with hd
      rw [← hd]
      exact rdEn_lit _ _ _
    · cases hd
theorem li_lit {n : Int} {l l' : List UInt8} {ok : Bool} {xs : List Ent} (h : Fit (rdLi (rdEb n)) l ok xs l' true) : xs.length ≤ 1000 ∧ ∀ x ∈ xs, litEn x := by
  rcases h with ⟨-, -, h⟩ | ⟨h, -⟩
  · have h1 := rdLi_all litEn (fun l wr bd => decEnX_lit _) l false false (rd := rdEb n)
    have h2 := (rdL3_len (rdEb_codec n) (rdBe 17 l false false).1 (rdBe 17 l false false).2.1 (rdBe 17 l false false).2.2.1 (rdBe 17 l false false).2.2.2).2
    have h3 := rdBe_lt 17 (by decide) l false false
    have e : xs = (rdLi (rdEb n) l false false).1 := by rw [h]
    refine ⟨?_, by rw [e]; exact h1⟩
    rw [e]
    unfold rdLi
    omega
  · cases h
theorem li_len {α : Type} {enc : α → List UInt8} {okp : α → Prop} {rd : Rd3 α} (C : Cod3 enc okp rd) {l l' : List UInt8} {ok : Bool} {xs : List α} (h : Fit (rdLi rd) l ok xs l' true) : xs.length ≤ 1000 := by
  rcases h with ⟨-, -, h⟩ | ⟨h, -⟩
  · have h2 := (rdL3_len C (rdBe 17 l false false).1 (rdBe 17 l false false).2.1 (rdBe 17 l false false).2.2.1 (rdBe 17 l false false).2.2.2).2
    have h3 := rdBe_lt 17 (by decide) l false false
    have e : xs = (rdLi rd l false false).1 := by rw [h]
    rw [e]
    unfold rdLi
    omega
  · cases h
theorem decM_none {b : List UInt8} (h : decM b = none) : decMC b = 130 ∧ decMX b = msg0 := by simp [decMC, decMX, h]
theorem decM_some {b : List UInt8} {m : Msg} (h : decM b = some m) : decMC b = 0 ∧ decMX b = m := by simp [decMC, decMX, h]
end Go.Proofs.Ythnhdeieimgfhaa
