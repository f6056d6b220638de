/-
  Entries, records and IDs in memory, and what is known of an argument that is one. Conditions: none.
-/
import Derived.Test.YtjcdgbnbaiebdaaLst
import Derived.Test.YtjcdgbnbaiebdaaEnR
import Derived.Test.YtjcdgbnbaiebdaaEnB
set_option maxRecDepth 100000
namespace Go.Proofs.Ytjcdgbnbaiebdaa
open Go Go.RowKit Go.ChangeShapes Go.WideShapes Go.ChangeAt

/-- Events, as elements of a list. -/
def evS : Shp (List Att) where
  size := 1
  rel l cs w := ∃ v, cs = [v] ∧ evt l v w
  len := by rintro _ _ _ ⟨v, rfl, _⟩; rfl
  one := by rintro _ _ _ ⟨v, rfl, A, c, rfl, _⟩ u hu; simp at hu; subst hu; rfl
  st := by rintro _ _ _ _ ⟨v, rfl, h⟩ k; exact ⟨v, rfl, evt_st _ _ _ _ h k⟩
/-- IDs. -/
abbrev idc (a : Idn) : List Value := [.int .i64 a.1, .int .u64 (a.2.1 : Int), .int .u64 (a.2.2 : Int)]
def fitI (a : Idn) : Prop := i64ok a.1 ∧ a.2.1 < 18446744073709551616 ∧ a.2.2 < 18446744073709551616
def idS : Shp Idn where
  size := 3
  rel a cs _ := cs = idc a
  len := by rintro _ _ _ rfl; rfl
  one := by rintro _ _ _ rfl u hu; simp at hu; rcases hu with rfl | rfl | rfl <;> rfl
  st := by rintro _ _ _ _ h _; exact h
/-- Entries: eight cells. -/
abbrev entc (x : Ent) (vf ve : Value) : List Value := [.int .i64 x.kind, .int .i64 x.br, .int .u64 (x.life : Int), .int .u64 (x.ser : Int), .int .i64 x.cl, .int .u64 (x.sub : Int), vf, ve]
abbrev entA (x : Ent) (vf ve : Value) : Array Value := #[.int .i64 x.kind, .int .i64 x.br, .int .u64 (x.life : Int), .int .u64 (x.ser : Int), .int .i64 x.cl, .int .u64 (x.sub : Int), vf, ve]
theorem flt_slice {l : List Tst} {v : Value} {w : World} (h : flt l v w) : ∃ A c, v = .slice A l.length c := by
  obtain ⟨A, c, rfl, _⟩ := h
  exact ⟨A, c, rfl⟩
theorem evt_slice {l : List Att} {v : Value} {w : World} (h : evt l v w) : ∃ A c, v = .slice A l.length c := by
  obtain ⟨A, c, rfl, _⟩ := h
  exact ⟨A, c, rfl⟩
theorem lst_slice {α : Type} {S : Shp α} {l : List α} {v : Value} {w : World} (h : lst S l v w) : ∃ A c, v = .slice A l.length c := by
  obtain ⟨A, c, rfl, _⟩ := h
  exact ⟨A, c, rfl⟩
def enS : Shp Ent where
  size := 8
  rel x cs w := ∃ vf ve, cs = entc x vf ve ∧ flt x.f vf w ∧ lst evS x.es ve w
  len := by rintro _ _ _ ⟨vf, ve, rfl, _⟩; rfl
  one := by
    rintro x _ _ ⟨vf, ve, rfl, ⟨A, c, rfl, _⟩, ⟨D, d, rfl, _⟩⟩ u hu
    simp at hu
    rcases hu with rfl | rfl | rfl | rfl | rfl | rfl | rfl | rfl <;> rfl
  st := by rintro _ _ _ _ ⟨vf, ve, rfl, h1, h2⟩ k; exact ⟨vf, ve, rfl, flt_st _ _ _ _ h1 k, lst_st h2 k⟩
/-- A value that reads as an entry. -/
def ent (x : Ent) (v : Value) (w : World) : Prop := ∃ vf ve, v = .agg (entA x vf ve) ∧ flt x.f vf w ∧ lst evS x.es ve w
theorem ent_st {x : Ent} {v : Value} {w w' : World} (h : ent x v w) (k : K w w') : ent x v w' := by
  obtain ⟨vf, ve, rfl, h1, h2⟩ := h
  exact ⟨vf, ve, rfl, flt_st _ _ _ _ h1 k, lst_st h2 k⟩
theorem ent_al {x : Ent} {v : Value} {w : World} (h : ent x v w) : ∀ W, K w W → ent x v W := fun _ k => ent_st h k
theorem ent_zero (w : World) : ent ent0 (.agg #[.int .i64 0, .int .i64 0, .int .u64 0, .int .u64 0, .int .i64 0, .int .u64 0, .slice none 0 0, .slice none 0 0]) w :=
  ⟨_, _, rfl, ⟨none, 0, rfl, Reads.nil _ _ _ _⟩, lst_nil _ _⟩
/-- Records: thirteen cells. -/
abbrev recA (x : Rec) (vf ve : Value) : Array Value := #[.int .i64 x.kind, .int .u64 (x.n : Int), .int .i64 x.e.kind, .int .i64 x.e.br, .int .u64 (x.e.life : Int), .int .u64 (x.e.ser : Int), .int .i64 x.e.cl, .int .u64 (x.e.sub : Int), vf, ve, .int .i64 x.br, .int .u64 (x.life : Int), .int .u64 (x.ser : Int)]
def rcd (x : Rec) (v : Value) (w : World) : Prop := ∃ vf ve, v = .agg (recA x vf ve) ∧ flt x.e.f vf w ∧ lst evS x.e.es ve w
theorem rcd_st {x : Rec} {v : Value} {w w' : World} (h : rcd x v w) (k : K w w') : rcd x v w' := by
  obtain ⟨vf, ve, rfl, h1, h2⟩ := h
  exact ⟨vf, ve, rfl, flt_st _ _ _ _ h1 k, lst_st h2 k⟩
theorem rcd_al {x : Rec} {v : Value} {w : World} (h : rcd x v w) : ∀ W, K w W → rcd x v W := fun _ k => rcd_st h k
def recS : Shp Rec where
  size := 13
  rel x cs w := ∃ vf ve, cs = (recA x vf ve).toList ∧ flt x.e.f vf w ∧ lst evS x.e.es ve w
  len := by rintro _ _ _ ⟨vf, ve, rfl, _⟩; rfl
  one := by
    rintro x _ _ ⟨vf, ve, rfl, ⟨A, c, rfl, _⟩, ⟨D, d, rfl, _⟩⟩ u hu
    simp at hu
    rcases hu with rfl | rfl | rfl | rfl | rfl | rfl | rfl | rfl | rfl | rfl | rfl | rfl | rfl <;> rfl
  st := by rintro _ _ _ _ ⟨vf, ve, rfl, h1, h2⟩ k; exact ⟨vf, ve, rfl, flt_st _ _ _ _ h1 k, lst_st h2 k⟩

section
variable {H : Type} {enc : TypeId × Value → H} {w : World} {base : Nat} {r : Reach} {b0 : Nat} {spare : Nat → Bool} {held : Bool} {v : Value} {d : DataW H} {p : List MemPlace} {α : Type}
/-- The one cell of a slice, and those of its elements. -/
theorem reads_of_cells {T E : TypeId} (hT : Try.prog.underlying T = some (.slice E)) (C : Nat) (hC : Try.prog.cellsOf E = C) (Rep : List Value → Prop)
    (hE : ∀ (fuel : Nat) (cs : List Value) (x : DataW H × List MemPlace), cs.length = C → DataW.trod enc Try.prog w base spare held fuel E cs = some x → Rep cs)
    {fuel : Nat} {cs : List Value} {x : DataW H × List MemPlace} (hf : DataW.trod enc Try.prog w base spare held fuel T cs = some x) :
    ∃ (A : Option Addr) (n c : Nat) (css : List (List Value)), cs = [.slice A n c] ∧ css.length = n ∧ n ≤ c ∧ c ≤ maxLen ∧ (∀ cs ∈ css, cs.length = C ∧ Rep cs) ∧ (0 < C → Reads w w.heap.size C A n css.flatten) := by
  rcases Go.Deep.open_slice hT hf with ⟨hcs, _⟩ | ⟨a, len, cap, m, n, D, Pl, hcs, hb, hl, hm, hmm, hx, hi⟩
  · exact ⟨none, 0, 0, [], hcs, rfl, by simp, by simp, by simp, fun _ => Reads.nil _ _ _ _⟩
  · have hlm : len ≤ m := by rw [hmm]; split <;> omega
    have hex : ∀ i, i < len → ∃ cs, cs.length = C ∧ Rep cs ∧ ∀ j, j < C → w.cell? (a.add (i * C + j)) = cs[j]? := by
      intro i hil
      obtain ⟨cs', hc, ht⟩ := hi i (by omega)
      rw [hC] at hc
      obtain ⟨_, hcl, hat⟩ := World.cells?_some hc
      refine ⟨cs', hcl, hE _ _ _ hcl ht, fun j hj => ?_⟩
      rw [← Go.Deep.add_add]
      exact hat j hj
    have key : ∀ k, k ≤ len → ∃ css : List (List Value), css.length = k ∧ (∀ cs ∈ css, cs.length = C ∧ Rep cs) ∧ ∀ i j, i < k → j < C → w.cell? (a.add (i * C + j)) = (css[i]?.getD [])[j]? := by
      intro k
      induction k with
      | zero => intro _; exact ⟨[], rfl, by simp, by simp⟩
      | succ k ih =>
        intro hk
        obtain ⟨css, h1, h2, h3⟩ := ih (by omega)
        obtain ⟨cs, h4, h5, h6⟩ := hex k (by omega)
        refine ⟨css ++ [cs], by simp [h1], ?_, fun i j hik hj => ?_⟩
        · intro x hx
          rcases List.mem_append.1 hx with hx | hx
          · exact h2 x hx
          · simp at hx; subst hx; exact ⟨h4, h5⟩
        · by_cases hik' : i < k
          · rw [h3 i j hik' hj, List.getElem?_append_left (by omega)]
          · obtain rfl : i = k := by omega
            rw [h6 j hj, List.getElem?_append_right (by omega), h1]
            simp
    obtain ⟨css, h1, h2, h3⟩ := key len (Nat.le_refl _)
    refine ⟨some a, len, cap, css, hcs, h1, hl, hm, h2, fun hC0 => ?_⟩
    have hfl : css.flatten.length = len * C := by rw [← h1]; exact flatten_len C css fun cs hcs => (h2 cs hcs).1
    have hfg : ∀ i j, i < len → j < C → css.flatten[i * C + j]? = (css[i]?.getD [])[j]? := fun i j hi' hj => flatten_at C css (fun cs hcs => (h2 cs hcs).1) i j (by omega) hj
    refine ⟨hfl, fun h0 => ?_⟩
    rw [hfl] at h0
    have hl0 : 0 < len := Nat.pos_of_mul_pos_right h0
    have hcell : ∀ q, q < len * C → w.cell? (a.add q) = css.flatten[q]? := by
      intro q hq
      have e : q = q / C * C + q % C := by rw [Nat.mul_comm]; exact (Nat.div_add_mod q C).symm
      have hq1 : q / C < len := Nat.div_lt_of_lt_mul (by rwa [Nat.mul_comm] at hq)
      have hq2 : q % C < C := Nat.mod_lt _ hC0
      rw [e, h3 _ _ hq1 hq2, hfg _ _ hq1 hq2]
    have h00 := hcell 0 h0
    have hsome : ∃ u, css.flatten[0]? = some u := ⟨css.flatten[0]'(by omega), List.getElem?_eq_getElem (by omega)⟩
    obtain ⟨u, hu⟩ := hsome
    rw [hu] at h00
    obtain ⟨b, off, spot⟩ := a
    have hs : spot = none := by simpa [Addr.add] using World.cell?_spot h00
    subst hs
    refine ⟨b, off, rfl, ?_, fun j u hju => ?_⟩
    · have := World.block_lt_of_cell? w _ h00
      simpa [Addr.add] using this
    · have hj : j < len * C := by
        have := (List.getElem?_eq_some_iff.1 hju).1
        omega
      have := hcell j hj
      rw [Addr.add_lit] at this
      rw [this, hju]
/-- A slice of elements that read as a shape. -/
theorem lst_cells {T E : TypeId} (hT : Try.prog.underlying T = some (.slice E)) (S : Shp α) (Ok : α → Prop) (hC : Try.prog.cellsOf E = S.size) (h0 : 0 < S.size)
    (hE : ∀ (fuel : Nat) (cs : List Value) (x : DataW H × List MemPlace), cs.length = S.size → DataW.trod enc Try.prog w base spare held fuel E cs = some x → ∃ y, S.rel y cs w ∧ Ok y)
    {fuel : Nat} {cs : List Value} {x : DataW H × List MemPlace} (hf : DataW.trod enc Try.prog w base spare held fuel T cs = some x) : ∃ v l, cs = [v] ∧ lst S l v w ∧ ∀ y ∈ l, Ok y := by
  obtain ⟨A, n, c, css, rfl, h1, h2, _, h4, h5⟩ := reads_of_cells hT S.size hC (fun cs => ∃ y, S.rel y cs w ∧ Ok y) hE hf
  have key : ∀ css : List (List Value), (∀ cs ∈ css, ∃ y, S.rel y cs w ∧ Ok y) → ∃ l, Each S l css w ∧ ∀ y ∈ l, Ok y := by
    intro css
    induction css with
    | nil => intro _; exact ⟨[], Each.nil _ _, by simp⟩
    | cons cs css ih =>
      intro h
      obtain ⟨y, hy, ho⟩ := h cs (by simp)
      obtain ⟨l, hl, hol⟩ := ih fun c hc => h c (by simp [hc])
      refine ⟨[y] ++ l, (Each.one hy).append hl, ?_⟩
      intro z hz
      simp at hz
      rcases hz with rfl | hz
      · exact ho
      · exact hol z hz
  obtain ⟨l, hl, hol⟩ := key css fun cs hcs => (h4 cs hcs).2
  have hn : l.length = n := by rw [← h1]; exact hl.1.symm
  subst hn
  exact ⟨_, l, rfl, ⟨A, c, rfl, ⟨css, hl, h5 h0⟩, h2⟩, hol⟩
theorem ev_cells {fuel : Nat} {cs : List Value} {x : DataW H × List MemPlace} (hf : DataW.trod enc Try.prog w base spare held fuel 29 cs = some x) : ∃ l, evS.rel l cs w ∧ ∀ a ∈ l, fitA a := by
  obtain ⟨A, n, c, css, rfl, h1, h2, h3, h4, h5⟩ := reads_of_cells Try.underlying29 4 (by kernel_rfl) (fun cs => ∃ y : Att, cs = attc y ∧ i64ok y.2.1 ∧ i64ok y.2.2.1) (fun _ _ _ _ ht => att_cells ht) hf
  obtain ⟨l, h6, h7, h8⟩ := list_of_cells attc (fun y : Att => i64ok y.2.1 ∧ i64ok y.2.2.1) css fun cs hcs => (h4 cs hcs).2
  have h9 := h5 (by decide)
  subst h1
  rw [← h6] at h9 ⊢
  refine ⟨l, ⟨_, rfl, A, c, rfl, ?_⟩, h8⟩
  rw [h7] at h9
  rwa [List.flatMap_def]
theorem fl_cells {fuel : Nat} {cs : List Value} {x : DataW H × List MemPlace} (hf : DataW.trod enc Try.prog w base spare held fuel 31 cs = some x) : ∃ v l, cs = [v] ∧ flt l v w ∧ ∀ a ∈ l, fitT a := by
  obtain ⟨A, n, c, css, rfl, h1, h2, h3, h4, h5⟩ := reads_of_cells Try.underlying31 5 (by kernel_rfl) (fun cs => ∃ y : Tst, cs = tstc y ∧ fitT y) (fun _ _ _ _ ht => tst_cells ht) hf
  obtain ⟨l, h6, h7, h8⟩ := list_of_cells tstc fitT css fun cs hcs => (h4 cs hcs).2
  have h9 := h5 (by decide)
  subst h1
  rw [← h6] at h9 ⊢
  refine ⟨_, l, rfl, ⟨A, c, rfl, ?_⟩, h8⟩
  rw [h7] at h9
  rwa [List.flatMap_def]
theorem i64_cells {fuel : Nat} {cs : List Value} {x : DataW H × List MemPlace} (hf : DataW.trod enc Try.prog w base spare held fuel 3 cs = some x) : ∃ n, cs = [.int .i64 n] ∧ i64ok n := by
  obtain ⟨a, ea, _, wa⟩ := DataW.trod_int Try.underlying3 hf
  have := bounds_i64 wa
  exact ⟨a, ea, by show i64ok a; unfold i64ok; omega⟩
theorem u64_cells {fuel : Nat} {cs : List Value} {x : DataW H × List MemPlace} (hf : DataW.trod enc Try.prog w base spare held fuel 24 cs = some x) : ∃ n : Nat, cs = [.int .u64 (n : Int)] ∧ n < 18446744073709551616 := by
  obtain ⟨a, ea, _, wa⟩ := DataW.trod_int Try.underlying24 hf
  have := bounds_u64 wa
  exact ⟨a.toNat, by rw [ea, Int.toNat_of_nonneg this.1], by omega⟩
theorem bool_cells {fuel : Nat} {cs : List Value} {x : DataW H × List MemPlace} (hf : DataW.trod enc Try.prog w base spare held fuel 4 cs = some x) : ∃ b, cs = [.bool b] := by
  obtain ⟨a, ea, _⟩ := DataW.trod_bool Try.underlying4 hf
  exact ⟨a, ea⟩
theorem id_cells {fuel : Nat} {cs : List Value} {x : DataW H × List MemPlace} (h : DataW.trod enc Try.prog w base spare held fuel 26 cs = some x) : ∃ y : Idn, cs = idc y ∧ fitI y := by
  obtain ⟨xs, n, _, _, hlen, hxl, hf⟩ := DataW.trod_struct Try.underlying26 h
  have hC : Try.prog.cellsOf 26 = 3 := by kernel_rfl
  rw [hC] at hlen
  have e1 : Try.prog.cellsOf 3 = 1 := by kernel_rfl
  have e2 : Try.prog.cellsOf 24 = 1 := by kernel_rfl
  have hxl' : xs.length = 3 := hxl
  match cs, hlen with
  | [c0, c1, c2], _ =>
    have h0 := hf 0 _ rfl
    have h1 := hf 1 _ rfl
    have h2 := hf 2 _ rfl
    simp [e1, e2] at h0 h1 h2
    rw [List.getElem?_eq_getElem (by omega)] at h0 h1 h2
    obtain ⟨a, ea, wa⟩ := i64_cells h0
    obtain ⟨b, eb, wb⟩ := u64_cells h1
    obtain ⟨c, ec, wc⟩ := u64_cells h2
    simp at ea eb ec
    subst ea eb ec
    exact ⟨(a, b, c), rfl, wa, wb, wc⟩
theorem en_cells {fuel : Nat} {cs : List Value} {x : DataW H × List MemPlace} (h : DataW.trod enc Try.prog w base spare held fuel 34 cs = some x) : ∃ y : Ent, enS.rel y cs w ∧ fitEn y := by
  obtain ⟨xs, n, _, _, hlen, hxl, hf⟩ := DataW.trod_struct Try.underlying34 h
  have hC : Try.prog.cellsOf 34 = 8 := by kernel_rfl
  rw [hC] at hlen
  have e1 : Try.prog.cellsOf 3 = 1 := by kernel_rfl
  have e2 : Try.prog.cellsOf 24 = 1 := by kernel_rfl
  have e3 : Try.prog.cellsOf 26 = 3 := by kernel_rfl
  have e4 : Try.prog.cellsOf 31 = 1 := by kernel_rfl
  have e5 : Try.prog.cellsOf 32 = 1 := by kernel_rfl
  have hxl' : xs.length = 6 := hxl
  match cs, hlen with
  | [c0, c1, c2, c3, c4, c5, c6, c7], _ =>
    have h0 := hf 0 _ rfl
    have h1 := hf 1 _ rfl
    have h2 := hf 2 _ rfl
    have h3 := hf 3 _ rfl
    have h4 := hf 4 _ rfl
    have h5 := hf 5 _ rfl
    simp [e1, e2, e3, e4, e5] at h0 h1 h2 h3 h4 h5
    rw [List.getElem?_eq_getElem (by omega)] at h0 h1 h2 h3 h4 h5
    obtain ⟨k, ek, wk⟩ := i64_cells h0
    obtain ⟨i, ei, wi⟩ := id_cells h1
    obtain ⟨c, ec, wc⟩ := i64_cells h2
    obtain ⟨s, es, ws⟩ := u64_cells h3
    obtain ⟨vf, f, ef, hfl, wf⟩ := fl_cells h4
    obtain ⟨ve, l, el, hl, wl⟩ := lst_cells Try.underlying32 evS (fun l => ∀ a ∈ l, fitA a) (by kernel_rfl) (by decide) (fun _ _ _ _ ht => ev_cells ht) h5
    obtain ⟨i0, i1, i2⟩ := i
    simp at ek ei ec es ef el
    obtain ⟨rfl, rfl, rfl⟩ := ei
    subst ek ec es ef el
    exact ⟨⟨k, i0, i1, i2, c, s, f, l⟩, ⟨c6, c7, rfl, hfl, hl⟩, wk, wi.1, wc, wi.2.1, wi.2.2, ws, wf, wl⟩
theorem rec_cells {fuel : Nat} {cs : List Value} {x : DataW H × List MemPlace} (h : DataW.trod enc Try.prog w base spare held fuel 61 cs = some x) : ∃ y : Rec, recS.rel y cs w ∧ fitRec y := by
  obtain ⟨xs, n, _, _, hlen, hxl, hf⟩ := DataW.trod_struct Try.underlying61 h
  have hC : Try.prog.cellsOf 61 = 13 := by kernel_rfl
  rw [hC] at hlen
  have e1 : Try.prog.cellsOf 3 = 1 := by kernel_rfl
  have e2 : Try.prog.cellsOf 24 = 1 := by kernel_rfl
  have e3 : Try.prog.cellsOf 26 = 3 := by kernel_rfl
  have e4 : Try.prog.cellsOf 34 = 8 := by kernel_rfl
  have hxl' : xs.length = 4 := hxl
  match cs, hlen with
  | [c0, c1, c2, c3, c4, c5, c6, c7, c8, c9, c10, c11, c12], _ =>
    have h0 := hf 0 _ rfl
    have h1 := hf 1 _ rfl
    have h2 := hf 2 _ rfl
    have h3 := hf 3 _ rfl
    simp [e1, e2, e3, e4] at h0 h1 h2 h3
    rw [List.getElem?_eq_getElem (by omega)] at h0 h1 h2 h3
    obtain ⟨k, ek, wk⟩ := i64_cells h0
    obtain ⟨m, em, wm⟩ := u64_cells h1
    obtain ⟨y, ⟨vf, ve, ey, hfl, hl⟩, wy⟩ := en_cells h2
    obtain ⟨i, ei, wi⟩ := id_cells h3
    obtain ⟨i0, i1, i2⟩ := i
    simp at ek em ey ei
    obtain ⟨rfl, rfl, rfl, rfl, rfl, rfl, rfl, rfl⟩ := ey
    obtain ⟨rfl, rfl, rfl⟩ := ei
    subst ek em
    exact ⟨⟨k, m, y, i0, i1, i2⟩, ⟨c8, c9, rfl, hfl, hl⟩, wk, wm, wy, wi.1, wi.2.1, wi.2.2⟩
/-- Arguments. -/
def repEntry (w : World) (v : Value) : Prop := ∃ x, ent x v w ∧ fitEn x
def repRecord (w : World) (v : Value) : Prop := ∃ x, rcd x v w ∧ fitRec x
def repID (_ : World) (v : Value) : Prop := ∃ a : Idn, v = idv a ∧ fitI a
theorem repEntry_of (hv : Value.okWide Try.prog w r b0 34 v) (h : DataW.Trod enc Try.prog w base spare held 34 v d p) : repEntry w v := by
  obtain ⟨cs, rfl, hsz⟩ := okWide_struct Try.underlying34 hv
  obtain ⟨fuel, hf⟩ := h
  obtain ⟨y, ⟨vf, ve, h1, h2, h3⟩, h4⟩ := en_cells hf
  refine ⟨y, ⟨vf, ve, ?_, h2, h3⟩, h4⟩
  have : cs.toList = entc y vf ve := by simpa [Value.cells] using h1
  obtain ⟨l⟩ := cs
  simp at this
  rw [this]
theorem repRecord_of (hv : Value.okWide Try.prog w r b0 61 v) (h : DataW.Trod enc Try.prog w base spare held 61 v d p) : repRecord w v := by
  obtain ⟨cs, rfl, hsz⟩ := okWide_struct Try.underlying61 hv
  obtain ⟨fuel, hf⟩ := h
  obtain ⟨y, ⟨vf, ve, h1, h2, h3⟩, h4⟩ := rec_cells hf
  refine ⟨y, ⟨vf, ve, ?_, h2, h3⟩, h4⟩
  have : cs.toList = (recA y vf ve).toList := by simpa [Value.cells] using h1
  obtain ⟨l⟩ := cs
  simp at this
  rw [this]
theorem repID_of (hv : Value.okWide Try.prog w r b0 26 v) (h : DataW.Trod enc Try.prog w base spare held 26 v d p) : repID w v := by
  obtain ⟨cs, rfl, hsz⟩ := okWide_struct Try.underlying26 hv
  obtain ⟨fuel, hf⟩ := h
  obtain ⟨y, h1, h4⟩ := id_cells hf
  refine ⟨y, ?_, h4⟩
  have : cs.toList = idc y := by simpa [Value.cells] using h1
  obtain ⟨l⟩ := cs
  simp at this
  rw [this]
end
end Go.Proofs.Ytjcdgbnbaiebdaa
