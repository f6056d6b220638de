/-
  What is known of an argument that is a message (layer 13). Conditions: none.
-/
import Derived.Test.YthnhdeieimgfhaaWiB
set_option maxRecDepth 100000
namespace Go.Proofs.Ythnhdeieimgfhaa
open Go Go.RowKit Go.ChangeShapes Go.WideShapes Go.ChangeAt

def repMsg (w : World) (v : Value) : Prop := ∃ m, msv m v w ∧ fitM m
section
variable {H : Type} {enc : TypeId × Value → H} {w : World} {base : Nat} {r : Reach} {b0 : Nat} {spare : Nat → Bool} {held : Bool} {v : Value} {d : DataW H} {p : List MemPlace}
theorem vo_cells {fuel : Nat} {cs : List Value} {x : DataW H × List MemPlace} (h : DataW.trod enc Try.prog w base spare held fuel 71 cs = some x) : ∃ y : Vot, voS.rel y cs w ∧ fitI y.id := by
  obtain ⟨xs, n, _, _, hlen, hxl, hf⟩ := DataW.trod_struct Try.underlying71 h
  have hC : Try.prog.cellsOf 71 = 4 := by kernel_rfl
  rw [hC] at hlen
  have e1 : Try.prog.cellsOf 4 = 1 := by kernel_rfl
  have e3 : Try.prog.cellsOf 53 = 3 := by kernel_rfl
  have hxl' : xs.length = 2 := hxl
  match cs, hlen with
  | [c0, c1, c2, c3], _ =>
    have h0 := hf 0 _ rfl
    have h1 := hf 1 _ rfl
    simp [e1, e3] at h0 h1
    rw [List.getElem?_eq_getElem (by omega)] at h0 h1
    obtain ⟨i, ei, wi⟩ := id_cells h0
    obtain ⟨b, eb⟩ := bool_cells h1
    obtain ⟨i0, i1, i2⟩ := i
    simp at ei eb
    obtain ⟨rfl, rfl, rfl⟩ := ei
    subst eb
    exact ⟨⟨(i0, i1, i2), b⟩, rfl, wi⟩
theorem ms_cells {fuel : Nat} {cs : List Value} {x : DataW H × List MemPlace} (h : DataW.trod enc Try.prog w base spare held fuel 28 cs = some x) :
    ∃ (m : Msg) (v1 v2 v3 v4 v5 v6 : Value), cs = (msA m v1 v2 v3 v4 v5 v6).toList ∧ (lst voS m.votes v1 w ∧ lst enS m.asks v2 w ∧ lst enS m.entries v3 w ∧ lst enS m.prepares v4 w ∧ lst idS m.aborts v5 w ∧ lst idS m.ends v6 w) ∧ fitM m := by
  obtain ⟨xs, n, _, _, hlen, hxl, hf⟩ := DataW.trod_struct Try.underlying28 h
  have hC : Try.prog.cellsOf 28 = 8 := by kernel_rfl
  rw [hC] at hlen
  have e1 : Try.prog.cellsOf 3 = 1 := by kernel_rfl
  have e2 : Try.prog.cellsOf 23 = 1 := by kernel_rfl
  have e3 : Try.prog.cellsOf 24 = 1 := by kernel_rfl
  have e4 : Try.prog.cellsOf 25 = 1 := by kernel_rfl
  have e5 : Try.prog.cellsOf 26 = 1 := by kernel_rfl
  have hxl' : xs.length = 8 := hxl
  match cs, hlen with
  | [c0, c1, c2, c3, c4, c5, c6, c7], _ =>
    have h0 := hf 0 _ rfl
    have h1 := hf 1 _ rfl
    have h2 := hf 2 _ rfl
    have h3 := hf 3 _ rfl
    have h4 := hf 4 _ rfl
    have h5 := hf 5 _ rfl
    have h6 := hf 6 _ rfl
    have h7 := hf 7 _ rfl
    simp [e1, e2, e3, e4, e5] at h0 h1 h2 h3 h4 h5 h6 h7
    rw [List.getElem?_eq_getElem (by omega)] at h0 h1 h2 h3 h4 h5 h6 h7
    obtain ⟨k, ek, wk⟩ := i64_cells h0
    obtain ⟨g, eg, wg⟩ := u64_cells h1
    obtain ⟨v1, l1, f1, g1, o1⟩ := lst_cells Try.underlying24 voS (fun v => fitI v.id) (by kernel_rfl) (by decide) (fun _ _ _ _ ht => vo_cells ht) h2
    obtain ⟨v2, l2, f2, g2, o2⟩ := lst_cells Try.underlying25 enS fitEn (by kernel_rfl) (by decide) (fun _ _ _ _ ht => en_cells ht) h3
    obtain ⟨v3, l3, f3, g3, o3⟩ := lst_cells Try.underlying25 enS fitEn (by kernel_rfl) (by decide) (fun _ _ _ _ ht => en_cells ht) h4
    obtain ⟨v4, l4, f4, g4, o4⟩ := lst_cells Try.underlying25 enS fitEn (by kernel_rfl) (by decide) (fun _ _ _ _ ht => en_cells ht) h5
    obtain ⟨v5, l5, f5, g5, o5⟩ := lst_cells Try.underlying26 idS fitI (by kernel_rfl) (by decide) (fun _ _ _ _ ht => by obtain ⟨y, e, o⟩ := id_cells ht; exact ⟨y, e, o⟩) h6
    obtain ⟨v6, l6, f6, g6, o6⟩ := lst_cells Try.underlying26 idS fitI (by kernel_rfl) (by decide) (fun _ _ _ _ ht => by obtain ⟨y, e, o⟩ := id_cells ht; exact ⟨y, e, o⟩) h7
    simp at ek eg f1 f2 f3 f4 f5 f6
    subst ek eg f1 f2 f3 f4 f5 f6
    exact ⟨⟨k, g, l1, l2, l3, l4, l5, l6⟩, _, _, _, _, _, _, rfl, ⟨g1, g2, g3, g4, g5, g6⟩, wk, wg, o1, o2, o3, o4, o5, o6⟩
theorem repMsg_of (hv : Value.okWide Try.prog w r b0 28 v) (h : DataW.Trod enc Try.prog w base spare held 28 v d p) : repMsg w v := by
  obtain ⟨cs, rfl, hsz⟩ := okWide_struct Try.underlying28 hv
  obtain ⟨fuel, hf⟩ := h
  obtain ⟨m, v1, v2, v3, v4, v5, v6, h1, ⟨a1, a2, a3, a4, a5, a6⟩, h3⟩ := ms_cells hf
  refine ⟨m, ⟨v1, v2, v3, v4, v5, v6, ?_, a1, a2, a3, a4, a5, a6⟩, h3⟩
  have : cs.toList = (msA m v1 v2 v3 v4 v5 v6).toList := by simpa [Value.cells] using h1
  obtain ⟨l⟩ := cs
  simp at this
  rw [this]
end
end Go.Proofs.Ythnhdeieimgfhaa
