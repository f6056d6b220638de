/-
  The walks of slices.IndexFunc, slices.DeleteFunc and fold.forget on entries of the call's own (layer 16). Conditions: lists of at most a million.
-/
import Derived.Test.YthnhdeieimgfhaaFoB
set_option maxRecDepth 100000
namespace Go.Proofs.Ythnhdeieimgfhaa
open Go Go.RowKit

def isIdE (a : Idn) (x : Ent) : Bool := decide (idE x = a)
theorem isIdE_iff (a : Idn) (x : Ent) : isIdE a x = (decide (x.br = a.1) && decide (x.life = a.2.1) && decide (x.ser = a.2.2)) := by
  obtain ⟨a0, a1, a2⟩ := a
  unfold isIdE idE
  rw [Bool.eq_iff_iff]
  simp [and_assoc]

set_option maxHeartbeats 1000000 in
theorem ForgetC_calls (x : Ent) (a : Idn) (v : Value) (g : Nat) (w : World) (h : ent x v w) (hg : Blk w g 53 #[.int .i64 a.1, .int .u64 (a.2.1 : Int), .int .u64 (a.2.2 : Int)]) :
    Calls Try.prog 132 #[v, .pointer (some ⟨g, 0, none⟩)] w fun e w' => e = .returned (.bool (isIdE a x)) ∧ K w w' := by
  obtain ⟨vf, ve, rfl, hf, he⟩ := h
  obtain ⟨A, c, rfl⟩ := flt_slice hf
  obtain ⟨D, d, rfl⟩ := lst_slice he
  clear hf he
  have HI := Lib.hid (isIdE_iff a x)
  have q := hg.cells
  have ka := fun o => (K.rf w).al o
  obtain ⟨a0, a1, a2⟩ := a
  obtain ⟨k, b, l, s, cl, u, f, es⟩ := x
  simp only at q HI ⊢
  generalize isIdE (a0, a1, a2) ⟨k, b, l, s, cl, u, f, es⟩ = R at *
  go_enter Try.func132, Try.ntmps132
  go_wp2
  all_goals
    go_ret
    refine ⟨?_, (K.rf w).al _⟩
    rw [HI.out]
    show Ending.returned (.bool _) = Ending.returned (.bool _)
    clear q ka
    first | (simp_all; done) | (simp_all; omega) | (congr 2; rw [Bool.eq_iff_iff]; simp_all; omega)

set_option maxHeartbeats 2000000 in
theorem EIndexFunc_calls (A : Option Addr) (c : Nat) (l : List Ent) (a : Idn) (g : Nat) (w : World) (h : lsr enS l A w) (hlen : l.length ≤ 1000000) (hg : Blk w g 53 #[.int .i64 a.1, .int .u64 (a.2.1 : Int), .int .u64 (a.2.2 : Int)]) :
    Calls Try.prog 140 #[.slice A l.length c, .func (Fn.func 132) #[] #[.pointer (some ⟨g, 0, none⟩)]] w fun e w' => ∃ i : Int, e = .returned (.int .i64 i) ∧ K w w' ∧ ((i = -1 ∧ ∀ x ∈ l, isIdE a x = false) ∨ ∃ k : Nat, k < l.length ∧ i = (k : Int) ∧ (∀ x ∈ l.take k, isIdE a x = false) ∧ ∀ x, l[k]? = some x → isIdE a x = true) := by
  have kk := K.rf w
  go_enter Try.func140, Try.ntmps140
  go_wp2_with fail
  go_loopw [5, 8] (fun _ i wr => ∃ k : Nat, k ≤ l.length ∧ i = .int .i64 (k : Int) ∧ Hid (∀ t ∈ l.take k, isIdE a t = false) ∧ K w wr) (fun _ i _ => l.length - (intOf i).toNat)
  case atStart => exact ⟨0, by omega, rfl, Lib.hid (by simp), kk⟩
  case round =>
    clear kk
    obtain ⟨k, hk, rfl, hall, kr⟩ := hrel
    by_cases hlt : k < l.length
    · have hki : (k : Int) < (l.length : Int) := by omega
      obtain ⟨b1, off, cs, rfl, hcl, hrl, d0, d⟩ := lsr_cells h k hlt (by decide)
      have HT : Hid (isIdE a l[k] = false → ∀ t ∈ l.take (k + 1), isIdE a t = false) := by
        refine Lib.hid fun h x hx => ?_
        rw [List.take_succ_eq_append_getElem hlt] at hx
        rcases List.mem_append.1 hx with hx | hx
        · exact hall.out x hx
        · simp at hx; rw [hx]; exact h
      have HK : Hid (isIdE a l[k] = true → ∀ x, l[k]? = some x → isIdE a x = true) := Lib.hid fun h x hx => by
        rw [List.getElem?_eq_getElem hlt] at hx; injection hx with hx; rw [← hx]; exact h
      generalize l[k] = t at *
      obtain ⟨vf, ve, rfl, hf, he⟩ := hrl wr kr
      have d0 : ∀ W, K w W → W.cell? ⟨b1, off + k * 8, none⟩ = some (.int .i64 t.kind) := d0
      have d : ∀ W, K w W → ∀ i, i < 8 → W.cell? ⟨b1, off + k * 8 + i, none⟩ = (entA t vf ve)[i]? := fun W j hj => fun hi => (d W j hj hi).trans Array.getElem?_toList
      clear hrl hcl
      go_wp2_with fail
      refine (ForgetC_calls t a _ g wr ⟨vf, ve, rfl, hf, he⟩ (hg.below kr hg.lt)).mono ?_
      rintro e w2 ⟨rfl, k2⟩
      have kW := kr.tr k2
      clear d d0 hf he
      cases hx : isIdE a t
      · have hrr := Lib.hid (HT.out hx)
        go_wp2
        go_roundw
        case rel => exact ⟨k + 1, by omega, by go_num, hrr, kW⟩
        case measure => simp [intOf]; omega
      · have HE := Lib.hid (HK.out hx)
        go_wp2
        go_ret
        exact ⟨_, rfl, kW, .inr ⟨k, hlt, rfl, hall.out, HE.out⟩⟩
    · have hki : ¬ (k : Int) < (l.length : Int) := by omega
      have HE : Hid (∀ x ∈ l, isIdE a x = false) := Lib.hid (by
        have := hall.out
        rw [List.take_of_length_le (by omega)] at this
        exact this)
      go_wp2
      go_ret
      exact ⟨_, rfl, kr, .inl ⟨rfl, HE.out⟩⟩

/-- What is kept of rows, up to a place. -/
def keepZ (a : Idn) (z : List (Ent × List Value)) : List (Ent × List Value) := z.filter fun p => !isIdE a p.1
theorem zip_fst {α β : Type} : ∀ (l : List α) (m : List β), m.length = l.length → (l.zip m).map (·.1) = l
  | [], [], _ => rfl
  | _ :: _, [], h => by simp at h
  | [], _ :: _, h => by simp at h
  | x :: l, y :: m, h => by simp at h; simp [zip_fst l m h]
theorem zip_snd {α β : Type} : ∀ (l : List α) (m : List β), m.length = l.length → (l.zip m).map (·.2) = m
  | [], [], _ => rfl
  | _ :: _, [], h => by simp at h
  | [], _ :: _, h => by simp at h
  | x :: l, y :: m, h => by simp at h; simp [zip_snd l m h]
theorem each_zip {α : Type} {S : Shp α} {W : World} : ∀ (z : List (α × List Value)), (∀ p ∈ z, S.rel p.1 p.2 W) → Each S (z.map (·.1)) (z.map (·.2)) W := by
  intro z h
  refine ⟨by simp, fun i hi hi' => ?_⟩
  simp only [List.getElem_map]
  exact h _ (List.getElem_mem _)
theorem each_of_zip {α : Type} {S : Shp α} {W : World} {l : List α} {css : List (List Value)} (h : Each S l css W) : ∀ p ∈ l.zip css, S.rel p.1 p.2 W := by
  intro p hp
  obtain ⟨i, hi, rfl⟩ := List.mem_iff_getElem.1 hp
  simp only [List.getElem_zip]
  have h1 := h.1
  rw [List.length_zip] at hi
  exact h.2 i (by omega) (by omega)
theorem keep_map {l : List Ent} {css : List (List Value)} (hl : css.length = l.length) (a : Idn) : (keepZ a (l.zip css)).map (·.1) = dropE l a := by
  unfold keepZ dropE
  rw [show (fun p : Ent × List Value => !isIdE a p.1) = (fun x => !decide (idE x = a)) ∘ (·.1) from rfl, ← List.filter_map, zip_fst l css hl]
theorem setsL_eq : ∀ (us xs : List Value) (q : Nat), q + us.length ≤ xs.length → setsL xs q us = xs.take q ++ us ++ xs.drop (q + us.length)
  | [], xs, q, _ => by simp [setsL]
  | u :: us, xs, q, h => by
    simp only [List.length_cons] at h
    rw [setsL, setsL_eq us _ (q + 1) (by simp; omega)]
    rw [List.take_succ_eq_append_getElem (by simp; omega), List.take_set_of_le (Nat.le_refl _), List.drop_set_of_lt (by omega)]
    simp [Nat.add_assoc, Nat.add_comm 1]

/-- A clear of the end of a row. -/
theorem run_clear_end {P : Program} {w : World} {t e : TypeId} {z : Value} {cur : Array Value} (ht : P.underlying t = some (.slice e)) (hv : ∀ w, (zeroValue e).run P w = .ok z w) (g o m : Nat) (hb : Blk w g e cur) (hl : o + m * z.cells.size ≤ cur.size) (h0 : 0 < m) (h1 : ∀ u ∈ z.cells.toList, u.oneCell' = true) (hz : 0 < z.cells.size) :
    ∃ w' cur', (∀ ty c, (Builtin.clear_ #[t] ty #[.slice (some ⟨g, o, none⟩) m c]).run P w = .ok (.tuple #[]) w') ∧ Blk w' g e cur' ∧ cur'.size = cur.size ∧ cur'.toList.take o = cur.toList.take o ∧ w.grownBy w' (some g) := by
  have hzl : (Builtin.zeroCells z.cells m).toList.length = m * z.cells.size := by simp [Builtin.zeroCells]
  have hz1 : ∀ u ∈ (Builtin.zeroCells z.cells m).toList, u.oneCell' = true := by
    intro u hu
    simp only [Builtin.zeroCells, Array.toList_map, List.mem_map] at hu
    obtain ⟨i, hi, rfl⟩ := hu
    rw [getElem!_pos z.cells (i % z.cells.size) (Nat.mod_lt _ hz)]
    exact h1 _ (by simp)
  have hst := run_storeCells_at P g o e (Builtin.zeroCells z.cells m).toList 0 cur w hb (by rw [hzl]; simpa using hl) hz1
  simp only [Nat.add_zero] at hst
  refine ⟨_, (cur.toList.take o ++ (Builtin.zeroCells z.cells m).toList ++ cur.toList.drop (o + (Builtin.zeroCells z.cells m).toList.length)).toArray, fun ty c => ?_, setRow_heap w g cur _ e _ hb, ?_, ?_, ⟨rfl, rfl, rfl, by simp, fun k hk hne => setRow_other w g k _ (fun e => hne (by simp [e]))⟩⟩
  · cases m with
    | zero => omega
    | succ m => simp [Builtin.clear_, run_underlying ht, hv, hst]
  · simp at hzl; simp; omega
  · show List.take o (cur.toList.take o ++ (Builtin.zeroCells z.cells m).toList ++ cur.toList.drop (o + (Builtin.zeroCells z.cells m).toList.length)) = _
    rw [List.append_assoc, List.take_append_of_le_length (by simp; omega), List.take_take, Nat.min_self]
theorem flatten_take_n8 {α : Type} {n : Nat} : ∀ (css : List (List α)), (∀ cs ∈ css, cs.length = n) → ∀ k, (css.take k).flatten = css.flatten.take (k * n)
  | [], _, k => by simp
  | c :: css, h, 0 => by simp
  | c :: css, h, k + 1 => by
    have hc := h c (by simp)
    have ih := flatten_take_n8 css (fun x hx => h x (by simp [hx])) k
    rw [List.take_succ_cons, List.flatten_cons, List.flatten_cons, ih, List.take_append, List.take_of_length_le (l := c) (by rw [hc, Nat.succ_mul]; omega), hc, show (k + 1) * n - n = k * n by rw [Nat.succ_mul]; omega]
theorem zeroEn (W : World) : (zeroValue 58).run Try.prog W = .ok (.agg zEnt) W := by kernel_rfl
theorem idc_ones {l : List Ent} {css : List (List Value)} {W : World} (h : Each enS l css W) : ∀ cs ∈ css, cs.length = 8 := h.lens
end Go.Proofs.Ythnhdeieimgfhaa
