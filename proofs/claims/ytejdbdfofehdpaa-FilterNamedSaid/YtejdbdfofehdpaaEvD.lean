/-
  The walks of event.Find and of the document's Find (layer 4). Conditions: none.
-/
import Derived.Test.YtejdbdfofehdpaaEvB
namespace Go.Proofs.Ytejdbdfofehdpaa
open Go Go.RowKit

/-- Whether an attribute has a name. -/
def isN (s : ByteArray) (x : Att) : Bool := decide (x.1 = s)
/-- What Find tells. -/
def findV (l : List Att) (s : ByteArray) : Value := match l.find? (isN s) with | some x => .tuple #[vv x.2.1 x.2.2.1 x.2.2.2, .bool true] | none => .tuple #[vv 0 0 { data := #[] }, .bool false]

theorem find_hit (l : List Att) (s : ByteArray) (k : Nat) (hk : k < l.length) (h : isN s l[k] = true) (ha : ∀ x ∈ l.take k, isN s x = false) : l.find? (isN s) = some l[k] := by
  have e : l = l.take k ++ l[k] :: l.drop (k + 1) := by rw [List.getElem_cons_drop, List.take_append_drop]
  conv => lhs; rw [e]
  rw [List.find?_append, List.find?_eq_none.2 (fun x hx => by simp [ha x hx]), List.find?_cons_of_pos h]
  rfl
theorem find_miss (l : List Att) (s : ByteArray) (ha : ∀ x ∈ l, isN s x = false) : l.find? (isN s) = none := List.find?_eq_none.2 fun x hx => by simp [ha x hx]
theorem first_of (s : ByteArray) : ∀ l : List Att, (∃ k, ∃ hk : k < l.length, isN s l[k] = true ∧ ∀ x ∈ l.take k, isN s x = false) ∨ ∀ x ∈ l, isN s x = false
  | [] => .inr (by simp)
  | y :: l => by
    cases h : isN s y with
    | true => exact .inl ⟨0, by simp, by simpa using h, by simp⟩
    | false =>
      rcases first_of s l with ⟨k, hk, h1, h2⟩ | h1
      · refine .inl ⟨k + 1, by simpa using hk, by simpa using h1, ?_⟩
        intro x hx
        rw [List.take_succ_cons] at hx
        rcases List.mem_cons.1 hx with rfl | hx
        · exact h
        · exact h2 x hx
      · refine .inr fun x hx => ?_
        rcases List.mem_cons.1 hx with rfl | hx
        · exact h
        · exact h1 x hx

theorem FindC_calls (x : Att) (s : ByteArray) (g : Nat) (w : World) (hg : w.cell? ⟨g, 0, none⟩ = some (.string s)) :
    Calls Try.prog 68 #[attv x, .pointer (some ⟨g, 0, none⟩)] w fun e w' => e = .returned (.bool (isN s x)) ∧ Below w.heap.size w w' := by
  have hgl : g < w.heap.size := block_lt hg
  obtain ⟨a, k, n, t⟩ := x
  go_enter Try.func68, Try.ntmps68
  go_wp2
  go_ret
  refine ⟨?_, (Below.refl _ _).alloc (Nat.le_refl _) _⟩
  show Ending.returned (.bool _) = Ending.returned (.bool _)
  rw [byt_beq]; rfl

set_option maxHeartbeats 2000000 in
theorem IndexFunc_calls (A : Option Addr) (c : Nat) (l : List Att) (s : ByteArray) (g : Nat) (w : World) (B : Nat) (hR : Reads w B 4 A l.length (l.flatMap attc)) (hB : B ≤ w.heap.size) (hlen : l.length ≤ 1000000) (hg : w.cell? ⟨g, 0, none⟩ = some (.string s)) (r : Int)
    (hr : (∃ k, ∃ hk : k < l.length, r = (k : Int) ∧ isN s l[k] = true ∧ ∀ x ∈ l.take k, isN s x = false) ∨ (r = -1 ∧ ∀ x ∈ l, isN s x = false)) :
    Calls Try.prog 69 #[.slice A l.length c, .func (Fn.func 68) #[] #[.pointer (some ⟨g, 0, none⟩)]] w fun e w' => e = .returned (.int .i64 r) ∧ Below w.heap.size w w' := by
  have hgl : g < w.heap.size := block_lt hg
  have HR := Lib.hid hr
  have HA := Lib.hid hR
  clear hr hR
  go_enter Try.func69, Try.ntmps69
  go_wp2_with fail
  go_loopw [8] (fun i wr => ∃ k : Nat, k ≤ l.length ∧ i = .int .i64 (k : Int) ∧ Hid (∀ x ∈ l.take k, isN s x = false) ∧ Below w.heap.size w wr) (fun i _ => l.length - (intOf i).toNat)
  case atStart => exact ⟨0, by omega, rfl, Lib.hid (by simp), Below.refl _ _⟩
  case round =>
    obtain ⟨k, hk, rfl, hall, hb⟩ := hrel
    by_cases hlt : k < l.length
    · have hki : (k : Int) < (l.length : Int) := by omega
      obtain ⟨b, off, rfl, hbB, hcell⟩ := HA.out.atts (by omega)
      obtain ⟨e0, e1, e2, e3⟩ := hcell k hlt
      have d0 := (hb.cell (p := ⟨b, off + k * 4, none⟩) (Nat.lt_of_lt_of_le hbB hB)).trans e0
      have d1 := (hb.cell (p := ⟨b, off + k * 4 + 1, none⟩) (Nat.lt_of_lt_of_le hbB hB)).trans e1
      have d2 := (hb.cell (p := ⟨b, off + k * 4 + 2, none⟩) (Nat.lt_of_lt_of_le hbB hB)).trans e2
      have d3 := (hb.cell (p := ⟨b, off + k * 4 + 3, none⟩) (Nat.lt_of_lt_of_le hbB hB)).trans e3
      have dg := (hb.cell (p := ⟨g, 0, none⟩) hgl).trans hg
      clear e0 e1 e2 e3 hcell
      have hz := hb.size
      have HF := Lib.hid (fun h => find_hit l s k hlt h hall.out)
      have HT : Hid (isN s l[k] = false → ∀ x ∈ l.take (k + 1), isN s x = false) := by
        refine Lib.hid fun h x hx => ?_
        rw [List.take_succ_eq_append_getElem hlt] at hx
        rcases List.mem_append.1 hx with hx | hx
        · exact hall.out x hx
        · simp at hx; rw [hx]; exact h
      have HK : Hid (isN s l[k] = true → (k : Int) = r) := by
        refine Lib.hid fun h => ?_
        rcases HR.out with ⟨j, hj, rfl, h1, h2⟩ | ⟨_, h1⟩
        · have := HF.out h
          have h3 := find_hit l s j hj h1 h2
          have : k = j := by
            rcases Nat.lt_trichotomy k j with h4 | h4 | h4
            · have := h2 l[k] (List.mem_take_iff_getElem.2 ⟨k, by omega, rfl⟩)
              rw [h] at this; cases this
            · exact h4
            · have := hall.out l[j] (List.mem_take_iff_getElem.2 ⟨j, by omega, rfl⟩)
              rw [h1] at this; cases this
          rw [this]
        · have := h1 l[k] (List.getElem_mem hlt)
          rw [h] at this; cases this
      clear HF
      generalize l[k] = x at *
      go_wp2_with fail
      refine (FindC_calls x s g wr dg).mono ?_
      rintro e w2 ⟨rfl, hb2⟩
      have hbW := hb.trans (hb2.mono hz)
      cases hx : isN s x
      · have hrr := Lib.hid (HT.out hx)
        go_wp2
        go_roundw
        case rel => exact ⟨k + 1, by omega, by go_num, hrr, hbW⟩
        case measure => simp [intOf]; omega
      · have HE := Lib.hid (HK.out hx)
        go_wp2
        go_ret
        exact ⟨by rw [← HE.out]; rfl, hbW⟩
    · have hki : ¬ (k : Int) < (l.length : Int) := by omega
      have HE : Hid (r = -1) := by
        refine Lib.hid ?_
        rcases HR.out with ⟨j, hj, _, h1, _⟩ | ⟨h, _⟩
        · have := hall.out l[j] (List.mem_take_iff_getElem.2 ⟨j, by omega, rfl⟩)
          rw [h1] at this; cases this
        · exact h
      go_wp2
      go_ret
      exact ⟨by rw [HE.out]; rfl, hb⟩

set_option maxHeartbeats 2000000 in
theorem Find_calls (A : Option Addr) (c : Nat) (l : List Att) (s : ByteArray) (w : World) (B : Nat) (hR : Reads w B 4 A l.length (l.flatMap attc)) (hB : B ≤ w.heap.size) (hlen : l.length ≤ 1000000) :
    Calls Try.prog 51 #[.slice A l.length c, .string s] w fun e w' => e = .returned (findV l s) ∧ Below w.heap.size w w' := by
  have hw1 : Below w.heap.size w (w.alloc (.cells #[.string s] 9)) := (Below.refl _ _).alloc (Nat.le_refl _) _
  have hw2 : Below w.heap.size w ((w.alloc (.cells #[.string s] 9)).alloc (.cells #[.int .i64 0, .int .i64 0, .string { data := #[] }] 28)) := hw1.alloc (by simp) _
  have hx := (Blk.new w 9 #[.string s]).alloc (.cells #[.int .i64 0, .int .i64 0, .string { data := #[] }] 28)
  have hy := Blk.new (w.alloc (.cells #[.string s] 9)) 28 #[.int .i64 0, .int .i64 0, .string { data := #[] }]
  have hc0 : ((w.alloc (.cells #[.string s] 9)).alloc (.cells #[.int .i64 0, .int .i64 0, .string { data := #[] }] 28)).cell? ⟨w.heap.size, 0, none⟩ = some (.string s) := hx.cell 0
  have hR2 := hR.below hw2 hB
  rcases first_of s l with ⟨k, hk, h1, h2⟩ | h1
  · have hF := find_hit l s k hk h1 h2
    have HE : Hid (findV l s = .tuple #[vv l[k].2.1 l[k].2.2.1 l[k].2.2.2, .bool true]) := Lib.hid (by simp [findV, hF])
    have HI := Lib.hid (IndexFunc_calls A c l s w.heap.size _ B hR2 (by simp; omega) hlen hc0 (k : Int) (.inl ⟨k, hk, rfl, h1, h2⟩))
    obtain ⟨b, off, rfl, hbB, hcell⟩ := hR.atts (by omega)
    obtain ⟨e0, e1, e2, e3⟩ := hcell k hk
    clear hcell hF h1 h2 hc0 hR
    have hkl : (k : Int) < (l.length : Int) := by omega
    generalize l[k] = x at *
    obtain ⟨xs, xk, xn, xt⟩ := x
    simp only at e0 e1 e2 e3 HE
    go_enter Try.func51, Try.ntmps51
    go_wp2_with fail
    refine HI.out.mono ?_
    rintro e w3 ⟨rfl, hb3⟩
    have hbw := hw2.trans (hb3.mono hw2.size)
    have d1 := (hbw.cell (p := ⟨b, off + k * 4 + 1, none⟩) (Nat.lt_of_lt_of_le hbB hB)).trans e1
    have d2 := (hbw.cell (p := ⟨b, off + k * 4 + 2, none⟩) (Nat.lt_of_lt_of_le hbB hB)).trans e2
    have d3 := (hbw.cell (p := ⟨b, off + k * 4 + 3, none⟩) (Nat.lt_of_lt_of_le hbB hB)).trans e3
    have hy3 := hy.below hb3 (by simp)
    have f0 := hy3.frozen 0
    have f1 := hy3.frozen 1
    have f2 := hy3.frozen 2
    have q0 := hy3.cell 0
    have q1 := hy3.cell 1
    have q2 := hy3.cell 2
    simp at f0 f1 f2 q0 q1 q2
    clear e0 e1 e2 e3 hR2
    go_wp2
    have hz := ((hy3.set_ 0 (.int .i64 xk)).set_ 1 (.int .i64 xn)).set_ 2 (.string xt)
    have g0 := hz.cell 0
    have g1 := hz.cell 1
    have g2 := hz.cell 2
    simp at g0 g1 g2
    refine bodyPost_ret (v := .tuple #[vv xk xn xt, .bool true]) (by simp [results, Try.results51, go_sem, g0, g1, g2]) rfl ⟨by rw [HE.out], ?_⟩
    exact ((hbw.setCell (by simp) _).setCell (by simp) _).setCell (by simp) _
  · have hF := find_miss l s h1
    have HE : Hid (findV l s = .tuple #[vv 0 0 { data := #[] }, .bool false]) := Lib.hid (by simp [findV, hF])
    have HI := Lib.hid (IndexFunc_calls A c l s w.heap.size _ B hR2 (by simp; omega) hlen hc0 (-1) (.inr ⟨rfl, h1⟩))
    clear hF h1 hc0 hR
    go_enter Try.func51, Try.ntmps51
    go_wp2_with fail
    refine HI.out.mono ?_
    rintro e w3 ⟨rfl, hb3⟩
    have hbw := hw2.trans (hb3.mono hw2.size)
    have hy3 := hy.below hb3 (by simp)
    have f0 := hy3.frozen 0
    have f1 := hy3.frozen 1
    have f2 := hy3.frozen 2
    have q0 := hy3.cell 0
    have q1 := hy3.cell 1
    have q2 := hy3.cell 2
    simp at f0 f1 f2 q0 q1 q2
    clear hR2
    go_wp2
    have hz := ((hy3.set_ 0 (.int .i64 0)).set_ 1 (.int .i64 0)).set_ 2 (.string { data := #[] })
    have g0 := hz.cell 0
    have g1 := hz.cell 1
    have g2 := hz.cell 2
    simp at g0 g1 g2
    refine bodyPost_ret (v := .tuple #[vv 0 0 { data := #[] }, .bool false]) (by simp [results, Try.results51, go_sem, g0, g1, g2]) rfl ⟨by rw [HE.out], ?_⟩
    exact ((hbw.setCell (by simp) _).setCell (by simp) _).setCell (by simp) _

section
variable {l la lb : List Att} {b : List UInt8} {v va vb : Value} {w : World}
theorem Find_evt (s : ByteArray) (h : evt l v w) (hlen : l.length ≤ 1000000) : Calls Try.prog 51 #[v, .string s] w fun e w' => e = .returned (findV l s) ∧ Below w.heap.size w w' := by
  obtain ⟨A, c, rfl, hR⟩ := h
  exact Find_calls A c l s w _ hR (Nat.le_refl _) hlen
end
theorem findV_ex (l : List Att) (s : ByteArray) : ∃ k n t b, findV l s = .tuple #[vv k n t, .bool b] := by
  unfold findV
  split
  · exact ⟨_, _, _, _, rfl⟩
  · exact ⟨_, _, _, _, rfl⟩

end Go.Proofs.Ytejdbdfofehdpaa
