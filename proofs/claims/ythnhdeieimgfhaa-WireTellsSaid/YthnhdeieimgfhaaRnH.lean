/-
  The walks of putEntries and putIDs of the document's answer of layer 13. Conditions: the loads are of a bounded size.
-/
import Derived.Test.YthnhdeieimgfhaaRnE
import Derived.Test.YthnhdeieimgfhaaRnD
import Derived.Test.YthnhdeieimgfhaaRnG
set_option maxRecDepth 100000
namespace Go.Proofs.Ythnhdeieimgfhaa
open Go Go.RowKit

theorem encEnR_len13 (x : Ent) (hf : fitEn x) : (encEnR x).length ≤ 20000 := by
  unfold encEnR
  split
  · rename_i h; exact encEn_len h hf
  · simp
theorem encEb_len13 (x : Ent) (hf : fitEn x) : (encEb x).length ≤ 20009 := by
  have h1 := encEnR_len13 x hf
  have h2 := packN_len (encEnR x).length (by omega)
  simp only [encEb, packB, List.length_append]
  omega
theorem encId_len13 (a : Idn) (hf : fitI a) : (encId a).length ≤ 27 := by
  have h1 := packN_len (kindN a.1) (kindN_lt _)
  have h2 := packN_len a.2.1 hf.2.1
  have h3 := packN_len a.2.2 hf.2.2
  simp only [encId, List.length_append]
  omega
theorem flat_bound {α : Type} (enc : α → List UInt8) (n : Nat) : ∀ (l : List α), (∀ x ∈ l, (enc x).length ≤ n) → (l.flatMap enc).length ≤ n * l.length
  | [], _ => by simp
  | x :: l, h => by
    have h1 := h x (by simp)
    have h2 := flat_bound enc n l fun y hy => h y (by simp [hy])
    simp only [List.flatMap_cons, List.length_append, List.length_cons, Nat.mul_succ]
    omega
theorem len_u64 (n : Nat) (h : n ≤ 1000000) : IntKind.u64.wrap (n : Int) = (n : Int) := by
  simp only [IntKind.wrap, show (2 : Int) ^ IntKind.u64.bits = 18446744073709551616 from rfl]; rw [Int.emod_eq_of_lt (by omega) (by omega)]; simp [show IntKind.u64.signed = false from rfl]

set_option maxHeartbeats 4000000 in
theorem PutEntries_calls (l : List Ent) (v : Value) (w : World) (h : lst enS l v w) (hlen : l.length ≤ 1000) (hs : ∀ x ∈ l, litEn x) (hf : ∀ x ∈ l, fitEn x) :
    Calls Try.prog 40 #[v] w fun e w' => ∃ v', e = .returned v' ∧ Own w' w.heap.size 5 v' (layL encEb l) ∧ K w w' := by
  obtain ⟨D, d, rfl, hl, -⟩ := h
  have HL := Lib.hid hl
  have HS := Lib.hid hs
  have HF := Lib.hid hf
  have HR : Hid (layL encEb l = packN l.length ++ l.flatMap encEb) := Lib.hid rfl
  have hwr := len_u64 l.length (by omega)
  have hpl := packN_len l.length (by omega)
  have HLN : Hid (∀ j, (packN l.length ++ (l.take j).flatMap encEb).length ≤ 21000000) := Lib.hid fun j => by
    have h1 := flat_bound encEb 20009 (l.take j) fun x hx => encEb_len13 x (hf x (List.mem_of_mem_take hx))
    have h2 : (l.take j).length ≤ 1000 := by simp; omega
    simp only [List.length_append]
    omega
  have kk := K.rf w
  obtain ⟨bs, hbs⟩ : ∃ b, Hid (b = w.heap.size) := ⟨_, Lib.hid rfl⟩
  clear hl hs hf
  go_enter Try.func40, Try.ntmps40
  go_wp2_with fail
  refine (N13_calls l.length (by omega) w).mono ?_
  rintro e w1 ⟨v1, rfl, ho1, k1⟩
  have HO1 : Hid (Own w1 bs 5 v1 (packN l.length ++ (l.take 0).flatMap encEb)) := Lib.hid (by rw [hbs.out]; simpa using ho1)
  clear ho1 kk
  go_wp2_with fail
  go_loopw [3, 4, 5, 6] (fun o i _ _ wr => ∃ j : Nat, j ≤ l.length ∧ i = .int .i64 (j : Int) ∧ Hid (Own wr bs 5 o (packN l.length ++ (l.take j).flatMap encEb)) ∧ K w wr) (fun _ i _ _ _ => l.length - (intOf i).toNat)
  case atStart => exact ⟨0, by omega, rfl, HO1, k1⟩
  case round =>
    clear k1 HO1
    obtain ⟨j, hj, rfl, HO, kr⟩ := hrel
    by_cases hlt : j < l.length
    · have hji : (j : Int) < (l.length : Int) := by omega
      obtain ⟨b1, off, cs, rfl, hcl, hrl, d0, d⟩ := lsr_cells HL.out j hlt (by decide)
      have HT : Hid (packN l.length ++ (l.take (j + 1)).flatMap encEb = packN l.length ++ (l.take j).flatMap encEb ++ encEb l[j]) := Lib.hid (by rw [List.take_succ_eq_append_getElem hlt, List.flatMap_append]; simp)
      have hsx := HS.out _ (List.getElem_mem hlt)
      have hfx := HF.out _ (List.getElem_mem hlt)
      have hlj := HLN.out j
      generalize l[j] = x at *
      generalize packN l.length ++ (l.take j).flatMap encEb = T at *
      obtain ⟨vf, ve, rfl, hf, he⟩ := hrl wr kr
      have d0 : wr.cell? ⟨b1, off + j * 8, none⟩ = some (.int .i64 x.kind) := d0 wr kr
      have d : ∀ i, i < 8 → wr.cell? ⟨b1, off + j * 8 + i, none⟩ = (entA x vf ve)[i]? := fun i hi => (d wr kr i hi).trans Array.getElem?_toList
      have C1 := Lib.hid (REncode_calls x (.agg (entA x vf ve)) wr ⟨vf, ve, rfl, hf, he⟩ hsx hfx)
      have hel := encEnR_len13 x hfx
      have HEB : Hid (encEb x = packN (encEnR x).length ++ encEnR x) := Lib.hid rfl
      obtain ⟨Af, cf, rfl⟩ := flt_slice hf
      obtain ⟨Ae, ce, rfl⟩ := lst_slice he
      clear hrl hcl hsx hfx hf he
      go_wp2_with fail
      refine C1.out.mono ?_
      rintro e w2 ⟨v2, rfl, ho2, k2⟩
      obtain ⟨A2, c2, rfl, hR2⟩ := owA_sl ho2
      have hor : Own w2 bs 5 _ T := row_below HO.out k2
      replace kr := kr.tr k2
      clear C1 d0 d ho2 HO k2
      generalize encEnR x = E at *
      have hpe := packN_len E.length (by omega)
      go_wp2_with fail
      refine (RefBytes_calls A2 E.length c2 E w2 _ hR2 (Nat.le_refl _) (by omega)).mono ?_
      rintro e w8 ⟨v8, rfl, ho8, k8⟩
      have hor2 : Own w8 bs 5 _ T := row_below hor k8
      replace kr := kr.tr k8
      have hsl := sl_own ho8
      have hlp : T.length + (packN E.length ++ E).length ≤ 1000000000 := by simp only [List.length_append]; omega
      clear ho8 k8 hor hR2
      go_wp2_with (at_builtin; refine wpList_appB rfl _ _ rfl bs _ _ T (packN E.length ++ E) rfl hor2 rfl hsl hlp (by rw [hbs.out]; exact kr.size) ?_)
      intro v9 w9 ho9 hb9
      have HO9 : Hid (Own w9 bs 5 v9 (packN l.length ++ (l.take (j + 1)).flatMap encEb)) := Lib.hid (by rw [HT.out, HEB.out]; exact ho9)
      have kr9 := kr.trans (hb9.mono (by rw [hbs.out]; exact Nat.le_refl _))
      clear ho9 hb9 hor2 hsl kr
      go_wp2
      go_roundw
      case rel => exact ⟨j + 1, by omega, by go_num, HO9, kr9⟩
      case measure => simp [intOf]; omega
    · have hji : ¬ (j : Int) < (l.length : Int) := by omega
      have hO := HO.out
      rw [List.take_of_length_le (by omega)] at hO
      have HF2 : Hid (Own wr w.heap.size 5 _ (layL encEb l)) := Lib.hid (by rw [HR.out, ← hbs.out]; exact hO)
      clear hO HO
      go_wp2
      go_ret
      exact ⟨_, rfl, HF2.out, kr⟩

set_option maxHeartbeats 4000000 in
theorem PutIDs_calls (l : List Idn) (v : Value) (w : World) (h : lst idS l v w) (hlen : l.length ≤ 1000) (hf : ∀ x ∈ l, fitI x) :
    Calls Try.prog 41 #[v] w fun e w' => ∃ v', e = .returned v' ∧ Own w' w.heap.size 5 v' (layL encId l) ∧ K w w' := by
  obtain ⟨D, d, rfl, hl, -⟩ := h
  have HL := Lib.hid hl
  have HF := Lib.hid hf
  have HR : Hid (layL encId l = packN l.length ++ l.flatMap encId) := Lib.hid rfl
  have hwr := len_u64 l.length (by omega)
  have hpl := packN_len l.length (by omega)
  have HLN : Hid (∀ j, (packN l.length ++ (l.take j).flatMap encId).length ≤ 21000000) := Lib.hid fun j => by
    have h1 := flat_bound encId 27 (l.take j) fun x hx => encId_len13 x (hf x (List.mem_of_mem_take hx))
    have h2 : (l.take j).length ≤ 1000 := by simp; omega
    simp only [List.length_append]
    omega
  have kk := K.rf w
  obtain ⟨bs, hbs⟩ : ∃ b, Hid (b = w.heap.size) := ⟨_, Lib.hid rfl⟩
  clear hl hf
  go_enter Try.func41, Try.ntmps41
  go_wp2_with fail
  refine (N13_calls l.length (by omega) w).mono ?_
  rintro e w1 ⟨v1, rfl, ho1, k1⟩
  have HO1 : Hid (Own w1 bs 5 v1 (packN l.length ++ (l.take 0).flatMap encId)) := Lib.hid (by rw [hbs.out]; simpa using ho1)
  clear ho1 kk
  go_wp2_with fail
  go_loopw [3, 4] (fun o i wr => ∃ j : Nat, j ≤ l.length ∧ i = .int .i64 (j : Int) ∧ Hid (Own wr bs 5 o (packN l.length ++ (l.take j).flatMap encId)) ∧ K w wr) (fun _ i _ => l.length - (intOf i).toNat)
  case atStart => exact ⟨0, by omega, rfl, HO1, k1⟩
  case round =>
    clear k1 HO1
    obtain ⟨j, hj, rfl, HO, kr⟩ := hrel
    by_cases hlt : j < l.length
    · have hji : (j : Int) < (l.length : Int) := by omega
      obtain ⟨b1, off, cs, rfl, hcl, hrl, d0, d⟩ := lsr_cells HL.out j hlt (by decide)
      have HT : Hid (packN l.length ++ (l.take (j + 1)).flatMap encId = packN l.length ++ (l.take j).flatMap encId ++ encId l[j]) := Lib.hid (by rw [List.take_succ_eq_append_getElem hlt, List.flatMap_append]; simp)
      have hfx := HF.out _ (List.getElem_mem hlt)
      have hlj := HLN.out j
      generalize l[j] = x at *
      generalize packN l.length ++ (l.take j).flatMap encId = T at *
      obtain rfl := hrl wr kr
      have d0 : wr.cell? ⟨b1, off + j * 3, none⟩ = some (.int .i64 x.1) := d0 wr kr
      have d : ∀ i, i < 3 → wr.cell? ⟨b1, off + j * 3 + i, none⟩ = (#[.int .i64 x.1, .int .u64 (x.2.1 : Int), .int .u64 (x.2.2 : Int)] : Array Value)[i]? := fun i hi => (d wr kr i hi).trans Array.getElem?_toList
      have C1 := Lib.hid (R13Id_calls x hfx wr)
      have hel := encId_len13 x hfx
      clear hrl hcl hfx
      go_wp2_with fail
      refine C1.out.mono ?_
      rintro e w8 ⟨v8, rfl, ho8, k8⟩
      have hor2 : Own w8 bs 5 _ T := row_below HO.out k8
      replace kr := kr.tr k8
      have hsl := sl_own ho8
      clear ho8 k8 C1 d0 d HO
      go_wp2_with (at_builtin; refine wpList_appB rfl _ _ rfl bs _ _ T (encId x) rfl hor2 rfl hsl (by omega) (by rw [hbs.out]; exact kr.size) ?_)
      intro v9 w9 ho9 hb9
      have HO9 : Hid (Own w9 bs 5 v9 (packN l.length ++ (l.take (j + 1)).flatMap encId)) := Lib.hid (by rw [HT.out]; exact ho9)
      have kr9 := kr.trans (hb9.mono (by rw [hbs.out]; exact Nat.le_refl _))
      clear ho9 hb9 hor2 hsl kr
      go_wp2
      go_roundw
      case rel => exact ⟨j + 1, by omega, by go_num, HO9, kr9⟩
      case measure => simp [intOf]; omega
    · have hji : ¬ (j : Int) < (l.length : Int) := by omega
      have hO := HO.out
      rw [List.take_of_length_le (by omega)] at hO
      have HF2 : Hid (Own wr w.heap.size 5 _ (layL encId l)) := Lib.hid (by rw [HR.out, ← hbs.out]; exact hO)
      clear hO HO
      go_wp2
      go_ret
      exact ⟨_, rfl, HF2.out, kr⟩
end Go.Proofs.Ythnhdeieimgfhaa
