/-
  The walk of numbers of the document's answer of layer 11, and an append of bytes onto a row of the call's own. Conditions: the numbers are of 64 bits.
-/
import Derived.Test.YthnhdeieimgfhaaRnB
import Derived.Test.YthnhdeieimgfhaaRefA
import Derived.Test.YthnhdeieimgfhaaNA
set_option maxRecDepth 100000
namespace Go.Proofs.Ythnhdeieimgfhaa
open Go Go.RowKit

theorem wpList_appB {w : World} {ops : Array Oper} {rest : List Oper} {o : Oper} {a : Act} {Q : Exit → Act → World → Prop} (hgd : o.guard = none) (s x : Operand)
    (ho : o.op = .call { callee := .builtin .append, args := #[s, x], argTypes := #[30, 30] }) (base : Nat) (v u : Value) (l m : List UInt8) (hs : a.eval s = v) (hown : Own w base 5 v l) (hx : a.eval x = u) (hu : sl m u w)
    (hl : l.length + m.length ≤ 1000000000) (hbase : base ≤ w.heap.size)
    (h : ∀ v' w', Own w' base 5 v' (l ++ m) → Below base w w' → wpList Try.prog ops Q rest (a.put o.dst v') w') : wpList Try.prog ops Q (o :: rest) a w := by
  obtain ⟨A, c, rfl, hR⟩ := hu
  refine wpList_app hgd s x 30 ho base 5 _ 1 1 TB v _ _ hs hown w.heap.size A m.length c (bys m) hx hR (bys_one _) (by omega) hbase fun v' w' h1 _ _ h4 => h v' w' ?_ h4
  unfold Own
  rw [bys_append]
  simpa [Own] using h1

set_option maxHeartbeats 2000000 in
theorem RNumbers_calls (A : Option Addr) (c : Nat) (l : List Nat) (w : World) (B : Nat) (hR : Reads w B 1 A l.length (l.map fun n : Nat => Value.int .u64 (n : Int))) (hB : B ≤ w.heap.size) (hn : ∀ n ∈ l, n < 18446744073709551616) (hlen : l.length ≤ 1000) :
    Calls Try.prog 115 #[.slice A l.length c] w fun e w' => ∃ v', e = .returned v' ∧ Own w' w.heap.size 5 v' (l.flatMap packN) ∧ K w w' := by
  have HRd := Lib.hid hR
  have HN := Lib.hid hn
  have HL : Hid (∀ j, ((l.take j).flatMap packN).length ≤ 9 * j) := Lib.hid fun j => by
    have key : ∀ m : List Nat, (∀ n ∈ m, n < 18446744073709551616) → (m.flatMap packN).length ≤ 9 * m.length := by
      intro m
      induction m with
      | nil => intro _; simp
      | cons x m ih =>
        intro h
        have h1 := packN_len x (h x (by simp))
        have h2 := ih fun n hn => h n (by simp [hn])
        simp only [List.flatMap_cons, List.length_append, List.length_cons]
        omega
    have := key (l.take j) fun n h => hn n (List.mem_of_mem_take h)
    have h2 : (l.take j).length ≤ j := by simp; omega
    omega
  have HS : Hid (∀ j (h : j < l.length), (l.take (j + 1)).flatMap packN = (l.take j).flatMap packN ++ packN l[j]) := Lib.hid fun j h => by
    rw [List.take_succ_eq_append_getElem h, List.flatMap_append]; simp
  have ho0 : Hid (Own w w.heap.size 5 (.slice none 0 0) ((l.take 0).flatMap packN)) := Lib.hid (World.ownsRow_nil w w.heap.size 5 1)
  have kk := K.rf w
  clear hR hn
  go_enter Try.func115, Try.ntmps115
  go_wp2_with fail
  go_loopw [3, 4] (fun o i wr => ∃ j : Nat, j ≤ l.length ∧ i = .int .i64 (j : Int) ∧ Hid (Own wr w.heap.size 5 o ((l.take j).flatMap packN)) ∧ K w wr) (fun _ i _ => l.length - (intOf i).toNat)
  case atStart => exact ⟨0, by omega, rfl, ho0, kk⟩
  case round =>
    clear kk ho0
    obtain ⟨j, hj, rfl, HO, kr⟩ := hrel
    by_cases hlt : j < l.length
    · have hji : (j : Int) < (l.length : Int) := by omega
      obtain ⟨b, off, rfl, hbB, hcell⟩ := HRd.out.2 (by simp; omega)
      have d0 : wr.cell? ⟨b, off + j, none⟩ = some (.int .u64 (l[j] : Int)) := by
        refine (kr.cell (p := ⟨b, off + j, none⟩) (Nat.lt_of_lt_of_le hbB hB)).trans (hcell j _ ?_)
        simp [hlt]
      have hnj := HN.out _ (List.getElem_mem hlt)
      have HSj := Lib.hid (HS.out j hlt)
      have hlj := HL.out j
      generalize l[j] = x at *
      generalize (l.take j).flatMap packN = T at *
      have hpx := packN_len x hnj
      clear hcell
      go_wp2_with fail
      refine (RefNumber_calls x hnj wr).mono ?_
      rintro e w2 ⟨v2, rfl, ho2, k2⟩
      have hor : Own w2 w.heap.size 5 _ T := row_below HO.out k2
      have kr2 := kr.tr k2
      have hsl := sl_own ho2
      clear ho2 k2 d0 HO
      go_wp2_with (at_builtin; refine wpList_appB rfl _ _ rfl w.heap.size _ _ T (packN x) rfl hor rfl hsl (by omega) kr2.size ?_)
      intro v3 w3 ho3 hb3
      have HO3 : Hid (Own w3 w.heap.size 5 v3 ((l.take (j + 1)).flatMap packN)) := Lib.hid (by rw [HSj.out]; exact ho3)
      have kr3 := kr2.trans hb3
      clear hor hsl ho3 hb3
      go_wp2
      go_roundw
      case rel => exact ⟨j + 1, by omega, by go_num, HO3, kr3⟩
      case measure => simp [intOf]; omega
    · have hji : ¬ (j : Int) < (l.length : Int) := by omega
      rw [List.take_of_length_le (by omega)] at HO
      go_wp2
      go_ret
      exact ⟨_, rfl, HO.out, kr⟩
end Go.Proofs.Ythnhdeieimgfhaa
