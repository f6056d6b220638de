/-
  Rows of bytes of the call's own in a region that draws its order; the walks of number and id of the document's answer of layer 13. Conditions: the numbers are of 64 bits.
-/
import Derived.Test.YthnhdeieimgfhaaRnC
import Derived.Test.YthnhdeieimgfhaaRegion6
import Derived.Test.YthnhdeieimgfhaaWiA
set_option maxRecDepth 100000
namespace Go.Proofs.Ythnhdeieimgfhaa
open Go Go.RowKit

def owR (base : Nat) (l : List UInt8) (v : Value) (w : World) : Prop := Own w base 5 v l
theorem owR_st (base : Nat) (l : List UInt8) : ∀ v w w', owR base l v w → Below w.heap.size w w' → owR base l v w' := fun _ _ _ h k => row_below h k
theorem owR_row (base : Nat) (l : List UInt8) : ∀ v w w' row, owR base l v w → (∀ b, v.ownBlock = some b → row ≠ some b) → w.grownBy w' row → owR base l v w' := fun _ _ _ _ h hb hg => row_keep h fun g _ h2 h3 => hg.block g h2 fun e => hb g h3 e.symm
theorem grown_rf (w : World) (row : Option Nat) : w.grownBy w row := ⟨rfl, rfl, rfl, Nat.le_refl _, fun _ _ _ => rfl⟩
theorem resA_app {C : World → Prop} {base : Nat} {ρ : Operand → Value} {w : World} {v u : Value} {l m : List UInt8} {φ : Value → World → Prop} (s x : Operand) (ty : TypeId) (hs : ρ s = v) (hown : Own w base 5 v l) (hx : ρ x = u) (hu : sl m u w)
    (hl : l.length + m.length ≤ 1000000000) (hbase : base ≤ w.heap.size) (hC : ∀ w', Below base w w' → C w') (hφ : ∀ v' w', Own w' base 5 v' (l ++ m) → φ v' w') :
    ResA C base v.ownBlock φ w ((execOp ρ (bareOp (.call { callee := .builtin .append, args := #[s, x], argTypes := #[30, 30] }) ty)).run Try.prog w) := by
  obtain ⟨A, c, rfl, hR⟩ := hu
  obtain ⟨v', w', hrun, h2, h3, h4, h5⟩ := run_app (P := Try.prog) w base 30 ty 5 _ 1 1 TB v _ _ hown w.heap.size A m.length c (bys m) hR (bys_one _) (by omega) hbase
  have hrun9 : (execOp ρ (bareOp (.call { callee := .builtin .append, args := #[s, x], argTypes := #[30, 30] }) ty)).run Try.prog w = .ok (.value v') w' := by
    simp only [execOp, bareOp, resolve, invoke, builtin, Sem.run_bind, Sem.run_pure, Result.andThen_ok, List.map_toArray, List.map_cons, List.map_nil, hs, hx, hrun]
  rw [hrun9]
  have ho : Own w' base 5 v' (l ++ m) := by
    unfold Own
    rw [bys_append]
    simpa [Own] using h2
  refine ⟨hφ v' w' ho, hC w' h5, h3, h5, h4.imp id fun h => ⟨_, h, Nat.le_refl _, (h2.lt _ h).2⟩⟩

theorem resFr_move {φ : Nat → Value → World → Prop} {S : List Nat} {ql : List (List Nat × List (Nat × Nat))} {k : Nat} {ρ : Operand → Value} {w : World} {v : Value} {x : Operand} {ty : TypeId} (hx : ρ x = v) (h : φ k v w) (hlt : ∀ b, v.ownBlock = some b → b < w.heap.size)
    (hd : ∀ j ∈ S, j ≠ k → fore ql k ql.length j = false → ∀ v', φ j v' w → ∀ b, v.ownBlock = some b → v'.ownBlock = some b → False) :
    ResFr φ S ql k w ((execOp ρ (bareOp (.move x) ty)).run Try.prog w) := by
  simp only [execOp, bareOp, hx]
  exact ⟨rfl, h, fun b hb => ⟨hlt b hb, fun j hj hjk hf v' hv e => hd j hj hjk hf v' hv b hb e⟩⟩
theorem resA_move {C : World → Prop} {base : Nat} {ρ : Operand → Value} {w : World} {v : Value} {x : Operand} {ty : TypeId} {φ : Value → World → Prop} (h : φ v w) (hc : C w) (hx : ρ x = v) :
    ResA C base v.ownBlock φ w ((execOp ρ (bareOp (.move x) ty)).run Try.prog w) := by
  simp only [execOp, bareOp, hx]
  exact ⟨h, hc, grown_rf _ _, Below.refl _ _, .inl rfl⟩
theorem resA_assign {C : World → Prop} {base : Nat} {ρ : Operand → Value} {w : World} {v : Value} {x : Operand} {ty : TypeId} {φ : Value → World → Prop} (h : φ v w) (hc : C w) (hx : ρ x = v) :
    ResA C base v.ownBlock φ w ((execOp ρ (bareOp (.assign x) ty)).run Try.prog w) := by
  simp only [execOp, bareOp, hx]
  exact ⟨h, hc, grown_rf _ _, Below.refl _ _, .inl rfl⟩

set_option maxHeartbeats 400000 in
theorem N13_calls (n : Nat) (hn : n < 18446744073709551616) (w : World) :
    Calls Try.prog 39 #[.int .u64 (n : Int)] w fun e w' => ∃ v', e = .returned v' ∧ Own w' w.heap.size 5 v' (packN n) ∧ K w w' := by
  go_enter Try.func39, Try.ntmps39
  go_wp2_with fail
  refine (RefNumber_calls n hn w).mono ?_
  rintro e w1 ⟨v1, rfl, ho, hb⟩
  go_wp2
  go_ret
  exact ⟨_, rfl, ho, hb⟩

set_option maxHeartbeats 4000000 in
theorem R13Id_calls (a : Idn) (hf : fitI a) (w : World) :
    Calls Try.prog 42 #[idv a] w fun e w' => ∃ v', e = .returned v' ∧ Own w' w.heap.size 5 v' (encId a) ∧ K w w' := by
  obtain ⟨a0, a1, a2⟩ := a
  obtain ⟨-, h1, h2⟩ := hf
  simp only at h1 h2
  have hE : Hid (encId (a0, a1, a2) = packN (kindN a0) ++ packN a1 ++ packN a2) := Lib.hid (by simp [encId])
  generalize encId (a0, a1, a2) = E at *
  have u1 := u64_wrap a0
  have p0 := packN_len (kindN a0) (kindN_lt _)
  have p1 := packN_len a1 h1
  have p2 := packN_len a2 h2
  have hx := Blk.new w 53 #[.int .i64 a0, .int .u64 (a1 : Int), .int .u64 (a2 : Int)]
  have k1 : K w (w.alloc (.cells #[.int .i64 a0, .int .u64 (a1 : Int), .int .u64 (a2 : Int)] 53)) := (K.rf w).al _
  go_enter Try.func42, Try.ntmps42
  go_upto_region 1 with (fail)
  generalize w.alloc _ = w1 at *
  generalize w.heap.size = g at hx ⊢
  have qx := hx.cells
  obtain ⟨B0, hB0⟩ : ∃ b, Hid (b = w1.heap.size) := ⟨_, Lib.hid rfl⟩
  have HB : B0 ≤ w1.heap.size := by rw [hB0.out]; exact Nat.le_refl _
  have HB2 : w1.heap.size ≤ B0 := by rw [hB0.out]; exact Nat.le_refl _
  have HM := HB
  refine wp_region_rows (fun W => K w1 W ∧ B0 ≤ W.heap.size) B0 [3, 6, 7, 10, 11, 12] [] [(7, 3), (11, 7), (12, 11)] [[], [], [], [7], [], [], [], [11], [], [], [], [12], []] [isV (.pointer (some ⟨g, 0, none⟩)),
    isV (.int .i64 a0),
    isV (.int .u64 (kindN a0 : Int)),
    owR B0 (packN (kindN a0)),
    isV (.pointer (some ⟨g, 1, none⟩)),
    isV (.int .u64 (a1 : Int)),
    owR B0 (packN a1),
    owR B0 (packN (kindN a0) ++ packN a1),
    isV (.pointer (some ⟨g, 2, none⟩)),
    isV (.int .u64 (a2 : Int)),
    owR B0 (packN a2),
    owR B0 (packN (kindN a0) ++ packN a1 ++ packN a2),
    owR B0 (packN (kindN a0) ++ packN a1 ++ packN a2)]
    [([], []), ([0], [(3, 0)]), ([1], [(4, 1)]), ([2], [(5, 2)]), ([], []), ([4], [(7, 4)]), ([5], [(8, 5)]), ([3, 6], [(6, 3), (9, 6)]), ([], []), ([8], [(11, 8)]), ([9], [(12, 9)]), ([7, 10], [(10, 7), (13, 10)]), ([11], [(14, 11)])] 15 rfl (by kernel_rfl) (by kernel_rfl) (by kernel_rfl) (by kernel_rfl) (by decide) (fun _ _ h k => ⟨h.1.tr k, Nat.le_trans h.2 k.size⟩) ⟨Below.drew (Below.refl _ _), HM⟩ ?st1 ?sb1 ?sr1 ?ow1 ?_
  case st1 =>
    simp only [List.forall_mem_cons]
    and_intros
    all_goals first | exact isV_st _ | exact owR_st _ _ | exact sl_st _ | exact anyV_st | simp
  case sb1 =>
    simp only [List.zipIdx_cons, List.zipIdx_nil, List.forall_mem_cons, Nat.zero_add, Nat.reduceAdd]
    and_intros
    all_goals first | exact .inl rfl | exact .inr (fun _ _ _ h _ => h) | simp
  case sr1 =>
    simp only [List.zipIdx_cons, List.zipIdx_nil, List.forall_mem_cons, Nat.zero_add, Nat.reduceAdd]
    and_intros
    all_goals first | exact .inl rfl | exact .inr (owR_row _ _) | simp
  case ow1 =>
    refine ⟨?x1_0, ?x1_1, ?x1_2, ?x1_3, ?x1_4, ?x1_5, ?x1_6, ?x1_7, ?x1_8, ?x1_9, ?x1_10, ?x1_11, ?x1_12, trivial⟩
    case x1_0 | x1_1 | x1_2 | x1_4 | x1_5 | x1_8 | x1_9 =>
      intro V w' kW hp
      try simp only [List.forall_mem_cons, tab_zero, tab_succ, isV] at hp
      simp [wantsG, rhoP, List.lookup, hp, tab_zero, tab_succ, ResG, execOp, bareOp, isV, Below.refl, kW.1, qx, u1, go_sem]
    case x1_3 | x1_6 | x1_10 =>
      refine ⟨rfl, fun V w' kW hp => ?_⟩
      try simp only [List.forall_mem_cons, tab_zero, tab_succ, isV] at hp
      simp [rhoP, List.lookup, hp, tab_zero, tab_succ, ResN, execOp, bareOp, go_sem]
      first
      | refine (N13_calls (kindN a0) (kindN_lt _) w').mono ?_
      | refine (N13_calls a1 h1 w').mono ?_
      | refine (N13_calls a2 h2 w').mono ?_
      rintro e w2 ⟨v, rfl, ho, hb⟩
      exact ⟨v, rfl, own_base kW.2 ho rfl, hb, fun b hb2 => ho.lt b hb2⟩
    case x1_7 =>
      refine ⟨⟨rfl, rfl⟩, fun V w' kW hp => ?_⟩
      simp only [List.forall_mem_cons, tab_zero, tab_succ] at hp
      obtain ⟨h3, h6, -⟩ := hp
      exact resA_app (ρ := rhoP [(6, 3), (9, 6)] _ V) (.tmp 6) (.tmp 9) _ rfl h3 rfl (sl_own h6) (by omega) (Nat.le_trans HB kW.1.size) (fun w'' hb => ⟨kW.1.trans (hb.mono HB2), Nat.le_trans kW.2 hb.size⟩) (fun v' w'' h => h)
    case x1_11 =>
      refine ⟨⟨rfl, rfl⟩, fun V w' kW hp => ?_⟩
      simp only [List.forall_mem_cons, tab_zero, tab_succ] at hp
      obtain ⟨h7, h10, -⟩ := hp
      exact resA_app (ρ := rhoP [(10, 7), (13, 10)] _ V) (.tmp 10) (.tmp 13) _ rfl h7 rfl (sl_own h10) (by simp only [List.length_append]; omega) (Nat.le_trans HB kW.1.size) (fun w'' hb => ⟨kW.1.trans (hb.mono HB2), Nat.le_trans kW.2 hb.size⟩) (fun v' w'' h => h)
    case x1_12 =>
      refine ⟨⟨rfl, rfl⟩, fun V w' kW hp => ?_⟩
      simp only [List.forall_mem_cons, tab_zero, tab_succ] at hp
      obtain ⟨h11, -⟩ := hp
      exact resA_assign h11 kW rfl
  intro V W kW hp
  have h9 : owR B0 (packN (kindN a0) ++ packN a1 ++ packN a2) (V 12) W := hp 12 (by simp) rfl
  clear hp
  simp only [putAll, Act.put, List.setIfInBounds_toArray, List.set_cons_succ, List.set_cons_zero]
  have HF := Lib.hid h9
  obtain ⟨A9, c9, e9, -⟩ := sl_own h9
  have kF := k1.tr kW.1
  generalize V 12 = v9 at *
  subst e9
  clear h9 qx hx kW
  go_wp2
  go_ret
  exact ⟨_, rfl, by rw [hE.out]; exact own_base (by rw [hB0.out]; exact k1.size) HF.out rfl, kF⟩
end Go.Proofs.Ythnhdeieimgfhaa
