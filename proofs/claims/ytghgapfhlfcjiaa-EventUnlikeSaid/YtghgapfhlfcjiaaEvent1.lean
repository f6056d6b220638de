/-
  postilionlaw04.EventTells: the walk: what the program tells of an event is what the document's answer tells. Conditions: none.
-/
import Derived.Test.YtghgapfhlfcjiaaEvJ
import Derived.Test.YtghgapfhlfcjiaaEvI
namespace Go.Proofs.Ytghgapfhlfcjiaa
open Go Go.RowKit

theorem findV_ex (l : List Att) (s : ByteArray) : ∃ k n t b, findV l s = .tuple #[vv k n t, .bool b] := by
  unfold findV
  split
  · exact ⟨_, _, _, _, rfl⟩
  · exact ⟨_, _, _, _, rfl⟩

theorem evt_rep {w : World} {v : Value} (h : repEvent w v) : ∃ l : List Att, evt l v w ∧ ∀ x ∈ l, i64ok x.2.1 ∧ i64ok x.2.2.1 := by
  obtain ⟨A, c, l, rfl, h1, h2, _, _⟩ := h
  exact ⟨l, ⟨A, c, rfl, h1⟩, h2⟩
theorem few_fit {l : List Att} (h : fewE l = true) : l.length ≤ 1000000 ∧ ∀ x ∈ l, x.1.size ≤ 1000000000 := by
  obtain ⟨h1, h2⟩ := few_parts h
  exact ⟨by omega, fun x hx => by have := (h2 x hx).1; omega⟩

set_option maxHeartbeats 8000000 in
set_option maxRecDepth 100000 in
theorem EventTells_walk (v0 v1 : Value) (w : World) (r0 : repEvent w v0) (r1 : repStr w v1) :
    Calls Try.prog 4 #[v0, v1] w fun e w' => e = .returned (.bool true) ∧ Below w.heap.size w w' := by
  obtain ⟨l, hev, hi⟩ := evt_rep r0
  obtain ⟨name, rfl⟩ := r1
  clear r0
  go_enter Try.func4, Try.ntmps4
  go_wp2_with fail
  refine (awake_calls w).mono ?_
  rintro e w1 ⟨rfl, hb1⟩
  have hev1 := evt_st _ _ _ _ hev hb1
  clear hev
  go_wp2_with fail
  refine (Few_evt hev1).mono ?_
  rintro e w' ⟨rfl, rfl⟩
  cases hf : fewE l
  · go_wp2
    go_ret
    exact ⟨rfl, hb1⟩
  obtain ⟨hlen, hsz⟩ := few_fit hf
  have HSZ := Lib.hid hsz
  have HI := Lib.hid hi
  clear hsz hi
  by_cases hn : name.size ≤ 100
  rotate_left
  · have hn' : (100 : Int) < (name.size : Int) := by omega
    go_wp2
    go_ret
    exact ⟨rfl, hb1⟩
  have hn' : ¬ (100 : Int) < (name.size : Int) := by omega
  go_wp2_with fail
  refine (Encode_evt hev1 HI.out).mono ?_
  rintro e w2 ⟨v6, rfl, ho2, hb2⟩
  have hs2 := sl_own ho2
  have hev2 := evt_st _ _ _ _ hev1 hb2
  have hbw2 := hb1.trans (hb2.mono hb1.size)
  clear hev1 hb1 hb2 ho2
  go_wp2_with fail
  refine (RefEncode_evt hev2 hlen HSZ.out HI.out).mono ?_
  rintro e w3 ⟨v8, rfl, ho3, hb3⟩
  have hr3 := sl_own ho3
  have hs3 := sl_st _ _ _ _ hs2 hb3
  have hev3 := evt_st _ _ _ _ hev2 hb3
  have hbw3 := hbw2.trans (hb3.mono hbw2.size)
  clear hev2 hbw2 hb3 ho3 hs2
  obtain ⟨fk, fn, fs, fb, hfv⟩ := findV_ex l name
  have hfc : ∀ W, evt l v0 W → Calls Try.prog 14 #[v0, .string name] W fun e w' => e = .returned (.tuple #[vv fk fn fs, .bool fb]) ∧ Below W.heap.size W w' := fun W h => by
    have := Find_evt name h hlen; rwa [hfv] at this
  have hrc : ∀ W, evt l v0 W → Calls Try.prog 15 #[v0, .string name] W fun e w' => e = .returned (.tuple #[vv fk fn fs, .bool fb]) ∧ Below W.heap.size W w' := fun W h => by
    have := RefFind_evt name h hlen; rwa [hfv] at this
  have HFC := Lib.hid hfc
  have HRC := Lib.hid hrc
  clear hfc hrc hfv
  go_wp2_with fail
  refine (HFC.out _ hev3).mono ?_
  rintro e w4 ⟨rfl, hb4⟩
  have hev4 := evt_st _ _ _ _ hev3 hb4
  have hs4 := sl_st _ _ _ _ hs3 hb4
  have hr4 := sl_st _ _ _ _ hr3 hb4
  have hbw4 := hbw3.trans (hb4.mono hbw3.size)
  clear hev3 hs3 hr3 hbw3 hb4
  have hk5 : Below w4.heap.size w4 (w4.alloc (.cells #[.int .i64 fk, .int .i64 fn, .string fs] 31)) := (Below.refl _ _).alloc (Nat.le_refl _) _
  have hx5 := Blk.new w4 31 #[.int .i64 fk, .int .i64 fn, .string fs]
  have hev5 := evt_st _ _ _ _ hev4 hk5
  have hs5 := sl_st _ _ _ _ hs4 hk5
  have hr5 := sl_st _ _ _ _ hr4 hk5
  have hbw5 := hbw4.trans (hk5.mono hbw4.size)
  go_wp2_with fail
  generalize w4.alloc (.cells #[.int .i64 fk, .int .i64 fn, .string fs] 31) = w5 at *
  generalize w4.heap.size = g6 at *
  clear hev4 hs4 hr4 hbw4 hk5
  refine (HRC.out _ hev5).mono ?_
  rintro e w6 ⟨rfl, hb6⟩
  have hev6 := evt_st _ _ _ _ hev5 hb6
  have hs6 := sl_st _ _ _ _ hs5 hb6
  have hr6 := sl_st _ _ _ _ hr5 hb6
  have hx6 := hx5.below hb6 hx5.lt
  have hbw6 := hbw5.trans (hb6.mono hbw5.size)
  clear hev5 hs5 hr5 hbw5 hb6 hx5
  have hk7 : Below w6.heap.size w6 (w6.alloc (.cells #[.int .i64 fk, .int .i64 fn, .string fs] 31)) := (Below.refl _ _).alloc (Nat.le_refl _) _
  have hy7 := Blk.new w6 31 #[.int .i64 fk, .int .i64 fn, .string fs]
  have hev7 := evt_st _ _ _ _ hev6 hk7
  have hs7 := sl_st _ _ _ _ hs6 hk7
  have hr7 := sl_st _ _ _ _ hr6 hk7
  have hx7 := hx6.below hk7 hx6.lt
  have hbw7 := hbw6.trans (hk7.mono hbw6.size)
  go_upto_region 8 with (fail)
  generalize w6.alloc (.cells #[.int .i64 fk, .int .i64 fn, .string fs] 31) = w7 at *
  generalize w6.heap.size = g8 at *
  clear hev6 hs6 hr6 hbw6 hk7 hx6
  have c0 := hx7.cell 0
  have c1 := hx7.cell 1
  have c2 := hx7.cell 2
  have d0 := hy7.cell 0
  have d1 := hy7.cell 1
  have d2 := hy7.cell 2
  simp at c0 c1 c2 d0 d1 d2
  have t1 := str hs7
  have t2 := str hr7
  have hz7 := hbw7.size
  clear hx7 hy7 hs7 hr7
  go_wp2_with fail
  refine (ECheck_evt hev7).mono ?_
  rintro e w8 ⟨rfl, hb8⟩
  have hev8 := evt_st _ _ _ _ hev7 hb8
  have hbw8 := hbw7.trans (hb8.mono hz7)
  clear hev7 hb8 hbw7 t1 t2 c0 c1 c2 d0 d1 d2
  go_wp2_with fail
  refine (RefECheck_evt hev8 hlen HSZ.out).mono ?_
  rintro e w9 ⟨rfl, hb9⟩
  have hbw9 := hbw8.trans (hb9.mono hbw8.size)
  clear hev8 hb9 hbw8
  go_wp2_with fail
  refine (Name_calls name _).mono ?_
  rintro e w' ⟨rfl, rfl⟩
  go_wp2_with fail
  refine (RefName_calls name _ (by omega)).mono ?_
  rintro e w' ⟨rfl, rfl⟩
  go_wp2
  go_ret
  exact ⟨by simp, hbw9⟩
end Go.Proofs.Ytghgapfhlfcjiaa
