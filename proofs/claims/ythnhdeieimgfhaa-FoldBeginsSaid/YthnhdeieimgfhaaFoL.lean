/-
  The walk of fold.on (layer 16). Conditions: lists of at most a million.
-/
import Derived.Test.YthnhdeieimgfhaaFoK
import Derived.Test.YthnhdeieimgfhaaSmallMap
import Derived.Test.YthnhdeieimgfhaaNG
set_option maxRecDepth 100000
namespace Go.Proofs.Ythnhdeieimgfhaa
open Go Go.RowKit

theorem stepS_bad {s : Stt} {r : Rec} (h : okRec r = false) : stepS s r = (s, 110) := by simp [stepS, h]
def resS (s : Stt) : Option Stt → Stt × Int
  | none => (s, 160)
  | some t => (t, 0)
theorem stepS_ok {s : Stt} {r : Rec} {o : Option Stt} (h : okRec r = true) (e : onS s r = o) : stepS s r = resS s o := by subst e; simp only [stepS, h, if_true]; cases onS s r <;> rfl
theorem onS_1 {s : Stt} {r : Rec} (h : r.kind = 1) : onS s r = on1 s r := by simp [onS, h]
theorem onS_2 {s : Stt} {r : Rec} (h : r.kind = 2) : onS s r = on2 s r := by simp [onS, h]
theorem onS_3 {s : Stt} {r : Rec} (h : r.kind = 3) : onS s r = on3 s r := by simp [onS, h]
theorem onS_4 {s : Stt} {r : Rec} (h : r.kind = 4) : onS s r = on4 s r := by simp [onS, h]
theorem onS_5 {s : Stt} {r : Rec} (h : r.kind = 5) : onS s r = on5 s r := by simp [onS, h]
theorem okRec_15 {r : Rec} (h : okRec r = true) : r.kind = 1 ∨ r.kind = 2 ∨ r.kind = 3 ∨ r.kind = 4 ∨ r.kind = 5 := by
  rcases okRec_kind h with ⟨g, _⟩ | ⟨g, _⟩ | ⟨g, _⟩ <;> omega

/-- What is known of a record and a state ahead of 'on'. -/
structure OnH (base g : Nat) (s : Stt) (r : Rec) (vl vp va v : Value) (c1 c2 : List (List Value)) (w : World) : Prop where
  st : StoV base g s vl vp va c1 c2 w
  rc : ∀ W, UpN (fun k => k = g ∨ vl.ownBlock = some k ∨ vp.ownBlock = some k ∨ va.ownBlock = some k) w W → rcd r v W
  low : base ≤ w.heap.size
  sz : s.list.length ≤ 900000 ∧ s.prom.length ≤ 900000 ∧ s.ab.length ≤ 900000
  sm : smallEn r.e
  fit : fitRec r
theorem OnH.onV {base g gs gr : Nat} {s : Stt} {r : Rec} {vl vp va vf ve : Value} {c1 c2 : List (List Value)} {w : World} (h : OnH base g s r vl vp va (.agg (recA r vf ve)) c1 c2 w) {W : World} (k : K w W) (b1 : Blk W gs 115 #[.pointer (some ⟨g, 0, none⟩)]) (b2 : Blk W gr 60 (recA r vf ve)) :
    OnV base g gs gr s r vl vp va vf ve c1 c2 W := by
  refine ⟨h.st.st k, b1, b2, fun W' u => ?_, Nat.le_trans h.low k.size, h.sz, h.sm⟩
  obtain ⟨vf', ve', e, hf, he⟩ := h.rc W' ((UpN.of_k k _).tr u)
  injection e with e
  have e := congrArg Array.toList e
  simp at e
  obtain ⟨rfl, rfl⟩ := e
  exact ⟨_, _, rfl, hf, he⟩

set_option maxHeartbeats 8000000 in
theorem On_calls {base g : Nat} {s : Stt} {r : Rec} {vl vp va v : Value} {c1 c2 : List (List Value)} (w : World) (h : OnH base g s r vl vp va v c1 c2 w) :
    Calls Try.prog 73 #[.pointer (some ⟨g, 0, none⟩), v] w fun e w' => e = .returned (.int .i64 (stepS s r).2) ∧ Sto base g (stepS s r).1 w' ∧ Below base w w' := by
  obtain ⟨vf, ve, rfl, -, -⟩ := h.rc w (UpN.rf _ _)
  have H := Lib.hid h
  have C1 := Lib.hid fun W (k : K w W) => Pack_calls r (.agg (recA r vf ve)) W (h.rc W (UpN.of_k k _)) h.fit
  have hs0 := (Blk.new w 115 #[.pointer (some ⟨g, 0, none⟩)]).alloc (.cells (recA r vf ve) 60)
  have hr0 := Blk.new (w.alloc (.cells #[.pointer (some ⟨g, 0, none⟩)] 115)) 60 (recA r vf ve)
  have k1 : K w ((w.alloc (.cells #[.pointer (some ⟨g, 0, none⟩)] 115)).alloc (.cells (recA r vf ve) 60)) := ((K.rf w).al _).al _
  rw [World.size_alloc] at hr0
  have hmm := @run_makeMap Try.prog
  have hzero : ∀ W : World, (zeroValue 22).run Try.prog W = .ok .nilFunc W := fun W => by kernel_rfl
  clear h
  go_enter Try.func73, Try.ntmps73
  go_wp2_with fail
  generalize World.alloc (World.alloc w _) _ = w1 at *
  generalize hgs : w.heap.size = gs at *
  refine (C1.out w1 k1).mono ?_
  rintro e w2 ⟨vb, rfl, -, k2⟩
  have kw2 := k1.tr k2
  have hs2 := hs0.below k2 hs0.lt
  have hr2 := hr0.below k2 hr0.lt
  clear hs0 hr0 k1 k2 C1
  cases hok : okRec r
  · have HQ := Lib.hid (stepS_bad (s := s) hok)
    have hc : chkRec r = 110 := by simp [chkRec, hok]
    rw [hc]
    have HS := Lib.hid (H.out.st.st kw2)
    have kb : Below base w w2 := kw2.mono H.out.low
    clear hok hc
    go_wp2
    go_ret
    exact ⟨by rw [HQ.out]; rfl, by rw [HQ.out]; exact ⟨_, _, _, _, _, HS.out⟩, kb⟩
  have hc : chkRec r = 0 := by simp [chkRec, hok]
  rw [hc]
  have HOK := Lib.hid hok
  clear hok hc
  have ho0 := MapI.new w2
  have hs3 := hs2.alloc (.map #[] 0)
  have hr3 := hr2.alloc (.map #[] 0)
  have kw3 := kw2.al (.map #[] 0)
  have hgm : gs + 1 < w2.heap.size := hr2.lt
  clear hs2 hr2
  go_wp2_with (with_reducible refine wpList_insert _ rfl (.tmp 17) (.const (.int .i64 1)) (.tmp 18) 144 rfl 3 22 Try.underlying144 Try.underlying3 w2.heap.size _ rfl ho0 1 rfl _ rfl rfl ?_)
  intro w4 ho1 hg4
  have kw4 : K w w4 := kw3.trans (below_of_mut hg4 (by omega) kw3.size)
  have hs4 := hs3.grown hg4 (by simp; omega)
  have hr4 := hr3.grown hg4 (by simp; omega)
  clear ho0 hg4 kw3 hs3 hr3
  go_wp2_with (with_reducible refine wpList_insert _ rfl (.tmp 17) (.const (.int .i64 2)) (.tmp 19) 144 rfl 3 22 Try.underlying144 Try.underlying3 w2.heap.size _ rfl ho1 2 rfl _ rfl rfl ?_)
  intro w5 ho2 hg5
  have kw5 : K w w5 := kw4.trans (below_of_mut hg5 (by omega) kw4.size)
  have hs5 := hs4.grown hg5 (by simp; omega)
  have hr5 := hr4.grown hg5 (by simp; omega)
  clear ho1 hg5 kw4 hs4 hr4
  go_wp2_with (with_reducible refine wpList_insert _ rfl (.tmp 17) (.const (.int .i64 3)) (.tmp 20) 144 rfl 3 22 Try.underlying144 Try.underlying3 w2.heap.size _ rfl ho2 3 rfl _ rfl rfl ?_)
  intro w6 ho3 hg6
  have kw6 : K w w6 := kw5.trans (below_of_mut hg6 (by omega) kw5.size)
  have hs6 := hs5.grown hg6 (by simp; omega)
  have hr6 := hr5.grown hg6 (by simp; omega)
  clear ho2 hg6 kw5 hs5 hr5
  go_wp2_with (with_reducible refine wpList_insert _ rfl (.tmp 17) (.const (.int .i64 4)) (.tmp 21) 144 rfl 3 22 Try.underlying144 Try.underlying3 w2.heap.size _ rfl ho3 4 rfl _ rfl rfl ?_)
  intro w7 ho4 hg7
  have kw7 : K w w7 := kw6.trans (below_of_mut hg7 (by omega) kw6.size)
  have hs7 := hs6.grown hg7 (by simp; omega)
  have hr7 := hr6.grown hg7 (by simp; omega)
  clear ho3 hg7 kw6 hs6 hr6
  go_wp2_with (with_reducible refine wpList_insert _ rfl (.tmp 17) (.const (.int .i64 5)) (.tmp 22) 144 rfl 3 22 Try.underlying144 Try.underlying3 w2.heap.size _ rfl ho4 5 rfl _ rfl rfl ?_)
  intro w8 ho5 hg8
  have kw8 : K w w8 := kw7.trans (below_of_mut hg8 (by omega) kw7.size)
  have hs8 := hs7.grown hg8 (by simp; omega)
  have hr8 := hr7.grown hg8 (by simp; omega)
  clear ho4 hg8 kw7 hs7 hr7
  have q0 : w8.cell? ⟨gs + 1, 0, none⟩ = some (.int .i64 r.kind) := hr8.cell 0
  have hzero := hzero w8
  have HV := Lib.hid (H.out.onV kw8 hs8 hr8)
  have kb : Below base w w8 := kw8.mono H.out.low
  clear hs8 hr8
  rcases okRec_15 HOK.out with hk | hk | hk | hk | hk
  · have hlk : (Instr.lookup 144 (.map (some w2.heap.size)) (.int .i64 1) true).run Try.prog w8 = .ok (.tuple #[Value.func (Fn.func 101) #[] #[Value.pointer (some ⟨gs + 1, 0, none⟩), Value.pointer (some ⟨gs, 0, none⟩)], .bool true]) w8 :=
      run_look2 Try.underlying144 Try.underlying3 hzero ho5 1
    have HQ := Lib.hid (stepS_ok (s := s) HOK.out (onS_1 hk))
    rw [hk] at q0
    have C2 := Lib.hid (On1_calls w8 HV.out)
    clear hk
    go_wp2_with fail
    refine C2.out.mono ?_
    rintro e w9 ⟨rfl, hS, hb⟩
    have HS := Lib.hid hS
    clear hS
    generalize on1 s r = o at *
    have hbb := kb.trans hb
    clear C2 q0 hlk
    cases o
    · go_wp2
      go_ret
      exact ⟨by rw [HQ.out]; rfl, by rw [HQ.out]; exact HS.out, hbb⟩
    · go_wp2
      go_ret
      exact ⟨by rw [HQ.out]; rfl, by rw [HQ.out]; exact HS.out, hbb⟩
  · have hlk : (Instr.lookup 144 (.map (some w2.heap.size)) (.int .i64 2) true).run Try.prog w8 = .ok (.tuple #[Value.func (Fn.func 102) #[] #[Value.pointer (some ⟨gs + 1, 0, none⟩), Value.pointer (some ⟨gs, 0, none⟩)], .bool true]) w8 :=
      run_look2 Try.underlying144 Try.underlying3 hzero ho5 2
    have HQ := Lib.hid (stepS_ok (s := s) HOK.out (onS_2 hk))
    rw [hk] at q0
    have C2 := Lib.hid (On2_calls w8 HV.out)
    clear hk
    go_wp2_with fail
    refine C2.out.mono ?_
    rintro e w9 ⟨rfl, hS, hb⟩
    have HS := Lib.hid hS
    clear hS
    generalize on2 s r = o at *
    have hbb := kb.trans hb
    clear C2 q0 hlk
    cases o
    · go_wp2
      go_ret
      exact ⟨by rw [HQ.out]; rfl, by rw [HQ.out]; exact HS.out, hbb⟩
    · go_wp2
      go_ret
      exact ⟨by rw [HQ.out]; rfl, by rw [HQ.out]; exact HS.out, hbb⟩
  · have hlk : (Instr.lookup 144 (.map (some w2.heap.size)) (.int .i64 3) true).run Try.prog w8 = .ok (.tuple #[Value.func (Fn.func 105) #[] #[Value.pointer (some ⟨gs + 1, 0, none⟩), Value.pointer (some ⟨gs, 0, none⟩)], .bool true]) w8 :=
      run_look2 Try.underlying144 Try.underlying3 hzero ho5 3
    have HQ := Lib.hid (stepS_ok (s := s) HOK.out (onS_3 hk))
    rw [hk] at q0
    have C2 := Lib.hid (On3_calls w8 HV.out)
    clear hk
    go_wp2_with fail
    refine C2.out.mono ?_
    rintro e w9 ⟨rfl, hS, hb⟩
    have HS := Lib.hid hS
    clear hS
    generalize on3 s r = o at *
    have hbb := kb.trans hb
    clear C2 q0 hlk
    cases o
    · go_wp2
      go_ret
      exact ⟨by rw [HQ.out]; rfl, by rw [HQ.out]; exact HS.out, hbb⟩
    · go_wp2
      go_ret
      exact ⟨by rw [HQ.out]; rfl, by rw [HQ.out]; exact HS.out, hbb⟩
  · have hlk : (Instr.lookup 144 (.map (some w2.heap.size)) (.int .i64 4) true).run Try.prog w8 = .ok (.tuple #[Value.func (Fn.func 106) #[] #[Value.pointer (some ⟨gs, 0, none⟩), Value.pointer (some ⟨gs + 1, 0, none⟩)], .bool true]) w8 :=
      run_look2 Try.underlying144 Try.underlying3 hzero ho5 4
    have HQ := Lib.hid (stepS_ok (s := s) HOK.out (onS_4 hk))
    rw [hk] at q0
    have C2 := Lib.hid (On4_calls w8 HV.out)
    clear hk
    go_wp2_with fail
    refine C2.out.mono ?_
    rintro e w9 ⟨rfl, hS, hb⟩
    have HS := Lib.hid hS
    clear hS
    generalize on4 s r = o at *
    have hbb := kb.trans hb
    clear C2 q0 hlk
    cases o
    · go_wp2
      go_ret
      exact ⟨by rw [HQ.out]; rfl, by rw [HQ.out]; exact HS.out, hbb⟩
    · go_wp2
      go_ret
      exact ⟨by rw [HQ.out]; rfl, by rw [HQ.out]; exact HS.out, hbb⟩
  · have hlk : (Instr.lookup 144 (.map (some w2.heap.size)) (.int .i64 5) true).run Try.prog w8 = .ok (.tuple #[Value.func (Fn.func 107) #[] #[Value.pointer (some ⟨gs, 0, none⟩), Value.pointer (some ⟨gs + 1, 0, none⟩)], .bool true]) w8 :=
      run_look2 Try.underlying144 Try.underlying3 hzero ho5 5
    have HQ := Lib.hid (stepS_ok (s := s) HOK.out (onS_5 hk))
    rw [hk] at q0
    have C2 := Lib.hid (On5_calls w8 HV.out)
    clear hk
    go_wp2_with fail
    refine C2.out.mono ?_
    rintro e w9 ⟨rfl, hS, hb⟩
    have HS := Lib.hid hS
    clear hS
    generalize on5 s r = o at *
    have hbb := kb.trans hb
    clear C2 q0 hlk
    cases o
    · go_wp2
      go_ret
      exact ⟨by rw [HQ.out]; rfl, by rw [HQ.out]; exact HS.out, hbb⟩
    · go_wp2
      go_ret
      exact ⟨by rw [HQ.out]; rfl, by rw [HQ.out]; exact HS.out, hbb⟩
end Go.Proofs.Ythnhdeieimgfhaa
