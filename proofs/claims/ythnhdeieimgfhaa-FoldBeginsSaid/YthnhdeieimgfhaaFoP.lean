/-
  The walk of fold.All (layer 16). Conditions: at most 800000 records.
-/
import Derived.Test.YthnhdeieimgfhaaFoN
import Derived.Test.YthnhdeieimgfhaaNA
set_option maxRecDepth 100000
namespace Go.Proofs.Ythnhdeieimgfhaa
open Go Go.RowKit

/-- Bytes, as elements of a list. -/
def byS : Shp (List UInt8) where
  size := 1
  rel l cs w := ∃ v, cs = [v] ∧ sl l v w
  len := by rintro _ _ _ ⟨v, rfl, _⟩; rfl
  one := by rintro _ _ _ ⟨v, rfl, A, c, rfl, _⟩ u hu; simp at hu; subst hu; rfl
  st := by rintro _ _ _ _ ⟨v, rfl, h⟩ k; exact ⟨v, rfl, sl_st _ _ _ _ h k⟩
/-- One record's bytes more. -/
def oneG (s : Stt) (b : List UInt8) : Stt × Int := if decRecC b = 0 then stepS s (decRecX b) else (s, decRecC b)
/-- Records' bytes, one behind the other, as far as they go on. -/
def allG : Stt → List (List UInt8) → Stt × Int
  | s, [] => (s, 0)
  | s, b :: l => if (oneG s b).2 = 0 then allG (oneG s b).1 l else oneG s b
def allS (l : List (List UInt8)) : Stt × Int := if (allG st0 l).2 = 0 then allG st0 l else (st0, (allG st0 l).2)
theorem allG_snoc (l : List (List UInt8)) (b : List UInt8) : ∀ s, (allG s l).2 = 0 → allG s (l ++ [b]) = oneG (allG s l).1 b := by
  induction l with
  | nil =>
    intro s _
    simp only [List.nil_append, allG]
    split
    · rename_i h; rw [← h]
    · rfl
  | cons c l ih =>
    intro s h
    simp only [List.cons_append, allG] at h ⊢
    split at h
    · rename_i h1
      rw [if_pos h1, if_pos h1]
      exact ih _ h
    · rename_i h1; exact absurd h h1
theorem allG_bad (l m : List (List UInt8)) : ∀ s, (allG s l).2 ≠ 0 → allG s (l ++ m) = allG s l := by
  induction l with
  | nil => intro s h; simp [allG] at h
  | cons c l ih =>
    intro s h
    simp only [List.cons_append, allG] at h ⊢
    split at h
    · rename_i h1
      rw [if_pos h1, if_pos h1]
      exact ih _ h
    · rename_i h1; rw [if_neg h1, if_neg h1]
theorem decRecC_ok {b : List UInt8} (h : decRecC b = 0) : ∃ x, decRec b = some x ∧ decRecX b = x := by
  unfold decRecC at h
  cases hd : decRec b with
  | none => simp [hd] at h
  | some x => exact ⟨x, rfl, by simp [decRecX, hd]⟩
theorem okE_16 {l : List Att} (h : okE l = true) : l.length ≤ 16 := by
  unfold okE at h
  simp only [Bool.and_eq_true, decide_eq_true_eq] at h
  omega
theorem okEn_small {x : Ent} (h : okEn x = true) : smallEn x := by
  unfold okEn at h
  simp only [Bool.and_eq_true, decide_eq_true_eq] at h
  obtain ⟨-, h⟩ := h
  split at h
  · simp only [Bool.and_eq_true, decide_eq_true_eq, List.isEmpty_iff] at h
    obtain ⟨⟨⟨-, h1⟩, h2⟩, h3⟩ := h
    exact ⟨by simp [h1], by omega, fun e he => by have := okE_16 (List.all_eq_true.1 h3 e he); omega⟩
  · split at h
    · simp only [Bool.and_eq_true, List.isEmpty_iff] at h
      exact ⟨by simp [h.1], by simp [h.2], by simp [h.2]⟩
    · split at h
      · simp only [Bool.and_eq_true, List.isEmpty_iff] at h
        exact ⟨by have := (okF_parts h.2).1; omega, by simp [h.1], by simp [h.1]⟩
      · cases h
theorem small_ent0 : smallEn ent0 := by simp [smallEn, ent0]
theorem okRec_small {x : Rec} (h : okRec x = true) : smallEn x.e := by
  rcases okRec_kind h with ⟨-, e, -⟩ | ⟨-, e, -⟩ | ⟨-, -, -, e⟩
  · rw [e]; exact small_ent0
  · exact okEn_small e
  · rw [e]; exact small_ent0

theorem len_on (s t : Stt) (r : Rec) (h : onS s r = some t) : t.list.length ≤ s.list.length + 1 ∧ t.prom.length ≤ s.prom.length + 1 ∧ t.ab.length ≤ s.ab.length + 1 := by
  have hd : ∀ (l : List Ent) a, (dropE l a).length ≤ l.length := fun l a => List.length_filter_le _ _
  have h1 := hd s.prom (idE r.e)
  have h2 := hd s.prom (idR r)
  unfold onS on1 on2 on3 on4 on5 at h
  repeat' split at h
  all_goals first | (cases h; done) | (injection h with h; subst h; refine ⟨?_, ?_, ?_⟩ <;> (try simp only [List.length_append, List.length_singleton]) <;> omega)
theorem len_step (s : Stt) (r : Rec) : (stepS s r).1.list.length ≤ s.list.length + 1 ∧ (stepS s r).1.prom.length ≤ s.prom.length + 1 ∧ (stepS s r).1.ab.length ≤ s.ab.length + 1 := by
  unfold stepS
  split
  · cases h : onS s r with
    | none => simp
    | some t => exact len_on s t r h
  · simp
theorem small_step (s : Stt) (r : Rec) (h1 : ∀ x ∈ s.list, okEn x = true) (h2 : ∀ x ∈ s.prom, okEn x = true) : (∀ x ∈ (stepS s r).1.list, okEn x = true) ∧ ∀ x ∈ (stepS s r).1.prom, okEn x = true := by
  unfold stepS
  split
  · rename_i hok
    cases h : onS s r with
    | none => exact ⟨h1, h2⟩
    | some t =>
      have hd : ∀ a, ∀ x ∈ dropE s.prom a, okEn x = true := fun a x hx => h2 x (List.mem_filter.1 hx).1
      have hk := okRec_kind hok
      unfold onS on1 on2 on3 on4 on5 at h
      repeat' split at h
      all_goals first | (cases h; done) | (injection h with h; subst h)
      all_goals
        refine ⟨fun x hx => ?_, fun x hx => ?_⟩
        all_goals try simp only [List.mem_append, List.mem_singleton] at hx
        all_goals first
          | exact h1 x hx
          | exact h2 x hx
          | exact hd _ x hx
          | (rcases hx with hx | rfl
             · first | exact h1 x hx | exact h2 x hx
             · rcases hk with ⟨g, _⟩ | ⟨_, g, _⟩ | ⟨g, _⟩
               · omega
               · exact g
               · omega)
  · exact ⟨h1, h2⟩

theorem oneG_len (s : Stt) (b : List UInt8) : (oneG s b).1.list.length ≤ s.list.length + 1 ∧ (oneG s b).1.prom.length ≤ s.prom.length + 1 ∧ (oneG s b).1.ab.length ≤ s.ab.length + 1 := by
  unfold oneG
  split
  · exact len_step _ _
  · simp
theorem allG_len (l : List (List UInt8)) : ∀ s, (allG s l).1.list.length ≤ s.list.length + l.length ∧ (allG s l).1.prom.length ≤ s.prom.length + l.length ∧ (allG s l).1.ab.length ≤ s.ab.length + l.length := by
  induction l with
  | nil => intro s; simp [allG]
  | cons c l ih =>
    intro s
    have h1 := oneG_len s c
    simp only [allG, List.length_cons]
    split
    · have h2 := ih (oneG s c).1; omega
    · omega
theorem allG_next {l : List (List UInt8)} {j : Nat} (hlt : j < l.length) (h0 : (allG st0 (l.take j)).2 = 0) : allG st0 (l.take (j + 1)) = oneG (allG st0 (l.take j)).1 l[j] := by
  rw [List.take_succ_eq_append_getElem hlt, allG_snoc _ _ _ h0]
theorem allS_bad {l : List (List UInt8)} {j : Nat} (hlt : j < l.length) (h0 : (allG st0 (l.take j)).2 = 0) {c : Int} (hb : (oneG (allG st0 (l.take j)).1 l[j]).2 = c) (hc : ¬ c = 0) : allS l = (st0, c) := by
  have h1 := allG_next hlt h0
  have h2 : allG st0 l = allG st0 (l.take (j + 1)) := by
    conv => lhs; rw [← List.take_append_drop (j + 1) l]
    exact allG_bad _ _ _ (by rw [h1, hb]; exact hc)
  unfold allS
  rw [h2, h1, hb, if_neg hc]
theorem allS_good {l : List (List UInt8)} (h : (allG st0 l).2 = 0) : allS l = ((allG st0 l).1, 0) := by
  unfold allS
  rw [if_pos h]
  exact Prod.ext rfl h
theorem stv_0 (w : World) : stv st0 (.agg zSt) w := ⟨_, _, _, rfl, lst_nil _ _, lst_nil _ _, lst_nil _ _⟩

set_option maxHeartbeats 8000000 in
theorem All_calls (l : List (List UInt8)) (v : Value) (w : World) (h : lst byS l v w) (hlen : l.length ≤ 800000) (hb : ∀ b ∈ l, b.length ≤ 1000000000) :
    Calls Try.prog 25 #[v] w fun e w' => ∃ v', e = .returned (.tuple #[v', .int .i64 (allS l).2]) ∧ stv (allS l).1 v' w' ∧ K w w' := by
  obtain ⟨D, d, rfl, hl, -⟩ := h
  have HL := Lib.hid hl
  generalize ho : allS l = o
  have HO := Lib.hid ho
  obtain ⟨so, co⟩ := o
  clear ho
  have HB := Lib.hid hb
  have hr0 := (Blk.new w 43 zSt).alloc (.cells zSt 43)
  have hs0 := Blk.new (w.alloc (.cells zSt 43)) 43 zSt
  have k0 : K w ((w.alloc (.cells zSt 43)).alloc (.cells zSt 43)) := ((K.rf w).al _).al _
  rw [World.size_alloc] at hs0
  clear hl hb
  go_enter Try.func25, Try.ntmps25
  go_wp2
  go_step3
  go_wp2_with fail
  go_step3
  generalize World.alloc (World.alloc w _) _ = w0 at *
  generalize hgp : w.heap.size = gp at hr0 hs0 ⊢
  obtain ⟨base, hbase⟩ : ∃ b, b = gp + 1 := ⟨_, rfl⟩
  have HS0 := Lib.hid (show Sto base (gp + 1) st0 w0 from ⟨_, _, _, _, _, StoV.empty hs0 (by omega) (World.ownsRow_nil _ _ _ _)⟩)
  have hlow : base ≤ w0.heap.size := by have := hs0.lt; omega
  have kk : Below base w0 w0 := Below.refl _ _
  clear hs0
  go_wp2_with fail
  go_loopw [5, 7, 8, 9, 12] (fun f _ _ _ i W => ∃ j : Nat, j ≤ l.length ∧ i = .int .i64 (j : Int) ∧ f = .int .i64 0 ∧ Hid ((allG st0 (l.take j)).2 = 0) ∧ Hid (Sto base (gp + 1) (allG st0 (l.take j)).1 W) ∧ Below base w0 W) (fun _ _ _ _ i _ => l.length - (intOf i).toNat)
  case atStart => exact ⟨0, by omega, rfl, rfl, Lib.hid (by simp [allG]), Lib.hid (by simpa [allG] using HS0.out), kk⟩
  case round =>
    clear kk HS0
    obtain ⟨j, hj, rfl, rfl, HZ, HSj, kb⟩ := hrel
    have kr : K w wr := k0.trans (kb.mono (by omega))
    by_cases hlt : j < l.length
    · have hji : (j : Int) < (l.length : Int) := by omega
      obtain ⟨b1, off, cs, rfl, hcl, hrl, d0, -⟩ := lsr_cells HL.out j hlt (by decide)
      have HN := Lib.hid (allG_next hlt HZ.out)
      have HBD := Lib.hid (fun c => allS_bad hlt HZ.out (c := c))
      have hbl := HB.out _ (List.getElem_mem hlt)
      have hsz := allG_len (l.take j) st0
      simp only [List.length_take, show st0.list.length = 0 from rfl, show st0.prom.length = 0 from rfl, show st0.ab.length = 0 from rfl] at hsz
      generalize l[j] = b at *
      generalize (allG st0 (l.take j)).1 = s at *
      obtain ⟨vb, rfl, hsl⟩ := hrl wr kr
      have hv : ∃ A c, vb = .slice A b.length c := by obtain ⟨A, c, h, _⟩ := hsl; exact ⟨A, c, h⟩
      obtain ⟨Ab, cb, rfl⟩ := hv
      have q0 : wr.cell? ⟨b1, off + j, none⟩ = some (.slice Ab b.length cb) := by
        have := d0 wr kr
        simpa [byS] using this
      have C1 := Lib.hid (Unpack_calls b _ wr hsl hbl)
      clear hrl hcl d0 hsl
      go_wp2_with fail
      refine C1.out.mono ?_
      rintro e w2 ⟨v', rfl, hrc, k2⟩
      have HRC := Lib.hid hrc
      obtain ⟨vf, ve, rfl, hf, he⟩ := hrc w2 (UpB.rf _ _ _)
      obtain ⟨Af, cf, rfl⟩ := flt_slice hf
      obtain ⟨Ae, ce, rfl⟩ := lst_slice he
      have hx3 := Blk.new w2 60 (recA (decRecX b) (.slice Af (decRecX b).e.f.length cf) (.slice Ae (decRecX b).e.es.length ce))
      have k3 : K w2 (w2.alloc (.cells (recA (decRecX b) (.slice Af (decRecX b).e.f.length cf) (.slice Ae (decRecX b).e.es.length ce)) 60)) := (K.rf w2).al _
      have kr3 := k2.tr k3
      have hone : Hid (oneG s b = if decRecC b = 0 then stepS s (decRecX b) else (s, decRecC b)) := Lib.hid rfl
      have HDR := Lib.hid (@decRecC_ok b)
      clear hrc hf he C1 q0
      generalize decRecC b = c at *
      by_cases hc : c = 0
      · subst hc
        obtain ⟨x, hx1, hx2⟩ := HDR.out rfl
        have HFX := Lib.hid (decRec_fit hx1)
        have HOX := Lib.hid (okRec_small (decRec_back hx1).2)
        rw [hx2] at hone HRC hx3 k3 kr3 ⊢
        clear hx1 hx2 HDR
        go_upto_region 8 with (fail)
        generalize w2.alloc _ = w3 at *
        generalize w2.heap.size = g8 at hx3 ⊢
        obtain ⟨vl, vp, va, c1, c2, hS⟩ := HSj.out
        have hV := hS.st kr3
        have hgw := hS.blk.lt
        have hOn : OnH base (gp + 1) s x vl vp va (.agg (recA x (.slice Af x.e.f.length cf) (.slice Ae x.e.es.length ce))) c1 c2 w3 :=
          ⟨hV, fun W u => HRC.out W ((UpB.of_k k3 _ _).tr (u.upB fun k h1 _ _ e => by
            rcases e with e | e | e | e
            · omega
            · have := (hS.rowl e).2.1; omega
            · have := (hS.rowp e).2.1; omega
            · have := (hS.rowa e).2.1; omega)), by have := kb.size; have := kr3.size; omega, ⟨by omega, by omega, by omega⟩, HOX.out, HFX.out⟩
        have C2 := Lib.hid (On_calls w3 hOn)
        have q3 := hx3.cell
        have kb3 := kb.trans (kr3.mono (Nat.le_trans hlow kb.size))
        clear hOn hV hS HSj HRC hx3 k3
        go_wp2_with fail
        refine C2.out.mono ?_
        rintro e w4 ⟨rfl, hS4, hb4⟩
        have HS4 := Lib.hid hS4
        have kb4 := kb3.trans hb4
        have hone2 := hone.out.trans (if_pos (by simp))
        have HONE := Lib.hid hone2
        clear hS4 q3 C2 hone hone2
        generalize stepS s x = o at *
        obtain ⟨s', e'⟩ := o
        by_cases he' : e' = 0
        · subst he'
          have HN2 : Hid ((allG st0 (l.take (j + 1))).2 = 0) := Lib.hid (by rw [HN.out, HONE.out])
          have HS5 : Hid (Sto base (gp + 1) (allG st0 (l.take (j + 1))).1 w4) := Lib.hid (by rw [HN.out, HONE.out]; exact HS4.out)
          go_wp2
          go_roundw
          case rel => exact ⟨j + 1, by omega, by go_num, rfl, HN2, HS5, kb4⟩
          case measure => simp [intOf]; omega
        · have HQ := HBD.out e' (by rw [HONE.out]) he'
          rw [HO.out] at HQ
          obtain ⟨rfl, rfl⟩ := Prod.mk.inj HQ
          clear HQ HBD HN HS4
          have hr9 := (hr0.below kb4 (by omega))
          have z := hr9.frozen
          have qz := hr9.cell
          have kw9 := k0.trans (kb4.mono (by omega))
          clear hr0 hlt hji
          go_wp2
          have hr91 : Blk (World.setCell (World.setCell (World.setCell (World.setCell w4 _ _) _ _) _ _) _ _) gp 43 zSt := (((hr9.set_ 0 (.int .u64 0)).set_ 1 (.slice none 0 0)).set_ 2 (.slice none 0 0)).set_ 3 (.slice none 0 0)
          have kS := K.set (K.set (K.set (K.set kw9 (r := gp) (by omega) 0 (.int .u64 0)) (r := gp) (by omega) 1 (.slice none 0 0)) (r := gp) (by omega) 2 (.slice none 0 0)) (r := gp) (by omega) 3 (.slice none 0 0)
          clear z qz hr9
          generalize World.setCell (World.setCell (World.setCell (World.setCell w4 _ _) _ _) _ _) _ _ = W9 at *
          have e9 := hr91.cell
          try rw [Exit.noGoto_ret]
          refine bodyPost_ret (v := .tuple #[.agg zSt, .int .i64 co]) (by simp [results, Try.results25, go_sem, e9]) rfl ?_
          exact ⟨_, rfl, stv_0 _, kS⟩
      · have HQ := HBD.out c (by rw [hone.out, if_neg hc]) hc
        rw [HO.out] at HQ
        obtain ⟨rfl, rfl⟩ := Prod.mk.inj HQ
        have kb3 := kb.trans (kr3.mono (Nat.le_trans hlow kb.size))
        go_upto_region 7 with (fail)
        generalize w2.alloc _ = w3 at *
        clear HQ HBD HN HSj hx3 k3 HRC
        have hr9 := (hr0.below kb3 (by omega))
        have z := hr9.frozen
        have qz := hr9.cell
        have kw9 := k0.trans (kb3.mono (by omega))
        clear hr0 hlt hji
        go_wp2
        have hr91 : Blk (World.setCell (World.setCell (World.setCell (World.setCell w3 _ _) _ _) _ _) _ _) gp 43 zSt := (((hr9.set_ 0 (.int .u64 0)).set_ 1 (.slice none 0 0)).set_ 2 (.slice none 0 0)).set_ 3 (.slice none 0 0)
        have kS := K.set (K.set (K.set (K.set kw9 (r := gp) (by omega) 0 (.int .u64 0)) (r := gp) (by omega) 1 (.slice none 0 0)) (r := gp) (by omega) 2 (.slice none 0 0)) (r := gp) (by omega) 3 (.slice none 0 0)
        clear z qz hr9
        generalize World.setCell (World.setCell (World.setCell (World.setCell w3 _ _) _ _) _ _) _ _ = W9 at *
        have e9 := hr91.cell
        try rw [Exit.noGoto_ret]
        refine bodyPost_ret (v := .tuple #[.agg zSt, .int .i64 co]) (by simp [results, Try.results25, go_sem, e9]) rfl ?_
        exact ⟨_, rfl, stv_0 _, kS⟩
    · have hji : ¬ (j : Int) < (l.length : Int) := by omega
      have HQ := HZ.out
      rw [List.take_of_length_le (by omega)] at HQ HSj
      have HQ := allS_good HQ
      rw [HO.out] at HQ
      obtain ⟨hso, rfl⟩ := Prod.mk.inj HQ
      rw [← hso] at HSj
      obtain ⟨vl, vp, va, c1', c2', hS4⟩ := HSj.out
      obtain ⟨⟨El, fl, rfl⟩, ⟨Ep, fp, rfl⟩, Ea, fa, rfl⟩ := hS4.slices
      have q := hS4.blk.cell
      have hr9 := hr0.below kb (by omega)
      have z := hr9.frozen
      have qz := hr9.cell
      have HR := Lib.hid hS4.r
      clear hS4 HSj hr0 HQ HZ hlt HO hso
      go_wp2
      have hr91 : Blk (World.setCell (World.setCell (World.setCell (World.setCell wr _ _) _ _) _ _) _ _) gp 43 (stA so (.slice El so.list.length fl) (.slice Ep so.prom.length fp) (.slice Ea so.ab.length fa)) := (((hr9.set_ 0 (.int .u64 (so.life : Int))).set_ 1 (.slice El so.list.length fl)).set_ 2 (.slice Ep so.prom.length fp)).set_ 3 (.slice Ea so.ab.length fa)
      have kS := K.set (K.set (K.set (K.set kr (r := gp) (by omega) 0 (.int .u64 (so.life : Int))) (r := gp) (by omega) 1 (.slice El so.list.length fl)) (r := gp) (by omega) 2 (.slice Ep so.prom.length fp)) (r := gp) (by omega) 3 (.slice Ea so.ab.length fa)
      have uS := (((UpN.setF (X := fun k => k < base) (g := gp) (i := 0) (by omega) wr (.int .u64 (so.life : Int))).tr (UpN.setF (X := fun k => k < base) (g := gp) (i := 1) (by omega) _ (.slice El so.list.length fl))).tr (UpN.setF (X := fun k => k < base) (g := gp) (i := 2) (by omega) _ (.slice Ep so.prom.length fp))).tr (UpN.setF (X := fun k => k < base) (g := gp) (i := 3) (by omega) _ (.slice Ea so.ab.length fa))
      clear q z qz hr9
      generalize World.setCell (World.setCell (World.setCell (World.setCell wr _ _) _ _) _ _) _ _ = W9 at *
      have e9 := hr91.cell
      try rw [Exit.noGoto_ret]
      refine bodyPost_ret (v := .tuple #[.agg (stA so (.slice El so.list.length fl) (.slice Ep so.prom.length fp) (.slice Ea so.ab.length fa)), .int .i64 0]) (by simp [results, Try.results25, go_sem, e9]) rfl ?_
      exact ⟨_, rfl, (HR.out.low uS).stv, kS⟩
end Go.Proofs.Ythnhdeieimgfhaa
