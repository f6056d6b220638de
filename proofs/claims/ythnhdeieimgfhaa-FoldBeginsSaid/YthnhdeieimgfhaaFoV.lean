/-
  The walks of FoldNames and FoldBack (layer 16). Conditions: none.
-/
import Derived.Test.YthnhdeieimgfhaaFoU
set_option maxRecDepth 100000
namespace Go.Proofs.Ythnhdeieimgfhaa
open Go Go.RowKit Go.ChangeShapes Go.WideShapes Go.ChangeAt

/-- What is known of an argument that is a list of records. -/
def repRecs (w : World) (v : Value) : Prop := ∃ l, lst recS l v w ∧ (∀ r ∈ l, fitRec r) ∧ l.length ≤ 9223372036854775807
section
variable {H : Type} {enc : TypeId × Value → H} {w : World} {base : Nat} {r : Reach} {b0 : Nat} {spare : Nat → Bool} {held : Bool} {v : Value} {d : DataW H} {p : List MemPlace}
theorem repRecs_of (hv : Value.okWide Try.prog w r b0 41 v) (h : DataW.Trod enc Try.prog w base spare held 41 v d p) : repRecs w v := by
  obtain ⟨A, n, c, rfl⟩ := okWide_slice Try.underlying41 hv
  obtain ⟨fuel, hf⟩ := h
  obtain ⟨A', n', c', css, e', h1, h2, h3, -, -⟩ := reads_of_cells Try.underlying41 13 (by kernel_rfl) (fun _ => True) (fun _ _ _ _ _ => trivial) hf
  obtain ⟨v, l, e, hl, ho⟩ := lst_cells Try.underlying41 recS fitRec (by kernel_rfl) (by decide) (fun _ _ _ _ ht => rec_cells ht) hf
  simp [Value.cells] at e e'
  subst e
  obtain ⟨rfl, rfl, rfl⟩ := e'
  have hlen : l.length = n := by obtain ⟨A, c, e, _⟩ := hl; injection e with e1 e2; exact e2.symm
  refine ⟨l, hl, ho, ?_⟩
  rw [hlen]
  exact Nat.le_trans h2 (Nat.le_trans h3 (by decide))
end

set_option maxHeartbeats 400000 in
theorem FoldNames_walk (w : World) :
    Calls Try.prog 9 #[] w fun e w' => e = .returned (.bool true) ∧ Below w.heap.size w w' := by
  go_enter Try.func9, Try.ntmps9
  go_wp2_with fail
  refine (FAwake_calls w).mono ?_
  rintro e w1 ⟨rfl, hb⟩
  go_wp2
  go_ret
  exact ⟨rfl, hb⟩

def massS (s : Stt) : Nat := (if s.life = 0 then 0 else 1) + s.list.length + s.prom.length + s.ab.length
theorem recs_len (s : Stt) : (recsS s).length = massS s := by
  unfold recsS massS rec1
  simp only [List.length_append, recL_len, recP_len, recB_len]
  split <;> simp
theorem mass_on {s t : Stt} {r : Rec} (h : onS s r = some t) : massS t ≤ massS s + 1 := by
  have hd : ∀ (l : List Ent) a, (dropE l a).length ≤ l.length := fun l a => List.length_filter_le _ _
  have h1 := hd s.prom (idE r.e)
  have h2 := hd s.prom (idR r)
  unfold onS on1 on2 on3 on4 on5 at h
  repeat' split at h
  all_goals first
    | (cases h; done)
    | (injection h with h; subst h; unfold massS; simp only [List.length_append, List.length_singleton]; repeat' split
       all_goals omega)
theorem mass_fold (l : List Rec) : ∀ s, massS (l.foldl tryS s) ≤ massS s + l.length := by
  induction l with
  | nil => intro s; simp
  | cons r l ih =>
    intro s
    have h2 := ih (tryS s r)
    have h1 : massS (tryS s r) ≤ massS s + 1 := by
      unfold tryS
      split
      · cases hok : okRec r
        · rw [stepS_bad hok]; simp
        · cases ho : onS s r with
          | none => rw [stepS_ok hok ho]; simp [resS]
          | some t => rw [stepS_ok hok ho]; exact mass_on ho
      · omega
    simp only [List.foldl_cons, List.length_cons]
    omega
theorem recs_made (l : List Rec) : (recsS (madeS l)).length ≤ l.length := by
  rw [recs_len]
  have := mass_fold (l.take 40) st0
  have h0 : massS st0 = 0 := rfl
  rw [h0] at this
  have hl : (l.take 40).length ≤ l.length := by simp; omega
  unfold madeS
  omega

set_option maxHeartbeats 4000000 in
theorem FoldBack_walk (v0 : Value) (w : World) (r0 : repRecs w v0) :
    Calls Try.prog 10 #[v0] w fun e w' => e = .returned (.bool true) ∧ Below w.heap.size w w' := by
  obtain ⟨l, hl, hf, hlen⟩ := r0
  have C1 := Lib.hid fun W (k : K w W) => Made_calls l v0 W (lst_st hl k) hf hlen
  have HI := InvS.made l hf
  have HZ := made_len l
  have hro := recs_ok HI (by omega)
  have HSM := made_small l
  have HML := Lib.hid (recs_made l)
  have hbk := back_recs HI (by omega)
  generalize madeS l = M at *
  have D5 : Hid (∀ W v, stv M v W → Calls Try.prog 24 #[v] W fun e w' => ∃ v', e = .returned (.tuple #[v', .int .i64 0]) ∧ lst byS ((recsS M).map encRec) v' w' ∧ K W w') := Lib.hid fun W v hv =>
    Records_calls M v W hv (by omega) hro
  have D6 : Hid (∀ W v, lst byS ((recsS M).map encRec) v W → Calls Try.prog 25 #[v] W fun e w' => ∃ v', e = .returned (.tuple #[v', .int .i64 0]) ∧ stv M v' w' ∧ K W w') := Lib.hid fun W v hv => by
    have := All_calls _ v W hv (by rw [List.length_map, recs_len]; unfold massS; split <;> omega) (fun b hb => by
      obtain ⟨r, hr, rfl⟩ := List.mem_map.1 hb
      have := encRec_len (hro r hr).1 (hro r hr).2
      omega)
    rw [hbk] at this
    exact this
  have D7 : Hid (∀ W v u, stv M v W → stv M u W → Calls Try.prog 26 #[v, u] W fun e w' => e = .returned (.bool true) ∧ K W w') := Lib.hid fun W v u hv hu => by
    have := SSame_calls M M v u W hv hu HSM.1 HSM.2 (by omega)
    rw [show decide (M = M) = true by simp] at this
    exact this
  have HRL : Hid (((recsS M).map encRec).length ≤ l.length) := Lib.hid (by rw [List.length_map]; exact HML.out)
  generalize (recsS M).map encRec = RR at *
  obtain ⟨A, c, rfl⟩ := lst_slice hl
  clear hl hf HI HZ hro HSM hbk HML
  go_enter Try.func10, Try.ntmps10
  go_wp2_with fail
  refine (FAwake_calls w).mono ?_
  rintro e w1 ⟨rfl, k1⟩
  go_wp2_with fail
  refine (C1.out w1 k1).mono ?_
  rintro e w2 ⟨v, rfl, hs, k2⟩
  obtain ⟨vl, vp, va, rfl, hl, hp, ha⟩ := hs
  obtain ⟨Al, cl, rfl⟩ := lst_slice hl
  obtain ⟨Ap, cp, rfl⟩ := lst_slice hp
  obtain ⟨Aa, ca, rfl⟩ := lst_slice ha
  have hst : stv M (.agg (stA M (.slice Al M.list.length cl) (.slice Ap M.prom.length cp) (.slice Aa M.ab.length ca))) w2 := ⟨_, _, _, rfl, hl, hp, ha⟩
  have hb := Blk.new w2 43 (stA M (.slice Al M.list.length cl) (.slice Ap M.prom.length cp) (.slice Aa M.ab.length ca))
  have ka : K w2 (w2.alloc (.cells (stA M (.slice Al M.list.length cl) (.slice Ap M.prom.length cp) (.slice Aa M.ab.length ca)) 43)) := (K.rf _).al _
  have HV := Lib.hid fun W (k : K (w2.alloc (.cells (stA M (.slice Al M.list.length cl) (.slice Ap M.prom.length cp) (.slice Aa M.ab.length ca)) 43)) W) => stv_st (stv_st hst ka) k
  have q1 := hb.cells
  have p1 := hb.cell
  replace k1 := k1.tr (k2.tr ka)
  clear hl hp ha hst hb ka C1 k2
  go_wp2_with fail
  generalize w2.alloc _ = w3 at *
  generalize w2.heap.size = g1 at *
  refine (D5.out w3 _ (HV.out w3 (K.rf _))).mono ?_
  rintro e w4 ⟨v, rfl, hl4, k4⟩
  obtain ⟨A4, c4, rfl⟩ := lst_slice hl4
  have HL4 := Lib.hid hl4
  clear hl4 D5 p1
  go_wp2_with fail
  refine (D6.out w4 _ HL4.out).mono ?_
  rintro e w5 ⟨v, rfl, hs, k5⟩
  have HVV := Lib.hid fun W (k : K w4 W) => lst_st HL4.out k
  obtain ⟨vl, vp, va, rfl, hl, hp, ha⟩ := hs
  obtain ⟨Bl, dl, rfl⟩ := lst_slice hl
  obtain ⟨Bp, dp, rfl⟩ := lst_slice hp
  obtain ⟨Ba, da, rfl⟩ := lst_slice ha
  have hst : stv M (.agg (stA M (.slice Bl M.list.length dl) (.slice Bp M.prom.length dp) (.slice Ba M.ab.length da))) w5 := ⟨_, _, _, rfl, hl, hp, ha⟩
  have hb := Blk.new w5 43 (stA M (.slice Bl M.list.length dl) (.slice Bp M.prom.length dp) (.slice Ba M.ab.length da))
  have ka : K w5 (w5.alloc (.cells (stA M (.slice Bl M.list.length dl) (.slice Bp M.prom.length dp) (.slice Ba M.ab.length da)) 43)) := (K.rf _).al _
  have h1 := HV.out _ (k4.tr (k5.tr ka))
  have h2 := stv_st hst ka
  have p1 := q1 _ (k4.tr (k5.tr ka))
  have p2 := hb.cell
  replace k1 := k1.tr (k4.tr (k5.tr ka))
  have C7 := Lib.hid (D7.out _ _ _ h1 h2)
  clear hl hp ha hst hb ka D6 D7 h1 h2 q1 HV k4 k5 HVV HL4
  go_wp2_with fail
  refine C7.out.mono ?_
  rintro e w6 ⟨rfl, k6⟩
  have kF := k1.tr k6
  have hln := HRL.out
  have hlni : (RR.length : Int) ≤ (l.length : Int) := by omega
  clear p1 p2 C7 k1 k6
  go_wp2
  go_ret
  exact ⟨rfl, kF⟩
end Go.Proofs.Ythnhdeieimgfhaa
