/-
  Laws on states that records make (layer 16): once, grows, back. Conditions: none.
-/
import Derived.Test.YthnhdeieimgfhaaFoQ
import Derived.Test.YthnhdeieimgfhaaFoR
namespace Go.Proofs.Ythnhdeieimgfhaa
open Go Go.RowKit

theorem hasE_iff {l : List Ent} {a : Idn} : hasE l a = true ↔ ∃ x ∈ l, idE x = a := by simp [hasE]
theorem hasI_iff {l : List Idn} {a : Idn} : hasI l a = true ↔ a ∈ l := by simp [hasI]
theorem dropE_mem {l : List Ent} {a : Idn} {x : Ent} : x ∈ dropE l a ↔ x ∈ l ∧ idE x ≠ a := by simp [dropE]
theorem hasE_drop (l : List Ent) (a : Idn) : hasE (dropE l a) a = false := by
  rw [Bool.eq_false_iff]
  intro h
  obtain ⟨x, hx, e⟩ := hasE_iff.1 h
  exact (dropE_mem.1 hx).2 e
theorem hasE_snoc (l : List Ent) (x : Ent) : hasE (l ++ [x]) (idE x) = true := hasE_iff.2 ⟨x, by simp, rfl⟩
/-- A record that goes on does not go on again. -/
theorem onS_once {s t : Stt} {r : Rec} (h : onS s r = some t) : onS t r = none := by
  unfold onS at h ⊢
  split at h
  · rename_i hk
    rw [if_pos hk]
    unfold on1 at h ⊢
    split at h
    · cases h
    · injection h with h
      subst h
      simp
  · rename_i hk1
    rw [if_neg hk1]
    split at h
    · rename_i hk
      rw [if_pos hk]
      unfold on2 at h ⊢
      split at h
      · cases h
      · rename_i hn
        split at h
        · cases h
        · split at h
          · cases h
          · injection h with h
            subst h
            simp only [List.length_append, List.length_singleton]
            rw [if_pos (by omega)]
    · rename_i hk2
      rw [if_neg hk2]
      split at h
      · rename_i hk
        rw [if_pos hk]
        unfold on3 at h ⊢
        split at h
        · cases h
        · rename_i h1
          split at h
          · cases h
          · split at h
            · cases h
            · injection h with h
              subst h
              simp only
              rw [if_neg h1, if_pos (hasE_snoc _ _)]
      · rename_i hk3
        rw [if_neg hk3]
        split at h
        · rename_i hk
          rw [if_pos hk]
          unfold on4 at h ⊢
          split at h
          · cases h
          · rename_i h1
            split at h
            · cases h
            · injection h with h
              subst h
              simp only
              rw [if_neg h1, if_pos (hasI_iff.2 (by simp))]
        · rename_i hk4
          rw [if_neg hk4]
          unfold on5 at h ⊢
          split at h
          · injection h with h
            subst h
            simp only
            rw [hasE_drop]
            rfl
          · cases h
theorem stepS_once (s : Stt) (r : Rec) (h : (stepS s r).2 = 0) : stepS (stepS s r).1 r = ((stepS s r).1, 160) := by
  cases hok : okRec r
  · rw [stepS_bad hok] at h; exact absurd h (by simp)
  · cases ho : onS s r with
    | none => rw [stepS_ok hok ho] at h; exact absurd h (by simp [resS])
    | some t =>
      have e := stepS_ok hok ho
      rw [e]
      exact stepS_ok hok (onS_once ho)

/-- One state goes on to another: its list, and what is aborted, only grow. -/
def leS (s t : Stt) : Prop := s.list <+: t.list ∧ s.ab <+: t.ab ∧ s.life ≤ t.life
theorem leS.rf (s : Stt) : leS s s := ⟨List.prefix_rfl, List.prefix_rfl, Nat.le_refl _⟩
theorem leS.tr {s t u : Stt} (h : leS s t) (k : leS t u) : leS s u := ⟨h.1.trans k.1, h.2.1.trans k.2.1, Nat.le_trans h.2.2 k.2.2⟩
theorem leS_on {s t : Stt} {r : Rec} (h : onS s r = some t) : leS s t := by
  unfold onS on1 on2 on3 on4 on5 at h
  repeat' split at h
  all_goals first
    | (cases h; done)
    | (injection h with h; subst h; exact ⟨List.prefix_rfl, List.prefix_rfl, by simp only; omega⟩)
    | (injection h with h; subst h; exact ⟨List.prefix_append _ _, List.prefix_rfl, Nat.le_refl _⟩)
    | (injection h with h; subst h; exact ⟨List.prefix_rfl, List.prefix_append _ _, Nat.le_refl _⟩)
    | (injection h with h; subst h; exact ⟨List.prefix_rfl, List.prefix_rfl, Nat.le_refl _⟩)
theorem leS_step (s : Stt) (r : Rec) : leS s (stepS s r).1 := by
  cases hok : okRec r
  · rw [stepS_bad hok]; exact leS.rf _
  · cases ho : onS s r with
    | none => rw [stepS_ok hok ho]; exact leS.rf _
    | some t => rw [stepS_ok hok ho]; exact leS_on ho
theorem leS_fold (l : List Rec) : ∀ s, leS s (l.foldl tryS s) := by
  induction l with
  | nil => intro s; exact leS.rf _
  | cons r l ih =>
    intro s
    refine leS.tr ?_ (ih _)
    unfold tryS
    split
    · exact leS_step s r
    · exact leS.rf _
theorem leS_made (l : List Rec) (k : Nat) : leS (madeS (l.take k)) (madeS l) := by
  unfold madeS
  have e : (l.take k).take 40 = (l.take 40).take k := by rw [List.take_take, List.take_take, Nat.min_comm]
  obtain ⟨m, hm⟩ : (l.take k).take 40 <+: l.take 40 := by rw [e]; exact List.take_prefix _ _
  rw [← hm, List.foldl_append]
  exact leS_fold _ _
theorem pre_take {α : Type} {l m : List α} (h : l <+: m) : m.take l.length = l := List.prefix_iff_eq_take.1 h ▸ rfl

/-- What holds of each state that records made. -/
structure InvS (s : Stt) : Prop where
  nl : (s.list.map idE).Nodup
  np : (s.prom.map idE).Nodup
  na : s.ab.Nodup
  lp : ∀ x ∈ s.list, ∀ y ∈ s.prom, idE x ≠ idE y
  la : ∀ x ∈ s.list, idE x ∉ s.ab
  pa : ∀ x ∈ s.prom, idE x ∉ s.ab
  okl : ∀ x ∈ s.list, okEn x = true ∧ fitEn x
  okp : ∀ x ∈ s.prom, okEn x = true ∧ fitEn x
  oka : ∀ a ∈ s.ab, homeB a.1 = true ∧ fitI a
  life : s.life < 18446744073709551616
theorem InvS.zero : InvS st0 := ⟨by simp [st0], by simp [st0], by simp [st0], by simp [st0], by simp [st0], by simp [st0], by simp [st0], by simp [st0], by simp [st0], by decide⟩
theorem InvS.drop {s : Stt} (h : InvS s) (a : Idn) : InvS ⟨s.life, s.list, dropE s.prom a, s.ab⟩ := by
  have hm : ∀ x ∈ dropE s.prom a, x ∈ s.prom := fun x hx => (dropE_mem.1 hx).1
  refine ⟨h.nl, ?_, h.na, fun x hx y hy => h.lp x hx y (hm y hy), h.la, fun x hx => h.pa x (hm x hx), h.okl, fun x hx => h.okp x (hm x hx), h.oka, h.life⟩
  exact (List.Sublist.map idE List.filter_sublist).nodup h.np
theorem nodup_snoc {α : Type} [DecidableEq α] {l : List α} {a : α} (h : l.Nodup) (ha : a ∉ l) : (l ++ [a]).Nodup := by
  rw [List.nodup_append]
  refine ⟨h, by simp, fun x hx y hy => ?_⟩
  simp at hy
  subst hy
  rintro rfl
  exact ha hx
theorem InvS.on {s t : Stt} {r : Rec} (h : InvS s) (hok : okRec r = true) (hf : fitRec r) (e : onS s r = some t) : InvS t := by
  have hk := okRec_kind hok
  obtain ⟨-, hfn, hfe, hfb, hfl, hfs⟩ := hf
  unfold onS on1 on2 on3 on4 on5 at e
  split at e
  · split at e
    · cases e
    · injection e with e
      subst e
      exact ⟨h.nl, h.np, h.na, h.lp, h.la, h.pa, h.okl, h.okp, h.oka, hfn⟩
  · rename_i hk1
    split at e
    · rename_i hk2
      have hoe : okEn r.e = true := by
        rcases hk with ⟨g, _⟩ | ⟨_, g, _⟩ | ⟨g, _⟩
        · omega
        · exact g
        · omega
      split at e
      · cases e
      · split at e
        · cases e
        · rename_i h1
          split at e
          · cases e
          · rename_i h2
            injection e with e
            subst e
            have hm : ∀ x ∈ dropE s.prom (idE r.e), x ∈ s.prom ∧ idE x ≠ idE r.e := fun x hx => dropE_mem.1 hx
            have hn1 : ∀ x ∈ s.list, idE x ≠ idE r.e := fun x hx e => h1 (hasE_iff.2 ⟨x, hx, e⟩)
            have hn2 : idE r.e ∉ s.ab := fun hx => h2 (hasI_iff.2 hx)
            have hd := h.drop (idE r.e)
            refine ⟨?_, hd.np, h.na, ?_, ?_, hd.pa, ?_, hd.okp, h.oka, h.life⟩
            · simp only [List.map_append, List.map_cons, List.map_nil]
              refine nodup_snoc h.nl ?_
              intro hx
              obtain ⟨x, hx, e⟩ := List.mem_map.1 hx
              exact hn1 x hx e
            · intro x hx y hy
              rcases List.mem_append.1 hx with hx | hx
              · exact h.lp x hx y (hm y hy).1
              · simp at hx; subst hx
                exact fun e => (hm y hy).2 e.symm
            · intro x hx
              rcases List.mem_append.1 hx with hx | hx
              · exact h.la x hx
              · simp at hx; subst hx
                exact hn2
            · intro x hx
              rcases List.mem_append.1 hx with hx | hx
              · exact h.okl x hx
              · simp at hx; subst hx
                exact ⟨hoe, hfe⟩
    · rename_i hk2
      split at e
      · rename_i hk3
        have hoe : okEn r.e = true := by
          rcases hk with ⟨g, _⟩ | ⟨_, g, _⟩ | ⟨g, _⟩
          · omega
          · exact g
          · omega
        split at e
        · cases e
        · rename_i h1
          split at e
          · cases e
          · rename_i h3
            split at e
            · cases e
            · rename_i h2
              injection e with e
              subst e
              have hn1 : ∀ x ∈ s.list, idE x ≠ idE r.e := fun x hx e => h1 (hasE_iff.2 ⟨x, hx, e⟩)
              have hn3 : ∀ x ∈ s.prom, idE x ≠ idE r.e := fun x hx e => h3 (hasE_iff.2 ⟨x, hx, e⟩)
              have hn2 : idE r.e ∉ s.ab := fun hx => h2 (hasI_iff.2 hx)
              refine ⟨h.nl, ?_, h.na, ?_, h.la, ?_, h.okl, ?_, h.oka, h.life⟩
              · simp only [List.map_append, List.map_cons, List.map_nil]
                refine nodup_snoc h.np ?_
                intro hx
                obtain ⟨x, hx, e⟩ := List.mem_map.1 hx
                exact hn3 x hx e
              · intro x hx y hy
                rcases List.mem_append.1 hy with hy | hy
                · exact h.lp x hx y hy
                · simp at hy; subst hy
                  exact hn1 x hx
              · intro x hx
                rcases List.mem_append.1 hx with hx | hx
                · exact h.pa x hx
                · simp at hx; subst hx
                  exact hn2
              · intro x hx
                rcases List.mem_append.1 hx with hx | hx
                · exact h.okp x hx
                · simp at hx; subst hx
                  exact ⟨hoe, hfe⟩
      · split at e
        · rename_i hk4
          have hb : homeB r.br = true := by
            rcases hk with ⟨g, _⟩ | ⟨g, _⟩ | ⟨_, g, _⟩
            · omega
            · omega
            · simp [homeB, g.1, g.2]
          split at e
          · cases e
          · rename_i h1
            split at e
            · cases e
            · rename_i h2
              injection e with e
              subst e
              have hn1 : ∀ x ∈ s.list, idE x ≠ idR r := fun x hx e => h1 (hasE_iff.2 ⟨x, hx, e⟩)
              have hn2 : idR r ∉ s.ab := fun hx => h2 (hasI_iff.2 hx)
              have hd := h.drop (idR r)
              refine ⟨h.nl, hd.np, nodup_snoc h.na hn2, hd.lp, ?_, ?_, h.okl, hd.okp, ?_, h.life⟩
              · intro x hx hm
                rcases List.mem_append.1 hm with hm | hm
                · exact h.la x hx hm
                · simp at hm
                  exact hn1 x hx hm
              · intro x hx hm
                rcases List.mem_append.1 hm with hm | hm
                · exact hd.pa x hx hm
                · simp at hm
                  exact (dropE_mem.1 hx).2 hm
              · intro a ha
                rcases List.mem_append.1 ha with ha | ha
                · exact h.oka a ha
                · simp at ha; subst ha
                  exact ⟨hb, hfb, hfl, hfs⟩
        · split at e
          · injection e with e
            subst e
            exact h.drop _
          · cases e
theorem InvS.step {s : Stt} (h : InvS s) {r : Rec} (hf : fitRec r) : InvS (stepS s r).1 := by
  cases hok : okRec r
  · rw [stepS_bad hok]; exact h
  · cases ho : onS s r with
    | none => rw [stepS_ok hok ho]; exact h
    | some t => rw [stepS_ok hok ho]; exact h.on hok hf ho
theorem InvS.fold (l : List Rec) (hf : ∀ r ∈ l, fitRec r) : ∀ {s : Stt}, InvS s → InvS (l.foldl tryS s) := by
  induction l with
  | nil => intro s h; exact h
  | cons r l ih =>
    intro s h
    refine ih (fun x hx => hf x (by simp [hx])) ?_
    unfold tryS
    split
    · exact h.step (hf r (by simp))
    · exact h
theorem InvS.made (l : List Rec) (hf : ∀ r ∈ l, fitRec r) : InvS (madeS l) := InvS.fold _ (fun r hr => hf r (List.mem_of_mem_take hr)) InvS.zero

/-- Records that go on, one behind the other. -/
def runS : Stt → List Rec → Option Stt
  | s, [] => some s
  | s, r :: l => (onS s r).bind fun t => runS t l
theorem runS_app (l m : List Rec) : ∀ s, runS s (l ++ m) = (runS s l).bind fun t => runS t m := by
  induction l with
  | nil => intro s; rfl
  | cons r l ih =>
    intro s
    simp only [List.cons_append, runS]
    cases onS s r with
    | none => rfl
    | some t => exact ih t
theorem allG_run (l : List Rec) (h : ∀ r ∈ l, okRec r = true ∧ fitRec r) : ∀ s t, runS s l = some t → allG s (l.map encRec) = (t, 0) := by
  induction l with
  | nil => intro s t e; injection e with e; subst e; rfl
  | cons r l ih =>
    intro s t e
    obtain ⟨hok, hf⟩ := h r (by simp)
    simp only [runS] at e
    cases ho : onS s r with
    | none => rw [ho] at e; cases e
    | some u =>
      rw [ho] at e
      have hd := decRec_enc r hok hf
      have h1 : oneG s (encRec r) = (u, 0) := by
        unfold oneG
        rw [(decRec_some hd).1, (decRec_some hd).2, if_pos rfl, stepS_ok hok ho]
        rfl
      simp only [List.map_cons, allG, h1, if_true]
      exact ih (fun x hx => h x (by simp [hx])) u t e
theorem run_1 (n : Nat) : runS st0 (rec1 n) = some ⟨n, [], [], []⟩ := by
  unfold rec1
  split
  · rename_i h; subst h; rfl
  · rename_i h
    simp [runS, onS, on1, st0, h]
theorem run_L (n : Nat) (l : List Ent) : ∀ a : List Ent, ((a ++ l).map idE).Nodup → runS ⟨n, a, [], []⟩ ((l.zipIdx a.length).map fun p => ⟨2, p.2, p.1, 0, 0, 0⟩) = some ⟨n, a ++ l, [], []⟩ := by
  induction l with
  | nil => intro a _; simp [runS]
  | cons x l ih =>
    intro a h
    have hx : hasE a (idE x) = false := by
      rw [Bool.eq_false_iff]
      intro hh
      obtain ⟨y, hy, e⟩ := hasE_iff.1 hh
      simp only [List.map_append, List.map_cons] at h
      exact (List.nodup_append.1 h).2.2 (idE y) (List.mem_map_of_mem hy) (idE x) (by simp) e
    have h1 : onS ⟨n, a, [], []⟩ ⟨2, a.length, x, 0, 0, 0⟩ = some ⟨n, a ++ [x], [], []⟩ := by
      simp [onS, on2, hx, hasI, dropE]
    simp only [List.zipIdx_cons, List.map_cons, runS, h1, Option.bind_some]
    have := ih (a ++ [x]) (by simpa using h)
    simpa using this
theorem run_P (n : Nat) (L : List Ent) (l : List Ent) : ∀ a : List Ent, ((a ++ l).map idE).Nodup → (∀ x ∈ L, ∀ y ∈ l, idE x ≠ idE y) → runS ⟨n, L, a, []⟩ (recP l) = some ⟨n, L, a ++ l, []⟩ := by
  induction l with
  | nil => intro a _ _; simp [runS, recP]
  | cons x l ih =>
    intro a h hl
    have hx : hasE a (idE x) = false := by
      rw [Bool.eq_false_iff]
      intro hh
      obtain ⟨y, hy, e⟩ := hasE_iff.1 hh
      simp only [List.map_append, List.map_cons] at h
      exact (List.nodup_append.1 h).2.2 (idE y) (List.mem_map_of_mem hy) (idE x) (by simp) e
    have hy : hasE L (idE x) = false := by
      rw [Bool.eq_false_iff]
      intro hh
      obtain ⟨y, hy, e⟩ := hasE_iff.1 hh
      exact hl y hy x (by simp) e
    have h1 : onS ⟨n, L, a, []⟩ ⟨3, 0, x, 0, 0, 0⟩ = some ⟨n, L, a ++ [x], []⟩ := by
      simp [onS, on3, hx, hy, hasI]
    simp only [recP, List.map_cons, runS, h1, Option.bind_some]
    have := ih (a ++ [x]) (by simpa using h) (fun x hx y hy => hl x hx y (by simp [hy]))
    simpa [recP] using this
theorem dropE_no {l : List Ent} {a : Idn} (h : ∀ x ∈ l, idE x ≠ a) : dropE l a = l := by
  unfold dropE
  rw [List.filter_eq_self]
  intro x hx
  simpa using h x hx
theorem run_A (n : Nat) (L P : List Ent) (l : List Idn) : ∀ a : List Idn, (a ++ l).Nodup → (∀ x ∈ L, idE x ∉ l) → (∀ x ∈ P, idE x ∉ l) → runS ⟨n, L, P, a⟩ (recB l) = some ⟨n, L, P, a ++ l⟩ := by
  induction l with
  | nil => intro a _ _ _; simp [runS, recB]
  | cons x l ih =>
    intro a h hl hp
    have hx : hasI a x = false := by
      rw [Bool.eq_false_iff]
      intro hh
      exact (List.nodup_append.1 h).2.2 x (hasI_iff.1 hh) x (by simp) rfl
    have hy : hasE L x = false := by
      rw [Bool.eq_false_iff]
      intro hh
      obtain ⟨y, hy, e⟩ := hasE_iff.1 hh
      exact hl y hy (by simp [e])
    have hd : dropE P x = P := dropE_no fun y hy e => hp y hy (by simp [e])
    have h1 : onS ⟨n, L, P, a⟩ ⟨4, 0, ent0, x.1, x.2.1, x.2.2⟩ = some ⟨n, L, P, a ++ [x]⟩ := by
      simp [onS, on4, idR, hx, hy, hd]
    simp only [recB, List.map_cons, runS, h1, Option.bind_some]
    have := ih (a ++ [x]) (by simpa using h) (fun y hy hm => hl y hy (by simp [hm])) (fun y hy hm => hp y hy (by simp [hm]))
    simpa [recB] using this
theorem run_recs {s : Stt} (h : InvS s) : runS st0 (recsS s) = some s := by
  unfold recsS
  rw [runS_app, runS_app, runS_app, run_1]
  simp only [Option.bind_some]
  have h1 := run_L s.life s.list [] (by simpa using h.nl)
  simp only [List.length_nil, List.nil_append] at h1
  unfold recL
  rw [h1]
  simp only [Option.bind_some]
  rw [run_P s.life s.list s.prom [] (by simpa using h.np) h.lp]
  simp only [Option.bind_some, List.nil_append]
  rw [run_A s.life s.list s.prom s.ab [] (by simpa using h.na) h.la h.pa]
  rfl
theorem fit_ent0 : fitEn ent0 := by simp [fitEn, ent0, i64ok]
theorem recs_ok {s : Stt} (h : InvS s) (hz : s.list.length ≤ 1000000) : ∀ r ∈ recsS s, okRec r = true ∧ fitRec r := by
  intro r hr
  have hi : i64ok 0 := by simp [i64ok]
  unfold recsS at hr
  simp only [List.mem_append] at hr
  rcases hr with ((hr | hr) | hr) | hr
  · unfold rec1 at hr
    split at hr
    · cases hr
    · simp at hr
      subst hr
      exact ⟨by simp [okRec, noId], by simp [i64ok], h.life, fit_ent0, hi, by simp, by simp⟩
  · unfold recL at hr
    obtain ⟨⟨x, k⟩, hx, rfl⟩ := List.mem_map.1 hr
    have hm := List.mem_zipIdx hx
    obtain ⟨h1, h2⟩ := h.okl x (by have := hm.2.2; rw [this]; exact List.getElem_mem _)
    have hk := hm.2.1
    exact ⟨by simp [okRec, h1, noId], by simp [i64ok], by simp only; omega, h2, hi, by simp, by simp⟩
  · unfold recP at hr
    obtain ⟨x, hx, rfl⟩ := List.mem_map.1 hr
    obtain ⟨h1, h2⟩ := h.okp x hx
    exact ⟨by simp [okRec, h1, noId], by simp [i64ok], by simp, h2, hi, by simp, by simp⟩
  · unfold recB at hr
    obtain ⟨a, ha, rfl⟩ := List.mem_map.1 hr
    obtain ⟨h1, h2, h3, h4⟩ := h.oka a ha
    exact ⟨by simp [okRec, h1], by simp [i64ok], by simp, fit_ent0, h2, h3, h4⟩
theorem back_recs {s : Stt} (h : InvS s) (hz : s.list.length ≤ 1000000) : allS ((recsS s).map encRec) = (s, 0) := by
  have := allG_run _ (recs_ok h hz) st0 s (run_recs h)
  unfold allS
  rw [this]
  rfl
end Go.Proofs.Ythnhdeieimgfhaa
