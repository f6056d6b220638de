/-
  The walks of entry.home, empty, Check and may (layer 11). Conditions: none.
-/
import Derived.Test.YtjcdgbnbaiebdaaEnOpen
import Derived.Test.YtjcdgbnbaiebdaaEvBc
import Derived.Test.YtjcdgbnbaiebdaaFiC
set_option maxRecDepth 100000
namespace Go.Proofs.Ytjcdgbnbaiebdaa
open Go Go.RowKit

set_option maxHeartbeats 400000 in
theorem Home_calls (a : Idn) (w : World) :
    Calls Try.prog 64 #[idv a] w fun e w' => e = .returned (.bool (homeB a.1)) ∧ K w w' := by
  obtain ⟨b, l, s⟩ := a
  have hb : K w (w.alloc (.cells #[.int .i64 b, .int .u64 (l : Int), .int .u64 (s : Int)] 26)) := (K.rf w).al _
  go_enter Try.func64, Try.ntmps64
  go_wp2
  all_goals
    go_ret
    refine ⟨?_, hb⟩
    show Ending.returned (.bool _) = Ending.returned (.bool _)
    congr 2
    unfold homeB
    simp
    try omega

/-- Whether all of an entry is empty. -/
def emptyEn (x : Ent) : Bool := decide (x = ent0)
theorem emptyEn_iff (x : Ent) : emptyEn x = (decide (x.kind = 0) && (decide (x.br = 0) && decide (x.life = 0) && decide (x.ser = 0)) && decide (x.cl = 0) && decide (x.sub = 0) && x.f.isEmpty && x.es.isEmpty) := by
  obtain ⟨k, b, l, s, c, u, f, es⟩ := x
  simp only [emptyEn, ent0, Ent.mk.injEq]
  cases f <;> cases es <;> simp [Bool.and_assoc]
set_option maxHeartbeats 2000000 in
theorem Empty_calls (x : Ent) (v : Value) (w : World) (h : ent x v w) :
    Calls Try.prog 74 #[v] w fun e w' => e = .returned (.bool (emptyEn x)) ∧ K w w' := by
  obtain ⟨vf, ve, rfl, hf, he⟩ := h
  obtain ⟨A, c, rfl⟩ := flt_slice hf
  obtain ⟨D, d, rfl⟩ := lst_slice he
  clear hf he
  obtain ⟨k, b, l, s, cl, u, f, es⟩ := x
  simp only
  go_enter Try.func74, Try.ntmps74
  go_wp2
  all_goals
    go_ret
    refine ⟨?_, (K.rf w).al _⟩
    rw [emptyEn_iff]
    show Ending.returned (.bool _) = Ending.returned (.bool _)
    simp_all [len0']

theorem chkEn_bad {x : Ent} (h : okEn x = false) : chkEn x = 110 := by simp [chkEn, h]
theorem chkEn_good {x : Ent} (h : okEn x = true) : chkEn x = 0 := by simp [chkEn, h]
theorem chkE_eq (l : List Att) : (chkE l == 0) = okE l := by unfold chkE; cases okE l <;> rfl
theorem chkF_eq (l : List Tst) : (chkF l == 0) = okF l := by unfold chkF; cases okF l <;> rfl
theorem all_take_succ {α : Type} (p : α → Bool) (l : List α) (k : Nat) (h : k < l.length) : (l.take (k + 1)).all p = ((l.take k).all p && p l[k]) := by
  rw [List.take_succ_eq_append_getElem h, List.all_append]; simp
theorem all_take_bad {α : Type} (p : α → Bool) (l : List α) (k : Nat) (h : (l.take k).all p = false) : l.all p = false := by
  cases hl : l.all p with
  | false => rfl
  | true =>
    rw [List.all_eq_true] at hl
    rw [List.all_eq_false] at h
    obtain ⟨x, hx, hp⟩ := h
    exact absurd (hl x (List.mem_of_mem_take hx)) hp

set_option maxHeartbeats 4000000 in
theorem NCheck_calls (x : Ent) (v : Value) (w : World) (h : ent x v w) :
    Calls Try.prog 32 #[v] w fun e w' => e = .returned (.int .i64 (chkEn x)) ∧ K w w' := by
  obtain ⟨vf, ve, rfl, hf, he⟩ := h
  obtain ⟨A, c, rfl⟩ := flt_slice hf
  obtain ⟨D, d, e0, he, hd⟩ := he
  obtain rfl := e0
  obtain ⟨k, b, l, s, cl, u, f, es⟩ := x
  simp only at hf he hd ⊢
  have hx := Blk.new w 34 (entA ⟨k, b, l, s, cl, u, f, es⟩ (.slice A f.length c) (.slice D es.length d))
  have k1 : K w (w.alloc (.cells (entA ⟨k, b, l, s, cl, u, f, es⟩ (.slice A f.length c) (.slice D es.length d)) 34)) := (K.rf w).al _
  have hg : w.heap.size < (w.alloc (.cells (entA ⟨k, b, l, s, cl, u, f, es⟩ (.slice A f.length c) (.slice D es.length d)) 34)).heap.size := by simp
  generalize hchk : chkEn ⟨k, b, l, s, cl, u, f, es⟩ = E
  go_enter Try.func32, Try.ntmps32
  go_wp2_with fail
  generalize w.alloc _ = w1 at *
  generalize w.heap.size = g at hx hg ⊢
  have qx := hx.cells
  have hf1 := flt_st _ _ _ _ hf k1
  have he1 := lsr_st he k1
  clear hf he
  refine (Home_calls (b, l, s) w1).mono ?_
  rintro e w2 ⟨rfl, k2⟩
  have k02 := k1.tr k2
  cases hh : homeB b
  · have HE : Hid (E = 110) := Lib.hid (by rw [← hchk]; exact chkEn_bad (by simp [okEn, hh]))
    clear hchk
    go_wp2
    go_ret
    exact ⟨by rw [HE.out]; rfl, k02⟩
  by_cases hc0 : cl < 0
  · have HE : Hid (E = 110) := Lib.hid (by rw [← hchk]; exact chkEn_bad (by simp [okEn]; omega))
    clear hchk
    go_wp2
    go_ret
    exact ⟨by rw [HE.out]; rfl, k02⟩
  by_cases hc1 : 32 ≤ cl
  · have HE : Hid (E = 110) := Lib.hid (by rw [← hchk]; exact chkEn_bad (by simp [okEn]; omega))
    clear hchk
    go_wp2
    go_ret
    exact ⟨by rw [HE.out]; rfl, k02⟩
  by_cases hk1 : k = 1
  · subst hk1
    have HE : Hid (E = if (decide (u = 0) && f.isEmpty && decide (es.length ≤ 8) && es.all okE) = true then 0 else 110) := Lib.hid (by
      rw [← hchk]; simp [chkEn, okEn, hh, show 0 ≤ cl by omega, show cl < 32 by omega])
    clear hchk
    go_upto_region 8 with (fail)
    go_cut [3] from 27 to 41 (fun v wc => v = .bool (decide (u = 0) && f.isEmpty && decide (es.length ≤ 8)) ∧ wc = w2)
    case first =>
      have e1 : ((u : Int) == 0) = decide (u = 0) := by
        by_cases h : u = 0
        · subst h; rfl
        · simp [h]
      have e2 := len0' f
      by_cases hu : u = 0
      rotate_left
      · have hu' : ((u : Int) == 0) = false := by simpa using hu
        go_wp2
        go_meet
        case rel => simp [hu]
      subst hu
      by_cases hfe : f = []
      rotate_left
      · have hu' : ((f.length : Int) == 0) = false := by rw [len0']; simpa using hfe
        go_wp2
        go_meet
        case rel => simp [hfe]
      subst hfe
      by_cases h8 : es.length ≤ 8
      · have h8' : (es.length : Int) ≤ 8 := by omega
        go_wp2
        go_meet
        case rel => simp [h8]
      · have h8' : ¬ (es.length : Int) ≤ 8 := by omega
        go_wp2
        go_meet
        case rel => simp [h8]
    case rest =>
    obtain ⟨rfl, rfl⟩ := hcut
    have h8 : Hid ((decide (u = 0) && f.isEmpty && decide (es.length ≤ 8)) = true → es.length ≤ 8) := Lib.hid (by simp)
    generalize (decide (u = 0) && f.isEmpty && decide (es.length ≤ 8)) = m0 at *
    go_wp2_with fail
    go_loopw [3, 4] (fun mv iv wr => ∃ (m : Bool) (j : Nat), mv = .bool m ∧ iv = .int .i64 (j : Int) ∧ j ≤ es.length ∧ Hid (m = (m0 && (es.take j).all okE)) ∧ K w1 wr) (fun _ i _ => es.length - (intOf i).toNat)
    case atStart => exact ⟨m0, 0, rfl, rfl, by omega, Lib.hid (by simp), k2⟩
    case round =>
      obtain ⟨m, j, rfl, rfl, hj, hm, kr⟩ := hrel
      cases m
      · have HB : Hid (E = 110) := Lib.hid (by
          rw [HE.out, if_neg]
          have hm := hm.out
          cases m0
          · simp
          · simp only [Bool.true_and] at hm
            have := all_take_bad okE es j hm.symm
            rw [this]; simp)
        go_wp2
        go_ret
        exact ⟨by rw [HB.out]; rfl, k1.tr kr⟩
      have h88 : es.length ≤ 8 := h8.out (by have := hm.out.symm; simp only [Bool.and_eq_true] at this; exact this.1)
      by_cases hlt : j < es.length
      · have hji : (j : Int) < (es.length : Int) := by omega
        obtain ⟨b1, off, cs, rfl, hb1, hcl, ⟨ve, rfl, hev⟩, hcell⟩ := lsr_at he1 j hlt (by decide)
        have d0 : wr.cell? ⟨b1, off + j, none⟩ = some ve := by
          have := hcell 0 (by decide)
          rw [kr.cell (by simpa using hb1)]
          simpa [evS] using this
        have hevr := evt_st _ _ _ _ hev kr
        go_wp2_with fail
        refine (ECheck_evt hevr).mono ?_
        rintro e w3 ⟨rfl, k3⟩
        have e3 := chkE_eq es[j]
        go_wp2
        go_roundw
        case rel => exact ⟨okE es[j], j + 1, rfl, by go_num, by omega, Lib.hid (by rw [all_take_succ okE es j hlt, ← Bool.and_assoc, ← hm.out]; rfl), kr.tr k3⟩
        case measure => simp [intOf]; omega
      · have hji : ¬ (j : Int) < (es.length : Int) := by omega
        have HB : Hid (E = 0) := Lib.hid (by
          have hm := hm.out
          rw [List.take_of_length_le (by omega)] at hm
          rw [HE.out, if_pos hm.symm])
        go_wp2
        go_ret
        exact ⟨by rw [HB.out]; rfl, k1.tr kr⟩
  by_cases hk3 : k = 3
  · subst hk3
    have HE : Hid (E = if (f.isEmpty && es.isEmpty) = true then 0 else 110) := Lib.hid (by
      rw [← hchk]; simp [chkEn, okEn, hh, show 0 ≤ cl by omega, show cl < 32 by omega])
    clear hchk
    cases hfe : f.isEmpty
    · have e2 : ((f.length : Int) == 0) = false := by rw [len0', hfe]
      have HB : Hid (E = 110) := Lib.hid (by rw [HE.out, hfe]; rfl)
      go_wp2
      go_ret
      exact ⟨by rw [HB.out]; rfl, k02⟩
    obtain rfl : f = [] := by simpa using hfe
    cases hee : es.isEmpty
    · have e3 : ((es.length : Int) == 0) = false := by rw [len0', hee]
      have HB : Hid (E = 110) := Lib.hid (by rw [HE.out, hee]; rfl)
      go_wp2
      go_ret
      exact ⟨by rw [HB.out]; rfl, k02⟩
    obtain rfl : es = [] := by simpa using hee
    have HB : Hid (E = 0) := Lib.hid (by rw [HE.out]; rfl)
    clear hee hfe
    go_wp2_with fail
    refine (FCheck_flt (flt_st _ _ _ _ hf1 k2)).mono ?_
    rintro e w3 ⟨rfl, k3⟩
    rw [show chkF [] = 0 from rfl]
    go_wp2
    go_ret
    exact ⟨by rw [HB.out]; rfl, k02.tr k3⟩
  by_cases hk2 : k = 2
  · subst hk2
    have HE : Hid (E = if (es.isEmpty && okF f) = true then 0 else 110) := Lib.hid (by
      rw [← hchk]; simp [chkEn, okEn, hh, show 0 ≤ cl by omega, show cl < 32 by omega])
    clear hchk
    cases hee : es.isEmpty
    · have e3 : ((es.length : Int) == 0) = false := by rw [len0', hee]
      have HB : Hid (E = 110) := Lib.hid (by rw [HE.out, hee]; rfl)
      go_wp2
      go_ret
      exact ⟨by rw [HB.out]; rfl, k02⟩
    obtain rfl : es = [] := by simpa using hee
    clear hee
    go_wp2_with fail
    refine (FCheck_flt (flt_st _ _ _ _ hf1 k2)).mono ?_
    rintro e w3 ⟨rfl, k3⟩
    have e3 := chkF_eq f
    cases hok : okF f
    · have HB : Hid (E = 110) := Lib.hid (by rw [HE.out, hok]; rfl)
      rw [hok] at e3
      clear HE
      go_wp2
      go_ret
      exact ⟨by rw [HB.out]; rfl, k02.tr k3⟩
    · have HB : Hid (E = 0) := Lib.hid (by rw [HE.out, hok]; rfl)
      rw [hok] at e3
      clear HE
      go_wp2
      go_ret
      exact ⟨by rw [HB.out]; rfl, k02.tr k3⟩
  have HE : Hid (E = 110) := Lib.hid (by
    rw [← hchk]; exact chkEn_bad (by simp [okEn, hk1, hk2, hk3]))
  clear hchk
  have g1 : (k == 1) = false := by simpa using hk1
  have g2 : (k == 2) = false := by simpa using hk2
  have g3 : (k == 3) = false := by simpa using hk3
  clear hk1 hk2 hk3
  go_wp2
  go_ret
  exact ⟨by rw [HE.out]; rfl, k02⟩
end Go.Proofs.Ytjcdgbnbaiebdaa
