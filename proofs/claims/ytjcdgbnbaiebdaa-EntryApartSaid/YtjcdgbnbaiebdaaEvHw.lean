/-
  The walk of event.Decode (layer 4). Conditions: at most 10^9 bytes.
-/
import Derived.Test.YtjcdgbnbaiebdaaEvH
import Derived.Test.YtjcdgbnbaiebdaaEvBc
set_option maxRecDepth 100000
namespace Go.Proofs.Ytjcdgbnbaiebdaa
open Go Go.RowKit

set_option maxHeartbeats 4000000 in
theorem Decode_calls (A : Option Addr) (n c : Nat) (b : List UInt8) (w : World) (B : Nat) (hR : Reads w B 1 A n (bys b)) (hB : B ≤ w.heap.size) (hn : n ≤ 1000000000) :
    Calls Try.prog 59 #[.slice A n c] w fun e w' =>
      ∃ v', e = .returned (.tuple #[v', .int .i64 (decC b)]) ∧ OwnE w' w.heap.size v' (decL b) ∧ Below w.heap.size w w' := by
  have hbl : b.length = n := by simpa using hR.len
  have hle : b.length ≤ 1000000000 := by omega
  clear hbl
  go_enter Try.func59, Try.ntmps59
  go_wp2_with fail
  refine (New_calls A n c b w B hR hB hn).mono ?_
  rintro e w1 ⟨g, rfl, hg, hr1, hb1⟩
  go_wp2_with fail
  refine (RNumber_calls g b false w1 hr1).mono ?_
  rintro e w2 ⟨rfl, hr2, hg2⟩
  have hgl := hr1.lt
  have hz2 := hg2.size
  have hbw : Below w.heap.size w w2 := hb1.trans (below_of_mut hg2 hg hb1.size)
  have hlt := rdN_lt b false
  have hle2 := rdN_len b false
  have HD : Hid (decE b = if decide ((rdN b false).1 ≤ 16) && !(rdAs (rdN b false).1 (rdN b false).2.1 (rdN b false).2.2).2.2 && (rdAs (rdN b false).1 (rdN b false).2.1 (rdN b false).2.2).2.1.isEmpty && okE (rdAs (rdN b false).1 (rdN b false).2.1 (rdN b false).2.2).1 then some (rdAs (rdN b false).1 (rdN b false).2.1 (rdN b false).2.2).1 else none) := Lib.hid rfl
  generalize rdN b false = a at *
  obtain ⟨m, l, bad⟩ := a
  simp only at hr2 hlt hle2 HD ⊢
  clear hr1 hb1 hR
  by_cases h16 : m ≤ 16
  rotate_left
  · have h16' : (16 : Int) < (m : Int) := by omega
    have HE : Hid (decC b = 40) := Lib.hid (by have := HD.out; simp [h16] at this; simp [decC, this])
    have HL : Hid (decL b = []) := Lib.hid (by have := HD.out; simp [h16] at this; simp [decL, this])
    go_wp2
    go_ret2
    exact ⟨_, by rw [HE.out]; rfl, by rw [HL.out]; exact World.ownsRow_nil _ _ _ _, hbw⟩
  have h16' : ¬ (16 : Int) < (m : Int) := by omega
  go_wp2_with fail
  go_loopw [6, 7, 15] (fun v _ i wk => ∃ k : Nat, k ≤ m ∧ i = .int .u64 (k : Int) ∧ OwnE wk w1.heap.size v (rdAs k l bad).1 ∧ Rd wk g (rdAs k l bad).2.1 (rdAs k l bad).2.2 ∧ Below w.heap.size w wk ∧ w1.heap.size ≤ wk.heap.size) (fun _ _ i _ => m - (intOf i).toNat)
  case atStart => exact ⟨0, by omega, rfl, World.ownsRow_nil _ _ _ _, hr2, hbw, hz2⟩
  case round =>
    obtain ⟨k, hk, rfl, hown, hrd, hb, hz⟩ := hrel
    by_cases hlt : k < m
    · have hki : (k : Int) < (m : Int) := by omega
      have hlk := rdAs_len k l bad
      have hfit : ∀ s, rdAs k l bad = s → rdAs (k + 1) l bad = (s.1 ++ [(rdA s.2.1 s.2.2).1], (rdA s.2.1 s.2.2).2) := fun s e => by subst e; rfl
      generalize hs : rdAs k l bad = s at *
      have hfit := hfit s rfl
      obtain ⟨ats, lk, wk⟩ := s
      simp only at hown hrd hlk
      obtain ⟨hlk1, hlk2⟩ := hlk
      have HLK := Lib.hid hlk2
      have hasl : ats.length ≤ 16 := by omega
      clear hlk2
      have C1 := Lib.hid (RBytes_calls g lk wk 16 wr hrd (by omega) (by omega) (by omega))
      have hl1 := rdB_len 16 lk wk
      have HF : Hid (rdAs (k + 1) l bad = (ats ++ [((⟨(rdB 16 lk wk).1.toArray⟩, (rdV (rdB 16 lk wk).2.1 (rdB 16 lk wk).2.2).1.1, (rdV (rdB 16 lk wk).2.1 (rdB 16 lk wk).2.2).1.2.1, ⟨(rdV (rdB 16 lk wk).2.1 (rdB 16 lk wk).2.2).1.2.2.toArray⟩) : Att)], (rdV (rdB 16 lk wk).2.1 (rdB 16 lk wk).2.2).2)) := Lib.hid hfit
      clear hfit hs
      have hl2 := rdV_len (rdB 16 lk wk).2.1 (rdB 16 lk wk).2.2
      have C2 : Hid (∀ W, Rd W g (rdB 16 lk wk).2.1 (rdB 16 lk wk).2.2 → Calls Try.prog 73 #[.pointer (some ⟨g, 0, none⟩)] W fun e w' => e = .returned (vd (rdV (rdB 16 lk wk).2.1 (rdB 16 lk wk).2.2).1) ∧ Went g (rdV (rdB 16 lk wk).2.1 (rdB 16 lk wk).2.2).2.1 (rdV (rdB 16 lk wk).2.1 (rdB 16 lk wk).2.2).2.2 W w') := Lib.hid fun W hW => RValue_calls g _ _ W hW (by omega)
      generalize rdB 16 lk wk = sb at *
      obtain ⟨nm, lb, wb⟩ := sb
      simp only at C1 C2 HF hl1 hl2
      generalize rdV lb wb = sv at *
      obtain ⟨⟨vk, vn, vt⟩, lv, wv⟩ := sv
      simp only [vd] at C2 HF hl2
      have hgz : g < wr.heap.size := by omega
      go_wp2_with fail
      refine C1.out.mono ?_
      rintro e w3 ⟨v3, rfl, ho3, hr3, hg3⟩
      have hst := str (sl_own ho3)
      have hz3 := hg3.size
      have hown3 := row_mut hown hg3 hgl
      have hb3 : Below w.heap.size w w3 := hb.trans (below_of_mut hg3 hg hb.size)
      clear hown hrd hg3 hb C1
      go_wp2_with fail
      refine (C2.out _ hr3).mono ?_
      rintro e w4 ⟨rfl, hr4, hg4⟩
      have hz4 := hg4.size
      have hown4 := row_mut hown3 hg4 hgl
      have hb4 : Below w.heap.size w w4 := hb3.trans (below_of_mut hg4 hg hb3.size)
      clear hown3 hr3 hg4 hb3 C2 hst ho3
      go_wp2_with (at_builtin; refine wpList_app rfl _ _ 29 rfl w1.heap.size 79 _ 4 48 TE _ _ _ rfl (World.ownsRow.alloc hown4 _) (w4.heap.size + 1) _ 1 1 (attc (⟨nm.toArray⟩, vk, vn, ⟨vt.toArray⟩)) rfl ?c1 ?c2 ?c3 ?c5 ?_)
      case c1 => exact Reads.new w4 (attc (⟨nm.toArray⟩, vk, vn, ⟨vt.toArray⟩)) 79 4 1 rfl
      case c2 => exact attc_one _
      case c3 => omega
      case c5 => simp; omega
      intro v5 w5 hown5 hg5 hat5 hb5
      have hown6 : OwnE w5 w1.heap.size v5 (rdAs (k + 1) l bad).1 := by
        rw [HF.out]
        unfold OwnE
        simpa [List.flatMap_append] using hown5
      have hr5 : Rd w5 g (rdAs (k + 1) l bad).2.1 (rdAs (k + 1) l bad).2.2 := by
        rw [HF.out]
        exact (hr4.below (Below.alloc (Below.refl _ _) (Nat.le_refl _) _) hr4.lt).below hb5 hgl
      have hbw5 : Below w.heap.size w w5 := (hb4.alloc hb4.size _).trans (hb5.mono (by omega))
      have hz5 : w1.heap.size ≤ w5.heap.size := by have := hb5.size; simp at this; omega
      clear hown5 hg5 hat5 hb5 hr4 hown4 hb4
      go_wp2
      go_roundw
      case rel => exact ⟨k + 1, by omega, by go_num, hown6, hr5, hbw5, hz5⟩
      case measure => simp [intOf]; omega
    · have hki : ¬ (k : Int) < (m : Int) := by omega
      obtain rfl : k = m := by omega
      clear hlt hk
      have hlk := (rdAs_len k l bad).2
      generalize rdAs k l bad = s at *
      obtain ⟨ats, lk, wk⟩ := s
      simp only at hown hrd HD hlk
      have HLK := Lib.hid hlk
      clear hlk
      have hcomp : ∀ x : Bool, x = (!wk && lk.isEmpty && okE ats) → Hid (decC b = (if x then 0 else 40)) ∧ Hid (decL b = if x then ats else []) := by
        intro x hx
        have h := HD.out
        rw [show (decide (k ≤ 16)) = true by simp; omega] at h
        cases x with
        | true => rw [Bool.true_and, ← hx] at h; exact ⟨Lib.hid (by simp [decC, h]), Lib.hid (by simp [decL, h])⟩
        | false => rw [Bool.true_and, ← hx] at h; exact ⟨Lib.hid (by simp [decC, h]), Lib.hid (by simp [decL, h])⟩
      have HCO := Lib.hid hcomp
      clear hcomp
      go_wp2_with fail
      refine (Done_calls g _ _ wr hrd).mono ?_
      rintro e w' ⟨rfl, rfl⟩
      cases hd : (!wk && lk.isEmpty)
      · obtain ⟨HE, HL⟩ := HCO.out false (by rw [hd]; rfl)
        go_wp2
        go_ret2
        exact ⟨_, by rw [HE.out]; rfl, by rw [HL.out]; exact World.ownsRow_nil _ _ _ _, hb⟩
      · obtain ⟨A', c', rfl, hR', _, _⟩ := hown.slice
        have hrow := row_base (Nat.le_trans hg (Nat.le_of_lt hgl)) hown
        go_wp2_with fail
        refine (ECheck_calls A' c' ats wr wr.heap.size hR' (Nat.le_refl _)).mono ?_
        rintro e w6 ⟨rfl, hb6⟩
        have hbw6 := hb.trans (hb6.mono hb.size)
        have hrow6 := row_below hrow hb6
        cases hok : okE ats
        · have hne : (chkE ats != 0) = true := by simp [chkE, hok]
          obtain ⟨HE, HL⟩ := HCO.out false (by rw [hd, hok]; rfl)
          go_wp2
          go_ret2
          exact ⟨_, by rw [HE.out]; rfl, by rw [HL.out]; exact World.ownsRow_nil _ _ _ _, hbw6⟩
        · have hne : (chkE ats != 0) = false := by simp [chkE, hok]
          obtain ⟨HE, HL⟩ := HCO.out true (by rw [hd, hok]; rfl)
          go_wp2
          go_ret2
          exact ⟨_, by rw [HE.out]; rfl, by rw [HL.out]; exact hrow6, hbw6⟩
section
variable {l la lb : List Att} {b : List UInt8} {v va vb : Value} {w : World}
theorem Decode_sl (h : sl b v w) (hn : b.length ≤ 1000000000) : Calls Try.prog 59 #[v] w fun e w' =>
    ∃ v', e = .returned (.tuple #[v', .int .i64 (decC b)]) ∧ OwnE w' w.heap.size v' (decL b) ∧ Below w.heap.size w w' := by
  obtain ⟨A, c, rfl, hR⟩ := h
  exact Decode_calls A _ c b w _ hR (Nat.le_refl _) hn
end
end Go.Proofs.Ytjcdgbnbaiebdaa
