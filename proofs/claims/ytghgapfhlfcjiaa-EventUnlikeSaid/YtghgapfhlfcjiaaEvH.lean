/-
  The walk of event.Decode (layer 4): what it returns, and that nothing that was there is changed. Conditions: at most 10^9 bytes.
-/
import Derived.Test.YtghgapfhlfcjiaaEvB
import Derived.Test.YtghgapfhlfcjiaaPackPlain
import Derived.Test.YtghgapfhlfcjiaaStr
namespace Go.Proofs.Ytghgapfhlfcjiaa
open Go Go.RowKit

/-- One attribute, and some, as a reader reads them: what they are, what is left, whether something is wrong. -/
def rdA (l : List UInt8) (wr : Bool) : Att × List UInt8 × Bool :=
  ((⟨(rdB 16 l wr).1.toArray⟩, (rdV (rdB 16 l wr).2.1 (rdB 16 l wr).2.2).1.1, (rdV (rdB 16 l wr).2.1 (rdB 16 l wr).2.2).1.2.1, ⟨(rdV (rdB 16 l wr).2.1 (rdB 16 l wr).2.2).1.2.2.toArray⟩), (rdV (rdB 16 l wr).2.1 (rdB 16 l wr).2.2).2)
def rdAs : Nat → List UInt8 → Bool → List Att × List UInt8 × Bool
  | 0, l, wr => ([], l, wr)
  | k + 1, l, wr => ((rdAs k l wr).1 ++ [(rdA (rdAs k l wr).2.1 (rdAs k l wr).2.2).1], (rdA (rdAs k l wr).2.1 (rdAs k l wr).2.2).2)
/-- The event that bytes are, if they are one. -/
def decS (b : List UInt8) : List Att × List UInt8 × Bool := rdAs (rdN b false).1 (rdN b false).2.1 (rdN b false).2.2
def decE (b : List UInt8) : Option (List Att) :=
  if decide ((rdN b false).1 ≤ 16) && !(decS b).2.2 && (decS b).2.1.isEmpty && okE (decS b).1 then some (decS b).1 else none
/-- What Decode tells: the event, or none; its error. -/
def decL (b : List UInt8) : List Att := (decE b).getD []
def decC (b : List UInt8) : Int := if (decE b).isSome then 0 else 40

theorem rdV_len (l : List UInt8) (wr : Bool) : (rdV l wr).2.1.length ≤ l.length := by
  have h1 := rdN_len l wr
  have h2 := rdN_len (rdN l wr).2.1 (rdN l wr).2.2
  have h3 := rdB_len 40 (rdN (rdN l wr).2.1 (rdN l wr).2.2).2.1 (rdN (rdN l wr).2.1 (rdN l wr).2.2).2.2
  simp only [rdV]
  split <;> (simp only; omega)
theorem rdV_i64 (l : List UInt8) (wr : Bool) : i64ok (rdV l wr).1.1 ∧ i64ok (rdV l wr).1.2.1 := by
  cases h : (rdV l wr).2.2
  · obtain ⟨_, h2, _, h4, h5⟩ := rdV_back h
    have := (okV_kind h2).1
    exact ⟨by unfold i64ok; omega, h4, h5⟩
  · have : (rdV l wr).1 = (0, 0, []) := by
      simp only [rdV] at h ⊢
      split at h
      · rename_i hq; rw [if_pos hq]
      · cases h
    rw [this]; unfold i64ok; simp
theorem rdA_len (l : List UInt8) (wr : Bool) : (rdA l wr).2.1.length ≤ l.length :=
  Nat.le_trans (rdV_len _ _) (rdB_len 16 l wr)
theorem rdAs_len (k : Nat) (l : List UInt8) (wr : Bool) : (rdAs k l wr).2.1.length ≤ l.length ∧ (rdAs k l wr).1.length = k := by
  induction k with
  | zero => exact ⟨Nat.le_refl _, rfl⟩
  | succ k ih => exact ⟨Nat.le_trans (rdA_len _ _) ih.1, by simp [rdAs, ih.2]⟩
theorem rdB_most (most : Int) (l : List UInt8) (wr : Bool) : (rdB most l wr).1.length ≤ most.toNat := by
  unfold rdB
  split
  · simp
  · rename_i h
    simp at h
    simp; omega
theorem rdAs_fit (k : Nat) (l : List UInt8) (wr : Bool) : ∀ x ∈ (rdAs k l wr).1, (i64ok x.2.1 ∧ i64ok x.2.2.1) ∧ x.1.size ≤ 16 := by
  induction k with
  | zero => simp [rdAs]
  | succ k ih =>
    intro x hx
    rcases List.mem_append.1 hx with hx | hx
    · exact ih x hx
    · simp only [List.mem_singleton] at hx
      subst hx
      exact ⟨rdV_i64 _ _, rdB_most 16 _ _⟩

theorem infoAtt : (Try.prog.info? 43).map (fun i => (i.zero, i.size, i.bytes)) = some (some (.agg #[.string { data := #[] }, .int .i64 0, .int .i64 0, .string { data := #[] }]), 4, 48) := by kernel_rfl
theorem TE : SliceT Try.prog 24 43 (.agg #[.string { data := #[] }, .int .i64 0, .int .i64 0, .string { data := #[] }]) 4 48 := ⟨Try.underlying24, infoAtt, rfl, by decide⟩
/-- An event that a call made. -/
abbrev OwnE (w : World) (base : Nat) (v : Value) (l : List Att) : Prop := w.ownsRow base 43 4 v l.length (l.flatMap attc)
theorem OwnE.slice {w : World} {base : Nat} {v : Value} {l : List Att} (h : OwnE w base v l) : ∃ A c, v = .slice A l.length c ∧ Reads w w.heap.size 4 A l.length (l.flatMap attc) ∧ l.length ≤ c ∧ c ≤ maxLen := by
  have h' := h
  rcases h.2 with ⟨rfl, h0⟩ | ⟨g, cap, cur, rfl, _, _, hn, hc, _⟩
  · obtain rfl : l = [] := List.eq_nil_of_length_eq_zero h0
    exact ⟨none, 0, rfl, Reads.of_own h', by simp, by simp⟩
  · exact ⟨_, _, rfl, Reads.of_own h', hn, hc⟩
theorem row_base {w : World} {base base' : Nat} {e : TypeId} {size n : Nat} {v : Value} {xs : List Value} (hb : base ≤ base') (h : w.ownsRow base' e size v n xs) : w.ownsRow base e size v n xs := by
  refine ⟨h.1, h.2.imp id ?_⟩
  rintro ⟨g, cap, cur, h1, h2, h3⟩
  exact ⟨g, cap, cur, h1, by omega, h3⟩
theorem row_below {w w' : World} {base : Nat} {e : TypeId} {size n : Nat} {v : Value} {xs : List Value} (h : w.ownsRow base e size v n xs) (hb : Below w.heap.size w w') : w'.ownsRow base e size v n xs := by
  refine ⟨h.1, h.2.imp id ?_⟩
  rintro ⟨g, cap, cur, h1, h2, h3, h4⟩
  exact ⟨g, cap, cur, h1, h2, (hb.block g (Array.getElem?_eq_some_iff.1 h3).1).trans h3, h4⟩
theorem row_mut {w w' : World} {base g : Nat} {e : TypeId} {size n : Nat} {v : Value} {xs : List Value} (h : w.ownsRow base e size v n xs) (hb : w.grownBy w' (some g)) (hg : g < base) : w'.ownsRow base e size v n xs :=
  World.ownsRow.kept h hb (.inr (by
    intro e
    have := (h.lt g e).1
    omega))
theorem attc_one (x : Att) : ∀ u ∈ attc x, u.oneCell' = true := by
  intro u hu
  simp at hu
  rcases hu with rfl | rfl | rfl | rfl <;> rfl

set_option maxHeartbeats 4000000 in
theorem Decode_calls (A : Option Addr) (n c : Nat) (b : List UInt8) (w : World) (B : Nat) (hR : Reads w B 1 A n (bys b)) (hB : B ≤ w.heap.size) (hn : n ≤ 1000000000) :
    Calls Try.prog 20 #[.slice A n c] w fun e w' =>
      ∃ v', e = .returned (.tuple #[v', .int .i64 (decC b)]) ∧ OwnE w' w.heap.size v' (decL b) ∧ Below w.heap.size w w' := by
  have hbl : b.length = n := by simpa using hR.len
  have hle : b.length ≤ 1000000000 := by omega
  clear hbl
  go_enter Try.func20, Try.ntmps20
  go_wp2_with fail
  refine (New_calls A n c b w B hR hB hn).mono ?_
  rintro e w1 ⟨g, rfl, hg, hr1, hb1⟩
  go_wp2_with fail
  refine (RNumber_calls g b false w1 hr1).mono ?_
  rintro e w2 ⟨rfl, hr2, hg2⟩
  have hgl := hr1.lt
  have hz2 := hg2.size
  have hbw : Below w.heap.size w w2 := hb1.trans (below_of_mut hg2 hg hb1.size)
  have hlt := rdN_lt b false
  have hle2 := rdN_len b false
  have HD : Hid (decE b = if decide ((rdN b false).1 ≤ 16) && !(rdAs (rdN b false).1 (rdN b false).2.1 (rdN b false).2.2).2.2 && (rdAs (rdN b false).1 (rdN b false).2.1 (rdN b false).2.2).2.1.isEmpty && okE (rdAs (rdN b false).1 (rdN b false).2.1 (rdN b false).2.2).1 then some (rdAs (rdN b false).1 (rdN b false).2.1 (rdN b false).2.2).1 else none) := Lib.hid rfl
  generalize rdN b false = a at *
  obtain ⟨m, l, bad⟩ := a
  simp only at hr2 hlt hle2 HD ⊢
  clear hr1 hb1 hR
  by_cases h16 : m ≤ 16
  rotate_left
  · have h16' : (16 : Int) < (m : Int) := by omega
    have HE : Hid (decC b = 40) := Lib.hid (by have := HD.out; simp [h16] at this; simp [decC, this])
    have HL : Hid (decL b = []) := Lib.hid (by have := HD.out; simp [h16] at this; simp [decL, this])
    go_wp2
    go_ret2
    exact ⟨_, by rw [HE.out]; rfl, by rw [HL.out]; exact World.ownsRow_nil _ _ _ _, hbw⟩
  have h16' : ¬ (16 : Int) < (m : Int) := by omega
  go_wp2_with fail
  go_loopw [6, 7, 15] (fun v _ i wk => ∃ k : Nat, k ≤ m ∧ i = .int .u64 (k : Int) ∧ OwnE wk w1.heap.size v (rdAs k l bad).1 ∧ Rd wk g (rdAs k l bad).2.1 (rdAs k l bad).2.2 ∧ Below w.heap.size w wk ∧ w1.heap.size ≤ wk.heap.size) (fun _ _ i _ => m - (intOf i).toNat)
  case atStart => exact ⟨0, by omega, rfl, World.ownsRow_nil _ _ _ _, hr2, hbw, hz2⟩
  case round =>
    obtain ⟨k, hk, rfl, hown, hrd, hb, hz⟩ := hrel
    by_cases hlt : k < m
    · have hki : (k : Int) < (m : Int) := by omega
      have hlk := rdAs_len k l bad
      have hfit : ∀ s, rdAs k l bad = s → rdAs (k + 1) l bad = (s.1 ++ [(rdA s.2.1 s.2.2).1], (rdA s.2.1 s.2.2).2) := fun s e => by subst e; rfl
      generalize hs : rdAs k l bad = s at *
      have hfit := hfit s rfl
      obtain ⟨ats, lk, wk⟩ := s
      simp only at hown hrd hlk
      obtain ⟨hlk1, hlk2⟩ := hlk
      have HLK := Lib.hid hlk2
      have hasl : ats.length ≤ 16 := by omega
      clear hlk2
      have C1 := Lib.hid (RBytes_calls g lk wk 16 wr hrd (by omega) (by omega) (by omega))
      have hl1 := rdB_len 16 lk wk
      have HF : Hid (rdAs (k + 1) l bad = (ats ++ [((⟨(rdB 16 lk wk).1.toArray⟩, (rdV (rdB 16 lk wk).2.1 (rdB 16 lk wk).2.2).1.1, (rdV (rdB 16 lk wk).2.1 (rdB 16 lk wk).2.2).1.2.1, ⟨(rdV (rdB 16 lk wk).2.1 (rdB 16 lk wk).2.2).1.2.2.toArray⟩) : Att)], (rdV (rdB 16 lk wk).2.1 (rdB 16 lk wk).2.2).2)) := Lib.hid hfit
      clear hfit hs
      have hl2 := rdV_len (rdB 16 lk wk).2.1 (rdB 16 lk wk).2.2
      have C2 : Hid (∀ W, Rd W g (rdB 16 lk wk).2.1 (rdB 16 lk wk).2.2 → Calls Try.prog 37 #[.pointer (some ⟨g, 0, none⟩)] W fun e w' => e = .returned (vd (rdV (rdB 16 lk wk).2.1 (rdB 16 lk wk).2.2).1) ∧ Went g (rdV (rdB 16 lk wk).2.1 (rdB 16 lk wk).2.2).2.1 (rdV (rdB 16 lk wk).2.1 (rdB 16 lk wk).2.2).2.2 W w') := Lib.hid fun W hW => RValue_calls g _ _ W hW (by omega)
      generalize rdB 16 lk wk = sb at *
      obtain ⟨nm, lb, wb⟩ := sb
      simp only at C1 C2 HF hl1 hl2
      generalize rdV lb wb = sv at *
      obtain ⟨⟨vk, vn, vt⟩, lv, wv⟩ := sv
      simp only [vd] at C2 HF hl2
      have hgz : g < wr.heap.size := by omega
      go_wp2_with fail
      refine C1.out.mono ?_
      rintro e w3 ⟨v3, rfl, ho3, hr3, hg3⟩
      have hst := str (sl_own ho3)
      have hz3 := hg3.size
      have hown3 := row_mut hown hg3 hgl
      have hb3 : Below w.heap.size w w3 := hb.trans (below_of_mut hg3 hg hb.size)
      clear hown hrd hg3 hb C1
      go_wp2_with fail
      refine (C2.out _ hr3).mono ?_
      rintro e w4 ⟨rfl, hr4, hg4⟩
      have hz4 := hg4.size
      have hown4 := row_mut hown3 hg4 hgl
      have hb4 : Below w.heap.size w w4 := hb3.trans (below_of_mut hg4 hg hb3.size)
      clear hown3 hr3 hg4 hb3 C2 hst ho3
      go_wp2_with (at_builtin; refine wpList_app rfl _ _ 24 rfl w1.heap.size 43 _ 4 48 TE _ _ _ rfl (World.ownsRow.alloc hown4 _) (w4.heap.size + 1) _ 1 1 (attc (⟨nm.toArray⟩, vk, vn, ⟨vt.toArray⟩)) rfl ?c1 ?c2 ?c3 ?c5 ?_)
      case c1 => exact Reads.new w4 (attc (⟨nm.toArray⟩, vk, vn, ⟨vt.toArray⟩)) 43 4 1 rfl
      case c2 => exact attc_one _
      case c3 => omega
      case c5 => simp; omega
      intro v5 w5 hown5 hg5 hat5 hb5
      have hown6 : OwnE w5 w1.heap.size v5 (rdAs (k + 1) l bad).1 := by
        rw [HF.out]
        unfold OwnE
        simpa [List.flatMap_append] using hown5
      have hr5 : Rd w5 g (rdAs (k + 1) l bad).2.1 (rdAs (k + 1) l bad).2.2 := by
        rw [HF.out]
        exact (hr4.below (Below.alloc (Below.refl _ _) (Nat.le_refl _) _) hr4.lt).below hb5 hgl
      have hbw5 : Below w.heap.size w w5 := (hb4.alloc hb4.size _).trans (hb5.mono (by omega))
      have hz5 : w1.heap.size ≤ w5.heap.size := by have := hb5.size; simp at this; omega
      clear hown5 hg5 hat5 hb5 hr4 hown4 hb4
      go_wp2
      go_roundw
      case rel => exact ⟨k + 1, by omega, by go_num, hown6, hr5, hbw5, hz5⟩
      case measure => simp [intOf]; omega
    · have hki : ¬ (k : Int) < (m : Int) := by omega
      obtain rfl : k = m := by omega
      clear hlt hk
      have hlk := (rdAs_len k l bad).2
      generalize rdAs k l bad = s at *
      obtain ⟨ats, lk, wk⟩ := s
      simp only at hown hrd HD hlk
      have HLK := Lib.hid hlk
      clear hlk
      have hcomp : ∀ x : Bool, x = (!wk && lk.isEmpty && okE ats) → Hid (decC b = (if x then 0 else 40)) ∧ Hid (decL b = if x then ats else []) := by
        intro x hx
        have h := HD.out
        rw [show (decide (k ≤ 16)) = true by simp; omega] at h
        cases x with
        | true => rw [Bool.true_and, ← hx] at h; exact ⟨Lib.hid (by simp [decC, h]), Lib.hid (by simp [decL, h])⟩
        | false => rw [Bool.true_and, ← hx] at h; exact ⟨Lib.hid (by simp [decC, h]), Lib.hid (by simp [decL, h])⟩
      have HCO := Lib.hid hcomp
      clear hcomp
      go_wp2_with fail
      refine (Done_calls g _ _ wr hrd).mono ?_
      rintro e w' ⟨rfl, rfl⟩
      cases hd : (!wk && lk.isEmpty)
      · obtain ⟨HE, HL⟩ := HCO.out false (by rw [hd]; rfl)
        go_wp2
        go_ret2
        exact ⟨_, by rw [HE.out]; rfl, by rw [HL.out]; exact World.ownsRow_nil _ _ _ _, hb⟩
      · obtain ⟨A', c', rfl, hR', _, _⟩ := hown.slice
        have hrow := row_base (Nat.le_trans hg (Nat.le_of_lt hgl)) hown
        go_wp2_with fail
        refine (ECheck_calls A' c' ats wr wr.heap.size hR' (Nat.le_refl _)).mono ?_
        rintro e w6 ⟨rfl, hb6⟩
        have hbw6 := hb.trans (hb6.mono hb.size)
        have hrow6 := row_below hrow hb6
        cases hok : okE ats
        · have hne : (chkE ats != 0) = true := by simp [chkE, hok]
          obtain ⟨HE, HL⟩ := HCO.out false (by rw [hd, hok]; rfl)
          go_wp2
          go_ret2
          exact ⟨_, by rw [HE.out]; rfl, by rw [HL.out]; exact World.ownsRow_nil _ _ _ _, hbw6⟩
        · have hne : (chkE ats != 0) = false := by simp [chkE, hok]
          obtain ⟨HE, HL⟩ := HCO.out true (by rw [hd, hok]; rfl)
          go_wp2
          go_ret2
          exact ⟨_, by rw [HE.out]; rfl, by rw [HL.out]; exact hrow6, hbw6⟩
end Go.Proofs.Ytghgapfhlfcjiaa
