/-
  Events: what may be, in plain Lean; an attribute's cells; the walks of event.Check and of the document's Check (layer 4). Conditions: none.
-/
import Derived.Test.YtghgapfhlfcjiaaEvOpen
import Derived.Test.YtghgapfhlfcjiaaEvA
import Derived.Test.YtghgapfhlfcjiaaRefB
import Derived.BigQuiet
import Derived.IntWalk
import Derived.Deep.QuietTactic
namespace Go.Proofs.Ytghgapfhlfcjiaa
open Go Go.RowKit

/-- Whether an attribute may be, but for its place. -/
def okA (x : Att) : Bool := okName x.1 && okV x.2.1 x.2.2.1 x.2.2.2
/-- Whether a text comes before another one. -/
def ltS (a b : ByteArray) : Bool := Op.bytesLess a.toList b.toList
theorem less_eq : ∀ x y : List UInt8, Op.bytesLess x y = decide (x < y)
  | [], [] => by simp [Op.bytesLess]
  | _ :: _, [] => by simp [Op.bytesLess]
  | [], _ :: _ => by simp [Op.bytesLess]
  | a :: x, b :: y => by
    rw [Op.bytesLess, less_eq x y]
    simp only [List.cons_lt_cons_iff]
    by_cases h1 : a < b <;> by_cases h2 : a = b <;> simp [h1, h2]
theorem ltS_iff (a b : ByteArray) : ltS a b = true ↔ byt a < byt b := by
  unfold ltS; rw [less_eq, ByteArray.toList_eq, ByteArray.toList_eq]; simp
theorem byt_inj {a b : ByteArray} (h : byt a = byt b) : a = b := by
  cases a; cases b; simp only [ByteArray.mk.injEq]; exact Array.toList_inj.1 h
theorem byt_beq (a b : ByteArray) : (a.toList == b.toList) = decide (a = b) := by
  rw [ByteArray.toList_eq, ByteArray.toList_eq]
  by_cases h : a = b
  · subst h; simp
  · rw [beq_eq_false_iff_ne.2 (fun e => h (byt_inj e))]; simp [h]
theorem ltS_irrefl (a : ByteArray) : ltS a a = false := by
  rw [Bool.eq_false_iff, Ne, ltS_iff]; exact List.lt_irrefl _
theorem ltS_trans {a b c : ByteArray} (h : ltS a b = true) (k : ltS b c = true) : ltS a c = true := by
  rw [ltS_iff] at *; exact List.lt_trans h k
theorem ltS_tri (a b : ByteArray) : (Op.bytesLess a.toList b.toList || a.toList == b.toList) = !ltS b a := by
  have h1 : Op.bytesLess a.toList b.toList = ltS a b := rfl
  rw [h1, byt_beq]
  by_cases e : a = b
  · subst e; simp [ltS_irrefl]
  · cases h : ltS a b
    · cases k : ltS b a
      · exfalso
        have n1 : ¬ byt a < byt b := fun x => by rw [(ltS_iff a b).2 x] at h; cases h
        have n2 : ¬ byt b < byt a := fun x => by rw [(ltS_iff b a).2 x] at k; cases k
        exact e (byt_inj (List.le_antisymm (List.not_lt.1 n2) (List.not_lt.1 n1)))
      · simp [e]
    · cases k : ltS b a
      · simp
      · have := ltS_trans h k; rw [ltS_irrefl] at this; cases this

def lastN : Option ByteArray → List Att → Option ByteArray
  | p, [] => p
  | _, x :: r => lastN (some x.1) r
def behind (p : Option ByteArray) (s : ByteArray) : Bool := match p with | none => true | some y => ltS y s
/-- Whether attributes may stand behind one that has this name. -/
def okL : Option ByteArray → List Att → Bool
  | _, [] => true
  | p, x :: r => okA x && behind p x.1 && okL (some x.1) r
/-- Whether an event may be. -/
def okE (l : List Att) : Bool := decide (1 ≤ l.length) && decide (l.length ≤ 16) && okL none l
def chkE (l : List Att) : Int := if okE l then 0 else 40

theorem lastN_append (p : Option ByteArray) (a b : List Att) : lastN p (a ++ b) = lastN (lastN p a) b := by
  induction a generalizing p with
  | nil => rfl
  | cons x a ih => simp only [List.cons_append, lastN]; exact ih _
theorem okL_append (p : Option ByteArray) (a b : List Att) : okL p (a ++ b) = (okL p a && okL (lastN p a) b) := by
  induction a generalizing p with
  | nil => simp [okL, lastN]
  | cons x a ih => simp only [List.cons_append, okL, lastN, ih, Bool.and_assoc]
theorem lastN_take (l : List Att) (k : Nat) (h : k < l.length) : lastN none (l.take (k + 1)) = some l[k].1 := by
  rw [List.take_succ_eq_append_getElem h, lastN_append]; rfl
theorem okL_zero (l : List Att) (h : 0 < l.length) : okL none (l.take 1) = okA l[0] := by
  rw [List.take_succ_eq_append_getElem h]; simp [okL, behind]
theorem okL_succ (l : List Att) (k : Nat) (h : k + 1 < l.length) : okL none (l.take (k + 1 + 1)) = (okL none (l.take (k + 1)) && (okA l[k + 1] && ltS (l[k]'(by omega)).1 l[k + 1].1)) := by
  rw [List.take_succ_eq_append_getElem h, okL_append, lastN_take l k (by omega)]; simp [okL, behind]
theorem okL_bad (l : List Att) (k : Nat) (h : okL none (l.take k) = false) : okL none l = false := by
  have := okL_append none (l.take k) (l.drop k)
  rw [List.take_append_drop, h] at this
  simpa using this
theorem okE_bad (l : List Att) (k : Nat) (h : okL none (l.take k) = false) : chkE l = 40 := by simp [chkE, okE, okL_bad l k h]
theorem okE_good (l : List Att) (h1 : 1 ≤ l.length) (h2 : l.length ≤ 16) (h : okL none (l.take l.length) = true) : chkE l = 0 := by
  rw [List.take_length] at h
  simp [chkE, okE, h, h1, h2]

/-- An attribute as one value. -/
abbrev attv (x : Att) : Value := .agg #[.string x.1, .int .i64 x.2.1, .int .i64 x.2.2.1, .string x.2.2.2]
theorem atts_at (l : List Att) (k : Nat) (hk : k < l.length) : ∀ j, (hj : j < 4) → (l.flatMap attc)[k * 4 + j]? = some ((attc l[k])[j]'hj) := by
  intro j hj
  rw [List.flatMap_def, flatten_at 4 _ (by intro cs hcs; obtain ⟨y, _, rfl⟩ := List.mem_map.1 hcs; rfl) k j (by simpa using hk) hj]
  simp [hk]
theorem atts_len (l : List Att) : (l.flatMap attc).length = l.length * 4 := by
  rw [List.flatMap_def, flatten_len 4 _ (by intro cs hcs; obtain ⟨y, _, rfl⟩ := List.mem_map.1 hcs; rfl)]; simp
/-- An event that reads as attributes: where they lie. -/
theorem Reads.atts {w : World} {B n : Nat} {A : Option Addr} {l : List Att} (h : Reads w B 4 A n (l.flatMap attc)) (hl : 0 < l.length) :
    ∃ b off, A = some ⟨b, off, none⟩ ∧ b < B ∧ ∀ k (hk : k < l.length), w.cell? ⟨b, off + k * 4, none⟩ = some (.string l[k].1) ∧ w.cell? ⟨b, off + k * 4 + 1, none⟩ = some (.int .i64 l[k].2.1) ∧
      w.cell? ⟨b, off + k * 4 + 2, none⟩ = some (.int .i64 l[k].2.2.1) ∧ w.cell? ⟨b, off + k * 4 + 3, none⟩ = some (.string l[k].2.2.2) := by
  obtain ⟨b, off, e, hb, hc⟩ := h.2 (by rw [atts_len]; omega)
  refine ⟨b, off, e, hb, fun k hk => ?_⟩
  have h0 := hc _ _ (atts_at l k hk 0 (by decide))
  have h1 := hc _ _ (atts_at l k hk 1 (by decide))
  have h2 := hc _ _ (atts_at l k hk 2 (by decide))
  have h3 := hc _ _ (atts_at l k hk 3 (by decide))
  simp only [Nat.add_zero, ← Nat.add_assoc] at h0 h1 h2 h3
  exact ⟨h0, h1, h2, h3⟩
theorem Reads.attn {w : World} {B n : Nat} {A : Option Addr} {l : List Att} (h : Reads w B 4 A n (l.flatMap attc)) : n = l.length := by
  have := h.1; rw [atts_len] at this; omega

theorem below_drewN {B : Nat} {w w' : World} (h : Below B w w') (n : Nat) : Below B w (w'.drewN n) := by
  induction n with
  | zero => exact h
  | succ n ih => exact ⟨h.os, h.tape, h.output, h.size, h.block⟩

set_option maxHeartbeats 2000000 in
theorem ECheck_calls (A : Option Addr) (c : Nat) (l : List Att) (w : World) (B : Nat) (hR : Reads w B 4 A l.length (l.flatMap attc)) (hB : B ≤ w.heap.size) :
    Calls Try.prog 16 #[.slice A l.length c] w fun e w' => e = .returned (.int .i64 (chkE l)) ∧ Below w.heap.size w w' := by
  by_cases h1 : l.length < 1
  · have h1' : (l.length : Int) < 1 := by omega
    have HE : Hid (chkE l = 40) := Lib.hid (by simp [chkE, okE, show ¬ 1 ≤ l.length by omega])
    clear hR
    generalize l.length = n at *
    go_enter Try.func16, Try.ntmps16
    go_wp2
    go_step3
    go_wp2
    rw [Exit.noGoto_ret]
    go_ret
    exact ⟨by rw [HE.out]; rfl, Below.refl _ _⟩
  have h1' : ¬ (l.length : Int) < 1 := by omega
  by_cases h16 : 16 < l.length
  · have h16' : (16 : Int) < (l.length : Int) := by omega
    have HE : Hid (chkE l = 40) := Lib.hid (by simp [chkE, okE]; omega)
    clear hR
    generalize l.length = n at *
    go_enter Try.func16, Try.ntmps16
    go_wp2
    go_step3
    go_wp2
    rw [Exit.noGoto_ret]
    go_ret
    exact ⟨by rw [HE.out]; rfl, Below.refl _ _⟩
  have h16' : ¬ (16 : Int) < (l.length : Int) := by omega
  obtain ⟨b, off, rfl, hbB, hcell⟩ := hR.atts (by omega)
  have HC := Lib.hid hcell
  clear hcell hR
  go_enter Try.func16, Try.ntmps16
  go_wp2
  go_step3
  go_wp2_with fail
  go_step3
  go_wp2_with fail
  go_loopw [3, 16] (fun m i wr => ∃ k : Nat, k ≤ l.length ∧ m = .int .i64 (k : Int) ∧ i = .int .i64 (k : Int) ∧ Hid (okL none (l.take k) = true) ∧ Below w.heap.size w wr) (fun _ i _ => l.length - (intOf i).toNat)
  case atStart => exact ⟨0, by omega, rfl, rfl, Lib.hid (by simp [okL]), Below.refl _ _⟩
  case round =>
    obtain ⟨k, hk, rfl, rfl, hall, hb⟩ := hrel
    by_cases hlt : k < l.length
    · have hki : (k : Int) < (l.length : Int) := by omega
      obtain ⟨e0, e1, e2, e3⟩ := HC.out k hlt
      have d0 := (hb.cell (p := ⟨b, off + k * 4, none⟩) (Nat.lt_of_lt_of_le hbB hB)).trans e0
      have d1 := (hb.cell (p := ⟨b, off + k * 4 + 1, none⟩) (Nat.lt_of_lt_of_le hbB hB)).trans e1
      have d2 := (hb.cell (p := ⟨b, off + k * 4 + 2, none⟩) (Nat.lt_of_lt_of_le hbB hB)).trans e2
      have d3 := (hb.cell (p := ⟨b, off + k * 4 + 3, none⟩) (Nat.lt_of_lt_of_le hbB hB)).trans e3
      clear e0 e1 e2 e3
      have hz := hb.size
      have hzz : b < wr.heap.size := by omega
      have hbad : Hid (okL none (l.take (k + 1)) = false → chkE l = 40) := Lib.hid (okE_bad l (k + 1))
      have hend : ∀ W, Below wr.heap.size wr W → Below w.heap.size w W := fun W h => hb.trans (h.mono hz)
      have hend := Lib.hid hend
      rcases Nat.eq_zero_or_pos k with h0 | h0
      · have hT : Hid (okL none (l.take (k + 1)) = okA l[k]) := by subst h0; exact Lib.hid (okL_zero l hlt)
        have hk0 : ¬ (0 : Int) < (k : Int) := by omega
        have hd0 : decide (0 < k) = false := by simp; omega
        clear h0
        generalize l[k] = x at *
        obtain ⟨s, vk, vn, vs⟩ := x
        simp only at d0 d1 d2 d3
        go_wp2_with fail
        refine (Name_calls s _).mono ?_
        rintro e w' ⟨rfl, rfl⟩
        cases hn : okName s
        · go_wp2
          rw [Exit.noGoto_ret]
          go_ret
          exact ⟨by rw [hbad.out (by rw [hT.out]; simp [okA, hn])]; rfl, hend.out _ ((Below.refl _ _).alloc (Nat.le_refl _) _)⟩
        · go_wp2_with fail
          refine (Check_calls vk vn vs _).mono ?_
          rintro e w2 ⟨rfl, hb2⟩
          have hbx : Below wr.heap.size wr w2 := ((Below.refl _ _).alloc (Nat.le_refl _) _).trans (hb2.mono (by simp))
          have hx2 := (Blk.new wr 43 #[.string s, .int .i64 vk, .int .i64 vn, .string vs]).below hb2 (by simp)
          clear hb2
          cases hv : okV vk vn vs
          · have hch : (chk vk vn vs != 0) = true := by simp [chk, hv]
            go_wp2
            rw [Exit.noGoto_ret]
            go_ret
            exact ⟨by rw [hbad.out (by rw [hT.out]; simp [okA, hv])]; rfl, hend.out _ hbx⟩
          · have hch : (chk vk vn vs != 0) = false := by simp [chk, hv]
            have q0 := hx2.cell 0
            simp at q0
            go_wp2_with fail
            go_quiet (fail)
            have hr : Hid (okL none (l.take (k + 1)) = true) := Lib.hid (by rw [hT.out]; simp [okA, hn, hv])
            go_wp2
            go_roundw
            case rel => exact ⟨k + 1, by omega, by go_num, by go_num, hr, hend.out _ (below_drewN hbx _)⟩
            case measure => simp [intOf]; omega
      · have hk0 : (0 : Int) < (k : Int) := by omega
        have hd0 : decide (0 < k) = true := by simp; omega
        have hkp : k - 1 < l.length := by omega
        have hT : Hid (okL none (l.take (k + 1)) = (okL none (l.take k) && (okA l[k] && ltS l[k - 1].1 l[k].1))) := by
          refine Lib.hid ?_
          obtain ⟨j, rfl⟩ : ∃ j, k = j + 1 := ⟨k - 1, by omega⟩
          exact okL_succ l j hlt
        obtain ⟨e0, _⟩ := HC.out (k - 1) hkp
        have p0 := (hb.cell (p := ⟨b, off + (k - 1) * 4, none⟩) (Nat.lt_of_lt_of_le hbB hB)).trans e0
        clear e0
        generalize l[k - 1].1 = y at *
        generalize l[k] = x at *
        obtain ⟨s, vk, vn, vs⟩ := x
        simp only at d0 d1 d2 d3 hT
        go_wp2_with fail
        refine (Name_calls s _).mono ?_
        rintro e w' ⟨rfl, rfl⟩
        cases hn : okName s
        · go_wp2
          rw [Exit.noGoto_ret]
          go_ret
          exact ⟨by rw [hbad.out (by rw [hT.out]; simp [okA, hn])]; rfl, hend.out _ ((Below.refl _ _).alloc (Nat.le_refl _) _)⟩
        · go_wp2_with fail
          refine (Check_calls vk vn vs _).mono ?_
          rintro e w2 ⟨rfl, hb2⟩
          have hbx : Below wr.heap.size wr w2 := ((Below.refl _ _).alloc (Nat.le_refl _) _).trans (hb2.mono (by simp))
          have hx2 := (Blk.new wr 43 #[.string s, .int .i64 vk, .int .i64 vn, .string vs]).below hb2 (by simp)
          clear hb2
          cases hv : okV vk vn vs
          · have hch : (chk vk vn vs != 0) = true := by simp [chk, hv]
            go_wp2
            rw [Exit.noGoto_ret]
            go_ret
            exact ⟨by rw [hbad.out (by rw [hT.out]; simp [okA, hv])]; rfl, hend.out _ hbx⟩
          · have hch : (chk vk vn vs != 0) = false := by simp [chk, hv]
            have q0 := hx2.cell 0
            simp at q0
            have p1 : w2.cell? ⟨b, off + (k - 1) * 4, none⟩ = some (.string y) := (hbx.cell hzz).trans p0
            have hw1 : IntKind.i64.wrap ((k : Int) - 1) = (k : Int) - 1 := IntWalk.i64_in _ (by omega)
            have hp1 : (1 : Int) ≤ (k : Int) := by omega
            have hp2 : ((k : Int) - 1).toNat = k - 1 := by omega
            have hp3 : (k : Int) - 1 < (l.length : Int) := by omega
            have hbk : b < w2.heap.size := by have := hbx.size; omega
            cases hls : ltS y s
            · have hls' : (!(Op.bytesLess y.toList s.toList)) = true := by unfold ltS at hls; simp [hls]
              have HB : Hid (chkE l = 40) := Lib.hid (hbad.out (by rw [hT.out]; simp [okA, hls]))
              go_wp2_with fail
              go_quiet (fail)
              go_wp2
              rw [Exit.noGoto_ret]
              go_ret
              exact ⟨by rw [HB.out]; rfl, hend.out _ (below_drewN hbx _)⟩
            · have hls' : (!(Op.bytesLess y.toList s.toList)) = false := by unfold ltS at hls; simp [hls]
              have hr : Hid (okL none (l.take (k + 1)) = true) := Lib.hid (by rw [hT.out, hall.out]; simp [okA, hn, hv, hls])
              go_wp2_with fail
              go_quiet (fail)
              clear hw1 hp2
              go_wp2
              go_roundw
              case rel => exact ⟨k + 1, by omega, by go_num, by go_num, hr, hend.out _ (below_drewN hbx _)⟩
              case measure => simp [intOf]; omega
    · have hki : ¬ (k : Int) < (l.length : Int) := by omega
      have hkl : k = l.length := by omega
      have HE : Hid (chkE l = 0) := Lib.hid (okE_good l (by omega) (by omega) (by have := hall.out; rwa [hkl] at this))
      clear hkl
      go_wp2
      try rw [Exit.noGoto_ret]
      go_ret
      exact ⟨by rw [HE.out]; rfl, hb⟩
end Go.Proofs.Ytghgapfhlfcjiaa
