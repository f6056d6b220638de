/-
  The walks of the document's answer of layer 2 that pack (Number, Bytes, signed, Value): what each returns, and that nothing that was there is changed.
-/
import Derived.Test.YthnhdeieimgfhaaVA
namespace Go.Proofs.Ythnhdeieimgfhaa
open Go Go.RowKit

set_option maxHeartbeats 1000000 in
set_option maxRecDepth 100000 in
theorem RefNumber_calls (n : Nat) (hn : n < 18446744073709551616) (w : World) :
    Calls Try.prog 81 #[.int .u64 (n : Int)] w fun e w' =>
      ∃ v', e = .returned v' ∧ Own w' w.heap.size 5 v' (packN n) ∧ Below w.heap.size w w' := by
  have hlong := longN_lt 8 n (by omega)
  have HN := Lib.hid (rfl : longN n = longN n)
  go_enter Try.func81, Try.ntmps81
  go_wp2_with fail
  go_loopw [0, 3] (fun x b wr => ∃ k : Nat, k + longN (n / 256 ^ k) = longN n ∧ x = .int .u64 ((n / 256 ^ k : Nat) : Int) ∧ sl (be k n) b wr ∧ Below w.heap.size w wr) (fun x _ _ => (intOf x).toNat)
  case atStart => exact ⟨0, by simp, by simp, ⟨none, 0, rfl, Reads.nil _ _ _ _⟩, Below.refl _ _⟩
  case round =>
    obtain ⟨k, hk, rfl, hs, hb⟩ := hrel
    have hz := hb.size
    have hdd : n / 256 ^ k / 256 = n / 256 ^ (k + 1) := by rw [Nat.div_div_eq_div_mul, ← Nat.pow_succ]
    have HD := Lib.hid hdd
    have hle : n / 256 ^ k ≤ n := Nat.div_le_self _ _
    have hk8 : k ≤ 8 := by omega
    have HK := Lib.hid hk
    have HB := Lib.hid (show be (k + 1) n = UInt8.ofNat (n / 256 ^ k) :: be k n from rfl)
    have hbl := be_length k n
    clear hk hdd
    generalize hm : n / 256 ^ k = m at *
    obtain ⟨A, c, rfl, hr⟩ := hs
    rw [hbl] at hr
    rw [hbl]
    clear hm
    rcases Nat.eq_zero_or_pos m with h0 | h0
    · subst h0
      have hkn : k = longN n := by have := HK.out; rw [longN_zero] at this; omega
      have HX := Lib.hid (show packN n = UInt8.ofNat k :: be k n by rw [packN, ← hkn])
      have hu : (UInt8.ofNat k).toNat = k := by simp; omega
      have HU := Lib.hid hu
      clear hu hkn
      go_wp2_with (at_builtin; refine wpList_app rfl _ _ 30 rfl w.heap.size 5 _ 1 1 TB _ 1 (bys [UInt8.ofNat k]) rfl ?own wr.heap.size A k c (bys (be k n)) rfl ?c1 (bys_one _) ?c2 ?c3 ?_)
      case own =>
        refine own_of_block (rest := []) hz ?_ (by simp) (by simp) (by unfold maxLen; omega)
        have := heap_alloc_new wr (.cells #[.int .u8 (k : Int)] 5)
        simpa [bys, HU.out] using this
      case c1 => exact hr.below (Below.alloc (Below.refl _ _) (Nat.le_refl _) _) (Nat.le_refl _)
      case c2 => omega
      case c3 => simp; omega
      intro v1 w1 hown1 hg1 hat1 hb1
      go_wp2
      go_ret
      refine ⟨_, rfl, ?_, (hb.alloc hz _).trans hb1⟩
      rw [HX.out]
      unfold Own
      simpa [bys, hbl, Nat.add_comm] using hown1
    · have hpos : (0 : Int) < (m : Int) := by omega
      have hu : ((m : Int) % 256) = ((UInt8.ofNat m).toNat : Int) := by simp
      have HU := Lib.hid hu
      have hl := Lib.hid (longN_pos m h0)
      clear hu
      go_wp2_with (at_builtin; refine wpList_app rfl _ _ 30 rfl w.heap.size 5 _ 1 1 TB _ 1 (bys [UInt8.ofNat m]) rfl ?own wr.heap.size A k c (bys (be k n)) rfl ?c1 (bys_one _) ?c2 ?c3 ?_)
      case own =>
        refine own_of_block (rest := []) hz ?_ (by simp) (by simp) (by unfold maxLen; omega)
        have := heap_alloc_new wr (.cells #[.int .u8 ((m : Int) % 256)] 5)
        rw [HU.out] at this
        exact this
      case c1 => exact hr.below (Below.alloc (Below.refl _ _) (Nat.le_refl _) _) (Nat.le_refl _)
      case c2 => omega
      case c3 => simp; omega
      intro v1 w1 hown1 hg1 hat1 hb1
      have hown2 : Own w1 w.heap.size 5 v1 (be (k + 1) n) := by
        rw [HB.out]
        unfold Own
        simpa [bys, hbl, Nat.add_comm] using hown1
      have hbw := (hb.alloc hz _).trans hb1
      clear hown1 hg1 hat1 hb1
      go_wp2
      go_roundw
      case rel => exact ⟨k + 1, by rw [← HD.out]; have := HK.out; have := hl.out; omega, by rw [← HD.out]; simp, sl_own hown2, hbw⟩
      case measure => simp [intOf]; omega

set_option maxHeartbeats 400000 in
set_option maxRecDepth 100000 in
theorem RefBytes_calls (A : Option Addr) (m c : Nat) (l : List UInt8) (w : World) (B : Nat) (hR : Reads w B 1 A m (bys l)) (hB : B ≤ w.heap.size) (hm : m ≤ 1000000000) :
    Calls Try.prog 83 #[.slice A m c] w fun e w' =>
      ∃ v', e = .returned v' ∧ Own w' w.heap.size 5 v' (packN l.length ++ l) ∧ Below w.heap.size w w' := by
  have hl : l.length = m := by simpa using hR.len
  have hp := packN_len m (by omega)
  have HL := Lib.hid hl
  clear hl
  go_enter Try.func83, Try.ntmps83
  go_wp2_with fail
  refine (RefNumber_calls m (by omega) w).mono ?_
  rintro e w1 ⟨v1, rfl, ho, hb⟩
  go_wp2_with (at_builtin; refine wpList_app rfl _ _ 30 rfl w.heap.size 5 _ 1 1 TB _ _ _ rfl ho B A m c (bys l) rfl (hR.below hb hB) (bys_one _) ?c2 hb.size ?_)
  case c2 => omega
  intro v2 w2 ho2 hg2 hat2 hb2
  go_wp2
  go_ret
  refine ⟨_, rfl, ?_, hb.trans hb2⟩
  unfold Own
  rw [bys_append, HL.out]
  simpa [HL.out, Nat.add_assoc] using ho2

set_option maxHeartbeats 400000 in
set_option maxRecDepth 100000 in
theorem Refsigned_calls (k n : Int) (s : ByteArray) (w : World) (h0 : -9223372036854775808 ≤ n) (h1 : n ≤ 9223372036854775807) :
    Calls Try.prog 144 #[vv k n s] w fun e w' => e = .returned (.int .u64 (numV k n : Nat)) ∧ Below w.heap.size w w' := by
  have hbox : Below w.heap.size w (w.alloc (.cells #[.int .i64 k, .int .i64 n, .string s] 156)) := (Below.refl _ _).alloc (Nat.le_refl _) _
  by_cases hk : k = 1
  · have hkb : (k != 1) = false := by simpa using hk
    have HF : Hid (numV k n = foldI n) := Lib.hid (by simp [numV, hk])
    clear hk
    by_cases hn : n < 0
    · have e : (foldI n : Int) = -2 * n - 1 := by simp [foldI, hn]; omega
      have HE := Lib.hid e
      clear e
      go_enter Try.func144, Try.ntmps144
      go_wp2
      go_ret
      refine ⟨?_, hbox⟩
      rw [HF.out, HE.out]
      show Ending.returned (.int _ _) = Ending.returned (.int _ _)
      congr 2
      all_goals omega
    · have e : (foldI n : Int) = 2 * n := by simp [foldI, hn]; omega
      have HE := Lib.hid e
      clear e
      go_enter Try.func144, Try.ntmps144
      go_wp2
      go_ret
      refine ⟨?_, hbox⟩
      rw [HF.out, HE.out]
      show Ending.returned (.int _ _) = Ending.returned (.int _ _)
      congr 2
      all_goals omega
  · have hkb : (k != 1) = true := by simpa using hk
    have HF : Hid (numV k n = kindN n) := Lib.hid (by simp [numV, hk]; rfl)
    clear hk
    go_enter Try.func144, Try.ntmps144
    go_wp2
    go_ret
    refine ⟨?_, hbox⟩
    rw [HF.out, u64_wrap]
    rfl

theorem own_grow {base : Nat} {e : TypeId} {l : List UInt8} : ∀ v w w', Own w base e v l → Below w.heap.size w w' → Own w' base e v l := fun _ _ _ h hb => own_below (Nat.le_refl _) h hb

theorem own_cat {w : World} {base m : Nat} {e : TypeId} {v : Value} {a b : List UInt8} (h : w.ownsRow base e 1 v (a.length + m) (bys a ++ bys b)) (hm : (bys b).length = m) : Own w base e v (a ++ b) := by
  subst hm
  unfold Own
  rw [bys_append]
  simpa using h

set_option maxHeartbeats 2000000 in
set_option maxRecDepth 100000 in
theorem RefValue_calls (k n : Int) (s : ByteArray) (w : World) (hs : s.size ≤ 900000000) (h0 : -9223372036854775808 ≤ n) (h1 : n ≤ 9223372036854775807) :
    Calls Try.prog 135 #[vv k n s] w fun e w' =>
      ∃ v', e = .returned v' ∧ Own w' w.heap.size 5 v' (packV k n s) ∧ Below w.heap.size w w' := by
  have hnl := numV_lt k n h0 h1
  have hkl := kindN_lt k
  have hfl := packN_len _ hkl
  have hgl := packN_len _ hnl
  have hpl := packN_len s.size (by omega)
  have hcv := fun W => run_bytes_of_string (P := Try.prog) W 9 30 5 s Try.underlying9 Try.underlying30 Try.underlying5
  have hx1 := Blk.new w 156 #[.int .i64 k, .int .i64 n, .string s]
  have hbox : Below w.heap.size w (w.alloc (.cells #[.int .i64 k, .int .i64 n, .string s] 156)) := (Below.refl _ _).alloc (Nat.le_refl _) _
  obtain ⟨C, hC⟩ : ∃ C : World → Prop, C = fun W => Below w.heap.size w W ∧ Blk W w.heap.size 156 #[.int .i64 k, .int .i64 n, .string s] := ⟨_, rfl⟩
  have hg : ∀ W W', C W → Below W.heap.size W W' → C W' := by
    subst hC
    rintro W W' ⟨h1, h2⟩ hb
    exact ⟨h1.trans (hb.mono h1.size), h2.below hb h2.lt⟩
  have hc0 : C (w.alloc (.cells #[.int .i64 k, .int .i64 n, .string s] 156)) := by
    rw [hC]; exact ⟨hbox, hx1⟩
  go_enter Try.func135, Try.ntmps135
  go_wp2_with fail
  refine wp_region_last 7 C [isV (.pointer (some ⟨w.heap.size, 0, none⟩)), isV (.int .i64 k), isV (.int .u64 (kindN k : Nat)), fun v W => Own W (w.heap.size + 1) 5 v (packN (kindN k)), isV (vv k n s), isV (.int .u64 (numV k n : Nat)), sl (packN (numV k n)),
      fun v W => Own W (w.heap.size + 1) 5 v (packN (kindN k) ++ packN (numV k n)), fun v W => Own W (w.heap.size + 1) 5 v (packN (kindN k) ++ packN (numV k n))]
    [([], []), ([0], [(4, 0)]), ([1], [(5, 1)]), ([2], [(6, 2)]), ([], []), ([4], [(8, 4)]), ([5], [(9, 5)]), ([3, 6], [(7, 3), (10, 6)]), ([7], [(11, 7)])] 18 rfl (by kernel_rfl) (by kernel_rfl) (by kernel_rfl) (by kernel_rfl) hg (by exact hg _ _ hc0 (Below.drew (Below.refl _ _))) ?st ?ow ?_
  case st =>
    simp only [List.forall_mem_cons]
    and_intros
    all_goals first | exact isV_st _ | exact sl_st _ | exact own_grow | simp
  case ow =>
    simp only [OwedL]
    and_intros
    all_goals try trivial
    all_goals
      simp only [Nat.reduceEqDiff, if_true, if_false, Nat.reduceAdd]
      intro V w' hc hp
      rw [hC] at hc
      obtain ⟨hbw, hbk⟩ := hc
      have c0 := hbk.cell 0
      have c1 := hbk.cell 1
      have c2 := hbk.cell 2
      simp at c0 c1 c2
      try simp only [List.forall_mem_cons, tab_zero, tab_succ, isV] at hp
      have hz' := hbk.lt
      first
      | fail_if_success (have := hp.1.2)
        simp [wantsG, rhoP, List.lookup, hp, tab_zero, tab_succ, ResG, execOp, bareOp, isV, undef, Below.refl, c0, c1, c2, go_sem]
      | skip
    · exact u64_wrap k
    · refine (RefNumber_calls _ hkl w').mono ?_
      rintro e w'' ⟨v, rfl, ho, hb⟩
      exact ⟨v, rfl, own_base hz' ho rfl, hb⟩
    · refine (Refsigned_calls k n s w' h0 h1).mono ?_
      rintro e w'' ⟨rfl, hb⟩
      exact ⟨_, rfl, rfl, hb⟩
    · refine (RefNumber_calls _ hnl w').mono ?_
      rintro e w'' ⟨v, rfl, ho, hb⟩
      exact ⟨v, rfl, sl_own ho, hb⟩
    · obtain ⟨ho3, ⟨A6, c6, h6, hr6⟩, _⟩ := hp
      obtain ⟨v', w'', hrun, h2, h3⟩ := exec_app (P := Try.prog) (ρ := rhoP [(7, 3), (10, 6)] _ V) (.tmp 7) (.tmp 10) 30 30 5 (w.heap.size + 1) _ 1 1 TB (V 3) _ _ rfl ho3 w'.heap.size A6 _ c6 _ h6 hr6 (bys_one _) (by omega) hz'
      rw [if_pos (show wantsG V none = true from rfl), hrun, hC]
      refine ⟨?_, hbw.trans (h3.mono (Nat.le_succ _)), hbk.below h3 (Nat.lt_succ_self _)⟩
      simp only [tab_zero, tab_succ]
      unfold Own
      rw [bys_append]
      simpa using h2
    · simp [wantsG, rhoP, List.lookup, hp, tab_zero, tab_succ, ResG, execOp, bareOp, Below.refl, go_sem]
  intro V w1 hc1 hp1
  have hp7 := hp1 8 (by simp) (by decide)
  simp only [tab_zero, tab_succ] at hp7
  simp only [putAll, Act.put, List.setIfInBounds_toArray, List.set_cons_succ, List.set_cons_zero]
  rw [hC] at hc1
  obtain ⟨hb1, hk1⟩ := hc1
  have hc2 := hk1.cell 2
  simp at hc2
  generalize V 8 = v8 at *
  clear hp1 hC hg hc0
  have hl12 : (packN (kindN k) ++ packN (numV k n)).length ≤ 18 := by simp; omega
  go_wp2_with fail
  have hcb : Below w1.heap.size w1 (w1.drew.alloc (.cells (bytesRow s (grownCap w1 s.size 0 5)) 5 ((bytesRow s (grownCap w1 s.size 0 5)).size, (bytesRow s (grownCap w1 s.size 0 5)).size + 1))) := ((Below.refl _ w1).drew).alloc (Nat.le_refl _) _
  have hp8 := own_grow _ _ _ hp7 hcb
  refine (RefBytes_calls _ s.size _ (byt s) _ (w1.heap.size + 1) (Reads.conv w1.drew s _ _ _) (by simp) (by omega)).mono ?_
  rintro e w2 ⟨v2, rfl, ho2, hb2⟩
  have hp9 := own_grow _ _ _ hp8 hb2
  have hbs : (byt s).length = s.size := by show s.data.toList.length = s.data.size; simp
  have hl3 : (packN (byt s).length ++ byt s).length ≤ s.size + 9 := by rw [hbs]; simp; omega
  obtain ⟨A2, c2, rfl, hr2⟩ := ho2.slice
  have hbw2 := (hb1.trans (hcb.mono hb1.size)).trans (hb2.mono (by have := hb1.size; simp; omega))
  rw [hbs] at hr2 hl3 ⊢
  generalize (packN s.size ++ byt s).length = m2 at *
  clear hp7 hp8
  go_wp2_with (at_builtin; refine wpList_app rfl _ _ 30 rfl (w.heap.size + 1) 5 _ 1 1 TB _ _ _ rfl hp9 w2.heap.size A2 m2 c2 _ rfl hr2 (bys_one _) ?c2 ?c3 ?_)
  case c2 => omega
  case c3 => exact Nat.le_trans hk1.lt (Nat.le_trans hcb.size hb2.size)
  intro v3 w3 ho3 hg3 hat3 hb3
  go_wp2
  go_ret
  refine ⟨_, rfl, ?_, hbw2.trans (hb3.mono (Nat.le_succ _))⟩
  refine own_base (base' := w.heap.size + 1) (Nat.le_succ _) (l := packN (kindN k) ++ packN (numV k n) ++ (packN s.size ++ byt s)) ?_ rfl
  exact own_cat (a := packN (kindN k) ++ packN (numV k n)) (by simpa using ho3) hr2.len
end Go.Proofs.Ythnhdeieimgfhaa
