/-
  The walk of 'awake' of the statements of layer 5, and that of FilterNames. Conditions: none.
-/
import Derived.Test.YtejdbdfofehdpaaFiW
namespace Go.Proofs.Ytejdbdfofehdpaa
open Go Go.RowKit

attribute [local go_sem ↓] Go.wp_at_zero Go.wp_at_succ

abbrev aX : Att := (⟨#[112]⟩, 1, 5, ⟨#[]⟩)
abbrev t1X : Tst := (⟨#[112]⟩, 5, 1, 3, ⟨#[]⟩)
abbrev t2X : Tst := (⟨#[112]⟩, 4, 1, 5, ⟨#[]⟩)
abbrev t3X : Tst := (⟨#[113]⟩, 8, 0, 0, ⟨#[]⟩)
abbrev t4X : Tst := (⟨#[112]⟩, 2, 2, 0, ⟨#[97]⟩)
theorem okF_1 : okF [t1X, t2X] = true := by simp [okF, okT, okName, okCh, okV, ByteArray.size, ByteArray.toList_eq]
theorem okF_3 : okF [t3X] = true := by simp [okF, okT, okName, okCh, ByteArray.size]
theorem chkF_1 : chkF [t1X, t2X] = 0 := by simp [chkF, okF_1]
theorem chkF_3 : chkF [t3X] = 0 := by simp [chkF, okF_3]
theorem chkT_0 : chkT (⟨#[]⟩, 0, 0, 0, ⟨#[]⟩) = 50 := by simp [chkT, okT, okName, ByteArray.size]
theorem encF_3 : encFR [t3X] = [1, 1, 1, 1, 113, 1, 8] := by
  simp [encFR, okF_3, encF, encT, packN, kindN, longN, be, ByteArray.size, byt]
theorem fit_3 : ∀ x ∈ [t3X], fitT x := by
  intro x hx
  simp only [List.mem_singleton] at hx
  subst hx
  unfold fitT i64ok; simp
theorem decF_3 : decF8 [1, 1, 1, 1, 113, 1, 8] = some [t3X] := by
  have := decF_enc [t3X] okF_3 fit_3
  rwa [show encF [t3X] = [1, 1, 1, 1, 113, 1, 8] by have h := encF_3; simpa [encFR, okF_3] using h] at this
theorem hold_1 : holdsT t1X [aX] = true := by simp [holdsT, isN, isT, ordV, ordI]
theorem match_1 : matchesF [t1X, t2X] [aX] = true := by simp [matchesF, holdsT, isN, isT, ordV, ordI, ordS, ltS, Op.bytesLess, ByteArray.toList_eq]
theorem match_3 : matchesF [t3X] [aX] = false := by simp [matchesF, holdsT, isN]
theorem match_0 : matchesF [] [aX] = true := by simp [matchesF]
theorem is_4 : isT t4X (1, 5, ⟨#[]⟩) = false := by simp [isT]

set_option maxHeartbeats 2000000 in
set_option maxRecDepth 100000 in
theorem awake_calls (w : World) :
    Calls Try.prog 10 #[] w fun e w' => e = .returned (.bool true) ∧ Below w.heap.size w w' := by
  go_enter Try.func10, Try.ntmps10
  go_wp2_with fail
  refine (Int_calls 5 _).mono ?_
  rintro e w1 ⟨rfl, hb1⟩
  have hz1 := hb1.size
  have hx := Reads.new w1 (attc aX) 50 4 1 rfl
  have hbx : Below w.heap.size w (w1.alloc (.cells #[.string { data := #[112] }, .int .i64 1, .int .i64 5, .string { data := #[] }] 50)) := hb1.alloc hz1 _
  have hev : evt [aX] (.slice (some ⟨w1.heap.size, 0, none⟩) 1 1) (w1.alloc (.cells #[.string { data := #[112] }, .int .i64 1, .int .i64 5, .string { data := #[] }] 50)) := ⟨_, _, rfl, hx.more (by simp)⟩
  go_upto_region 2 with (fail)
  generalize w1.alloc (.cells #[.string { data := #[112] }, .int .i64 1, .int .i64 5, .string { data := #[] }] 50) = wa at hbx hev ⊢
  generalize Value.slice (some ⟨w1.heap.size, 0, none⟩) 1 1 = v1 at hev ⊢
  clear hx hb1 hz1
  go_wp2_with fail
  refine (Int_calls 3 _).mono ?_
  rintro e w2 ⟨rfl, hb2⟩
  go_wp2_with fail
  refine (Int_calls 5 _).mono ?_
  rintro e w3 ⟨rfl, hb3⟩
  have hev3 := evt_st _ _ _ _ (evt_st _ _ _ _ hev hb2) hb3
  have hb23 := hb2.trans (hb3.mono hb2.size)
  have hbw3 := hbx.trans (hb23.mono hbx.size)
  clear hev hbx hb2 hb3 hb23
  go_upto_region 3 with (fail)
  have hf1 : flt [t1X, t2X] (.slice (some ⟨w3.heap.size, 0, none⟩) 2 2) (w3.alloc (.cells #[.string { data := #[112] }, .int .i64 5, .int .i64 1, .int .i64 3, .string { data := #[] }, .string { data := #[112] }, .int .i64 4, .int .i64 1, .int .i64 5, .string { data := #[] }] 30)) := ⟨_, _, rfl, (Reads.new w3 (tstc t1X ++ tstc t2X) 30 5 2 rfl).more (by simp)⟩
  have hb : Below w3.heap.size w3 (w3.alloc (.cells #[.string { data := #[112] }, .int .i64 5, .int .i64 1, .int .i64 3, .string { data := #[] }, .string { data := #[112] }, .int .i64 4, .int .i64 1, .int .i64 5, .string { data := #[] }] 30)) := (Below.refl _ _).alloc (Nat.le_refl _) _
  replace hev3 := evt_st _ _ _ _ hev3 hb
  replace hbw3 := hbw3.trans (hb.mono hbw3.size)
  clear hb
  generalize w3.alloc (.cells #[.string { data := #[112] }, .int .i64 5, .int .i64 1, .int .i64 3, .string { data := #[] }, .string { data := #[112] }, .int .i64 4, .int .i64 1, .int .i64 5, .string { data := #[] }] 30) = wb at *
  generalize w3.heap.size = gb at *
  generalize Value.slice (some ⟨gb, 0, none⟩) 2 2 = v2 at *
  go_upto_region 4 with (fail)
  have hf3 : flt [t3X] (.slice (some ⟨wb.heap.size, 0, none⟩) 1 1) (wb.alloc (.cells #[.string { data := #[113] }, .int .i64 8, .int .i64 0, .int .i64 0, .string { data := #[] }] 30)) := ⟨_, _, rfl, (Reads.new wb (tstc t3X) 30 5 1 rfl).more (by simp)⟩
  have hb : Below wb.heap.size wb (wb.alloc (.cells #[.string { data := #[113] }, .int .i64 8, .int .i64 0, .int .i64 0, .string { data := #[] }] 30)) := (Below.refl _ _).alloc (Nat.le_refl _) _
  replace hev3 := evt_st _ _ _ _ hev3 hb
  replace hf1 := flt_st _ _ _ _ hf1 hb
  replace hbw3 := hbw3.trans (hb.mono hbw3.size)
  clear hb
  generalize wb.alloc (.cells #[.string { data := #[113] }, .int .i64 8, .int .i64 0, .int .i64 0, .string { data := #[] }] 30) = wc at *
  generalize wb.heap.size = gc at *
  generalize Value.slice (some ⟨gc, 0, none⟩) 1 1 = v3 at *
  go_wp2_with fail
  refine (FEncode_flt hf3 fit_3).mono ?_
  rintro e w4 ⟨v4, rfl, ho, hb⟩
  rw [encF_3] at ho
  rw [chkF_3]
  have hs4 := sl_own ho
  replace hev3 := evt_st _ _ _ _ hev3 hb
  replace hf1 := flt_st _ _ _ _ hf1 hb
  replace hf3 := flt_st _ _ _ _ hf3 hb
  replace hbw3 := hbw3.trans (hb.mono hbw3.size)
  clear hb
  clear ho
  go_wp2_with fail
  refine (FDecode_sl hs4 (by simp)).mono ?_
  rintro e w5 ⟨v6, rfl, ho, hb⟩
  rw [(decF_some decF_3).2] at ho
  rw [(decF_some decF_3).1]
  have hf6 := flt_own ho
  replace hev3 := evt_st _ _ _ _ hev3 hb
  replace hf1 := flt_st _ _ _ _ hf1 hb
  replace hf3 := flt_st _ _ _ _ hf3 hb
  replace hs4 := sl_st _ _ _ _ hs4 hb
  replace hbw3 := hbw3.trans (hb.mono hbw3.size)
  clear hb
  clear ho
  go_wp2_with fail
  refine (FSame_flt hf3 hf6 (by simp)).mono ?_
  rintro e w6 ⟨rfl, hb⟩
  rw [show decide ([t3X] = [t3X]) = true from by simp]
  replace hev3 := evt_st _ _ _ _ hev3 hb
  replace hf1 := flt_st _ _ _ _ hf1 hb
  replace hf3 := flt_st _ _ _ _ hf3 hb
  replace hs4 := sl_st _ _ _ _ hs4 hb
  replace hf6 := flt_st _ _ _ _ hf6 hb
  replace hbw3 := hbw3.trans (hb.mono hbw3.size)
  clear hb
  go_wp2_with fail
  refine (Matches_flt hf1 (by simp) hev3 (by simp)).mono ?_
  rintro e w7 ⟨rfl, hb⟩
  rw [match_1]
  replace hev3 := evt_st _ _ _ _ hev3 hb
  replace hf1 := flt_st _ _ _ _ hf1 hb
  replace hf3 := flt_st _ _ _ _ hf3 hb
  replace hs4 := sl_st _ _ _ _ hs4 hb
  replace hf6 := flt_st _ _ _ _ hf6 hb
  replace hbw3 := hbw3.trans (hb.mono hbw3.size)
  clear hb
  go_wp2_with fail
  refine (Matches_flt hf3 (by simp) hev3 (by simp)).mono ?_
  rintro e w8 ⟨rfl, hb⟩
  rw [match_3]
  replace hev3 := evt_st _ _ _ _ hev3 hb
  replace hf1 := flt_st _ _ _ _ hf1 hb
  replace hf3 := flt_st _ _ _ _ hf3 hb
  replace hs4 := sl_st _ _ _ _ hs4 hb
  replace hf6 := flt_st _ _ _ _ hf6 hb
  replace hbw3 := hbw3.trans (hb.mono hbw3.size)
  clear hb
  have hfn := fun W => (⟨none, 0, rfl, Reads.nil W W.heap.size 5 none⟩ : flt [] (.slice none 0 0) W)
  go_wp2_with fail
  refine (Matches_flt (hfn _) (by simp) hev3 (by simp)).mono ?_
  rintro e w9 ⟨rfl, hb⟩
  rw [match_0]
  replace hev3 := evt_st _ _ _ _ hev3 hb
  replace hf1 := flt_st _ _ _ _ hf1 hb
  replace hf3 := flt_st _ _ _ _ hf3 hb
  replace hs4 := sl_st _ _ _ _ hs4 hb
  replace hf6 := flt_st _ _ _ _ hf6 hb
  replace hbw3 := hbw3.trans (hb.mono hbw3.size)
  clear hb
  go_wp2_with fail
  refine (Text_calls _ _).mono ?_
  rintro e w10 ⟨rfl, hb⟩
  replace hev3 := evt_st _ _ _ _ hev3 hb
  replace hf1 := flt_st _ _ _ _ hf1 hb
  replace hf3 := flt_st _ _ _ _ hf3 hb
  replace hs4 := sl_st _ _ _ _ hs4 hb
  replace hf6 := flt_st _ _ _ _ hf6 hb
  replace hbw3 := hbw3.trans (hb.mono hbw3.size)
  clear hb
  go_wp2_with fail
  refine (Int_calls 5 _).mono ?_
  rintro e w11 ⟨rfl, hb⟩
  replace hev3 := evt_st _ _ _ _ hev3 hb
  replace hf1 := flt_st _ _ _ _ hf1 hb
  replace hf3 := flt_st _ _ _ _ hf3 hb
  replace hs4 := sl_st _ _ _ _ hs4 hb
  replace hf6 := flt_st _ _ _ _ hf6 hb
  replace hbw3 := hbw3.trans (hb.mono hbw3.size)
  clear hb
  go_wp2_with fail
  refine (Is_calls t4X (1, 5, ⟨#[]⟩) _).mono ?_
  rintro e w12 ⟨rfl, hb⟩
  rw [is_4]
  replace hev3 := evt_st _ _ _ _ hev3 hb
  replace hf1 := flt_st _ _ _ _ hf1 hb
  replace hf3 := flt_st _ _ _ _ hf3 hb
  replace hs4 := sl_st _ _ _ _ hs4 hb
  replace hf6 := flt_st _ _ _ _ hf6 hb
  replace hbw3 := hbw3.trans (hb.mono hbw3.size)
  clear hb
  have hst := str hs4
  have hs5 : sl [1, 1, 1, 1, 113, 1, 8] (.slice (some ⟨w12.heap.size, 0, none⟩) 7 7) (w12.alloc (.cells #[.int .u8 1, .int .u8 1, .int .u8 1, .int .u8 1, .int .u8 113, .int .u8 1, .int .u8 8] 5)) := ⟨_, _, rfl, (Reads.new w12 (bys [1, 1, 1, 1, 113, 1, 8]) 5 1 7 rfl).more (by simp)⟩
  have hst2 := str hs5
  clear hs5
  go_wp2_with fail
  have hb : Below w12.heap.size w12 (w12.alloc (.cells #[.int .u8 1, .int .u8 1, .int .u8 1, .int .u8 1, .int .u8 113, .int .u8 1, .int .u8 8] 5)) := (Below.refl _ _).alloc (Nat.le_refl _) _
  clear hst hst2
  replace hev3 := evt_st _ _ _ _ hev3 hb
  replace hf1 := flt_st _ _ _ _ hf1 hb
  replace hf3 := flt_st _ _ _ _ hf3 hb
  replace hs4 := sl_st _ _ _ _ hs4 hb
  replace hf6 := flt_st _ _ _ _ hf6 hb
  replace hbw3 := hbw3.trans (hb.mono hbw3.size)
  clear hb
  generalize w12.alloc (.cells #[.int .u8 1, .int .u8 1, .int .u8 1, .int .u8 1, .int .u8 113, .int .u8 1, .int .u8 8] 5) = wd at *
  generalize w12.heap.size = gd at *
  refine (FCheck_flt hf1).mono ?_
  rintro e w13 ⟨rfl, hb⟩
  rw [chkF_1]
  replace hev3 := evt_st _ _ _ _ hev3 hb
  replace hf1 := flt_st _ _ _ _ hf1 hb
  replace hf3 := flt_st _ _ _ _ hf3 hb
  replace hf6 := flt_st _ _ _ _ hf6 hb
  replace hbw3 := hbw3.trans (hb.mono hbw3.size)
  clear hb
  go_wp2_with fail
  refine (One_calls (⟨#[]⟩, 0, 0, 0, ⟨#[]⟩) _).mono ?_
  rintro e w14 ⟨rfl, hb⟩
  rw [chkT_0]
  replace hev3 := evt_st _ _ _ _ hev3 hb
  replace hf1 := flt_st _ _ _ _ hf1 hb
  replace hf3 := flt_st _ _ _ _ hf3 hb
  replace hf6 := flt_st _ _ _ _ hf6 hb
  replace hbw3 := hbw3.trans (hb.mono hbw3.size)
  clear hb
  obtain ⟨A2, c2, rfl, hR2⟩ := hf1
  obtain ⟨b2, o2, rfl, -, hc2⟩ := hR2.tsts (by simp)
  obtain ⟨p0, p1, p2, p3, p4⟩ := hc2 0 (by simp)
  simp at p0 p1 p2 p3 p4
  clear hR2 hc2
  go_wp2_with fail
  refine (Holds_calls t1X [aX] v1 _ hev3 (by simp)).mono ?_
  rintro e w15 ⟨rfl, hb⟩
  rw [hold_1]
  clear hev3 hf3 hf6 p0 p1 p2 p3 p4
  replace hbw3 := hbw3.trans (hb.mono hbw3.size)
  clear hb
  go_wp2
  go_ret
  exact ⟨rfl, hbw3⟩

set_option maxHeartbeats 400000 in
theorem FilterNames_walk (w : World) :
    Calls Try.prog 3 #[] w fun e w' => e = .returned (.bool true) ∧ Below w.heap.size w w' := by
  go_enter Try.func3, Try.ntmps3
  go_wp2_with fail
  refine (awake_calls w).mono ?_
  rintro e w1 ⟨rfl, hb⟩
  go_wp2
  go_ret
  exact ⟨rfl, hb⟩
end Go.Proofs.Ytejdbdfofehdpaa
