/-
  postilionlaw02.PackBack: the walk: what is packed one behind the other is unpacked so. Conditions: none.
-/
import Derived.Test.YtipkjgfhadlblaaPackE
import Derived.Test.YtipkjgfhadlblaaPackOpen
import Derived.Test.YtipkjgfhadlblaaPackPlain
import Derived.Deep.CutRange
import Derived.Deep.LoopGhost
import Derived.BigQuiet
import Derived.Deep.QuietTactic
namespace Go.Proofs.Ytipkjgfhadlblaa
open Go Go.RowKit

def segN (ns : List Nat) (k : Nat) : List UInt8 := match ns[k]? with | some n => packN n | none => []
def segT (ts : List (List UInt8)) (k : Nat) : List UInt8 := match ts[k]? with | some l => if l.length ≤ 100 then packN l.length ++ l else [] | none => []
def segV (vs : List (Int × Int × ByteArray)) (k : Nat) : List UInt8 := match vs[k]? with | some x => if okV x.1 x.2.1 x.2.2 then packV x.1 x.2.1 x.2.2 else [] | none => []

section
variable (ns : List Nat) (ts : List (List UInt8)) (vs : List (Int × Int × ByteArray))
def flat : Nat → List UInt8
  | 0 => []
  | k + 1 => flat k ++ segN ns k ++ segT ts k ++ segV vs k
def rest : Nat → Nat → List UInt8
  | 0, _ => []
  | f + 1, k => segN ns k ++ segT ts k ++ segV vs k ++ rest f (k + 1)
theorem flat_rest (f : Nat) : ∀ k, flat ns ts vs k ++ rest ns ts vs f k = flat ns ts vs (k + f) := by
  induction f with
  | zero => intro k; simp [rest]
  | succ f ih =>
    intro k
    have := ih (k + 1)
    rw [flat] at this
    rw [rest, show k + (f + 1) = k + 1 + f by omega, ← this]
    simp
theorem vals_at (vs : List (Int × Int × ByteArray)) (k : Nat) (hk : k < vs.length) : ∀ j, (hj : j < 3) → (vs.flatMap valc)[k * 3 + j]? = some ((valc vs[k])[j]'hj) := by
  intro j hj
  rw [List.flatMap_def, flatten_at 3 _ (by intro cs hcs; obtain ⟨y, _, rfl⟩ := List.mem_map.1 hcs; rfl) k j (by simpa using hk) hj]
  simp [hk]
theorem segN_len (k : Nat) (h : ∀ n ∈ ns, n < 18446744073709551616) : (segN ns k).length ≤ 9 := by
  unfold segN
  cases hk : ns[k]? with
  | none => simp
  | some n => exact packN_len n (h n (List.mem_of_getElem? hk))
theorem segT_len (k : Nat) : (segT ts k).length ≤ 109 := by
  unfold segT
  cases hk : ts[k]? with
  | none => simp
  | some l =>
    simp only
    split
    · have := packN_len l.length (by omega); simp; omega
    · simp
theorem segV_len (k : Nat) (h : ∀ x ∈ vs, i64ok x.1 ∧ i64ok x.2.1) : (segV vs k).length ≤ 67 := by
  unfold segV
  cases hk : vs[k]? with
  | none => simp
  | some x =>
    simp only
    split
    · rename_i hok
      have h1 := (okV_kind hok).2
      have h2 := h x (List.mem_of_getElem? hk)
      have h3 := packN_len (kindN x.1) (kindN_lt _)
      have h4 := packN_len (numV x.1 x.2.1) (numV_lt _ _ h2.2.1 h2.2.2)
      have h5 := packN_len x.2.2.size (by omega)
      have h6 : x.2.2.data.size ≤ 40 := h1
      simp [packV]; omega
    · simp
theorem flat_len (hn : ∀ n ∈ ns, n < 18446744073709551616) (hv : ∀ x ∈ vs, i64ok x.1 ∧ i64ok x.2.1) (k : Nat) : (flat ns ts vs k).length ≤ 200 * k := by
  induction k with
  | zero => simp [flat]
  | succ k ih =>
    have h1 := segN_len ns k hn
    have h2 := segT_len ts k
    have h3 := segV_len vs k hv
    simp [flat]; omega
end

set_option maxHeartbeats 4000000 in
set_option maxRecDepth 100000 in
theorem PackBack_walk (v0 v1 v2 : Value) (w : World) (r0 : repNums w v0) (r1 : repTexts w v1) (r2 : repVals w v2) :
    Calls Try.prog 7 #[v0, v1, v2] w fun e w' => e = .returned (.bool true) ∧ Below w.heap.size w w' := by
  obtain ⟨A0, c0, ns, rfl, hN, hn, hc0, hm0⟩ := r0
  obtain ⟨A1, c1, tv, rfl, hT, ht, hc1, hm1⟩ := r1
  obtain ⟨A2, c2, vs, rfl, hV, hv, hc2, hm2⟩ := r2
  obtain ⟨ts, hts1, hts2⟩ : ∃ ts : List (List UInt8), ts.length = tv.length ∧ ∀ (i : Nat) l v, ts[i]? = some l → tv[i]? = some v → sl l v w := by
    clear hT hc1 hm1
    induction tv with
    | nil => exact ⟨[], rfl, by simp⟩
    | cons x tv ih =>
      obtain ⟨ts, h1, h2⟩ := ih fun y hy => ht y (by simp [hy])
      obtain ⟨A, c, l, h3, h4, h5⟩ := ht x (by simp)
      refine ⟨l :: ts, by simp [h1], fun i l' v' h6 h7 => ?_⟩
      cases i with
      | zero => simp at h6 h7; subst h6 h7; exact ⟨A, c, h3, h4⟩
      | succ i => exact h2 i l' v' (by simpa using h6) (by simpa using h7)
  unfold maxLen at hm0 hm1 hm2
  have hfl := flat_len ns ts vs hn hv
  have HFL := Lib.hid hfl
  have HTS := Lib.hid hts2
  have HT1 := Lib.hid hts1
  clear hfl hts2 hts1 ht
  go_enter Try.func7, Try.ntmps7
  go_wp2_with fail
  refine (awake_calls w).mono ?_
  rintro e w1 ⟨rfl, hb1⟩
  go_wp2_with fail
  go_loopw [8, 9] (fun o i wr => ∃ k : Nat, k ≤ 20 ∧ i = .int .i64 (k : Int) ∧ sl (flat ns ts vs k) o wr ∧ Below w.heap.size w wr) (fun _ i _ => 20 - (intOf i).toNat)
  case atStart => exact ⟨0, by omega, rfl, ⟨none, 0, rfl, Reads.nil _ _ _ _⟩, hb1⟩
  case round =>
    obtain ⟨k, hk, rfl, hs, hb⟩ := hrel
    have hz := hb.size
    by_cases hlt : k < 20
    · have hki : (k : Int) < 20 := by omega
      go_upto_if 25 with (fail)
      go_cut [8] from 18 to 67 (fun o wc => sl (flat ns ts vs k ++ segN ns k) o wc ∧ Below w.heap.size w wc)
      case first =>
        obtain ⟨A, c, rfl, hr⟩ := hs
        have hl := HFL.out k
        by_cases hkn : k < ns.length
        · have hkn' : (k : Int) < (ns.length : Int) := by omega
          obtain ⟨b, off, rfl, hbb, hcell⟩ := hN.2 (by simp; omega)
          have hck : wr.cell? ⟨b, off + k, none⟩ = some (u64c ns[k]) := by rw [hb.cell hbb]; exact hcell k _ (by simp [hkn])
          have hn1 := hn ns[k] (List.getElem_mem hkn)
          have HS : Hid (segN ns k = packN ns[k]) := Lib.hid (by simp [segN, hkn])
          clear hcell
          generalize ns[k] = nk at *
          generalize (flat ns ts vs k).length = m at *
          go_wp2_with fail
          refine (Number_calls A m c (flat ns ts vs k) nk hn1 wr _ hr (Nat.le_refl _) (by omega)).mono ?_
          rintro e w3 ⟨v3, rfl, ho3, hb3⟩
          go_wp2
          go_meet
          case rel => exact ⟨by rw [HS.out]; exact sl_own ho3, hb.trans (hb3.mono hz)⟩
        · have hkn' : ¬ (k : Int) < (ns.length : Int) := by omega
          have HS : Hid (segN ns k = []) := Lib.hid (by simp [segN, List.getElem?_eq_none (Nat.le_of_not_lt hkn)])
          go_wp2
          go_meet
          case rel => exact ⟨by rw [HS.out, List.append_nil]; exact ⟨A, c, rfl, hr⟩, hb⟩
      case rest =>
        obtain ⟨hs1, hbc⟩ := hcut
        have hzc := hbc.size
        clear hs hb hz
        obtain ⟨D, hD⟩ : ∃ D : Bool, D = (match ts[k]? with | some l => decide (l.length ≤ 100) | none => false) := ⟨_, rfl⟩
        have HD := Lib.hid hD
        clear hD
        go_upto_region 10 with (fail)
        go_cut [43] from 18 to 67 (fun b wx => b = .bool D ∧ wc = wx)
        case first =>
          by_cases hkn : k < tv.length
          · have hkn' : (k : Int) < (tv.length : Int) := by omega
            obtain ⟨b, off, rfl, hbb, hcell⟩ := hT.2 (by omega)
            have hkt : k < ts.length := by rw [HT1.out]; exact hkn
            obtain ⟨Ax, cx, hx, _⟩ := HTS.out k ts[k] tv[k] (List.getElem?_eq_getElem hkt) (List.getElem?_eq_getElem hkn)
            have hck : wc.cell? ⟨b, off + k, none⟩ = some (.slice Ax ts[k].length cx) := by rw [hbc.cell hbb, ← hx]; exact hcell k _ (List.getElem?_eq_getElem hkn)
            have HS : Hid (D = decide (ts[k].length ≤ 100)) := Lib.hid (by rw [HD.out, List.getElem?_eq_getElem hkt])
            clear hcell hx
            generalize ts[k].length = lk at *
            by_cases hl : lk ≤ 100
            · have hl' : (lk : Int) ≤ 100 := by omega
              go_wp2
              go_meet
              case rel => exact ⟨by rw [HS.out]; simp [hl], rfl⟩
            · have hl' : ¬ (lk : Int) ≤ 100 := by omega
              go_wp2
              go_meet
              case rel => exact ⟨by rw [HS.out]; simp [hl], rfl⟩
          · have hkn' : ¬ (k : Int) < (tv.length : Int) := by omega
            have HS : Hid (D = false) := Lib.hid (by rw [HD.out, List.getElem?_eq_none (by rw [HT1.out]; omega)])
            go_wp2
            go_meet
            case rel => exact ⟨by rw [HS.out], rfl⟩
        case rest =>
        obtain ⟨rfl, rfl⟩ := hcut
        go_upto_if 43 with (fail)
        go_cut [8] from 18 to 67 (fun o wd => sl (flat ns ts vs k ++ segN ns k ++ segT ts k) o wd ∧ Below w.heap.size w wd)
        case first =>
          cases hDv : D with
          | false =>
            have HS : Hid (segT ts k = []) := by
              refine Lib.hid ?_
              have h := HD.out
              rw [hDv] at h
              unfold segT
              cases hk : ts[k]? with
              | none => rfl
              | some l => rw [hk] at h; simp at h; simp; omega
            go_wp2
            go_meet
            case rel => exact ⟨by rw [HS.out, List.append_nil]; exact hs1, hbc⟩
          | true =>
            have hex : ∃ l, ts[k]? = some l ∧ l.length ≤ 100 := by
              have h := HD.out
              rw [hDv] at h
              cases hk : ts[k]? with
              | none => rw [hk] at h; simp at h
              | some l => rw [hk] at h; simp at h; exact ⟨l, rfl, h⟩
            obtain ⟨l, hl1, hl2⟩ := hex
            have HS : Hid (segT ts k = packN l.length ++ l) := Lib.hid (by simp [segT, hl1, hl2])
            have hkt : k < ts.length := (List.getElem?_eq_some_iff.1 hl1).1
            have hkn : k < tv.length := by rw [← HT1.out]; exact hkt
            have hkn' : (k : Int) < (tv.length : Int) := by omega
            obtain ⟨b, off, rfl, hbb, hcell⟩ := hT.2 (by omega)
            obtain ⟨Ax, cx, hx, hrx⟩ := HTS.out k l tv[k] hl1 (List.getElem?_eq_getElem hkn)
            have hck : wc.cell? ⟨b, off + k, none⟩ = some (.slice Ax l.length cx) := by rw [hbc.cell hbb, ← hx]; exact hcell k _ (List.getElem?_eq_getElem hkn)
            obtain ⟨A, c, rfl, hr⟩ := hs1
            have hfk := HFL.out k
            have hsn := segN_len ns k hn
            have hll : (flat ns ts vs k ++ segN ns k).length ≤ 5000 := by simp; omega
            have hrx' := hrx.below hbc (Nat.le_refl _)
            clear hcell hx hl1
            generalize (flat ns ts vs k ++ segN ns k).length = m at *
            go_wp2_with fail
            refine (Bytes_calls A Ax m c l.length cx _ l wc _ hr (hrx'.more hzc) (Nat.le_refl _) (by omega) (by omega)).mono ?_
            rintro e w3 ⟨v3, rfl, ho3, hb3⟩
            go_wp2
            go_meet
            case rel => exact ⟨by rw [HS.out, ← List.append_assoc]; exact sl_own ho3, hbc.trans (hb3.mono hzc)⟩
        case rest =>
        obtain ⟨hs2, hbd⟩ := hcut
        have hzd := hbd.size
        clear hs1 hbc hzc HD
        obtain ⟨D2, hD2⟩ : ∃ D : Bool, D = (match vs[k]? with | some x => okV x.1 x.2.1 x.2.2 | none => false) := ⟨_, rfl⟩
        have HD := Lib.hid hD2
        clear hD2
        go_upto_region 12 with (fail)
        go_cut [8, 61] from 18 to 67 (fun o b we => b = .bool D2 ∧ sl (flat ns ts vs k ++ segN ns k ++ segT ts k) o we ∧ Below w.heap.size w we)
        case first =>
          by_cases hkn : k < vs.length
          · have hkn' : (k : Int) < (vs.length : Int) := by omega
            obtain ⟨b, off, rfl, hbb, hcell⟩ := hV.2 (by rw [hV.1]; omega)
            have hvk := vals_at vs k hkn
            have h0 := hcell (k * 3) _ (hvk 0 (by decide))
            have h1 := hcell (k * 3 + 1) _ (hvk 1 (by decide))
            have h2 := hcell (k * 3 + 2) _ (hvk 2 (by decide))
            simp only [valc, List.getElem_cons_zero, List.getElem_cons_succ] at h0 h1 h2
            have e0 : wc.cell? ⟨b, off + k * 3, none⟩ = _ := (hbd.cell hbb).trans h0
            have e1 : wc.cell? ⟨b, off + k * 3 + 1, none⟩ = _ := (hbd.cell hbb).trans h1
            have e2 : wc.cell? ⟨b, off + k * 3 + 2, none⟩ = _ := (hbd.cell hbb).trans h2
            have HS : Hid (D2 = okV vs[k].1 vs[k].2.1 vs[k].2.2) := Lib.hid (by rw [HD.out, List.getElem?_eq_getElem hkn])
            clear hcell hvk h0 h1 h2
            generalize vs[k] = x at *
            obtain ⟨ka, kb, kc⟩ := x
            simp only at *
            go_wp2_with fail
            refine (Check_calls ka kb kc _).mono ?_
            rintro e w3 ⟨rfl, hb3⟩
            cases hok : okV ka kb kc with
            | false =>
              have hch : (chk ka kb kc == 0) = false := by simp [chk, hok]
              go_wp2
              go_meet
              case rel => exact ⟨by rw [HS.out, hok], sl_st _ _ _ _ hs2 hb3, hbd.trans (hb3.mono hzd)⟩
            | true =>
              have hch : (chk ka kb kc == 0) = true := by simp [chk, hok]
              go_wp2
              go_meet
              case rel => exact ⟨by rw [HS.out, hok], sl_st _ _ _ _ hs2 hb3, hbd.trans (hb3.mono hzd)⟩
          · have hkn' : ¬ (k : Int) < (vs.length : Int) := by omega
            have HS : Hid (D2 = false) := Lib.hid (by rw [HD.out, List.getElem?_eq_none (by omega)])
            go_wp2
            go_meet
            case rel => exact ⟨by rw [HS.out], hs2, hbd⟩
        case rest =>
          obtain ⟨rfl, hs3, hbe⟩ := hcut
          have hze := hbe.size
          clear hs2 hbd hzd
          go_upto_if 61 with (fail)
          cases hDv : D2 with
          | false =>
            have HS : Hid (segV vs k = []) := by
              refine Lib.hid ?_
              have h := HD.out
              rw [hDv] at h
              unfold segV
              cases hk : vs[k]? with
              | none => rfl
              | some l => rw [hk] at h; simp [← h]
            go_wp2
            go_roundw
            case rel => exact ⟨k + 1, by omega, by go_num, by rw [flat, HS.out, List.append_nil]; exact hs3, hbe⟩
            case measure => simp [intOf]; omega
          | true =>
            have hex : ∃ x, vs[k]? = some x ∧ okV x.1 x.2.1 x.2.2 = true := by
              have h := HD.out
              rw [hDv] at h
              cases hk : vs[k]? with
              | none => rw [hk] at h; simp at h
              | some l => rw [hk] at h; exact ⟨l, rfl, h.symm⟩
            obtain ⟨x, hl1, hl2⟩ := hex
            have HS : Hid (segV vs k = packV x.1 x.2.1 x.2.2) := Lib.hid (by simp [segV, hl1, hl2])
            have hkn : k < vs.length := (List.getElem?_eq_some_iff.1 hl1).1
            have hxk : vs[k] = x := (List.getElem?_eq_some_iff.1 hl1).2
            have hkn' : (k : Int) < (vs.length : Int) := by omega
            obtain ⟨b, off, rfl, hbb, hcell⟩ := hV.2 (by rw [hV.1]; omega)
            have hvk := vals_at vs k hkn
            rw [hxk] at hvk
            have h0 := hcell (k * 3) _ (hvk 0 (by decide))
            have h1 := hcell (k * 3 + 1) _ (hvk 1 (by decide))
            have h2 := hcell (k * 3 + 2) _ (hvk 2 (by decide))
            simp only [valc, List.getElem_cons_zero, List.getElem_cons_succ] at h0 h1 h2
            have e0 : wc.cell? ⟨b, off + k * 3, none⟩ = _ := (hbe.cell hbb).trans h0
            have e1 : wc.cell? ⟨b, off + k * 3 + 1, none⟩ = _ := (hbe.cell hbb).trans h1
            have e2 : wc.cell? ⟨b, off + k * 3 + 2, none⟩ = _ := (hbe.cell hbb).trans h2
            obtain ⟨A, c, rfl, hr⟩ := hs3
            have hfk := HFL.out k
            have hsn := segN_len ns k hn
            have hst := segT_len ts k
            have hll : (flat ns ts vs k ++ segN ns k ++ segT ts k).length ≤ 5000 := by simp; omega
            have hvx := hv x (List.mem_of_getElem? hl1)
            have hxs := (okV_kind hl2).2
            clear hcell hvk h0 h1 h2 hl1 hxk hl2
            obtain ⟨ka, kb, kc⟩ := x
            simp only at *
            generalize (flat ns ts vs k ++ segN ns k ++ segT ts k).length = m at *
            go_wp2_with fail
            refine (Value_calls A m c _ ka kb kc wc _ hr (Nat.le_refl _) (by omega) (by omega) hvx.2.1 hvx.2.2).mono ?_
            rintro e w3 ⟨v3, rfl, ho3, hb3⟩
            go_wp2
            go_roundw
            case rel => exact ⟨k + 1, by omega, by go_num, by rw [flat, HS.out]; exact sl_own ho3, hbe.trans (hb3.mono hze)⟩
            case measure => simp [intOf]; omega
    · have hki : ¬ (k : Int) < 20 := by omega
      have hk20 : k = 20 := by omega
      subst hk20
      obtain ⟨A, c, rfl, hr⟩ := hs
      have hl := HFL.out 20
      go_wp2_with fail
      refine (New_calls A _ c _ wr _ hr (Nat.le_refl _) (by omega)).mono ?_
      rintro e w3 ⟨g, rfl, hg3, hr3, hb3⟩
      have hbw3 := hb.trans (hb3.mono hz)
      have hgw : w.heap.size ≤ g := Nat.le_trans hz hg3
      have hfr : flat ns ts vs 20 = rest ns ts vs (20 - 0) 0 := by simpa [flat] using (flat_rest ns ts vs 20 0).symm
      rw [hfr] at hr3
      clear hr hl hfr hb hz hg3 hb3 HFL
      have hrl : ∀ k, k ≤ 20 → (rest ns ts vs (20 - k) k).length ≤ 4000 := by
        intro k hk
        have h1 := flat_rest ns ts vs (20 - k) k
        have h2 := flat_len ns ts vs hn hv (k + (20 - k))
        rw [← h1] at h2
        simp at h2
        omega
      have HRL := Lib.hid hrl
      clear hrl
      go_wp2_with fail
      go_loopw [11] (fun i wr => ∃ k : Nat, k ≤ 20 ∧ i = .int .i64 (k : Int) ∧ Rd wr g (rest ns ts vs (20 - k) k) false ∧ Below w.heap.size w wr) (fun i _ => 20 - (intOf i).toNat)
      case atStart => exact ⟨0, by omega, rfl, hr3, hbw3⟩
      case round =>
        obtain ⟨k, hk, rfl, hrd, hb⟩ := hrel
        have hz := hb.size
        by_cases hlt : k < 20
        · have hki : (k : Int) < 20 := by omega
          have hrs : rest ns ts vs (20 - k) k = segN ns k ++ segT ts k ++ segV vs k ++ rest ns ts vs (20 - (k + 1)) (k + 1) := by
            rw [show 20 - k = (20 - (k + 1)) + 1 by omega, rest]
          have hrl := HRL.out k hk
          rw [hrs] at hrd hrl
          clear hrs
          generalize hR : rest ns ts vs (20 - (k + 1)) (k + 1) = R at *
          have HR := Lib.hid hR
          clear hR
          have hsT := segT_len ts k
          have hsV := segV_len vs k hv
          go_upto_if 77 with (fail)
          go_cut [12] from 70 to 127 (fun _ wc => Rd wc g (segT ts k ++ segV vs k ++ R) false ∧ Below w.heap.size w wc)
          case first =>
            by_cases hkn : k < ns.length
            · have hkn' : (k : Int) < (ns.length : Int) := by omega
              obtain ⟨b, off, rfl, hbb, hcell⟩ := hN.2 (by simp; omega)
              have hn1 := hn ns[k] (List.getElem_mem hkn)
              have HS : Hid (segN ns k = packN ns[k]) := Lib.hid (by simp [segN, hkn])
              have hck0 : w.cell? ⟨b, off + k, none⟩ = some (u64c ns[k]) := hcell k _ (by simp [hkn])
              clear hcell
              generalize ns[k] = nk at *
              rw [HS.out] at hrd
              go_wp2_with fail
              refine (RNumber_calls g _ false wr hrd).mono ?_
              rintro e w3 ⟨rfl, hr3, hm3⟩
              have hp : rdN (packN nk ++ segT ts k ++ segV vs k ++ R) false = (nk, segT ts k ++ segV vs k ++ R, false) := by
                rw [List.append_assoc, List.append_assoc, rdN_pack nk hn1]
                simp
              rw [hp] at hr3 ⊢
              simp only at hr3 ⊢
              have hb3 : Below w.heap.size w w3 := hb.trans (below_of_mut hm3 hgw hz)
              have hck : w3.cell? ⟨b, off + k, none⟩ = some (u64c nk) := by rw [hb3.cell hbb]; exact hck0
              clear hp hm3 hrd
              go_wp2
              go_meet
              case rel => exact ⟨hr3, hb3⟩
            · have hkn' : ¬ (k : Int) < (ns.length : Int) := by omega
              have HS : segN ns k = [] := by simp [segN, List.getElem?_eq_none (Nat.le_of_not_lt hkn)]
              rw [HS, List.nil_append] at hrd
              clear HS
              go_wp2
              go_meet
              case rel => exact ⟨hrd, hb⟩
          case rest =>
          obtain ⟨hrd1, hb1c⟩ := hcut
          have hz1 := hb1c.size
          clear hrd hb hz
          obtain ⟨D, hD⟩ : ∃ D : Bool, D = (match ts[k]? with | some l => decide (l.length ≤ 100) | none => false) := ⟨_, rfl⟩
          have HD := Lib.hid hD
          clear hD
          go_upto_region 22 with (fail)
          go_cut [97] from 70 to 127 (fun b wx => b = .bool D ∧ wc = wx)
          case first =>
            by_cases hkn : k < tv.length
            · have hkn' : (k : Int) < (tv.length : Int) := by omega
              obtain ⟨b, off, rfl, hbb, hcell⟩ := hT.2 (by omega)
              have hkt : k < ts.length := by rw [HT1.out]; exact hkn
              obtain ⟨Ax, cx, hx, _⟩ := HTS.out k ts[k] tv[k] (List.getElem?_eq_getElem hkt) (List.getElem?_eq_getElem hkn)
              have hck : wc.cell? ⟨b, off + k, none⟩ = some (.slice Ax ts[k].length cx) := by rw [hb1c.cell hbb, ← hx]; exact hcell k _ (List.getElem?_eq_getElem hkn)
              have HS : Hid (D = decide (ts[k].length ≤ 100)) := Lib.hid (by rw [HD.out, List.getElem?_eq_getElem hkt])
              clear hcell hx
              generalize ts[k].length = lk at *
              by_cases hl : lk ≤ 100
              · have hl' : (lk : Int) ≤ 100 := by omega
                go_wp2
                go_meet
                case rel => exact ⟨by rw [HS.out]; simp [hl], rfl⟩
              · have hl' : ¬ (lk : Int) ≤ 100 := by omega
                go_wp2
                go_meet
                case rel => exact ⟨by rw [HS.out]; simp [hl], rfl⟩
            · have hkn' : ¬ (k : Int) < (tv.length : Int) := by omega
              have HS : Hid (D = false) := Lib.hid (by rw [HD.out, List.getElem?_eq_none (by rw [HT1.out]; omega)])
              go_wp2
              go_meet
              case rel => exact ⟨by rw [HS.out], rfl⟩
          case rest =>
          obtain ⟨rfl, rfl⟩ := hcut
          go_upto_if 97 with (fail)
          go_cut [13] from 70 to 127 (fun _ wd => Rd wd g (segV vs k ++ R) false ∧ Below w.heap.size w wd)
          case first =>
            cases hDv : D with
            | false =>
              have HS : segT ts k = [] := by
                have h := HD.out
                rw [hDv] at h
                unfold segT
                cases hk : ts[k]? with
                | none => rfl
                | some l => rw [hk] at h; simp at h; simp; omega
              rw [HS, List.nil_append] at hrd1
              clear HS
              go_wp2
              go_meet
              case rel => exact ⟨hrd1, hb1c⟩
            | true =>
              have hex : ∃ l, ts[k]? = some l ∧ l.length ≤ 100 := by
                have h := HD.out
                rw [hDv] at h
                cases hk : ts[k]? with
                | none => rw [hk] at h; simp at h
                | some l => rw [hk] at h; simp at h; exact ⟨l, rfl, h⟩
              obtain ⟨l, hl1, hl2⟩ := hex
              have HS : segT ts k = packN l.length ++ l := by simp [segT, hl1, hl2]
              have hkt : k < ts.length := (List.getElem?_eq_some_iff.1 hl1).1
              have hkn : k < tv.length := by rw [← HT1.out]; exact hkt
              have hkn' : (k : Int) < (tv.length : Int) := by omega
              obtain ⟨b, off, rfl, hbb, hcell⟩ := hT.2 (by omega)
              obtain ⟨Ax, cx, hx, hrx⟩ := HTS.out k l tv[k] hl1 (List.getElem?_eq_getElem hkn)
              have hck0 : w.cell? ⟨b, off + k, none⟩ = some (.slice Ax l.length cx) := by rw [← hx]; exact hcell k _ (List.getElem?_eq_getElem hkn)
              have hslx : sl l (.slice Ax l.length cx) w := ⟨Ax, cx, rfl, hrx⟩
              clear hcell hx hl1 hrx
              rw [HS] at hrd1 hsT hrl
              clear HS
              have hp : rdB 100 (packN l.length ++ l ++ segV vs k ++ R) false = (l, segV vs k ++ R, false) := by
                rw [List.append_assoc (packN l.length ++ l)]
                exact rdB_pack 100 l (by omega) (by omega) _
              have HP := Lib.hid hp
              have hlen : (packN l.length ++ l ++ segV vs k ++ R).length ≤ 1000000000 := by
                simp at hrl ⊢; omega
              clear hp
              generalize hm : l.length = m at *
              have HM := Lib.hid hm
              clear hm
              go_wp2_with fail
              refine (RBytes_calls g _ false 100 wc hrd1 hlen (by omega) (by omega)).mono ?_
              rintro e w3 ⟨v3, rfl, ho3, hr3, hm3⟩
              rw [HP.out] at ho3 hr3
              simp only at ho3 hr3
              have hb3 : Below w.heap.size w w3 := hb1c.trans (below_of_mut hm3 hgw hz1)
              have hck : ∀ n, (w3.drewN n).cell? ⟨b, off + k, none⟩ = some (.slice Ax m cx) := by intro n; show w3.cell? _ = _; rw [hb3.cell hbb]; exact hck0
              have hs1 : ∀ n, (convert 24 9 v3).run Try.prog (w3.drewN n) = .ok (.string ⟨l.toArray⟩) (w3.drewN n) := fun n => str (w := w3.drewN n) (show sl l _ w3 from sl_own ho3)
              have hs2 : ∀ n, (convert 24 9 (.slice Ax m cx)).run Try.prog (w3.drewN n) = .ok (.string ⟨l.toArray⟩) (w3.drewN n) := fun n => str (w := w3.drewN n) (show sl l _ w3 from sl_st _ _ _ _ hslx hb3)
              clear hck0 hslx ho3 hm3 hrd1 HP
              go_wp2_with fail
              go_quiet (fail)
              go_wp2
              go_meet
              case rel => exact ⟨hr3, ⟨hb3.os, hb3.tape, hb3.output, hb3.size, hb3.block⟩⟩
          case rest =>
          obtain ⟨hrd2, hb2c⟩ := hcut
          have hz2 := hb2c.size
          clear hrd1 hb1c hz1 HD
          obtain ⟨D2, hD2⟩ : ∃ D : Bool, D = (match vs[k]? with | some x => okV x.1 x.2.1 x.2.2 | none => false) := ⟨_, rfl⟩
          have HD := Lib.hid hD2
          clear hD2
          go_upto_region 26 with (fail)
          go_cut [119] from 70 to 127 (fun b we => b = .bool D2 ∧ Rd we g (segV vs k ++ R) false ∧ Below w.heap.size w we)
          case first =>
            by_cases hkn : k < vs.length
            · have hkn' : (k : Int) < (vs.length : Int) := by omega
              obtain ⟨b, off, rfl, hbb, hcell⟩ := hV.2 (by rw [hV.1]; omega)
              have hvk := vals_at vs k hkn
              have h0 := hcell (k * 3) _ (hvk 0 (by decide))
              have h1 := hcell (k * 3 + 1) _ (hvk 1 (by decide))
              have h2 := hcell (k * 3 + 2) _ (hvk 2 (by decide))
              simp only [valc, List.getElem_cons_zero, List.getElem_cons_succ] at h0 h1 h2
              have e0 : wc.cell? ⟨b, off + k * 3, none⟩ = _ := (hb2c.cell hbb).trans h0
              have e1 : wc.cell? ⟨b, off + k * 3 + 1, none⟩ = _ := (hb2c.cell hbb).trans h1
              have e2 : wc.cell? ⟨b, off + k * 3 + 2, none⟩ = _ := (hb2c.cell hbb).trans h2
              have HS : Hid (D2 = okV vs[k].1 vs[k].2.1 vs[k].2.2) := Lib.hid (by rw [HD.out, List.getElem?_eq_getElem hkn])
              clear hcell hvk h0 h1 h2
              generalize vs[k] = x at *
              obtain ⟨ka, kb, kc⟩ := x
              simp only at *
              go_wp2_with fail
              refine (Check_calls ka kb kc _).mono ?_
              rintro e w3 ⟨rfl, hb3⟩
              cases hok : okV ka kb kc with
              | false =>
                have hch : (chk ka kb kc == 0) = false := by simp [chk, hok]
                go_wp2
                go_meet
                case rel => exact ⟨by rw [HS.out, hok], hrd2.below hb3 hrd2.lt, hb2c.trans (hb3.mono hz2)⟩
              | true =>
                have hch : (chk ka kb kc == 0) = true := by simp [chk, hok]
                go_wp2
                go_meet
                case rel => exact ⟨by rw [HS.out, hok], hrd2.below hb3 hrd2.lt, hb2c.trans (hb3.mono hz2)⟩
            · have hkn' : ¬ (k : Int) < (vs.length : Int) := by omega
              have HS : Hid (D2 = false) := Lib.hid (by rw [HD.out, List.getElem?_eq_none (by omega)])
              go_wp2
              go_meet
              case rel => exact ⟨by rw [HS.out], hrd2, hb2c⟩
          case rest =>
            obtain ⟨rfl, hrd3, hb3c⟩ := hcut
            have hz3 := hb3c.size
            clear hrd2 hb2c hz2
            go_upto_if 119 with (fail)
            cases hDv : D2 with
            | false =>
              have HS : segV vs k = [] := by
                have h := HD.out
                rw [hDv] at h
                unfold segV
                cases hk : vs[k]? with
                | none => rfl
                | some l => rw [hk] at h; simp [← h]
              rw [HS, List.nil_append] at hrd3
              clear HS
              go_wp2
              go_roundw
              case rel => exact ⟨k + 1, by omega, by go_num, by rw [HR.out]; exact hrd3, hb3c⟩
              case measure => simp [intOf]; omega
            | true =>
              have hex : ∃ x, vs[k]? = some x ∧ okV x.1 x.2.1 x.2.2 = true := by
                have h := HD.out
                rw [hDv] at h
                cases hk : vs[k]? with
                | none => rw [hk] at h; simp at h
                | some l => rw [hk] at h; exact ⟨l, rfl, h.symm⟩
              obtain ⟨x, hl1, hl2⟩ := hex
              have HS : segV vs k = packV x.1 x.2.1 x.2.2 := by simp [segV, hl1, hl2]
              have hkn : k < vs.length := (List.getElem?_eq_some_iff.1 hl1).1
              have hxk : vs[k] = x := (List.getElem?_eq_some_iff.1 hl1).2
              have hkn' : (k : Int) < (vs.length : Int) := by omega
              obtain ⟨b, off, rfl, hbb, hcell⟩ := hV.2 (by rw [hV.1]; omega)
              have hvk := vals_at vs k hkn
              rw [hxk] at hvk
              have h0 := hcell (k * 3) _ (hvk 0 (by decide))
              have h1 := hcell (k * 3 + 1) _ (hvk 1 (by decide))
              have h2 := hcell (k * 3 + 2) _ (hvk 2 (by decide))
              simp only [valc, List.getElem_cons_zero, List.getElem_cons_succ] at h0 h1 h2
              have hvx := hv x (List.mem_of_getElem? hl1)
              have hp := rdV_pack x.1 x.2.1 x.2.2 hl2 hvx.2.1 hvx.2.2 R
              have HP := Lib.hid hp
              rw [HS] at hrd3 hrl
              have hlen : (packV x.1 x.2.1 x.2.2 ++ R).length ≤ 1000000000 := by simp at hrl ⊢; omega
              clear hcell hvk hl1 hxk hl2 hp HS
              obtain ⟨ka, kb, kc⟩ := x
              simp only at *
              go_wp2_with fail
              refine (RValue_calls g _ false wc hrd3 hlen).mono ?_
              rintro e w3 ⟨rfl, hr3, hm3⟩
              rw [HP.out] at hr3 ⊢
              simp only at hr3 ⊢
              have hb3 : Below w.heap.size w w3 := hb3c.trans (below_of_mut hm3 hgw hz3)
              have hz3' := hb3.size
              have e0 : w3.cell? ⟨b, off + k * 3, none⟩ = _ := (hb3.cell hbb).trans h0
              have e1 : w3.cell? ⟨b, off + k * 3 + 1, none⟩ = _ := (hb3.cell hbb).trans h1
              have e2 : w3.cell? ⟨b, off + k * 3 + 2, none⟩ = _ := (hb3.cell hbb).trans h2
              have hbn : b < w3.heap.size := by omega
              clear h0 h1 h2 hm3 hrd3 HP
              go_wp2_with fail
              have hx4 := Blk.new w3 28 #[.int .i64 ka, .int .i64 kb, .string { data := kc.data }]
              have hb4 : Below w3.heap.size w3 (w3.alloc (.cells #[.int .i64 ka, .int .i64 kb, .string { data := kc.data }] 28)) := (Below.refl _ _).alloc (Nat.le_refl _) _
              have hr4 := hr3.below hb4 hr3.lt
              have g0 := (hb4.cell (p := ⟨b, off + k * 3, none⟩) hbn).trans e0
              have g1 := (hb4.cell (p := ⟨b, off + k * 3 + 1, none⟩) hbn).trans e1
              have g2 := (hb4.cell (p := ⟨b, off + k * 3 + 2, none⟩) hbn).trans e2
              have hbw4 := hb3.trans (hb4.mono hz3')
              have f0 : (w3.alloc (.cells #[.int .i64 ka, .int .i64 kb, .string { data := kc.data }] 28)).cell? ⟨w3.heap.size, 0, none⟩ = some (.int .i64 ka) := hx4.cell 0
              have f1 : (w3.alloc (.cells #[.int .i64 ka, .int .i64 kb, .string { data := kc.data }] 28)).cell? ⟨w3.heap.size, 1, none⟩ = some (.int .i64 kb) := hx4.cell 1
              have f2 : (w3.alloc (.cells #[.int .i64 ka, .int .i64 kb, .string { data := kc.data }] 28)).cell? ⟨w3.heap.size, 2, none⟩ = some (.string kc) := hx4.cell 2
              have hlt4 : w3.heap.size < (w3.alloc (.cells #[.int .i64 ka, .int .i64 kb, .string { data := kc.data }] 28)).heap.size := by show _ < (w3.heap.push _).size; rw [Array.size_push]; exact Nat.lt_succ_self _
              generalize w3.alloc _ = W4 at *
              clear e0 e1 e2 hx4 hb4
              obtain ⟨C, hC⟩ : ∃ C : World → Prop, C = fun u => (u.cell? ⟨w3.heap.size, 0, none⟩ = some (.int .i64 ka) ∧ u.cell? ⟨w3.heap.size, 1, none⟩ = some (.int .i64 kb) ∧ u.cell? ⟨w3.heap.size, 2, none⟩ = some (.string { data := kc.data }) ∧
                  u.cell? ⟨b, off + k * 3, none⟩ = some (.int .i64 ka) ∧ u.cell? ⟨b, off + k * 3 + 1, none⟩ = some (.int .i64 kb) ∧ u.cell? ⟨b, off + k * 3 + 2, none⟩ = some (.string { data := kc.data })) ∧ w3.heap.size < u.heap.size ∧ b < u.heap.size ∧
                  Rd u g R false ∧ Below w.heap.size w u := ⟨_, rfl⟩
              have hg : ∀ u u', C u → Below u.heap.size u u' → C u' := by
                subst hC
                rintro u u' ⟨⟨h0, h1, h2, h3, h4, h5⟩, h6, h7, h8, h9⟩ hb
                have hsz := hb.size
                exact ⟨⟨(hb.cell h6).trans h0, (hb.cell h6).trans h1, (hb.cell h6).trans h2, (hb.cell h7).trans h3, (hb.cell h7).trans h4, (hb.cell h7).trans h5⟩, by omega, by omega, h8.below hb h8.lt, h9.trans (hb.mono h9.size)⟩
              have hc0 : C W4 := by rw [hC]; exact ⟨⟨f0, f1, f2, g0, g1, g2⟩, hlt4, by omega, hr4, hbw4⟩
              clear f0 f1 f2 g0 g1 g2 hr4 hbw4 hr3 hb3
              have W0 := hc0
              refine wp_region_grow C [isV (.agg #[.int .i64 ka, .int .i64 kb, .string { data := kc.data }]), isV (.slice (some ⟨b, off, none⟩) vs.length c2), isV (.int .i64 (k : Int)), isV (.pointer (some ⟨b, off + k * 3, none⟩)), isV (.agg #[.int .i64 ka, .int .i64 kb, .string { data := kc.data }]), isV (.bool false)] [([], []), ([], []), ([], []), ([1, 2], [(123, 1), (124, 2)]), ([3], [(125, 3)]), ([0, 4], [(122, 0), (126, 4)])] 135 rfl (by kernel_rfl) (by kernel_rfl) (by kernel_rfl) hg (by exact hg _ _ hc0 (Below.drew (Below.refl _ _))) ?st28 ?ow28 ?_
              case st28 =>
                simp only [List.forall_mem_cons]
                and_intros
                all_goals first | exact isV_st _ | simp
              case ow28 =>
                simp only [OwedQ]
                and_intros
                all_goals try trivial
                all_goals
                  intro V w' hc hp
                  rw [hC] at hc
                  obtain ⟨⟨c0, c1, c2, c3, c4, c5⟩, -, -, -, -⟩ := hc
                  try simp only [List.forall_mem_cons, tab_zero, tab_succ, isV] at hp
                  try simp [wantsG, rhoP, List.lookup, hp, tab_zero, tab_succ, ResG, execOp, bareOp, isV, undef, Below.refl, c0, c1, c2, c3, c4, c5, hkn, go_sem]
              intro V28 W28 hc28 hp28
              have hr28 : V28 5 = .bool false := by
                have := hp28 5 (by simp)
                simpa [tab_zero, tab_succ, isV] using this
              clear hp28
              simp only [putAll, Act.put, List.setIfInBounds_toArray, List.set_cons_succ, List.set_cons_zero, hr28]
              rw [hC] at hc28
              obtain ⟨-, -, -, hr5, hb5⟩ := hc28
              go_wp2
              go_roundw
              case rel => exact ⟨k + 1, by omega, by go_num, by rw [HR.out]; exact hr5, hb5⟩
              case measure => simp [intOf]; omega
        · have hki : ¬ (k : Int) < 20 := by omega
          have hk20 : k = 20 := by omega
          subst hk20
          rw [show rest ns ts vs (20 - 20) 20 = [] from rfl] at hrd
          go_wp2_with fail
          refine (Done_calls g _ _ wr hrd).mono ?_
          rintro e w' ⟨rfl, rfl⟩
          go_wp2_with fail
          refine (Wrong_calls g _ _ wr hrd).mono ?_
          rintro e w' ⟨rfl, rfl⟩
          go_wp2
          go_ret
          exact ⟨rfl, hb⟩
end Go.Proofs.Ytipkjgfhadlblaa
