/-
  The walks of take and small of the document's answer of layer 11. Conditions: at most a milliard bytes.
-/
import Derived.Test.YthnhdeieimgfhaaRnA
import Derived.Test.YthnhdeieimgfhaaRefC
import Derived.Test.YthnhdeieimgfhaaNA
set_option maxRecDepth 100000
namespace Go.Proofs.Ythnhdeieimgfhaa
open Go Go.RowKit

/-- A list of numbers. -/
def u64S : Shp Nat where
  size := 1
  rel n cs _ := cs = [.int .u64 (n : Int)]
  len := by rintro x cs w rfl; rfl
  one := by rintro x cs w rfl u hu; simp at hu; subst hu; rfl
  st := by rintro x cs w w' h _; exact h
theorem infoU64 : (Try.prog.info? 23).map (fun i => (i.zero, i.size, i.bytes)) = some (some (.int .u64 0), 1, 8) := by kernel_rfl
theorem TU64 : SliceT Try.prog 154 23 (.int .u64 0) 1 8 := ⟨Try.underlying154, infoU64, rfl, by decide⟩
theorem rdNL_bad {k : Nat} {l : List UInt8} {wr : Bool} (h : (rdL rdN k l wr).2.2 = true) : ∀ d, (rdL rdN (k + d) l wr).2.2 = true
  | 0 => h
  | d + 1 => by
    have := rdNL_bad h d
    show (rdN (rdL rdN (k + d) l wr).2.1 (rdL rdN (k + d) l wr).2.2).2.2 = true
    rw [this, rdN_true]
theorem rdNL_len (k : Nat) (l : List UInt8) (wr : Bool) : (rdL rdN k l wr).2.1.length ≤ l.length ∧ (rdL rdN k l wr).1.length = k := by
  induction k with
  | zero => exact ⟨Nat.le_refl _, rfl⟩
  | succ k ih => exact ⟨Nat.le_trans (rdN_len _ _) ih.1, by simp [rdL, ih.2]⟩
theorem rdNL_lt (k : Nat) (l : List UInt8) (wr : Bool) : ∀ x ∈ (rdL rdN k l wr).1, x < 18446744073709551616 := rdL_all _ (fun l wr => rdN_lt l wr) k l wr
/-- What Get tells, and where what is left lies. -/
theorem getK_go {l : List UInt8} (h : getK l ≠ 0) : rdN l false = ((rdN l false).1, l.drop (getK l), false) ∧ getK l ≤ l.length := ⟨getK_good h, getK_le l⟩

theorem RSmall_calls (n : Nat) (w : World) (hn : n < 18446744073709551616) :
    Calls Try.prog 126 #[.int .u64 (n : Int)] w fun e w' => e = .returned (.int .i64 ((min n 1000 : Nat) : Int)) ∧ K w w' := by
  have kk := K.rf w
  go_enter Try.func126, Try.ntmps126
  by_cases h : n ≤ 1000
  · have h1 : ¬ (1000 : Int) < (n : Int) := by omega
    rw [Nat.min_eq_left h]
    go_wp2
    go_ret
    exact ⟨rfl, kk⟩
  · have h1 : (1000 : Int) < (n : Int) := by omega
    rw [Nat.min_eq_right (by omega)]
    go_wp2
    go_ret
    exact ⟨rfl, kk⟩

set_option maxHeartbeats 4000000 in
theorem RTake_calls (A : Option Addr) (c n : Nat) (b : List UInt8) (w : World) (hR : Reads w w.heap.size 1 A b.length (bys b)) (hnc : b.length ≤ c) (hn : b.length ≤ 1000000000) (hn6 : n ≤ 1000) :
    Calls Try.prog 125 #[.slice A b.length c, .int .i64 (n : Int)] w fun e w' => ∃ v at', e = .returned (.tuple #[v, .int .i64 ((at' : Nat) : Int)]) ∧ K w w' ∧
      (((rdL rdN n b false).2.2 = true ∧ v = .slice none 0 0 ∧ at' = 0) ∨ ((rdL rdN n b false).2.2 = false ∧ lst u64S (rdL rdN n b false).1 v w' ∧ (rdL rdN n b false).2.1 = b.drop at' ∧ at' ≤ b.length ∧ n ≤ at')) := by
  have HR0 := Lib.hid hR
  have HBad := Lib.hid (fun k (hk : k ≤ n) (hb : (rdL rdN k b false).2.2 = true) => show (rdL rdN n b false).2.2 = true from by
    have := rdNL_bad hb (n - k)
    rwa [show k + (n - k) = n by omega] at this)
  have HG := Lib.hid (fun (l : List UInt8) => @getK_go l)
  have HB := Lib.hid (fun (l : List UInt8) => @getK_bad l)
  have HL := Lib.hid (fun k => rdNL_len k b false)
  have HQ : Hid (rdL rdN n b false = rdL rdN n b false) := Lib.hid rfl
  generalize hRR : rdL rdN n b false = R at HQ HBad ⊢
  have HRR := Lib.hid hRR
  have kk := K.rf w
  clear hRR HQ hR
  go_enter Try.func125, Try.ntmps125
  go_wp2_with fail
  go_loopw [6, 7, 8] (fun o p i W => ∃ j : Nat, j ≤ n ∧ i = .int .i64 (j : Int) ∧ ∃ xs q, p = .int .i64 ((q : Nat) : Int) ∧ j ≤ q ∧ q ≤ b.length ∧ Hid (rdL rdN j b false = (xs, b.drop q, false)) ∧
      Hid (OwnL w.heap.size w.heap.size 23 u64S xs o W) ∧ K w W) (fun _ _ i _ => n - (intOf i).toNat)
  case atStart => exact ⟨0, by omega, rfl, [], 0, rfl, by omega, by omega, Lib.hid (by simp [rdL]), Lib.hid (OwnL.nil _ _ _ _ _), kk⟩
  case round =>
    clear kk
    obtain ⟨j, hj, rfl, xs, q, rfl, hjq, hqb, HJ, HO, kr⟩ := hrel
    have hxl : xs.length ≤ 1000 := by
      have := (HL.out j).2
      rw [HJ.out] at this
      simp only at this
      omega
    by_cases hlt : j < n
    · have hji : (j : Int) < (n : Int) := by omega
      have hRp := (HR0.out.below kr (Nat.le_refl _)).post (A' := if c = q then A else A.map (·.add q)) q (by intro h; rw [if_neg (by omega)])
      have hdl : (b.drop q).length = b.length - q := by simp
      have HDL := Lib.hid hdl
      have HG1 := Lib.hid (fun h => HG.out (b.drop q) h)
      have HB1 := Lib.hid (fun h => HB.out (b.drop q) h)
      have HJ1 : Hid (rdL rdN (j + 1) b false = (xs ++ [(rdN (b.drop q) false).1], (rdN (b.drop q) false).2)) := Lib.hid (by simp only [rdL]; rw [HJ.out])
      have HDD := Lib.hid (fun i => @List.drop_drop UInt8 i q b)
      have hlt64 := rdN_lt (b.drop q) false
      have hzr := kr.size
      clear HJ hdl
      generalize b.drop q = l at *
      have hll : l.length = b.length - q := HDL.out
      go_upto_region 6 with (fail)
      go_cut [0, 9, 10] from 16 to 22 (fun s x k wc => s = .slice A b.length c ∧ x = .int .u64 ((rdN l false).1 : Int) ∧ k = .int .i64 ((getK l : Nat) : Int) ∧ K wr wc)
      case first =>
        have hl9 : l.length ≤ 1000000000 := by omega
        by_cases hcK : c = q
        all_goals
          first | rw [if_pos hcK] at hRp | rw [if_neg hcK] at hRp
          go_wp2_with fail
          refine (Get_calls _ _ _ l _ _ hRp hzr (by omega) (by omega)).mono ?_
          rintro e w2 ⟨rfl, k2⟩
          go_wp2
          go_meet
          case rel => exact ⟨by first | rfl | rw [hcK], rfl, rfl, k2⟩
      case rest =>
      obtain ⟨rfl, rfl, rfl, k2⟩ := hcut
      have k3 := kr.tr k2
      have hO3 := HO.out.st k2
      clear HO kr hRp
      by_cases hk : getK l = 0
      · have hki : ((getK l : Int) == 0) = true := by simp [hk]
        have HN := Lib.hid (HBad.out (j + 1) (by omega) (by rw [HJ1.out]; exact HB1.out hk))
        clear hk HJ1 hO3
        generalize getK l = K1 at *
        go_wp2
        go_ret2
        exact ⟨_, 0, rfl, k3, .inl ⟨HN.out, rfl, rfl⟩⟩
      · have hki : ((getK l : Int) == 0) = false := by simp [hk]
        obtain ⟨hg1, hg2⟩ := HG1.out hk
        have HJ2 : Hid (rdL rdN (j + 1) b false = (xs ++ [(rdN l false).1], b.drop (q + getK l), false)) := Lib.hid (by
          rw [HJ1.out, ← HDD.out]
          exact congrArg (fun z => (xs ++ [(rdN l false).1], z.2)) hg1)
        have hk1 : 1 ≤ getK l := by omega
        clear hg1 HJ1 hk HG1 HB1
        generalize (rdN l false).1 = x at *
        generalize getK l = K1 at *
        have hvc := hO3.blk
        obtain ⟨css, hown, hcl, hEa⟩ := hO3
        have kA : K wc (wc.alloc (.cells #[.int .u64 (x : Int)] 23)) := (K.rf wc).al _
        have hbase : w.heap.size ≤ (wc.alloc (.cells #[.int .u64 (x : Int)] 23)).heap.size := by have := kA.size; have := k3.size; omega
        go_wp2_with (at_builtin; refine wpList_app rfl _ _ 154 rfl w.heap.size 23 _ 1 8 TU64 _ _ _ rfl (World.ownsRow.alloc hown _) (wc.heap.size + 1) _ 1 1 [.int .u64 (x : Int)] rfl ?c1 ?c2 ?c3 hbase ?_)
        case c1 => exact Reads.new wc [.int .u64 (x : Int)] 23 1 1 rfl
        case c2 => intro u hu; simp at hu; subst hu; rfl
        case c3 => omega
        intro v9 w9 hown9 hg9 hat9 hb9
        have hbel : Below w.heap.size (wc.alloc (.cells #[.int .u64 (x : Int)] 23)) w9 := hb9
        have k9 : K w w9 := (k3.tr kA).trans hbel
        have HO9 : Hid (OwnL w.heap.size w.heap.size 23 u64S (xs ++ [x]) v9 w9) := Lib.hid (OwnL.snoc (cs := [.int .u64 (x : Int)]) hcl (fun w' u => hEa w' (UpB.tr (UpB.of_k kA _ _) u)) hown9 hg9 (by rw [World.size_alloc]; exact hat9) (fun w' u => rfl))
        clear hown9 hg9 hat9 hb9 hown hEa k3 kA k2 hbel hvc
        go_wp2
        go_roundw
        case rel => exact ⟨j + 1, by omega, by go_num, xs ++ [x], q + K1, by go_num, by omega, by omega, HJ2, HO9, k9⟩
        case measure => simp [intOf]; omega
    · have hji : ¬ (j : Int) < (n : Int) := by omega
      obtain rfl : j = n := by omega
      have hR := HJ.out.symm.trans HRR.out
      obtain rfl := hR
      have HLs := Lib.hid HO.out.lst
      clear HO HJ HRR HBad
      go_wp2
      go_ret2
      exact ⟨_, q, rfl, kr, HLs.out, by omega, hqb, hjq⟩
end Go.Proofs.Ythnhdeieimgfhaa
