/-
  The walk of Decode of the document's answer of layer 13. Conditions: at most four thousand bytes.
-/
import Derived.Test.YthnhdeieimgfhaaDcJ
import Derived.Test.YthnhdeieimgfhaaWiH
import Derived.Test.YthnhdeieimgfhaaRnG
import Derived.Deep.CutBlock
set_option maxRecDepth 100000
namespace Go.Proofs.Ythnhdeieimgfhaa
open Go Go.RowKit

def MPost (b : List UInt8) (w : World) (e : Ending) (w' : World) : Prop := ∃ v', e = .returned (.tuple #[v', .int .i64 (decMC b)]) ∧ msv (decMX b) v' w' ∧ K w w'
/-- What Decode holds: its result's block r, a source g, the message's block h. -/
structure DR (w0 : World) (r g h : Nat) (l : List UInt8) (ok : Bool) (cs : Array Value) (W : World) : Prop where
  s : Sr g l ok W
  x : Blk W h 28 cs
  rv : Blk W r 28 zMsg
  k : K w0 W
  o : w0.heap.size ≤ r ∧ r < g ∧ g < h
section
variable {w0 W W' : World} {r g h : Nat} {l l' : List UInt8} {ok ok' : Bool} {cs : Array Value} {α : Type} {S : Shp α} {x : List α} {v : Value}
theorem DR.mv (D : DR w0 r g h l ok cs W) (m : W.grownBy W' (some g)) (hs : Sr g l' ok' W') : DR w0 r g h l' ok' cs W' := by
  have o := D.o
  exact ⟨hs, D.x.grown m (by simp; omega), D.rv.grown m (by simp; omega), D.k.trans (below_of_mut m (by omega) D.k.size), o⟩
theorem DR.set (D : DR w0 r g h l ok cs W) (i : Nat) (u : Value) : DR w0 r g h l ok (cs.setIfInBounds i u) (W.setCell ⟨h, i, none⟩ u) := by
  have o := D.o
  exact ⟨D.s.far (Below.setCell (Below.refl _ _) (by simp; omega) _), D.x.set_ i u, D.rv.far (by simp; omega) u, D.k.setCell (by simp; omega) u, o⟩
theorem DR.st (D : DR w0 r g h l ok cs W) (k : K W W') : DR w0 r g h l ok cs W' := ⟨D.s.st k, D.x.below k D.x.lt, D.rv.below k D.rv.lt, D.k.tr k, D.o⟩
theorem upN_of {X : Nat → Prop} (m : W.grownBy W' (some g)) (hX : X g) : UpN X W W' := UpN.of_mut m (fun k e => by injection e with e; rw [← e]; exact hX)
theorem lstW.mg {gb : Nat} (hl : lstW S gb x v W) (m : W.grownBy W' (some g)) (hg : g < gb) : lstW S gb x v W' := hl.mv (upN_of (X := fun k => k < gb) m hg)
end

set_option maxHeartbeats 8000000 in
theorem R13Decode_calls (A : Option Addr) (n c : Nat) (b : List UInt8) (w : World) (hR : Reads w w.heap.size 1 A n (bys b)) (hnc : n ≤ c) (hn : n ≤ 4000) :
    Calls Try.prog 20 #[.slice A n c] w fun e w' => MPost b w e w' := by
  have hbl : b.length = n := by simpa using hR.len
  subst hbl
  have hr0 := (Blk.new w 28 zMsg).alloc (.cells #[.slice A b.length c, .bool true] 105)
  have hg0 := Blk.new (w.alloc (.cells zMsg 28)) 105 #[.slice A b.length c, .bool true]
  have k0 : K w ((w.alloc (.cells zMsg 28)).alloc (.cells #[.slice A b.length c, .bool true] 105)) := ((K.rf w).al _).al _
  rw [World.size_alloc] at hg0
  have hs0 : Sr (w.heap.size + 1) b true ((w.alloc (.cells zMsg 28)).alloc (.cells #[.slice A b.length c, .bool true] 105)) := ⟨A, c, hg0, (hR.below k0 (Nat.le_refl _)).more (by omega), hnc, hn⟩
  obtain ⟨r, hr⟩ : ∃ r, r = w.heap.size := ⟨_, rfl⟩
  have HR := Lib.hid hr
  clear hR hg0
  go_enter Try.func20, Try.ntmps20
  go_wp2_with fail
  rw [← hr] at hr0 hs0 ⊢
  clear hr
  generalize World.alloc (World.alloc w _) _ = w1 at *
  refine (SNum_calls (r + 1) b true w1 hs0).mono ?_
  rintro e w2 ⟨k, l1, ok1, rfl, hs1, m1, hk64, hf1⟩
  have HF1 := Lib.hid hf1
  have hr2 := hr0.grown m1 (by simp)
  have k2 : K w w2 := k0.trans (below_of_mut m1 (by have := HR.out; omega) k0.size)
  clear hs0 hr0 k0 m1 hf1
  go_wp2_with fail
  refine (SNum_calls (r + 1) l1 ok1 w2 hs1).mono ?_
  rintro e w3 ⟨got, l2, ok2, rfl, hs2, m2, hg64, hf2⟩
  have HF2 := Lib.hid hf2
  have hr3 := hr2.grown m2 (by simp)
  have k3 : K w w3 := k2.trans (below_of_mut m2 (by have := HR.out; omega) k2.size)
  clear hs1 hr2 k2 m2 hf2
  have HLEN := Lib.hid (fun (e : ok2 = true) => show (l2.length : Int) ≤ (b.length : Int) ∧ l2.length ≤ 65536 from by
    have q2 := HF2.out.len rdNu_codec e
    have q1 := HF1.out.len rdNu_codec q2.2
    omega)
  go_upto_region 4 with (fail)
  have kA : K w3 (w3.alloc (.cells #[.int .i64 0, .int .u64 (got : Int), .slice none 0 0, .slice none 0 0, .slice none 0 0, .slice none 0 0, .slice none 0 0, .slice none 0 0] 28)) := (K.rf w3).al _
  have D : DR w r (r + 1) w3.heap.size l2 ok2 #[.int .i64 0, .int .u64 (got : Int), .slice none 0 0, .slice none 0 0, .slice none 0 0, .slice none 0 0, .slice none 0 0, .slice none 0 0] (w3.alloc (.cells #[.int .i64 0, .int .u64 (got : Int), .slice none 0 0, .slice none 0 0, .slice none 0 0, .slice none 0 0, .slice none 0 0, .slice none 0 0] 28)) :=
    ⟨hs2.st kA, Blk.new _ _ _, hr3.below kA hr3.lt, k3.tr kA, Nat.le_of_eq HR.out.symm, by omega, hs2.lt⟩
  clear kA hs2 hr3 k3
  generalize w3.alloc _ = w4 at *
  generalize w3.heap.size = h at *
  go_upto_block 0 with (fail)
  go_cut [4] from 16 to 39 (fun v4 W => ∃ (m : Msg) (l : List UInt8) (ok : Bool) (A1 A2 A3 A4 A5 A6 : Option Addr) (c1 c2 c3 c4 c5 c6 : Nat), v4 = .pointer (some ⟨r + 1, 0, none⟩) ∧ DR w r (r + 1) h l ok (msA m (.slice A1 m.votes.length c1) (.slice A2 m.asks.length c2) (.slice A3 m.entries.length c3) (.slice A4 m.prepares.length c4) (.slice A5 m.aborts.length c5) (.slice A6 m.ends.length c6)) W ∧
    Hid (lstW voS (h + 1) m.votes (.slice A1 m.votes.length c1) W ∧ lstW enS (h + 1) m.asks (.slice A2 m.asks.length c2) W ∧ lstW enS (h + 1) m.entries (.slice A3 m.entries.length c3) W ∧ lstW enS (h + 1) m.prepares (.slice A4 m.prepares.length c4) W ∧ lstW idS (h + 1) m.aborts (.slice A5 m.aborts.length c5) W ∧ lstW idS (h + 1) m.ends (.slice A6 m.ends.length c6) W) ∧
    Hid (decM b = finM ok l m) ∧ Hid (ok = true → litM m))
  case first =>
    have hrh := D.o
    by_cases hk1 : k = 1
    · subst hk1
      have HH : Hid (Fit rdHd b true (1, got) l2 ok2) := Lib.hid (((HF1.out.be 3).1 (by decide)).two (Stk.of rdNu_codec) HF2.out)
      clear HF1 HF2
      have q := D.x.cell
      have z := D.x.frozen
      go_wp2_with fail
      clear q z
      replace D : DR w r (r + 1) h l2 ok2 #[.int .i64 1, .int .u64 (got : Int), .slice none 0 0, .slice none 0 0, .slice none 0 0, .slice none 0 0, .slice none 0 0, .slice none 0 0] (w4.setCell ⟨h, 0, none⟩ (.int .i64 1)) := D.set 0 (.int .i64 1)
      generalize w4.setCell _ _ = u0 at *
      have hz0 := D.x.lt
      refine (SVotes_calls (r + 1) l2 ok2 u0 D.s).mono ?_
      rintro e x0 ⟨v, xa, m0, o0, rfl, hlxa, hs, mm, hfxa⟩
      obtain ⟨Bxa, dxa, rfl⟩ := hlxa.sl
      replace hlxa := hlxa.less (gb' := h + 1) (by omega)
      have HFxa := Lib.hid hfxa
      replace D := D.mv mm hs
      clear hs mm hfxa hz0
      have q := D.x.cell
      have z := D.x.frozen
      go_wp2_with fail
      clear q z
      replace D : DR w r (r + 1) h m0 o0 #[.int .i64 1, .int .u64 (got : Int), .slice Bxa xa.length dxa, .slice none 0 0, .slice none 0 0, .slice none 0 0, .slice none 0 0, .slice none 0 0] (x0.setCell ⟨h, 2, none⟩ (.slice Bxa xa.length dxa)) := D.set 2 (.slice Bxa xa.length dxa)
      replace hlxa := hlxa.set1 (b := h) (by omega) 2 (.slice Bxa xa.length dxa)
      generalize x0.setCell _ _ = u1 at *
      have hz1 := D.x.lt
      refine (SEnts_calls (r + 1) m0 o0 u1 D.s).mono ?_
      rintro e x1 ⟨v, xb, m1, o1, rfl, hlxb, hs, mm, hfxb⟩
      obtain ⟨Bxb, dxb, rfl⟩ := hlxb.sl
      replace hlxb := hlxb.less (gb' := h + 1) (by omega)
      have HFxb := Lib.hid hfxb
      replace D := D.mv mm hs
      replace hlxa := hlxa.mg mm (by omega)
      clear hs mm hfxb hz1
      have q := D.x.cell
      have z := D.x.frozen
      have HD : Hid (decM b = finM o1 m1 ⟨1, got, xa, xb, [], [], [], []⟩) := Lib.hid ((HH.out.one (HFxa.out.two (stk_li (stk_eb _)) (HFxb.out.conv (by omega) (fun e => by have q1 := HFxa.out.len (rdLi_codec rdVo_codec) e; have q2 := HLEN.out q1.2; omega)))).fin)
      have HL : Hid (o1 = true → litM ⟨1, got, xa, xb, [], [], [], []⟩) := Lib.hid fun e => by
        have q1 := HFxb.out.len (rdLi_codec (rdEb_codec 65536)) e
        have q2 := HFxb.out
        rw [e] at q2
        have q3 := HFxa.out
        rw [q1.2] at q3
        exact ⟨li_lit q2, ⟨by simp, by simp⟩, ⟨by simp, by simp⟩, li_len rdVo_codec q3, by simp, by simp⟩
      replace D : DR w r (r + 1) h m1 o1 #[.int .i64 1, .int .u64 (got : Int), .slice Bxa xa.length dxa, .slice Bxb xb.length dxb, .slice none 0 0, .slice none 0 0, .slice none 0 0, .slice none 0 0] (x1.setCell ⟨h, 3, none⟩ (.slice Bxb xb.length dxb)) := D.set 3 (.slice Bxb xb.length dxb)
      replace hlxa := hlxa.set1 (b := h) (by omega) 3 (.slice Bxb xb.length dxb)
      replace hlxb := hlxb.set1 (b := h) (by omega) 3 (.slice Bxb xb.length dxb)
      have HDD := Lib.hid D
      have HLxa := Lib.hid hlxa
      have HLxb := Lib.hid hlxb
      clear D hlxa hlxb HLEN HH
      go_wp2
      go_meet
      case rel => exact ⟨⟨1, got, xa, xb, [], [], [], []⟩, m1, o1, Bxa, Bxb, none, none, none, none, dxa, dxb, 0, 0, 0, 0, rfl, HDD.out, Lib.hid ⟨HLxa.out, HLxb.out, (fun _ _ => lst_nil _ _), (fun _ _ => lst_nil _ _), (fun _ _ => lst_nil _ _), (fun _ _ => lst_nil _ _)⟩, HD, HL⟩
    · by_cases hk2 : k = 2
      · subst hk2
        have HH : Hid (Fit rdHd b true (2, got) l2 ok2) := Lib.hid (((HF1.out.be 3).1 (by decide)).two (Stk.of rdNu_codec) HF2.out)
        clear HF1 HF2 hk1
        have q := D.x.cell
        have z := D.x.frozen
        go_wp2_with fail
        clear q z
        replace D : DR w r (r + 1) h l2 ok2 #[.int .i64 2, .int .u64 (got : Int), .slice none 0 0, .slice none 0 0, .slice none 0 0, .slice none 0 0, .slice none 0 0, .slice none 0 0] (w4.setCell ⟨h, 0, none⟩ (.int .i64 2)) := D.set 0 (.int .i64 2)
        generalize w4.setCell _ _ = u0 at *
        have hz0 := D.x.lt
        refine (SEnts_calls (r + 1) l2 ok2 u0 D.s).mono ?_
        rintro e x0 ⟨v, xa, m0, o0, rfl, hlxa, hs, mm, hfxa⟩
        obtain ⟨Bxa, dxa, rfl⟩ := hlxa.sl
        replace hlxa := hlxa.less (gb' := h + 1) (by omega)
        have HFxa := Lib.hid hfxa
        replace D := D.mv mm hs
        clear hs mm hfxa hz0
        have q := D.x.cell
        have z := D.x.frozen
        go_wp2_with fail
        clear q z
        replace D : DR w r (r + 1) h m0 o0 #[.int .i64 2, .int .u64 (got : Int), .slice none 0 0, .slice none 0 0, .slice Bxa xa.length dxa, .slice none 0 0, .slice none 0 0, .slice none 0 0] (x0.setCell ⟨h, 4, none⟩ (.slice Bxa xa.length dxa)) := D.set 4 (.slice Bxa xa.length dxa)
        replace hlxa := hlxa.set1 (b := h) (by omega) 4 (.slice Bxa xa.length dxa)
        generalize x0.setCell _ _ = u1 at *
        have hz1 := D.x.lt
        refine (SEnts_calls (r + 1) m0 o0 u1 D.s).mono ?_
        rintro e x1 ⟨v, xb, m1, o1, rfl, hlxb, hs, mm, hfxb⟩
        obtain ⟨Bxb, dxb, rfl⟩ := hlxb.sl
        replace hlxb := hlxb.less (gb' := h + 1) (by omega)
        have HFxb := Lib.hid hfxb
        replace D := D.mv mm hs
        replace hlxa := hlxa.mg mm (by omega)
        clear hs mm hfxb hz1
        have q := D.x.cell
        have z := D.x.frozen
        go_wp2_with fail
        clear q z
        replace D : DR w r (r + 1) h m1 o1 #[.int .i64 2, .int .u64 (got : Int), .slice none 0 0, .slice none 0 0, .slice Bxa xa.length dxa, .slice Bxb xb.length dxb, .slice none 0 0, .slice none 0 0] (x1.setCell ⟨h, 5, none⟩ (.slice Bxb xb.length dxb)) := D.set 5 (.slice Bxb xb.length dxb)
        replace hlxa := hlxa.set1 (b := h) (by omega) 5 (.slice Bxb xb.length dxb)
        replace hlxb := hlxb.set1 (b := h) (by omega) 5 (.slice Bxb xb.length dxb)
        generalize x1.setCell _ _ = u2 at *
        have hz2 := D.x.lt
        refine (SIds_calls (r + 1) m1 o1 u2 D.s).mono ?_
        rintro e x2 ⟨v, xc, m2, o2, rfl, hlxc, hs, mm, hfxc⟩
        obtain ⟨Bxc, dxc, rfl⟩ := hlxc.sl
        replace hlxc := hlxc.less (gb' := h + 1) (by omega)
        have HFxc := Lib.hid hfxc
        replace D := D.mv mm hs
        replace hlxa := hlxa.mg mm (by omega)
        replace hlxb := hlxb.mg mm (by omega)
        clear hs mm hfxc hz2
        have q := D.x.cell
        have z := D.x.frozen
        go_wp2_with fail
        clear q z
        replace D : DR w r (r + 1) h m2 o2 #[.int .i64 2, .int .u64 (got : Int), .slice none 0 0, .slice none 0 0, .slice Bxa xa.length dxa, .slice Bxb xb.length dxb, .slice Bxc xc.length dxc, .slice none 0 0] (x2.setCell ⟨h, 6, none⟩ (.slice Bxc xc.length dxc)) := D.set 6 (.slice Bxc xc.length dxc)
        replace hlxa := hlxa.set1 (b := h) (by omega) 6 (.slice Bxc xc.length dxc)
        replace hlxb := hlxb.set1 (b := h) (by omega) 6 (.slice Bxc xc.length dxc)
        replace hlxc := hlxc.set1 (b := h) (by omega) 6 (.slice Bxc xc.length dxc)
        generalize x2.setCell _ _ = u3 at *
        have hz3 := D.x.lt
        refine (SIds_calls (r + 1) m2 o2 u3 D.s).mono ?_
        rintro e x3 ⟨v, xd, m3, o3, rfl, hlxd, hs, mm, hfxd⟩
        obtain ⟨Bxd, dxd, rfl⟩ := hlxd.sl
        replace hlxd := hlxd.less (gb' := h + 1) (by omega)
        have HFxd := Lib.hid hfxd
        replace D := D.mv mm hs
        replace hlxa := hlxa.mg mm (by omega)
        replace hlxb := hlxb.mg mm (by omega)
        replace hlxc := hlxc.mg mm (by omega)
        clear hs mm hfxd hz3
        have q := D.x.cell
        have z := D.x.frozen
        have La := Lib.hid (fun (e : o0 = true) => show (m0.length : Int) ≤ (b.length : Int) ∧ m0.length ≤ 65536 from by have q1 := HFxa.out.len (rdLi_codec (rdEb_codec 65536)) e; have q2 := HLEN.out q1.2; omega)
        have HD : Hid (decM b = finM o3 m3 ⟨2, got, [], [], xa, xb, xc, xd⟩) := Lib.hid ((HH.out.twoM ((HFxa.out.conv (by omega) HLEN.out).two (stk_two (stk_li (stk_eb _)) (stk_two (stk_li stk_id) (stk_li stk_id))) ((HFxb.out.conv (by omega) La.out).two (stk_two (stk_li stk_id) (stk_li stk_id)) (HFxc.out.two (stk_li stk_id) HFxd.out)))).fin)
        have HL : Hid (o3 = true → litM ⟨2, got, [], [], xa, xb, xc, xd⟩) := Lib.hid fun e => by
          have q1 := HFxd.out.len (rdLi_codec rdId3_codec) e
          have q2 := HFxc.out.len (rdLi_codec rdId3_codec) q1.2
          have q3 := HFxb.out.len (rdLi_codec (rdEb_codec 65536)) q2.2
          have fd := HFxd.out
          rw [e] at fd
          have fc := HFxc.out
          rw [q1.2] at fc
          have fb := HFxb.out
          rw [q2.2] at fb
          have fa := HFxa.out
          rw [q3.2] at fa
          exact ⟨⟨by simp, by simp⟩, li_lit fa, li_lit fb, by simp, li_len rdId3_codec fc, li_len rdId3_codec fd⟩
        replace D : DR w r (r + 1) h m3 o3 #[.int .i64 2, .int .u64 (got : Int), .slice none 0 0, .slice none 0 0, .slice Bxa xa.length dxa, .slice Bxb xb.length dxb, .slice Bxc xc.length dxc, .slice Bxd xd.length dxd] (x3.setCell ⟨h, 7, none⟩ (.slice Bxd xd.length dxd)) := D.set 7 (.slice Bxd xd.length dxd)
        replace hlxa := hlxa.set1 (b := h) (by omega) 7 (.slice Bxd xd.length dxd)
        replace hlxb := hlxb.set1 (b := h) (by omega) 7 (.slice Bxd xd.length dxd)
        replace hlxc := hlxc.set1 (b := h) (by omega) 7 (.slice Bxd xd.length dxd)
        replace hlxd := hlxd.set1 (b := h) (by omega) 7 (.slice Bxd xd.length dxd)
        have HDD := Lib.hid D
        have HLxa := Lib.hid hlxa
        have HLxb := Lib.hid hlxb
        have HLxc := Lib.hid hlxc
        have HLxd := Lib.hid hlxd
        clear D hlxa hlxb hlxc hlxd HLEN HH
        go_wp2
        go_meet
        case rel => exact ⟨⟨2, got, [], [], xa, xb, xc, xd⟩, m3, o3, none, none, Bxa, Bxb, Bxc, Bxd, 0, 0, dxa, dxb, dxc, dxd, rfl, HDD.out, Lib.hid ⟨(fun _ _ => lst_nil _ _), (fun _ _ => lst_nil _ _), HLxa.out, HLxb.out, HLxc.out, HLxd.out⟩, HD, HL⟩
      · have h1 : ((k : Int) == 1) = false := by simp; omega
        have h2 : ((k : Int) == 2) = false := by simp; omega
        have HE := Lib.hid (decM_else HF1.out HF2.out hk1 hk2)
        clear HF1 HF2 hk1 hk2
        have HDD := Lib.hid D
        clear D
        go_wp2
        go_meet
        case rel => exact ⟨⟨0, got, [], [], [], [], [], []⟩, l2, ok2, none, none, none, none, none, none, 0, 0, 0, 0, 0, 0, rfl, HDD.out, Lib.hid ⟨fun _ _ => lst_nil _ _, fun _ _ => lst_nil _ _, fun _ _ => lst_nil _ _, fun _ _ => lst_nil _ _, fun _ _ => lst_nil _ _, fun _ _ => lst_nil _ _⟩, Lib.hid (by rw [HE.out, finM, okM_no (by simp) (by simp)]; simp), Lib.hid fun _ => ⟨⟨by simp, by simp⟩, ⟨by simp, by simp⟩, ⟨by simp, by simp⟩, by simp, by simp, by simp⟩⟩
  case rest =>
  clear D HF1 HF2 HLEN
  obtain ⟨m, l, ok, A1, A2, A3, A4, A5, A6, c1, c2, c3, c4, c5, c6, rfl, D, HLS, HD, HLM⟩ := hcut
  have hrh := D.o
  obtain ⟨As, cs, hxs, -, -, -⟩ := D.s
  have hrv := D.rv
  have hxm := D.x
  have kD := D.k
  clear D
  cases ok
  · have HE := Lib.hid (decM_none (b := b) (by rw [HD.out]; rfl))
    clear HD HLS HLM hxm
    have q := hxs.cell
    have qr := hrv.cell
    have z := hrv.frozen
    go_wp2
    have hr9 := (((((((hrv.set_ 0 (.int .i64 0)).set_ 1 (.int .u64 0)).set_ 2 (.slice none 0 0)).set_ 3 (.slice none 0 0)).set_ 4 (.slice none 0 0)).set_ 5 (.slice none 0 0)).set_ 6 (.slice none 0 0)).set_ 7 (.slice none 0 0)
    have e9 := hr9.cell
    refine bodyPost_ret (v := .tuple #[.agg zMsg, .int .i64 130]) (by simp [results, Try.results20, go_sem, e9]) rfl ?_
    have hg := HR.out
    unfold MPost
    exact ⟨.agg zMsg, by rw [HE.out.1], by rw [HE.out.2]; exact msv_zero _, (((((((kD.setCell (by simp [hg]) _).setCell (by simp [hg]) _).setCell (by simp [hg]) _).setCell (by simp [hg]) _).setCell (by simp [hg]) _).setCell (by simp [hg]) _).setCell (by simp [hg]) _).setCell (by simp [hg]) _⟩
  · cases l with
    | cons y l =>
      have HE := Lib.hid (decM_none (b := b) (by rw [HD.out]; simp [finM]))
      have hpos : (0 : Int) < ((y :: l).length : Int) := by simp only [List.length_cons]; omega
      clear HD HLS HLM hxm
      generalize (y :: l).length = ny at *
      have q := hxs.cell
      have qr := hrv.cell
      have z := hrv.frozen
      go_wp2
      have hr9 := (((((((hrv.set_ 0 (.int .i64 0)).set_ 1 (.int .u64 0)).set_ 2 (.slice none 0 0)).set_ 3 (.slice none 0 0)).set_ 4 (.slice none 0 0)).set_ 5 (.slice none 0 0)).set_ 6 (.slice none 0 0)).set_ 7 (.slice none 0 0)
      have e9 := hr9.cell
      refine bodyPost_ret (v := .tuple #[.agg zMsg, .int .i64 130]) (by simp [results, Try.results20, go_sem, e9]) rfl ?_
      have hg := HR.out
      unfold MPost
      exact ⟨.agg zMsg, by rw [HE.out.1], by rw [HE.out.2]; exact msv_zero _, (((((((kD.setCell (by simp [hg]) _).setCell (by simp [hg]) _).setCell (by simp [hg]) _).setCell (by simp [hg]) _).setCell (by simp [hg]) _).setCell (by simp [hg]) _).setCell (by simp [hg]) _).setCell (by simp [hg]) _⟩
    | nil =>
      have hxs : Blk wc (r + 1) 105 #[.slice As 0 cs, .bool true] := hxs
      obtain ⟨L1, L2, L3, L4, L5, L6⟩ := HLS.out
      have CC := Lib.hid (R13Chk_calls m (.agg (msA m (.slice A1 m.votes.length c1) (.slice A2 m.asks.length c2) (.slice A3 m.entries.length c3) (.slice A4 m.prepares.length c4) (.slice A5 m.aborts.length c5) (.slice A6 m.ends.length c6))) wc ⟨_, _, _, _, _, _, rfl, L1 _ (UpN.rf _ _), L2 _ (UpN.rf _ _), L3 _ (UpN.rf _ _), L4 _ (UpN.rf _ _), L5 _ (UpN.rf _ _), L6 _ (UpN.rf _ _)⟩ (HLM.out rfl))
      have hmz := hxm.lt
      clear L1 L2 L3 L4 L5 L6 HLM
      have q := hxs.cell
      have qm := hxm.cell
      go_wp2_with fail
      clear q qm
      refine CC.out.mono ?_
      rintro e w9 ⟨rfl, k9⟩
      have hxm9 := hxm.below k9 hmz
      have hrv9 := hrv.below k9 hrv.lt
      have kD9 := kD.tr k9
      have HK9 := Lib.hid k9
      clear CC k9 hxm hrv kD hxs
      have q := hxm9.cell
      have qr := hrv9.cell
      have z := hrv9.frozen
      cases hok : okM m
      · have hc : chkM m = 130 := by simp [chkM, hok]
        have HE := Lib.hid (decM_none (b := b) (by rw [HD.out, finM, hok]; simp))
        rw [hc]
        clear HD hc hok HLS HK9
        go_wp2
        have hr9 := (((((((hrv9.set_ 0 (.int .i64 0)).set_ 1 (.int .u64 0)).set_ 2 (.slice none 0 0)).set_ 3 (.slice none 0 0)).set_ 4 (.slice none 0 0)).set_ 5 (.slice none 0 0)).set_ 6 (.slice none 0 0)).set_ 7 (.slice none 0 0)
        have e9 := hr9.cell
        refine bodyPost_ret (v := .tuple #[.agg zMsg, .int .i64 130]) (by simp [results, Try.results20, go_sem, e9]) rfl ?_
        have hg := HR.out
        unfold MPost
        exact ⟨.agg zMsg, by rw [HE.out.1], by rw [HE.out.2]; exact msv_zero _, (((((((kD9.setCell (by simp [hg]) _).setCell (by simp [hg]) _).setCell (by simp [hg]) _).setCell (by simp [hg]) _).setCell (by simp [hg]) _).setCell (by simp [hg]) _).setCell (by simp [hg]) _).setCell (by simp [hg]) _⟩
      · have hc : chkM m = 0 := by simp [chkM, hok]
        have HE := Lib.hid (decM_some (b := b) (m := m) (by rw [HD.out, finM, hok]; simp))
        rw [hc]
        clear HD hc hok
        go_wp2
        have hr9 := (((((((hrv9.set_ 0 (.int .i64 m.kind)).set_ 1 (.int .u64 (m.got : Int))).set_ 2 (.slice A1 m.votes.length c1)).set_ 3 (.slice A2 m.asks.length c2)).set_ 4 (.slice A3 m.entries.length c3)).set_ 5 (.slice A4 m.prepares.length c4)).set_ 6 (.slice A5 m.aborts.length c5)).set_ 7 (.slice A6 m.ends.length c6)
        have e9 := hr9.cell
        refine bodyPost_ret (v := .tuple #[.agg #[.int .i64 m.kind, .int .u64 (m.got : Int), .slice A1 m.votes.length c1, .slice A2 m.asks.length c2, .slice A3 m.entries.length c3, .slice A4 m.prepares.length c4, .slice A5 m.aborts.length c5, .slice A6 m.ends.length c6], .int .i64 0]) (by simp [results, Try.results20, go_sem, e9]) rfl ?_
        have hg := HR.out
        unfold MPost
        obtain ⟨L1, L2, L3, L4, L5, L6⟩ := HLS.out
        have UQ := UpN.of_k HK9.out (fun k => k < h + 1)
        refine ⟨.agg #[.int .i64 m.kind, .int .u64 (m.got : Int), .slice A1 m.votes.length c1, .slice A2 m.asks.length c2, .slice A3 m.entries.length c3, .slice A4 m.prepares.length c4, .slice A5 m.aborts.length c5, .slice A6 m.ends.length c6], by rw [HE.out.1], ?_, (((((((kD9.setCell (by simp [hg]) _).setCell (by simp [hg]) _).setCell (by simp [hg]) _).setCell (by simp [hg]) _).setCell (by simp [hg]) _).setCell (by simp [hg]) _).setCell (by simp [hg]) _).setCell (by simp [hg]) _⟩
        rw [HE.out.2]
        exact ⟨_, _, _, _, _, _, rfl, L1 _ (((((((((UQ.tr (UpN.set1 (X := fun k => k < h + 1) (b := r) (by omega) _ _)).tr (UpN.set1 (X := fun k => k < h + 1) (b := r) (by omega) _ _)).tr (UpN.set1 (X := fun k => k < h + 1) (b := r) (by omega) _ _)).tr (UpN.set1 (X := fun k => k < h + 1) (b := r) (by omega) _ _)).tr (UpN.set1 (X := fun k => k < h + 1) (b := r) (by omega) _ _)).tr (UpN.set1 (X := fun k => k < h + 1) (b := r) (by omega) _ _)).tr (UpN.set1 (X := fun k => k < h + 1) (b := r) (by omega) _ _)).tr (UpN.set1 (X := fun k => k < h + 1) (b := r) (by omega) _ _))), L2 _ (((((((((UQ.tr (UpN.set1 (X := fun k => k < h + 1) (b := r) (by omega) _ _)).tr (UpN.set1 (X := fun k => k < h + 1) (b := r) (by omega) _ _)).tr (UpN.set1 (X := fun k => k < h + 1) (b := r) (by omega) _ _)).tr (UpN.set1 (X := fun k => k < h + 1) (b := r) (by omega) _ _)).tr (UpN.set1 (X := fun k => k < h + 1) (b := r) (by omega) _ _)).tr (UpN.set1 (X := fun k => k < h + 1) (b := r) (by omega) _ _)).tr (UpN.set1 (X := fun k => k < h + 1) (b := r) (by omega) _ _)).tr (UpN.set1 (X := fun k => k < h + 1) (b := r) (by omega) _ _))), L3 _ (((((((((UQ.tr (UpN.set1 (X := fun k => k < h + 1) (b := r) (by omega) _ _)).tr (UpN.set1 (X := fun k => k < h + 1) (b := r) (by omega) _ _)).tr (UpN.set1 (X := fun k => k < h + 1) (b := r) (by omega) _ _)).tr (UpN.set1 (X := fun k => k < h + 1) (b := r) (by omega) _ _)).tr (UpN.set1 (X := fun k => k < h + 1) (b := r) (by omega) _ _)).tr (UpN.set1 (X := fun k => k < h + 1) (b := r) (by omega) _ _)).tr (UpN.set1 (X := fun k => k < h + 1) (b := r) (by omega) _ _)).tr (UpN.set1 (X := fun k => k < h + 1) (b := r) (by omega) _ _))), L4 _ (((((((((UQ.tr (UpN.set1 (X := fun k => k < h + 1) (b := r) (by omega) _ _)).tr (UpN.set1 (X := fun k => k < h + 1) (b := r) (by omega) _ _)).tr (UpN.set1 (X := fun k => k < h + 1) (b := r) (by omega) _ _)).tr (UpN.set1 (X := fun k => k < h + 1) (b := r) (by omega) _ _)).tr (UpN.set1 (X := fun k => k < h + 1) (b := r) (by omega) _ _)).tr (UpN.set1 (X := fun k => k < h + 1) (b := r) (by omega) _ _)).tr (UpN.set1 (X := fun k => k < h + 1) (b := r) (by omega) _ _)).tr (UpN.set1 (X := fun k => k < h + 1) (b := r) (by omega) _ _))), L5 _ (((((((((UQ.tr (UpN.set1 (X := fun k => k < h + 1) (b := r) (by omega) _ _)).tr (UpN.set1 (X := fun k => k < h + 1) (b := r) (by omega) _ _)).tr (UpN.set1 (X := fun k => k < h + 1) (b := r) (by omega) _ _)).tr (UpN.set1 (X := fun k => k < h + 1) (b := r) (by omega) _ _)).tr (UpN.set1 (X := fun k => k < h + 1) (b := r) (by omega) _ _)).tr (UpN.set1 (X := fun k => k < h + 1) (b := r) (by omega) _ _)).tr (UpN.set1 (X := fun k => k < h + 1) (b := r) (by omega) _ _)).tr (UpN.set1 (X := fun k => k < h + 1) (b := r) (by omega) _ _))), L6 _ (((((((((UQ.tr (UpN.set1 (X := fun k => k < h + 1) (b := r) (by omega) _ _)).tr (UpN.set1 (X := fun k => k < h + 1) (b := r) (by omega) _ _)).tr (UpN.set1 (X := fun k => k < h + 1) (b := r) (by omega) _ _)).tr (UpN.set1 (X := fun k => k < h + 1) (b := r) (by omega) _ _)).tr (UpN.set1 (X := fun k => k < h + 1) (b := r) (by omega) _ _)).tr (UpN.set1 (X := fun k => k < h + 1) (b := r) (by omega) _ _)).tr (UpN.set1 (X := fun k => k < h + 1) (b := r) (by omega) _ _)).tr (UpN.set1 (X := fun k => k < h + 1) (b := r) (by omega) _ _)))⟩
end Go.Proofs.Ythnhdeieimgfhaa
