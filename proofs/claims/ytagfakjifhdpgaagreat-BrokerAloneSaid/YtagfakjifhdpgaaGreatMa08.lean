/-
  The walk of entry.Unpack (layer 11). Conditions: none.
-/
import Derived.Test.YtagfakjifhdpgaaGreatMa07
import Derived.Deep.CutBlock
set_option maxRecDepth 100000
set_option maxHeartbeats 16000000
set_option linter.unusedVariables false
set_option linter.unusedSimpArgs false
namespace Go.Proofs.YtagfakjifhdpgaaGreat
open Go Go.RowKit
abbrev zRec:Array Value:=#[.int .i64 0,.int .u64 0,.int .i64 0,.int .i64 0,.int .u64 0,.int .u64 0,.int .i64 0,.int .u64 0,.slice none 0 0,.slice none 0 0,.int .i64 0,.int .u64 0,.int .u64 0]
theorem K.set {w0 W:World} {r:Nat} (h:K w0 W) (hr:w0.heap.size<=r) (i:Nat) (u:Value):K w0 (W.setCell ⟨r,i,none⟩ u):=h.setCell hr u
theorem rcd_zero (w:World):rcd rec0 (.agg zRec) w:=⟨_,_,rfl,⟨none,0,rfl,Reads.nil _ _ _ _⟩,lst_nil _ _⟩
theorem decRec_none {b:List UInt8} (h:decRec b=none):decRecC b=110/\decRecX b=rec0:=by simp[decRecC,decRecX,h]
theorem decRec_some {b:List UInt8} {x:Rec} (h:decRec b=some x):decRecC b=0/\decRecX b=x:=by simp[decRecC,decRecX,h]
theorem decRec_parts (b:List UInt8) (k n:Nat) (l1 l2:List UInt8) (e1 e2:Bool) (h1:rdN b false=(k,l1,e1)) (h2:rdN l1 e1=(n,l2,e2)) (kk:Nat) (hk:min k 6=kk) :
 ((kk=2∨kk=3)->∀ bs l3 e3,rdB b.length l2 e2=(bs,l3,e3)->(decEn bs=none->decRec b=none)/\∀ e,decEn bs=some e->decRec b=if !e3&&l3.isEmpty&&okRec ⟨kk,n,e,0,0,0⟩ then some ⟨kk,n,e,0,0,0⟩ else none) /\
 ((kk=4∨kk=5)->∀ br li se l5 e5,rdId l2 e2=((br,li,se),l5,e5)->decRec b=if !e5&&l5.isEmpty&&okRec ⟨kk,n,ent0,br,li,se⟩ then some ⟨kk,n,ent0,br,li,se⟩ else none) /\
 (¬ (kk=2∨kk=3)->¬ (kk=4∨kk=5)->decRec b=if !e2&&l2.isEmpty&&okRec ⟨kk,n,ent0,0,0,0⟩ then some ⟨kk,n,ent0,0,0,0⟩ else none):=by
 subst hk
 refine⟨fun h bs l3 e3 h3=>⟨fun hn=>?_,fun e he=>?_⟩,fun h br li se l5 e5 h5=>?_,fun h h'=>?_⟩
 · unfold decRec rdRec
   simp only[h1,h2,h,if_true,h3,hn]
   rfl
 · unfold decRec rdRec
   simp only[h1,h2,h,if_true,h3,he]
 · have hn:¬ (min k 6=2∨min k 6=3):=by omega
   simp only[rdId,Prod.mk.injEq] at h5
   obtain⟨⟨rfl,rfl,rfl⟩,h5⟩:=h5
   unfold decRec rdRec
   simp only[h1,h2,hn,if_false,h,if_true,h5]
 · unfold decRec rdRec
   simp only[h1,h2,h,h',if_false]
theorem Unpack_calls (b:List UInt8) (v:Value) (w:World) (h:sl b v w) (hn:b.length<=1000000000) :
 Calls Tryz.prog 163 #[v] w fun e w' =>
  ∃ v',e=.returned (.tuple #[v',.int .i64 (decRecC b)])/\(∀ W,UpB w.heap.size none w' W->rcd (decRecX b) v' W)/\K w w':=by
 obtain⟨A,c,rfl,hR⟩:=h
 have hr0:=Blk.new w 219 zRec
 have k0:K w (w.alloc (.cells zRec 219)):=(K.rf w).al _
 have hR0:=(hR.below k0 (Nat.le_refl _)).more k0.size
 obtain⟨k,l1,e1,hA1⟩:∃ k l1 e1,rdN b false=(k,l1,e1):=⟨_,_,_,rfl⟩
 obtain⟨n,l2,e2,hA2⟩:∃ k l2 e2,rdN l1 e1=(k,l2,e2):=⟨_,_,_,rfl⟩
 have hk6:min k 6<=6:=by omega
 have C1:=fun g W h=>Small_calls g b false 6 W h (by omega)
 have C2:=fun g W h=>RNumber_calls g l1 e1 W h
 have HP:=decRec_parts b k n l1 l2 e1 e2 hA1 hA2
 have hl2:l2.length<=b.length:=by
  have g1:=rdN_len b false
  have g2:=rdN_len l1 e1
  rw[hA1] at g1;rw[hA2] at g2
  simp only at g1 g2
  omega
 simp only[hA1,hA2] at C1 C2
 clear hA1 hA2
 generalize hkk:min k 6=kk at *
 replace HP:=Lib.hid (HP kk rfl)
 replace C1:=Lib.hid C1
 replace C2:=Lib.hid C2
 clear hkk
 go_enter Tryz.func163,Tryz.ntmps163
 go_wp2_with fail
 generalize w.alloc _=w1 at *
 refine (New_calls A _ c b w1 _ hR0 (Nat.le_refl _) hn).mono ?_
 rintro e w2 ⟨g,rfl,hg,hn2,k2⟩
 have hr2:=hr0.below k2 hr0.lt
 have hrg:w.heap.size<g:=Nat.lt_of_lt_of_le hr0.lt hg
 replace k0:=k0.tr k2
 clear hR hR0 hg k2 hr0
 go_wp2_with fail
 refine (C1.out g w2 hn2).mono ?_
 rintro e w3 ⟨rfl,hw3⟩
 have hr3:=hr2.went hw3 (by omega)
 have k3:K w w3:=k0.trans (below_of_mut hw3.2 (by omega) k0.size)
 have hn3:=hw3.1
 have hgl3:=hn3.lt
 clear hn2 hr2 hw3 k0
 go_wp2_with fail
 have D:DS w 219 zRec w.heap.size g w3.heap.size l1 e1 #[.int .i64 (kk:Int),.int .u64 0,.int .i64 0,.int .i64 0,.int .u64 0,.int .u64 0,.int .i64 0,.int .u64 0,.slice none 0 0,.slice none 0 0,.int .i64 0,.int .u64 0,.int .u64 0] (w3.alloc (.cells #[.int .i64 (kk:Int),.int .u64 0,.int .i64 0,.int .i64 0,.int .u64 0,.int .u64 0,.int .i64 0,.int .u64 0,.slice none 0 0,.slice none 0 0,.int .i64 0,.int .u64 0,.int .u64 0] 219)) :=
  ⟨hn3.al _,Blk.new _ _ _,hr3.alloc _,k3.al _,Nat.le_refl _,hrg,hgl3⟩
 clear hn3 hr3 k3 hgl3 hrg
 generalize w3.alloc _=w4 at *
 generalize w3.heap.size=h at *
 refine (C2.out g w4 D.rd).mono ?_
 rintro e w5 ⟨rfl,hw5⟩
 replace D:=D.went hw5
 clear hw5
 have q:=D.x.cell
 have z:=D.x.frozen
 go_upto_region 4 with (fail)
 replace D:DS w 219 zRec w.heap.size g h l2 e2 #[.int .i64 (kk:Int),.int .u64 (n:Int),.int .i64 0,.int .i64 0,.int .u64 0,.int .u64 0,.int .i64 0,.int .u64 0,.slice none 0 0,.slice none 0 0,.int .i64 0,.int .u64 0,.int .u64 0] (w5.setCell ⟨h,1,none⟩ (.int .u64 (n:Int))):=D.set 1 (.int .u64 (n:Int))
 clear q z C1 C2
 generalize w5.setCell _ _=wa at *
 have hgh:=D.o
 have hha:=D.x.lt
 have hb63:((b.length:Nat):Int)<=9223372036854775807:=by omega
 have q:=D.x.cell
 go_upto_block 0 with (fail)
 go_cut [6,7] from 18 to 39 (fun _ _ W=>∃ (X:Rec) (l:List UInt8) (e:Bool) (vf ve:Value),DS w 219 zRec w.heap.size g h l e (recA X vf ve) W /\
  (∀ W',UpB (h+1) none W W'->flt X.e.f vf W')/\(∀ W',UpB (h+1) none W W'->lst evS X.e.es ve W')/\Hid (decRec b=if !e&&l.isEmpty&&okRec X then some X else none))
 case first =>
  by_cases hk2:kk=2
  · subst hk2
    replace D:DS w 219 zRec w.heap.size g h l2 e2 #[.int .i64 2,.int .u64 (n:Int),.int .i64 0,.int .i64 0,.int .u64 0,.int .u64 0,.int .i64 0,.int .u64 0,.slice none 0 0,.slice none 0 0,.int .i64 0,.int .u64 0,.int .u64 0] wa:=D
    replace HP:=Lib.hid (HP.out.1 (by decide))
    simp only[show ((2:Nat):Int)=2 from rfl] at HP
    go_wp2_with fail
    clear q
    refine (RBytes_sl g l2 e2 (b.length:Int) wa D.rd (by omega) (by omega) hb63).mono ?_
    rintro e wc ⟨vb,rfl,hsb,hwc⟩
    replace D:=D.went hwc
    have hlb:=rdB_most (b.length:Int) l2 e2
    obtain⟨bs,l3,e3,hB⟩:∃ bs l3 e3,rdB (b.length:Int) l2 e2=(bs,l3,e3):=⟨_,_,_,rfl⟩
    have HQ:=Lib.hid (HP.out bs l3 e3 hB)
    rw[hB] at hsb D hlb
    simp only at hsb D hlb
    clear hwc hB HP
    have hgc:=D.x.lt
    go_wp2_with fail
    refine (NDecode_calls bs _ _ hsb (by omega)).mono ?_
    rintro e wd ⟨v9,rfl,hen,k9⟩
    replace D:=D.gr k9
    clear hsb
    obtain⟨vf,ve,rfl,hf9,he9⟩:=hen _ (UpB.rf _ _ _)
    obtain⟨A6,c6,rfl⟩:=flt_slice hf9
    obtain⟨A7,c7,rfl⟩:=lst_slice he9
    clear hf9 he9
    have HEN:=Lib.hid hen
    clear hen
    have hx:=Blk.new wd 42 (entA (decEnX bs) (.slice A6 (decEnX bs).f.length c6) (.slice A7 (decEnX bs).es.length c7))
    have kE:K wd (wd.alloc (.cells (entA (decEnX bs) (.slice A6 (decEnX bs).f.length c6) (.slice A7 (decEnX bs).es.length c7)) 42)):=(K.rf wd).al _
    have DE:=D.gr kE
    cases hde:decEn bs with
    | none =>
      have hd2:=decEn_none hde
      have HN:=Lib.hid (decRec_none (HQ.out.1 hde))
      rw[hd2.1]
      clear hde hd2
      have q:=DE.rv.cell
      have z:=DE.rv.frozen
      go_upto_region 9 with (fail)
      generalize wd.alloc _=we at *
      clear D
      have D:=DE
      clear DE
      go_wp2
      have K9:=(K.set (K.set (K.set (K.set (K.set (K.set (K.set (K.set (K.set (K.set (K.set (K.set (K.set D.k (Nat.le_refl _) 0 (.int .i64 0)) (Nat.le_refl _) 1 (.int .u64 0)) (Nat.le_refl _) 2 (.int .i64 0)) (Nat.le_refl _) 3 (.int .i64 0)) (Nat.le_refl _) 4 (.int .u64 0)) (Nat.le_refl _) 5 (.int .u64 0)) (Nat.le_refl _) 6 (.int .i64 0)) (Nat.le_refl _) 7 (.int .u64 0)) (Nat.le_refl _) 8 (.slice none 0 0)) (Nat.le_refl _) 9 (.slice none 0 0)) (Nat.le_refl _) 10 (.int .i64 0)) (Nat.le_refl _) 11 (.int .u64 0)) (Nat.le_refl _) 12 (.int .u64 0))
      clear q z
      have hr9:Blk (World.setCell _ _ _) w.heap.size 219 #[.int .i64 0,.int .u64 0,.int .i64 0,.int .i64 0,.int .u64 0,.int .u64 0,.int .i64 0,.int .u64 0,.slice none 0 0,.slice none 0 0,.int .i64 0,.int .u64 0,.int .u64 0]:=(D.rv).set_ 0 (.int .i64 0)
      have hr9:Blk (World.setCell (World.setCell _ _ _) _ _) w.heap.size 219 #[.int .i64 0,.int .u64 0,.int .i64 0,.int .i64 0,.int .u64 0,.int .u64 0,.int .i64 0,.int .u64 0,.slice none 0 0,.slice none 0 0,.int .i64 0,.int .u64 0,.int .u64 0]:=(hr9).set_ 1 (.int .u64 0)
      have hr9:Blk (World.setCell (World.setCell (World.setCell _ _ _) _ _) _ _) w.heap.size 219 #[.int .i64 0,.int .u64 0,.int .i64 0,.int .i64 0,.int .u64 0,.int .u64 0,.int .i64 0,.int .u64 0,.slice none 0 0,.slice none 0 0,.int .i64 0,.int .u64 0,.int .u64 0]:=(hr9).set_ 2 (.int .i64 0)
      have hr9:Blk (World.setCell (World.setCell (World.setCell (World.setCell _ _ _) _ _) _ _) _ _) w.heap.size 219 #[.int .i64 0,.int .u64 0,.int .i64 0,.int .i64 0,.int .u64 0,.int .u64 0,.int .i64 0,.int .u64 0,.slice none 0 0,.slice none 0 0,.int .i64 0,.int .u64 0,.int .u64 0]:=(hr9).set_ 3 (.int .i64 0)
      have hr9:Blk (World.setCell (World.setCell (World.setCell (World.setCell (World.setCell _ _ _) _ _) _ _) _ _) _ _) w.heap.size 219 #[.int .i64 0,.int .u64 0,.int .i64 0,.int .i64 0,.int .u64 0,.int .u64 0,.int .i64 0,.int .u64 0,.slice none 0 0,.slice none 0 0,.int .i64 0,.int .u64 0,.int .u64 0]:=(hr9).set_ 4 (.int .u64 0)
      have hr9:Blk (World.setCell (World.setCell (World.setCell (World.setCell (World.setCell (World.setCell _ _ _) _ _) _ _) _ _) _ _) _ _) w.heap.size 219 #[.int .i64 0,.int .u64 0,.int .i64 0,.int .i64 0,.int .u64 0,.int .u64 0,.int .i64 0,.int .u64 0,.slice none 0 0,.slice none 0 0,.int .i64 0,.int .u64 0,.int .u64 0]:=(hr9).set_ 5 (.int .u64 0)
      have hr9:Blk (World.setCell (World.setCell (World.setCell (World.setCell (World.setCell (World.setCell (World.setCell _ _ _) _ _) _ _) _ _) _ _) _ _) _ _) w.heap.size 219 #[.int .i64 0,.int .u64 0,.int .i64 0,.int .i64 0,.int .u64 0,.int .u64 0,.int .i64 0,.int .u64 0,.slice none 0 0,.slice none 0 0,.int .i64 0,.int .u64 0,.int .u64 0]:=(hr9).set_ 6 (.int .i64 0)
      have hr9:Blk (World.setCell (World.setCell (World.setCell (World.setCell (World.setCell (World.setCell (World.setCell (World.setCell _ _ _) _ _) _ _) _ _) _ _) _ _) _ _) _ _) w.heap.size 219 #[.int .i64 0,.int .u64 0,.int .i64 0,.int .i64 0,.int .u64 0,.int .u64 0,.int .i64 0,.int .u64 0,.slice none 0 0,.slice none 0 0,.int .i64 0,.int .u64 0,.int .u64 0]:=(hr9).set_ 7 (.int .u64 0)
      have hr9:Blk (World.setCell (World.setCell (World.setCell (World.setCell (World.setCell (World.setCell (World.setCell (World.setCell (World.setCell _ _ _) _ _) _ _) _ _) _ _) _ _) _ _) _ _) _ _) w.heap.size 219 #[.int .i64 0,.int .u64 0,.int .i64 0,.int .i64 0,.int .u64 0,.int .u64 0,.int .i64 0,.int .u64 0,.slice none 0 0,.slice none 0 0,.int .i64 0,.int .u64 0,.int .u64 0]:=(hr9).set_ 8 (.slice none 0 0)
      have hr9:Blk (World.setCell (World.setCell (World.setCell (World.setCell (World.setCell (World.setCell (World.setCell (World.setCell (World.setCell (World.setCell _ _ _) _ _) _ _) _ _) _ _) _ _) _ _) _ _) _ _) _ _) w.heap.size 219 #[.int .i64 0,.int .u64 0,.int .i64 0,.int .i64 0,.int .u64 0,.int .u64 0,.int .i64 0,.int .u64 0,.slice none 0 0,.slice none 0 0,.int .i64 0,.int .u64 0,.int .u64 0]:=(hr9).set_ 9 (.slice none 0 0)
      have hr9:Blk (World.setCell (World.setCell (World.setCell (World.setCell (World.setCell (World.setCell (World.setCell (World.setCell (World.setCell (World.setCell (World.setCell _ _ _) _ _) _ _) _ _) _ _) _ _) _ _) _ _) _ _) _ _) _ _) w.heap.size 219 #[.int .i64 0,.int .u64 0,.int .i64 0,.int .i64 0,.int .u64 0,.int .u64 0,.int .i64 0,.int .u64 0,.slice none 0 0,.slice none 0 0,.int .i64 0,.int .u64 0,.int .u64 0]:=(hr9).set_ 10 (.int .i64 0)
      have hr9:Blk (World.setCell (World.setCell (World.setCell (World.setCell (World.setCell (World.setCell (World.setCell (World.setCell (World.setCell (World.setCell (World.setCell (World.setCell _ _ _) _ _) _ _) _ _) _ _) _ _) _ _) _ _) _ _) _ _) _ _) _ _) w.heap.size 219 #[.int .i64 0,.int .u64 0,.int .i64 0,.int .i64 0,.int .u64 0,.int .u64 0,.int .i64 0,.int .u64 0,.slice none 0 0,.slice none 0 0,.int .i64 0,.int .u64 0,.int .u64 0]:=(hr9).set_ 11 (.int .u64 0)
      have hr9:Blk (World.setCell (World.setCell (World.setCell (World.setCell (World.setCell (World.setCell (World.setCell (World.setCell (World.setCell (World.setCell (World.setCell (World.setCell (World.setCell _ _ _) _ _) _ _) _ _) _ _) _ _) _ _) _ _) _ _) _ _) _ _) _ _) _ _) w.heap.size 219 #[.int .i64 0,.int .u64 0,.int .i64 0,.int .i64 0,.int .u64 0,.int .u64 0,.int .i64 0,.int .u64 0,.slice none 0 0,.slice none 0 0,.int .i64 0,.int .u64 0,.int .u64 0]:=(hr9).set_ 12 (.int .u64 0)
      generalize (World.setCell (World.setCell (World.setCell (World.setCell (World.setCell (World.setCell (World.setCell (World.setCell (World.setCell (World.setCell (World.setCell (World.setCell (World.setCell _ _ _) _ _) _ _) _ _) _ _) _ _) _ _) _ _) _ _) _ _) _ _) _ _) _ _)=W9 at *
      have e9:=hr9.cell
      refine bodyPost_ret (v:=.tuple #[.agg zRec,.int .i64 110]) (by simp[results,Tryz.results163,go_sem,e9]) rfl ?_
      exact⟨.agg zRec,by rw[HN.out.1],by rw[HN.out.2];exact fun _ _=>rcd_zero _,K9⟩
    | some en =>
      have hd2:=decEn_some hde
      rw[hd2.2] at hx kE DE HEN
      rw[hd2.1,hd2.2]
      have HD:=Lib.hid (HQ.out.2 en hde)
      clear hde hd2 HQ D
      go_upto_region 10 with (fail)
      have hgE:wd.heap.size<(wd.alloc (.cells (entA en (.slice A6 en.f.length c6) (.slice A7 en.es.length c7)) 42)).heap.size:=by simp
      generalize wd.alloc _=we at *
      have D:=DE
      clear DE
      have q2:=hx.cell
      have q:=D.x.cell
      have z:=D.x.frozen
      go_wp2
      replace D:DS w 219 zRec w.heap.size g h l3 e3 #[.int .i64 2,.int .u64 (n:Int),.int .i64 en.kind,.int .i64 0,.int .u64 0,.int .u64 0,.int .i64 0,.int .u64 0,.slice none 0 0,.slice none 0 0,.int .i64 0,.int .u64 0,.int .u64 0] (we.setCell ⟨h,2,none⟩ (.int .i64 en.kind)):=D.set 2 (.int .i64 en.kind)
      replace D:DS w 219 zRec w.heap.size g h l3 e3 #[.int .i64 2,.int .u64 (n:Int),.int .i64 en.kind,.int .i64 en.br,.int .u64 0,.int .u64 0,.int .i64 0,.int .u64 0,.slice none 0 0,.slice none 0 0,.int .i64 0,.int .u64 0,.int .u64 0] ((we.setCell ⟨h,2,none⟩ (.int .i64 en.kind)).setCell ⟨h,3,none⟩ (.int .i64 en.br)):=D.set 3 (.int .i64 en.br)
      replace D:DS w 219 zRec w.heap.size g h l3 e3 #[.int .i64 2,.int .u64 (n:Int),.int .i64 en.kind,.int .i64 en.br,.int .u64 (en.life:Int),.int .u64 0,.int .i64 0,.int .u64 0,.slice none 0 0,.slice none 0 0,.int .i64 0,.int .u64 0,.int .u64 0] (((we.setCell ⟨h,2,none⟩ (.int .i64 en.kind)).setCell ⟨h,3,none⟩ (.int .i64 en.br)).setCell ⟨h,4,none⟩ (.int .u64 (en.life:Int))):=D.set 4 (.int .u64 (en.life:Int))
      replace D:DS w 219 zRec w.heap.size g h l3 e3 #[.int .i64 2,.int .u64 (n:Int),.int .i64 en.kind,.int .i64 en.br,.int .u64 (en.life:Int),.int .u64 (en.ser:Int),.int .i64 0,.int .u64 0,.slice none 0 0,.slice none 0 0,.int .i64 0,.int .u64 0,.int .u64 0] ((((we.setCell ⟨h,2,none⟩ (.int .i64 en.kind)).setCell ⟨h,3,none⟩ (.int .i64 en.br)).setCell ⟨h,4,none⟩ (.int .u64 (en.life:Int))).setCell ⟨h,5,none⟩ (.int .u64 (en.ser:Int))):=D.set 5 (.int .u64 (en.ser:Int))
      replace D:DS w 219 zRec w.heap.size g h l3 e3 #[.int .i64 2,.int .u64 (n:Int),.int .i64 en.kind,.int .i64 en.br,.int .u64 (en.life:Int),.int .u64 (en.ser:Int),.int .i64 en.cl,.int .u64 0,.slice none 0 0,.slice none 0 0,.int .i64 0,.int .u64 0,.int .u64 0] (((((we.setCell ⟨h,2,none⟩ (.int .i64 en.kind)).setCell ⟨h,3,none⟩ (.int .i64 en.br)).setCell ⟨h,4,none⟩ (.int .u64 (en.life:Int))).setCell ⟨h,5,none⟩ (.int .u64 (en.ser:Int))).setCell ⟨h,6,none⟩ (.int .i64 en.cl)):=D.set 6 (.int .i64 en.cl)
      replace D:DS w 219 zRec w.heap.size g h l3 e3 #[.int .i64 2,.int .u64 (n:Int),.int .i64 en.kind,.int .i64 en.br,.int .u64 (en.life:Int),.int .u64 (en.ser:Int),.int .i64 en.cl,.int .u64 (en.sub:Int),.slice none 0 0,.slice none 0 0,.int .i64 0,.int .u64 0,.int .u64 0] ((((((we.setCell ⟨h,2,none⟩ (.int .i64 en.kind)).setCell ⟨h,3,none⟩ (.int .i64 en.br)).setCell ⟨h,4,none⟩ (.int .u64 (en.life:Int))).setCell ⟨h,5,none⟩ (.int .u64 (en.ser:Int))).setCell ⟨h,6,none⟩ (.int .i64 en.cl)).setCell ⟨h,7,none⟩ (.int .u64 (en.sub:Int))):=D.set 7 (.int .u64 (en.sub:Int))
      replace D:DS w 219 zRec w.heap.size g h l3 e3 #[.int .i64 2,.int .u64 (n:Int),.int .i64 en.kind,.int .i64 en.br,.int .u64 (en.life:Int),.int .u64 (en.ser:Int),.int .i64 en.cl,.int .u64 (en.sub:Int),.slice A6 en.f.length c6,.slice none 0 0,.int .i64 0,.int .u64 0,.int .u64 0] (((((((we.setCell ⟨h,2,none⟩ (.int .i64 en.kind)).setCell ⟨h,3,none⟩ (.int .i64 en.br)).setCell ⟨h,4,none⟩ (.int .u64 (en.life:Int))).setCell ⟨h,5,none⟩ (.int .u64 (en.ser:Int))).setCell ⟨h,6,none⟩ (.int .i64 en.cl)).setCell ⟨h,7,none⟩ (.int .u64 (en.sub:Int))).setCell ⟨h,8,none⟩ (.slice A6 en.f.length c6)):=D.set 8 (.slice A6 en.f.length c6)
      replace D:DS w 219 zRec w.heap.size g h l3 e3 #[.int .i64 2,.int .u64 (n:Int),.int .i64 en.kind,.int .i64 en.br,.int .u64 (en.life:Int),.int .u64 (en.ser:Int),.int .i64 en.cl,.int .u64 (en.sub:Int),.slice A6 en.f.length c6,.slice A7 en.es.length c7,.int .i64 0,.int .u64 0,.int .u64 0] ((((((((we.setCell ⟨h,2,none⟩ (.int .i64 en.kind)).setCell ⟨h,3,none⟩ (.int .i64 en.br)).setCell ⟨h,4,none⟩ (.int .u64 (en.life:Int))).setCell ⟨h,5,none⟩ (.int .u64 (en.ser:Int))).setCell ⟨h,6,none⟩ (.int .i64 en.cl)).setCell ⟨h,7,none⟩ (.int .u64 (en.sub:Int))).setCell ⟨h,8,none⟩ (.slice A6 en.f.length c6)).setCell ⟨h,9,none⟩ (.slice A7 en.es.length c7)):=D.set 9 (.slice A7 en.es.length c7)
      have UX:UpB (h+1) none wd ((((((((we.setCell ⟨h,2,none⟩ (.int .i64 en.kind)).setCell ⟨h,3,none⟩ (.int .i64 en.br)).setCell ⟨h,4,none⟩ (.int .u64 (en.life:Int))).setCell ⟨h,5,none⟩ (.int .u64 (en.ser:Int))).setCell ⟨h,6,none⟩ (.int .i64 en.cl)).setCell ⟨h,7,none⟩ (.int .u64 (en.sub:Int))).setCell ⟨h,8,none⟩ (.slice A6 en.f.length c6)).setCell ⟨h,9,none⟩ (.slice A7 en.es.length c7)):=(((((((((((((((((UpB.of_k kE _ _)).tr (UpB.set (b:=h) (by omega) 2 (.int .i64 en.kind)))).tr (UpB.set (b:=h) (by omega) 3 (.int .i64 en.br)))).tr (UpB.set (b:=h) (by omega) 4 (.int .u64 (en.life:Int))))).tr (UpB.set (b:=h) (by omega) 5 (.int .u64 (en.ser:Int))))).tr (UpB.set (b:=h) (by omega) 6 (.int .i64 en.cl)))).tr (UpB.set (b:=h) (by omega) 7 (.int .u64 (en.sub:Int))))).tr (UpB.set (b:=h) (by omega) 8 (.slice A6 en.f.length c6)))).tr (UpB.set (b:=h) (by omega) 9 (.slice A7 en.es.length c7)))
      have HEN2:Hid (∀ W',UpB (h+1) none wd W'->ent en (.agg (entA en (.slice A6 en.f.length c6) (.slice A7 en.es.length c7))) W'):=Lib.hid fun W' u=>HEN.out W' (u.more (by omega) (fun _ _ _=>by simp))
      clear q q2 z HEN hx
      generalize World.setCell (World.setCell (World.setCell (World.setCell (World.setCell (World.setCell (World.setCell (World.setCell _ _ _) _ _) _ _) _ _) _ _) _ _) _ _) _ _=wt at *
      have HF:∀ W',UpB (h+1) none wt W'->flt en.f (.slice A6 en.f.length c6) W':=fun W' u=>by
       obtain⟨_,_,he,h1,_⟩:=HEN2.out _ (UX.tr u);simp at he;rw[he.1];exact h1
      have HE:∀ W',UpB (h+1) none wt W'->lst evS en.es (.slice A7 en.es.length c7) W':=fun W' u=>by
       obtain⟨_,_,he,_,h1⟩:=HEN2.out _ (UX.tr u);simp at he;rw[he.2];exact h1
      go_wp2
      go_meet
      case rel=>exact⟨(⟨2,n,en,0,0,0⟩:Rec),l3,e3,.slice A6 en.f.length c6,.slice A7 en.es.length c7,D,HF,HE,HD⟩
  by_cases hk3:kk=3
  · subst hk3
    replace D:DS w 219 zRec w.heap.size g h l2 e2 #[.int .i64 3,.int .u64 (n:Int),.int .i64 0,.int .i64 0,.int .u64 0,.int .u64 0,.int .i64 0,.int .u64 0,.slice none 0 0,.slice none 0 0,.int .i64 0,.int .u64 0,.int .u64 0] wa:=D
    replace HP:=Lib.hid (HP.out.1 (by decide))
    simp only[show ((3:Nat):Int)=3 from rfl] at HP
    go_wp2_with fail
    clear q
    refine (RBytes_sl g l2 e2 (b.length:Int) wa D.rd (by omega) (by omega) hb63).mono ?_
    rintro e wc ⟨vb,rfl,hsb,hwc⟩
    replace D:=D.went hwc
    have hlb:=rdB_most (b.length:Int) l2 e2
    obtain⟨bs,l3,e3,hB⟩:∃ bs l3 e3,rdB (b.length:Int) l2 e2=(bs,l3,e3):=⟨_,_,_,rfl⟩
    have HQ:=Lib.hid (HP.out bs l3 e3 hB)
    rw[hB] at hsb D hlb
    simp only at hsb D hlb
    clear hwc hB HP
    have hgc:=D.x.lt
    go_wp2_with fail
    refine (NDecode_calls bs _ _ hsb (by omega)).mono ?_
    rintro e wd ⟨v9,rfl,hen,k9⟩
    replace D:=D.gr k9
    clear hsb
    obtain⟨vf,ve,rfl,hf9,he9⟩:=hen _ (UpB.rf _ _ _)
    obtain⟨A6,c6,rfl⟩:=flt_slice hf9
    obtain⟨A7,c7,rfl⟩:=lst_slice he9
    clear hf9 he9
    have HEN:=Lib.hid hen
    clear hen
    have hx:=Blk.new wd 42 (entA (decEnX bs) (.slice A6 (decEnX bs).f.length c6) (.slice A7 (decEnX bs).es.length c7))
    have kE:K wd (wd.alloc (.cells (entA (decEnX bs) (.slice A6 (decEnX bs).f.length c6) (.slice A7 (decEnX bs).es.length c7)) 42)):=(K.rf wd).al _
    have DE:=D.gr kE
    cases hde:decEn bs with
    | none =>
      have hd2:=decEn_none hde
      have HN:=Lib.hid (decRec_none (HQ.out.1 hde))
      rw[hd2.1]
      clear hde hd2
      have q:=DE.rv.cell
      have z:=DE.rv.frozen
      go_upto_region 9 with (fail)
      generalize wd.alloc _=we at *
      clear D
      have D:=DE
      clear DE
      go_wp2
      have K9:=(K.set (K.set (K.set (K.set (K.set (K.set (K.set (K.set (K.set (K.set (K.set (K.set (K.set D.k (Nat.le_refl _) 0 (.int .i64 0)) (Nat.le_refl _) 1 (.int .u64 0)) (Nat.le_refl _) 2 (.int .i64 0)) (Nat.le_refl _) 3 (.int .i64 0)) (Nat.le_refl _) 4 (.int .u64 0)) (Nat.le_refl _) 5 (.int .u64 0)) (Nat.le_refl _) 6 (.int .i64 0)) (Nat.le_refl _) 7 (.int .u64 0)) (Nat.le_refl _) 8 (.slice none 0 0)) (Nat.le_refl _) 9 (.slice none 0 0)) (Nat.le_refl _) 10 (.int .i64 0)) (Nat.le_refl _) 11 (.int .u64 0)) (Nat.le_refl _) 12 (.int .u64 0))
      clear q z
      have hr9:Blk (World.setCell _ _ _) w.heap.size 219 #[.int .i64 0,.int .u64 0,.int .i64 0,.int .i64 0,.int .u64 0,.int .u64 0,.int .i64 0,.int .u64 0,.slice none 0 0,.slice none 0 0,.int .i64 0,.int .u64 0,.int .u64 0]:=(D.rv).set_ 0 (.int .i64 0)
      have hr9:Blk (World.setCell (World.setCell _ _ _) _ _) w.heap.size 219 #[.int .i64 0,.int .u64 0,.int .i64 0,.int .i64 0,.int .u64 0,.int .u64 0,.int .i64 0,.int .u64 0,.slice none 0 0,.slice none 0 0,.int .i64 0,.int .u64 0,.int .u64 0]:=(hr9).set_ 1 (.int .u64 0)
      have hr9:Blk (World.setCell (World.setCell (World.setCell _ _ _) _ _) _ _) w.heap.size 219 #[.int .i64 0,.int .u64 0,.int .i64 0,.int .i64 0,.int .u64 0,.int .u64 0,.int .i64 0,.int .u64 0,.slice none 0 0,.slice none 0 0,.int .i64 0,.int .u64 0,.int .u64 0]:=(hr9).set_ 2 (.int .i64 0)
      have hr9:Blk (World.setCell (World.setCell (World.setCell (World.setCell _ _ _) _ _) _ _) _ _) w.heap.size 219 #[.int .i64 0,.int .u64 0,.int .i64 0,.int .i64 0,.int .u64 0,.int .u64 0,.int .i64 0,.int .u64 0,.slice none 0 0,.slice none 0 0,.int .i64 0,.int .u64 0,.int .u64 0]:=(hr9).set_ 3 (.int .i64 0)
      have hr9:Blk (World.setCell (World.setCell (World.setCell (World.setCell (World.setCell _ _ _) _ _) _ _) _ _) _ _) w.heap.size 219 #[.int .i64 0,.int .u64 0,.int .i64 0,.int .i64 0,.int .u64 0,.int .u64 0,.int .i64 0,.int .u64 0,.slice none 0 0,.slice none 0 0,.int .i64 0,.int .u64 0,.int .u64 0]:=(hr9).set_ 4 (.int .u64 0)
      have hr9:Blk (World.setCell (World.setCell (World.setCell (World.setCell (World.setCell (World.setCell _ _ _) _ _) _ _) _ _) _ _) _ _) w.heap.size 219 #[.int .i64 0,.int .u64 0,.int .i64 0,.int .i64 0,.int .u64 0,.int .u64 0,.int .i64 0,.int .u64 0,.slice none 0 0,.slice none 0 0,.int .i64 0,.int .u64 0,.int .u64 0]:=(hr9).set_ 5 (.int .u64 0)
      have hr9:Blk (World.setCell (World.setCell (World.setCell (World.setCell (World.setCell (World.setCell (World.setCell _ _ _) _ _) _ _) _ _) _ _) _ _) _ _) w.heap.size 219 #[.int .i64 0,.int .u64 0,.int .i64 0,.int .i64 0,.int .u64 0,.int .u64 0,.int .i64 0,.int .u64 0,.slice none 0 0,.slice none 0 0,.int .i64 0,.int .u64 0,.int .u64 0]:=(hr9).set_ 6 (.int .i64 0)
      have hr9:Blk (World.setCell (World.setCell (World.setCell (World.setCell (World.setCell (World.setCell (World.setCell (World.setCell _ _ _) _ _) _ _) _ _) _ _) _ _) _ _) _ _) w.heap.size 219 #[.int .i64 0,.int .u64 0,.int .i64 0,.int .i64 0,.int .u64 0,.int .u64 0,.int .i64 0,.int .u64 0,.slice none 0 0,.slice none 0 0,.int .i64 0,.int .u64 0,.int .u64 0]:=(hr9).set_ 7 (.int .u64 0)
      have hr9:Blk (World.setCell (World.setCell (World.setCell (World.setCell (World.setCell (World.setCell (World.setCell (World.setCell (World.setCell _ _ _) _ _) _ _) _ _) _ _) _ _) _ _) _ _) _ _) w.heap.size 219 #[.int .i64 0,.int .u64 0,.int .i64 0,.int .i64 0,.int .u64 0,.int .u64 0,.int .i64 0,.int .u64 0,.slice none 0 0,.slice none 0 0,.int .i64 0,.int .u64 0,.int .u64 0]:=(hr9).set_ 8 (.slice none 0 0)
      have hr9:Blk (World.setCell (World.setCell (World.setCell (World.setCell (World.setCell (World.setCell (World.setCell (World.setCell (World.setCell (World.setCell _ _ _) _ _) _ _) _ _) _ _) _ _) _ _) _ _) _ _) _ _) w.heap.size 219 #[.int .i64 0,.int .u64 0,.int .i64 0,.int .i64 0,.int .u64 0,.int .u64 0,.int .i64 0,.int .u64 0,.slice none 0 0,.slice none 0 0,.int .i64 0,.int .u64 0,.int .u64 0]:=(hr9).set_ 9 (.slice none 0 0)
      have hr9:Blk (World.setCell (World.setCell (World.setCell (World.setCell (World.setCell (World.setCell (World.setCell (World.setCell (World.setCell (World.setCell (World.setCell _ _ _) _ _) _ _) _ _) _ _) _ _) _ _) _ _) _ _) _ _) _ _) w.heap.size 219 #[.int .i64 0,.int .u64 0,.int .i64 0,.int .i64 0,.int .u64 0,.int .u64 0,.int .i64 0,.int .u64 0,.slice none 0 0,.slice none 0 0,.int .i64 0,.int .u64 0,.int .u64 0]:=(hr9).set_ 10 (.int .i64 0)
      have hr9:Blk (World.setCell (World.setCell (World.setCell (World.setCell (World.setCell (World.setCell (World.setCell (World.setCell (World.setCell (World.setCell (World.setCell (World.setCell _ _ _) _ _) _ _) _ _) _ _) _ _) _ _) _ _) _ _) _ _) _ _) _ _) w.heap.size 219 #[.int .i64 0,.int .u64 0,.int .i64 0,.int .i64 0,.int .u64 0,.int .u64 0,.int .i64 0,.int .u64 0,.slice none 0 0,.slice none 0 0,.int .i64 0,.int .u64 0,.int .u64 0]:=(hr9).set_ 11 (.int .u64 0)
      have hr9:Blk (World.setCell (World.setCell (World.setCell (World.setCell (World.setCell (World.setCell (World.setCell (World.setCell (World.setCell (World.setCell (World.setCell (World.setCell (World.setCell _ _ _) _ _) _ _) _ _) _ _) _ _) _ _) _ _) _ _) _ _) _ _) _ _) _ _) w.heap.size 219 #[.int .i64 0,.int .u64 0,.int .i64 0,.int .i64 0,.int .u64 0,.int .u64 0,.int .i64 0,.int .u64 0,.slice none 0 0,.slice none 0 0,.int .i64 0,.int .u64 0,.int .u64 0]:=(hr9).set_ 12 (.int .u64 0)
      generalize (World.setCell (World.setCell (World.setCell (World.setCell (World.setCell (World.setCell (World.setCell (World.setCell (World.setCell (World.setCell (World.setCell (World.setCell (World.setCell _ _ _) _ _) _ _) _ _) _ _) _ _) _ _) _ _) _ _) _ _) _ _) _ _) _ _)=W9 at *
      have e9:=hr9.cell
      refine bodyPost_ret (v:=.tuple #[.agg zRec,.int .i64 110]) (by simp[results,Tryz.results163,go_sem,e9]) rfl ?_
      exact⟨.agg zRec,by rw[HN.out.1],by rw[HN.out.2];exact fun _ _=>rcd_zero _,K9⟩
    | some en =>
      have hd2:=decEn_some hde
      rw[hd2.2] at hx kE DE HEN
      rw[hd2.1,hd2.2]
      have HD:=Lib.hid (HQ.out.2 en hde)
      clear hde hd2 HQ D
      go_upto_region 10 with (fail)
      have hgE:wd.heap.size<(wd.alloc (.cells (entA en (.slice A6 en.f.length c6) (.slice A7 en.es.length c7)) 42)).heap.size:=by simp
      generalize wd.alloc _=we at *
      have D:=DE
      clear DE
      have q2:=hx.cell
      have q:=D.x.cell
      have z:=D.x.frozen
      go_wp2
      replace D:DS w 219 zRec w.heap.size g h l3 e3 #[.int .i64 3,.int .u64 (n:Int),.int .i64 en.kind,.int .i64 0,.int .u64 0,.int .u64 0,.int .i64 0,.int .u64 0,.slice none 0 0,.slice none 0 0,.int .i64 0,.int .u64 0,.int .u64 0] (we.setCell ⟨h,2,none⟩ (.int .i64 en.kind)):=D.set 2 (.int .i64 en.kind)
      replace D:DS w 219 zRec w.heap.size g h l3 e3 #[.int .i64 3,.int .u64 (n:Int),.int .i64 en.kind,.int .i64 en.br,.int .u64 0,.int .u64 0,.int .i64 0,.int .u64 0,.slice none 0 0,.slice none 0 0,.int .i64 0,.int .u64 0,.int .u64 0] ((we.setCell ⟨h,2,none⟩ (.int .i64 en.kind)).setCell ⟨h,3,none⟩ (.int .i64 en.br)):=D.set 3 (.int .i64 en.br)
      replace D:DS w 219 zRec w.heap.size g h l3 e3 #[.int .i64 3,.int .u64 (n:Int),.int .i64 en.kind,.int .i64 en.br,.int .u64 (en.life:Int),.int .u64 0,.int .i64 0,.int .u64 0,.slice none 0 0,.slice none 0 0,.int .i64 0,.int .u64 0,.int .u64 0] (((we.setCell ⟨h,2,none⟩ (.int .i64 en.kind)).setCell ⟨h,3,none⟩ (.int .i64 en.br)).setCell ⟨h,4,none⟩ (.int .u64 (en.life:Int))):=D.set 4 (.int .u64 (en.life:Int))
      replace D:DS w 219 zRec w.heap.size g h l3 e3 #[.int .i64 3,.int .u64 (n:Int),.int .i64 en.kind,.int .i64 en.br,.int .u64 (en.life:Int),.int .u64 (en.ser:Int),.int .i64 0,.int .u64 0,.slice none 0 0,.slice none 0 0,.int .i64 0,.int .u64 0,.int .u64 0] ((((we.setCell ⟨h,2,none⟩ (.int .i64 en.kind)).setCell ⟨h,3,none⟩ (.int .i64 en.br)).setCell ⟨h,4,none⟩ (.int .u64 (en.life:Int))).setCell ⟨h,5,none⟩ (.int .u64 (en.ser:Int))):=D.set 5 (.int .u64 (en.ser:Int))
      replace D:DS w 219 zRec w.heap.size g h l3 e3 #[.int .i64 3,.int .u64 (n:Int),.int .i64 en.kind,.int .i64 en.br,.int .u64 (en.life:Int),.int .u64 (en.ser:Int),.int .i64 en.cl,.int .u64 0,.slice none 0 0,.slice none 0 0,.int .i64 0,.int .u64 0,.int .u64 0] (((((we.setCell ⟨h,2,none⟩ (.int .i64 en.kind)).setCell ⟨h,3,none⟩ (.int .i64 en.br)).setCell ⟨h,4,none⟩ (.int .u64 (en.life:Int))).setCell ⟨h,5,none⟩ (.int .u64 (en.ser:Int))).setCell ⟨h,6,none⟩ (.int .i64 en.cl)):=D.set 6 (.int .i64 en.cl)
      replace D:DS w 219 zRec w.heap.size g h l3 e3 #[.int .i64 3,.int .u64 (n:Int),.int .i64 en.kind,.int .i64 en.br,.int .u64 (en.life:Int),.int .u64 (en.ser:Int),.int .i64 en.cl,.int .u64 (en.sub:Int),.slice none 0 0,.slice none 0 0,.int .i64 0,.int .u64 0,.int .u64 0] ((((((we.setCell ⟨h,2,none⟩ (.int .i64 en.kind)).setCell ⟨h,3,none⟩ (.int .i64 en.br)).setCell ⟨h,4,none⟩ (.int .u64 (en.life:Int))).setCell ⟨h,5,none⟩ (.int .u64 (en.ser:Int))).setCell ⟨h,6,none⟩ (.int .i64 en.cl)).setCell ⟨h,7,none⟩ (.int .u64 (en.sub:Int))):=D.set 7 (.int .u64 (en.sub:Int))
      replace D:DS w 219 zRec w.heap.size g h l3 e3 #[.int .i64 3,.int .u64 (n:Int),.int .i64 en.kind,.int .i64 en.br,.int .u64 (en.life:Int),.int .u64 (en.ser:Int),.int .i64 en.cl,.int .u64 (en.sub:Int),.slice A6 en.f.length c6,.slice none 0 0,.int .i64 0,.int .u64 0,.int .u64 0] (((((((we.setCell ⟨h,2,none⟩ (.int .i64 en.kind)).setCell ⟨h,3,none⟩ (.int .i64 en.br)).setCell ⟨h,4,none⟩ (.int .u64 (en.life:Int))).setCell ⟨h,5,none⟩ (.int .u64 (en.ser:Int))).setCell ⟨h,6,none⟩ (.int .i64 en.cl)).setCell ⟨h,7,none⟩ (.int .u64 (en.sub:Int))).setCell ⟨h,8,none⟩ (.slice A6 en.f.length c6)):=D.set 8 (.slice A6 en.f.length c6)
      replace D:DS w 219 zRec w.heap.size g h l3 e3 #[.int .i64 3,.int .u64 (n:Int),.int .i64 en.kind,.int .i64 en.br,.int .u64 (en.life:Int),.int .u64 (en.ser:Int),.int .i64 en.cl,.int .u64 (en.sub:Int),.slice A6 en.f.length c6,.slice A7 en.es.length c7,.int .i64 0,.int .u64 0,.int .u64 0] ((((((((we.setCell ⟨h,2,none⟩ (.int .i64 en.kind)).setCell ⟨h,3,none⟩ (.int .i64 en.br)).setCell ⟨h,4,none⟩ (.int .u64 (en.life:Int))).setCell ⟨h,5,none⟩ (.int .u64 (en.ser:Int))).setCell ⟨h,6,none⟩ (.int .i64 en.cl)).setCell ⟨h,7,none⟩ (.int .u64 (en.sub:Int))).setCell ⟨h,8,none⟩ (.slice A6 en.f.length c6)).setCell ⟨h,9,none⟩ (.slice A7 en.es.length c7)):=D.set 9 (.slice A7 en.es.length c7)
      have UX:UpB (h+1) none wd ((((((((we.setCell ⟨h,2,none⟩ (.int .i64 en.kind)).setCell ⟨h,3,none⟩ (.int .i64 en.br)).setCell ⟨h,4,none⟩ (.int .u64 (en.life:Int))).setCell ⟨h,5,none⟩ (.int .u64 (en.ser:Int))).setCell ⟨h,6,none⟩ (.int .i64 en.cl)).setCell ⟨h,7,none⟩ (.int .u64 (en.sub:Int))).setCell ⟨h,8,none⟩ (.slice A6 en.f.length c6)).setCell ⟨h,9,none⟩ (.slice A7 en.es.length c7)):=(((((((((((((((((UpB.of_k kE _ _)).tr (UpB.set (b:=h) (by omega) 2 (.int .i64 en.kind)))).tr (UpB.set (b:=h) (by omega) 3 (.int .i64 en.br)))).tr (UpB.set (b:=h) (by omega) 4 (.int .u64 (en.life:Int))))).tr (UpB.set (b:=h) (by omega) 5 (.int .u64 (en.ser:Int))))).tr (UpB.set (b:=h) (by omega) 6 (.int .i64 en.cl)))).tr (UpB.set (b:=h) (by omega) 7 (.int .u64 (en.sub:Int))))).tr (UpB.set (b:=h) (by omega) 8 (.slice A6 en.f.length c6)))).tr (UpB.set (b:=h) (by omega) 9 (.slice A7 en.es.length c7)))
      have HEN2:Hid (∀ W',UpB (h+1) none wd W'->ent en (.agg (entA en (.slice A6 en.f.length c6) (.slice A7 en.es.length c7))) W'):=Lib.hid fun W' u=>HEN.out W' (u.more (by omega) (fun _ _ _=>by simp))
      clear q q2 z HEN hx
      generalize World.setCell (World.setCell (World.setCell (World.setCell (World.setCell (World.setCell (World.setCell (World.setCell _ _ _) _ _) _ _) _ _) _ _) _ _) _ _) _ _=wt at *
      have HF:∀ W',UpB (h+1) none wt W'->flt en.f (.slice A6 en.f.length c6) W':=fun W' u=>by
       obtain⟨_,_,he,h1,_⟩:=HEN2.out _ (UX.tr u);simp at he;rw[he.1];exact h1
      have HE:∀ W',UpB (h+1) none wt W'->lst evS en.es (.slice A7 en.es.length c7) W':=fun W' u=>by
       obtain⟨_,_,he,_,h1⟩:=HEN2.out _ (UX.tr u);simp at he;rw[he.2];exact h1
      go_wp2
      go_meet
      case rel=>exact⟨(⟨3,n,en,0,0,0⟩:Rec),l3,e3,.slice A6 en.f.length c6,.slice A7 en.es.length c7,D,HF,HE,HD⟩
  obtain⟨⟨br,li,se⟩,l5,e5,hI⟩:∃ (i:Idn) (l5:List UInt8) (e5:Bool),rdId l2 e2=(i,l5,e5):=⟨_,_,_,rfl⟩
  have C5:=fun W h=>ReadID_calls g l2 e2 W h
  have HP4:=Lib.hid fun h=>HP.out.2.1 h br li se l5 e5 hI
  rw[hI] at C5
  simp only at C5
  replace C5:=Lib.hid C5
  clear hI
  by_cases hk4:kk=4
  · subst hk4
    replace D:DS w 219 zRec w.heap.size g h l2 e2 #[.int .i64 4,.int .u64 (n:Int),.int .i64 0,.int .i64 0,.int .u64 0,.int .u64 0,.int .i64 0,.int .u64 0,.slice none 0 0,.slice none 0 0,.int .i64 0,.int .u64 0,.int .u64 0] wa:=D
    have HD:=Lib.hid (HP4.out (by decide))
    simp only[show ((4:Nat):Int)=4 from rfl] at HD
    go_wp2_with fail
    clear q
    refine (C5.out wa D.rd).mono ?_
    rintro e wc ⟨rfl,hwc⟩
    replace D:=D.went hwc
    clear hwc HP HP4 C5
    have q:=D.x.cell
    have z:=D.x.frozen
    go_wp2
    replace D:DS w 219 zRec w.heap.size g h l5 e5 #[.int .i64 4,.int .u64 (n:Int),.int .i64 0,.int .i64 0,.int .u64 0,.int .u64 0,.int .i64 0,.int .u64 0,.slice none 0 0,.slice none 0 0,.int .i64 br,.int .u64 0,.int .u64 0] (wc.setCell ⟨h,10,none⟩ (.int .i64 br)):=D.set 10 (.int .i64 br)
    replace D:DS w 219 zRec w.heap.size g h l5 e5 #[.int .i64 4,.int .u64 (n:Int),.int .i64 0,.int .i64 0,.int .u64 0,.int .u64 0,.int .i64 0,.int .u64 0,.slice none 0 0,.slice none 0 0,.int .i64 br,.int .u64 (li:Int),.int .u64 0] ((wc.setCell ⟨h,10,none⟩ (.int .i64 br)).setCell ⟨h,11,none⟩ (.int .u64 (li:Int))):=D.set 11 (.int .u64 (li:Int))
    replace D:DS w 219 zRec w.heap.size g h l5 e5 #[.int .i64 4,.int .u64 (n:Int),.int .i64 0,.int .i64 0,.int .u64 0,.int .u64 0,.int .i64 0,.int .u64 0,.slice none 0 0,.slice none 0 0,.int .i64 br,.int .u64 (li:Int),.int .u64 (se:Int)] (((wc.setCell ⟨h,10,none⟩ (.int .i64 br)).setCell ⟨h,11,none⟩ (.int .u64 (li:Int))).setCell ⟨h,12,none⟩ (.int .u64 (se:Int))):=D.set 12 (.int .u64 (se:Int))
    clear q z
    generalize World.setCell (World.setCell (World.setCell _ _ _) _ _) _ _=wt at *
    have HF:∀ W',UpB (h+1) none wt W'->flt ent0.f (.slice none 0 0) W':=fun _ _=>⟨none,0,rfl,Reads.nil _ _ _ _⟩
    have HE:∀ W',UpB (h+1) none wt W'->lst evS ent0.es (.slice none 0 0) W':=fun _ _=>lst_nil evS _
    go_wp2
    go_meet
    case rel=>exact⟨(⟨4,n,ent0,br,li,se⟩:Rec),l5,e5,.slice none 0 0,.slice none 0 0,D,HF,HE,HD⟩
  by_cases hk5:kk=5
  · subst hk5
    replace D:DS w 219 zRec w.heap.size g h l2 e2 #[.int .i64 5,.int .u64 (n:Int),.int .i64 0,.int .i64 0,.int .u64 0,.int .u64 0,.int .i64 0,.int .u64 0,.slice none 0 0,.slice none 0 0,.int .i64 0,.int .u64 0,.int .u64 0] wa:=D
    have HD:=Lib.hid (HP4.out (by decide))
    simp only[show ((5:Nat):Int)=5 from rfl] at HD
    go_wp2_with fail
    clear q
    refine (C5.out wa D.rd).mono ?_
    rintro e wc ⟨rfl,hwc⟩
    replace D:=D.went hwc
    clear hwc HP HP4 C5
    have q:=D.x.cell
    have z:=D.x.frozen
    go_wp2
    replace D:DS w 219 zRec w.heap.size g h l5 e5 #[.int .i64 5,.int .u64 (n:Int),.int .i64 0,.int .i64 0,.int .u64 0,.int .u64 0,.int .i64 0,.int .u64 0,.slice none 0 0,.slice none 0 0,.int .i64 br,.int .u64 0,.int .u64 0] (wc.setCell ⟨h,10,none⟩ (.int .i64 br)):=D.set 10 (.int .i64 br)
    replace D:DS w 219 zRec w.heap.size g h l5 e5 #[.int .i64 5,.int .u64 (n:Int),.int .i64 0,.int .i64 0,.int .u64 0,.int .u64 0,.int .i64 0,.int .u64 0,.slice none 0 0,.slice none 0 0,.int .i64 br,.int .u64 (li:Int),.int .u64 0] ((wc.setCell ⟨h,10,none⟩ (.int .i64 br)).setCell ⟨h,11,none⟩ (.int .u64 (li:Int))):=D.set 11 (.int .u64 (li:Int))
    replace D:DS w 219 zRec w.heap.size g h l5 e5 #[.int .i64 5,.int .u64 (n:Int),.int .i64 0,.int .i64 0,.int .u64 0,.int .u64 0,.int .i64 0,.int .u64 0,.slice none 0 0,.slice none 0 0,.int .i64 br,.int .u64 (li:Int),.int .u64 (se:Int)] (((wc.setCell ⟨h,10,none⟩ (.int .i64 br)).setCell ⟨h,11,none⟩ (.int .u64 (li:Int))).setCell ⟨h,12,none⟩ (.int .u64 (se:Int))):=D.set 12 (.int .u64 (se:Int))
    clear q z
    generalize World.setCell (World.setCell (World.setCell _ _ _) _ _) _ _=wt at *
    have HF:∀ W',UpB (h+1) none wt W'->flt ent0.f (.slice none 0 0) W':=fun _ _=>⟨none,0,rfl,Reads.nil _ _ _ _⟩
    have HE:∀ W',UpB (h+1) none wt W'->lst evS ent0.es (.slice none 0 0) W':=fun _ _=>lst_nil evS _
    go_wp2
    go_meet
    case rel=>exact⟨(⟨5,n,ent0,br,li,se⟩:Rec),l5,e5,.slice none 0 0,.slice none 0 0,D,HF,HE,HD⟩
  have HD:=Lib.hid (HP.out.2.2 (by omega) (by omega))
  clear HP HP4 C5
  have HF:∀ W',UpB (h+1) none wa W'->flt ent0.f (.slice none 0 0) W':=fun _ _=>⟨none,0,rfl,Reads.nil _ _ _ _⟩
  have HE:∀ W',UpB (h+1) none wa W'->lst evS ent0.es (.slice none 0 0) W':=fun _ _=>lst_nil evS _
  have g2:((kk:Int)==2)=false:=by simp;omega
  have g3:((kk:Int)==3)=false:=by simp;omega
  have g4:((kk:Int)==4)=false:=by simp;omega
  have g5:((kk:Int)==5)=false:=by simp;omega
  go_wp2
  go_wp2
  go_meet
  case rel=>exact⟨(⟨kk,n,ent0,0,0,0⟩:Rec),l2,e2,.slice none 0 0,.slice none 0 0,D,HF,HE,HD⟩
 case rest =>
 clear D q
 obtain⟨⟨k',n',en,br,li,se⟩,l,e,vf,ve,D,HF,HE,HD⟩:=hcut
 obtain⟨A6,c6,rfl⟩:=flt_slice (HF _ (UpB.rf _ _ _))
 obtain⟨A7,c7,rfl⟩:=lst_slice (HE _ (UpB.rf _ _ _))
 have hgh:=D.o
 simp only at D HF HE
 have HFS:=flt_slice (HF _ (UpB.rf _ _ _))
 have HES:=lst_slice (HE _ (UpB.rf _ _ _))
 have U:=UpB.rf (h+1) none wc
 have HFE:Hid ((∀ W',UpB (h+1) none wc W'->flt (Rec.e (⟨k',n',en,br,li,se⟩:Rec)).f (.slice A6 en.f.length c6) W')/\∀ W',UpB (h+1) none wc W'->lst evS (Rec.e (⟨k',n',en,br,li,se⟩:Rec)).es (.slice A7 en.es.length c7) W'):=Lib.hid ⟨HF,HE⟩
 clear HF HE
 go_wp2_with fail
 refine (Done_calls g _ _ _ D.rd).mono ?_
 rintro e w' ⟨rfl,rfl⟩
 have HB:Hid ((!e&&l.isEmpty&&okRec (⟨k',n',en,br,li,se⟩:Rec))=false->decRecC b=110/\decRecX b=rec0):=Lib.hid fun h=>decRec_none (by rw[HD.out,h];rfl)
 have HG:Hid ((!e&&l.isEmpty&&okRec (⟨k',n',en,br,li,se⟩:Rec))=true->decRecC b=0/\decRecX b=(⟨k',n',en,br,li,se⟩:Rec)):=Lib.hid fun h=>decRec_some (by rw[HD.out,h];rfl)
 clear HD
 cases hd:(!e&&l.isEmpty)
 · have HN:=Lib.hid (HB.out (by rw[hd];rfl))
   have q:=D.rv.cell
   have z:=D.rv.frozen
   go_wp2
   have K9:=(K.set (K.set (K.set (K.set (K.set (K.set (K.set (K.set (K.set (K.set (K.set (K.set (K.set D.k (Nat.le_refl _) 0 (.int .i64 0)) (Nat.le_refl _) 1 (.int .u64 0)) (Nat.le_refl _) 2 (.int .i64 0)) (Nat.le_refl _) 3 (.int .i64 0)) (Nat.le_refl _) 4 (.int .u64 0)) (Nat.le_refl _) 5 (.int .u64 0)) (Nat.le_refl _) 6 (.int .i64 0)) (Nat.le_refl _) 7 (.int .u64 0)) (Nat.le_refl _) 8 (.slice none 0 0)) (Nat.le_refl _) 9 (.slice none 0 0)) (Nat.le_refl _) 10 (.int .i64 0)) (Nat.le_refl _) 11 (.int .u64 0)) (Nat.le_refl _) 12 (.int .u64 0))
   clear q z
   have hr9:Blk (World.setCell _ _ _) w.heap.size 219 #[.int .i64 0,.int .u64 0,.int .i64 0,.int .i64 0,.int .u64 0,.int .u64 0,.int .i64 0,.int .u64 0,.slice none 0 0,.slice none 0 0,.int .i64 0,.int .u64 0,.int .u64 0]:=(D.rv).set_ 0 (.int .i64 0)
   have hr9:Blk (World.setCell (World.setCell _ _ _) _ _) w.heap.size 219 #[.int .i64 0,.int .u64 0,.int .i64 0,.int .i64 0,.int .u64 0,.int .u64 0,.int .i64 0,.int .u64 0,.slice none 0 0,.slice none 0 0,.int .i64 0,.int .u64 0,.int .u64 0]:=(hr9).set_ 1 (.int .u64 0)
   have hr9:Blk (World.setCell (World.setCell (World.setCell _ _ _) _ _) _ _) w.heap.size 219 #[.int .i64 0,.int .u64 0,.int .i64 0,.int .i64 0,.int .u64 0,.int .u64 0,.int .i64 0,.int .u64 0,.slice none 0 0,.slice none 0 0,.int .i64 0,.int .u64 0,.int .u64 0]:=(hr9).set_ 2 (.int .i64 0)
   have hr9:Blk (World.setCell (World.setCell (World.setCell (World.setCell _ _ _) _ _) _ _) _ _) w.heap.size 219 #[.int .i64 0,.int .u64 0,.int .i64 0,.int .i64 0,.int .u64 0,.int .u64 0,.int .i64 0,.int .u64 0,.slice none 0 0,.slice none 0 0,.int .i64 0,.int .u64 0,.int .u64 0]:=(hr9).set_ 3 (.int .i64 0)
   have hr9:Blk (World.setCell (World.setCell (World.setCell (World.setCell (World.setCell _ _ _) _ _) _ _) _ _) _ _) w.heap.size 219 #[.int .i64 0,.int .u64 0,.int .i64 0,.int .i64 0,.int .u64 0,.int .u64 0,.int .i64 0,.int .u64 0,.slice none 0 0,.slice none 0 0,.int .i64 0,.int .u64 0,.int .u64 0]:=(hr9).set_ 4 (.int .u64 0)
   have hr9:Blk (World.setCell (World.setCell (World.setCell (World.setCell (World.setCell (World.setCell _ _ _) _ _) _ _) _ _) _ _) _ _) w.heap.size 219 #[.int .i64 0,.int .u64 0,.int .i64 0,.int .i64 0,.int .u64 0,.int .u64 0,.int .i64 0,.int .u64 0,.slice none 0 0,.slice none 0 0,.int .i64 0,.int .u64 0,.int .u64 0]:=(hr9).set_ 5 (.int .u64 0)
   have hr9:Blk (World.setCell (World.setCell (World.setCell (World.setCell (World.setCell (World.setCell (World.setCell _ _ _) _ _) _ _) _ _) _ _) _ _) _ _) w.heap.size 219 #[.int .i64 0,.int .u64 0,.int .i64 0,.int .i64 0,.int .u64 0,.int .u64 0,.int .i64 0,.int .u64 0,.slice none 0 0,.slice none 0 0,.int .i64 0,.int .u64 0,.int .u64 0]:=(hr9).set_ 6 (.int .i64 0)
   have hr9:Blk (World.setCell (World.setCell (World.setCell (World.setCell (World.setCell (World.setCell (World.setCell (World.setCell _ _ _) _ _) _ _) _ _) _ _) _ _) _ _) _ _) w.heap.size 219 #[.int .i64 0,.int .u64 0,.int .i64 0,.int .i64 0,.int .u64 0,.int .u64 0,.int .i64 0,.int .u64 0,.slice none 0 0,.slice none 0 0,.int .i64 0,.int .u64 0,.int .u64 0]:=(hr9).set_ 7 (.int .u64 0)
   have hr9:Blk (World.setCell (World.setCell (World.setCell (World.setCell (World.setCell (World.setCell (World.setCell (World.setCell (World.setCell _ _ _) _ _) _ _) _ _) _ _) _ _) _ _) _ _) _ _) w.heap.size 219 #[.int .i64 0,.int .u64 0,.int .i64 0,.int .i64 0,.int .u64 0,.int .u64 0,.int .i64 0,.int .u64 0,.slice none 0 0,.slice none 0 0,.int .i64 0,.int .u64 0,.int .u64 0]:=(hr9).set_ 8 (.slice none 0 0)
   have hr9:Blk (World.setCell (World.setCell (World.setCell (World.setCell (World.setCell (World.setCell (World.setCell (World.setCell (World.setCell (World.setCell _ _ _) _ _) _ _) _ _) _ _) _ _) _ _) _ _) _ _) _ _) w.heap.size 219 #[.int .i64 0,.int .u64 0,.int .i64 0,.int .i64 0,.int .u64 0,.int .u64 0,.int .i64 0,.int .u64 0,.slice none 0 0,.slice none 0 0,.int .i64 0,.int .u64 0,.int .u64 0]:=(hr9).set_ 9 (.slice none 0 0)
   have hr9:Blk (World.setCell (World.setCell (World.setCell (World.setCell (World.setCell (World.setCell (World.setCell (World.setCell (World.setCell (World.setCell (World.setCell _ _ _) _ _) _ _) _ _) _ _) _ _) _ _) _ _) _ _) _ _) _ _) w.heap.size 219 #[.int .i64 0,.int .u64 0,.int .i64 0,.int .i64 0,.int .u64 0,.int .u64 0,.int .i64 0,.int .u64 0,.slice none 0 0,.slice none 0 0,.int .i64 0,.int .u64 0,.int .u64 0]:=(hr9).set_ 10 (.int .i64 0)
   have hr9:Blk (World.setCell (World.setCell (World.setCell (World.setCell (World.setCell (World.setCell (World.setCell (World.setCell (World.setCell (World.setCell (World.setCell (World.setCell _ _ _) _ _) _ _) _ _) _ _) _ _) _ _) _ _) _ _) _ _) _ _) _ _) w.heap.size 219 #[.int .i64 0,.int .u64 0,.int .i64 0,.int .i64 0,.int .u64 0,.int .u64 0,.int .i64 0,.int .u64 0,.slice none 0 0,.slice none 0 0,.int .i64 0,.int .u64 0,.int .u64 0]:=(hr9).set_ 11 (.int .u64 0)
   have hr9:Blk (World.setCell (World.setCell (World.setCell (World.setCell (World.setCell (World.setCell (World.setCell (World.setCell (World.setCell (World.setCell (World.setCell (World.setCell (World.setCell _ _ _) _ _) _ _) _ _) _ _) _ _) _ _) _ _) _ _) _ _) _ _) _ _) _ _) w.heap.size 219 #[.int .i64 0,.int .u64 0,.int .i64 0,.int .i64 0,.int .u64 0,.int .u64 0,.int .i64 0,.int .u64 0,.slice none 0 0,.slice none 0 0,.int .i64 0,.int .u64 0,.int .u64 0]:=(hr9).set_ 12 (.int .u64 0)
   generalize (World.setCell (World.setCell (World.setCell (World.setCell (World.setCell (World.setCell (World.setCell (World.setCell (World.setCell (World.setCell (World.setCell (World.setCell (World.setCell _ _ _) _ _) _ _) _ _) _ _) _ _) _ _) _ _) _ _) _ _) _ _) _ _) _ _)=W9 at *
   have e9:=hr9.cell
   refine bodyPost_ret (v:=.tuple #[.agg zRec,.int .i64 110]) (by simp[results,Tryz.results163,go_sem,e9]) rfl ?_
   exact⟨.agg zRec,by rw[HN.out.1],by rw[HN.out.2];exact fun _ _=>rcd_zero _,K9⟩
 have q:=D.x.cell
 go_wp2_with fail
 refine (May_calls (⟨k',n',en,br,li,se⟩:Rec) _ _ ⟨_,_,rfl,HFE.out.1 _ U,HFE.out.2 _ U⟩).mono ?_
 rintro e wz ⟨rfl,kz⟩
 replace D:=D.gr kz
 replace U:=U.tr (UpB.of_k kz _ _)
 cases hok:okRec (⟨k',n',en,br,li,se⟩:Rec)
 · have HN:=Lib.hid (HB.out (by rw[hd,hok];rfl))
   clear q
   have q:=D.rv.cell
   have z:=D.rv.frozen
   go_wp2
   have K9:=(K.set (K.set (K.set (K.set (K.set (K.set (K.set (K.set (K.set (K.set (K.set (K.set (K.set D.k (Nat.le_refl _) 0 (.int .i64 0)) (Nat.le_refl _) 1 (.int .u64 0)) (Nat.le_refl _) 2 (.int .i64 0)) (Nat.le_refl _) 3 (.int .i64 0)) (Nat.le_refl _) 4 (.int .u64 0)) (Nat.le_refl _) 5 (.int .u64 0)) (Nat.le_refl _) 6 (.int .i64 0)) (Nat.le_refl _) 7 (.int .u64 0)) (Nat.le_refl _) 8 (.slice none 0 0)) (Nat.le_refl _) 9 (.slice none 0 0)) (Nat.le_refl _) 10 (.int .i64 0)) (Nat.le_refl _) 11 (.int .u64 0)) (Nat.le_refl _) 12 (.int .u64 0))
   clear q z
   have hr9:Blk (World.setCell _ _ _) w.heap.size 219 #[.int .i64 0,.int .u64 0,.int .i64 0,.int .i64 0,.int .u64 0,.int .u64 0,.int .i64 0,.int .u64 0,.slice none 0 0,.slice none 0 0,.int .i64 0,.int .u64 0,.int .u64 0]:=(D.rv).set_ 0 (.int .i64 0)
   have hr9:Blk (World.setCell (World.setCell _ _ _) _ _) w.heap.size 219 #[.int .i64 0,.int .u64 0,.int .i64 0,.int .i64 0,.int .u64 0,.int .u64 0,.int .i64 0,.int .u64 0,.slice none 0 0,.slice none 0 0,.int .i64 0,.int .u64 0,.int .u64 0]:=(hr9).set_ 1 (.int .u64 0)
   have hr9:Blk (World.setCell (World.setCell (World.setCell _ _ _) _ _) _ _) w.heap.size 219 #[.int .i64 0,.int .u64 0,.int .i64 0,.int .i64 0,.int .u64 0,.int .u64 0,.int .i64 0,.int .u64 0,.slice none 0 0,.slice none 0 0,.int .i64 0,.int .u64 0,.int .u64 0]:=(hr9).set_ 2 (.int .i64 0)
   have hr9:Blk (World.setCell (World.setCell (World.setCell (World.setCell _ _ _) _ _) _ _) _ _) w.heap.size 219 #[.int .i64 0,.int .u64 0,.int .i64 0,.int .i64 0,.int .u64 0,.int .u64 0,.int .i64 0,.int .u64 0,.slice none 0 0,.slice none 0 0,.int .i64 0,.int .u64 0,.int .u64 0]:=(hr9).set_ 3 (.int .i64 0)
   have hr9:Blk (World.setCell (World.setCell (World.setCell (World.setCell (World.setCell _ _ _) _ _) _ _) _ _) _ _) w.heap.size 219 #[.int .i64 0,.int .u64 0,.int .i64 0,.int .i64 0,.int .u64 0,.int .u64 0,.int .i64 0,.int .u64 0,.slice none 0 0,.slice none 0 0,.int .i64 0,.int .u64 0,.int .u64 0]:=(hr9).set_ 4 (.int .u64 0)
   have hr9:Blk (World.setCell (World.setCell (World.setCell (World.setCell (World.setCell (World.setCell _ _ _) _ _) _ _) _ _) _ _) _ _) w.heap.size 219 #[.int .i64 0,.int .u64 0,.int .i64 0,.int .i64 0,.int .u64 0,.int .u64 0,.int .i64 0,.int .u64 0,.slice none 0 0,.slice none 0 0,.int .i64 0,.int .u64 0,.int .u64 0]:=(hr9).set_ 5 (.int .u64 0)
   have hr9:Blk (World.setCell (World.setCell (World.setCell (World.setCell (World.setCell (World.setCell (World.setCell _ _ _) _ _) _ _) _ _) _ _) _ _) _ _) w.heap.size 219 #[.int .i64 0,.int .u64 0,.int .i64 0,.int .i64 0,.int .u64 0,.int .u64 0,.int .i64 0,.int .u64 0,.slice none 0 0,.slice none 0 0,.int .i64 0,.int .u64 0,.int .u64 0]:=(hr9).set_ 6 (.int .i64 0)
   have hr9:Blk (World.setCell (World.setCell (World.setCell (World.setCell (World.setCell (World.setCell (World.setCell (World.setCell _ _ _) _ _) _ _) _ _) _ _) _ _) _ _) _ _) w.heap.size 219 #[.int .i64 0,.int .u64 0,.int .i64 0,.int .i64 0,.int .u64 0,.int .u64 0,.int .i64 0,.int .u64 0,.slice none 0 0,.slice none 0 0,.int .i64 0,.int .u64 0,.int .u64 0]:=(hr9).set_ 7 (.int .u64 0)
   have hr9:Blk (World.setCell (World.setCell (World.setCell (World.setCell (World.setCell (World.setCell (World.setCell (World.setCell (World.setCell _ _ _) _ _) _ _) _ _) _ _) _ _) _ _) _ _) _ _) w.heap.size 219 #[.int .i64 0,.int .u64 0,.int .i64 0,.int .i64 0,.int .u64 0,.int .u64 0,.int .i64 0,.int .u64 0,.slice none 0 0,.slice none 0 0,.int .i64 0,.int .u64 0,.int .u64 0]:=(hr9).set_ 8 (.slice none 0 0)
   have hr9:Blk (World.setCell (World.setCell (World.setCell (World.setCell (World.setCell (World.setCell (World.setCell (World.setCell (World.setCell (World.setCell _ _ _) _ _) _ _) _ _) _ _) _ _) _ _) _ _) _ _) _ _) w.heap.size 219 #[.int .i64 0,.int .u64 0,.int .i64 0,.int .i64 0,.int .u64 0,.int .u64 0,.int .i64 0,.int .u64 0,.slice none 0 0,.slice none 0 0,.int .i64 0,.int .u64 0,.int .u64 0]:=(hr9).set_ 9 (.slice none 0 0)
   have hr9:Blk (World.setCell (World.setCell (World.setCell (World.setCell (World.setCell (World.setCell (World.setCell (World.setCell (World.setCell (World.setCell (World.setCell _ _ _) _ _) _ _) _ _) _ _) _ _) _ _) _ _) _ _) _ _) _ _) w.heap.size 219 #[.int .i64 0,.int .u64 0,.int .i64 0,.int .i64 0,.int .u64 0,.int .u64 0,.int .i64 0,.int .u64 0,.slice none 0 0,.slice none 0 0,.int .i64 0,.int .u64 0,.int .u64 0]:=(hr9).set_ 10 (.int .i64 0)
   have hr9:Blk (World.setCell (World.setCell (World.setCell (World.setCell (World.setCell (World.setCell (World.setCell (World.setCell (World.setCell (World.setCell (World.setCell (World.setCell _ _ _) _ _) _ _) _ _) _ _) _ _) _ _) _ _) _ _) _ _) _ _) _ _) w.heap.size 219 #[.int .i64 0,.int .u64 0,.int .i64 0,.int .i64 0,.int .u64 0,.int .u64 0,.int .i64 0,.int .u64 0,.slice none 0 0,.slice none 0 0,.int .i64 0,.int .u64 0,.int .u64 0]:=(hr9).set_ 11 (.int .u64 0)
   have hr9:Blk (World.setCell (World.setCell (World.setCell (World.setCell (World.setCell (World.setCell (World.setCell (World.setCell (World.setCell (World.setCell (World.setCell (World.setCell (World.setCell _ _ _) _ _) _ _) _ _) _ _) _ _) _ _) _ _) _ _) _ _) _ _) _ _) _ _) w.heap.size 219 #[.int .i64 0,.int .u64 0,.int .i64 0,.int .i64 0,.int .u64 0,.int .u64 0,.int .i64 0,.int .u64 0,.slice none 0 0,.slice none 0 0,.int .i64 0,.int .u64 0,.int .u64 0]:=(hr9).set_ 12 (.int .u64 0)
   generalize (World.setCell (World.setCell (World.setCell (World.setCell (World.setCell (World.setCell (World.setCell (World.setCell (World.setCell (World.setCell (World.setCell (World.setCell (World.setCell _ _ _) _ _) _ _) _ _) _ _) _ _) _ _) _ _) _ _) _ _) _ _) _ _) _ _)=W9 at *
   have e9:=hr9.cell
   refine bodyPost_ret (v:=.tuple #[.agg zRec,.int .i64 110]) (by simp[results,Tryz.results163,go_sem,e9]) rfl ?_
   exact⟨.agg zRec,by rw[HN.out.1],by rw[HN.out.2];exact fun _ _=>rcd_zero _,K9⟩
 have HN:=Lib.hid (HG.out (by rw[hd,hok];rfl))
 clear q
 have q:=D.rv.cell
 have z:=D.rv.frozen
 have q2:=D.x.cell
 go_wp2
 have hgo:=D.o
 have hr9:Blk (World.setCell wz _ _) w.heap.size 219 #[.int .i64 k',.int .u64 0,.int .i64 0,.int .i64 0,.int .u64 0,.int .u64 0,.int .i64 0,.int .u64 0,.slice none 0 0,.slice none 0 0,.int .i64 0,.int .u64 0,.int .u64 0]:=(D.rv).set_ 0 (.int .i64 k')
 have hr9:Blk (World.setCell (World.setCell wz _ _) _ _) w.heap.size 219 #[.int .i64 k',.int .u64 (n':Int),.int .i64 0,.int .i64 0,.int .u64 0,.int .u64 0,.int .i64 0,.int .u64 0,.slice none 0 0,.slice none 0 0,.int .i64 0,.int .u64 0,.int .u64 0]:=(hr9).set_ 1 (.int .u64 (n':Int))
 have hr9:Blk (World.setCell (World.setCell (World.setCell wz _ _) _ _) _ _) w.heap.size 219 #[.int .i64 k',.int .u64 (n':Int),.int .i64 en.kind,.int .i64 0,.int .u64 0,.int .u64 0,.int .i64 0,.int .u64 0,.slice none 0 0,.slice none 0 0,.int .i64 0,.int .u64 0,.int .u64 0]:=(hr9).set_ 2 (.int .i64 en.kind)
 have hr9:Blk (World.setCell (World.setCell (World.setCell (World.setCell wz _ _) _ _) _ _) _ _) w.heap.size 219 #[.int .i64 k',.int .u64 (n':Int),.int .i64 en.kind,.int .i64 en.br,.int .u64 0,.int .u64 0,.int .i64 0,.int .u64 0,.slice none 0 0,.slice none 0 0,.int .i64 0,.int .u64 0,.int .u64 0]:=(hr9).set_ 3 (.int .i64 en.br)
 have hr9:Blk (World.setCell (World.setCell (World.setCell (World.setCell (World.setCell wz _ _) _ _) _ _) _ _) _ _) w.heap.size 219 #[.int .i64 k',.int .u64 (n':Int),.int .i64 en.kind,.int .i64 en.br,.int .u64 (en.life:Int),.int .u64 0,.int .i64 0,.int .u64 0,.slice none 0 0,.slice none 0 0,.int .i64 0,.int .u64 0,.int .u64 0]:=(hr9).set_ 4 (.int .u64 (en.life:Int))
 have hr9:Blk (World.setCell (World.setCell (World.setCell (World.setCell (World.setCell (World.setCell wz _ _) _ _) _ _) _ _) _ _) _ _) w.heap.size 219 #[.int .i64 k',.int .u64 (n':Int),.int .i64 en.kind,.int .i64 en.br,.int .u64 (en.life:Int),.int .u64 (en.ser:Int),.int .i64 0,.int .u64 0,.slice none 0 0,.slice none 0 0,.int .i64 0,.int .u64 0,.int .u64 0]:=(hr9).set_ 5 (.int .u64 (en.ser:Int))
 have hr9:Blk (World.setCell (World.setCell (World.setCell (World.setCell (World.setCell (World.setCell (World.setCell wz _ _) _ _) _ _) _ _) _ _) _ _) _ _) w.heap.size 219 #[.int .i64 k',.int .u64 (n':Int),.int .i64 en.kind,.int .i64 en.br,.int .u64 (en.life:Int),.int .u64 (en.ser:Int),.int .i64 en.cl,.int .u64 0,.slice none 0 0,.slice none 0 0,.int .i64 0,.int .u64 0,.int .u64 0]:=(hr9).set_ 6 (.int .i64 en.cl)
 have hr9:Blk (World.setCell (World.setCell (World.setCell (World.setCell (World.setCell (World.setCell (World.setCell (World.setCell wz _ _) _ _) _ _) _ _) _ _) _ _) _ _) _ _) w.heap.size 219 #[.int .i64 k',.int .u64 (n':Int),.int .i64 en.kind,.int .i64 en.br,.int .u64 (en.life:Int),.int .u64 (en.ser:Int),.int .i64 en.cl,.int .u64 (en.sub:Int),.slice none 0 0,.slice none 0 0,.int .i64 0,.int .u64 0,.int .u64 0]:=(hr9).set_ 7 (.int .u64 (en.sub:Int))
 have hr9:Blk (World.setCell (World.setCell (World.setCell (World.setCell (World.setCell (World.setCell (World.setCell (World.setCell (World.setCell wz _ _) _ _) _ _) _ _) _ _) _ _) _ _) _ _) _ _) w.heap.size 219 #[.int .i64 k',.int .u64 (n':Int),.int .i64 en.kind,.int .i64 en.br,.int .u64 (en.life:Int),.int .u64 (en.ser:Int),.int .i64 en.cl,.int .u64 (en.sub:Int),.slice A6 en.f.length c6,.slice none 0 0,.int .i64 0,.int .u64 0,.int .u64 0]:=(hr9).set_ 8 (.slice A6 en.f.length c6)
 have hr9:Blk (World.setCell (World.setCell (World.setCell (World.setCell (World.setCell (World.setCell (World.setCell (World.setCell (World.setCell (World.setCell wz _ _) _ _) _ _) _ _) _ _) _ _) _ _) _ _) _ _) _ _) w.heap.size 219 #[.int .i64 k',.int .u64 (n':Int),.int .i64 en.kind,.int .i64 en.br,.int .u64 (en.life:Int),.int .u64 (en.ser:Int),.int .i64 en.cl,.int .u64 (en.sub:Int),.slice A6 en.f.length c6,.slice A7 en.es.length c7,.int .i64 0,.int .u64 0,.int .u64 0]:=(hr9).set_ 9 (.slice A7 en.es.length c7)
 have hr9:Blk (World.setCell (World.setCell (World.setCell (World.setCell (World.setCell (World.setCell (World.setCell (World.setCell (World.setCell (World.setCell (World.setCell wz _ _) _ _) _ _) _ _) _ _) _ _) _ _) _ _) _ _) _ _) _ _) w.heap.size 219 #[.int .i64 k',.int .u64 (n':Int),.int .i64 en.kind,.int .i64 en.br,.int .u64 (en.life:Int),.int .u64 (en.ser:Int),.int .i64 en.cl,.int .u64 (en.sub:Int),.slice A6 en.f.length c6,.slice A7 en.es.length c7,.int .i64 br,.int .u64 0,.int .u64 0]:=(hr9).set_ 10 (.int .i64 br)
 have hr9:Blk (World.setCell (World.setCell (World.setCell (World.setCell (World.setCell (World.setCell (World.setCell (World.setCell (World.setCell (World.setCell (World.setCell (World.setCell wz _ _) _ _) _ _) _ _) _ _) _ _) _ _) _ _) _ _) _ _) _ _) _ _) w.heap.size 219 #[.int .i64 k',.int .u64 (n':Int),.int .i64 en.kind,.int .i64 en.br,.int .u64 (en.life:Int),.int .u64 (en.ser:Int),.int .i64 en.cl,.int .u64 (en.sub:Int),.slice A6 en.f.length c6,.slice A7 en.es.length c7,.int .i64 br,.int .u64 (li:Int),.int .u64 0]:=(hr9).set_ 11 (.int .u64 (li:Int))
 have hr9:Blk (World.setCell (World.setCell (World.setCell (World.setCell (World.setCell (World.setCell (World.setCell (World.setCell (World.setCell (World.setCell (World.setCell (World.setCell (World.setCell wz _ _) _ _) _ _) _ _) _ _) _ _) _ _) _ _) _ _) _ _) _ _) _ _) _ _) w.heap.size 219 #[.int .i64 k',.int .u64 (n':Int),.int .i64 en.kind,.int .i64 en.br,.int .u64 (en.life:Int),.int .u64 (en.ser:Int),.int .i64 en.cl,.int .u64 (en.sub:Int),.slice A6 en.f.length c6,.slice A7 en.es.length c7,.int .i64 br,.int .u64 (li:Int),.int .u64 (se:Int)]:=(hr9).set_ 12 (.int .u64 (se:Int))
 have U9:=((((((((((((((((((((((((((U).tr (UpB.set (b:=w.heap.size) (by omega) 0 (.int .i64 k')))).tr (UpB.set (b:=w.heap.size) (by omega) 1 (.int .u64 (n':Int))))).tr (UpB.set (b:=w.heap.size) (by omega) 2 (.int .i64 en.kind)))).tr (UpB.set (b:=w.heap.size) (by omega) 3 (.int .i64 en.br)))).tr (UpB.set (b:=w.heap.size) (by omega) 4 (.int .u64 (en.life:Int))))).tr (UpB.set (b:=w.heap.size) (by omega) 5 (.int .u64 (en.ser:Int))))).tr (UpB.set (b:=w.heap.size) (by omega) 6 (.int .i64 en.cl)))).tr (UpB.set (b:=w.heap.size) (by omega) 7 (.int .u64 (en.sub:Int))))).tr (UpB.set (b:=w.heap.size) (by omega) 8 (.slice A6 en.f.length c6)))).tr (UpB.set (b:=w.heap.size) (by omega) 9 (.slice A7 en.es.length c7)))).tr (UpB.set (b:=w.heap.size) (by omega) 10 (.int .i64 br)))).tr (UpB.set (b:=w.heap.size) (by omega) 11 (.int .u64 (li:Int))))).tr (UpB.set (b:=w.heap.size) (by omega) 12 (.int .u64 (se:Int))))
 have K9:=(K.set (K.set (K.set (K.set (K.set (K.set (K.set (K.set (K.set (K.set (K.set (K.set (K.set D.k (Nat.le_refl _) 0 (.int .i64 k')) (Nat.le_refl _) 1 (.int .u64 (n':Int))) (Nat.le_refl _) 2 (.int .i64 en.kind)) (Nat.le_refl _) 3 (.int .i64 en.br)) (Nat.le_refl _) 4 (.int .u64 (en.life:Int))) (Nat.le_refl _) 5 (.int .u64 (en.ser:Int))) (Nat.le_refl _) 6 (.int .i64 en.cl)) (Nat.le_refl _) 7 (.int .u64 (en.sub:Int))) (Nat.le_refl _) 8 (.slice A6 en.f.length c6)) (Nat.le_refl _) 9 (.slice A7 en.es.length c7)) (Nat.le_refl _) 10 (.int .i64 br)) (Nat.le_refl _) 11 (.int .u64 (li:Int))) (Nat.le_refl _) 12 (.int .u64 (se:Int)))
 clear q q2 z
 generalize (World.setCell (World.setCell (World.setCell (World.setCell (World.setCell (World.setCell (World.setCell (World.setCell (World.setCell (World.setCell (World.setCell (World.setCell (World.setCell _ _ _) _ _) _ _) _ _) _ _) _ _) _ _) _ _) _ _) _ _) _ _) _ _) _ _)=W9 at *
 have e9:=hr9.cell
 refine bodyPost_ret (v:=.tuple #[.agg #[.int .i64 k',.int .u64 (n':Int),.int .i64 en.kind,.int .i64 en.br,.int .u64 (en.life:Int),.int .u64 (en.ser:Int),.int .i64 en.cl,.int .u64 (en.sub:Int),.slice A6 en.f.length c6,.slice A7 en.es.length c7,.int .i64 br,.int .u64 (li:Int),.int .u64 (se:Int)],.int .i64 0]) (by simp[results,Tryz.results163,go_sem,e9]) rfl ?_
 exact⟨_,by rw[HN.out.1],by rw[HN.out.2];exact fun W' u'=>⟨_,_,rfl,HFE.out.1 _ (U9.tr (u'.more (by omega) (fun _ _ _=>by simp))),HFE.out.2 _ (U9.tr (u'.more (by omega) (fun _ _ _=>by simp)))⟩,K9⟩
