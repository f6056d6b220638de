/-
  The walk of entry.Decode (layer 11). Conditions: none.
-/
import Derived.Test.YtagfakjifhdpgaaGreatMa06
set_option maxRecDepth 100000
set_option maxHeartbeats 16000000
set_option linter.unusedVariables false
set_option linter.unusedSimpArgs false
namespace Go.Proofs.YtagfakjifhdpgaaGreat
open Go Go.RowKit
structure DS (w0:World) (t:TypeId) (z:Array Value) (r g h:Nat) (l:List UInt8) (wr:Bool) (cs:Array Value) (W:World):Prop where
 rd:Rd W g l wr
 x:Blk W h t cs
 rv:Blk W r t z
 k:K w0 W
 o:w0.heap.size<=r/\r<g/\g<h
section
variable {w0 W W':World} {t:TypeId} {z cs:Array Value} {r g h:Nat} {l l':List UInt8} {wr wr':Bool} {row:Option Nat}
theorem DS.went (D:DS w0 t z r g h l wr cs W) (H:Went g l' wr' W W'):DS w0 t z r g h l' wr' cs W':=by
 have o:=D.o
 exact⟨H.1,D.x.went H (by omega),D.rv.went H (by omega),D.k.trans (below_of_mut H.2 (by omega) D.k.size),o⟩
theorem DS.set (D:DS w0 t z r g h l wr cs W) (i:Nat) (u:Value):DS w0 t z r g h l wr (cs.setIfInBounds i u) (W.setCell ⟨h,i,none⟩ u):=by
 have o:=D.o
 exact⟨D.rd.set (by omega) i u,D.x.set_ i u,D.rv.far (by simp;omega) u,D.k.setCell (by simp;omega) u,o⟩
theorem DS.gr (D:DS w0 t z r g h l wr cs W) (k:K W W'):DS w0 t z r g h l wr cs W' :=
 ⟨D.rd.below k D.rd.lt,D.x.below k D.x.lt,D.rv.below k D.rv.lt,D.k.tr k,D.o⟩
theorem DS.mut (D:DS w0 t z r g h l wr cs W) (m:W.grownBy W' row) (hr:∀ b,row=some b->h<b):DS w0 t z r g h l wr cs W':=by
 have o:=D.o
 have hb:Below (h+1) W W':=⟨m.os,m.tape,m.output,m.size,fun i hi=>m.block i (Nat.lt_of_lt_of_le hi D.x.lt) (by rintro rfl;have:=hr _ rfl;omega)⟩
 exact⟨D.rd.below hb (by omega),D.x.below hb (by omega),D.rv.below hb (by omega),D.k.trans (hb.mono (by omega)),o⟩
theorem UpB.went {lo:Nat} (H:Went g l' wr' W W') (hg:g<lo):UpB lo none W W':=(UpB.of_mut H.2 lo).more (Nat.le_refl _) (fun k hk _=>by simp;omega)
theorem UpB.set {lo b:Nat} (hb:b<lo) (i:Nat) (u:Value):UpB lo none W (W.setCell ⟨b,i,none⟩ u) :=
 ⟨rfl,rfl,rfl,by simp[World.setCell],fun k hk _ _=>Below.heap_setCell W ⟨b,i,none⟩ u k (by simp;omega)⟩
end
theorem OwnE.rel {w:World} {B:Nat} {v:Value} {l:List Att} (h:OwnE w B v l):∀ w',UpB B none w w'->evS.rel l [v] w':=by
 intro w' u
 refine⟨v,rfl,evt_own (base:=B) ⟨h.1,h.2.imp id ?_⟩⟩
 rintro ⟨g,cap,cur,g1,g2,g3,g4⟩
 exact⟨g,cap,cur,g1,g2,(u.block g g2 (Array.getElem?_eq_some_iff.1 g3).1 (by simp)).trans g3,g4⟩
theorem OwnF.rel {w:World} {B:Nat} {v:Value} {l:List Tst} (h:OwnF w B v l):∀ w',UpB B none w w'->flt l v w':=by
 intro w' u
 refine flt_own (base:=B) ⟨h.1,h.2.imp id ?_⟩
 rintro ⟨g,cap,cur,g1,g2,g3,g4⟩
 exact⟨g,cap,cur,g1,g2,(u.block g g2 (Array.getElem?_eq_some_iff.1 g3).1 (by simp)).trans g3,g4⟩
abbrev zEnt:Array Value:=#[.int .i64 0,.int .i64 0,.int .u64 0,.int .u64 0,.int .i64 0,.int .u64 0,.slice none 0 0,.slice none 0 0]
theorem infoEv:(Tryz.prog.info? 45).map (fun i=>(i.zero,i.size,i.bytes))=some (some (.slice none 0 0),1,24):=by kernel_rfl
theorem TEv:SliceT Tryz.prog 38 45 (.slice none 0 0) 1 24:=⟨Tryz.underlying38,infoEv,rfl,by decide⟩
theorem RBytes_sl (g:Nat) (l:List UInt8) (wr:Bool) (most:Int) (w:World) (h:Rd w g l wr) (hl:l.length<=1000000000) (hm0:-9223372036854775808<=most) (hm1:most<=9223372036854775807) :
 Calls Tryz.prog 206 #[.pointer (some ⟨g,0,none⟩),.int .i64 most] w fun e w'=>∃ v,e=.returned v/\sl (rdB most l wr).1 v w'/\Went g (rdB most l wr).2.1 (rdB most l wr).2.2 w w' :=
 (RBytes_calls g l wr most w h hl hm0 hm1).mono fun _ _ ⟨v,e,ho,hw⟩=>⟨v,e,sl_own ho,hw⟩
theorem rdEv_none {n:Int} {l:List UInt8} {wr:Bool} (h:decE (rdB n l wr).1=none):(rdEv n l wr).2.2=true:=by
 simp only[rdEv,h]
theorem rdEv_some {n:Int} {l:List UInt8} {wr:Bool} {e:List Att} (h:decE (rdB n l wr).1=some e):rdEv n l wr=(e,(rdB n l wr).2):=by
 simp only[rdEv,h]
theorem rdFi_none {n:Int} {l:List UInt8} {wr:Bool} (h:decF8 (rdB n l wr).1=none):(rdFi n l wr).2.2=true:=by
 simp only[rdFi,h]
theorem rdFi_some {n:Int} {l:List UInt8} {wr:Bool} {e:List Tst} (h:decF8 (rdB n l wr).1=some e):rdFi n l wr=(e,(rdB n l wr).2):=by
 simp only[rdFi,h]
theorem decE_none {b:List UInt8} (h:decE b=none):decC b=40/\decL b=[]:=by simp[decC,decL,h]
theorem decE_some {b:List UInt8} {l:List Att} (h:decE b=some l):decC b=0/\decL b=l:=by simp[decC,decL,h]
theorem decF_none' {b:List UInt8} (h:decF8 b=none):decFC b=50/\decFL b=[]:=by simp[decFC,decFL,h]
theorem decF_some' {b:List UInt8} {l:List Tst} (h:decF8 b=some l):decFC b=0/\decFL b=l:=by simp[decFC,decFL,h]
theorem decEn_parts (b:List UInt8) (k br li se cl su:Nat) (l:List UInt8) (wr:Bool) (h:rd6 b false=((k,br,li,se,cl,su),l,wr)) :
 (min k 4=1->∀ m l1 w1,rdN l wr=(m,l1,w1)->decEn b=if !(rdL (rdEv b.length) (min m 9) l1 w1).2.2&&(rdL (rdEv b.length) (min m 9) l1 w1).2.1.isEmpty&&okEn { hdEn (k,br,li,se,cl,su) with es:=(rdL (rdEv b.length) (min m 9) l1 w1).1 } then some { hdEn (k,br,li,se,cl,su) with es:=(rdL (rdEv b.length) (min m 9) l1 w1).1 } else none) /\
 (min k 4=2->decEn b=if !(rdFi b.length l wr).2.2&&(rdFi b.length l wr).2.1.isEmpty&&okEn { hdEn (k,br,li,se,cl,su) with f:=(rdFi b.length l wr).1 } then some { hdEn (k,br,li,se,cl,su) with f:=(rdFi b.length l wr).1 } else none) /\
 (min k 4≠1->min k 4≠2->decEn b=if !wr&&l.isEmpty&&okEn (hdEn (k,br,li,se,cl,su)) then some (hdEn (k,br,li,se,cl,su)) else none):=by
 refine⟨fun h1 m l1 w1 hn=>?_,fun h2=>?_,fun h1 h2=>?_⟩
 · unfold decEn rdEn
   rw[h]
   simp only[h1,hn,if_true]
 · unfold decEn rdEn
   rw[h]
   simp only[h2,if_true,show ¬ ((2:Nat)=1) by decide,if_false]
 · unfold decEn rdEn
   rw[h]
   simp only[h1,h2,if_false]
theorem decEn_none {b:List UInt8} (h:decEn b=none):decEnC b=110/\decEnX b=ent0:=by simp[decEnC,decEnX,h]
theorem decEn_some {b:List UInt8} {x:Ent} (h:decEn b=some x):decEnC b=0/\decEnX b=x:=by simp[decEnC,decEnX,h]
theorem NDecode_calls (b:List UInt8) (v:Value) (w:World) (h:sl b v w) (hn:b.length<=1000000000) :
 Calls Tryz.prog 205 #[v] w fun e w' =>
  ∃ v',e=.returned (.tuple #[v',.int .i64 (decEnC b)])/\(∀ W,UpB w.heap.size none w' W->ent (decEnX b) v' W)/\K w w':=by
 obtain⟨A,c,rfl,hR⟩:=h
 have hr0:=Blk.new w 42 zEnt
 have k0:K w (w.alloc (.cells zEnt 42)):=(K.rf w).al _
 have hR0:=(hR.below k0 (Nat.le_refl _)).more k0.size
 obtain⟨k,l1,e1,hA1⟩:∃ k l1 e1,rdN b false=(k,l1,e1):=⟨_,_,_,rfl⟩
 obtain⟨br,l2,e2,hA2⟩:∃ k l2 e2,rdN l1 e1=(k,l2,e2):=⟨_,_,_,rfl⟩
 obtain⟨li,l3,e3,hA3⟩:∃ k l3 e3,rdN l2 e2=(k,l3,e3):=⟨_,_,_,rfl⟩
 obtain⟨se,l4,e4,hA4⟩:∃ k l4 e4,rdN l3 e3=(k,l4,e4):=⟨_,_,_,rfl⟩
 obtain⟨cl,l5,e5,hA5⟩:∃ k l5 e5,rdN l4 e4=(k,l5,e5):=⟨_,_,_,rfl⟩
 obtain⟨su,l6,e6,hA6⟩:∃ k l6 e6,rdN l5 e5=(k,l6,e6):=⟨_,_,_,rfl⟩
 have HP:=decEn_parts b k br li se cl su l6 e6 (by simp only[rd6,hA1,hA2,hA3,hA4,hA5,hA6])
 have hl6:l6.length<=b.length:=by
  have g1:=rdN_len b false
  have g2:=rdN_len l1 e1
  have g3:=rdN_len l2 e2
  have g4:=rdN_len l3 e3
  have g5:=rdN_len l4 e4
  have g6:=rdN_len l5 e5
  rw[hA1] at g1;rw[hA2] at g2;rw[hA3] at g3;rw[hA4] at g4;rw[hA5] at g5;rw[hA6] at g6
  simp only at g1 g2 g3 g4 g5 g6
  omega
 have C1:=fun g W h=>Small_calls g b false 4 W h (by omega)
 have C2:=fun g W h=>ReadID_calls g l1 e1 W h
 have C3:=fun g W h=>Small_calls g l4 e4 32 W h (by omega)
 have C4:=fun g W h=>RNumber_calls g l5 e5 W h
 simp only[rdId,hA1,hA2,hA3,hA4,hA5,hA6] at C1 C2 C3 C4
 clear hA1 hA2 hA3 hA4 hA5 hA6
 replace HP:=Lib.hid HP
 replace C1:=Lib.hid C1
 replace C2:=Lib.hid C2
 replace C3:=Lib.hid C3
 replace C4:=Lib.hid C4
 have hk4:min k 4<=4:=by omega
 have hk16:min br 16<=16:=by omega
 have hk32:min cl 32<=32:=by omega
 generalize hkk:min k 4=kk at *
 generalize hbb:min br 16=bb at *
 generalize hcc:min cl 32=cc at *
 have HX:Hid (hdEn (k,br,li,se,cl,su)=⟨kk,bb,li,se,cc,su,[],[]⟩):=Lib.hid (by simp only[hdEn,hkk,hbb,hcc])
 clear hkk hbb hcc
 generalize hdEn (k,br,li,se,cl,su)=X0 at *
 go_enter Tryz.func205,Tryz.ntmps205
 go_wp2_with fail
 generalize w.alloc _=w1 at *
 refine (New_calls A _ c b w1 _ hR0 (Nat.le_refl _) hn).mono ?_
 rintro e w2 ⟨g,rfl,hg,hn2,k2⟩
 have hr2:=hr0.below k2 hr0.lt
 have hrg:w.heap.size<g:=Nat.lt_of_lt_of_le hr0.lt hg
 replace k0:=k0.tr k2
 have hgl:=hn2.lt
 clear hR hR0 hg k2 hr0
 go_wp2_with fail
 refine (C1.out g w2 hn2).mono ?_
 rintro e w3 ⟨rfl,hw3⟩
 have hr3:=hr2.went hw3 (by omega)
 have k3:K w w3:=k0.trans (below_of_mut hw3.2 (by omega) k0.size)
 have hn3:=hw3.1
 have hgl3:=hn3.lt
 clear hn2 hr2 hw3 k0 hgl
 go_wp2_with fail
 have D:DS w 42 zEnt w.heap.size g w3.heap.size l1 e1 #[.int .i64 (kk:Int),.int .i64 0,.int .u64 0,.int .u64 0,.int .i64 0,.int .u64 0,.slice none 0 0,.slice none 0 0]
  (w3.alloc (.cells #[.int .i64 (kk:Int),.int .i64 0,.int .u64 0,.int .u64 0,.int .i64 0,.int .u64 0,.slice none 0 0,.slice none 0 0] 42)) :=
  ⟨hn3.al _,Blk.new _ _ _,hr3.alloc _,k3.al _,Nat.le_refl _,hrg,hgl3⟩
 clear hn3 hr3 k3 hgl3 hrg
 generalize w3.alloc _=w4 at *
 generalize w3.heap.size=h at *
 refine (C2.out g w4 D.rd).mono ?_
 rintro e w5 ⟨rfl,hw5⟩
 replace D:=D.went hw5
 clear hw5
 have q:=D.x.cell
 have z:=D.x.frozen
 go_upto_region 4 with (fail)
 replace D:DS w 42 zEnt w.heap.size g h l4 e4 #[.int .i64 (kk:Int),.int .i64 (bb:Int),.int .u64 (li:Int),.int .u64 (se:Int),.int .i64 0,.int .u64 0,.slice none 0 0,.slice none 0 0] (((w5.setCell ⟨h,1,none⟩ (.int .i64 (bb:Int))).setCell ⟨h,2,none⟩ (.int .u64 (li:Int))).setCell ⟨h,3,none⟩ (.int .u64 (se:Int))):=((((((D).set 1 (.int .i64 (bb:Int)))).set 2 (.int .u64 (li:Int)))).set 3 (.int .u64 (se:Int)))
 clear q z
 generalize (((w5.setCell _ _).setCell _ _).setCell _ _)=w6 at *
 go_wp2_with fail
 refine (C3.out g w6 D.rd).mono ?_
 rintro e w7 ⟨rfl,hw7⟩
 replace D:=D.went hw7
 clear hw7
 have q:=D.x.cell
 have z:=D.x.frozen
 go_upto_region 5 with (fail)
 replace D:DS w 42 zEnt w.heap.size g h l5 e5 #[.int .i64 (kk:Int),.int .i64 (bb:Int),.int .u64 (li:Int),.int .u64 (se:Int),.int .i64 (cc:Int),.int .u64 0,.slice none 0 0,.slice none 0 0] (w7.setCell ⟨h,4,none⟩ (.int .i64 (cc:Int))):=((D).set 4 (.int .i64 (cc:Int)))
 clear q z
 generalize w7.setCell _ _=w8 at *
 go_wp2_with fail
 refine (C4.out g w8 D.rd).mono ?_
 rintro e w9 ⟨rfl,hw9⟩
 replace D:=D.went hw9
 clear hw9
 have q:=D.x.cell
 have z:=D.x.frozen
 go_upto_region 6 with (fail)
 replace D:DS w 42 zEnt w.heap.size g h l6 e6 #[.int .i64 (kk:Int),.int .i64 (bb:Int),.int .u64 (li:Int),.int .u64 (se:Int),.int .i64 (cc:Int),.int .u64 (su:Int),.slice none 0 0,.slice none 0 0] (w9.setCell ⟨h,5,none⟩ (.int .u64 (su:Int))):=((D).set 5 (.int .u64 (su:Int)))
 clear q z C1 C2 C3 C4
 generalize w9.setCell _ _=wa at *
 have hgh:=D.o
 have hha:=D.x.lt
 have HM:=Lib.hid (fun (l:List UInt8) wr=>rdB_most (b.length:Int) l wr)
 have hb63:((b.length:Nat):Int)<=9223372036854775807:=by omega
 by_cases hk1:kk=1
 · subst hk1
   replace D:DS w 42 zEnt w.heap.size g h l6 e6 #[.int .i64 (1:Int),.int .i64 (bb:Int),.int .u64 (li:Int),.int .u64 (se:Int),.int .i64 (cc:Int),.int .u64 (su:Int),.slice none 0 0,.slice none 0 0] wa:=D
   obtain⟨m,l7,e7,hA7⟩:∃ k la ea,rdN l6 e6=(k,la,ea):=⟨_,_,_,rfl⟩
   rw[show ((1:Nat):Int)=1 from rfl] at HX
   have HD1:=Lib.hid (HP.out.1 rfl m l7 e7 hA7)
   rw[HX.out] at HD1
   have hl7:l7.length<=b.length:=by
    have:=rdN_len l6 e6
    rw[hA7] at this
    simp only at this
    omega
   have C7:=fun g W h=>Small_calls g l6 e6 9 W h (by omega)
   simp only[hA7] at C7
   clear hA7 HP HX
   have hm9:min m 9<=9:=by omega
   generalize min m 9=M at *
   have q:=D.x.cell
   go_wp2_with fail
   clear q
   refine (C7 g wa D.rd).mono ?_
   rintro e wb ⟨rfl,hwb⟩
   replace D:=D.went hwb
   clear hwb C7
   have HQ:=Lib.hid (fun k l wr=>rdL_len (rdEv_codec (b.length:Int)) k l wr)
   have HBad:=Lib.hid (fun k (hk:k<=M) (hb:(rdL (rdEv (b.length:Int)) k l7 e7).2.2=true)=>show decEnC b=110/\decEnX b=ent0 from decEn_none (by
    have:=rdL_bad (rdEv_codec (b.length:Int)) hb (M - k)
    rw[show k+(M - k)=M by omega] at this
    rw[HD1.out,this];rfl))
   go_wp2_with fail
   go_loopw [6,7,30] (fun _ _ i W=>∃ j:Nat,j<=M/\i=.int .i64 (j:Int)/\∃ es ve lj ej,Hid (rdL (rdEv (b.length:Int)) j l7 e7=(es,lj,ej)) /\
    DS w 42 zEnt w.heap.size g h lj ej #[.int .i64 (1:Int),.int .i64 (bb:Int),.int .u64 (li:Int),.int .u64 (se:Int),.int .i64 (cc:Int),.int .u64 (su:Int),.slice none 0 0,ve] W /\
    OwnL (h+1) (h+1) 45 evS es ve W) (fun _ _ i _=>M - (intOf i).toNat)
   case atStart=>exact⟨0,by omega,rfl,[],_,l7,e7,Lib.hid rfl,D,OwnL.nil _ _ _ _ _⟩
   case round =>
    clear D
    obtain⟨j,hj,rfl,es,ve,lj,ej,HJ,D,hO⟩:=hrel
    have hlq:=HQ.out j l7 e7
    rw[HJ.out] at hlq
    simp only at hlq
    obtain⟨hlq1,hlq2⟩:=hlq
    have HQ2:=Lib.hid hlq2
    have hes8:es.length<=9:=by omega
    clear hlq2
    by_cases hlt:j<M
    · have hji:(j:Int)<(M:Int):=by omega
      have hgr:=D.x.lt
      go_wp2_with fail
      refine (RBytes_sl g lj ej (b.length:Int) wr D.rd (by omega) (by omega) hb63).mono ?_
      rintro e wc ⟨vb,rfl,hsb,hwc⟩
      replace D:=D.went hwc
      replace hO:=hO.up (Nat.le_refl _) (UpB.went hwc (by have:=D.o;omega))
      have hlb:=HM.out lj ej
      have hlb2:=rdB_len (b.length:Int) lj ej
      have hE1:=Lib.hid (@rdEv_none (b.length:Int) lj ej)
      have hE2:=Lib.hid (fun e h=>@rdEv_some (b.length:Int) lj ej e h)
      have HJ1:Hid (rdL (rdEv (b.length:Int)) (j+1) l7 e7=(es++[(rdEv (b.length:Int) lj ej).1],(rdEv (b.length:Int) lj ej).2)):=Lib.hid (by
       have:=HJ.out
       rw[rdL,this])
      clear hwc
      generalize rdB (b.length:Int) lj ej=B at *
      obtain⟨bs,lk,ek⟩:=B
      simp only at hsb D hO hlb hlb2 hE1 hE2
      go_wp2_with fail
      refine (Decode_sl hsb (by omega)).mono ?_
      rintro e wd ⟨v9,rfl,ho9,k9⟩
      have hgc:=D.x.lt
      have hvc:=hO.blk
      replace D:=D.gr k9
      replace hO:=hO.st k9
      clear hsb
      cases hde:decE bs with
      | none =>
        have hd2:=decE_none hde
        have HN:=Lib.hid (HBad.out (j+1) (by omega) (by rw[HJ1.out];exact hE1.out hde))
        rw[hd2.1]
        clear hde hd2 ho9
        have q:=D.rv.cell
        have z:=D.rv.frozen
        go_wp2
        have hr9:=(((((((D.rv.set_ 0 (.int .i64 0)).set_ 1 (.int .i64 0)).set_ 2 (.int .u64 0)).set_ 3 (.int .u64 0)).set_ 4 (.int .i64 0)).set_ 5 (.int .u64 0)).set_ 6 (.slice none 0 0)).set_ 7 (.slice none 0 0)
        have e9:=hr9.cell
        refine bodyPost_ret (v:=.tuple #[.agg zEnt,.int .i64 110]) (by simp[results,Tryz.results205,go_sem,e9]) rfl ?_
        refine⟨.agg zEnt,by rw[HN.out.1],by rw[HN.out.2];exact fun _ _=>ent_zero _,?_⟩
        exact (((((((D.k.setCell (by simp) _).setCell (by simp) _).setCell (by simp) _).setCell (by simp) _).setCell (by simp) _).setCell (by simp) _).setCell (by simp) _).setCell (by simp) _
      | some ev =>
        have hd2:=decE_some hde
        rw[hd2.1]
        rw[hd2.2] at ho9
        have HJ2:Hid (rdL (rdEv (b.length:Int)) (j+1) l7 e7=(es++[ev],lk,ek)):=Lib.hid (by rw[HJ1.out,hE2.out _ hde])
        clear hde hd2 HJ1 hE1 hE2 HJ
        have HEv:=Lib.hid ho9.rel
        obtain⟨A9,c9,rfl⟩:=evt_slice (evt_own ho9)
        clear ho9
        obtain⟨css,hown,hcl,hEa⟩:=hO
        have hcz:wc.heap.size<=wd.heap.size:=k9.size
        have q:=D.x.cell
        have kA:K wd (wd.alloc (.cells #[.slice A9 ev.length c9] 45)):=(K.rf wd).al _
        have hbase:h+1<=(wd.alloc (.cells #[.slice A9 ev.length c9] 45)).heap.size:=by have:=kA.size;have:=D.x.lt;omega
        go_wp2_with (at_builtin;refine wpList_app rfl _ _ 38 rfl (h+1) 45 _ 1 24 TEv _ _ _ rfl (World.ownsRow.alloc hown _) (wd.heap.size+1) _ 1 1 [.slice A9 ev.length c9] rfl ?c1 ?c2 ?c3 hbase ?_)
        case c1=>exact Reads.new wd [.slice A9 ev.length c9] 45 1 1 rfl
        case c2=>intro u hu;simp at hu;subst hu;rfl
        case c3=>omega
        intro v9 w9 hown9 hg9 hat9 _
        have DA:=D.gr kA
        replace DA:=DA.mut hg9 (fun b0 hb0=>(hvc b0 hb0).1)
        have hO9:OwnL (h+1) (h+1) 45 evS (es++[ev]) v9 w9:=OwnL.snoc hcl (fun w' u=>hEa w' (UpB.tr (UpB.of_k kA _ _) u)) hown9 hg9 (by rw[World.size_alloc];exact hat9)
         (fun w' u=>HEv.out w' ((UpB.tr (UpB.of_k kA _ _) u).more (by omega) (fun k hk _ e=>by have:=(hvc k e.symm).2;omega)))
        clear hown9 hg9 hat9 hown hEa D q
        obtain⟨A10,c10,rfl,-⟩:=hO9.slice
        have q:=DA.x.cell
        have z:=DA.x.frozen
        go_upto_region 14 with (fail)
        have hsz:(es++[ev]).length=es.length+1:=by simp
        rw[hsz] at hO9
        clear hsz q z
        replace DA:DS w 42 zEnt w.heap.size g h lk ek #[.int .i64 (1:Int),.int .i64 (bb:Int),.int .u64 (li:Int),.int .u64 (se:Int),.int .i64 (cc:Int),.int .u64 (su:Int),.slice none 0 0,.slice A10 (es.length+1) c10] (w9.setCell ⟨h,7,none⟩ (.slice A10 (es.length+1) c10)):=DA.set 7 (.slice A10 (es.length+1) c10)
        replace hO9:=hO9.up (w':=w9.setCell ⟨h,7,none⟩ (.slice A10 (es.length+1) c10)) (Nat.le_refl _) (UpB.set (by omega) 7 _)
        generalize w9.setCell _ _=wt at *
        go_wp2
        go_roundw
        case rel=>exact⟨j+1,by omega,by go_num,es++[ev],_,lk,ek,HJ2,DA,hO9⟩
        case measure=>simp[intOf];omega
    · have hji:¬ (j:Int)<(M:Int):=by omega
      obtain rfl:j=M:=by omega
      have HD:=HD1.out
      rw[HJ.out] at HD
      simp only at HD
      replace HD:=Lib.hid HD
      obtain⟨A10,c10,rfl,-⟩:=hO.slice
      have HF:∀ W',UpB (h+1) none wr W'->flt [] (.slice none 0 0) W':=fun _ _=>⟨none,0,rfl,Reads.nil _ _ _ _⟩
      have HE:∀ W',UpB (h+1) none wr W'->lst evS es (.slice A10 es.length c10) W':=fun W' u=>(hO.up (Nat.le_refl _) u).lst
      clear HBad HD1 HJ HQ HQ2 hO
      have HFS:=flt_slice (HF _ (UpB.rf _ _ _))
      have HES:=lst_slice (HE _ (UpB.rf _ _ _))
      have U:=UpB.rf (h+1) none wr
      have HFE:Hid ((∀ W',UpB (h+1) none wr W'->flt (Ent.f (⟨(1:Int),bb,li,se,cc,su,[],es⟩:Ent)) (.slice none 0 0) W')/\∀ W',UpB (h+1) none wr W'->lst evS (Ent.es (⟨(1:Int),bb,li,se,cc,su,[],es⟩:Ent)) (.slice A10 es.length c10) W'):=Lib.hid ⟨HF,HE⟩
      clear HF HE
      go_wp2_with fail
      refine (Done_calls g _ _ _ D.rd).mono ?_
      rintro e w' ⟨rfl,rfl⟩
      have HB:Hid ((!ej&&lj.isEmpty&&okEn (⟨(1:Int),bb,li,se,cc,su,[],es⟩:Ent))=false->decEnC b=110/\decEnX b=ent0):=Lib.hid fun h=>decEn_none (by rw[HD.out,h];rfl)
      have HG:Hid ((!ej&&lj.isEmpty&&okEn (⟨(1:Int),bb,li,se,cc,su,[],es⟩:Ent))=true->decEnC b=0/\decEnX b=(⟨(1:Int),bb,li,se,cc,su,[],es⟩:Ent)):=Lib.hid fun h=>decEn_some (by rw[HD.out,h];rfl)
      clear HD
      cases hd:(!ej&&lj.isEmpty)
      · have HN:=Lib.hid (HB.out (by rw[hd];rfl))
        have q:=D.rv.cell
        have z:=D.rv.frozen
        go_wp2
        have hr9:=(((((((D.rv.set_ 0 (.int .i64 0)).set_ 1 (.int .i64 0)).set_ 2 (.int .u64 0)).set_ 3 (.int .u64 0)).set_ 4 (.int .i64 0)).set_ 5 (.int .u64 0)).set_ 6 (.slice none 0 0)).set_ 7 (.slice none 0 0)
        have e9:=hr9.cell
        refine bodyPost_ret (v:=.tuple #[.agg zEnt,.int .i64 110]) (by simp[results,Tryz.results205,go_sem,e9]) rfl ?_
        refine⟨.agg zEnt,by rw[HN.out.1],by rw[HN.out.2];exact fun _ _=>ent_zero _,?_⟩
        exact (((((((D.k.setCell (by simp) _).setCell (by simp) _).setCell (by simp) _).setCell (by simp) _).setCell (by simp) _).setCell (by simp) _).setCell (by simp) _).setCell (by simp) _
      have q:=D.x.cell
      go_wp2_with fail
      refine (NCheck_calls (⟨(1:Int),bb,li,se,cc,su,[],es⟩:Ent) _ _ ⟨_,_,rfl,HFE.out.1 _ U,HFE.out.2 _ U⟩).mono ?_
      rintro e wz ⟨rfl,kz⟩
      replace D:=D.gr kz
      replace U:=U.tr (UpB.of_k kz _ _)
      cases hok:okEn (⟨(1:Int),bb,li,se,cc,su,[],es⟩:Ent)
      · have HN:=Lib.hid (HB.out (by rw[hd,hok];rfl))
        have hne:(chkEn (⟨(1:Int),bb,li,se,cc,su,[],es⟩:Ent) != 0)=true:=by rw[chkEn_bad hok];rfl
        clear q
        have q:=D.rv.cell
        have z:=D.rv.frozen
        go_wp2
        have hr9:=(((((((D.rv.set_ 0 (.int .i64 0)).set_ 1 (.int .i64 0)).set_ 2 (.int .u64 0)).set_ 3 (.int .u64 0)).set_ 4 (.int .i64 0)).set_ 5 (.int .u64 0)).set_ 6 (.slice none 0 0)).set_ 7 (.slice none 0 0)
        have e9:=hr9.cell
        refine bodyPost_ret (v:=.tuple #[.agg zEnt,.int .i64 110]) (by simp[results,Tryz.results205,go_sem,e9]) rfl ?_
        refine⟨.agg zEnt,by rw[HN.out.1],by rw[HN.out.2];exact fun _ _=>ent_zero _,?_⟩
        exact (((((((D.k.setCell (by simp) _).setCell (by simp) _).setCell (by simp) _).setCell (by simp) _).setCell (by simp) _).setCell (by simp) _).setCell (by simp) _).setCell (by simp) _
      have HN:=Lib.hid (HG.out (by rw[hd,hok];rfl))
      have hne:(chkEn (⟨(1:Int),bb,li,se,cc,su,[],es⟩:Ent) != 0)=false:=by rw[chkEn_good hok];rfl
      clear q
      have q:=D.rv.cell
      have z:=D.rv.frozen
      have q2:=D.x.cell
      go_wp2
      have hr9:=((((((((D.rv.set_ 0 (.int .i64 (1:Int))).set_ 1 (.int .i64 (bb:Int))).set_ 2 (.int .u64 (li:Int))).set_ 3 (.int .u64 (se:Int))).set_ 4 (.int .i64 (cc:Int))).set_ 5 (.int .u64 (su:Int))).set_ 6 (.slice none 0 0)).set_ 7 (.slice A10 es.length c10))
      have hgo:=D.o
      have U9:=((((((((U.tr (UpB.set (b:=w.heap.size) (by omega) 0 (.int .i64 (1:Int)))).tr (UpB.set (b:=w.heap.size) (by omega) 1 (.int .i64 (bb:Int)))).tr (UpB.set (b:=w.heap.size) (by omega) 2 (.int .u64 (li:Int)))).tr (UpB.set (b:=w.heap.size) (by omega) 3 (.int .u64 (se:Int)))).tr (UpB.set (b:=w.heap.size) (by omega) 4 (.int .i64 (cc:Int)))).tr (UpB.set (b:=w.heap.size) (by omega) 5 (.int .u64 (su:Int)))).tr (UpB.set (b:=w.heap.size) (by omega) 6 (.slice none 0 0))).tr (UpB.set (b:=w.heap.size) (by omega) 7 (.slice A10 es.length c10)))
      have K9:K w ((((((((wz.setCell ⟨w.heap.size,0,none⟩ (.int .i64 (1:Int))).setCell ⟨w.heap.size,1,none⟩ (.int .i64 (bb:Int))).setCell ⟨w.heap.size,2,none⟩ (.int .u64 (li:Int))).setCell ⟨w.heap.size,3,none⟩ (.int .u64 (se:Int))).setCell ⟨w.heap.size,4,none⟩ (.int .i64 (cc:Int))).setCell ⟨w.heap.size,5,none⟩ (.int .u64 (su:Int))).setCell ⟨w.heap.size,6,none⟩ (.slice none 0 0)).setCell ⟨w.heap.size,7,none⟩ (.slice A10 es.length c10)):=(((((((D.k.setCell (by simp) _).setCell (by simp) _).setCell (by simp) _).setCell (by simp) _).setCell (by simp) _).setCell (by simp) _).setCell (by simp) _).setCell (by simp) _
      clear q q2 z
      generalize (World.setCell (World.setCell (World.setCell (World.setCell (World.setCell (World.setCell (World.setCell (World.setCell wz _ _) _ _) _ _) _ _) _ _) _ _) _ _) _ _)=W9 at *
      have e9:=hr9.cell
      refine bodyPost_ret (v:=.tuple #[.agg #[.int .i64 (1:Int),.int .i64 (bb:Int),.int .u64 (li:Int),.int .u64 (se:Int),.int .i64 (cc:Int),.int .u64 (su:Int),.slice none 0 0,.slice A10 es.length c10],.int .i64 0]) (by simp[results,Tryz.results205,go_sem,e9]) rfl ?_
      exact⟨_,by rw[HN.out.1],by rw[HN.out.2];exact fun W' u'=>⟨_,_,rfl,HFE.out.1 _ (U9.tr (u'.more (by omega) (fun _ _ _=>by simp))),HFE.out.2 _ (U9.tr (u'.more (by omega) (fun _ _ _=>by simp)))⟩,K9⟩
 by_cases hk2:kk=2
 · subst hk2
   replace D:DS w 42 zEnt w.heap.size g h l6 e6 #[.int .i64 (2:Int),.int .i64 (bb:Int),.int .u64 (li:Int),.int .u64 (se:Int),.int .i64 (cc:Int),.int .u64 (su:Int),.slice none 0 0,.slice none 0 0] wa:=D
   rw[show ((2:Nat):Int)=2 from rfl] at HX
   have HD1:=Lib.hid (HP.out.2.1 rfl)
   rw[HX.out] at HD1
   clear HP HX
   have q:=D.x.cell
   go_wp2_with fail
   clear q
   refine (RBytes_sl g l6 e6 (b.length:Int) wa D.rd (by omega) (by omega) hb63).mono ?_
   rintro e wc ⟨vb,rfl,hsb,hwc⟩
   replace D:=D.went hwc
   have hlb:=HM.out l6 e6
   have hE1:=Lib.hid (@rdFi_none (b.length:Int) l6 e6)
   have hE2:=Lib.hid (fun e h=>@rdFi_some (b.length:Int) l6 e6 e h)
   clear hwc
   generalize rdB (b.length:Int) l6 e6=B at *
   obtain⟨bs,lk,ek⟩:=B
   simp only at hsb D hlb hE1 hE2
   have hgc:=D.x.lt
   go_wp2_with fail
   refine (FDecode_sl hsb (by omega)).mono ?_
   rintro e wd ⟨v9,rfl,ho9,k9⟩
   replace D:=D.gr k9
   clear hsb
   cases hde:decF8 bs with
   | none =>
     have hd2:=decF_none' hde
     have HN:=Lib.hid (show decEnC b=110/\decEnX b=ent0 from decEn_none (by rw[HD1.out,hE1.out hde];rfl))
     rw[hd2.1]
     clear hde hd2 ho9
     have q:=D.rv.cell
     have z:=D.rv.frozen
     go_wp2
     have hr9:=(((((((D.rv.set_ 0 (.int .i64 0)).set_ 1 (.int .i64 0)).set_ 2 (.int .u64 0)).set_ 3 (.int .u64 0)).set_ 4 (.int .i64 0)).set_ 5 (.int .u64 0)).set_ 6 (.slice none 0 0)).set_ 7 (.slice none 0 0)
     have e9:=hr9.cell
     refine bodyPost_ret (v:=.tuple #[.agg zEnt,.int .i64 110]) (by simp[results,Tryz.results205,go_sem,e9]) rfl ?_
     refine⟨.agg zEnt,by rw[HN.out.1],by rw[HN.out.2];exact fun _ _=>ent_zero _,?_⟩
     exact (((((((D.k.setCell (by simp) _).setCell (by simp) _).setCell (by simp) _).setCell (by simp) _).setCell (by simp) _).setCell (by simp) _).setCell (by simp) _).setCell (by simp) _
   | some fl =>
     have hd2:=decF_some' hde
     rw[hd2.1]
     rw[hd2.2] at ho9
     have HD:=HD1.out
     rw[hE2.out _ hde] at HD
     simp only at HD
     replace HD:=Lib.hid HD
     clear hde hd2 hE1 hE2 HD1
     have HFl:=Lib.hid ho9.rel
     obtain⟨A9,c9,rfl⟩:=flt_slice (flt_own ho9)
     clear ho9
     have q:=D.x.cell
     have z:=D.x.frozen
     go_upto_region 20 with (fail)
     replace D:DS w 42 zEnt w.heap.size g h lk ek #[.int .i64 (2:Int),.int .i64 (bb:Int),.int .u64 (li:Int),.int .u64 (se:Int),.int .i64 (cc:Int),.int .u64 (su:Int),.slice A9 fl.length c9,.slice none 0 0] (wd.setCell ⟨h,6,none⟩ (.slice A9 fl.length c9)):=((D).set 6 (.slice A9 fl.length c9))
     have HF:∀ W',UpB (h+1) none (wd.setCell ⟨h,6,none⟩ (.slice A9 fl.length c9)) W'->flt fl (.slice A9 fl.length c9) W':=fun W' u =>
      HFl.out W' ((UpB.tr (UpB.set (by omega) 6 _) u).more (by omega) (fun _ _ _=>by simp))
     have HE:∀ W',UpB (h+1) none (wd.setCell ⟨h,6,none⟩ (.slice A9 fl.length c9)) W'->lst evS [] (.slice none 0 0) W':=fun _ _=>lst_nil evS _
     clear HFl q z
     generalize wd.setCell _ _=wt at *
     have HFS:=flt_slice (HF _ (UpB.rf _ _ _))
     have HES:=lst_slice (HE _ (UpB.rf _ _ _))
     have U:=UpB.rf (h+1) none wt
     have HFE:Hid ((∀ W',UpB (h+1) none wt W'->flt (Ent.f (⟨(2:Int),bb,li,se,cc,su,fl,[]⟩:Ent)) (.slice A9 fl.length c9) W')/\∀ W',UpB (h+1) none wt W'->lst evS (Ent.es (⟨(2:Int),bb,li,se,cc,su,fl,[]⟩:Ent)) (.slice none 0 0) W'):=Lib.hid ⟨HF,HE⟩
     clear HF HE
     go_wp2_with fail
     refine (Done_calls g _ _ _ D.rd).mono ?_
     rintro e w' ⟨rfl,rfl⟩
     have HB:Hid ((!ek&&lk.isEmpty&&okEn (⟨(2:Int),bb,li,se,cc,su,fl,[]⟩:Ent))=false->decEnC b=110/\decEnX b=ent0):=Lib.hid fun h=>decEn_none (by rw[HD.out,h];rfl)
     have HG:Hid ((!ek&&lk.isEmpty&&okEn (⟨(2:Int),bb,li,se,cc,su,fl,[]⟩:Ent))=true->decEnC b=0/\decEnX b=(⟨(2:Int),bb,li,se,cc,su,fl,[]⟩:Ent)):=Lib.hid fun h=>decEn_some (by rw[HD.out,h];rfl)
     clear HD
     cases hd:(!ek&&lk.isEmpty)
     · have HN:=Lib.hid (HB.out (by rw[hd];rfl))
       have q:=D.rv.cell
       have z:=D.rv.frozen
       go_wp2
       have hr9:=(((((((D.rv.set_ 0 (.int .i64 0)).set_ 1 (.int .i64 0)).set_ 2 (.int .u64 0)).set_ 3 (.int .u64 0)).set_ 4 (.int .i64 0)).set_ 5 (.int .u64 0)).set_ 6 (.slice none 0 0)).set_ 7 (.slice none 0 0)
       have e9:=hr9.cell
       refine bodyPost_ret (v:=.tuple #[.agg zEnt,.int .i64 110]) (by simp[results,Tryz.results205,go_sem,e9]) rfl ?_
       refine⟨.agg zEnt,by rw[HN.out.1],by rw[HN.out.2];exact fun _ _=>ent_zero _,?_⟩
       exact (((((((D.k.setCell (by simp) _).setCell (by simp) _).setCell (by simp) _).setCell (by simp) _).setCell (by simp) _).setCell (by simp) _).setCell (by simp) _).setCell (by simp) _
     have q:=D.x.cell
     go_wp2_with fail
     refine (NCheck_calls (⟨(2:Int),bb,li,se,cc,su,fl,[]⟩:Ent) _ _ ⟨_,_,rfl,HFE.out.1 _ U,HFE.out.2 _ U⟩).mono ?_
     rintro e wz ⟨rfl,kz⟩
     replace D:=D.gr kz
     replace U:=U.tr (UpB.of_k kz _ _)
     cases hok:okEn (⟨(2:Int),bb,li,se,cc,su,fl,[]⟩:Ent)
     · have HN:=Lib.hid (HB.out (by rw[hd,hok];rfl))
       have hne:(chkEn (⟨(2:Int),bb,li,se,cc,su,fl,[]⟩:Ent) != 0)=true:=by rw[chkEn_bad hok];rfl
       clear q
       have q:=D.rv.cell
       have z:=D.rv.frozen
       go_wp2
       have hr9:=(((((((D.rv.set_ 0 (.int .i64 0)).set_ 1 (.int .i64 0)).set_ 2 (.int .u64 0)).set_ 3 (.int .u64 0)).set_ 4 (.int .i64 0)).set_ 5 (.int .u64 0)).set_ 6 (.slice none 0 0)).set_ 7 (.slice none 0 0)
       have e9:=hr9.cell
       refine bodyPost_ret (v:=.tuple #[.agg zEnt,.int .i64 110]) (by simp[results,Tryz.results205,go_sem,e9]) rfl ?_
       refine⟨.agg zEnt,by rw[HN.out.1],by rw[HN.out.2];exact fun _ _=>ent_zero _,?_⟩
       exact (((((((D.k.setCell (by simp) _).setCell (by simp) _).setCell (by simp) _).setCell (by simp) _).setCell (by simp) _).setCell (by simp) _).setCell (by simp) _).setCell (by simp) _
     have HN:=Lib.hid (HG.out (by rw[hd,hok];rfl))
     have hne:(chkEn (⟨(2:Int),bb,li,se,cc,su,fl,[]⟩:Ent) != 0)=false:=by rw[chkEn_good hok];rfl
     clear q
     have q:=D.rv.cell
     have z:=D.rv.frozen
     have q2:=D.x.cell
     go_wp2
     have hr9:=((((((((D.rv.set_ 0 (.int .i64 (2:Int))).set_ 1 (.int .i64 (bb:Int))).set_ 2 (.int .u64 (li:Int))).set_ 3 (.int .u64 (se:Int))).set_ 4 (.int .i64 (cc:Int))).set_ 5 (.int .u64 (su:Int))).set_ 6 (.slice A9 fl.length c9)).set_ 7 (.slice none 0 0))
     have hgo:=D.o
     have U9:=((((((((U.tr (UpB.set (b:=w.heap.size) (by omega) 0 (.int .i64 (2:Int)))).tr (UpB.set (b:=w.heap.size) (by omega) 1 (.int .i64 (bb:Int)))).tr (UpB.set (b:=w.heap.size) (by omega) 2 (.int .u64 (li:Int)))).tr (UpB.set (b:=w.heap.size) (by omega) 3 (.int .u64 (se:Int)))).tr (UpB.set (b:=w.heap.size) (by omega) 4 (.int .i64 (cc:Int)))).tr (UpB.set (b:=w.heap.size) (by omega) 5 (.int .u64 (su:Int)))).tr (UpB.set (b:=w.heap.size) (by omega) 6 (.slice A9 fl.length c9))).tr (UpB.set (b:=w.heap.size) (by omega) 7 (.slice none 0 0)))
     have K9:K w ((((((((wz.setCell ⟨w.heap.size,0,none⟩ (.int .i64 (2:Int))).setCell ⟨w.heap.size,1,none⟩ (.int .i64 (bb:Int))).setCell ⟨w.heap.size,2,none⟩ (.int .u64 (li:Int))).setCell ⟨w.heap.size,3,none⟩ (.int .u64 (se:Int))).setCell ⟨w.heap.size,4,none⟩ (.int .i64 (cc:Int))).setCell ⟨w.heap.size,5,none⟩ (.int .u64 (su:Int))).setCell ⟨w.heap.size,6,none⟩ (.slice A9 fl.length c9)).setCell ⟨w.heap.size,7,none⟩ (.slice none 0 0)):=(((((((D.k.setCell (by simp) _).setCell (by simp) _).setCell (by simp) _).setCell (by simp) _).setCell (by simp) _).setCell (by simp) _).setCell (by simp) _).setCell (by simp) _
     clear q q2 z
     generalize (World.setCell (World.setCell (World.setCell (World.setCell (World.setCell (World.setCell (World.setCell (World.setCell wz _ _) _ _) _ _) _ _) _ _) _ _) _ _) _ _)=W9 at *
     have e9:=hr9.cell
     refine bodyPost_ret (v:=.tuple #[.agg #[.int .i64 (2:Int),.int .i64 (bb:Int),.int .u64 (li:Int),.int .u64 (se:Int),.int .i64 (cc:Int),.int .u64 (su:Int),.slice A9 fl.length c9,.slice none 0 0],.int .i64 0]) (by simp[results,Tryz.results205,go_sem,e9]) rfl ?_
     exact⟨_,by rw[HN.out.1],by rw[HN.out.2];exact fun W' u'=>⟨_,_,rfl,HFE.out.1 _ (U9.tr (u'.more (by omega) (fun _ _ _=>by simp))),HFE.out.2 _ (U9.tr (u'.more (by omega) (fun _ _ _=>by simp)))⟩,K9⟩
 have HD:=Lib.hid (HP.out.2.2 hk1 hk2)
 rw[HX.out] at HD
 clear HP
 have HF:∀ W',UpB (h+1) none wa W'->flt [] (.slice none 0 0) W':=fun _ _=>⟨none,0,rfl,Reads.nil _ _ _ _⟩
 have HE:∀ W',UpB (h+1) none wa W'->lst evS [] (.slice none 0 0) W':=fun _ _=>lst_nil evS _
 have g1:((kk:Int)==1)=false:=by simp;omega
 have g2:((kk:Int)==2)=false:=by simp;omega
 have q:=D.x.cell
 go_upto_region 20 with (fail)
 clear q
 have HFS:=flt_slice (HF _ (UpB.rf _ _ _))
 have HES:=lst_slice (HE _ (UpB.rf _ _ _))
 have U:=UpB.rf (h+1) none wa
 have HFE:Hid ((∀ W',UpB (h+1) none wa W'->flt (Ent.f (⟨kk,bb,li,se,cc,su,[],[]⟩:Ent)) (.slice none 0 0) W')/\∀ W',UpB (h+1) none wa W'->lst evS (Ent.es (⟨kk,bb,li,se,cc,su,[],[]⟩:Ent)) (.slice none 0 0) W'):=Lib.hid ⟨HF,HE⟩
 clear HF HE
 go_wp2_with fail
 refine (Done_calls g _ _ _ D.rd).mono ?_
 rintro e w' ⟨rfl,rfl⟩
 have HB:Hid ((!e6&&l6.isEmpty&&okEn (⟨kk,bb,li,se,cc,su,[],[]⟩:Ent))=false->decEnC b=110/\decEnX b=ent0):=Lib.hid fun h=>decEn_none (by rw[HD.out,h];rfl)
 have HG:Hid ((!e6&&l6.isEmpty&&okEn (⟨kk,bb,li,se,cc,su,[],[]⟩:Ent))=true->decEnC b=0/\decEnX b=(⟨kk,bb,li,se,cc,su,[],[]⟩:Ent)):=Lib.hid fun h=>decEn_some (by rw[HD.out,h];rfl)
 clear HD
 cases hd:(!e6&&l6.isEmpty)
 · have HN:=Lib.hid (HB.out (by rw[hd];rfl))
   have q:=D.rv.cell
   have z:=D.rv.frozen
   go_wp2
   have hr9:=(((((((D.rv.set_ 0 (.int .i64 0)).set_ 1 (.int .i64 0)).set_ 2 (.int .u64 0)).set_ 3 (.int .u64 0)).set_ 4 (.int .i64 0)).set_ 5 (.int .u64 0)).set_ 6 (.slice none 0 0)).set_ 7 (.slice none 0 0)
   have e9:=hr9.cell
   refine bodyPost_ret (v:=.tuple #[.agg zEnt,.int .i64 110]) (by simp[results,Tryz.results205,go_sem,e9]) rfl ?_
   refine⟨.agg zEnt,by rw[HN.out.1],by rw[HN.out.2];exact fun _ _=>ent_zero _,?_⟩
   exact (((((((D.k.setCell (by simp) _).setCell (by simp) _).setCell (by simp) _).setCell (by simp) _).setCell (by simp) _).setCell (by simp) _).setCell (by simp) _).setCell (by simp) _
 have q:=D.x.cell
 go_wp2_with fail
 refine (NCheck_calls (⟨kk,bb,li,se,cc,su,[],[]⟩:Ent) _ _ ⟨_,_,rfl,HFE.out.1 _ U,HFE.out.2 _ U⟩).mono ?_
 rintro e wz ⟨rfl,kz⟩
 replace D:=D.gr kz
 replace U:=U.tr (UpB.of_k kz _ _)
 cases hok:okEn (⟨kk,bb,li,se,cc,su,[],[]⟩:Ent)
 · have HN:=Lib.hid (HB.out (by rw[hd,hok];rfl))
   have hne:(chkEn (⟨kk,bb,li,se,cc,su,[],[]⟩:Ent) != 0)=true:=by rw[chkEn_bad hok];rfl
   clear q
   have q:=D.rv.cell
   have z:=D.rv.frozen
   go_wp2
   have hr9:=(((((((D.rv.set_ 0 (.int .i64 0)).set_ 1 (.int .i64 0)).set_ 2 (.int .u64 0)).set_ 3 (.int .u64 0)).set_ 4 (.int .i64 0)).set_ 5 (.int .u64 0)).set_ 6 (.slice none 0 0)).set_ 7 (.slice none 0 0)
   have e9:=hr9.cell
   refine bodyPost_ret (v:=.tuple #[.agg zEnt,.int .i64 110]) (by simp[results,Tryz.results205,go_sem,e9]) rfl ?_
   refine⟨.agg zEnt,by rw[HN.out.1],by rw[HN.out.2];exact fun _ _=>ent_zero _,?_⟩
   exact (((((((D.k.setCell (by simp) _).setCell (by simp) _).setCell (by simp) _).setCell (by simp) _).setCell (by simp) _).setCell (by simp) _).setCell (by simp) _).setCell (by simp) _
 have HN:=Lib.hid (HG.out (by rw[hd,hok];rfl))
 have hne:(chkEn (⟨kk,bb,li,se,cc,su,[],[]⟩:Ent) != 0)=false:=by rw[chkEn_good hok];rfl
 clear q
 have q:=D.rv.cell
 have z:=D.rv.frozen
 have q2:=D.x.cell
 go_wp2
 have hr9:=((((((((D.rv.set_ 0 (.int .i64 (kk:Int))).set_ 1 (.int .i64 (bb:Int))).set_ 2 (.int .u64 (li:Int))).set_ 3 (.int .u64 (se:Int))).set_ 4 (.int .i64 (cc:Int))).set_ 5 (.int .u64 (su:Int))).set_ 6 (.slice none 0 0)).set_ 7 (.slice none 0 0))
 have hgo:=D.o
 have U9:=((((((((U.tr (UpB.set (b:=w.heap.size) (by omega) 0 (.int .i64 (kk:Int)))).tr (UpB.set (b:=w.heap.size) (by omega) 1 (.int .i64 (bb:Int)))).tr (UpB.set (b:=w.heap.size) (by omega) 2 (.int .u64 (li:Int)))).tr (UpB.set (b:=w.heap.size) (by omega) 3 (.int .u64 (se:Int)))).tr (UpB.set (b:=w.heap.size) (by omega) 4 (.int .i64 (cc:Int)))).tr (UpB.set (b:=w.heap.size) (by omega) 5 (.int .u64 (su:Int)))).tr (UpB.set (b:=w.heap.size) (by omega) 6 (.slice none 0 0))).tr (UpB.set (b:=w.heap.size) (by omega) 7 (.slice none 0 0)))
 have K9:K w ((((((((wz.setCell ⟨w.heap.size,0,none⟩ (.int .i64 (kk:Int))).setCell ⟨w.heap.size,1,none⟩ (.int .i64 (bb:Int))).setCell ⟨w.heap.size,2,none⟩ (.int .u64 (li:Int))).setCell ⟨w.heap.size,3,none⟩ (.int .u64 (se:Int))).setCell ⟨w.heap.size,4,none⟩ (.int .i64 (cc:Int))).setCell ⟨w.heap.size,5,none⟩ (.int .u64 (su:Int))).setCell ⟨w.heap.size,6,none⟩ (.slice none 0 0)).setCell ⟨w.heap.size,7,none⟩ (.slice none 0 0)):=(((((((D.k.setCell (by simp) _).setCell (by simp) _).setCell (by simp) _).setCell (by simp) _).setCell (by simp) _).setCell (by simp) _).setCell (by simp) _).setCell (by simp) _
 clear q q2 z
 generalize (World.setCell (World.setCell (World.setCell (World.setCell (World.setCell (World.setCell (World.setCell (World.setCell wz _ _) _ _) _ _) _ _) _ _) _ _) _ _) _ _)=W9 at *
 have e9:=hr9.cell
 refine bodyPost_ret (v:=.tuple #[.agg #[.int .i64 (kk:Int),.int .i64 (bb:Int),.int .u64 (li:Int),.int .u64 (se:Int),.int .i64 (cc:Int),.int .u64 (su:Int),.slice none 0 0,.slice none 0 0],.int .i64 0]) (by simp[results,Tryz.results205,go_sem,e9]) rfl ?_
 exact⟨_,by rw[HN.out.1],by rw[HN.out.2];exact fun W' u'=>⟨_,_,rfl,HFE.out.1 _ (U9.tr (u'.more (by omega) (fun _ _ _=>by simp))),HFE.out.2 _ (U9.tr (u'.more (by omega) (fun _ _ _=>by simp)))⟩,K9⟩
def chkRec (x:Rec):Int:=if okRec x then 0 else 110
def encRecR (x:Rec):List UInt8:=if okRec x then encRec x else []
theorem encRec_23 {x:Rec} (h:x.kind=2∨x.kind=3):encRec x=packN (kindN x.kind)++packN x.n++packB (encEn x.e):=by unfold encRec;rw[if_pos h];simp
theorem encRec_45 {x:Rec} (h:x.kind=4∨x.kind=5):encRec x=packN (kindN x.kind)++packN x.n++encId (x.br,x.life,x.ser):=by
 unfold encRec encId;rw[if_neg (by omega),if_pos h];simp
theorem encRec_1 {x:Rec} (h:x.kind=1):encRec x=packN (kindN x.kind)++packN x.n:=by unfold encRec;rw[if_neg (by omega),if_neg (by omega)];simp
def owA (l:List UInt8) (v:Value) (w:World):Prop:=∃ B,Own w B 5 v l
theorem owA_sl {l:List UInt8} {v:Value} {w:World} (h:owA l v w):sl l v w:=sl_own h.choose_spec
theorem owA_st (l:List UInt8):∀ v w w',owA l v w->Below w.heap.size w w'->owA l v w':=by
 rintro v w w' ⟨B,h⟩ k
 exact⟨B,row_below h k⟩
theorem owA_nil (w:World):owA [] (.slice none 0 0) w:=⟨0,World.ownsRow_nil _ _ _ _⟩
theorem Pack_own (x:Rec) (v:Value) (w:World) (h:rcd x v w) (hfit:fitRec x) :
 Calls Tryz.prog 166 #[v] w fun e w' =>
  ∃ v',e=.returned (.tuple #[v',.int .i64 (chkRec x)])/\owA (encRecR x) v' w'/\K w w':=by
 have HC:=Lib.hid fun W h=>May_calls x v W h
 have h':=h
 obtain⟨vf,ve,rfl,hf,he⟩:=h
 have hx:=Blk.new w 219 (recA x vf ve)
 have k1:K w (w.alloc (.cells (recA x vf ve) 219)):=(K.rf w).al _
 have HEn:=Lib.hid (rcd_al h')
 clear h'
 obtain⟨hik,hin,hfe,hib,hil,his⟩:=hfit
 cases hok:okRec x
 · have HE:Hid (chkRec x=110):=Lib.hid (by simp[chkRec,hok])
   have HR:Hid (encRecR x=[]):=Lib.hid (by simp[encRecR,hok])
   rw[hok] at HC
   clear hok
   go_enter Tryz.func166,Tryz.ntmps166
   go_wp2_with fail
   generalize w.alloc _=w1 at *
   refine (HC.out _ (HEn.out _ k1)).mono ?_
   rintro e w2 ⟨rfl,k2⟩
   go_wp2
   go_ret2
   exact⟨_,by rw[HE.out];rfl,by rw[HR.out];exact owA_nil _,k1.tr k2⟩
 have HE:Hid (chkRec x=0):=Lib.hid (by simp[chkRec,hok])
 have HR:Hid (encRecR x=encRec x):=Lib.hid (by simp[encRecR,hok])
 have hkk:=okRec_kind hok
 rw[hok] at HC
 have H1:=Lib.hid fun h=>encRec_1 (x:=x) h
 have H2:=Lib.hid fun h=>encRec_23 (x:=x) h
 have H4:=Lib.hid fun h=>encRec_45 (x:=x) h
 clear hok
 obtain⟨k,n,x,b,l,s⟩:=x
 simp only at hx k1 hf he hik hin hfe hib hil his hkk HE HR HC HEn H1 H2 H4 ⊢
 generalize encRecR ⟨k,n,x,b,l,s⟩=R at *
 generalize encRec ⟨k,n,x,b,l,s⟩=E at *
 generalize chkRec ⟨k,n,x,b,l,s⟩=C at *
 have he0:∀ W,K w W->ent x (.agg (entA x vf ve)) W:=fun W k=>⟨vf,ve,rfl,flt_st _ _ _ _ hf k,lst_st he k⟩
 have hk5:k=1∨(k=2∨k=3)∨k=4∨k=5:=by omega
 have hoe:k=2∨k=3->okEn x=true:=by
  intro hk
  rcases hkk with h|h|h
  · omega
  · exact h.2.1
  · omega
 clear hkk
 go_enter Tryz.func166,Tryz.ntmps166
 go_wp2_with fail
 generalize w.alloc _=w1 at *
 generalize w.heap.size=g at hx ⊢
 have qx:=hx.cells
 refine (HC.out _ (HEn.out _ k1)).mono ?_
 rintro e w2 ⟨rfl,k2⟩
 clear hf he HC HEn
 go_upto_region 3 with (fail)
 have qx2:=fun W (kW:K w2 W)=>qx W (k2.tr kW)
 have p0:=packN_len (kindN k) (kindN_lt k)
 have p1:=packN_len n hin
 refine wp_region_K [isV (.pointer (some ⟨g,0,none⟩)),
  isV (.int .i64 (k)),
  isV (.int .u64 (kindN k:Nat)),
  sl (packN (kindN k)),
  isV (.pointer (some ⟨g,1,none⟩)),
  isV (.int .u64 (n:Int)),
  owA (packN (kindN k)++packN n),
  owA (packN (kindN k)++packN n)]
  [([],[]),([0],[(10,0)]),([1],[(11,1)]),([2],[(12,2)]),([],[]),([4],[(14,4)]),([3,5],[(13,3),(15,5)]),([6],[(16,6)])] 42 rfl (by kernel_rfl) (by kernel_rfl) (by kernel_rfl) ?st3 ?ow3 ?_
 case st3 =>
  simp only[List.forall_mem_cons]
  and_intros
  all_goals first|exact isV_st _|exact sl_st _|exact owA_st _|exact anyV_st|simp
 case ow3 =>
  simp only[OwedQ]
  and_intros
  all_goals try trivial
  all_goals
   intro V W kW hp
   try simp only[List.forall_mem_cons,tab_zero,tab_succ,isV] at hp
   try simp[wantsG,rhoP,List.lookup,hp,tab_zero,tab_succ,ResG,execOp,bareOp,isV,Below.refl,kW,qx2,go_sem]
  · exact u64_wrap k
  · refine (Number_sl (kindN k) (sl_nil W) (kindN_lt k) (by simp)).mono ?_
    rintro e w'' ⟨v',rfl,ho,hb⟩
    rw[List.nil_append] at ho
    exact⟨v',rfl,sl_own ho,hb⟩
  · refine (Number_sl n hp.1 hin (by omega)).mono ?_
    rintro e w'' ⟨v',rfl,ho,hb⟩
    exact⟨v',rfl,⟨_,ho⟩,hb⟩
 intro V w3 k3 hp
 have h7:=hp 7 (by simp)
 simp only[tab_zero,tab_succ] at h7
 clear hp
 simp only[putAll,Act.put,List.setIfInBounds_toArray,List.set_cons_succ,List.set_cons_zero]
 generalize V 7=v3 at *
 have h7o:=Lib.hid h7
 replace h7:=owA_sl h7
 clear qx2
 have hl3:(packN (kindN k)++packN n).length<=100:=by simp;omega
 have k03:=k1.tr (k2.tr k3)
 replace k2:=k2.tr k3
 clear k3
 generalize packN (kindN k)++packN n=b3 at *
 obtain hk1|hk23|hk45:=hk5
 · subst hk1
   have h7p:=h7o.out
   rw[<- H1.out rfl,<- HR.out] at h7p
   have h7p:=Lib.hid h7p
   clear H1 H2 H4
   go_wp2
   go_ret2
   exact⟨_,by rw[HE.out];rfl,h7p.out,k03⟩
 · have hokx:=hoe hk23
   have HRR:=Lib.hid (HR.out.trans (H2.out hk23))
   have hc1:=chkEn_good hokx
   have hc2:encEnR x=encEn x:=by simp[encEnR,hokx]
   have hne1:(chkEn x != 0)=false:=by rw[hc1];rfl
   have hlx:=encEn_len hokx hfe
   clear H1 H2 H4 HR
   go_upto_region 5 with (fail)
   rcases hk23 with rfl|rfl
   all_goals
    go_wp2_with fail
    refine (NEncode_calls x _ _ (he0 _ k03) hfe).mono ?_
    rintro e w4 ⟨v4,rfl,ho4,k4⟩
    rw[hc2] at ho4
    have h4:=sl_own ho4
    have h74:=sl_st _ _ _ _ h7 k4
    replace k03:=k03.tr k4
    clear ho4 h7
    go_wp2_with fail
    refine (Bytes_sl h74 h4 (by omega) (by omega)).mono ?_
    rintro e w5 ⟨v5,rfl,ho5,k5⟩
    rw[<- HRR.out] at ho5
    have h5:=Lib.hid (show owA R v5 w5 from ⟨_,ho5⟩)
    replace k03:=k03.tr k5
    clear h74 h4 ho5
    go_wp2
    go_ret2
    exact⟨_,by rw[HE.out];rfl,h5.out,k03⟩
 · have HRR:=Lib.hid (HR.out.trans (H4.out hk45))
   clear H1 H2 H4 HR
   go_upto_region 5 with (fail)
   rcases hk45 with rfl|rfl
   all_goals
    go_wp2_with fail
    refine (Nnumber_calls _ _ (b,l,s) _ h7 (by omega) ⟨hib,hil,his⟩).mono ?_
    rintro e w4 ⟨v4,rfl,ho4,k4⟩
    rw[<- HRR.out] at ho4
    have h4:=Lib.hid (show owA R v4 w4 from ⟨_,ho4⟩)
    replace k03:=k03.tr k4
    clear ho4 h7
    go_wp2
    go_ret2
    exact⟨_,by rw[HE.out];rfl,h4.out,k03⟩
theorem Pack_calls (x:Rec) (v:Value) (w:World) (h:rcd x v w) (hfit:fitRec x) :
 Calls Tryz.prog 166 #[v] w fun e w' =>
  ∃ v',e=.returned (.tuple #[v',.int .i64 (chkRec x)])/\sl (encRecR x) v' w'/\K w w':=by
 refine (Pack_own x v w h hfit).mono ?_
 rintro e w' ⟨v',rfl,h,k⟩
 exact⟨v',rfl,owA_sl h,k⟩
